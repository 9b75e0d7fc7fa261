/- Locks taken in rising order, given back in falling order: what is told of it, in plain words. -/
import Derived.Test.YtjnhahdelipebaaEachFlat
import Derived.Test.YtjnhahdelipebaaXAx9
namespace Go.Proofs.Ytjnhahdelipebaa.Pure
set_option linter.unusedVariables false
set_option linter.unusedSimpArgs false
open Go.RowKit Go.Proofs.Ytjnhahdelipebaa.XA Go.Proofs.Ytjnhahdelipebaa.Nest Go.Proofs.YtjnhahdelipebaaW.PrintWords Go.Proofs.YtjnhahdelipebaaW.PrintLast Go.Proofs.YtjnhahdelipebaaW.PrintMore
abbrev OpS := S52
/-- Which lock, how long. -/
def kL (l : List Int) (i : Nat) : Int := l.getD i 0 % 8
def rL (n : List Int) (i : Nat) : Int := 1 + n.getD i 0 % 9
def upL (l n : List Int) : Nat → Nat → List OpS
  | _, 0 => []
  | i, d + 1 => ⟨1, rL n i, 0, 0, []⟩ :: ⟨2, kL l i, 0, 0, []⟩ :: upL l n (i + 1) d
def dnL (l : List Int) : Nat → List OpS
  | 0 => []
  | i + 1 => ⟨3, kL l i, 0, 0, []⟩ :: dnL l i
def fullL (l n : List Int) : List OpS := upL l n 0 l.length ++ (⟨1, rL n l.length, 0, 0, []⟩ : OpS) :: dnL l l.length
def heldL (l : List Int) (i : Nat) : List Int := (List.range i).map (kL l)
def okL (l : List Int) (j : Nat) : Prop := j = 0 ∨ kL l (j - 1) < kL l j
instance (l : List Int) (j : Nat) : Decidable (okL l j) := by unfold okL; infer_instance
def rgL (l : List Int) : Nat → Bool
  | 0 => true
  | i + 1 => rgL l i && decide (okL l i)
def sumR (n : List Int) : Nat → Nat → Int
  | _, 0 => 0
  | i, d + 1 => rL n i + sumR n (i + 1) d
theorem kL_of (l : List Int) (i : Nat) : 0 ≤ kL l i ∧ kL l i < 8 := by unfold kL; omega
theorem rL_of (n : List Int) (i : Nat) : 1 ≤ rL n i ∧ rL n i ≤ 9 := by unfold rL; omega
theorem sumR_le (n : List Int) : ∀ d i, 0 ≤ sumR n i d ∧ sumR n i d ≤ 9 * d
  | 0, i => by simp [sumR]
  | d + 1, i => by
    have h1 := sumR_le n d (i + 1)
    have h2 := rL_of n i
    rw [sumR]
    omega
theorem sumR_snoc (n : List Int) : ∀ d i, sumR n i (d + 1) = sumR n i d + rL n (i + d)
  | 0, i => by simp [sumR]
  | d + 1, i => by
    rw [sumR, sumR_snoc n d (i + 1), sumR]
    rw [show i + 1 + d = i + (d + 1) by omega]
    omega
theorem upL_len (l n : List Int) : ∀ d i, (upL l n i d).length = 2 * d
  | 0, _ => rfl
  | d + 1, i => by simp only [upL, List.length_cons, upL_len l n d]; omega
theorem dnL_len (l : List Int) : ∀ i, (dnL l i).length = i
  | 0 => rfl
  | i + 1 => by simp only [dnL, List.length_cons, dnL_len l i]
theorem fullL_len (l n : List Int) : (fullL l n).length = 3 * l.length + 1 := by
  unfold fullL
  rw [List.length_append, List.length_cons, upL_len, dnL_len]
  omega
theorem upL_mem (l n : List Int) : ∀ d i, ∀ o ∈ upL l n i d, ∃ j, o = ⟨1, rL n j, 0, 0, []⟩ ∨ o = ⟨2, kL l j, 0, 0, []⟩
  | 0, _ => fun o ho => by cases ho
  | d + 1, i => fun o ho => by
    simp only [upL, List.mem_cons] at ho
    rcases ho with rfl | rfl | ho
    · exact ⟨i, .inl rfl⟩
    · exact ⟨i, .inr rfl⟩
    · exact upL_mem l n d (i + 1) o ho
theorem dnL_mem (l : List Int) : ∀ i, ∀ o ∈ dnL l i, ∃ j, o = ⟨3, kL l j, 0, 0, []⟩
  | 0 => fun o ho => by cases ho
  | i + 1 => fun o ho => by
    simp only [dnL, List.mem_cons] at ho
    rcases ho with rfl | ho
    · exact ⟨i, rfl⟩
    · exact dnL_mem l i o ho
theorem fullL_mem (l n : List Int) : ∀ o ∈ fullL l n, ∃ j, o = ⟨1, rL n j, 0, 0, []⟩ ∨ o = ⟨2, kL l j, 0, 0, []⟩ ∨ o = ⟨3, kL l j, 0, 0, []⟩ := by
  intro o ho
  simp only [fullL, List.mem_append, List.mem_cons] at ho
  rcases ho with ho | rfl | ho
  · obtain ⟨j, h | h⟩ := upL_mem l n _ _ o ho
    · exact ⟨j, .inl h⟩
    · exact ⟨j, .inr (.inl h)⟩
  · exact ⟨_, .inl rfl⟩
  · obtain ⟨j, h⟩ := dnL_mem l _ o ho
    exact ⟨j, .inr (.inr h)⟩
theorem fullL_ok (l n : List Int) : ∀ o ∈ (fullL l n).map opTP, chkOpT o = 0 := by
  intro o ho
  obtain ⟨o', ho', rfl⟩ := List.mem_map.1 ho
  obtain ⟨j, h⟩ := fullL_mem l n o' ho'
  have hk := kL_of l j
  have hr := rL_of n j
  rcases h with rfl | rfl | rfl <;> simp [opTP, chkOpT, chkOp, leastN, mostN] <;> omega
theorem flat_plain : ∀ (l : List OpS), (∀ o ∈ l, o.f0 ≠ 8 ∧ o.f0 ≠ 9) → FlatR kdP nmP 0 l l
  | [], _ => .nil 0
  | o :: l, h => .op 0 o l l (h o (by simp)).1 (h o (by simp)).2 (flat_plain l (fun x hx => h x (List.mem_cons_of_mem _ hx)))
theorem fullL_flat (l n : List Int) : FlatR kdP nmP 0 (fullL l n) (fullL l n) := flat_plain _ (fun o ho => by
  obtain ⟨j, h⟩ := fullL_mem l n o ho
  rcases h with rfl | rfl | rfl <;> simp)
theorem heldL_len (l : List Int) (i : Nat) : (heldL l i).length = i := by simp [heldL]
theorem heldL_last (l : List Int) (i : Nat) : lastH (heldL l (i + 1)) = kL l i := by
  unfold lastH
  rw [heldL_len]
  simp [heldL, List.getD]
theorem heldL_succ (l : List Int) (i : Nat) : heldL l (i + 1) = heldL l i ++ [kL l i] := by simp [heldL, List.range_succ]
theorem run_one (x : Int) (idx : Nat) (rest : List OpS) (h : List Int) : runQ idx (((⟨1, x, 0, 0, []⟩ : OpS) :: rest).map opTP) h [] = runQ (idx + 1) (rest.map opTP) h [] := by
  rw [List.map_cons, runQ]
  have : tStep 1 x 0 h [] = some (h, []) := by simp [tStep]
  show (match tStep 1 (x) 0 (h) [] with | none => some (idx : Int) | some (h', fs') => runQ (idx + 1) (rest.map opTP) h' fs') = _
  rw [this]
theorem lock_ok (l : List Int) (i idx : Nat) (rest : List OpS) (hk : okL l i) : runQ idx (((⟨2, kL l i, 0, 0, []⟩ : OpS) :: rest).map opTP) (heldL l i) [] = runQ (idx + 1) (rest.map opTP) (heldL l (i + 1)) [] := by
  rw [List.map_cons, runQ]
  show (match tStep 2 (kL l i) 0 (heldL l i) [] with | none => some (idx : Int) | some (h', fs') => runQ (idx + 1) (rest.map opTP) h' fs') = _
  have : tStep 2 (kL l i) 0 (heldL l i) [] = some (heldL l (i + 1), []) := by
    unfold tStep
    rw [if_neg (by decide), if_neg (by decide), if_pos rfl, if_neg, heldL_succ]
    rw [heldL_len]
    rintro ⟨h0, h1⟩
    obtain ⟨j, rfl⟩ : ∃ j, i = j + 1 := ⟨i - 1, by omega⟩
    rw [heldL_last] at h1
    rcases hk with h | h
    · omega
    · simp only [Nat.add_sub_cancel] at h
      omega
  rw [this]
theorem lock_bad (l : List Int) (i idx : Nat) (rest : List OpS) (hk : ¬ okL l i) : runQ idx (((⟨2, kL l i, 0, 0, []⟩ : OpS) :: rest).map opTP) (heldL l i) [] = some (idx : Int) := by
  rw [List.map_cons, runQ]
  show (match tStep 2 (kL l i) 0 (heldL l i) [] with | none => some (idx : Int) | some (h', fs') => runQ (idx + 1) (rest.map opTP) h' fs') = _
  have : tStep 2 (kL l i) 0 (heldL l i) [] = none := by
    unfold tStep
    rw [if_neg (by decide), if_neg (by decide), if_pos rfl, if_pos]
    rw [heldL_len]
    unfold okL at hk
    refine ⟨by omega, ?_⟩
    obtain ⟨j, rfl⟩ : ∃ j, i = j + 1 := ⟨i - 1, by omega⟩
    rw [heldL_last]
    simp only [Nat.add_sub_cancel] at hk
    show kL l (j + 1) ≤ kL l j
    omega
  rw [this]
theorem unlock_ok (l : List Int) (i idx : Nat) (rest : List OpS) : runQ idx (((⟨3, kL l i, 0, 0, []⟩ : OpS) :: rest).map opTP) (heldL l (i + 1)) [] = runQ (idx + 1) (rest.map opTP) (heldL l i) [] := by
  rw [List.map_cons, runQ]
  show (match tStep 3 (kL l i) 0 (heldL l (i + 1)) [] with | none => some (idx : Int) | some (h', fs') => runQ (idx + 1) (rest.map opTP) h' fs') = _
  have : tStep 3 (kL l i) 0 (heldL l (i + 1)) [] = some (heldL l i, []) := by
    unfold tStep
    rw [if_neg (by decide), if_neg (by decide), if_neg (by decide), if_pos rfl, heldL_len, if_neg (by omega), heldL_last, if_pos rfl, heldL_succ]
    have : (heldL l i ++ [kL l i]).take (i + 1 - 1) = heldL l i := by
      rw [Nat.add_sub_cancel]
      conv => lhs; rw [← heldL_len l i]
      simp [heldL_len]
    rw [this]
  rw [this]
theorem up_ok (l n : List Int) (rest : List OpS) : ∀ d i idx, (∀ j, i ≤ j → j < i + d → okL l j) → runQ idx ((upL l n i d ++ rest).map opTP) (heldL l i) [] = runQ (idx + 2 * d) (rest.map opTP) (heldL l (i + d)) []
  | 0, i, idx, _ => rfl
  | d + 1, i, idx, h => by
    rw [upL, List.cons_append, List.cons_append, run_one, lock_ok l i _ _ (h i (by omega) (by omega)), up_ok l n rest d (i + 1) _ (fun j h1 h2 => h j (by omega) (by omega))]
    rw [show idx + 1 + 1 + 2 * d = idx + 2 * (d + 1) by omega, show i + 1 + d = i + (d + 1) by omega]
theorem up_bad (l n : List Int) (rest : List OpS) : ∀ d i idx, (∃ j, i ≤ j ∧ j < i + d ∧ ¬ okL l j) → ∃ v, runQ idx ((upL l n i d ++ rest).map opTP) (heldL l i) [] = some v
  | 0, i, idx, h => by obtain ⟨j, h1, h2, _⟩ := h; omega
  | d + 1, i, idx, h => by
    rw [upL, List.cons_append, List.cons_append, run_one]
    by_cases hk : okL l i
    · rw [lock_ok l i _ _ hk]
      obtain ⟨j, h1, h2, h3⟩ := h
      have hji : j ≠ i := fun c => h3 (c ▸ hk)
      exact up_bad l n rest d (i + 1) _ ⟨j, by omega, by omega, h3⟩
    · exact ⟨_, lock_bad l i _ _ hk⟩
theorem dn_ok (l : List Int) : ∀ i idx, runQ idx ((dnL l i).map opTP) (heldL l i) [] = none
  | 0, idx => by simp [dnL, heldL, runQ]
  | i + 1, idx => by rw [dnL, unlock_ok, dn_ok l i]
theorem rgL_all (l : List Int) : ∀ i, rgL l i = true → ∀ j, j < i → okL l j
  | 0, _, j, h => by omega
  | i + 1, hr, j, h => by
    rw [rgL, Bool.and_eq_true, decide_eq_true_eq] at hr
    by_cases e : j = i
    · exact e ▸ hr.2
    · exact rgL_all l i hr.1 j (by omega)
theorem rgL_ex (l : List Int) : ∀ i, rgL l i = false → ∃ j, j < i ∧ ¬ okL l j
  | 0, h => by cases h
  | i + 1, hr => by
    rw [rgL, Bool.and_eq_false_iff, decide_eq_false_iff_not] at hr
    rcases hr with h | h
    · obtain ⟨j, h1, h2⟩ := rgL_ex l i h
      exact ⟨j, by omega, h2⟩
    · exact ⟨i, by omega, h⟩
theorem full_check (l n : List Int) (h8 : l.length ≤ 8) : ∃ v, prog_Check.f (fullL l n) = some (v, if rgL l l.length = true then 0 else 11) := by
  have hs := steps_flat (fullL_flat l n) (by decide) (by rw [fullL_len]; omega)
  rw [fullL_len] at hs
  unfold prog_Check.f chkProgP
  rw [hs, if_neg (by rw [List.length_map, fullL_len]; omega), badOp_none _ _ (fullL_ok l n)]
  simp only [Option.getD_none]
  cases hr : rgL l l.length with
  | true =>
    have hq : runQ 0 ((fullL l n).map opTP) [] [] = none := by
      have := up_ok l n ((⟨1, rL n l.length, 0, 0, []⟩ : OpS) :: dnL l l.length) l.length 0 0 (fun j _ h2 => rgL_all l _ hr j (by omega))
      rw [run_one, Nat.zero_add, Nat.zero_add, dn_ok] at this
      exact this
    rw [hq]
    exact ⟨0, by rw [if_neg (by omega)]; rfl⟩
  | false =>
    obtain ⟨j, h1, h2⟩ := rgL_ex l _ hr
    obtain ⟨v, hv⟩ := up_bad l n ((⟨1, rL n l.length, 0, 0, []⟩ : OpS) :: dnL l l.length) l.length 0 0 ⟨j, by omega, by omega, h2⟩
    have hq : runQ 0 ((fullL l n).map opTP) [] [] = some v := hv
    rw [hq]
    exact ⟨v, rfl⟩
/-- Sections. -/
theorem sec_up_off (l n : List Int) (x b m : Int) : ∀ d i, (∀ j, i ≤ j → j < i + d → kL l j ≠ x) → (upL l n i d).foldl (Prog.secS x) (b, m, false) = (b, m, false)
  | 0, _, _ => rfl
  | d + 1, i, h => by
    rw [upL, List.foldl_cons, List.foldl_cons]
    have e1 : Prog.secS x (b, m, false) ⟨1, rL n i, 0, 0, []⟩ = (b, m, false) := by simp [Prog.secS]
    have e2 : Prog.secS x (b, m, false) ⟨2, kL l i, 0, 0, []⟩ = (b, m, false) := by simp [Prog.secS, h i (Nat.le_refl _) (by omega)]
    rw [e1, e2]
    exact sec_up_off l n x b m d (i + 1) (fun j h1 h2 => h j (by omega) (by omega))
theorem sec_run (x s r : Int) (hs : 0 ≤ s ∧ s ≤ 1000) (hr : 1 ≤ r ∧ r ≤ 9) : Prog.secS x (s, s, true) ⟨1, r, 0, 0, []⟩ = (s + r, s + r, true) := by
  simp [Prog.secS]
  rw [Prog.w64 (by omega) (by omega)]
  unfold mx
  rw [if_pos (by omega)]
  simp
theorem sec_up_on (l n : List Int) (x : Int) : ∀ (d i : Nat) (s : Int), 0 ≤ s → s + 9 * (d : Int) ≤ 1000 → (∀ j, i ≤ j → j < i + d → kL l j ≠ x) → (upL l n i d).foldl (Prog.secS x) (s, s, true) = (s + sumR n i d, s + sumR n i d, true)
  | 0, _, s, _, _, _ => by simp [upL, sumR]
  | d + 1, i, s, h0, hb, h => by
    have hr := rL_of n i
    have e2 : Prog.secS x (s + rL n i, s + rL n i, true) ⟨2, kL l i, 0, 0, []⟩ = (s + rL n i, s + rL n i, true) := by simp [Prog.secS, h i (Nat.le_refl _) (by omega)]
    rw [upL, List.foldl_cons, List.foldl_cons, sec_run x s _ ⟨h0, by omega⟩ hr, e2, sec_up_on l n x d (i + 1) _ (by omega) (by omega) (fun j h1 h2 => h j (by omega) (by omega)), sumR]
    rw [Int.add_assoc]
theorem sec_dn (l : List Int) (x : Int) : ∀ i s, ((dnL l i).foldl (Prog.secS x) s).1 = s.1
  | 0, _ => rfl
  | i + 1, s => by
    rw [dnL, List.foldl_cons, sec_dn l x i]
    unfold Prog.secS
    by_cases h : kL l i = x <;> simp [h]
theorem upL_split (l n : List Int) : ∀ q i d, upL l n i (q + d) = upL l n i q ++ upL l n (i + q) d
  | 0, i, d => by simp [upL]
  | q + 1, i, d => by
    rw [show q + 1 + d = (q + d) + 1 by omega, upL, upL_split l n q (i + 1) d, upL, show i + 1 + q = i + (q + 1) by omega]
    rfl
theorem okL_lt (l : List Int) (m : Nat) (h : ∀ j, j < m → okL l j) : ∀ b a : Nat, a < b → b < m → kL l a < kL l b
  | 0, a, h1, _ => by omega
  | b + 1, a, h1, h2 => by
    have hb : kL l b < kL l (b + 1) := by
      rcases h (b + 1) h2 with h3 | h3
      · omega
      · exact h3
    by_cases e : a = b
    · exact e ▸ hb
    · have := okL_lt l m h b a (by omega) (by omega)
      omega
theorem sec_full (l n : List Int) (h8 : l.length ≤ 8) (hok : ∀ j, j < l.length → okL l j) (q : Nat) (hq : q < l.length) : Prog.secL (kL l q) (fullL l n) = sumR n (q + 1) (l.length - q) := by
  have hne : ∀ j, j < l.length → j ≠ q → kL l j ≠ kL l q := by
    intro j hj hjq
    rcases Nat.lt_or_ge j q with h | h
    · have := okL_lt l _ hok q j h hq; omega
    · have := okL_lt l _ hok j q (by omega) hj; omega
  obtain ⟨d, hd⟩ : ∃ d, l.length = q + (d + 1) := ⟨l.length - q - 1, by omega⟩
  unfold Prog.secL fullL
  have e0 : upL l n 0 l.length = upL l n 0 q ++ upL l n q (d + 1) := by
    rw [hd, upL_split, Nat.zero_add]
  have hr := rL_of n q
  have e1 : Prog.secS (kL l q) (0, 0, false) ⟨1, rL n q, 0, 0, []⟩ = (0, 0, false) := by simp [Prog.secS]
  have e2 : Prog.secS (kL l q) (0, 0, false) ⟨2, kL l q, 0, 0, []⟩ = (0, 0, true) := by simp [Prog.secS]
  have hs := sumR_le n d (q + 1)
  have h1 : (upL l n q (d + 1)).foldl (Prog.secS (kL l q)) (0, 0, false) = (sumR n (q + 1) d, sumR n (q + 1) d, true) := by
    rw [upL, List.foldl_cons, List.foldl_cons, e1, e2, sec_up_on l n (kL l q) d (q + 1) 0 (by omega) (by omega) (fun j h1 h2 => hne j (by omega) (by omega)), Int.zero_add]
  rw [e0, List.append_assoc, List.foldl_append, sec_up_off l n (kL l q) 0 0 q 0 (fun j _ h2 => hne j (by omega) (by omega)), List.foldl_append, h1, List.foldl_cons, sec_run _ _ _ (by omega) (rL_of n _), sec_dn]
  rw [show l.length - q = d + 1 by omega, sumR_snoc, show q + 1 + d = l.length by omega]
theorem sum_up (l n : List Int) : ∀ d i, sumW runW (upL l n i d) = sumR n i d
  | 0, _ => rfl
  | d + 1, i => by
    rw [upL, sumW_cons, sumW_cons, sum_up l n d, sumR]
    simp [runW]
theorem sum_dn (l : List Int) : ∀ i, sumW runW (dnL l i) = 0
  | 0 => rfl
  | i + 1 => by
    rw [dnL, sumW_cons, sum_dn l i]
    simp [runW]
theorem sum_full (l n : List Int) : sumW runW (fullL l n) = sumR n 0 (l.length + 1) := by
  unfold fullL
  rw [sumW_append, sumW_cons, sum_up, sum_dn, sumR_snoc, Nat.zero_add]
  simp [runW]
theorem locks_up (l n : List Int) : ∀ d i, locksL (upL l n i d) = (List.range' i d).map (kL l)
  | 0, _ => rfl
  | d + 1, i => by
    have := locks_up l n d (i + 1)
    unfold locksL at this ⊢
    rw [upL, List.range'_succ]
    simp [this]
theorem locks_dn (l : List Int) : ∀ i, locksL (dnL l i) = []
  | 0 => rfl
  | i + 1 => by
    have := locks_dn l i
    unfold locksL at this ⊢
    rw [dnL]
    simpa using this
theorem locks_full (l n : List Int) : locksL (fullL l n) = (List.range l.length).map (kL l) := by
  have h1 := locks_up l n l.length 0
  have h2 := locks_dn l l.length
  unfold locksL at h1 h2 ⊢
  unfold fullL
  rw [List.filter_append, List.map_append, h1, List.filter_cons]
  simp only [List.range_eq_range']
  simpa using h2
theorem ProgLocks : watchbilllaw6_ProgLocks.Pure := by
  intro l n _ _ hl _ _ hn
  suffices h : Ev (fun k => watchbilllaw6_ProgLocks.f k l n) true from h.rounds
  have hout : Ev (fun k => watchbilllaw6_ProgLocks.j0 k l n true) true := Ev.step (f := fun _ => some true) (fun k => by rw [watchbilllaw6_ProgLocks.j0, if_pos rfl]) (Ev.now _)
  by_cases h8 : (l.length : Int) > 8
  · refine Ev.congr (fun k => ?_) hout
    show (if true = true then (if (l.length : Int) > 8 then _ else _) else some false) = _
    rw [if_pos rfl, if_pos h8]
  by_cases hln : (n.length : Int) < (l.length : Int) + 1
  · refine Ev.congr (fun k => ?_) hout
    show (if true = true then (if (l.length : Int) > 8 then _ else watchbilllaw6_ProgLocks.j0 k l n (decide ((n.length : Int) < wrap64 ((l.length : Int) + 1)))) else some false) = _
    rw [if_pos rfl, if_neg h8, Prog.w64 (by omega) (by omega), decide_eq_true hln]
  have hm8 : l.length ≤ 8 := by omega
  have hK : ∀ i : Nat, i < l.length → wrap64 (Int.tmod (rd l (i : Int)) 8) = kL l i := by
    intro i hi
    have hm : l.getD i 0 ∈ l := by simp [List.getD, hi]
    have hb := Go.Proofs.YtjnhahdelipebaaH.wf_u8 (hl _ hm)
    have e : rd l (i : Int) = l.getD i 0 := by simp [rd]
    rw [e, Int.tmod_eq_emod_of_nonneg hb.1]
    exact Prog.w64 (by omega) (by omega)
  have hRe : ∀ i : Nat, i < n.length → Int.tmod (rd n (i : Int)) 9 = n.getD i 0 % 9 := by
    intro i hi
    have hm : n.getD i 0 ∈ n := by simp [List.getD, hi]
    have hb := Go.Proofs.YtjnhahdelipebaaH.wf_u8 (hn _ hm)
    have e : rd n (i : Int) = n.getD i 0 := by simp [rd]
    rw [e, Int.tmod_eq_emod_of_nonneg hb.1]
  have hR : ∀ i : Nat, i < n.length → wrap64 (1 + wrap64 (Int.tmod (rd n (i : Int)) 9)) = rL n i := by
    intro i hi
    rw [hRe i hi, Prog.w64 (x := n.getD i 0 % 9) (by omega) (by omega), Prog.w64 (by omega) (by omega)]
    rfl
  have hS : ∀ (i : Nat) (s : Int), i < n.length → 0 ≤ s → s ≤ 1000 → wrap64 (wrap64 (s + 1) + wrap64 (Int.tmod (rd n (i : Int)) 9)) = rL n i + s := by
    intro i s hi h0 h1
    rw [hRe i hi, Prog.w64 (x := n.getD i 0 % 9) (by omega) (by omega), Prog.w64 (x := s + 1) (by omega) (by omega), Prog.w64 (by omega) (by omega)]
    unfold rL
    omega
  obtain ⟨cv, hck⟩ := full_check l n hm8
  have hfl := fullL_len l n
  -- the sections and what follows
  have hl2 : rgL l l.length = true → ∀ d i : Nat, i = d → i ≤ l.length → Ev (fun k => watchbilllaw6_ProgLocks.l2 k l n (fullL l n) (sumR n (i + 1) (l.length - i)) (i : Int)) true := by
    intro hrg d
    have hok := rgL_all l _ hrg
    induction d with
    | zero =>
      intro i hi hi2
      subst hi
      have hb := sumR_le n l.length (0 + 1)
      have hc : ∀ k, prog_Cost.f k (fullL l n) = some (sumR n 0 (l.length + 1)) := by
        intro k
        have hb2 := sumR_le n (l.length + 1) 0
        unfold prog_Cost.f
        rw [if_pos (by omega), cost_flat (fullL_flat l n) (by decide) (by
          intro o ho
          obtain ⟨j, h⟩ := fullL_mem l n o ho
          have := rL_of n j
          rcases h with rfl | rfl | rfl <;> simp [runW]
          omega) (by rw [sum_full]; omega), sum_full]
      have hlk : Ev (fun k => prog_Locks.f k (fullL l n)) ((List.range l.length).map (kL l)) := by
        have := Prog.locks_ev (fullL l n) (by omega) (by rw [locks_full]; simp; omega) (by
          rw [locks_full, List.pairwise_map]
          refine List.Pairwise.imp_of_mem (R := (· < ·)) ?_ List.pairwise_lt_range
          intro a b ha hb hab
          exact okL_lt l _ hok b a hab (List.mem_range.1 hb))
        rw [locks_full] at this
        exact this
      have hend : Ev (fun k => (prog_Locks.f k (fullL l n)).bind fun t => some ((t.length : Int) == (l.length : Int))) true := by
        refine Ev.bind (f := fun _ t => some ((t.length : Int) == (l.length : Int))) hlk ?_
        simp only [List.length_map, List.length_range, beq_self_eq_true]
        exact Ev.now _
      refine Ev.step (fun k => ?_) hend
      rw [watchbilllaw6_ProgLocks.l2, if_neg (by omega), hc]
      simp only [Option.bind_some, Nat.sub_zero]
      rw [if_pos (by omega)]
      have := hS 0 (sumR n (0 + 1) l.length) (by omega) hb.1 (by omega)
      simp only [Int.natCast_zero] at this
      simp only [Int.natCast_zero, this, sumR, if_true]
    | succ d ih =>
      intro i hi hi2
      subst hi
      have hi3 := ih d rfl (by omega)
      have hb := sumR_le n (l.length - (d + 1)) (d + 1 + 1)
      have hsec : Ev (fun k => prog_Section.f k (fullL l n) (kL l d)) (sumR n (d + 1) (l.length - d)) := by
        have := Prog.section_flat (kL l d) (fullL l n) (fullL l n) (flat_prog (fullL_flat l n) (by omega) (by omega)) (by omega)
        rw [sec_full l n hm8 hok d (by omega)] at this
        exact this
      have enew : rL n (d + 1) + sumR n (d + 1 + 1) (l.length - (d + 1)) = sumR n (d + 1) (l.length - d) := by
        obtain ⟨e, he⟩ : ∃ e, l.length - d = e + 1 := ⟨l.length - d - 1, by omega⟩
        rw [he, sumR, show l.length - (d + 1) = e by omega]
      have hb1 : Ev (fun k => (prog_Section.f k (fullL l n) (kL l d)).bind fun t => if t = sumR n (d + 1) (l.length - d) then watchbilllaw6_ProgLocks.l2 k l n (fullL l n) (sumR n (d + 1) (l.length - d)) (d : Int) else some false) true := by
        refine Ev.bind (f := fun k t => if t = sumR n (d + 1) (l.length - d) then watchbilllaw6_ProgLocks.l2 k l n (fullL l n) (sumR n (d + 1) (l.length - d)) (d : Int) else some false) hsec ?_
        simp only [if_true]
        exact hi3
      refine Ev.step (fun k => ?_) hb1
      have ew : wrap64 (((d + 1 : Nat) : Int) - 1) = (d : Int) := by rw [Prog.w64 (by omega) (by omega)]; omega
      rw [watchbilllaw6_ProgLocks.l2, if_pos (by omega), if_pos (by omega), if_pos (by omega), ew, if_pos (by omega), if_pos (by omega), hK d (by omega), hS (d + 1) _ (by omega) hb.1 (by omega), enew]
  -- the unlocks
  have hl1 : ∀ (d i : Nat) (p : List OpS), i = d → i ≤ l.length → p ++ dnL l i = fullL l n → Ev (fun k => watchbilllaw6_ProgLocks.l1 k l n p (rgL l l.length) ((i : Int) - 1)) true := by
    intro d
    induction d with
    | zero =>
      intro i p hi hi2 hp
      subst hi
      rw [dnL, List.append_nil] at hp
      subst hp
      cases hrg : rgL l l.length with
      | true =>
        have h2 := hl2 hrg l.length l.length rfl (Nat.le_refl _)
        rw [Nat.sub_self] at h2
        refine Ev.step (fun k => ?_) h2
        rw [watchbilllaw6_ProgLocks.l1, if_neg (by omega), hck, hrg]
        rfl
      | false =>
        refine Ev.step (f := fun _ => some true) (fun k => ?_) (Ev.now _)
        rw [watchbilllaw6_ProgLocks.l1, if_neg (by omega), hck, hrg]
        rfl
    | succ d ih =>
      intro i p hi hi2 hp
      subst hi
      have hpl : p.length ≤ 1000 := by
        have := congrArg List.length hp
        rw [List.length_append] at this
        omega
      have h3 := ih d (p ++ [⟨3, kL l d, 0, 0, []⟩]) rfl (by omega) (by rw [List.append_assoc]; exact hp)
      refine Ev.step (fun k => ?_) h3
      have e1 : ((d + 1 : Nat) : Int) - 1 = (d : Int) := by omega
      rw [e1, watchbilllaw6_ProgLocks.l1, if_pos (by omega), if_pos (by omega), if_pos (by omega), if_pos (by omega), hK d (by omega), Prog.w64 (x := (d : Int) - 1) (by omega) (by omega)]
  -- the locks
  have hl0 : ∀ (d i : Nat) (p : List OpS) (last : Int), i + d = l.length → p ++ (upL l n i d ++ (⟨1, rL n l.length, 0, 0, []⟩ : OpS) :: dnL l l.length) = fullL l n → last = (if i = 0 then -1 else kL l (i - 1)) → Ev (fun k => watchbilllaw6_ProgLocks.l0 k l n p last (rgL l i) (i : Int)) true := by
    intro d
    induction d with
    | zero =>
      intro i p last hi hp hlast
      obtain rfl : i = l.length := by omega
      have hpl : p.length ≤ 1000 := by
        have := congrArg List.length hp
        rw [List.length_append] at this
        omega
      have h3 := hl1 l.length l.length (p ++ [⟨1, rL n l.length, 0, 0, []⟩]) rfl (Nat.le_refl _) (by rw [List.append_assoc]; exact hp)
      refine Ev.step (fun k => ?_) h3
      rw [watchbilllaw6_ProgLocks.l0, if_neg (by omega), if_pos (by omega), if_pos (by omega), if_pos (by omega), hR l.length (by omega), Prog.w64 (x := (l.length : Int) - 1) (by omega) (by omega)]
    | succ d ih =>
      intro i p last hi hp hlast
      have hpl : p.length ≤ 1000 := by
        have := congrArg List.length hp
        rw [List.length_append] at this
        omega
      have h3 := ih (i + 1) (p ++ [⟨1, rL n i, 0, 0, []⟩, ⟨2, kL l i, 0, 0, []⟩]) (kL l i) (by omega) (by rw [List.append_assoc]; exact hp) (by rw [if_neg (by omega), Nat.add_sub_cancel])
      have hk := kL_of l i
      have ed : decide (kL l i > last) = decide (okL l i) := by
        rw [decide_eq_decide, hlast]
        unfold okL
        by_cases h0 : i = 0
        · rw [if_pos h0]
          exact ⟨fun _ => .inl h0, fun _ => by omega⟩
        · rw [if_neg h0]
          exact ⟨fun h => .inr h, fun h => h.resolve_left h0⟩
      refine Ev.step (fun k => ?_) h3
      rw [watchbilllaw6_ProgLocks.l0, if_pos (by omega), if_pos (by omega)]
      cases hrg : rgL l i with
      | true =>
        rw [if_pos rfl, if_pos (by omega), hR i (by omega), hK i (by omega), ed]
        simp only [Option.bind_some]
        rw [if_pos (by simp only [List.length_cons, List.length_nil]; omega), Prog.w1 (by omega), rgL, hrg, Bool.true_and]
      | false =>
        rw [if_neg (by decide), if_pos (by omega), hR i (by omega), hK i (by omega)]
        simp only [Option.bind_some]
        rw [if_pos (by simp only [List.length_cons, List.length_nil]; omega), Prog.w1 (by omega), rgL, hrg, Bool.false_and]
  have hstart := hl0 l.length 0 [] (-1) (by omega) (by rw [List.nil_append]; rfl) (by rw [if_pos rfl])
  have hj : Ev (fun k => watchbilllaw6_ProgLocks.j0 k l n false) true := by
    refine Ev.step (fun k => ?_) hstart
    rw [watchbilllaw6_ProgLocks.j0, if_neg (by decide)]
    rfl
  refine Ev.congr (fun k => ?_) hj
  show (if true = true then (if (l.length : Int) > 8 then _ else watchbilllaw6_ProgLocks.j0 k l n (decide ((n.length : Int) < wrap64 ((l.length : Int) + 1)))) else some false) = _
  rw [if_pos rfl, if_neg h8, Prog.w64 (by omega) (by omega), decide_eq_false hln]
end Go.Proofs.Ytjnhahdelipebaa.Pure
