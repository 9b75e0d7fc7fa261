/- Tasks by falling priorities, each with some locks: ceilings and sections, in plain words. -/
import Derived.Test.YtniphoeoeekpbaaCeilEv
import Derived.Test.YtniphoeoeekpbaaPlainEv
import Derived.Test.YtniphoeoeekpbaaIntsEv
import Derived.Test.YtniphoeoeekpbaaXAx6
namespace Go.Proofs.Ytniphoeoeekpbaa.Pure
set_option linter.unusedVariables false
set_option linter.unusedSimpArgs false
open Go.RowKit Go.Proofs.Ytniphoeoeekpbaa.XA Go.Proofs.YtniphoeoeekpbaaW.PrintWords Go.Proofs.YtniphoeoeekpbaaW.PrintLast Go.Proofs.YtniphoeoeekpbaaW.PrintMore
open Go.Proofs.YtniphoeoeekpbaaH (prios dlt prios_get prios_len ahead_lt ahead_iff sorted_place)

theorem mx0 (c : Int) (h : 0 ≤ c) : mx 0 c = c := by
  unfold mx
  split <;> omega
theorem mn_l {a b : Int} (h : a ≤ b) : mn a b = a := by
  unfold mn
  split <;> omega
/-- Has i lock k? -/
def bitV (l : List Int) (i k : Nat) : Int := Go.bits .and .u8 (shr .u8 (rd l i) (IntKind.u64.wrap (k : Int))) 1
def has (l : List Int) (i k : Nat) : Bool := decide (bitV l i k = 1)
theorem bitV_two (l : List Int) (hl : ∀ x ∈ l, (Lit.int .u8 x).wf = true) (i k : Nat) (h : i < l.length) : bitV l i k = 0 ∨ bitV l i k = 1 := by
  have hm : l.getD i 0 ∈ l := by simp [List.getD, h]
  have hx := u8_of (hl _ hm)
  unfold bitV shr
  rw [rd_nat]
  obtain ⟨p, hp⟩ : ∃ p : Nat, p = min (IntKind.u64.wrap (k : Int)).toNat (IntKind.bits .u8) := ⟨_, rfl⟩
  rw [← hp]
  have hpos : (0 : Int) < 2 ^ p := Int.pow_pos (by decide)
  have h0 : 0 ≤ l.getD i 0 / 2 ^ p := Int.ediv_nonneg hx.1 (Int.le_of_lt hpos)
  have h1 : l.getD i 0 / 2 ^ p ≤ l.getD i 0 := Int.ediv_le_self _ hx.1
  generalize l.getD i 0 / 2 ^ p = v at h0 h1
  have hb := bits_mask .u8 8 (by decide) (fun n h0 h1 => by simp [IntKind.wrap, IntKind.bits, IntKind.signed]; omega) 1 (by decide) v h0 (by omega)
  have e : ((2 : Int) ^ 1 - 1) = 1 := by decide
  have e2 : ((2 : Int) ^ 1) = 2 := by decide
  rw [e, e2] at hb
  rw [hb]
  omega
theorem has_iff (l : List Int) (i k : Nat) : has l i k = true ↔ bitV l i k = 1 := by simp [has]

def blk (k : Nat) (run : Int) : List S52 := [⟨2, (k : Int), 0, 0, []⟩, ⟨1, run, 0, 0, []⟩, ⟨3, (k : Int), 0, 0, []⟩]
/-- What a task does, its first m locks. -/
def usP (h : Nat → Bool) (run : Int) : Nat → List S52
  | 0 => [⟨1, 1, 0, 0, []⟩]
  | m + 1 => if h m = true then usP h run m ++ blk m run else usP h run m
theorem usP_plain (h : Nat → Bool) (run : Int) : ∀ m, ∀ o ∈ usP h run m, o.f0 ≠ 8
  | 0 => by simp [usP]
  | m + 1 => by
    have ih := usP_plain h run m
    unfold usP
    split
    · intro o ho
      rcases List.mem_append.1 ho with ho | ho
      · exact ih o ho
      · simp only [blk, List.mem_cons, List.not_mem_nil, or_false] at ho
        rcases ho with rfl | rfl | rfl <;> simp
    · exact ih
theorem usP_len (h : Nat → Bool) (run : Int) : ∀ m, (usP h run m).length ≤ 1 + 3 * m
  | 0 => by simp [usP]
  | m + 1 => by
    have ih := usP_len h run m
    unfold usP
    split
    · rw [List.length_append]
      have : (blk m run).length = 3 := rfl
      omega
    · omega
/-- The locks of a task. -/
def usL (h : Nat → Bool) (m : Nat) : List Int := ((List.range m).filter h).map fun (k : Nat) => (k : Int)
theorem usP_locks (h : Nat → Bool) (run : Int) : ∀ m, locksL (usP h run m) = usL h m
  | 0 => rfl
  | m + 1 => by
    have ih := usP_locks h run m
    unfold usP usL
    rw [List.range_succ, List.filter_append, List.map_append]
    have e : ((List.range m).filter h).map (fun (k : Nat) => (k : Int)) = usL h m := rfl
    rw [e, ← ih]
    by_cases hh : h m = true
    · rw [if_pos hh]
      have e1 : locksL (blk m run) = [(m : Int)] := rfl
      simp only [locksL, List.filter_append, List.map_append] at e1 ⊢
      rw [e1]
      simp [hh]
    · rw [if_neg hh]
      simp [hh]
theorem usL_mem (h : Nat → Bool) (m k : Nat) : (k : Int) ∈ usL h m ↔ k < m ∧ h k = true := by
  unfold usL
  rw [List.mem_map]
  constructor
  · rintro ⟨j, hj, e⟩
    obtain rfl : j = k := by omega
    simpa using hj
  · rintro h1
    exact ⟨k, by simpa using h1, rfl⟩
theorem usL_len (h : Nat → Bool) (m : Nat) : (usL h m).length ≤ m := by
  unfold usL
  rw [List.length_map]
  have := List.length_filter_le h (List.range m)
  simpa using this
theorem usL_inc (h : Nat → Bool) (m : Nat) : (usL h m).Pairwise (· < ·) := by
  unfold usL
  rw [List.pairwise_map]
  refine ((List.pairwise_lt_range (n := m)).filter _).imp ?_
  intro a b hab
  omega
theorem secS_run (x : Int) (b n : Int) (r : Int) : Prog.secS x (b, n, false) ⟨1, r, 0, 0, []⟩ = (b, n, false) := by simp [Prog.secS]
theorem usP_sec (h : Nat → Bool) (run : Int) (hr : 1 ≤ run ∧ run ≤ 20) (x : Nat) : ∀ m, ∃ n, (usP h run m).foldl (Prog.secS (x : Int)) (0, 0, false) = (if x < m ∧ h x = true then run else 0, n, false)
  | 0 => ⟨0, by simp [usP, Prog.secS]⟩
  | m + 1 => by
    obtain ⟨n, ih⟩ := usP_sec h run hr x m
    unfold usP
    by_cases hh : h m = true
    · rw [if_pos hh, List.foldl_append, ih]
      by_cases e : m = x
      · subst e
        rw [if_neg (fun c => by have := c.1; omega), if_pos ⟨by omega, hh⟩]
        refine ⟨run, ?_⟩
        simp only [blk, List.foldl_cons, List.foldl_nil]
        simp [Prog.secS]
        rw [Prog.w64 (by omega) (by omega), mx0 run (by omega)]
        exact ⟨rfl, rfl⟩
      · have hne : ¬ ((m : Int) = (x : Int)) := by omega
        refine ⟨n, ?_⟩
        have e2 : (x < m + 1 ∧ h x = true) ↔ (x < m ∧ h x = true) := by
          constructor <;> rintro ⟨h1, h2⟩ <;> exact ⟨by omega, h2⟩
        simp only [e2, blk, List.foldl_cons, List.foldl_nil]
        simp [Prog.secS, hne]
    · rw [if_neg hh]
      refine ⟨n, ?_⟩
      rw [ih]
      have e2 : (x < m + 1 ∧ h x = true) ↔ (x < m ∧ h x = true) := by
        constructor
        · rintro ⟨h1, h2⟩
          refine ⟨?_, h2⟩
          rcases Nat.lt_or_ge x m with h3 | h3
          · exact h3
          · obtain rfl : x = m := by omega
            exact absurd h2 hh
        · rintro ⟨h1, h2⟩
          exact ⟨by omega, h2⟩
      simp only [e2]
/-- What is run. -/
def usC (h : Nat → Bool) (run : Int) : Nat → Int
  | 0 => 1
  | m + 1 => usC h run m + if h m = true then run else 0
theorem usC_in (h : Nat → Bool) (run : Int) (hr : 1 ≤ run ∧ run ≤ 20) : ∀ m, 1 ≤ usC h run m ∧ usC h run m ≤ 1 + 20 * m
  | 0 => by simp [usC]
  | m + 1 => by
    have ih := usC_in h run hr m
    unfold usC
    split <;> omega
theorem usC_has (h : Nat → Bool) (run : Int) (hr : 1 ≤ run ∧ run ≤ 20) (x : Nat) (hx : h x = true) : ∀ m, x < m → run ≤ usC h run m
  | 0, h0 => by omega
  | m + 1, h0 => by
    have ih := usC_in h run hr m
    unfold usC
    by_cases e : x = m
    · subst e
      rw [if_pos hx]
      omega
    · have := usC_has h run hr x hx m (by omega)
      split <;> omega
theorem usP_cost (h : Nat → Bool) (run : Int) (hr : 1 ≤ run ∧ run ≤ 20) : ∀ m, m ≤ 1000 → Prog.costL (usP h run m) = usC h run m
  | 0, _ => by
    unfold Prog.costL usP usC
    simp
    rw [Prog.w64 (x := 1) (by decide) (by decide)]
    exact Prog.w64 (by decide) (by decide)
  | m + 1, hm => by
    have ih := usP_cost h run hr m (by omega)
    have hb := usC_in h run hr m
    unfold usP usC
    by_cases hh : h m = true
    · rw [if_pos hh, if_pos hh]
      unfold Prog.costL at ih ⊢
      rw [List.foldl_append, ih]
      simp only [blk, List.foldl_cons, List.foldl_nil]
      simp
      rw [Prog.w64 (x := run) (by omega) (by omega), Prog.w64 (by omega) (by omega)]
    · rw [if_neg hh, if_neg hh, Int.add_zero]
      exact ih

section
variable (l : List Int) (hl : ∀ x ∈ l, (Lit.int .u8 x).wf = true) (h12 : l.length ≤ 12) (run b : Int) (hr : 1 ≤ run ∧ run ≤ 20) (hb : 1 ≤ b ∧ b ≤ 30)
def usT0 (s : ByteArray) (d b : Int) (p : List S52) : S56 := ⟨s, 900, d, b, p⟩
theorem usT0_f2 (s : ByteArray) (d b : Int) (p : List S52) : (usT0 s d b p).f2 = d := rfl
theorem usT0_f3 (s : ByteArray) (d b : Int) (p : List S52) : (usT0 s d b p).f3 = b := rfl
theorem usT0_f4 (s : ByteArray) (d b : Int) (p : List S52) : (usT0 s d b p).f4 = p := rfl
def usT (l : List Int) (run b : Int) (i : Nat) : S56 := usT0 (strOfNums (([(wrap64 (97 + (i : Int))) % 256] : List Int))) (wrap64 (100 + (i : Int))) b (usP (has l i) run 8)
def usS (l : List Int) (run b : Int) (q : Nat) : List S56 := (List.range q).map (usT l run b)
theorem usS_len (q : Nat) : (usS l run b q).length = q := by simp [usS]
theorem usS_get (q i : Nat) (h : i < q) : rd_T56 (usS l run b q) i = usT l run b i := by simp [rd_T56, usS, List.getD, h]
theorem dls_usS (q i : Nat) (h : i < q) (hq : q ≤ 1000000) : (dls (usS l run b q)).getD i 0 = 100 + i := by
  have hw : wrap64 (100 + (i : Int)) = 100 + i := w64 (by omega) (by omega)
  have hg : (dls (usS l run b q)).getD i 0 = (usT l run b i).f2 := by
    rw [dls, usS, List.map_map, List.getD, List.getElem?_map, List.getElem?_range h, Option.map_some, Option.getD_some, Function.comp_apply]
  rw [hg, usT, usT0_f2, hw]
theorem prio_usS (q i : Nat) (hi : i < q) (hq : q ≤ 1000000) : (prios (dls (usS l run b q))).getD i 0 = q - i := by
  have hlen : (dls (usS l run b q)).length = q := by rw [dls_len, usS_len]
  rw [prios_get _ i (by omega), hlen]
  have hsp := sorted_place (dls (usS l run b q)) (List.range q) (by rw [hlen]) (by
    refine List.Pairwise.imp_of_mem ?_ (List.pairwise_lt_range (n := q))
    intro x y hx hy hxy
    have hx' : x < q := by simpa using hx
    have hy' : y < q := by simpa using hy
    unfold dlt
    rw [dls_usS l run b q x hx' hq, dls_usS l run b q y hy' hq]
    simp only [decide_eq_true_eq]
    omega) i (by simpa using hi)
  have e : (List.range q).getD i 0 = i := by simp [List.getD, hi]
  rw [e] at hsp
  rw [hsp]
/-- The ceiling of k, as far as m tasks tell. -/
def wantV (l : List Int) (k : Nat) : Nat → Int
  | 0 => 0
  | m + 1 => if has l m k = true then mx (wantV l k m) ((l.length : Int) - m) else wantV l k m
theorem wantV_in (k : Nat) : ∀ m, m ≤ l.length → 0 ≤ wantV l k m ∧ wantV l k m ≤ l.length
  | 0, _ => ⟨Int.le_refl _, by simp [wantV]⟩
  | m + 1, h => by
    have ih := wantV_in k m (by omega)
    unfold wantV mx
    (repeat' split) <;> omega
theorem want_ceil (k : Nat) (hk : k < 8) (hq : l.length ≤ 1000000) : ∀ m, m ≤ l.length → ceilV (prios (dls (usS l run b l.length))) (fun i => usL (has l i) 8) k m = wantV l k m
  | 0, _ => rfl
  | m + 1, h => by
    have ih := want_ceil k hk hq m (by omega)
    unfold ceilV wantV
    rw [ih, prio_usS l run b _ m (by omega) hq]
    by_cases hh : has l m k = true
    · rw [if_pos ((usL_mem _ _ _).2 ⟨hk, hh⟩), if_pos hh]
    · rw [if_neg (fun c => hh ((usL_mem _ _ _).1 c).2), if_neg hh]
/-- The law's own row while task i is built, k locks seen. -/
def wst (l : List Int) (i k : Nat) : List Int := (List.range 8).map fun (j : Nat) => if j < k then wantV l j (i + 1) else wantV l j i
theorem wst_len (i k : Nat) : (wst l i k).length = 8 := by simp [wst]
theorem wst_get (i k : Nat) (h : k < 8) : (wst l i k).getD k 0 = wantV l k i := by simp [wst, List.getD, h]
theorem wst_next (i : Nat) : wst l i 8 = wst l (i + 1) 0 := by
  unfold wst
  refine List.map_congr_left fun j hj => ?_
  have : j < 8 := by simpa using hj
  rw [if_pos this, if_neg (by omega)]
theorem wst_set (i k : Nat) (h : k < 8) (v : Int) (hv : v = wantV l k (i + 1)) : (wst l i k).set k v = wst l i (k + 1) := by
  apply List.ext_getElem
  · simp [wst]
  · intro j h1 h2
    rw [List.getElem_set]
    simp only [wst, List.getElem_map, List.getElem_range]
    by_cases e : k = j
    · subst e
      rw [if_pos rfl, if_pos (by omega), hv]
    · rw [if_neg e]
      by_cases h3 : j < k
      · rw [if_pos h3, if_pos (by omega)]
      · rw [if_neg h3, if_neg (by omega)]
theorem wst_keep (i k : Nat) (hv : ¬ has l i k = true) : wst l i k = wst l i (k + 1) := by
  unfold wst
  refine List.map_congr_left fun j hj => ?_
  by_cases h3 : j < k
  · rw [if_pos h3, if_pos (by omega)]
  · rw [if_neg h3]
    by_cases e : j = k
    · subst e
      rw [if_pos (by omega), wantV, if_neg hv]
    · rw [if_neg (by omega)]
theorem wu (k : Nat) (h : k < 8) : IntKind.u64.wrap (k : Int) = k := by simp [IntKind.wrap, IntKind.bits, IntKind.signed]; omega

theorem us_locks (i : Nat) (hi : i < l.length) : Ev (fun k => prog_Locks.f k (rd_T56 (usS l run b l.length) i).f4) (usL (has l i) 8) := by
  rw [usS_get l run b _ i hi, usT, usT0_f4]
  have hlen := usP_len (has l i) run 8
  have hll := usL_len (has l i) 8
  have := Prog.locks_ev (usP (has l i) run 8) (by omega) (by rw [usP_locks]; omega) (by rw [usP_locks]; exact usL_inc _ _)
  rw [usP_locks] at this
  exact this
include hr in
theorem us_sect (x i : Nat) (hx : x < 8) (hi : i < l.length) : Ev (fun k => prog_Section.f k (rd_T56 (usS l run b l.length) i).f4 (x : Int)) (if has l i x = true then run else 0) := by
  rw [usS_get l run b _ i hi, usT, usT0_f4]
  have hlen := usP_len (has l i) run 8
  have := Prog.section_ev (x : Int) (usP (has l i) run 8) (usP_plain _ _ _) (by omega)
  obtain ⟨n, hs⟩ := usP_sec (has l i) run hr x 8
  have e : Prog.secL (x : Int) (usP (has l i) run 8) = if has l i x = true then run else 0 := by
    unfold Prog.secL
    rw [hs]
    simp only [hx, true_and]
  rw [e] at this
  exact this
include hr in
theorem us_cost (i : Nat) (hi : i < l.length) : Ev (fun k => prog_Cost.f k (rd_T56 (usS l run b l.length) i).f4) (usC (has l i) run 8) := by
  rw [usS_get l run b _ i hi, usT, usT0_f4]
  have hlen := usP_len (has l i) run 8
  have := Prog.cost_ev (usP (has l i) run 8) (usP_plain _ _ _) (by omega)
  rw [usP_cost _ _ hr 8 (by decide)] at this
  exact this
/-- What is told of lock x. -/
def usX (l : List Int) (run b : Int) (x : Nat) : List Int := sectsL (usS l run b l.length) (fun i => if has l i x = true then run else 0) (fun i => usC (has l i) run 8) l.length
include hr hb in
theorem usX_get (x i : Nat) (hx : x < 8) (hi : i < l.length) : (usX l run b x).getD i 0 = if has l i x = true then mn run b else 0 := by
  have hc := usC_in (has l i) run hr 8
  have e : (usX l run b x).getD i 0 = mn (if has l i x = true then run else 0) (mn (usC (has l i) run 8) (rd_T56 (usS l run b l.length) i).f3) := by
    simp [usX, sectsL, List.getD, hi]
  rw [e, usS_get l run b _ i hi, usT, usT0_f3]
  by_cases hh : has l i x = true
  · have := usC_has (has l i) run hr x hh 8 hx
    rw [if_pos hh, if_pos hh]
    unfold mn
    (repeat' split) <;> omega
  · rw [if_neg hh, if_neg hh]
    unfold mn
    (repeat' split) <;> omega

include h12 hr hb in
theorem us_l3 (x : Nat) (hx : x < 8) (hcont : Ev (fun f => watchbilllaw10_CeilUsers.l2 f l run b ((x + 1 : Nat) : Int) 8 (usS l run b l.length)) true) : ∀ d i : Nat, l.length - i = d → i ≤ l.length →
    Ev (fun f => watchbilllaw10_CeilUsers.l3 f l run b x (usX l run b x) i 8 (usS l run b l.length)) true := by
  intro d
  have hXl : (usX l run b x).length = l.length := by simp [usX, sectsL]
  induction d with
  | zero =>
    intro i hd hi
    exact Ev.step (fun f => by rw [watchbilllaw10_CeilUsers.l3, if_neg (by omega), w1 (by omega)]) hcont
  | succ d ih =>
    intro i hd hi
    have hil : i < l.length := by omega
    have hg := usX_get l run b hr hb x i hx hil
    have hi1 := ih (i + 1) (by omega) (by omega)
    refine Ev.step (fun f => ?_) hi1
    rw [watchbilllaw10_CeilUsers.l3, if_pos (by omega), if_pos (by omega), if_pos (by rw [wu x hx]; omega)]
    rw [rd_nat (usX l run b x) i, hg]
    by_cases hh : has l i x = true
    · rw [if_pos (show Go.bits .and .u8 (shr .u8 (rd l i) (IntKind.u64.wrap (x : Int))) 1 = 1 from (has_iff l i x).1 hh), if_pos (by omega), if_pos hh, if_pos rfl, w1 (by omega)]
    · rw [if_neg (show ¬ Go.bits .and .u8 (shr .u8 (rd l i) (IntKind.u64.wrap (x : Int))) 1 = 1 from fun c => hh ((has_iff l i x).2 c)), if_pos (by omega), if_neg hh, if_pos rfl, w1 (by omega)]
include h12 hr hb in
theorem us_l2 : ∀ d x : Nat, 8 - x = d → x ≤ 8 → Ev (fun f => watchbilllaw10_CeilUsers.l2 f l run b x 8 (usS l run b l.length)) true := by
  intro d
  induction d with
  | zero =>
    intro x hd hx
    exact Ev.step (f := fun _ => some _) (fun f => by rw [watchbilllaw10_CeilUsers.l2, if_neg (by omega)]) (Ev.now _)
  | succ d ih =>
    intro x hd hx
    have hx8 : x < 8 := by omega
    have hX := sects_ev 8 [] (usS l run b l.length) (by rw [usS_len]; omega) (x : Int) _ _ (fun i hi => us_sect l run b hr x i hx8 (by rw [usS_len] at hi; exact hi)) (fun i hi => us_cost l run b hr i (by rw [usS_len] at hi; exact hi)) (by omega) (by omega)
    rw [usS_len] at hX
    refine Ev.step (fun f => by rw [watchbilllaw10_CeilUsers.l2, if_pos (by omega)]) (Ev.bind hX ?_)
    refine Ev.congr (fun f => ?_) (us_l3 l h12 run b hr hb x hx8 (ih (x + 1) (by omega) (by omega)) _ 0 rfl (by omega))
    rw [if_pos (by simp [sectsL])]
    rfl
include hl h12 in
theorem us_l1 (i : Nat) (hi : i < l.length) (hcont : Ev (fun f => watchbilllaw10_CeilUsers.l0 f l run b (wst l (i + 1) 0) ((i + 1 : Nat) : Int) 8 (usS l run b (i + 1))) true) : ∀ d k : Nat, 8 - k = d → k ≤ 8 →
    Ev (fun f => watchbilllaw10_CeilUsers.l1 f l run b (wst l i k) i (usP (has l i) run k) k 8 (usS l run b i)) true := by
  intro d
  induction d with
  | zero =>
    intro k hd hk
    obtain rfl : k = 8 := by omega
    refine Ev.step (fun f => ?_) hcont
    have e : usS l run b (i + 1) = usS l run b i ++ [usT l run b i] := by simp [usS, List.range_succ]
    rw [watchbilllaw10_CeilUsers.l1, if_neg (by omega), usS_len, if_pos (by omega), w1 (by omega), e, wst_next]
    rfl
  | succ d ih =>
    intro k hd hk
    have hk8 : k < 8 := by omega
    have hi1 := ih (k + 1) (by omega) (by omega)
    refine Ev.step (fun f => ?_) hi1
    have hlen := usP_len (has l i) run k
    rw [watchbilllaw10_CeilUsers.l1, if_pos (by omega), if_pos (by omega), if_pos (by omega), if_pos (by rw [wu k hk8]; omega)]
    by_cases hh : has l i k = true
    · have hne : ¬ Go.bits .and .u8 (shr .u8 (rd l i) (IntKind.u64.wrap (k : Int))) 1 = 0 := by
        have := (has_iff l i k).1 hh
        unfold bitV at this
        omega
      have hset : (wst l i k).set k (mx (wantV l k i) ((l.length : Int) - i)) = wst l i (k + 1) := wst_set l i k hk8 _ (by rw [wantV, if_pos hh])
      rw [if_neg hne]
      simp only [Option.bind_some]
      rw [if_pos (by simp only [List.length_cons, List.length_nil]; omega), if_pos (by omega), if_pos (by rw [wst_len]; omega), rd_nat, wst_get l i k hk8, w64 (x := (l.length : Int) - i) (by omega) (by omega), Int.toNat_natCast, hset, w1 (by omega)]
      rw [usP, if_pos hh]
      rfl
    · have h0 : Go.bits .and .u8 (shr .u8 (rd l i) (IntKind.u64.wrap (k : Int))) 1 = 0 := by
        rcases bitV_two l hl i k hi with h | h
        · exact h
        · exact absurd ((has_iff l i k).2 h) hh
      rw [if_pos h0, w1 (by omega), wst_keep l i k hh, usP, if_neg hh]
include hl h12 hr hb in
theorem us_l0 (h1 : 1 ≤ l.length) : ∀ d i : Nat, l.length - i = d → i ≤ l.length → Ev (fun f => watchbilllaw10_CeilUsers.l0 f l run b (wst l i 0) i 8 (usS l run b i)) true := by
  intro d
  induction d with
  | zero =>
    intro i hd hi
    obtain rfl : i = l.length := by omega
    have hc := ceil_ev (fun i => usL (has l i) 8) [] (usS l run b l.length) (by rw [usS_len]; omega) (fun i hi => us_locks l run b i (by rw [usS_len] at hi; exact hi)) (fun i => by have := usL_len (has l i) 8; omega) 8 (by decide)
    have e : ceilsL (prios (dls (usS l run b l.length))) (fun i => usL (has l i) 8) (usS l run b l.length).length 8 = wst l l.length 0 := by
      unfold ceilsL wst
      refine List.map_congr_left fun j hj => ?_
      have : j < 8 := by simpa using hj
      rw [if_neg (by omega), usS_len]
      exact want_ceil l run b j this (by omega) _ (by omega)
    rw [e] at hc
    have hc2 : Ev (fun k => ceil_Of.f k 8 [] (usS l run b l.length)) (wst l l.length 0) := hc
    refine Ev.step (fun f => by rw [watchbilllaw10_CeilUsers.l0, if_neg (by omega)]) (Ev.bind hc2 ?_)
    refine Ev.bind (ints_ev (wst l l.length 0) (by rw [wst_len]; decide)) ?_
    refine Ev.congr (fun f => ?_) (us_l2 l h12 run b hr hb _ 0 rfl (by omega))
    rw [if_pos rfl]
    rfl
  | succ d ih =>
    intro i hd hi
    have h := us_l1 l hl h12 run b i (by omega) (ih (i + 1) (by omega) (by omega)) _ 0 rfl (by omega)
    refine Ev.step (fun f => ?_) h
    rw [watchbilllaw10_CeilUsers.l0, if_pos (by omega)]
    rfl
end
set_option maxRecDepth 100000 in
theorem us_known : watchbilllaw10_known.f 60 = some true := by kernel_rfl
theorem CeilUsers : watchbilllaw10_CeilUsers.Pure := by
  intro l a1 a2 _ _ hl ha1 ha2
  have hk : Ev (fun k => watchbilllaw10_known.f k) true := Ev.of watchbilllaw10_known.mono us_known
  refine Ev.rounds (Ev.bind (f := fun k t => if t = true then (if (l.length : Int) < 1 then (watchbilllaw10_CeilUsers.j0 k l a1 a2 true) else (watchbilllaw10_CeilUsers.j0 k l a1 a2 (decide ((l.length : Int) > 12)))) else (some false)) hk ?_)
  have ht : Ev (fun k => watchbilllaw10_CeilUsers.j0 k l a1 a2 true) true := Ev.step (f := fun _ => some true) (fun k => by rw [watchbilllaw10_CeilUsers.j0, if_pos rfl]) (Ev.now _)
  by_cases h1 : (l.length : Int) < 1
  · exact Ev.congr (fun k => by rw [if_pos rfl, if_pos h1]) ht
  · by_cases h2 : (l.length : Int) > 12
    · exact Ev.congr (fun k => by rw [if_pos rfl, if_neg h1, decide_eq_true h2]) ht
    · refine Ev.congr (fun k => by rw [if_pos rfl, if_neg h1, decide_eq_false h2]) ?_
      have u1 := u8_of ha1
      have u2 := u8_of ha2
      have m1 : Int.tmod a1 20 = a1 % 20 := Int.tmod_eq_emod_of_nonneg u1.1
      have m2 : Int.tmod a2 30 = a2 % 30 := Int.tmod_eq_emod_of_nonneg u2.1
      have e1 : wrap64 (1 + wrap64 (Int.tmod a1 20)) = 1 + a1 % 20 := by rw [m1, w64 (x := a1 % 20) (by omega) (by omega), w64 (by omega) (by omega)]
      have e2 : wrap64 (1 + wrap64 (Int.tmod a2 30)) = 1 + a2 % 30 := by rw [m2, w64 (x := a2 % 30) (by omega) (by omega), w64 (by omega) (by omega)]
      have h := us_l0 l hl (by omega) (1 + a1 % 20) (1 + a2 % 30) (by omega) (by omega) (by omega) _ 0 rfl (by omega)
      refine Ev.step (fun k => ?_) h
      rw [watchbilllaw10_CeilUsers.j0, if_neg (by decide), if_pos (by decide), e1, e2]
      rfl
end Go.Proofs.Ytniphoeoeekpbaa.Pure
