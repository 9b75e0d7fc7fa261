/- What the printed functions of package ceil tell, in plain words. -/
import Derived.Test.YtniphoeoeekpbaaPriosEv
import Derived.Test.YtniphoeoeekpbaaXAx2
import Derived.Test.YtniphoeoeekpbaaXAx5
namespace Go.Proofs.Ytniphoeoeekpbaa.Pure
set_option linter.unusedVariables false
set_option linter.unusedSimpArgs false
open Go.RowKit Go.Proofs.Ytniphoeoeekpbaa.XA Go.Proofs.YtniphoeoeekpbaaW.PrintWords Go.Proofs.YtniphoeoeekpbaaW.PrintLast Go.Proofs.YtniphoeoeekpbaaW.PrintMore
open Go.Proofs.YtniphoeoeekpbaaH (prios dlt prios_get prios_len ahead_lt ahead_iff)

theorem index_loop (l : List Int) (x : Int) (hn : l.length ≤ 1000000000) : ∀ d q : Nat, l.length - q = d → q ≤ l.length →
    ∃ r : Int, Ev (fun k => slices_Index_int_int.l0 k l x (l.length : Int) q) r ∧ (0 ≤ r ↔ x ∈ l.drop q) := by
  intro d
  induction d with
  | zero =>
    intro q hd hq
    refine ⟨-1, Ev.step (f := fun _ => some _) (fun k => by rw [slices_Index_int_int.l0, if_neg (by omega)]) (Ev.now _), ?_⟩
    rw [List.drop_of_length_le (by omega)]
    simp
  | succ d ih =>
    intro q hd hq
    have hlt : q < l.length := by omega
    obtain ⟨r, hr, hiff⟩ := ih (q + 1) (by omega) (by omega)
    have hdr : l.drop q = l.getD q 0 :: l.drop (q + 1) := by
      rw [List.drop_eq_getElem_cons hlt]
      simp [List.getD, hlt]
    by_cases e : x = l.getD q 0
    · refine ⟨(q : Int), Ev.step (f := fun _ => some _) (fun k => by rw [slices_Index_int_int.l0, if_pos (by omega), if_pos (by omega), if_pos (by omega), rd_nat, if_pos e]) (Ev.now _), ?_⟩
      rw [hdr, e]
      simp
    · refine ⟨r, Ev.step (fun k => by rw [slices_Index_int_int.l0, if_pos (by omega), if_pos (by omega), if_pos (by omega), rd_nat, if_neg e, w1 (by omega)]) hr, ?_⟩
      rw [hiff, hdr, List.mem_cons]
      exact ⟨Or.inr, fun h => h.resolve_left e⟩
theorem contains_ev (l : List Int) (x : Int) (hn : l.length ≤ 1000000000) : Ev (fun k => slices_Contains_int_int.f k l x) (decide (x ∈ l)) := by
  obtain ⟨r, hr, hiff⟩ := index_loop l x hn _ 0 rfl (by omega)
  rw [List.drop_zero] at hiff
  have : decide (x ∈ l) = decide (r ≥ 0) := by rw [decide_eq_decide, ← hiff]
  rw [this]
  exact Ev.bind (f := fun _ t => some (decide (t ≥ 0))) hr (Ev.now _)

/-- The ceiling of x, as far as m tasks tell: P their priorities, L their locks. -/
def ceilV (P : List Int) (L : Nat → List Int) (x : Int) : Nat → Int
  | 0 => 0
  | m + 1 => if x ∈ L m then mx (ceilV P L x m) (P.getD m 0) else ceilV P L x m
theorem ceilV_le (P : List Int) (L : Nat → List Int) (x : Int) (n : Int) (hn : 0 ≤ n) (hP : ∀ i, P.getD i 0 ≤ n) : ∀ m, ceilV P L x m ≤ n
  | 0 => hn
  | m + 1 => by
    have := ceilV_le P L x n hn hP m
    have := hP m
    unfold ceilV mx
    (repeat' split) <;> omega
theorem ceilV_mono (P : List Int) (L : Nat → List Int) (x : Int) (m : Nat) : ∀ d, ceilV P L x m ≤ ceilV P L x (m + d)
  | 0 => Int.le_refl _
  | d + 1 => by
    have := ceilV_mono P L x m d
    rw [← Nat.add_assoc, ceilV]
    unfold mx
    (repeat' split) <;> omega
theorem ceilV_full (P : List Int) (L : Nat → List Int) (x : Int) (n : Int) (hn : 0 ≤ n) (hP : ∀ i, P.getD i 0 ≤ n) (q m : Nat) (hq : q ≤ m) (h : ceilV P L x q = n) : ceilV P L x m = n := by
  have h1 := ceilV_mono P L x q (m - q)
  rw [show q + (m - q) = m by omega] at h1
  have h2 := ceilV_le P L x n hn hP m
  omega
/-- The ceilings while lock x is looked at, q tasks seen. -/
def cst (P : List Int) (L : Nat → List Int) (m N x q : Nat) : List Int := (List.range N).map fun (j : Nat) => if j < x then ceilV P L j m else if j = x then ceilV P L j q else 0
theorem cst_len (P : List Int) (L : Nat → List Int) (m N x q : Nat) : (cst P L m N x q).length = N := by simp [cst]
theorem cst_get (P : List Int) (L : Nat → List Int) (m N x q : Nat) (h : x < N) : (cst P L m N x q).getD x 0 = ceilV P L x q := by simp [cst, List.getD, h]
theorem cst_next (P : List Int) (L : Nat → List Int) (m N x q : Nat) (h : ceilV P L x q = ceilV P L x m) : cst P L m N x q = cst P L m N (x + 1) 0 := by
  unfold cst
  refine List.map_congr_left fun j hj => ?_
  by_cases h1 : j < x
  · rw [if_pos h1, if_pos (by omega)]
  · by_cases h2 : j = x
    · subst h2
      rw [if_neg (by omega), if_pos rfl, if_pos (by omega), h]
    · rw [if_neg h1, if_neg h2, if_neg (by omega)]
      by_cases h3 : j = x + 1
      · rw [if_pos h3]; rfl
      · rw [if_neg h3]
theorem cst_set (P : List Int) (L : Nat → List Int) (m N x q : Nat) (h : x < N) (hx : (x : Int) ∈ L q) : (cst P L m N x q).set x (mx (ceilV P L x q) (P.getD q 0)) = cst P L m N x (q + 1) := by
  apply List.ext_getElem
  · simp [cst]
  · intro j h1 h2
    simp only [cst, List.length_map, List.length_range, List.length_set] at h1 h2
    rw [List.getElem_set]
    simp only [cst, List.getElem_map, List.getElem_range]
    by_cases e : x = j
    · subst e
      rw [if_pos rfl, if_neg (by omega), if_pos rfl, ceilV, if_pos hx]
    · rw [if_neg e]
      by_cases h3 : j < x
      · rw [if_pos h3, if_pos h3]
      · rw [if_neg h3, if_neg h3, if_neg (by omega), if_neg (by omega)]
theorem cst_keep (P : List Int) (L : Nat → List Int) (m N x q : Nat) (hx : ¬ (x : Int) ∈ L q) : cst P L m N x q = cst P L m N x (q + 1) := by
  unfold cst
  refine List.map_congr_left fun j hj => ?_
  by_cases h1 : j < x
  · rw [if_pos h1, if_pos h1]
  · by_cases h2 : j = x
    · subst h2
      rw [if_neg h1, if_neg h1, if_pos rfl, if_pos rfl, ceilV, if_neg hx]
    · rw [if_neg h1, if_neg h1, if_neg h2, if_neg h2]

section
variable (P : List Int) (L : Nat → List Int) (a : Int) (cs : List S64) (ts : List S56) (hP : P.length = ts.length) (hPn : ∀ i, P.getD i 0 ≤ (P.length : Int)) (hm : ts.length ≤ 1000000)
  (hL : ∀ i, i < ts.length → Ev (fun k => prog_Locks.f k (rd_T56 ts i).f4) (L i)) (hLn : ∀ i, (L i).length ≤ 1000000000) (N : Nat) (hN : N ≤ 1000000)
include hP hPn hm hL hLn hN
theorem ceil_l1 (x : Nat) (hx : x < N) (R : List Int) (hcont : Ev (fun k => ceil_Of.l0 k P (cst P L ts.length N (x + 1) 0) (N : Int) ((x + 1 : Nat) : Int) a cs ts) R) : ∀ d q : Nat, ts.length - q = d → q ≤ ts.length →
    Ev (fun k => ceil_Of.l1 k P (cst P L ts.length N x q) (x : Int) (N : Int) (x : Int) ts (ts.length : Int) q a cs ts) R := by
  intro d
  induction d with
  | zero =>
    intro q hd hq
    obtain rfl : q = ts.length := by omega
    refine Ev.step (fun k => ?_) hcont
    rw [ceil_Of.l1, if_neg (by omega), w1 (by omega), cst_next _ _ _ _ _ _ rfl]
  | succ d ih =>
    intro q hd hq
    have hi := ih (q + 1) (by omega) (by omega)
    have hc := contains_ev (L q) (x : Int) (hLn q)
    refine Ev.step (fun k => by rw [ceil_Of.l1, if_pos (by omega), if_pos (by omega), if_pos (by omega)]) ?_
    refine Ev.bind (hL q (by omega)) (Ev.bind hc ?_)
    by_cases hmem : (x : Int) ∈ L q
    · have hcl : (x : Int) < ((cst P L ts.length N x q).length : Int) := by rw [cst_len]; omega
      have hb : decide ((x : Int) ∈ L q) = true := decide_eq_true hmem
      have hR : Ev (fun k => if mx (ceilV P L x q) (P.getD q 0) = (P.length : Int) then ceil_Of.l0 k P (cst P L ts.length N x (q + 1)) (N : Int) ((x + 1 : Nat) : Int) a cs ts else ceil_Of.l1 k P (cst P L ts.length N x (q + 1)) (x : Int) (N : Int) (x : Int) ts (ts.length : Int) ((q + 1 : Nat) : Int) a cs ts) R := by
        by_cases hf : mx (ceilV P L x q) (P.getD q 0) = (P.length : Int)
        · have hq1 : ceilV P L x (q + 1) = (P.length : Int) := by rw [ceilV, if_pos hmem]; exact hf
          have hfull := ceilV_full P L x (P.length : Int) (by omega) hPn (q + 1) ts.length (by omega) hq1
          refine Ev.congr (fun k => by rw [if_pos hf]) ?_
          rw [cst_next _ _ _ _ _ _ (hq1.trans hfull.symm)]
          exact hcont
        · exact Ev.congr (fun k => by rw [if_neg hf]) hi
      refine Ev.congr (fun k => ?_) hR
      rw [if_pos hb, if_pos (by omega), if_pos hcl, if_pos (by omega)]
      simp only [Option.bind_some, rd_nat, Int.toNat_natCast]
      rw [cst_get _ _ _ _ _ _ hx, cst_set _ _ _ _ _ _ hx hmem, w1 (by omega), w1 (by omega)]
    · have hb : ¬ decide ((x : Int) ∈ L q) = true := by simpa using hmem
      rw [← cst_keep _ _ _ _ _ _ hmem] at hi
      refine Ev.congr (fun k => ?_) hi
      rw [if_neg hb, w1 (by omega)]
theorem ceil_l0 : ∀ d x : Nat, N - x = d → x ≤ N → Ev (fun k => ceil_Of.l0 k P (cst P L ts.length N x 0) (N : Int) (x : Int) a cs ts) (cst P L ts.length N N 0) := by
  intro d
  induction d with
  | zero =>
    intro x hd hx
    obtain rfl : x = N := by omega
    exact Ev.step (f := fun _ => some _) (fun k => by rw [ceil_Of.l0, if_neg (by omega)]) (Ev.now _)
  | succ d ih =>
    intro x hd hx
    have h := ceil_l1 P L a cs ts hP hPn hm hL hLn N hN x (by omega) _ (ih (x + 1) (by omega) (by omega)) _ 0 rfl (by omega)
    refine Ev.step (fun k => ?_) h
    rw [ceil_Of.l0, if_pos (by omega)]
    rfl
end
theorem prios_le (ds : List Int) (i : Nat) : (prios ds).getD i 0 ≤ (ds.length : Int) := by
  by_cases h : i < ds.length
  · rw [prios_get ds i h]
    omega
  · simp [prios, List.getD, h]
/-- What ceil.Of tells. -/
def ceilsL (P : List Int) (L : Nat → List Int) (m N : Nat) : List Int := (List.range N).map fun (j : Nat) => ceilV P L j m
theorem ceil_ev (L : Nat → List Int) (cs : List S64) (ts : List S56) (h : 1 ≤ ts.length ∧ ts.length < 20) (hL : ∀ i, i < ts.length → Ev (fun k => prog_Locks.f k (rd_T56 ts i).f4) (L i)) (hLn : ∀ i, (L i).length ≤ 1000000000) (N : Nat) (hN : N ≤ 1000000) :
    Ev (fun k => ceil_Of.f k (N : Int) cs ts) (ceilsL (prios (dls ts)) L ts.length N) := by
  have hl : (prios (dls ts)).length = ts.length := by rw [prios_len, dls_len]
  have h0 := ceil_l0 (prios (dls ts)) L (N : Int) cs ts hl (fun i => by rw [prios_len]; exact prios_le _ i) (by omega) hL hLn N hN _ 0 rfl (by omega)
  have e0 : cst (prios (dls ts)) L ts.length N 0 0 = List.replicate N 0 := by
    apply List.ext_getElem
    · simp [cst]
    · intro j h1 h2
      simp only [cst, List.getElem_map, List.getElem_range, List.getElem_replicate]
      rw [if_neg (by omega)]
      split
      · rfl
      · rfl
  have e1 : cst (prios (dls ts)) L ts.length N N 0 = ceilsL (prios (dls ts)) L ts.length N := by
    unfold cst ceilsL
    refine List.map_congr_left fun j hj => ?_
    have : j < N := by simpa using hj
    rw [if_pos this]
  rw [e0, e1] at h0
  have hmx : mx (N : Int) 0 = N := by unfold mx; rw [if_neg (by omega)]
  unfold ceil_Of.f
  rw [prios_f _ _ _ h]
  refine Ev.congr (fun k => ?_) h0
  simp only [Option.bind_some, hmx, Int.toNat_natCast]
  rw [if_pos (by omega), if_pos (by omega), List.length_replicate]
  rfl

section
variable (n : Int) (cs : List S64) (ts : List S56) (hm : ts.length ≤ 1000000) (lock : Int) (S C : Nat → Int)
  (hS : ∀ i, i < ts.length → Ev (fun k => prog_Section.f k (rd_T56 ts i).f4 lock) (S i)) (hC : ∀ i, i < ts.length → Ev (fun k => prog_Cost.f k (rd_T56 ts i).f4) (C i))
/-- What ceil.Sections tells. -/
def sectsL (ts : List S56) (S C : Nat → Int) (m : Nat) : List Int := (List.range m).map fun (i : Nat) => mn (S i) (mn (C i) (rd_T56 ts i).f3)
include hm hS hC
theorem sects_loop : ∀ d q : Nat, ts.length - q = d → q ≤ ts.length → Ev (fun k => ceil_Sections.l0 k lock (sectsL ts S C q) ts (ts.length : Int) q) (sectsL ts S C ts.length) := by
  intro d
  induction d with
  | zero =>
    intro q hd hq
    obtain rfl : q = ts.length := by omega
    exact Ev.step (f := fun _ => some _) (fun k => by rw [ceil_Sections.l0, if_neg (by omega)]) (Ev.now _)
  | succ d ih =>
    intro q hd hq
    have hi := ih (q + 1) (by omega) (by omega)
    have hn : Ev (fun k => set_Need.f k (rd_T56 ts q).f0 (rd_T56 ts q).f1 (rd_T56 ts q).f2 (rd_T56 ts q).f3 (rd_T56 ts q).f4) (mn (C q) (rd_T56 ts q).f3) :=
      Ev.bind (f := fun _ t => some (mn t (rd_T56 ts q).f3)) (hC q (by omega)) (Ev.now _)
    refine Ev.step (fun k => by rw [ceil_Sections.l0, if_pos (by omega), if_pos (by omega), if_pos (by omega)]) ?_
    refine Ev.bind (hS q (by omega)) (Ev.bind hn ?_)
    refine Ev.congr (fun k => ?_) hi
    have hlen : (sectsL ts S C q).length = q := by simp [sectsL]
    rw [if_pos (by omega), w1 (by omega)]
    congr 1
    simp only [sectsL, List.range_succ, List.map_append, List.map_cons, List.map_nil]
theorem sects_ev (h0 : 0 ≤ lock) (h1 : lock < n) : Ev (fun k => ceil_Sections.f k n cs ts lock) (sectsL ts S C ts.length) := by
  have h := sects_loop ts hm lock S C hS hC _ 0 rfl (by omega)
  refine Ev.congr (f := fun k => ceil_Sections.j0 k lock false n cs ts) (fun k => ?_) (Ev.step (fun k => ?_) h)
  · unfold ceil_Sections.f
    rw [if_neg (by omega)]
    congr 1
    simp only [decide_eq_false_iff_not]
    omega
  · rw [ceil_Sections.j0, if_neg (by decide)]
    rfl
end
theorem sects_out (n : Int) (cs : List S64) (ts : List S56) (lock : Int) (h : lock < 0 ∨ n ≤ lock) : Ev (fun k => ceil_Sections.f k n cs ts lock) [] := by
  refine Ev.congr (f := fun k => ceil_Sections.j0 k lock true n cs ts) (fun k => ?_) (Ev.step (f := fun _ => some []) (fun k => by rw [ceil_Sections.j0, if_pos rfl]) (Ev.now _))
  unfold ceil_Sections.f
  by_cases h0 : lock < 0
  · rw [if_pos h0]
  · rw [if_neg h0]
    congr 1
    simp only [decide_eq_true_eq]
    omega
end Go.Proofs.Ytniphoeoeekpbaa.Pure
