/- The reference's priorities in plain words. -/
import Derived.Test.YthdmomaephiodaaWhichEv
import Derived.Test.YthdmomaephiodaaXAx11
namespace Go.Proofs.Ythdmomaephiodaa.Pure
set_option linter.unusedVariables false
set_option linter.unusedSimpArgs false
open Go.RowKit Go.Proofs.Ythdmomaephiodaa.XA Go.Proofs.YthdmomaephiodaaW.PrintWords Go.Proofs.YthdmomaephiodaaW.PrintLast
open Go.Proofs.YthdmomaephiodaaH (prios dlt prios_get prios_len ahead_lt ahead_iff)
def dlsR (ts : List S60) : List Int := ts.map (·.f2)
theorem dlsR_get (ts : List S60) (i : Nat) (h : i < ts.length) : (rd_T60 ts i).f2 = (dlsR ts).getD i 0 := by simp [rd_T60, dlsR, List.getD, h]
section
variable (a : Int) (cs : List S63) (ts : List S60) (hn : ts.length ≤ 1000000)
include hn
theorem priosR_l1 (i : Nat) (hi : i < ts.length) (acc R : List Int) (hacc : acc.length ≤ 1000000) (hc : Ev (fun k => watchbillref13_Prios.l0 k (acc ++ [(ts.length : Int) - (Go.Proofs.YthdmomaephiodaaH.ahead (dlsR ts) i : Nat)]) ((i + 1 : Nat) : Int) a cs ts) R) : ∀ d q : Nat, ts.length - q = d → q ≤ ts.length →
    Ev (fun k => watchbillref13_Prios.l1 k acc (i : Int) ((ts.length : Int) - ((List.range q).countP fun k => dlt (dlsR ts) k i : Nat)) q a cs ts) R := by
  intro d
  induction d with
  | zero =>
    intro q hd hq
    obtain rfl : q = ts.length := by omega
    have e : (List.range ts.length).countP (fun k => dlt (dlsR ts) k i) = Go.Proofs.YthdmomaephiodaaH.ahead (dlsR ts) i := by simp [Go.Proofs.YthdmomaephiodaaH.ahead, dlsR]
    rw [e]
    exact Ev.step (fun k => by rw [watchbillref13_Prios.l1, if_neg (by omega), if_pos (by omega), w1 (by omega)]) hc
  | succ d ih =>
    intro q hd hq
    have hi2 := ih (q + 1) (by omega) (by omega)
    have hcq : (List.range q).countP (fun k => dlt (dlsR ts) k i) ≤ q := by
      have := List.countP_le_length (p := fun k => dlt (dlsR ts) k i) (l := List.range q)
      simpa using this
    rw [List.range_succ, List.countP_append, List.countP_cons, List.countP_nil] at hi2
    have hg1 := dlsR_get ts q (by omega)
    have hg2 := dlsR_get ts i hi
    have hstep : ∀ r : Bool, dlt (dlsR ts) q i = r → Ev (fun k => watchbillref13_Prios.l1 k acc (i : Int) ((ts.length : Int) - ((List.range q).countP fun k => dlt (dlsR ts) k i : Nat) - if r = true then 1 else 0) ((q + 1 : Nat) : Int) a cs ts) R := by
      intro r hr
      rw [hr] at hi2
      refine Ev.congr (fun k => ?_) hi2
      congr 1
      split <;> omega
    by_cases h1 : (dlsR ts).getD q 0 < (dlsR ts).getD i 0
    · have := hstep true (by simp only [dlt, decide_eq_true_eq]; exact .inl h1)
      rw [if_pos rfl] at this
      refine Ev.step (fun k => ?_) this
      rw [watchbillref13_Prios.l1, if_pos (by omega), if_pos (by omega), if_pos (by omega), if_pos (by omega), hg1, hg2, if_pos h1, w64 (by omega) (by omega), w1 (by omega)]
    · by_cases h2 : (dlsR ts).getD q 0 = (dlsR ts).getD i 0
      · by_cases h3 : q < i
        · have := hstep true (by simp only [dlt, decide_eq_true_eq]; exact .inr ⟨h2, h3⟩)
          rw [if_pos rfl] at this
          refine Ev.step (fun k => ?_) this
          rw [watchbillref13_Prios.l1, if_pos (by omega), if_pos (by omega), if_pos (by omega), if_pos (by omega), hg1, hg2, if_neg h1, if_pos h2, if_pos (by omega), w64 (by omega) (by omega), w1 (by omega)]
        · have := hstep false (by simp only [dlt, decide_eq_false_iff_not]; omega)
          rw [if_neg (by decide), Int.sub_zero] at this
          refine Ev.step (fun k => ?_) this
          rw [watchbillref13_Prios.l1, if_pos (by omega), if_pos (by omega), if_pos (by omega), if_pos (by omega), hg1, hg2, if_neg h1, if_pos h2, if_neg (by omega), w1 (by omega)]
      · have := hstep false (by simp only [dlt, decide_eq_false_iff_not]; omega)
        rw [if_neg (by decide), Int.sub_zero] at this
        refine Ev.step (fun k => ?_) this
        rw [watchbillref13_Prios.l1, if_pos (by omega), if_pos (by omega), if_pos (by omega), if_pos (by omega), hg1, hg2, if_neg h1, if_neg h2, w1 (by omega)]
def priosTo (ds : List Int) (n q : Nat) : List Int := (List.range q).map fun i => (n : Int) - (Go.Proofs.YthdmomaephiodaaH.ahead ds i : Nat)
theorem priosR_l0 : ∀ d i : Nat, ts.length - i = d → i ≤ ts.length → Ev (fun k => watchbillref13_Prios.l0 k (priosTo (dlsR ts) ts.length i) (i : Int) a cs ts) (prios (dlsR ts)) := by
  intro d
  induction d with
  | zero =>
    intro i hd hi
    obtain rfl : i = ts.length := by omega
    have e : priosTo (dlsR ts) ts.length ts.length = prios (dlsR ts) := by simp [priosTo, prios, dlsR]
    rw [e]
    exact Ev.step (f := fun _ => some _) (fun k => by rw [watchbillref13_Prios.l0, if_neg (by omega)]) (Ev.now _)
  | succ d ih =>
    intro i hd hi
    have hi2 := ih (i + 1) (by omega) (by omega)
    have e : priosTo (dlsR ts) ts.length (i + 1) = priosTo (dlsR ts) ts.length i ++ [(ts.length : Int) - (Go.Proofs.YthdmomaephiodaaH.ahead (dlsR ts) i : Nat)] := by simp [priosTo, List.range_succ]
    rw [e] at hi2
    have h := priosR_l1 a cs ts hn i (by omega) (priosTo (dlsR ts) ts.length i) _ (by simp [priosTo]; omega) hi2 _ 0 rfl (by omega)
    refine Ev.step (fun k => ?_) h
    rw [watchbillref13_Prios.l0, if_pos (by omega)]
    simp
theorem priosR_ev : Ev (fun k => watchbillref13_Prios.f k a cs ts) (prios (dlsR ts)) := priosR_l0 a cs ts hn _ 0 rfl (by omega)
end
end Go.Proofs.Ythdmomaephiodaa.Pure
