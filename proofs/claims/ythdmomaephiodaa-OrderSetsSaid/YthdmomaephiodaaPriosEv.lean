/- Priorities as the print tells them, in plain words. -/
import Derived.Test.YthdmomaephiodaaXAx1
namespace Go.Proofs.Ythdmomaephiodaa.Pure
set_option linter.unusedVariables false
set_option linter.unusedSimpArgs false
open Go.RowKit Go.Proofs.Ythdmomaephiodaa.XA Go.Proofs.YthdmomaephiodaaW.PrintWords Go.Proofs.YthdmomaephiodaaW.PrintLast
open Go.Proofs.YthdmomaephiodaaH (prios dlt prios_get prios_len ahead_lt ahead_iff)

theorem w64 {x : Int} (h0 : -9223372036854775808 ≤ x) (h1 : x ≤ 9223372036854775807) : wrap64 x = x := by unfold wrap64; omega
theorem w1 {q : Nat} (h : q ≤ 9223372036854775806) : wrap64 ((q : Int) + 1) = ((q + 1 : Nat) : Int) := by rw [w64 (by omega) (by omega)]; omega
theorem u8_of {x : Int} (h : (Lit.int .u8 x).wf = true) : 0 ≤ x ∧ x ≤ 255 := Go.Proofs.YthdmomaephiodaaH.wf_u8 h
theorem rd_nat (xs : List Int) (i : Nat) : rd xs i = xs.getD i 0 := by simp [rd]

theorem prios_f (a : Int) (cs : List S66) (ts : List S48) (h : 1 ≤ ts.length ∧ ts.length < 20) : order_Prios.f a cs ts = some (prios (dls ts)) := by
  unfold order_Prios.f
  rw [if_pos h]
theorem dls_len (ts : List S48) : (dls ts).length = ts.length := by simp [dls]
end Go.Proofs.Ythdmomaephiodaa.Pure
