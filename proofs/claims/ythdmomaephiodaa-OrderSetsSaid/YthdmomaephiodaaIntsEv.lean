/- Rows that are alike are found alike. -/
import Derived.Test.YthdmomaephiodaaXAx1
import Derived.Test.YthdmomaephiodaaPriosEv
namespace Go.Proofs.Ythdmomaephiodaa.Pure
set_option linter.unusedVariables false
set_option linter.unusedSimpArgs false
open Go.RowKit Go.Proofs.Ythdmomaephiodaa.XA Go.Proofs.YthdmomaephiodaaW.PrintWords Go.Proofs.YthdmomaephiodaaW.PrintLast Go.Proofs.YthdmomaephiodaaW.PrintMore
theorem ints_loop (l : List Int) (hn : l.length ≤ 1000000000) : ∀ d q : Nat, l.length - q = d → q ≤ l.length → Ev (fun k => watchbilllaw1_Ints.l0 k l l q) true := by
  intro d
  induction d with
  | zero =>
    intro q hd hq
    exact Ev.step (f := fun _ => some _) (fun k => by rw [watchbilllaw1_Ints.l0, if_neg (by omega)]) (Ev.now _)
  | succ d ih =>
    intro q hd hq
    exact Ev.step (fun k => by rw [watchbilllaw1_Ints.l0, if_pos (by omega), if_pos (by omega), if_pos (by omega), if_pos rfl, w1 (by omega)]) (ih (q + 1) (by omega) (by omega))
theorem ints_ev (l : List Int) (hn : l.length ≤ 1000000000) : Ev (fun k => watchbilllaw1_Ints.f k l l) true := by
  refine Ev.congr (fun k => ?_) (ints_loop l hn _ 0 rfl (by omega))
  unfold watchbilllaw1_Ints.f
  rw [if_pos rfl]
  rfl
end Go.Proofs.Ythdmomaephiodaa.Pure
