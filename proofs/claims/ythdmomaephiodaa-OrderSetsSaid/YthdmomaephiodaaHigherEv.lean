/- order.Higher in plain words. -/
import Derived.Test.YthdmomaephiodaaWhichEv
import Derived.Test.YthdmomaephiodaaXAx1
namespace Go.Proofs.Ythdmomaephiodaa.Pure
set_option linter.unusedVariables false
set_option linter.unusedSimpArgs false
open Go.RowKit Go.Proofs.Ythdmomaephiodaa.XA Go.Proofs.YthdmomaephiodaaW.PrintWords Go.Proofs.YthdmomaephiodaaW.PrintLast
open Go.Proofs.YthdmomaephiodaaH (prios dlt prios_get prios_len ahead_lt ahead_iff)
theorem higher_ev (a : Int) (cs : List S66) (ts : List S48) (h : 1 ≤ ts.length ∧ ts.length < 20) (i : Nat) (hi : i < ts.length) :
    Ev (fun k => order_Higher.f k a cs ts i) (castL (whichL (prios (dls ts)) i 1)) := Ev.bind (which_ev a cs ts h i hi 1) (Ev.now _)
theorem higher_out (a : Int) (cs : List S66) (ts : List S48) (h : 1 ≤ ts.length ∧ ts.length < 20) (i : Int) (hi : i < 0 ∨ (ts.length : Int) ≤ i) :
    Ev (fun k => order_Higher.f k a cs ts i) [] := Ev.bind (which_out a cs ts h i hi 1) (Ev.now _)
end Go.Proofs.Ythdmomaephiodaa.Pure
