/- Sums that fit. -/
import Derived.Test.YtjnhahdelipebaaNest
namespace Go.Proofs.Ytjnhahdelipebaa.Nest
set_option linter.unusedVariables false
set_option linter.unusedSimpArgs false
open Go.RowKit Go.Proofs.Ytjnhahdelipebaa.XA
theorem w64 {x : Int} (h0 : -9223372036854775808 ≤ x) (h1 : x ≤ 9223372036854775807) : wrap64 x = x := by unfold wrap64; omega
theorem w1 {q : Nat} (h : q ≤ 9223372036854775806) : wrap64 ((q : Int) + 1) = ((q + 1 : Nat) : Int) := by rw [w64 (by omega) (by omega)]; omega
end Go.Proofs.Ytjnhahdelipebaa.Nest
