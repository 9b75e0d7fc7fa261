/- What is wrong with an op: plain words. -/
import Derived.WalkKit
namespace Go.Proofs.Ytjnhahdelipebaa.XA
set_option linter.unusedVariables false
set_option linter.unusedSimpArgs false
def badC (c : Bool × Int × Int) : Bool := decide (c.2.1 < 0) || decide (8 ≤ c.2.1) || (!c.1 && c.2.2 != 0)
def casesF : List Int → List (Bool × Int × Int) → Int
  | _, [] => 0
  | seen, c :: l => if badC c = true then 1 else if c.2.1 ∈ seen then 6 else casesF (seen ++ [c.2.1]) l
def leastN (k : Int) : Int := if k = 1 ∨ k = 8 then 1 else 0
def mostN (k : Int) : Int := if k = 1 then 1000 else if k = 8 then 32 else if k = 7 ∨ k = 9 then 0 else 7
/-- What is wrong with an op. -/
def chkOp (k n v wt : Int) (l : List (Bool × Int × Int)) : Int :=
  if k < 1 ∨ 9 < k then 3 else if (k ≠ 4 ∧ v ≠ 0) ∨ (k ≠ 4 ∧ k ≠ 5 ∧ k ≠ 7 ∧ wt ≠ 0) ∨ (k ≠ 7 ∧ 0 < l.length) then 1
  else if n < leastN k ∨ mostN k < n ∨ wt < -1 ∨ 1000 < wt then 1 else if k ≠ 7 then 0 else if l.length < 1 ∨ 4 < l.length then 18 else casesF [] l
theorem ret_i64 {a b : Int} (h : a = b) : Ending.returned (.int .i64 a) = .returned (.int .i64 b) := by rw [h]
end Go.Proofs.Ytjnhahdelipebaa.XA
