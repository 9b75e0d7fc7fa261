
/- Who goes ahead of whom. -/
import Derived.Test.YtjiepoeeahnbgaaBase
import Derived.Test.YtjiepoeeahnbgaaWait
namespace Go.Proofs.Ytjiepoeeahnbgaa
set_option linter.unusedVariables false
set_option linter.unusedSimpArgs false
open Go.RowKit
theorem bet_iff (ps : List Int) (x y : Wt) : bet ps x y = true ↔ prioOf ps x.task < prioOf ps y.task ∨ (prioOf ps x.task = prioOf ps y.task ∧ y.seq < x.seq) := by
  simp only [bet, decide_eq_true_eq, orI, cmpI]
  generalize prioOf ps x.task = a
  generalize prioOf ps y.task = b
  generalize y.seq = c
  generalize x.seq = d
  by_cases h1 : a < b
  · simp [h1]
  · by_cases h2 : b < a
    · simp [h1, h2]; omega
    · obtain rfl : a = b := by omega
      by_cases h3 : c < d
      · simp [h3]
      · by_cases h4 : d < c <;> simp [h3, h4]
/-- Those that stay when a task leaves. -/
def leave (q : List Wt) (t : Int) : List Wt := q.filter fun x => !(x.task == t)
theorem leave_len (q : List Wt) (t : Int) : (leave q t).length ≤ q.length := List.length_filter_le _ _
theorem leave_snoc (l : List Wt) (x : Wt) (t : Int) : leave (l ++ [x]) t = leave l t ++ (if x.task = t then [] else [x]) := by
  simp only [leave, List.filter_append, List.filter_cons, List.filter_nil]
  by_cases h : x.task = t <;> simp [h]
end Go.Proofs.Ytjiepoeeahnbgaa
