
/- slices.IndexFunc, ContainsFunc, Clone over waiters; waitq.Has. -/
import Derived.Test.YtjiepoeeahnbgaaWait
namespace Go.Proofs.Ytjiepoeeahnbgaa
set_option linter.unusedVariables false
set_option linter.unusedSimpArgs false
open Go.RowKit

/-- Where the first stands of which pr holds. -/
def idxOf (pr : Wt → Bool) (q : List Wt) : Option Nat := q.findIdx? pr

theorem idx_any (pr : Wt → Bool) (q : List Wt) : decide (0 ≤ optI (idxOf pr q)) = q.any pr := by
  cases h : idxOf pr q with
  | none =>
    rw [idxOf, List.findIdx?_eq_none_iff] at h
    have : q.any pr = false := by
      rw [List.any_eq_false]
      intro x hx
      simp [h x hx]
    rw [this]
    rfl
  | some k =>
    rw [idxOf, List.findIdx?_eq_some_iff_getElem] at h
    obtain ⟨hk, hp, _⟩ := h
    have : q.any pr = true := List.any_eq_true.2 ⟨_, List.getElem_mem hk, hp⟩
    rw [this]
    simp [optI]

end Go.Proofs.Ytjiepoeeahnbgaa
