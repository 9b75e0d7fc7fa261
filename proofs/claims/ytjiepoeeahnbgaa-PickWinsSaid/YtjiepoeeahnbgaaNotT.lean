
/- Blocks that are no rows of a type. -/
import Derived.Test.YtjiepoeeahnbgaaBase
namespace Go.Proofs.Ytjiepoeeahnbgaa
set_option linter.unusedVariables false
set_option linter.unusedSimpArgs false
open Go.RowKit
theorem own_block {w : World} {base : Nat} {e : TypeId} {size n : Nat} {v : Value} {cs : List Value} (h : w.ownsRow base e size v n cs) {k : Nat} (hk : v.ownBlock = some k) : ∃ cells, w.heap[k]? = some (.cells cells e (0, 0)) := by
  rcases h.2 with ⟨rfl, _⟩ | ⟨g, cap, cur, rfl, hb, hg, _⟩
  · simp [Value.ownBlock] at hk
  · simp [Value.ownBlock] at hk
    subst hk
    exact ⟨cur, hg⟩
/-- None of these blocks is a row of elements of type e. -/
def NotT (w : World) (S : List Nat) (e : TypeId) : Prop := ∀ k ∈ S, ∀ cells, w.heap[k]? ≠ some (.cells cells e (0, 0))
theorem NotT.nil (w : World) (e : TypeId) : NotT w [] e := fun k hk => by simp at hk
theorem NotT.one {w : World} {k : Nat} {e t : TypeId} {c : Array Value} (h : w.heap[k]? = some (.cells c t (0, 0))) (hne : t ≠ e) : NotT w [k] e := by
  intro j hj cells hc
  simp only [List.mem_singleton] at hj
  subst hj
  rw [h] at hc
  cases hc
  exact hne rfl
theorem own_keepT {w w' : World} {base : Nat} {e : TypeId} {size n : Nat} {v : Value} {cs : List Value} {S : List Nat} (h : w.ownsRow base e size v n cs) (hu : Upd S w w') (hS : NotT w S e) : w'.ownsRow base e size v n cs :=
  own_keep h hu (fun k hk hm => by obtain ⟨c, hc⟩ := own_block h hk; exact hS k hm c hc)
theorem NotT.two {w : World} {a b : Nat} {e : TypeId} (h1 : NotT w [a] e) (h2 : NotT w [b] e) : NotT w [a, b] e := by
  intro k hk
  simp only [List.mem_cons, List.not_mem_nil, or_false] at hk
  rcases hk with rfl | rfl
  · exact h1 k (by simp)
  · exact h2 k (by simp)
end Go.Proofs.Ytjiepoeeahnbgaa
