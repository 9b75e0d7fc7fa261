/- Rows of channels that all wait, or all are left. -/
import Derived.Test.YtjiepoeeahnbgaaStarts
namespace Go.Proofs.Ytjiepoeeahnbgaa
set_option linter.unusedVariables false
set_option linter.unusedSimpArgs false
open Go.RowKit
theorem waited {task seq : Int} {send : Bool} {vf : Nat → Int} {k : Nat} {st st' : List ChSt} (hT : WaitTo task seq (csTo send vf k) (csTo send vf k).length st st') (hlen : st.length = k) {j : Nat} {s' : ChSt} (h : st'[j]? = some s') :
    ∃ s, st[j]? = some s ∧ s' = waitSt task seq j ⟨send, (j : Int), vf j⟩ s := by
  have hj := (List.getElem?_eq_some_iff.1 h).1
  rw [hT.1, hlen] at hj
  obtain ⟨s, hs⟩ : ∃ s, st[j]? = some s := ⟨_, List.getElem?_eq_getElem (by omega)⟩
  have h1 := (hT.2 j s hs).1 _ (csTo_get send vf hj) (by rw [csTo_len]; exact hj)
  rw [h] at h1
  exact ⟨s, hs, Option.some.inj h1⟩
theorem blks_leave (t : Int) (st : List ChSt) : blks (st.map (leaveSt t)) = blks st :=
  blks_congr (List.length_map ..) fun i s u hs hu => by
    rw [List.getElem?_map, hs] at hu
    cases hu
    exact ⟨rfl, rfl⟩
theorem csTo_known {send : Bool} {vf : Nat → Int} {k : Nat} {n : Nat} (hn : k ≤ n) : ∀ (i : Nat) (x : Cs), (csTo send vf k)[i]? = some x → knownOf n x = true := by
  intro i x hx
  obtain ⟨hj, rfl⟩ := csTo_at hx
  simp only [knownOf, Bool.and_eq_true, decide_eq_true_eq]
  omega
/-- None can: no case of these. -/
theorem csTo_none {send : Bool} {vf : Nat → Int} {k : Nat} {st : List ChSt} (hl : st.length = k) (h : ∀ (j : Nat) (s : ChSt), st[j]? = some s → canAt s ⟨send, (j : Int), vf j⟩ = false) : (csTo send vf k).findIdx? (canOf st) = none := by
  refine idx_none fun j c hj hc => ?_
  obtain ⟨hjk, rfl⟩ := csTo_at hc
  obtain ⟨s, hs⟩ : ∃ s, st[j]? = some s := ⟨_, List.getElem?_eq_getElem (by omega)⟩
  rw [canOf_at rfl hs]
  exact h j s hs
/-- Blocks that were not there may turn unseen. -/
theorem Upd.blks {w0 w w' : World} {st st0 : List ChSt} (h : Upd [] w0 w) (hu : Upd (blks st) w w') (hb : blks st = blks st0) (hl : ∀ z ∈ blks st0, w0.heap.size ≤ z) : Upd [] w0 w' :=
  h.trans hu (fun z hz hlt => by rw [hb] at hz; have := hl z hz; omega)
theorem bool_same (b : Bool) : (b != b) = false := by cases b <;> rfl
end Go.Proofs.Ytjiepoeeahnbgaa
