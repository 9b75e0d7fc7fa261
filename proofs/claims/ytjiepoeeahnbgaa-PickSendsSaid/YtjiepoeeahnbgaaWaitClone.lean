
/- slices.Clone over waiters. -/
import Derived.Test.YtjiepoeeahnbgaaWait
import Derived.WalkSpells
namespace Go.Proofs.Ytjiepoeeahnbgaa
set_option linter.unusedVariables false
set_option linter.unusedSimpArgs false
open Go.RowKit

set_option maxHeartbeats 800000 in
set_option maxRecDepth 100000 in
theorem cloneQ_any (a : Option Addr) (cap : Nat) (q : List Wt) (w : World) (hq : RdW w (.slice a q.length cap) q) (hm : q.length ≤ 4398046511104) :
    Calls Try.prog 27 #[.slice a q.length cap] w fun e w' => ∃ a' c', e = .returned (.slice a' q.length c') ∧ w'.ownsRow w.heap.size 68 4 (.slice a' q.length c') q.length (q.flatMap Wt.enc) ∧ Upd [] w w' := by
  cases a with
  | none =>
    obtain ⟨a1, c1, he, h1, h2, h3, _⟩ := hq
    cases he
    have hn := h3 rfl
    have h0 : q.length = 0 := by omega
    have hq0 : q = [] := List.eq_nil_of_length_eq_zero h0
    subst hq0
    subst hn
    have hnil := fun W => Lib.run_eql_slice_nil (P := Try.prog) W 44 68 none 0 0 0 0 Try.underlying44
    simp only [Option.isNone_none] at hnil
    simp only [List.length_nil]
    go_enter Try.func27, Try.ntmps27
    go_wp2
    go_ret
    exact ⟨none, 0, rfl, World.ownsRow_nil _ _ _ _, Upd.refl _ _⟩
  | some ad =>
    have hm1 : q.length ≤ maxLen := by unfold maxLen; omega
    have hm2 : q.length * 32 ≤ 140737488355328 := by omega
    have hnil := fun W => Lib.run_eql_slice_nil (P := Try.prog) W 44 68 (some ad) q.length cap 0 0 Try.underlying44
    simp only [Option.isNone_some] at hnil
    go_enter Try.func27, Try.ntmps27
    go_wp2_with (first
      | (at_builtin; refine wp_copy tWt rfl (.tmp 5) (.tmp 6) rfl (base := w.heap.size) (World.ownsRow_made _ #[] 0 (by simp) (by simp) rfl) rfl rfl (hq.keep0 ((Upd.refl _ _).alloc _)) (flat_len Wt.enc 4 Wt.enc_len q) (Wt.one q) hm1 hm2 (by simp) ?_; intro a1 cp1 w1 hown1 hupd1))
    go_ret
    exact ⟨a1, cp1, rfl, hown1, ((Upd.refl [] w).alloc _).trans hupd1 (fun x hx hl => by simp [Value.ownBlock] at hx; omega)⟩
end Go.Proofs.Ytjiepoeeahnbgaa
