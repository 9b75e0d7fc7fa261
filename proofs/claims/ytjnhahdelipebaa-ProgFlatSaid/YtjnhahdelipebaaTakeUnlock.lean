/- (*order).take at Unlock. -/
import Derived.Test.YtjnhahdelipebaaTakeRest
namespace Go.Proofs.Ytjnhahdelipebaa.XA
set_option linter.unusedVariables false
set_option linter.unusedSimpArgs false
open Go.RowKit Go.Proofs.YtjnhahdelipebaaW.PrintWords Go.Proofs.YtjnhahdelipebaaW.PrintLast Go.Proofs.YtjnhahdelipebaaW.PrintMore
open Go.Proofs.YtjnhahdelipebaaH (Upd Rd)
set_option maxHeartbeats 16000000 in
set_option maxRecDepth 100000 in
theorem take_unlock_bad (w0 w : World) (b : Nat) (hv fv : Value) (h : List Int) (fs : List FrmP) (hO : OrdAt w0 w b hv fv h fs) (n v wt : Int) (A : Option Addr) (m c : Nat) (hl : h.length ≤ 1000) (hb : h.length = 0 ∨ (0 < h.length ∧ lastH h ≠ n)) :
    Calls Try.prog 34 #[.pointer (some ⟨b, 0, none⟩), .agg #[.int .i64 3, .int .i64 n, .int .i64 v, .int .i64 wt, .slice A m c]] w fun e w' => e = .returned (.bool false) ∧ Below w0.heap.size w0 w' := by
  obtain ⟨va, vc, rfl, hvc⟩ := Go.Proofs.YtjnhahdelipebaaH.own_slice hO.held
  obtain ⟨oa, oc, rfl, hoc⟩ := Go.Proofs.YtjnhahdelipebaaH.own_slice hO.first
  obtain ⟨x0, x1, f0, f1, hlt⟩ := hO.cells
  have HO := Lib.hid hO
  obtain ⟨N, hN⟩ : ∃ N, N = h.length := ⟨_, rfl⟩
  obtain ⟨F, hF⟩ : ∃ F, F = fs.length := ⟨_, rfl⟩
  rw [← hN] at x0 hl hb hvc
  rw [← hF] at x1
  rcases hb with h0 | ⟨h0, h1⟩
  · subst h0
    clear hN hF hO hoc hvc
    go_enter Try.func34, Try.ntmps34
    go_wp2
    go_quiet (fail)
    go_wp2
    go_ret
    exact ⟨rfl, (HO.out.step (by repeat (first | refine Upd.alloc ?_ _ | refine Upd.drewN ?_ _ | refine Upd.drew ?_ | exact Upd.refl _ _))).below⟩
  · obtain ⟨g, cp, he, hcp, hg1, hg2⟩ := own_form hO.held (by omega)
    cases he
    have hlast := own_last hO.held (by omega)
    obtain ⟨la, hla⟩ : ∃ la, la = lastH h := ⟨_, rfl⟩
    rw [← hla] at hlast h1
    rw [← hN] at hlast
    have hNm : IntKind.i64.wrap ((N : Int) - 1) = ((N - 1 : Nat) : Int) := by rw [IntWalk.i64_in _ (by omega)]; omega
    obtain ⟨q, hq⟩ : ∃ q, q = N - 1 := ⟨_, rfl⟩
    rw [← hq] at hlast hNm
    have hq0 : (0 : Int) ≤ (q : Int) := by omega
    have hq1 : (q : Int) < (N : Int) := by omega
    have t0 : ((N : Int) == 0) = false := by simp; omega
    have t1 : (la != n) = true := bne_iff_ne.2 h1
    clear hN hF hla hO hoc hcp hq h1
    go_enter Try.func34, Try.ntmps34
    go_wp2
    go_quiet (fail)
    go_wp2
    go_ret
    exact ⟨rfl, (HO.out.step (by repeat (first | refine Upd.alloc ?_ _ | refine Upd.drewN ?_ _ | refine Upd.drew ?_ | exact Upd.refl _ _))).below⟩
set_option maxHeartbeats 16000000 in
set_option maxRecDepth 100000 in
theorem take_unlock_ok (w0 w : World) (b : Nat) (hv fv : Value) (h : List Int) (fs : List FrmP) (hO : OrdAt w0 w b hv fv h fs) (n v wt : Int) (A : Option Addr) (m c : Nat) (hl : h.length ≤ 1000) (h0 : 0 < h.length) (h1 : lastH h = n) :
    Calls Try.prog 34 #[.pointer (some ⟨b, 0, none⟩), .agg #[.int .i64 3, .int .i64 n, .int .i64 v, .int .i64 wt, .slice A m c]] w fun e w' => e = .returned (.bool true) ∧ ∃ hv', OrdAt w0 w' b hv' fv (h.take (h.length - 1)) fs := by
  obtain ⟨g, cp, rfl, hcp, hg1, hg2⟩ := own_form hO.held h0
  obtain ⟨oa, oc, rfl, hoc⟩ := Go.Proofs.YtjnhahdelipebaaH.own_slice hO.first
  have hlast := own_last hO.held h0
  obtain ⟨x0, x1, f0, f1, hlt⟩ := hO.cells
  obtain ⟨N, hN⟩ : ∃ N, N = h.length := ⟨_, rfl⟩
  obtain ⟨F, hF⟩ : ∃ F, F = fs.length := ⟨_, rfl⟩
  have HS : Hid (∀ W, Upd [] w W → OrdAt w0 (W.setCell ⟨b, 0, none⟩ (.slice (some ⟨g, 0, none⟩) (N - 1) cp)) b (.slice (some ⟨g, 0, none⟩) (N - 1) cp) (.slice oa fs.length oc) (h.take (h.length - 1)) fs) := Lib.hid (fun W hu => by
    have k := hO.step hu
    have hown := own_takeN k.held (u := h.length - 1) (by omega)
    have hlen : (h.take (h.length - 1)).length = N - 1 := by rw [List.length_take]; omega
    refine k.setHeld (Upd.refl _ _) ?_ (.inl rfl)
    rw [hlen, List.map_take]
    simpa [hN] using hown)
  rw [← hN] at x0 hl hlast h0 hcp ⊢
  rw [← hF] at x1 HS ⊢
  rw [h1] at hlast
  have hNm : IntKind.i64.wrap ((N : Int) - 1) = ((N - 1 : Nat) : Int) := by rw [IntWalk.i64_in _ (by omega)]; omega
  rw [← hN] at HS
  obtain ⟨q, hq⟩ : ∃ q, q = N - 1 := ⟨_, rfl⟩
  rw [← hq] at hlast hNm HS ⊢
  have hq0 : (0 : Int) ≤ (q : Int) := by omega
  have hq1 : (q : Int) < (N : Int) := by omega
  have t0 : ((N : Int) == 0) = false := by simp; omega
  have t1 : (n != n) = false := by simp
  have hup := fun W => run_uptoN tIntP g N cp q (by omega) W
  clear hN hF hO hoc hcp hq h1
  go_enter Try.func34, Try.ntmps34
  go_wp2
  go_quiet (fail)
  go_wp2
  go_region
  all_goals
    go_wp2
    go_ret
    exact ⟨rfl, _, HS.out _ (by repeat (first | refine Upd.alloc ?_ _ | refine Upd.drewN ?_ _ | refine Upd.drew ?_ | exact Upd.refl _ _))⟩
end Go.Proofs.Ytjnhahdelipebaa.XA
