/- (*order).take at Lock. -/
import Derived.Test.YtjnhahdelipebaaTakeDef
import Derived.Test.YtjnhahdelipebaaTakeMem
import Derived.Deep.AppendLies
import Derived.Deep.RegionLaw
import Derived.Deep.RegionHeldLaw
import Derived.IntWalk
namespace Go.Proofs.Ytjnhahdelipebaa.XA
set_option linter.unusedVariables false
set_option linter.unusedSimpArgs false
open Go.RowKit Go.Proofs.YtjnhahdelipebaaW.PrintWords Go.Proofs.YtjnhahdelipebaaW.PrintLast Go.Proofs.YtjnhahdelipebaaW.PrintMore
open Go.Proofs.YtjnhahdelipebaaH (Upd Rd)
theorem OrdAt.cells {w0 w : World} {b : Nat} {hv fv : Value} {h : List Int} {fs : List FrmP} (k : OrdAt w0 w b hv fv h fs) : w.cell? ⟨b, 0, none⟩ = some hv ∧ w.cell? ⟨b, 1, none⟩ = some fv ∧ w.frozen? ⟨b, 0, none⟩ = false ∧ w.frozen? ⟨b, 1, none⟩ = false ∧ b < w.heap.size :=
  ⟨(blk_cell k.blk 0).trans rfl, (blk_cell k.blk 1).trans rfl, blk_frozen k.blk 0, blk_frozen k.blk 1, blk_lt k.blk⟩
set_option maxHeartbeats 16000000 in
set_option maxRecDepth 100000 in
theorem take_lock_bad (w0 w : World) (b : Nat) (hv fv : Value) (h : List Int) (fs : List FrmP) (hO : OrdAt w0 w b hv fv h fs) (n v wt : Int) (A : Option Addr) (m c : Nat) (hl : h.length ≤ 1000) (h0 : 0 < h.length) (h1 : n ≤ lastH h) :
    Calls Try.prog 34 #[.pointer (some ⟨b, 0, none⟩), .agg #[.int .i64 2, .int .i64 n, .int .i64 v, .int .i64 wt, .slice A m c]] w fun e w' => e = .returned (.bool false) ∧ Below w0.heap.size w0 w' := by
  obtain ⟨g, cp, rfl, hcp, hg1, hg2⟩ := own_form hO.held h0
  obtain ⟨oa, oc, rfl, hoc⟩ := Go.Proofs.YtjnhahdelipebaaH.own_slice hO.first
  have hlast := own_last hO.held h0
  obtain ⟨x0, x1, f0, f1, hlt⟩ := hO.cells
  have HO := Lib.hid hO
  obtain ⟨N, hN⟩ : ∃ N, N = h.length := ⟨_, rfl⟩
  obtain ⟨F, hF⟩ : ∃ F, F = fs.length := ⟨_, rfl⟩
  obtain ⟨la, hla⟩ : ∃ la, la = lastH h := ⟨_, rfl⟩
  rw [← hN] at x0 hlast h0 hl
  rw [← hF] at x1
  rw [← hla] at hlast h1
  have hNm : IntKind.i64.wrap ((N : Int) - 1) = ((N - 1 : Nat) : Int) := by rw [IntWalk.i64_in _ (by omega)]; omega
  obtain ⟨q, hq⟩ : ∃ q, q = N - 1 := ⟨_, rfl⟩
  rw [← hq] at hlast hNm
  have hq0 : (0 : Int) ≤ (q : Int) := by omega
  have hq1 : (q : Int) < (N : Int) := by omega
  have t0 : decide ((N : Int) > 0) = true := by simp; omega
  have t1 : decide (la ≥ n) = true := by simpa using h1
  have HB := Lib.hid (hO.below)
  have HH := Lib.hid hO.below.size
  clear hN hF hla hO hoc hcp hq
  go_enter Try.func34, Try.ntmps34
  go_wp2
  go_quiet (fail)
  go_wp2
  go_ret
  exact ⟨rfl, pw_below_drewN (below_alloc HB.out _) _⟩
theorem cell_one_at {W : World} {x : Value} {t : TypeId} {B : Nat} (hB : B = W.heap.size) : ∀ j u, [x][j]? = some u → (W.alloc (.cells #[x] t)).cell? ((⟨B, 0, none⟩ : Addr).add j) = some u := by
  subst hB
  exact cell_one_new W x t
/-- What is wanted of each world on the way to the append onto what is held. -/
structure HeldOn (w0 W : World) (b : Nat) (hv fv : Value) (h : List Int) (fs : List FrmP) (N : Nat) (n : Int) : Prop where
  held2 : W.ownsRow w0.heap.size 3 1 hv N (h.map (Value.int .i64))
  size : w0.heap.size ≤ W.heap.size
  fin : ∀ {w3 : World} {g c : Nat}, Upd hv.ownBlock.toList W w3 → w3.ownsRow w0.heap.size 3 1 (.slice (some ⟨g, 0, none⟩) (N + 1) c) (N + 1) (h.map (Value.int .i64) ++ [.int .i64 n]) → (hv.ownBlock = some g ∨ g = W.heap.size) →
    OrdAt w0 (w3.setCell ⟨b, 0, none⟩ (.slice (some ⟨g, 0, none⟩) (N + 1) c)) b (.slice (some ⟨g, 0, none⟩) (N + 1) c) fv (h ++ [n]) fs ∧ w3.cell? ⟨b, 0, none⟩ = some hv ∧ w3.frozen? ⟨b, 0, none⟩ = false
theorem OrdAt.heldOn {w0 w W : World} {b : Nat} {hv fv : Value} {h : List Int} {fs : List FrmP} (k : OrdAt w0 w b hv fv h fs) (hu : Upd [] w W) (N : Nat) (hN : N = h.length) (n : Int) : HeldOn w0 W b hv fv h fs N n := by
  subst hN
  have k2 := k.step hu
  refine ⟨k2.held, k2.below.size, fun {w3 g c} hu3 hown hat => ?_⟩
  have hbk : w3.heap[b]? = some (.cells #[hv, fv] 68 (0, 0)) := hu3.keep k2.blk (fun hm => own_ne_blk k2.held k2.blk (by decide) (by simpa using hm))
  have hlen : (h ++ [n]).length = h.length + 1 := by simp
  refine ⟨k2.setHeld hu3 (by rw [hlen]; simpa using hown) ?_, (blk_cell hbk 0).trans rfl, blk_frozen hbk 0⟩
  rcases hat with h1 | h1
  · exact .inl h1.symm
  · exact .inr (.inl (by rw [h1]; rfl))
set_option maxHeartbeats 16000000 in
set_option maxRecDepth 100000 in
theorem take_lock_ok (w0 w : World) (b : Nat) (hv fv : Value) (h : List Int) (fs : List FrmP) (hO : OrdAt w0 w b hv fv h fs) (n v wt : Int) (A : Option Addr) (m c : Nat) (hl : h.length ≤ 1000) (hg : h.length = 0 ∨ (0 < h.length ∧ lastH h < n)) :
    Calls Try.prog 34 #[.pointer (some ⟨b, 0, none⟩), .agg #[.int .i64 2, .int .i64 n, .int .i64 v, .int .i64 wt, .slice A m c]] w fun e w' => e = .returned (.bool true) ∧ ∃ hv', OrdAt w0 w' b hv' fv (h ++ [n]) fs := by
  obtain ⟨va, vc, rfl, hvc⟩ := Go.Proofs.YtjnhahdelipebaaH.own_slice hO.held
  obtain ⟨oa, oc, rfl, hoc⟩ := Go.Proofs.YtjnhahdelipebaaH.own_slice hO.first
  obtain ⟨i0, hi, hz, hsz, hby⟩ := tIntP.info
  obtain ⟨x0, x1, f0, f1, hlt⟩ := hO.cells
  obtain ⟨N, hN⟩ : ∃ N, N = h.length := ⟨_, rfl⟩
  obtain ⟨F, hF⟩ : ∃ F, F = fs.length := ⟨_, rfl⟩
  have HS := Lib.hid (fun (W : World) (hu : Upd [] w W) => hO.heldOn hu N hN n)
  have HO := Lib.hid hO
  rw [← hN] at x0 hl hvc hg HS
  rw [← hF] at x1 HS
  have hm1 : N + 1 ≤ maxLen := by unfold maxLen; omega
  have hm3 : (N + 1) * 8 ≤ 140737488355328 := by omega
  rcases hg with h0 | ⟨h0, h1⟩
  · subst h0
    have HF := Lib.hid hF
    clear hN hF hO hoc hvc
    go_enter Try.func34, Try.ntmps34
    go_wp2
    go_quiet (fail)
    go_wp2
    go_region_law (refine step_append_lies _ rfl (.tmp 104) (.tmp 107) 42 rfl w0.heap.size 3 i0 (.int .i64 0) 1 8 Try.underlying42 hi hz hsz hby rfl (by decide) (.slice va 0 vc) 0 (h.map (Value.int .i64)) rfl (HeldOn.held2 (HS.out _ (by repeat (first | refine Upd.alloc ?_ _ | refine Upd.drewN ?_ _ | refine Upd.drew ?_ | exact Upd.refl _ _)))) _ 1 1 [.int .i64 n] rfl rfl (cell_one_at (by simp)) (by intro y hy; simp at hy; subst hy; rfl) (by decide) hm1 hm3 (HeldOn.size (HS.out _ (by repeat (first | refine Upd.alloc ?_ _ | refine Upd.drewN ?_ _ | refine Upd.drew ?_ | exact Upd.refl _ _)))) _ rfl ?_; intro g3 c3 w3 hown3 hgr hat hlt3; have HOW3 := Lib.hid hown3; have HAT := Lib.hid hat; have hu3 := Upd.of_grown hgr; have hfin := HeldOn.fin (HS.out _ (by repeat (first | refine Upd.alloc ?_ _ | refine Upd.drewN ?_ _ | refine Upd.drew ?_ | exact Upd.refl _ _))) hu3 hown3 hat; have HFIN := Lib.hid hfin.1; have z0 := hfin.2.1; have z1 := hfin.2.2; clear hfin hgr hu3 hown3 hat)
    all_goals
      go_wp2
      go_ret
      refine ⟨rfl, ?_⟩
      rw [← HF.out]
      exact ⟨_, HFIN.out⟩
  · have hheld := (HO.out).held
    obtain ⟨g, cp, he, hcp, hg1, hg2⟩ := own_form hheld (by rw [← hN]; exact h0)
    cases he
    have hlast := own_last hheld (by rw [← hN]; exact h0)
    obtain ⟨la, hla⟩ : ∃ la, la = lastH h := ⟨_, rfl⟩
    rw [← hla] at hlast h1
    rw [← hN] at hlast
    have hNm : IntKind.i64.wrap ((N : Int) - 1) = ((N - 1 : Nat) : Int) := by rw [IntWalk.i64_in _ (by omega)]; omega
    obtain ⟨q, hq⟩ : ∃ q, q = N - 1 := ⟨_, rfl⟩
    rw [← hq] at hlast hNm
    have hq0 : (0 : Int) ≤ (q : Int) := by omega
    have hq1 : (q : Int) < (N : Int) := by omega
    have t0 : decide ((N : Int) > 0) = true := by simp; omega
    have t1 : decide (la ≥ n) = false := by simpa using h1
    have HF := Lib.hid hF
    clear hN hF hla hO hoc hcp hq hheld hvc
    go_enter Try.func34, Try.ntmps34
    go_wp2
    go_quiet (fail)
    go_wp2
    go_region_law (refine step_append_lies _ rfl (.tmp 104) (.tmp 107) 42 rfl w0.heap.size 3 i0 (.int .i64 0) 1 8 Try.underlying42 hi hz hsz hby rfl (by decide) (.slice (some ⟨g, 0, none⟩) N vc) N (h.map (Value.int .i64)) rfl (HeldOn.held2 (HS.out _ (by repeat (first | refine Upd.alloc ?_ _ | refine Upd.drewN ?_ _ | refine Upd.drew ?_ | exact Upd.refl _ _)))) _ 1 1 [.int .i64 n] rfl rfl (cell_one_at (by simp)) (by intro y hy; simp at hy; subst hy; rfl) (by decide) hm1 hm3 (HeldOn.size (HS.out _ (by repeat (first | refine Upd.alloc ?_ _ | refine Upd.drewN ?_ _ | refine Upd.drew ?_ | exact Upd.refl _ _)))) _ rfl ?_; intro g3 c3 w3 hown3 hgr hat hlt3; have HOW3 := Lib.hid hown3; have HAT := Lib.hid hat; have hu3 := Upd.of_grown hgr; have hfin := HeldOn.fin (HS.out _ (by repeat (first | refine Upd.alloc ?_ _ | refine Upd.drewN ?_ _ | refine Upd.drew ?_ | exact Upd.refl _ _))) hu3 hown3 hat; have HFIN := Lib.hid hfin.1; have z0 := hfin.2.1; have z1 := hfin.2.2; clear hfin hgr hu3 hown3 hat)
    all_goals
      go_wp2
      go_ret
      refine ⟨rfl, ?_⟩
      rw [← HF.out]
      exact ⟨_, HFIN.out⟩
end Go.Proofs.Ytjnhahdelipebaa.XA
