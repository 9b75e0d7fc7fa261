
/- chanq.best: who goes first, and the others. -/
import Derived.Test.YtjiepoeeahnbgaaChan
import Derived.Test.YtjiepoeeahnbgaaWaitDelete
import Derived.Deep.RegionHeldLaw
import Derived.Deep.RegionLaw
namespace Go.Proofs.Ytjiepoeeahnbgaa
set_option linter.unusedVariables false
set_option linter.unusedSimpArgs false
open Go.RowKit
/-- A waiter is written into a block of four. -/
theorem four_put {w : World} {b : Nat} {u0 u1 u2 u3 : Value} {t : TypeId} (h : w.heap[b]? = some (.cells #[u0, u1, u2, u3] t (0, 0))) (x : Wt) :
    ((((w.setCell ⟨b, 0, none⟩ (.int .i64 x.task)).setCell ⟨b, 1, none⟩ (.int .i64 x.case_)).setCell ⟨b, 2, none⟩ (.int .i64 x.seq)).setCell ⟨b, 3, none⟩ (.int .i64 x.v)).heap[b]? = some (.cells #[.int .i64 x.task, .int .i64 x.case_, .int .i64 x.seq, .int .i64 x.v] t (0, 0)) := by
  have h0 : (w.setCell ⟨b, 0, none⟩ (.int .i64 x.task)).heap[b]? = some (.cells #[.int .i64 x.task, u1, u2, u3] t (0, 0)) := by
    simp only [World.setCell, Array.getElem?_modify, if_true, h, Option.map_some]
    rfl
  exact four_set3 (four_set2 (four_set1 h0))
theorem upd_put {w0 w : World} (h : Upd [] w0 w) (b : Nat) (hb : w0.heap.size ≤ b) (x : Wt) :
    Upd [] w0 ((((w.setCell ⟨b, 0, none⟩ (.int .i64 x.task)).setCell ⟨b, 1, none⟩ (.int .i64 x.case_)).setCell ⟨b, 2, none⟩ (.int .i64 x.seq)).setCell ⟨b, 3, none⟩ (.int .i64 x.v)) :=
  (((h.setCell _ _ (fun hl => by dsimp only at hl; omega)).setCell _ _ (fun hl => by dsimp only at hl; omega)).setCell _ _ (fun hl => by dsimp only at hl; omega)).setCell _ _ (fun hl => by dsimp only at hl; omega)
theorem own_put {w : World} {base : Nat} {e : TypeId} {size n : Nat} {v : Value} {cs : List Value} (h : w.ownsRow base e size v n cs) (b : Nat) (hb : b < base) (x : Wt) :
    ((((w.setCell ⟨b, 0, none⟩ (.int .i64 x.task)).setCell ⟨b, 1, none⟩ (.int .i64 x.case_)).setCell ⟨b, 2, none⟩ (.int .i64 x.seq)).setCell ⟨b, 3, none⟩ (.int .i64 x.v)).ownsRow (b) e size v n cs := by
  have hu : Upd [b] w ((((w.setCell ⟨b, 0, none⟩ (.int .i64 x.task)).setCell ⟨b, 1, none⟩ (.int .i64 x.case_)).setCell ⟨b, 2, none⟩ (.int .i64 x.seq)).setCell ⟨b, 3, none⟩ (.int .i64 x.v)) :=
    ((((Upd.refl [b] w).setCell _ _ (fun _ => by simp)).setCell _ _ (fun _ => by simp)).setCell _ _ (fun _ => by simp)).setCell _ _ (fun _ => by simp)
  exact own_lower (own_keep h hu (fun k hk => by have := (h.lt k hk).1; simp; omega)) (by omega)
set_option maxHeartbeats 6400000 in
set_option maxRecDepth 100000 in
theorem best_chan (a ap : Option Addr) (cap cp i : Nat) (q : List Wt) (ps : List Int) (x : Wt) (w : World) (hq : RdW w (.slice a q.length cap) q) (hp : RdI w (.slice ap ps.length cp) ps) (hm : ps.length ≤ 1000000) (hmq : q.length ≤ 100000) (hb : bestTo ps q q.length = some i) (hx : q[i]? = some x) :
    Calls Try.prog 26 #[.slice a q.length cap, .slice ap ps.length cp] w fun e w' => ∃ a' c', e = .returned (.tuple #[.agg #[.int .i64 x.task, .int .i64 x.case_, .int .i64 x.seq, .int .i64 x.v], .slice a' (q.length - 1) c']) ∧ w'.ownsRow w.heap.size 68 4 (.slice a' (q.length - 1) c') (q.length - 1) ((q.eraseIdx i).flatMap Wt.enc) ∧ Upd [] w w' := by
  have hil := bestTo_lt _ _ _ _ hb
  have HQ := Lib.hid (fun W (hW : Upd [] w W) => hq.keep0 hW)
  have HP := Lib.hid (fun W (hW : Upd [] w W) => hp.keep0 hW)
  have HX := Lib.hid hx
  obtain ⟨n, hn⟩ : ∃ n, n = q.length := ⟨_, rfl⟩
  have HN := Lib.hid hn
  have hbest := Lib.hid (fun W (hW : Upd [] w W) => (show Calls Try.prog 42 #[.slice a q.length cap, .slice ap ps.length cp] W fun e w' => e = .returned (.int .i64 (i : Int)) ∧ Upd [] W w' from by
    have h := best_any a ap cap cp q ps W (hq.keep0 hW) (hp.keep0 hW) (by omega) (by omega)
    rw [hb] at h
    exact h))
  obtain ⟨b, off, hab, y0, y1, y2, y3⟩ := RdW.cells hq hx
  subst hab
  have hbl : b < w.heap.size := block_lt_of_cell y0
  have Y0 := Lib.hid y0
  have Y1 := Lib.hid y1
  have Y2 := Lib.hid y2
  have Y3 := Lib.hid y3
  have hi0 : (0 : Int) ≤ (i : Int) := by omega
  have hi1 : (i : Int) < (q.length : Int) := by omega
  have w1 : IntKind.i64.wrap ((i : Int) + 1) = (i : Int) + 1 := by rw [IntWalk.i64_in _ (by omega)]
  clear hq hp hb hx hn y0 y1 y2 y3
  go_enter Try.func26, Try.ntmps26
  go_wp2_with fail
  refine (hbest.out _ ((Upd.refl _ _).alloc _)).mono ?_
  rintro e wB ⟨rfl, huB⟩
  have hu0 : Upd [] w wB := ((Upd.refl _ _).alloc _).trans0 huB
  have hres := huB.keep (heap_alloc_new w _) (by simp)
  have HRES := Lib.hid (fun W (hW : Upd [] wB W) => hW.keep hres (by simp))
  have HLW := Lib.hid (show w.heap.size < wB.heap.size from blk_lt hres)
  have HF := Lib.hid (fun W (hW : Upd [] wB W) => (four_cells (hW.keep hres (by simp))))
  have HZ := Lib.hid (fun W (hW : Upd [] wB W) => (four_frozen (hW.keep hres (by simp))))
  have HC : Hid (∀ W, Upd [] wB W → W.cell? ⟨b, off + i * 4, none⟩ = some (.int .i64 x.task) ∧ W.cell? ⟨b, off + i * 4 + 1, none⟩ = some (.int .i64 x.case_) ∧ W.cell? ⟨b, off + i * 4 + 2, none⟩ = some (.int .i64 x.seq) ∧ W.cell? ⟨b, off + i * 4 + 3, none⟩ = some (.int .i64 x.v)) := Lib.hid (fun W hW => ⟨(hu0.trans0 hW).cell Y0.out (by simp), (hu0.trans0 hW).cell Y1.out (by simp), (hu0.trans0 hW).cell Y2.out (by simp), (hu0.trans0 hW).cell Y3.out (by simp)⟩)
  have HCL : Hid (∀ W, Upd [] wB W → Calls Try.prog 27 #[.slice (some ⟨b, off, none⟩) q.length cap] W fun e w' => ∃ g1 c1, e = .returned (.slice (some ⟨g1, 0, none⟩) q.length c1) ∧ w'.ownsRow wB.heap.size 68 4 (.slice (some ⟨g1, 0, none⟩) q.length c1) q.length (q.flatMap Wt.enc) ∧ Upd [] wB w') := Lib.hid (fun W hW => by
    refine (cloneQ_any _ cap q W (HQ.out W (hu0.trans0 hW)) (by omega)).mono ?_
    rintro e w' ⟨a', c', rfl, ho, hu⟩
    rcases ho.2 with ⟨_, h0⟩ | ⟨g, c2, _, he, _⟩
    · omega
    · injection he with he1 _ he3
      subst he1
      subst he3
      exact ⟨g, c', rfl, own_lower ho hW.size, hW.trans0 hu⟩)
  have HDE : Hid (∀ W g1 c1, Upd [] wB W → W.ownsRow wB.heap.size 68 4 (.slice (some ⟨g1, 0, none⟩) q.length c1) q.length (q.flatMap Wt.enc) → Calls Try.prog 43 #[.slice (some ⟨g1, 0, none⟩) q.length c1, .int .i64 i, .int .i64 ((i : Int) + 1)] W fun e w' => e = .returned (.slice (some ⟨g1, 0, none⟩) (q.length - 1) c1) ∧ w'.ownsRow wB.heap.size 68 4 (.slice (some ⟨g1, 0, none⟩) (q.length - 1) c1) (q.length - 1) ((q.eraseIdx i).flatMap Wt.enc) ∧ Upd [] wB w') := Lib.hid (fun W g1 c1 hW ho => by
    have hg := (ho.lt g1 rfl).1
    refine (deleteW_any g1 c1 _ i q W ho (by omega) hmq).mono ?_
    rintro e w' ⟨rfl, ho2, hu⟩
    exact ⟨rfl, ho2, hW.trans hu (fun y hy hl => by simp at hy; omega)⟩)
  have hrf := Upd.refl [] wB
  obtain ⟨k0, k1, k2, k3⟩ := HC.out _ hrf
  obtain ⟨f0, f1, f2, f3⟩ := HF.out _ hrf
  have z := HZ.out _ hrf
  have HU0 := Lib.hid hu0
  have hbw : b ≠ w.heap.size := by omega
  clear hu0 hres huB
  go_wp2
  go_region_law (first
    | (go_simp; go_at_call 43; refine Calls.mono (HDE.out _ _ _ (by repeat (first | exact hu1 | refine Upd.drewN ?_ _ | refine Upd.drew ?_)) (by first | exact ho1)) ?_; rintro e w2 ⟨rfl, ho2, hu2⟩; obtain ⟨k0, k1, k2, k3⟩ := HC.out _ hu2; obtain ⟨f0, f1, f2, f3⟩ := HF.out _ hu2; have z := HZ.out _ hu2; dsimp only)
    | (go_simp; go_at_call 27; refine Calls.mono (HCL.out _ (by repeat (first | exact hrf | refine Upd.drewN ?_ _ | refine Upd.drew ?_))) ?_; rintro e w1 ⟨g1, c1, rfl, ho1, hu1⟩; obtain ⟨k0, k1, k2, k3⟩ := HC.out _ hu1; obtain ⟨f0, f1, f2, f3⟩ := HF.out _ hu1; have z := HZ.out _ hu1; dsimp only))
  all_goals
    have HO2 := Lib.hid ho2
    have HU2 := Lib.hid hu2
    clear ho2 hu2 ho1 hu1 hrf
    go_wp2
    have h4 := four_put (HRES.out _ HU2.out) x
    have hU4 := upd_put (HU0.out.trans0 HU2.out) w.heap.size (Nat.le_refl _) x
    have hO4 := own_put HO2.out w.heap.size HLW.out x
    generalize (((w2.setCell ⟨w.heap.size, 0, none⟩ (.int .i64 x.task)).setCell ⟨w.heap.size, 1, none⟩ (.int .i64 x.case_)).setCell ⟨w.heap.size, 2, none⟩ (.int .i64 x.seq)).setCell ⟨w.heap.size, 3, none⟩ (.int .i64 x.v) = W4 at h4 hU4 hO4 ⊢
    obtain ⟨c0, c1, c2, c3⟩ := four_cells h4
    refine bodyPost_ret (by simp [results, Try.results26, go_sem, c0, c1, c2, c3]; try rfl) rfl ?_
    exact ⟨_, _, rfl, hO4, hU4⟩
end Go.Proofs.Ytjiepoeeahnbgaa
