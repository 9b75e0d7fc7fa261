
/- Send of package chanq. -/
import Derived.Test.YtjiepoeeahnbgaaChanBest
namespace Go.Proofs.Ytjiepoeeahnbgaa
set_option linter.unusedVariables false
set_option linter.unusedSimpArgs false
open Go.RowKit
set_option maxHeartbeats 1600000 in
theorem chanSend_closed (p rp c room : Nat) (xs : List Int) (sq rq : List Wt) (v : Int) (ap : Option Addr) (pl cp : Nat) (w : World) (h : ChanP w p rp c room xs sq rq true) :
    Calls Try.prog 9 #[.pointer (some ⟨p, 0, none⟩), .int .i64 v, .slice ap pl cp] w fun e w' => e = .returned (.tuple #[.slice none 0 0, .int .i64 9]) ∧ Upd [] w w' := by
  obtain ⟨sa, sc, ra, rc, h1, h2, h3⟩ := h.ch.ex
  obtain ⟨c0, c1, c2, c3⟩ := four_cells h1
  go_enter Try.func9, Try.ntmps9
  go_wp2
  go_ret2
  exact ⟨rfl, Upd.refl _ _⟩
set_option maxHeartbeats 1600000 in
theorem chanSend_full (p rp c room : Nat) (xs : List Int) (sq : List Wt) (v : Int) (ap : Option Addr) (pl cp : Nat) (w : World) (h : ChanP w p rp c room xs sq [] false) (hr : room ≤ xs.length) :
    Calls Try.prog 9 #[.pointer (some ⟨p, 0, none⟩), .int .i64 v, .slice ap pl cp] w fun e w' => e = .returned (.tuple #[.slice none 0 0, .int .i64 7]) ∧ Upd [] w w' := by
  obtain ⟨sa, sc, ra, rc, h1, h2, h3⟩ := h.ch.ex
  obtain ⟨c0, c1, c2, c3⟩ := four_cells h1
  have hcs : canS room xs [] false = false := by unfold canS; simp; omega
  go_enter Try.func9, Try.ntmps9
  go_wp2_with fail
  refine (canSend_any p rp c room xs sq [] false _ h).mono ?_
  rw [hcs]
  rintro e w1 ⟨rfl, hu⟩
  go_wp2
  go_ret2
  exact ⟨rfl, hu⟩
set_option maxHeartbeats 1600000 in
theorem chanSend_push (p rp c room : Nat) (xs : List Int) (sq : List Wt) (v : Int) (ap : Option Addr) (pl cp : Nat) (w : World) (h : ChanP w p rp c room xs sq [] false) (hr : xs.length < room) :
    Calls Try.prog 9 #[.pointer (some ⟨p, 0, none⟩), .int .i64 v, .slice ap pl cp] w fun e w' => e = .returned (.tuple #[.slice none 0 0, .int .i64 0]) ∧ ChanP w' p rp c room (xs ++ [v]) sq [] false ∧ Upd [c] w w' := by
  obtain ⟨sa, sc, ra, rc, h1, h2, h3⟩ := h.ch.ex
  obtain ⟨c0, c1, c2, c3⟩ := four_cells h1
  have hcs : canS room xs [] false = true := by unfold canS; simp; omega
  go_enter Try.func9, Try.ntmps9
  go_wp2_with fail
  refine (canSend_any p rp c room xs sq [] false _ h).mono ?_
  rw [hcs]
  rintro e w1 ⟨rfl, hu⟩
  have h' := h.keep0 hu
  have d0 := hu.cell c0 (by simp)
  have d2 := hu.cell c2 (by simp)
  clear c0 c1 c2 c3 h1 h2 h3
  go_wp2_with fail
  refine (push_room rp c room xs v _ h'.ring hr).mono ?_
  rintro e w2 ⟨rfl, hR, hu2⟩
  go_wp2
  go_ret2
  exact ⟨rfl, h'.turn hu2 hR, (hu.mono (fun z hz _ => by simp at hz)).transS hu2⟩
set_option maxHeartbeats 3200000 in
theorem chanSend_hand (p rp c room : Nat) (xs : List Int) (sq rq : List Wt) (v : Int) (ap : Option Addr) (cp : Nat) (ps : List Int) (i : Nat) (x : Wt) (w : World) (h : ChanP w p rp c room xs sq rq false) (hp : RdI w (.slice ap ps.length cp) ps) (hm : ps.length ≤ 1000000) (hmq : rq.length ≤ 100000) (hb : bestTo ps rq rq.length = some i) (hx : rq[i]? = some x) :
    Calls Try.prog 9 #[.pointer (some ⟨p, 0, none⟩), .int .i64 v, .slice ap ps.length cp] w fun e w' => ∃ g, e = .returned (.tuple #[.slice (some ⟨g, 0, none⟩) 1 1, .int .i64 0]) ∧ w.heap.size ≤ g ∧ w'.heap[g]? = some (.cells #[.int .i64 x.task, .int .i64 x.case_, .int .i64 v, .int .i64 0] 42 (0, 0)) ∧ ChanP w' p rp c room xs sq (rq.eraseIdx i) false ∧ Upd [p] w w' := by
  obtain ⟨sa, sc, ra, rc, h1, h2, h3⟩ := h.ch.ex
  obtain ⟨c0, c1, c2, c3⟩ := four_cells h1
  have hpl := h.ch.lt
  have hq0 : 0 < rq.length := by have := bestTo_lt _ _ _ _ hb; omega
  have hcs : canS room xs rq false = true := by unfold canS; simp [hq0]
  have hd : ((rq.length : Int) == 0) = false := beq_eq_false_iff_ne.2 (by omega)
  have HQ := Lib.hid (fun W (hW : Upd [] w W) => (Rd.of_own h3).keep0 hW)
  have HP := Lib.hid (fun W (hW : Upd [] w W) => hp.keep0 hW)
  have HH := Lib.hid (fun W (hW : Upd [] w W) => h.keep0 hW)
  have HB := Lib.hid (And.intro hb hx)
  clear h2 h3 hp hb hx
  go_enter Try.func9, Try.ntmps9
  go_wp2_with fail
  refine (canSend_any p rp c room xs sq rq false _ h).mono ?_
  rw [hcs]
  rintro e w1 ⟨rfl, hu⟩
  have d2 := hu.cell c2 (by simp)
  go_wp2_with fail
  refine (best_chan ra ap rc cp i rq ps x _ (HQ.out _ hu) (HP.out _ hu) hm hmq HB.out.1 HB.out.2).mono ?_
  rintro e w2 ⟨a2, k2, rfl, ho2, hu2⟩
  have hu02 := hu.trans0 hu2
  have h12 := hu02.keep h1 (by simp)
  have hs1 := hu.size
  have hs2 := hu2.size
  have hlen : rq.length - 1 = (rq.eraseIdx i).length := by rw [List.length_eraseIdx, if_pos (by have := bestTo_lt _ _ _ _ HB.out.1; omega)]
  have hpg : p < w2.heap.size := by omega
  have HO2 := Lib.hid ho2
  have HU2 := Lib.hid hu02
  have H12 := Lib.hid h12
  have HLEN := Lib.hid hlen
  clear ho2 hlen hu02 hu hu2 c0 c1 c2 c3 d2 h1 h12
  go_upto_region 9 with fail
  have h4 : (w2.alloc (.cells #[.int .i64 x.task, .int .i64 x.case_, .int .i64 x.seq, .int .i64 x.v] 68)).heap[w2.heap.size]? = some (.cells #[.int .i64 x.task, .int .i64 x.case_, .int .i64 x.seq, .int .i64 x.v] 68 (0, 0)) := heap_alloc_new _ _
  have hu4 : Upd [] w2 (w2.alloc (.cells #[.int .i64 x.task, .int .i64 x.case_, .int .i64 x.seq, .int .i64 x.v] 68)) := (Upd.refl _ _).alloc _
  generalize w2.alloc (.cells #[.int .i64 x.task, .int .i64 x.case_, .int .i64 x.seq, .int .i64 x.v] 68) = W3 at h4 hu4 ⊢
  have hp3 := hu4.keep H12.out (by simp)
  have hU3 := HU2.out.trans0 hu4
  have hch := (HH.out _ hU3).setR HLEN.out (own_keep0 HO2.out hu4)
  obtain ⟨g, hg⟩ : ∃ g, g = w2.heap.size := ⟨_, rfl⟩
  rw [← hg] at h4 hpg ⊢
  have hgw : w.heap.size ≤ g := by have := HU2.out.size; omega
  obtain ⟨y0, y1, y2, y3⟩ := four_cells h4
  obtain ⟨e0, e1, e2, e3⟩ := four_cells hp3
  have ef := four_frozen hp3
  have hu5 : Upd [p] W3 (W3.setCell ⟨p, 2, none⟩ (.slice a2 (rq.length - 1) k2)) := (Upd.refl [p] W3).setCell _ _ (fun _ => by simp)
  obtain ⟨z0, z1, z2, z3⟩ := four_cells (hu5.keep h4 (by simp; omega))
  have hU5 : Upd [p] w (W3.setCell ⟨p, 2, none⟩ (.slice a2 (rq.length - 1) k2)) := (hU3.mono (fun z hz _ => by simp at hz)).transS hu5
  have HCH := Lib.hid hch
  have HU5 := Lib.hid hU5
  clear hch hU5 hu5 hu4 hU3 h4 hg hp3
  go_wp2
  go_ret2
  have hsz : (W3.setCell ⟨p, 2, none⟩ (.slice a2 (rq.length - 1) k2)).heap.size = W3.heap.size := by simp [World.setCell]
  exact ⟨_, rfl, by have := HU5.out.size; rw [hsz] at this; exact this, by rw [← hsz]; exact heap_alloc_new _ _, HCH.out.keep0 ((Upd.refl _ _).alloc _), HU5.out.alloc _⟩
end Go.Proofs.Ytjiepoeeahnbgaa
