
/- The reference's Send, Leave. -/
import Derived.Test.YtjiepoeeahnbgaaRefChan
import Derived.Test.YtjiepoeeahnbgaaChanRecv
import Derived.Test.YtjiepoeeahnbgaaRefWaitW
import Derived.Test.YtjiepoeeahnbgaaRowZ
namespace Go.Proofs.Ytjiepoeeahnbgaa
set_option linter.unusedVariables false
set_option linter.unusedSimpArgs false
open Go.RowKit
set_option maxHeartbeats 1600000 in
theorem refSend_closed (q m room : Nat) (xs : List Int) (sq rq : List Wt) (v : Int) (ap : Option Addr) (pl cp : Nat) (w : World) (h : ChanM w q m room xs sq rq true) :
    Calls Try.prog 19 #[.pointer (some ⟨q, 0, none⟩), .int .i64 v, .slice ap pl cp] w fun e w' => e = .returned (.tuple #[.slice none 0 0, .int .i64 9]) ∧ Upd [] w w' := by
  obtain ⟨sa, sc, ra, rc, h1, h2, h3⟩ := h.ch.ex
  obtain ⟨c0, c1, c2, c3⟩ := four_cells h1
  go_enter Try.func19, Try.ntmps19
  go_wp2
  go_ret2
  exact ⟨rfl, Upd.refl _ _⟩
set_option maxHeartbeats 1600000 in
theorem refSend_full (q m room : Nat) (xs : List Int) (sq : List Wt) (v : Int) (ap : Option Addr) (cp : Nat) (ps : List Int) (w : World) (h : ChanM w q m room xs sq [] false) (hp : RdI w (.slice ap ps.length cp) ps) (hm : ps.length ≤ 1000000) (hr : room ≤ xs.length) :
    Calls Try.prog 19 #[.pointer (some ⟨q, 0, none⟩), .int .i64 v, .slice ap ps.length cp] w fun e w' => e = .returned (.tuple #[.slice none 0 0, .int .i64 7]) ∧ Upd [] w w' := by
  obtain ⟨sa, sc, ra, rc, h1, h2, h3⟩ := h.ch.ex
  obtain ⟨c0, c1, c2, c3⟩ := four_cells h1
  go_enter Try.func19, Try.ntmps19
  go_wp2_with fail
  refine (best21_any ra ap rc cp [] ps _ (Rd.of_own h3) hp (by omega) (by decide)).mono ?_
  rintro e w1 ⟨rfl, hu⟩
  have hb : optI (bestTo ps [] ([] : List Wt).length) = -1 := rfl
  rw [hb]
  have h' := h.keep0 hu
  have d0 := hu.cell c0 (by simp)
  clear c0 c1 c2 c3 h1 h2 h3
  go_wp2_with fail
  refine (pushrefO_full m room xs v _ h'.ring hr).mono ?_
  rintro e w2 ⟨rfl, n, rfl⟩
  go_wp2
  go_ret2
  exact ⟨rfl, hu.drewN n⟩
set_option maxHeartbeats 1600000 in
theorem refSend_push (q m room : Nat) (xs : List Int) (sq : List Wt) (v : Int) (ap : Option Addr) (cp : Nat) (ps : List Int) (w : World) (h : ChanM w q m room xs sq [] false) (hp : RdI w (.slice ap ps.length cp) ps) (hm : ps.length ≤ 1000000) (hr : xs.length < room) :
    Calls Try.prog 19 #[.pointer (some ⟨q, 0, none⟩), .int .i64 v, .slice ap ps.length cp] w fun e w' => e = .returned (.tuple #[.slice none 0 0, .int .i64 0]) ∧ ChanM w' q m room (xs ++ [v]) sq [] false ∧ Upd [m] w w' := by
  obtain ⟨sa, sc, ra, rc, h1, h2, h3⟩ := h.ch.ex
  obtain ⟨c0, c1, c2, c3⟩ := four_cells h1
  go_enter Try.func19, Try.ntmps19
  go_wp2_with fail
  refine (best21_any ra ap rc cp [] ps _ (Rd.of_own h3) hp (by omega) (by decide)).mono ?_
  rintro e w1 ⟨rfl, hu⟩
  have hb : optI (bestTo ps [] ([] : List Wt).length) = -1 := rfl
  rw [hb]
  have h' := h.keep0 hu
  have d0 := hu.cell c0 (by simp)
  clear c0 c1 c2 c3 h1 h2 h3
  go_wp2_with fail
  refine (pushrefO_room m room xs v _ h'.ring hr).mono ?_
  rintro e w2 ⟨rfl, hR, hu2⟩
  go_wp2
  go_ret2
  exact ⟨rfl, h'.turn hu2 hR, (hu.mono (fun z hz _ => by simp at hz)).transS hu2⟩
set_option maxHeartbeats 3200000 in
theorem refSend_hand (q m room : Nat) (xs : List Int) (sq rq : List Wt) (v : Int) (ap : Option Addr) (cp : Nat) (ps : List Int) (i : Nat) (x : Wt) (w : World) (h : ChanM w q m room xs sq rq false) (hp : RdI w (.slice ap ps.length cp) ps) (hm : ps.length ≤ 1000000) (hmq : rq.length ≤ 100000) (hb : bestTo ps rq rq.length = some i) (hx : rq[i]? = some x) :
    Calls Try.prog 19 #[.pointer (some ⟨q, 0, none⟩), .int .i64 v, .slice ap ps.length cp] w fun e w' => ∃ g, e = .returned (.tuple #[.slice (some ⟨g, 0, none⟩) 1 1, .int .i64 0]) ∧ w.heap.size ≤ g ∧ w'.heap[g]? = some (.cells #[.int .i64 x.task, .int .i64 x.case_, .int .i64 v, .int .i64 0] 95 (0, 0)) ∧ ChanM w' q m room xs sq (rq.eraseIdx i) false ∧ Upd [q] w w' := by
  obtain ⟨sa, sc, ra, rc, h1, h2, h3⟩ := h.ch.ex
  obtain ⟨c0, c1, c2, c3⟩ := four_cells h1
  have hql := h.ch.lt
  have hil := bestTo_lt _ _ _ _ hb
  have HR := Lib.hid (fun W (hW : Upd [] w W) => (Rd.of_own h3).keep0 hW)
  have HH := Lib.hid (fun W (hW : Upd [] w W) => h.keep0 hW)
  have H1 := Lib.hid (fun W (hW : Upd [] w W) => hW.keep h1 (by simp))
  have hbest := best21_any ra ap rc cp rq ps w (Rd.of_own h3) hp (by omega) (by omega)
  rw [hb] at hbest
  have HBEST := Lib.hid hbest
  have HX := Lib.hid hx
  clear h2 h3 hp hb hbest hx h
  have hi0 : decide ((i : Int) ≥ 0) = true := decide_eq_true (by omega)
  have hi1 : decide ((0 : Int) ≤ (i : Int)) = true := decide_eq_true (by omega)
  have hi2 : (0 : Int) ≤ (i : Int) := by omega
  have hi3 : (i : Int) < (rq.length : Int) := by omega
  go_enter Try.func19, Try.ntmps19
  go_wp2_with fail
  refine HBEST.out.mono ?_
  rintro e w1 ⟨rfl, hu⟩
  simp only [optI]
  obtain ⟨b, off, hab, y0, y1, y2, y3⟩ := RdW.cells (HR.out _ hu) HX.out
  subst hab
  obtain ⟨d0, d1, d2, d3⟩ := four_cells (H1.out _ hu)
  have HU1 := Lib.hid hu
  have hbl : b < w1.heap.size := block_lt_of_cell y0
  have hs1 := hu.size
  have hql1 : q < w1.heap.size := by omega
  clear c0 c1 c2 c3 h1 hu
  go_upto_region 6 with fail
  have h4 : (w1.alloc (.cells #[.int .i64 x.task, .int .i64 x.case_, .int .i64 x.seq, .int .i64 x.v] 66)).heap[w1.heap.size]? = some (.cells #[.int .i64 x.task, .int .i64 x.case_, .int .i64 x.seq, .int .i64 x.v] 66 (0, 0)) := heap_alloc_new _ _
  have hu4 : Upd [] w1 (w1.alloc (.cells #[.int .i64 x.task, .int .i64 x.case_, .int .i64 x.seq, .int .i64 x.v] 66)) := (Upd.refl _ _).alloc _
  generalize w1.alloc (.cells #[.int .i64 x.task, .int .i64 x.case_, .int .i64 x.seq, .int .i64 x.v] 66) = W3 at h4 hu4 ⊢
  have hU3 := HU1.out.trans0 hu4
  obtain ⟨g, hg⟩ : ∃ g, g = w1.heap.size := ⟨_, rfl⟩
  rw [← hg] at h4 hql1 ⊢
  have hgw : w.heap.size ≤ g := by omega
  obtain ⟨e0, e1, e2, e3⟩ := four_cells (H1.out _ hU3)
  have H4 := Lib.hid h4
  have HU3 := Lib.hid hU3
  clear y0 y1 y2 y3 d0 d1 d2 d3 hu4 h4 hU3 hbl hg
  go_wp2_with fail
  refine (at21_any (some ⟨b, off, none⟩) rc rq i _ (HR.out _ HU3.out) (by omega) hil).mono ?_
  rintro e w5 ⟨a5, c5, rfl, ho5, hu5⟩
  have hU5 := HU3.out.trans0 hu5
  have h15 := H1.out _ hU5
  obtain ⟨f0, f1, f2, f3⟩ := four_cells h15
  have ff := four_frozen h15
  have hch := (HH.out _ hU5).setR rfl ho5
  have hus : Upd [q] w5 (w5.setCell ⟨q, 2, none⟩ (.slice a5 (rq.eraseIdx i).length c5)) := (Upd.refl [q] w5).setCell _ _ (fun _ => by simp)
  have h46 := hus.keep (hu5.keep H4.out (by simp)) (by simp; omega)
  obtain ⟨z0, z1, z2, z3⟩ := four_cells h46
  have hUp : Upd [q] w (w5.setCell ⟨q, 2, none⟩ (.slice a5 (rq.eraseIdx i).length c5)) := (hU5.mono (fun z hz _ => by simp at hz)).transS hus
  have hsz : (w5.setCell ⟨q, 2, none⟩ (.slice a5 (rq.eraseIdx i).length c5)).heap.size = w5.heap.size := by simp [World.setCell]
  have hs5 := hU5.size
  have HCH := Lib.hid hch
  have HUP := Lib.hid hUp
  clear hch hUp hus h46 ho5 hu5 hU5 h15 e0 e1 e2 e3
  go_wp2
  go_ret2
  exact ⟨_, rfl, by exact hs5, by rw [← hsz]; exact heap_alloc_new _ _, HCH.out.keep0 ((Upd.refl _ _).alloc _), HUP.out.alloc _⟩
end Go.Proofs.Ytjiepoeeahnbgaa
