/- The reference's Recv. -/
import Derived.Test.YthchclhleppdhaaRefChan
import Derived.Test.YthchclhleppdhaaChanClosed
namespace Go.Proofs.Ythchclhleppdhaa
set_option linter.unusedVariables false
set_option linter.unusedSimpArgs false
open Go.RowKit
set_option maxHeartbeats 1600000 in
theorem refSend_closed (q m room : Nat) (xs : List Int) (sq rq : List Wt) (v : Int) (ap : Option Addr) (pl cp : Nat) (w : World) (h : ChanM w q m room xs sq rq true) :
    Calls Try.prog 22 #[.pointer (some ⟨q, 0, none⟩), .int .i64 v, .slice ap pl cp] w fun e w' => e = .returned (.tuple #[.slice none 0 0, .int .i64 9]) ∧ Upd [] w w' := by
  obtain ⟨sa, sc, ra, rc, h1, h2, h3⟩ := h.ch.ex
  obtain ⟨c0, c1, c2, c3⟩ := four_cells h1
  go_enter Try.func22, Try.ntmps22
  go_wp2
  go_ret2
  exact ⟨rfl, Upd.refl _ _⟩
set_option maxHeartbeats 1600000 in
theorem refSend_full (q m room : Nat) (xs : List Int) (sq : List Wt) (v : Int) (ap : Option Addr) (cp : Nat) (ps : List Int) (w : World) (h : ChanM w q m room xs sq [] false) (hp : RdI w (.slice ap ps.length cp) ps) (hm : ps.length ≤ 1000000) (hr : room ≤ xs.length) :
    Calls Try.prog 22 #[.pointer (some ⟨q, 0, none⟩), .int .i64 v, .slice ap ps.length cp] w fun e w' => e = .returned (.tuple #[.slice none 0 0, .int .i64 7]) ∧ Upd [] w w' := by
  obtain ⟨sa, sc, ra, rc, h1, h2, h3⟩ := h.ch.ex
  obtain ⟨c0, c1, c2, c3⟩ := four_cells h1
  go_enter Try.func22, Try.ntmps22
  go_wp2_with fail
  refine (best21_any ra ap rc cp [] ps _ (Rd.of_own h3) hp (by omega) (by decide)).mono ?_
  rintro e w1 ⟨rfl, hu⟩
  have hb : optI (bestTo ps [] ([] : List Wt).length) = -1 := rfl
  rw [hb]
  have h' := h.keep0 hu
  have d0 := hu.cell c0 (by simp)
  clear c0 c1 c2 c3 h1 h2 h3
  go_wp2_with fail
  refine (pushrefO_full m room xs v _ h'.ring hr).mono ?_
  rintro e w2 ⟨rfl, n, rfl⟩
  go_wp2
  go_ret2
  exact ⟨rfl, hu.drewN n⟩
set_option maxHeartbeats 1600000 in
theorem refSend_push (q m room : Nat) (xs : List Int) (sq : List Wt) (v : Int) (ap : Option Addr) (cp : Nat) (ps : List Int) (w : World) (h : ChanM w q m room xs sq [] false) (hp : RdI w (.slice ap ps.length cp) ps) (hm : ps.length ≤ 1000000) (hr : xs.length < room) :
    Calls Try.prog 22 #[.pointer (some ⟨q, 0, none⟩), .int .i64 v, .slice ap ps.length cp] w fun e w' => e = .returned (.tuple #[.slice none 0 0, .int .i64 0]) ∧ ChanM w' q m room (xs ++ [v]) sq [] false ∧ Upd [m] w w' := by
  obtain ⟨sa, sc, ra, rc, h1, h2, h3⟩ := h.ch.ex
  obtain ⟨c0, c1, c2, c3⟩ := four_cells h1
  go_enter Try.func22, Try.ntmps22
  go_wp2_with fail
  refine (best21_any ra ap rc cp [] ps _ (Rd.of_own h3) hp (by omega) (by decide)).mono ?_
  rintro e w1 ⟨rfl, hu⟩
  have hb : optI (bestTo ps [] ([] : List Wt).length) = -1 := rfl
  rw [hb]
  have h' := h.keep0 hu
  have d0 := hu.cell c0 (by simp)
  clear c0 c1 c2 c3 h1 h2 h3
  go_wp2_with fail
  refine (pushrefO_room m room xs v _ h'.ring hr).mono ?_
  rintro e w2 ⟨rfl, hR, hu2⟩
  go_wp2
  go_ret2
  exact ⟨rfl, h'.turn hu2 hR, (hu.mono (fun z hz _ => by simp at hz)).transS hu2⟩
set_option maxHeartbeats 3200000 in
theorem refSend_hand (q m room : Nat) (xs : List Int) (sq rq : List Wt) (v : Int) (ap : Option Addr) (cp : Nat) (ps : List Int) (i : Nat) (x : Wt) (w : World) (h : ChanM w q m room xs sq rq false) (hp : RdI w (.slice ap ps.length cp) ps) (hm : ps.length ≤ 1000000) (hmq : rq.length ≤ 100000) (hb : bestTo ps rq rq.length = some i) (hx : rq[i]? = some x) :
    Calls Try.prog 22 #[.pointer (some ⟨q, 0, none⟩), .int .i64 v, .slice ap ps.length cp] w fun e w' => ∃ g, e = .returned (.tuple #[.slice (some ⟨g, 0, none⟩) 1 1, .int .i64 0]) ∧ w.heap.size ≤ g ∧ w'.heap[g]? = some (.cells #[.int .i64 x.task, .int .i64 x.case_, .int .i64 v, .int .i64 0] 71 (0, 0)) ∧ ChanM w' q m room xs sq (rq.eraseIdx i) false ∧ Upd [q] w w' := by
  obtain ⟨sa, sc, ra, rc, h1, h2, h3⟩ := h.ch.ex
  obtain ⟨c0, c1, c2, c3⟩ := four_cells h1
  have hql := h.ch.lt
  have hil := bestTo_lt _ _ _ _ hb
  have HR := Lib.hid (fun W (hW : Upd [] w W) => (Rd.of_own h3).keep0 hW)
  have HH := Lib.hid (fun W (hW : Upd [] w W) => h.keep0 hW)
  have H1 := Lib.hid (fun W (hW : Upd [] w W) => hW.keep h1 (by simp))
  have hbest := best21_any ra ap rc cp rq ps w (Rd.of_own h3) hp (by omega) (by omega)
  rw [hb] at hbest
  have HBEST := Lib.hid hbest
  have HX := Lib.hid hx
  clear h2 h3 hp hb hbest hx h
  have hi0 : decide ((i : Int) ≥ 0) = true := decide_eq_true (by omega)
  have hi1 : decide ((0 : Int) ≤ (i : Int)) = true := decide_eq_true (by omega)
  have hi2 : (0 : Int) ≤ (i : Int) := by omega
  have hi3 : (i : Int) < (rq.length : Int) := by omega
  go_enter Try.func22, Try.ntmps22
  go_wp2_with fail
  refine HBEST.out.mono ?_
  rintro e w1 ⟨rfl, hu⟩
  simp only [optI]
  obtain ⟨b, off, hab, y0, y1, y2, y3⟩ := RdW.cells (HR.out _ hu) HX.out
  subst hab
  obtain ⟨d0, d1, d2, d3⟩ := four_cells (H1.out _ hu)
  have HU1 := Lib.hid hu
  have hbl : b < w1.heap.size := block_lt_of_cell y0
  have hs1 := hu.size
  have hql1 : q < w1.heap.size := by omega
  clear c0 c1 c2 c3 h1 hu
  go_upto_region 6 with fail
  have h4 : (w1.alloc (.cells #[.int .i64 x.task, .int .i64 x.case_, .int .i64 x.seq, .int .i64 x.v] 55)).heap[w1.heap.size]? = some (.cells #[.int .i64 x.task, .int .i64 x.case_, .int .i64 x.seq, .int .i64 x.v] 55 (0, 0)) := heap_alloc_new _ _
  have hu4 : Upd [] w1 (w1.alloc (.cells #[.int .i64 x.task, .int .i64 x.case_, .int .i64 x.seq, .int .i64 x.v] 55)) := (Upd.refl _ _).alloc _
  generalize w1.alloc (.cells #[.int .i64 x.task, .int .i64 x.case_, .int .i64 x.seq, .int .i64 x.v] 55) = W3 at h4 hu4 ⊢
  have hU3 := HU1.out.trans0 hu4
  obtain ⟨g, hg⟩ : ∃ g, g = w1.heap.size := ⟨_, rfl⟩
  rw [← hg] at h4 hql1 ⊢
  have hgw : w.heap.size ≤ g := by omega
  obtain ⟨e0, e1, e2, e3⟩ := four_cells (H1.out _ hU3)
  have H4 := Lib.hid h4
  have HU3 := Lib.hid hU3
  clear y0 y1 y2 y3 d0 d1 d2 d3 hu4 h4 hU3 hbl hg
  go_wp2_with fail
  refine (at21_any (some ⟨b, off, none⟩) rc rq i _ (HR.out _ HU3.out) (by omega) hil).mono ?_
  rintro e w5 ⟨a5, c5, rfl, ho5, hu5⟩
  have hU5 := HU3.out.trans0 hu5
  have h15 := H1.out _ hU5
  obtain ⟨f0, f1, f2, f3⟩ := four_cells h15
  have ff := four_frozen h15
  have hch := (HH.out _ hU5).setR rfl ho5
  have hus : Upd [q] w5 (w5.setCell ⟨q, 2, none⟩ (.slice a5 (rq.eraseIdx i).length c5)) := (Upd.refl [q] w5).setCell _ _ (fun _ => by simp)
  have h46 := hus.keep (hu5.keep H4.out (by simp)) (by simp; omega)
  obtain ⟨z0, z1, z2, z3⟩ := four_cells h46
  have hUp : Upd [q] w (w5.setCell ⟨q, 2, none⟩ (.slice a5 (rq.eraseIdx i).length c5)) := (hU5.mono (fun z hz _ => by simp at hz)).transS hus
  have hsz : (w5.setCell ⟨q, 2, none⟩ (.slice a5 (rq.eraseIdx i).length c5)).heap.size = w5.heap.size := by simp [World.setCell]
  have hs5 := hU5.size
  have HCH := Lib.hid hch
  have HUP := Lib.hid hUp
  clear hch hUp hus h46 ho5 hu5 hU5 h15 e0 e1 e2 e3
  go_wp2
  go_ret2
  exact ⟨_, rfl, by exact hs5, by rw [← hsz]; exact heap_alloc_new _ _, HCH.out.keep0 ((Upd.refl _ _).alloc _), HUP.out.alloc _⟩
set_option maxHeartbeats 3200000 in
theorem refLeave_any (q m room : Nat) (xs : List Int) (sq rq : List Wt) (cl : Bool) (t : Int) (w : World) (h : ChanM w q m room xs sq rq cl) (hms : sq.length ≤ 1000000) (hmr : rq.length ≤ 1000000) :
    Calls Try.prog 28 #[.pointer (some ⟨q, 0, none⟩), .int .i64 t] w fun e w' => e = .returned (.tuple #[]) ∧ ChanM w' q m room xs (leave sq t) (leave rq t) cl ∧ Upd [q] w w' := by
  obtain ⟨sa, sc, ra, rc, h1, h2, h3⟩ := h.ch.ex
  obtain ⟨c0, c1, c2, c3⟩ := four_cells h1
  have hql := h.ch.lt
  go_enter Try.func28, Try.ntmps28
  go_wp2_with fail
  refine (without21_any sa sc sq t _ (Rd.of_own h2) hms).mono ?_
  rintro e w1 ⟨a1, k1, rfl, ho1, hu1⟩
  have h11 := hu1.keep h1 (by simp)
  obtain ⟨d0, d1, d2, d3⟩ := four_cells h11
  have df := four_frozen h11
  have hch1 := (h.keep0 hu1).setS rfl ho1
  have hs1 : Upd [q] w1 (w1.setCell ⟨q, 1, none⟩ (.slice a1 (leave sq t).length k1)) := (Upd.refl [q] w1).setCell _ _ (fun _ => by simp)
  have h12 := four_set1 (x := .slice a1 (leave sq t).length k1) h11
  have h32 := own_keepT (own_keep0 h3 hu1) hs1 ((h.keep0 hu1).ch.notT (by decide))
  obtain ⟨W2, hW2⟩ : ∃ W2, W2 = w1.setCell ⟨q, 1, none⟩ (.slice a1 (leave sq t).length k1) := ⟨_, rfl⟩
  rw [← hW2] at hch1 hs1 h12 h32
  have HW2 := Lib.hid hW2
  have HCH1 := Lib.hid hch1
  have HS1 := Lib.hid ((hu1.mono (fun z hz _ => by simp at hz)).transS hs1)
  have H32 := Lib.hid h32
  have H12 := Lib.hid h12
  clear hW2 hch1 hs1 h12 h32 ho1 hu1 h11 h2 h3 c0 c1 c2 c3
  go_wp2_with fail
  rw [← HW2.out]
  refine (without21_any ra rc rq t _ (Rd.of_own H32.out) hmr).mono ?_
  rintro e w3 ⟨a3, k3, rfl, ho3, hu3⟩
  have h13 := hu3.keep H12.out (by simp)
  obtain ⟨e0, e1, e2, e3⟩ := four_cells h13
  have ef := four_frozen h13
  have hch3 := (HCH1.out.keep0 hu3).setR rfl ho3
  have hs3 : Upd [q] w3 (w3.setCell ⟨q, 2, none⟩ (.slice a3 (leave rq t).length k3)) := (Upd.refl [q] w3).setCell _ _ (fun _ => by simp)
  have HCH3 := Lib.hid hch3
  have HS3 := Lib.hid ((HS1.out.trans0 hu3).transS hs3)
  clear hch3 hs3 ho3 hu3 h13 d0 d1 d2 d3 df
  go_wp2
  first | go_end0 | ((try simp only [Exit.inBlock, Exit.then]); refine bodyPost_ret (results_none rfl _ _ _) rfl ?_)
  exact ⟨rfl, HCH3.out, HS3.out⟩
end Go.Proofs.Ythchclhleppdhaa
namespace Go.Proofs.Ythchclhleppdhaa
set_option linter.unusedVariables false
set_option linter.unusedSimpArgs false
open Go.RowKit
set_option maxHeartbeats 1600000 in
theorem refRecv_none (q m room : Nat) (rq : List Wt) (cl : Bool) (ap : Option Addr) (cp : Nat) (ps : List Int) (w : World) (h : ChanM w q m room [] [] rq cl) (hp : RdI w (.slice ap ps.length cp) ps) (hm : ps.length ≤ 1000000) :
    Calls Try.prog 24 #[.pointer (some ⟨q, 0, none⟩), .slice ap ps.length cp] w fun e w' => e = .returned (.tuple #[.int .i64 0, .slice none 0 0, .int .i64 (if cl = true then 9 else 8)]) ∧ Upd [] w w' := by
  obtain ⟨sa, sc, ra, rc, h1, h2, h3⟩ := h.ch.ex
  obtain ⟨c0, c1, c2, c3⟩ := four_cells h1
  go_enter Try.func24, Try.ntmps24
  go_wp2_with fail
  refine (poprefO_none m room _ h.ring).mono ?_
  rintro e w1 ⟨rfl, rfl⟩
  go_wp2_with fail
  refine (best21_any sa ap sc cp [] ps _ (Rd.of_own h2) hp (by omega) (by decide)).mono ?_
  rintro e w1 ⟨rfl, hu⟩
  have hb : optI (bestTo ps [] ([] : List Wt).length) = -1 := rfl
  rw [hb]
  have d3 := hu.cell c3 (by simp)
  clear c0 c1 c2 c3 h1 h2 h3
  cases cl with
  | true =>
    go_wp2
    go_ret3
    exact ⟨rfl, hu⟩
  | false =>
    go_wp2
    go_ret3
    exact ⟨rfl, hu⟩
theorem rdI_keepM {w w' : World} {m room : Nat} {xs : List Int} {ap : Option Addr} {cp : Nat} {ps : List Int} (hp : RdI w (.slice ap ps.length cp) ps) (hu : Upd [m] w w') (hd : ∀ k, (Value.slice ap ps.length cp).ownBlock = some k → 0 < ps.length → k ≠ m) : RdI w' (.slice ap ps.length cp) ps :=
  hp.keep hu (fun k hk hl => by
    have := hd k hk (by simpa using hl)
    simpa using this)
set_option maxHeartbeats 1600000 in
theorem refRecv_val (q m room : Nat) (x : Int) (xs : List Int) (rq : List Wt) (cl : Bool) (ap : Option Addr) (cp : Nat) (ps : List Int) (w : World) (h : ChanM w q m room (x :: xs) [] rq cl) (hp : RdI w (.slice ap ps.length cp) ps) (hm : ps.length ≤ 1000000) (hd : ∀ k, (Value.slice ap ps.length cp).ownBlock = some k → 0 < ps.length → k ≠ m) :
    Calls Try.prog 24 #[.pointer (some ⟨q, 0, none⟩), .slice ap ps.length cp] w fun e w' => e = .returned (.tuple #[.int .i64 x, .slice none 0 0, .int .i64 0]) ∧ ChanM w' q m room xs [] rq cl ∧ Upd [m] w w' := by
  obtain ⟨sa, sc, ra, rc, h1, h2, h3⟩ := h.ch.ex
  obtain ⟨c0, c1, c2, c3⟩ := four_cells h1
  have hqm := h.qm
  go_enter Try.func24, Try.ntmps24
  go_wp2_with fail
  refine (poprefO_some m room x xs _ h.ring).mono ?_
  rintro e w1 ⟨rfl, hR, hu⟩
  have d1 := hu.cell c1 (by simp [hqm])
  have h' := h.turn hu hR
  have h2' := own_keepT h2 hu (h.ring.notT (by decide))
  have hp' := rdI_keepM (room := room) (xs := xs) hp hu hd
  clear c0 c1 c2 c3 h1 h2 h3 hp
  go_wp2_with fail
  refine (best21_any sa ap sc cp [] ps _ (Rd.of_own h2') hp' (by omega) (by decide)).mono ?_
  rintro e w2 ⟨rfl, hu2⟩
  have hb : optI (bestTo ps [] ([] : List Wt).length) = -1 := rfl
  rw [hb]
  go_wp2
  go_ret3
  exact ⟨rfl, h'.keep0 hu2, hu.trans0 hu2⟩
set_option maxHeartbeats 3200000 in
theorem refRecv_hand (q m room : Nat) (sq rq : List Wt) (cl : Bool) (ap : Option Addr) (cp : Nat) (ps : List Int) (i : Nat) (x : Wt) (w : World) (h : ChanM w q m room [] sq rq cl) (hp : RdI w (.slice ap ps.length cp) ps) (hm : ps.length ≤ 1000000) (hmq : sq.length ≤ 100000) (hb : bestTo ps sq sq.length = some i) (hx : sq[i]? = some x) :
    Calls Try.prog 24 #[.pointer (some ⟨q, 0, none⟩), .slice ap ps.length cp] w fun e w' => ∃ g, e = .returned (.tuple #[.int .i64 x.v, .slice (some ⟨g, 0, none⟩) 1 1, .int .i64 0]) ∧ w.heap.size ≤ g ∧ w'.heap[g]? = some (.cells #[.int .i64 x.task, .int .i64 x.case_, .int .i64 x.v, .int .i64 0] 71 (0, 0)) ∧ ChanM w' q m room [] (sq.eraseIdx i) rq cl ∧ Upd [q] w w' := by
  obtain ⟨sa, sc, ra, rc, h1, h2, h3⟩ := h.ch.ex
  obtain ⟨c0, c1, c2, c3⟩ := four_cells h1
  have hql := h.ch.lt
  have hil := bestTo_lt _ _ _ _ hb
  have HR := Lib.hid (fun W (hW : Upd [] w W) => (Rd.of_own h2).keep0 hW)
  have HH := Lib.hid (fun W (hW : Upd [] w W) => h.keep0 hW)
  have H1 := Lib.hid (fun W (hW : Upd [] w W) => hW.keep h1 (by simp))
  have hbest := best21_any sa ap sc cp sq ps w (Rd.of_own h2) hp (by omega) (by omega)
  rw [hb] at hbest
  have HBEST := Lib.hid hbest
  have HX := Lib.hid hx
  clear h2 h3 hp hb hbest hx
  have hi0 : decide ((i : Int) < 0) = false := decide_eq_false (by omega)
  have hi2 : (0 : Int) ≤ (i : Int) := by omega
  have hi3 : (i : Int) < (sq.length : Int) := by omega
  go_enter Try.func24, Try.ntmps24
  go_wp2_with fail
  refine (poprefO_none m room _ h.ring).mono ?_
  rintro e w1 ⟨rfl, rfl⟩
  clear h
  go_wp2_with fail
  refine HBEST.out.mono ?_
  rintro e w1 ⟨rfl, hu⟩
  simp only [optI]
  obtain ⟨b, off, hab, y0, y1, y2, y3⟩ := RdW.cells (HR.out _ hu) HX.out
  subst hab
  obtain ⟨d0, d1, d2, d3⟩ := four_cells (H1.out _ hu)
  have HU1 := Lib.hid hu
  have hbl : b < w1.heap.size := block_lt_of_cell y0
  have hs1 := hu.size
  have hql1 : q < w1.heap.size := by omega
  clear c0 c1 c2 c3 h1 hu
  go_upto_region 10 with fail
  have h4 : (w1.alloc (.cells #[.int .i64 x.task, .int .i64 x.case_, .int .i64 x.seq, .int .i64 x.v] 55)).heap[w1.heap.size]? = some (.cells #[.int .i64 x.task, .int .i64 x.case_, .int .i64 x.seq, .int .i64 x.v] 55 (0, 0)) := heap_alloc_new _ _
  have hu4 : Upd [] w1 (w1.alloc (.cells #[.int .i64 x.task, .int .i64 x.case_, .int .i64 x.seq, .int .i64 x.v] 55)) := (Upd.refl _ _).alloc _
  generalize w1.alloc (.cells #[.int .i64 x.task, .int .i64 x.case_, .int .i64 x.seq, .int .i64 x.v] 55) = W3 at h4 hu4 ⊢
  have hU3 := HU1.out.trans0 hu4
  obtain ⟨g, hg⟩ : ∃ g, g = w1.heap.size := ⟨_, rfl⟩
  rw [← hg] at h4 hql1 ⊢
  have hgw : w.heap.size ≤ g := by omega
  obtain ⟨e0, e1, e2, e3⟩ := four_cells (H1.out _ hU3)
  have H4 := Lib.hid h4
  have HU3 := Lib.hid hU3
  clear y0 y1 y2 y3 d0 d1 d2 d3 hu4 h4 hU3 hbl hg
  go_wp2_with fail
  refine (at21_any (some ⟨b, off, none⟩) sc sq i _ (HR.out _ HU3.out) (by omega) hil).mono ?_
  rintro e w5 ⟨a5, c5, rfl, ho5, hu5⟩
  have hU5 := HU3.out.trans0 hu5
  have h15 := H1.out _ hU5
  obtain ⟨f0, f1, f2, f3⟩ := four_cells h15
  have ff := four_frozen h15
  have hch := (HH.out _ hU5).setS rfl ho5
  have hus : Upd [q] w5 (w5.setCell ⟨q, 1, none⟩ (.slice a5 (sq.eraseIdx i).length c5)) := (Upd.refl [q] w5).setCell _ _ (fun _ => by simp)
  have h46 := hus.keep (hu5.keep H4.out (by simp)) (by simp; omega)
  have hUp : Upd [q] w (w5.setCell ⟨q, 1, none⟩ (.slice a5 (sq.eraseIdx i).length c5)) := (hU5.mono (fun z hz _ => by simp at hz)).transS hus
  have HCH := Lib.hid hch
  have HUP := Lib.hid hUp
  have H46 := Lib.hid h46
  clear hch hUp hus h46 ho5 hu5 hU5 h15 e0 e1 e2 e3
  go_upto_if 54 with fail
  generalize hW5 : w5.setCell ⟨q, 1, none⟩ (.slice a5 (sq.eraseIdx i).length c5) = W5 at *
  obtain ⟨z0, z1, z2, z3⟩ := four_cells H46.out
  clear hW5 f0 f1 f2 f3 ff
  go_wp2
  go_region_held3 (fun w' => w'.cell? ⟨g, 0, none⟩ = some (.int .i64 x.task) ∧ w'.cell? ⟨g, 1, none⟩ = some (.int .i64 x.case_) ∧ w'.cell? ⟨g, 3, none⟩ = some (.int .i64 x.v)) (first | trivial | go_keep) (fail)
  have hs5 := HUP.out.size
  go_wp2
  go_ret3
  exact ⟨_, rfl, hs5, heap_alloc_new W5 _, HCH.out.keep0 (((Upd.refl _ _).alloc _).drew), (HUP.out.alloc _).drew⟩
set_option maxHeartbeats 3200000 in
theorem refRecv_both (q m room : Nat) (v : Int) (xs : List Int) (sq rq : List Wt) (cl : Bool) (ap : Option Addr) (cp : Nat) (ps : List Int) (i : Nat) (x : Wt) (w : World) (h : ChanM w q m room (v :: xs) sq rq cl) (hp : RdI w (.slice ap ps.length cp) ps) (hm : ps.length ≤ 1000000) (hmq : sq.length ≤ 100000) (hd : ∀ k, (Value.slice ap ps.length cp).ownBlock = some k → 0 < ps.length → k ≠ m) (hb : bestTo ps sq sq.length = some i) (hx : sq[i]? = some x) :
    Calls Try.prog 24 #[.pointer (some ⟨q, 0, none⟩), .slice ap ps.length cp] w fun e w' => ∃ g, e = .returned (.tuple #[.int .i64 v, .slice (some ⟨g, 0, none⟩) 1 1, .int .i64 0]) ∧ w.heap.size ≤ g ∧ w'.heap[g]? = some (.cells #[.int .i64 x.task, .int .i64 x.case_, .int .i64 x.v, .int .i64 0] 71 (0, 0)) ∧ ChanM w' q m room (xs ++ [x.v]) (sq.eraseIdx i) rq cl ∧ Upd [q, m] w w' := by
  obtain ⟨sa, sc, ra, rc, h1, h2, h3⟩ := h.ch.ex
  obtain ⟨c0, c1, c2, c3⟩ := four_cells h1
  have hqm := h.qm
  have hle := h.ring.le
  have hql := h.ch.lt
  have hml := h.ring.lt
  have hil := bestTo_lt _ _ _ _ hb
  have HX := Lib.hid hx
  have hi0 : decide ((i : Int) < 0) = false := decide_eq_false (by omega)
  have hi2 : (0 : Int) ≤ (i : Int) := by omega
  have hi3 : (i : Int) < (sq.length : Int) := by omega
  have hle2 : xs.length < room := by simp at hle; omega
  clear hx hle
  go_enter Try.func24, Try.ntmps24
  go_wp2_with fail
  refine (poprefO_some m room v xs _ h.ring).mono ?_
  rintro e w0 ⟨rfl, hR, huc⟩
  have h' := h.turn huc hR
  have h1' := huc.keep h1 (by simp [hqm])
  have h2' := own_keepT h2 huc (h.ring.notT (by decide))
  have hp' := rdI_keepM (room := room) (xs := xs) hp huc hd
  have HR := Lib.hid (fun W (hW : Upd [] w0 W) => (Rd.of_own h2').keep0 hW)
  have HH := Lib.hid (fun W (hW : Upd [] w0 W) => h'.keep0 hW)
  have H1 := Lib.hid (fun W (hW : Upd [] w0 W) => hW.keep h1' (by simp))
  have hbest := best21_any sa ap sc cp sq ps w0 (Rd.of_own h2') hp' (by omega) (by omega)
  rw [hb] at hbest
  have HBEST := Lib.hid hbest
  have HUC := Lib.hid huc
  have hs0 := huc.size
  obtain ⟨d0, d1, d2, d3⟩ := four_cells h1'
  clear h1 h2 h3 hp h h1' h2' hp' huc hR h' c0 c1 c2 c3 hb hbest
  go_wp2_with fail
  refine HBEST.out.mono ?_
  rintro e w1 ⟨rfl, hu⟩
  simp only [optI]
  obtain ⟨b, off, hab, y0, y1, y2, y3⟩ := RdW.cells (HR.out _ hu) HX.out
  subst hab
  obtain ⟨r0, r1, r2, r3⟩ := four_cells (H1.out _ hu)
  have HU1 := Lib.hid hu
  have hbl : b < w1.heap.size := block_lt_of_cell y0
  have hs1 := hu.size
  have hql1 : q < w1.heap.size := by omega
  have hml1 : m < w1.heap.size := by omega
  clear d0 d1 d2 d3 hu
  go_upto_region 10 with fail
  have h4 : (w1.alloc (.cells #[.int .i64 x.task, .int .i64 x.case_, .int .i64 x.seq, .int .i64 x.v] 55)).heap[w1.heap.size]? = some (.cells #[.int .i64 x.task, .int .i64 x.case_, .int .i64 x.seq, .int .i64 x.v] 55 (0, 0)) := heap_alloc_new _ _
  have hu4 : Upd [] w1 (w1.alloc (.cells #[.int .i64 x.task, .int .i64 x.case_, .int .i64 x.seq, .int .i64 x.v] 55)) := (Upd.refl _ _).alloc _
  generalize w1.alloc (.cells #[.int .i64 x.task, .int .i64 x.case_, .int .i64 x.seq, .int .i64 x.v] 55) = W3 at h4 hu4 ⊢
  have hU3 := HU1.out.trans0 hu4
  obtain ⟨g, hg⟩ : ∃ g, g = w1.heap.size := ⟨_, rfl⟩
  rw [← hg] at h4 hql1 hml1 ⊢
  have hgw : w0.heap.size ≤ g := by omega
  obtain ⟨e0, e1, e2, e3⟩ := four_cells (H1.out _ hU3)
  have H4 := Lib.hid h4
  have HU3 := Lib.hid hU3
  clear y0 y1 y2 y3 r0 r1 r2 r3 hu4 h4 hU3 hbl hg
  go_wp2_with fail
  refine (at21_any (some ⟨b, off, none⟩) sc sq i _ (HR.out _ HU3.out) (by omega) hil).mono ?_
  rintro e w5 ⟨a5, c5, rfl, ho5, hu5⟩
  have hU5 := HU3.out.trans0 hu5
  have h15 := H1.out _ hU5
  obtain ⟨f0, f1, f2, f3⟩ := four_cells h15
  have ff := four_frozen h15
  have hch := (HH.out _ hU5).setS rfl ho5
  have hus : Upd [q] w5 (w5.setCell ⟨q, 1, none⟩ (.slice a5 (sq.eraseIdx i).length c5)) := (Upd.refl [q] w5).setCell _ _ (fun _ => by simp)
  have h46 := hus.keep (hu5.keep H4.out (by simp)) (by simp; omega)
  have h17 := four_set1 (x := .slice a5 (sq.eraseIdx i).length c5) h15
  have hUp : Upd [q] w0 (w5.setCell ⟨q, 1, none⟩ (.slice a5 (sq.eraseIdx i).length c5)) := (hU5.mono (fun z hz _ => by simp at hz)).transS hus
  have HCH := Lib.hid hch
  have HUP := Lib.hid hUp
  have H46 := Lib.hid h46
  have H17 := Lib.hid h17
  clear hch hUp hus h46 ho5 hu5 hU5 h15 e0 e1 e2 e3 h17
  go_upto_if 54 with fail
  generalize hW5 : w5.setCell ⟨q, 1, none⟩ (.slice a5 (sq.eraseIdx i).length c5) = W5 at *
  obtain ⟨z0, z1, z2, z3⟩ := four_cells H46.out
  obtain ⟨p0, p1, p2, p3⟩ := four_cells H17.out
  have hmg : m ≠ g := by omega
  clear hW5 f0 f1 f2 f3 ff
  go_wp2
  go_region_held3 (fun w' => w'.cell? ⟨q, 0, none⟩ = some (.pointer (some ⟨m, 0, none⟩)) ∧ w'.cell? ⟨g, 3, none⟩ = some (.int .i64 x.v)) (first | trivial | go_keep) (first
    | (go_at_call 43; refine (pushrefO_room m room xs x.v _ (by first | exact HCH.out.ring | exact (HCH.out.keep0 (Upd.drew (Upd.refl [] W5))).ring | exact (HCH.out.keep0 ((Upd.refl [] W5).drewN _)).ring) hle2).mono ?_; rintro e w6 ⟨rfl, hR6, hu6⟩; have q0 := hu6.cell (p := ⟨q, 0, none⟩) p0 (by simp [hqm]); have q3 := hu6.cell (p := ⟨g, 3, none⟩) z3 (by simp; omega)))
  have hmg2 : g ≠ m := by omega
  have hch6 := (HCH.out.keep0 (Upd.drew (Upd.refl [] W5))).turn hu6 hR6
  have s0 := hu6.cell (p := ⟨g, 0, none⟩) z0 (by simp [hmg2])
  have s1 := hu6.cell (p := ⟨g, 1, none⟩) z1 (by simp [hmg2])
  have hU6 : Upd [q, m] w w6 := (HUC.out.mono (fun z hz _ => by simp at hz; simp [hz])).transS ((HUP.out.mono (fun z hz _ => by simp at hz; simp [hz])).transS (((Upd.refl [] W5).drew.mono (fun z hz _ => by simp at hz)).transS (hu6.mono (fun z hz _ => by simp at hz; simp [hz]))))
  have HCH6 := Lib.hid hch6
  have HU6 := Lib.hid hU6
  have hs6 := hU6.size
  clear hch6 hU6 hu6 hR6 p0 p1 p2 p3 z0 z1 z2 z3 q0
  go_wp2
  go_region_held3 (fun w' => w'.cell? ⟨g, 0, none⟩ = some (.int .i64 x.task) ∧ w'.cell? ⟨g, 1, none⟩ = some (.int .i64 x.case_) ∧ w'.cell? ⟨g, 3, none⟩ = some (.int .i64 x.v)) (first | trivial | go_keep) (fail)
  go_wp2
  go_ret3
  exact ⟨_, rfl, hs6, heap_alloc_new w6 _, HCH6.out.keep0 (((Upd.refl _ _).alloc _).drew), (HU6.out.alloc _).drew⟩
end Go.Proofs.Ythchclhleppdhaa
