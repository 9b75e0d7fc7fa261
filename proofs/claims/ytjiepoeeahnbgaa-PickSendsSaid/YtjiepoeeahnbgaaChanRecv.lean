
/- Recv of package chanq. -/
import Derived.Test.YtjiepoeeahnbgaaChanSend
namespace Go.Proofs.Ytjiepoeeahnbgaa
set_option linter.unusedVariables false
set_option linter.unusedSimpArgs false
open Go.RowKit
set_option maxHeartbeats 1600000 in
theorem chanRecv_closed (p rp c room : Nat) (sq rq : List Wt) (ap : Option Addr) (pl cp : Nat) (w : World) (h : ChanP w p rp c room [] sq rq true) :
    Calls Try.prog 16 #[.pointer (some ⟨p, 0, none⟩), .slice ap pl cp] w fun e w' => e = .returned (.tuple #[.int .i64 0, .slice none 0 0, .int .i64 9]) ∧ Upd [] w w' := by
  obtain ⟨sa, sc, ra, rc, h1, h2, h3⟩ := h.ch.ex
  obtain ⟨c0, c1, c2, c3⟩ := four_cells h1
  go_enter Try.func16, Try.ntmps16
  go_wp2_with fail
  refine (pop_none rp c room _ h.ring).mono ?_
  rintro e w1 ⟨rfl, rfl⟩
  go_wp2
  go_ret3
  exact ⟨rfl, Upd.refl _ _⟩
set_option maxHeartbeats 1600000 in
theorem chanRecv_empty (p rp c room : Nat) (rq : List Wt) (ap : Option Addr) (pl cp : Nat) (w : World) (h : ChanP w p rp c room [] [] rq false) :
    Calls Try.prog 16 #[.pointer (some ⟨p, 0, none⟩), .slice ap pl cp] w fun e w' => e = .returned (.tuple #[.int .i64 0, .slice none 0 0, .int .i64 8]) ∧ Upd [] w w' := by
  obtain ⟨sa, sc, ra, rc, h1, h2, h3⟩ := h.ch.ex
  obtain ⟨c0, c1, c2, c3⟩ := four_cells h1
  simp only [List.length_nil] at c1
  go_enter Try.func16, Try.ntmps16
  go_wp2_with fail
  refine (pop_none rp c room _ h.ring).mono ?_
  rintro e w1 ⟨rfl, rfl⟩
  go_wp2
  go_ret3
  exact ⟨rfl, Upd.refl _ _⟩
set_option maxHeartbeats 1600000 in
theorem chanRecv_val (p rp c room : Nat) (x : Int) (xs : List Int) (rq : List Wt) (cl : Bool) (ap : Option Addr) (pl cp : Nat) (w : World) (h : ChanP w p rp c room (x :: xs) [] rq cl) :
    Calls Try.prog 16 #[.pointer (some ⟨p, 0, none⟩), .slice ap pl cp] w fun e w' => e = .returned (.tuple #[.int .i64 x, .slice none 0 0, .int .i64 0]) ∧ ChanP w' p rp c room xs [] rq cl ∧ Upd [c] w w' := by
  obtain ⟨sa, sc, ra, rc, h1, h2, h3⟩ := h.ch.ex
  obtain ⟨c0, c1, c2, c3⟩ := four_cells h1
  have hpc := h.pc
  simp only [List.length_nil] at c1
  go_enter Try.func16, Try.ntmps16
  go_wp2_with fail
  refine (pop_some rp c room x xs _ h.ring).mono ?_
  rintro e w1 ⟨rfl, hR, hu⟩
  have d1 := hu.cell c1 (by simp [hpc])
  have d3 := hu.cell c3 (by simp [hpc])
  have h' := h.turn hu hR
  go_wp2
  go_ret3
  exact ⟨rfl, h', hu⟩
set_option maxHeartbeats 3200000 in
/-- One that would send hands its value over. -/
theorem chanRecv_hand (p rp c room : Nat) (sq rq : List Wt) (ap : Option Addr) (cp : Nat) (ps : List Int) (i : Nat) (x : Wt) (w : World) (h : ChanP w p rp c room [] sq rq false) (hp : RdI w (.slice ap ps.length cp) ps) (hm : ps.length ≤ 1000000) (hmq : sq.length ≤ 100000) (hb : bestTo ps sq sq.length = some i) (hx : sq[i]? = some x) :
    Calls Try.prog 16 #[.pointer (some ⟨p, 0, none⟩), .slice ap ps.length cp] w fun e w' => ∃ g, e = .returned (.tuple #[.int .i64 x.v, .slice (some ⟨g, 0, none⟩) 1 1, .int .i64 0]) ∧ w.heap.size ≤ g ∧ w'.heap[g]? = some (.cells #[.int .i64 x.task, .int .i64 x.case_, .int .i64 x.v, .int .i64 0] 42 (0, 0)) ∧ ChanP w' p rp c room [] (sq.eraseIdx i) rq false ∧ Upd [p] w w' := by
  obtain ⟨sa, sc, ra, rc, h1, h2, h3⟩ := h.ch.ex
  obtain ⟨c0, c1, c2, c3⟩ := four_cells h1
  have hpl := h.ch.lt
  have hq0 : 0 < sq.length := by have := bestTo_lt _ _ _ _ hb; omega
  have hd : ((sq.length : Int) == 0) = false := beq_eq_false_iff_ne.2 (by omega)
  have HQ := Lib.hid (fun W (hW : Upd [] w W) => (Rd.of_own h2).keep0 hW)
  have HP := Lib.hid (fun W (hW : Upd [] w W) => hp.keep0 hW)
  have HH := Lib.hid (fun W (hW : Upd [] w W) => h.keep0 hW)
  have HB := Lib.hid (And.intro hb hx)
  have H1 := Lib.hid h1
  clear h1 h2 h3 hp hb hx
  go_enter Try.func16, Try.ntmps16
  go_wp2_with fail
  refine (pop_none rp c room _ h.ring).mono ?_
  rintro e w1 ⟨rfl, rfl⟩
  go_wp2_with fail
  refine (best_chan sa ap sc cp i sq ps x _ (HQ.out _ (Upd.refl _ _)) (HP.out _ (Upd.refl _ _)) hm hmq HB.out.1 HB.out.2).mono ?_
  rintro e w2 ⟨a2, k2, rfl, ho2, hu02⟩
  have h12 := hu02.keep H1.out (by simp)
  have hs1 := hu02.size
  have hlen : sq.length - 1 = (sq.eraseIdx i).length := by rw [List.length_eraseIdx, if_pos (by have := bestTo_lt _ _ _ _ HB.out.1; omega)]
  have hpg : p < w2.heap.size := by omega
  have HO2 := Lib.hid ho2
  have HU2 := Lib.hid hu02
  have H12 := Lib.hid h12
  have HLEN := Lib.hid hlen
  clear ho2 hlen hu02 c0 c1 c2 c3 h12 h
  go_upto_region 9 with fail
  have h4 : (w2.alloc (.cells #[.int .i64 x.task, .int .i64 x.case_, .int .i64 x.seq, .int .i64 x.v] 68)).heap[w2.heap.size]? = some (.cells #[.int .i64 x.task, .int .i64 x.case_, .int .i64 x.seq, .int .i64 x.v] 68 (0, 0)) := heap_alloc_new _ _
  have hu4 : Upd [] w2 (w2.alloc (.cells #[.int .i64 x.task, .int .i64 x.case_, .int .i64 x.seq, .int .i64 x.v] 68)) := (Upd.refl _ _).alloc _
  generalize w2.alloc (.cells #[.int .i64 x.task, .int .i64 x.case_, .int .i64 x.seq, .int .i64 x.v] 68) = W3 at h4 hu4 ⊢
  have hp3 := hu4.keep H12.out (by simp)
  have hU3 := HU2.out.trans0 hu4
  have hch := (HH.out _ hU3).setS HLEN.out (own_keep0 HO2.out hu4)
  obtain ⟨g, hg⟩ : ∃ g, g = w2.heap.size := ⟨_, rfl⟩
  rw [← hg] at h4 hpg ⊢
  have hgw : w.heap.size ≤ g := by have := HU2.out.size; omega
  obtain ⟨y0, y1, y2, y3⟩ := four_cells h4
  obtain ⟨e0, e1, e2, e3⟩ := four_cells hp3
  have ef := four_frozen hp3
  have hu5 : Upd [p] W3 (W3.setCell ⟨p, 1, none⟩ (.slice a2 (sq.length - 1) k2)) := (Upd.refl [p] W3).setCell _ _ (fun _ => by simp)
  have h45 := hu5.keep h4 (by simp; omega)
  have hU5 : Upd [p] w (W3.setCell ⟨p, 1, none⟩ (.slice a2 (sq.length - 1) k2)) := (hU3.mono (fun z hz _ => by simp at hz)).transS hu5
  have hsz : (W3.setCell ⟨p, 1, none⟩ (.slice a2 (sq.length - 1) k2)).heap.size = W3.heap.size := by simp [World.setCell]
  have HCH := Lib.hid hch
  have HU5 := Lib.hid hU5
  have H45 := Lib.hid h45
  clear hch hU5 hu5 hu4 hU3 h4 hg hp3 h45 hsz
  go_upto_if 60 with fail
  generalize hW5 : W3.setCell ⟨p, 1, none⟩ (.slice a2 (sq.length - 1) k2) = W5 at *
  obtain ⟨z0, z1, z2, z3⟩ := four_cells H45.out
  clear hW5 e0 e1 e2 e3 y0 y1 y2 y3 ef
  go_wp2
  go_region_held3 (fun w' => w'.cell? ⟨g, 0, none⟩ = some (.int .i64 x.task) ∧ w'.cell? ⟨g, 1, none⟩ = some (.int .i64 x.case_) ∧ w'.cell? ⟨g, 3, none⟩ = some (.int .i64 x.v)) (first | trivial | go_keep) (fail)
  have hs5 := HU5.out.size
  go_wp2
  go_ret3
  exact ⟨_, rfl, hs5, heap_alloc_new W5 _, HCH.out.keep0 (((Upd.refl _ _).alloc _).drew), (HU5.out.alloc _).drew⟩
set_option maxHeartbeats 3200000 in
/-- The first value goes out, one that would send puts its own behind. -/
theorem chanRecv_both (p rp c room : Nat) (v : Int) (xs : List Int) (sq rq : List Wt) (cl : Bool) (ap : Option Addr) (cp : Nat) (ps : List Int) (i : Nat) (x : Wt) (w : World) (h : ChanP w p rp c room (v :: xs) sq rq cl) (hp : RdI w (.slice ap ps.length cp) ps) (hm : ps.length ≤ 1000000) (hmq : sq.length ≤ 100000) (hb : bestTo ps sq sq.length = some i) (hx : sq[i]? = some x) :
    Calls Try.prog 16 #[.pointer (some ⟨p, 0, none⟩), .slice ap ps.length cp] w fun e w' => ∃ g, e = .returned (.tuple #[.int .i64 v, .slice (some ⟨g, 0, none⟩) 1 1, .int .i64 0]) ∧ w.heap.size ≤ g ∧ w'.heap[g]? = some (.cells #[.int .i64 x.task, .int .i64 x.case_, .int .i64 x.v, .int .i64 0] 42 (0, 0)) ∧ ChanP w' p rp c room (xs ++ [x.v]) (sq.eraseIdx i) rq cl ∧ Upd [p, c] w w' := by
  obtain ⟨sa, sc, ra, rc, h1, h2, h3⟩ := h.ch.ex
  obtain ⟨c0, c1, c2, c3⟩ := four_cells h1
  have hpl := h.ch.lt
  have hq0 : 0 < sq.length := by have := bestTo_lt _ _ _ _ hb; omega
  have hd : ((sq.length : Int) == 0) = false := beq_eq_false_iff_ne.2 (by omega)
  have HB := Lib.hid (And.intro hb hx)
  have hle := h.ring.le
  have hpc := h.pc
  have hpr := h.pr
  have hrl := h.ring.ltp
  have hcl := h.ring.ltc
  clear hb hx
  go_enter Try.func16, Try.ntmps16
  go_wp2_with fail
  refine (pop_some rp c room v xs _ h.ring).mono ?_
  rintro e w1 ⟨rfl, hR, huc⟩
  have h' := h.turn huc hR
  have h1' := huc.keep h1 (by simp [hpc])
  have h2' := own_keepT h2 huc h.ring.notT
  have hp' : RdI w1 (.slice ap ps.length cp) ps := hp.keep huc (fun k hk hl => by
    obtain ⟨cc, t, f, h5⟩ := hp.blk hk hl
    obtain ⟨s, r, h4⟩ := h.ring.chan
    simp only [List.mem_singleton]
    rintro rfl
    rw [h5] at h4
    cases h4)
  have HQ := Lib.hid (fun W (hW : Upd [] w1 W) => (Rd.of_own h2').keep0 hW)
  have HP := Lib.hid (fun W (hW : Upd [] w1 W) => hp'.keep0 hW)
  have HH := Lib.hid (fun W (hW : Upd [] w1 W) => h'.keep0 hW)
  have H1 := Lib.hid h1'
  have HUC := Lib.hid huc
  have d1 := huc.cell c1 (by simp [hpc])
  have d3 := huc.cell c3 (by simp [hpc])
  have d0 := huc.cell c0 (by simp [hpc])
  have hs0 := huc.size
  have hle2 : xs.length < room := by simp at hle; omega
  clear h1 h2 h3 hp h h1' h2' hp' huc hR h' c0 c1 c2 c3 hle
  go_wp2_with fail
  refine (best_chan sa ap sc cp i sq ps x _ (HQ.out _ (Upd.refl _ _)) (HP.out _ (Upd.refl _ _)) hm hmq HB.out.1 HB.out.2).mono ?_
  rintro e w2 ⟨a2, k2, rfl, ho2, hu02⟩
  have h12 := hu02.keep H1.out (by simp)
  have hs1 := hu02.size
  have hlen : sq.length - 1 = (sq.eraseIdx i).length := by rw [List.length_eraseIdx, if_pos (by have := bestTo_lt _ _ _ _ HB.out.1; omega)]
  have hpg : p < w2.heap.size := by omega
  have HO2 := Lib.hid ho2
  have HU2 := Lib.hid hu02
  have H12 := Lib.hid h12
  have HLEN := Lib.hid hlen
  clear ho2 hlen hu02 d0 d1 d3 h12
  go_upto_region 9 with fail
  have h4 : (w2.alloc (.cells #[.int .i64 x.task, .int .i64 x.case_, .int .i64 x.seq, .int .i64 x.v] 68)).heap[w2.heap.size]? = some (.cells #[.int .i64 x.task, .int .i64 x.case_, .int .i64 x.seq, .int .i64 x.v] 68 (0, 0)) := heap_alloc_new _ _
  have hu4 : Upd [] w2 (w2.alloc (.cells #[.int .i64 x.task, .int .i64 x.case_, .int .i64 x.seq, .int .i64 x.v] 68)) := (Upd.refl _ _).alloc _
  generalize w2.alloc (.cells #[.int .i64 x.task, .int .i64 x.case_, .int .i64 x.seq, .int .i64 x.v] 68) = W3 at h4 hu4 ⊢
  have hp3 := hu4.keep H12.out (by simp)
  have hU3 := HU2.out.trans0 hu4
  have hch := (HH.out _ hU3).setS HLEN.out (own_keep0 HO2.out hu4)
  obtain ⟨g, hg⟩ : ∃ g, g = w2.heap.size := ⟨_, rfl⟩
  rw [← hg] at h4 hpg ⊢
  have hgw : w1.heap.size ≤ g := by have := HU2.out.size; omega
  obtain ⟨y0, y1, y2, y3⟩ := four_cells h4
  obtain ⟨e0, e1, e2, e3⟩ := four_cells hp3
  have ef := four_frozen hp3
  have hu5 : Upd [p] W3 (W3.setCell ⟨p, 1, none⟩ (.slice a2 (sq.length - 1) k2)) := (Upd.refl [p] W3).setCell _ _ (fun _ => by simp)
  have h45 := hu5.keep h4 (by simp; omega)
  have hU5 : Upd [p] w1 (W3.setCell ⟨p, 1, none⟩ (.slice a2 (sq.length - 1) k2)) := (hU3.mono (fun z hz _ => by simp at hz)).transS hu5
  have hsz : (W3.setCell ⟨p, 1, none⟩ (.slice a2 (sq.length - 1) k2)).heap.size = W3.heap.size := by simp [World.setCell]
  have HCH := Lib.hid hch
  have HU5 := Lib.hid hU5
  have H45 := Lib.hid h45
  have HP3 := Lib.hid hp3
  clear hch hU5 hu5 hu4 hU3 h4 hg hp3 h45 hsz
  go_upto_if 60 with fail
  generalize hW5 : W3.setCell ⟨p, 1, none⟩ (.slice a2 (sq.length - 1) k2) = W5 at *
  have h15 : W5.heap[p]? = some (.cells #[.pointer (some ⟨rp, 0, none⟩), .slice a2 (sq.length - 1) k2, .slice ra rq.length rc, .bool cl] 76 (0, 0)) := by rw [← hW5]; exact four_set1 HP3.out
  obtain ⟨z0, z1, z2, z3⟩ := four_cells H45.out
  obtain ⟨p0, p1, p2, p3⟩ := four_cells h15
  have hcg : c ≠ g := by omega
  have hs5 := HU5.out.size
  clear hW5 e0 e1 e2 e3 y0 y1 y2 y3 ef h15 HP3
  go_wp2
  go_region_held3 (fun w' => w'.cell? ⟨p, 0, none⟩ = some (.pointer (some ⟨rp, 0, none⟩)) ∧ w'.cell? ⟨g, 3, none⟩ = some (.int .i64 x.v)) (first | trivial | go_keep) (first
    | (go_at_call 25; refine (push_room rp c room xs x.v _ (by first | exact HCH.out.ring | exact (HCH.out.keep0 (Upd.drew (Upd.refl [] W5))).ring | exact (HCH.out.keep0 ((Upd.refl [] W5).drewN _)).ring) hle2).mono ?_; rintro e w6 ⟨rfl, hR6, hu6⟩; have q0 := hu6.cell (p := ⟨p, 0, none⟩) p0 (by simp [hpc]); have q3 := hu6.cell (p := ⟨g, 3, none⟩) z3 (by simp; omega)))
  have hcg2 : g ≠ c := by omega
  have hch6 := (HCH.out.keep0 (Upd.drew (Upd.refl [] W5))).turn hu6 hR6
  have r0 := hu6.cell (p := ⟨g, 0, none⟩) z0 (by simp [hcg2])
  have r1 := hu6.cell (p := ⟨g, 1, none⟩) z1 (by simp [hcg2])
  have hU6 : Upd [p, c] w w6 := (HUC.out.mono (fun z hz _ => by simp at hz; simp [hz])).transS ((HU5.out.mono (fun z hz _ => by simp at hz; simp [hz])).transS (((Upd.refl [] W5).drew.mono (fun z hz _ => by simp at hz)).transS (hu6.mono (fun z hz _ => by simp at hz; simp [hz]))))
  have HCH6 := Lib.hid hch6
  have HU6 := Lib.hid hU6
  have hs6 := hU6.size
  clear hch6 hU6 hu6 hR6 p0 p1 p2 p3 z0 z1 z2 z3 q0
  go_wp2
  go_region_held3 (fun w' => w'.cell? ⟨g, 0, none⟩ = some (.int .i64 x.task) ∧ w'.cell? ⟨g, 1, none⟩ = some (.int .i64 x.case_) ∧ w'.cell? ⟨g, 3, none⟩ = some (.int .i64 x.v)) (first | trivial | go_keep) (fail)
  go_wp2
  go_ret3
  exact ⟨_, rfl, hs6, heap_alloc_new w6 _, HCH6.out.keep0 (((Upd.refl _ _).alloc _).drew), (HU6.out.alloc _).drew⟩
end Go.Proofs.Ytjiepoeeahnbgaa
