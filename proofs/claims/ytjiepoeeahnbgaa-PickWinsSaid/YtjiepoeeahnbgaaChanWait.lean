
/- Wait of package chanq. -/
import Derived.Test.YtjiepoeeahnbgaaChanRecv
import Derived.Test.YtjiepoeeahnbgaaRefWaitW
import Derived.Test.YtjiepoeeahnbgaaRowZ
import Derived.Test.YtjiepoeeahnbgaaWaitWithout
namespace Go.Proofs.Ytjiepoeeahnbgaa
set_option linter.unusedVariables false
set_option linter.unusedSimpArgs false
open Go.RowKit
/-- Does one wait for that case? -/
def has2 (q : List Wt) (x : Wt) : Bool := q.any fun y => y.task == x.task && y.case_ == x.case_
theorem has2_step (q : List Wt) (x : Wt) (k : Nat) (y : Wt) (hy : q[k]? = some y) : has2 (q.take (k + 1)) x = (has2 (q.take k) x || (y.task == x.task && y.case_ == x.case_)) := by
  unfold has2
  rw [List.take_add_one, hy]
  simp
theorem has2_sub (q : List Wt) (x : Wt) (k : Nat) (h : has2 (q.take k) x = true) : has2 q x = true := by
  unfold has2 at *
  rw [List.any_eq_true] at *
  obtain ⟨y, hy, h⟩ := h
  exact ⟨y, List.mem_of_mem_take hy, h⟩
set_option maxHeartbeats 3200000 in
theorem chanWaitR_state (p rp c room : Nat) (xs : List Int) (sq rq : List Wt) (cl : Bool) (x : Wt) (w : World) (h : ChanP w p rp c room xs sq rq cl) (hc : canR xs sq cl = true) :
    Calls Try.prog 20 #[.pointer (some ⟨p, 0, none⟩), .agg #[.int .i64 x.task, .int .i64 x.case_, .int .i64 x.seq, .int .i64 x.v], .bool false] w fun e w' => e = .returned (.int .i64 10) ∧ Upd [] w w' := by
  obtain ⟨sa, sc, ra, rc, h1, h2, h3⟩ := h.ch.ex
  obtain ⟨W0, hW0⟩ : ∃ W0, W0 = w.alloc (.cells #[.int .i64 x.task, .int .i64 x.case_, .int .i64 x.seq, .int .i64 x.v] 68) := ⟨_, rfl⟩
  have hu1 : Upd [] w W0 := by rw [hW0]; exact (Upd.refl _ _).alloc _
  have HW0 := Lib.hid hW0
  have HH := Lib.hid (fun W (hW : Upd [] W0 W) => h.keep0 (hu1.trans0 hW))
  have hu0 := Upd.refl [] W0
  have HU1 := Lib.hid hu1
  clear h h1 h2 h3 hW0 hu1
  go_enter Try.func20, Try.ntmps20
  go_wp2
  go_step3
  go_wp2
  rw [← HW0.out]
  go_region_held3 (fun _ => True) (first | trivial | go_keep) (first
    | (go_at_call 31; refine (canRecv_any p rp c room xs sq rq cl _ (HH.out _ (by repeat (first | exact hu0 | refine Upd.drewN ?_ _ | refine Upd.drew ?_)))).mono ?_; rw [hc]; rintro e w1 ⟨rfl, hu⟩; have hU := Upd.trans0 (a := W0) (S := []) (by repeat (first | exact hu0 | refine Upd.drewN ?_ _ | refine Upd.drew ?_)) hu))
  go_wp2
  rw [Exit.noGoto_ret]
  go_ret
  exact ⟨rfl, HU1.out.trans0 hU⟩
set_option maxHeartbeats 6400000 in
set_option maxRecDepth 100000 in
theorem chanWaitR_any (p rp c room : Nat) (xs : List Int) (sq rq : List Wt) (cl : Bool) (x : Wt) (w : World) (h : ChanP w p rp c room xs sq rq cl) (hc : canR xs sq cl = false) (hmq : rq.length ≤ 100000) :
    Calls Try.prog 20 #[.pointer (some ⟨p, 0, none⟩), .agg #[.int .i64 x.task, .int .i64 x.case_, .int .i64 x.seq, .int .i64 x.v], .bool false] w fun e w' => e = .returned (.int .i64 (if has2 rq x = true then 6 else 0)) ∧ (ChanP w' p rp c room xs sq (if has2 rq x = true then rq else rq ++ [x]) cl) ∧ Upd [p] w w' := by
  obtain ⟨sa, sc, ra, rc, h1, h2, h3⟩ := h.ch.ex
  obtain ⟨W0, hW0⟩ : ∃ W0, W0 = w.alloc (.cells #[.int .i64 x.task, .int .i64 x.case_, .int .i64 x.seq, .int .i64 x.v] 68) := ⟨_, rfl⟩
  have hu1 : Upd [] w W0 := by rw [hW0]; exact (Upd.refl _ _).alloc _
  have HW0 := Lib.hid hW0
  have HH := Lib.hid (fun W (hW : Upd [] W0 W) => h.keep0 (hu1.trans0 hW))
  have hu0 := Upd.refl [] W0
  have hx4 : W0.heap[w.heap.size]? = some (.cells #[.int .i64 x.task, .int .i64 x.case_, .int .i64 x.seq, .int .i64 x.v] 68 (0, 0)) := by rw [hW0]; exact heap_alloc_new _ _
  have HX := Lib.hid (fun W (hW : Upd [] W0 W) => four_cells (hW.keep hx4 (by simp)))
  have HC := Lib.hid (fun W (hW : Upd [] W0 W) => four_cells ((hu1.trans0 hW).keep h1 (by simp)))
  have HF := Lib.hid (fun W (hW : Upd [] W0 W) => four_frozen ((hu1.trans0 hW).keep h1 (by simp)))
  have HQ := Lib.hid (fun W (hW : Upd [] W0 W) => (Rd.of_own h3).keep0 (hu1.trans0 hW))
  have hbx : w.heap.size < W0.heap.size := blk_lt hx4
  have hpl := h.ch.lt
  clear hx4
  have HU1 := Lib.hid hu1
  clear h h1 h2 h3 hW0 hu1
  go_enter Try.func20, Try.ntmps20
  go_wp2
  go_step3
  go_wp2
  rw [← HW0.out]
  go_region_held3 (fun _ => True) (first | trivial | go_keep) (first
    | (go_at_call 31; refine (canRecv_any p rp c room xs sq rq cl _ (HH.out _ (by repeat (first | exact hu0 | refine Upd.drewN ?_ _ | refine Upd.drew ?_)))).mono ?_; rw [hc]; rintro e w1 ⟨rfl, hu⟩; have hU := Upd.trans0 (a := W0) (S := []) (by repeat (first | exact hu0 | refine Upd.drewN ?_ _ | refine Upd.drew ?_)) hu))
  obtain ⟨d0, d1, d2, d3⟩ := HC.out _ hU
  have HU := Lib.hid hU
  clear hU hu
  go_wp2
  go_step3
  go_wp2
  go_loopw [27] (fun iv wr => ∃ (k : Nat), k ≤ rq.length ∧ iv = .int .i64 k ∧ Hid (has2 (rq.take k) x = false) ∧ Hid (Upd [] W0 wr)) (fun iv _ => rq.length - (intOf iv).toNat)
  case atStart => exact ⟨0, Nat.zero_le _, rfl, Lib.hid rfl, HU⟩
  case round =>
    clear HU d0 d1 d2 d3
    obtain ⟨k, hk, rfl, HN, HU⟩ := hrel
    by_cases hlt : k < rq.length
    · obtain ⟨y, hy⟩ : ∃ y, rq[k]? = some y := ⟨_, List.getElem?_eq_getElem hlt⟩
      obtain ⟨b, off, hab, y0, y1, y2, y3⟩ := RdW.cells (HQ.out _ HU.out) hy
      obtain ⟨x0, x1, x2, x3⟩ := HX.out _ HU.out
      have hst := has2_step rq x k y hy
      rw [HN.out, Bool.false_or] at hst
      have hbl : w.heap.size < wr.heap.size := Nat.lt_of_lt_of_le hbx HU.out.size
      have k0 : (0 : Int) ≤ (k : Int) := by omega
      have k1 : (k : Int) < (rq.length : Int) := by omega
      have HST := Lib.hid hst
      subst hab
      clear hst hy
      by_cases ht : y.task = x.task
      · have t1 : (y.task != x.task) = false := by simp [ht]
        by_cases hcs : y.case_ = x.case_
        · have t2 : (y.case_ != x.case_) = false := by simp [hcs]
          have hh : has2 rq x = true := has2_sub rq x (k + 1) (by rw [HST.out]; simp [ht, hcs])
          have HHH := Lib.hid hh
          clear hh ht hcs
          go_wp2
          rw [Exit.noGoto_ret]
          go_ret
          have hfin : Upd [] W0 (wr.alloc (.cells #[.int .i64 y.task, .int .i64 y.case_, .int .i64 y.seq, .int .i64 y.v] 68)) := HU.out.alloc _
          rw [HHH.out]
          exact ⟨rfl, by simpa using HH.out _ hfin, (HU1.out.trans0 hfin).mono (fun z hz _ => by simp at hz)⟩
        · have t2 : (y.case_ != x.case_) = true := bne_iff_ne.2 hcs
          have hn : has2 (rq.take (k + 1)) x = false := by rw [HST.out]; simp [hcs]
          have HN2 := Lib.hid hn
          clear hn ht hcs
          go_wp2
          go_roundw
          case rel => exact ⟨k + 1, by omega, by go_num, HN2, Lib.hid (HU.out.alloc _)⟩
          case measure => simp [intOf]; omega
      · have t1 : (y.task != x.task) = true := bne_iff_ne.2 ht
        have hn : has2 (rq.take (k + 1)) x = false := by rw [HST.out]; simp [ht]
        have HN2 := Lib.hid hn
        clear hn ht
        go_wp2
        go_roundw
        case rel => exact ⟨k + 1, by omega, by go_num, HN2, Lib.hid (HU.out.alloc _)⟩
        case measure => simp [intOf]; omega
    · obtain rfl : k = rq.length := by omega
      have hno : has2 rq x = false := by have h := HN.out; rwa [List.take_of_length_le (Nat.le_refl _)] at h
      have HNO := Lib.hid hno
      clear hno
      have HCL : Hid (∀ W, Upd [] W0 W → Calls Try.prog 27 #[.slice ra rq.length rc] W fun e w' => ∃ a1 c1, e = .returned (.slice a1 rq.length c1) ∧ Hid (∀ W', Upd [] w' W' → W'.ownsRow W0.heap.size 68 4 (.slice a1 rq.length c1) rq.length (rq.flatMap Wt.enc)) ∧ Upd [] W0 w' ∧ Upd [] W w') := Lib.hid (fun W hW => by
        refine (cloneQ_any ra rc rq W (HQ.out W hW) (by omega)).mono ?_
        rintro e w' ⟨a1, c1, rfl, ho, hu⟩
        exact ⟨a1, c1, rfl, Lib.hid (fun W' hW' => own_keep0 (own_lower ho hW.size) hW'), hW.trans0 hu, hu⟩)
      have hU := HU.out
      obtain ⟨d0, d1, d2, d3⟩ := HC.out _ hU
      obtain ⟨x0, x1, x2, x3⟩ := HX.out _ hU
      have zf := HF.out _ hU
      have hbl : w.heap.size < wr.heap.size := Nat.lt_of_lt_of_le hbx HU.out.size
      have hbp : p < wr.heap.size := by omega
      have hm1 : rq.length + 1 ≤ maxLen := by unfold maxLen; omega
      have hm2 : (rq.length + 1) * 32 ≤ 140737488355328 := by omega
      go_wp2
      go_region_law (first
        | (refine step_extend tWt rfl (.tmp 48) (.tmp 50) rfl (HOC.out _ (by repeat (first | exact Upd.refl _ _ | refine Upd.alloc ?_ _ | refine Upd.drewN ?_ _ | refine Upd.drew ?_))) rfl rfl (by first | exact rd_new _ x.enc _ | exact RD | exact RD.keep0 (by repeat (first | exact Upd.refl _ _ | refine Upd.drewN ?_ _ | refine Upd.drew ?_))) rfl (Wt.one1 x) hm1 hm2 (Nat.le_trans hs1 (by simp)) ?_; intro a3 k3 w3 hown3 hu3; have hU3 := Upd.trans (a := W0) (S := []) (by repeat (first | exact hUc | refine Upd.alloc ?_ _ | refine Upd.drewN ?_ _ | refine Upd.drew ?_)) hu3 (fun y hy hl => by have := ((HOC.out _ (Upd.refl _ _)).lt y (by simpa using hy)).1; omega); obtain ⟨d0, d1, d2, d3⟩ := HC.out _ hU3; have zf := HF.out _ hU3)
        | (go_simp; go_at_call 27; refine Calls.mono (HCL.out _ (by repeat (first | exact hU | refine Upd.alloc ?_ _ | refine Upd.drewN ?_ _ | refine Upd.drew ?_))) ?_; rintro e w1 ⟨a1, c1, rfl, HOC, hUc, hk⟩; (try have RD : Rd w1 (.slice (some ⟨wr.heap.size, 0, none⟩) 1 1) 1 x.enc := (by first | exact (rd_new _ x.enc _).keep0 hk | exact (rd_new _ x.enc _).keep0 (Upd.trans0 (Upd.drew (Upd.refl [] _)) hk) | exact (rd_new _ x.enc _).keep0 (Upd.trans0 (Upd.drewN (Upd.refl [] _) _) hk))); obtain ⟨d0, d1, d2, d3⟩ := HC.out _ hUc; obtain ⟨x0, x1, x2, x3⟩ := HX.out _ hUc; have zf := HF.out _ hUc; have hs1 := hUc.size; have hbl := Nat.lt_of_lt_of_le hbx hs1; dsimp only))
      all_goals
        have hfl : (rq ++ [x]).flatMap Wt.enc = rq.flatMap Wt.enc ++ x.enc := by simp
        have hch := (HH.out _ hU3).setR (n := rq.length + 1) (q' := rq ++ [x]) (by simp) (by rw [hfl]; exact hown3)
        have hUp : Upd [p] w (w3.setCell ⟨p, 2, none⟩ (.slice a3 (rq.length + 1) k3)) := ((HU1.out.trans0 hU3).mono (fun z hz _ => by simp at hz)).setCell _ _ (fun _ => by simp)
        have HCH := Lib.hid hch
        have HUP := Lib.hid hUp
        clear hch hUp hown3 hu3 hU3 HOC hUc hk hfl
        go_wp2
        rw [Exit.noGoto_ret]
        go_ret
        rw [HNO.out]
        exact ⟨rfl, HCH.out, HUP.out⟩
set_option maxHeartbeats 3200000 in
theorem chanWaitS_state (p rp c room : Nat) (xs : List Int) (sq rq : List Wt) (cl : Bool) (x : Wt) (w : World) (h : ChanP w p rp c room xs sq rq cl) (hc : canS room xs rq cl = true) :
    Calls Try.prog 20 #[.pointer (some ⟨p, 0, none⟩), .agg #[.int .i64 x.task, .int .i64 x.case_, .int .i64 x.seq, .int .i64 x.v], .bool true] w fun e w' => e = .returned (.int .i64 10) ∧ Upd [] w w' := by
  obtain ⟨sa, sc, ra, rc, h1, h2, h3⟩ := h.ch.ex
  obtain ⟨W0, hW0⟩ : ∃ W0, W0 = w.alloc (.cells #[.int .i64 x.task, .int .i64 x.case_, .int .i64 x.seq, .int .i64 x.v] 68) := ⟨_, rfl⟩
  have hu1 : Upd [] w W0 := by rw [hW0]; exact (Upd.refl _ _).alloc _
  have HW0 := Lib.hid hW0
  have HH := Lib.hid (fun W (hW : Upd [] W0 W) => h.keep0 (hu1.trans0 hW))
  have hu0 := Upd.refl [] W0
  have HU1 := Lib.hid hu1
  clear h h1 h2 h3 hW0 hu1
  go_enter Try.func20, Try.ntmps20
  go_wp2
  go_step3
  go_wp2
  rw [← HW0.out]
  go_region_held3 (fun _ => True) (first | trivial | go_keep) (first
    | (go_at_call 31; refine (canRecv_any p rp c room xs sq rq cl _ (HH.out _ (by repeat (first | exact hu0 | refine Upd.drewN ?_ _ | refine Upd.drew ?_)))).mono ?_; rintro e w1 ⟨rfl, hu⟩; have hU := Upd.trans0 (a := W0) (S := []) (by repeat (first | exact hu0 | refine Upd.drewN ?_ _ | refine Upd.drew ?_)) hu))
  have hU0 := hU
  clear hu hU
  generalize canR xs sq cl = cr
  go_wp2
  go_region_held3 (fun _ => True) (first | trivial | go_keep) (first
    | (go_at_call 12; refine (canSend_any p rp c room xs sq rq cl _ (HH.out _ (by repeat (first | exact hU0 | refine Upd.drewN ?_ _ | refine Upd.drew ?_)))).mono ?_; rw [hc]; rintro e w1 ⟨rfl, hu⟩; have hU := Upd.trans0 (a := W0) (S := []) (by repeat (first | exact hU0 | refine Upd.drewN ?_ _ | refine Upd.drew ?_)) hu))
  go_wp2
  rw [Exit.noGoto_ret]
  go_ret
  exact ⟨rfl, HU1.out.trans0 hU⟩
set_option maxHeartbeats 6400000 in
set_option maxRecDepth 100000 in
theorem chanWaitS_any (p rp c room : Nat) (xs : List Int) (sq rq : List Wt) (cl : Bool) (x : Wt) (w : World) (h : ChanP w p rp c room xs sq rq cl) (hc : canS room xs rq cl = false) (hmq : sq.length ≤ 100000) :
    Calls Try.prog 20 #[.pointer (some ⟨p, 0, none⟩), .agg #[.int .i64 x.task, .int .i64 x.case_, .int .i64 x.seq, .int .i64 x.v], .bool true] w fun e w' => e = .returned (.int .i64 (if has2 sq x = true then 6 else 0)) ∧ (ChanP w' p rp c room xs (if has2 sq x = true then sq else sq ++ [x]) rq cl) ∧ Upd [p] w w' := by
  obtain ⟨sa, sc, ra, rc, h1, h2, h3⟩ := h.ch.ex
  obtain ⟨W0, hW0⟩ : ∃ W0, W0 = w.alloc (.cells #[.int .i64 x.task, .int .i64 x.case_, .int .i64 x.seq, .int .i64 x.v] 68) := ⟨_, rfl⟩
  have hu1 : Upd [] w W0 := by rw [hW0]; exact (Upd.refl _ _).alloc _
  have HW0 := Lib.hid hW0
  have HH := Lib.hid (fun W (hW : Upd [] W0 W) => h.keep0 (hu1.trans0 hW))
  have hu0 := Upd.refl [] W0
  have hx4 : W0.heap[w.heap.size]? = some (.cells #[.int .i64 x.task, .int .i64 x.case_, .int .i64 x.seq, .int .i64 x.v] 68 (0, 0)) := by rw [hW0]; exact heap_alloc_new _ _
  have HX := Lib.hid (fun W (hW : Upd [] W0 W) => four_cells (hW.keep hx4 (by simp)))
  have HC := Lib.hid (fun W (hW : Upd [] W0 W) => four_cells ((hu1.trans0 hW).keep h1 (by simp)))
  have HF := Lib.hid (fun W (hW : Upd [] W0 W) => four_frozen ((hu1.trans0 hW).keep h1 (by simp)))
  have HQ := Lib.hid (fun W (hW : Upd [] W0 W) => (Rd.of_own h2).keep0 (hu1.trans0 hW))
  have hbx : w.heap.size < W0.heap.size := blk_lt hx4
  have hpl := h.ch.lt
  clear hx4
  have HU1 := Lib.hid hu1
  clear h h1 h2 h3 hW0 hu1
  go_enter Try.func20, Try.ntmps20
  go_wp2
  go_step3
  go_wp2
  rw [← HW0.out]
  go_region_held3 (fun _ => True) (first | trivial | go_keep) (first
    | (go_at_call 31; refine (canRecv_any p rp c room xs sq rq cl _ (HH.out _ (by repeat (first | exact hu0 | refine Upd.drewN ?_ _ | refine Upd.drew ?_)))).mono ?_; rintro e w1 ⟨rfl, hu⟩; have hU := Upd.trans0 (a := W0) (S := []) (by repeat (first | exact hu0 | refine Upd.drewN ?_ _ | refine Upd.drew ?_)) hu))
  have hU0 := hU
  clear hu hU
  generalize canR xs sq cl = cr
  go_wp2
  go_region_held3 (fun _ => True) (first | trivial | go_keep) (first
    | (go_at_call 12; refine (canSend_any p rp c room xs sq rq cl _ (HH.out _ (by repeat (first | exact hU0 | refine Upd.drewN ?_ _ | refine Upd.drew ?_)))).mono ?_; rw [hc]; rintro e w1 ⟨rfl, hu⟩; have hU := Upd.trans0 (a := W0) (S := []) (by repeat (first | exact hU0 | refine Upd.drewN ?_ _ | refine Upd.drew ?_)) hu))
  obtain ⟨d0, d1, d2, d3⟩ := HC.out _ hU
  have HU := Lib.hid hU
  clear hU hu
  go_wp2
  go_step3
  go_wp2
  go_loopw [27] (fun iv wr => ∃ (k : Nat), k ≤ sq.length ∧ iv = .int .i64 k ∧ Hid (has2 (sq.take k) x = false) ∧ Hid (Upd [] W0 wr)) (fun iv _ => sq.length - (intOf iv).toNat)
  case atStart => exact ⟨0, Nat.zero_le _, rfl, Lib.hid rfl, HU⟩
  case round =>
    clear HU d0 d1 d2 d3
    obtain ⟨k, hk, rfl, HN, HU⟩ := hrel
    by_cases hlt : k < sq.length
    · obtain ⟨y, hy⟩ : ∃ y, sq[k]? = some y := ⟨_, List.getElem?_eq_getElem hlt⟩
      obtain ⟨b, off, hab, y0, y1, y2, y3⟩ := RdW.cells (HQ.out _ HU.out) hy
      obtain ⟨x0, x1, x2, x3⟩ := HX.out _ HU.out
      have hst := has2_step sq x k y hy
      rw [HN.out, Bool.false_or] at hst
      have hbl : w.heap.size < wr.heap.size := Nat.lt_of_lt_of_le hbx HU.out.size
      have k0 : (0 : Int) ≤ (k : Int) := by omega
      have k1 : (k : Int) < (sq.length : Int) := by omega
      have HST := Lib.hid hst
      subst hab
      clear hst hy
      by_cases ht : y.task = x.task
      · have t1 : (y.task != x.task) = false := by simp [ht]
        by_cases hcs : y.case_ = x.case_
        · have t2 : (y.case_ != x.case_) = false := by simp [hcs]
          have hh : has2 sq x = true := has2_sub sq x (k + 1) (by rw [HST.out]; simp [ht, hcs])
          have HHH := Lib.hid hh
          clear hh ht hcs
          go_wp2
          rw [Exit.noGoto_ret]
          go_ret
          have hfin : Upd [] W0 (wr.alloc (.cells #[.int .i64 y.task, .int .i64 y.case_, .int .i64 y.seq, .int .i64 y.v] 68)) := HU.out.alloc _
          rw [HHH.out]
          exact ⟨rfl, by simpa using HH.out _ hfin, (HU1.out.trans0 hfin).mono (fun z hz _ => by simp at hz)⟩
        · have t2 : (y.case_ != x.case_) = true := bne_iff_ne.2 hcs
          have hn : has2 (sq.take (k + 1)) x = false := by rw [HST.out]; simp [hcs]
          have HN2 := Lib.hid hn
          clear hn ht hcs
          go_wp2
          go_roundw
          case rel => exact ⟨k + 1, by omega, by go_num, HN2, Lib.hid (HU.out.alloc _)⟩
          case measure => simp [intOf]; omega
      · have t1 : (y.task != x.task) = true := bne_iff_ne.2 ht
        have hn : has2 (sq.take (k + 1)) x = false := by rw [HST.out]; simp [ht]
        have HN2 := Lib.hid hn
        clear hn ht
        go_wp2
        go_roundw
        case rel => exact ⟨k + 1, by omega, by go_num, HN2, Lib.hid (HU.out.alloc _)⟩
        case measure => simp [intOf]; omega
    · obtain rfl : k = sq.length := by omega
      have hno : has2 sq x = false := by have h := HN.out; rwa [List.take_of_length_le (Nat.le_refl _)] at h
      have HNO := Lib.hid hno
      clear hno
      have HCL : Hid (∀ W, Upd [] W0 W → Calls Try.prog 27 #[.slice sa sq.length sc] W fun e w' => ∃ a1 c1, e = .returned (.slice a1 sq.length c1) ∧ Hid (∀ W', Upd [] w' W' → W'.ownsRow W0.heap.size 68 4 (.slice a1 sq.length c1) sq.length (sq.flatMap Wt.enc)) ∧ Upd [] W0 w' ∧ Upd [] W w') := Lib.hid (fun W hW => by
        refine (cloneQ_any sa sc sq W (HQ.out W hW) (by omega)).mono ?_
        rintro e w' ⟨a1, c1, rfl, ho, hu⟩
        exact ⟨a1, c1, rfl, Lib.hid (fun W' hW' => own_keep0 (own_lower ho hW.size) hW'), hW.trans0 hu, hu⟩)
      have hU := HU.out
      obtain ⟨d0, d1, d2, d3⟩ := HC.out _ hU
      obtain ⟨x0, x1, x2, x3⟩ := HX.out _ hU
      have zf := HF.out _ hU
      have hbl : w.heap.size < wr.heap.size := Nat.lt_of_lt_of_le hbx HU.out.size
      have hbp : p < wr.heap.size := by omega
      have hm1 : sq.length + 1 ≤ maxLen := by unfold maxLen; omega
      have hm2 : (sq.length + 1) * 32 ≤ 140737488355328 := by omega
      go_wp2
      go_region_law (first
        | (refine step_extend tWt rfl (.tmp 48) (.tmp 50) rfl (HOC.out _ (by repeat (first | exact Upd.refl _ _ | refine Upd.alloc ?_ _ | refine Upd.drewN ?_ _ | refine Upd.drew ?_))) rfl rfl (by first | exact rd_new _ x.enc _ | exact RD | exact RD.keep0 (by repeat (first | exact Upd.refl _ _ | refine Upd.drewN ?_ _ | refine Upd.drew ?_))) rfl (Wt.one1 x) hm1 hm2 (Nat.le_trans hs1 (by simp)) ?_; intro a3 k3 w3 hown3 hu3; have hU3 := Upd.trans (a := W0) (S := []) (by repeat (first | exact hUc | refine Upd.alloc ?_ _ | refine Upd.drewN ?_ _ | refine Upd.drew ?_)) hu3 (fun y hy hl => by have := ((HOC.out _ (Upd.refl _ _)).lt y (by simpa using hy)).1; omega); obtain ⟨d0, d1, d2, d3⟩ := HC.out _ hU3; have zf := HF.out _ hU3)
        | (go_simp; go_at_call 27; refine Calls.mono (HCL.out _ (by repeat (first | exact hU | refine Upd.alloc ?_ _ | refine Upd.drewN ?_ _ | refine Upd.drew ?_))) ?_; rintro e w1 ⟨a1, c1, rfl, HOC, hUc, hk⟩; (try have RD : Rd w1 (.slice (some ⟨wr.heap.size, 0, none⟩) 1 1) 1 x.enc := (by first | exact (rd_new _ x.enc _).keep0 hk | exact (rd_new _ x.enc _).keep0 (Upd.trans0 (Upd.drew (Upd.refl [] _)) hk) | exact (rd_new _ x.enc _).keep0 (Upd.trans0 (Upd.drewN (Upd.refl [] _) _) hk))); obtain ⟨d0, d1, d2, d3⟩ := HC.out _ hUc; obtain ⟨x0, x1, x2, x3⟩ := HX.out _ hUc; have zf := HF.out _ hUc; have hs1 := hUc.size; have hbl := Nat.lt_of_lt_of_le hbx hs1; dsimp only))
      all_goals
        have hfl : (sq ++ [x]).flatMap Wt.enc = sq.flatMap Wt.enc ++ x.enc := by simp
        have hch := (HH.out _ hU3).setS (n := sq.length + 1) (q' := sq ++ [x]) (by simp) (by rw [hfl]; exact hown3)
        have hUp : Upd [p] w (w3.setCell ⟨p, 1, none⟩ (.slice a3 (sq.length + 1) k3)) := ((HU1.out.trans0 hU3).mono (fun z hz _ => by simp at hz)).setCell _ _ (fun _ => by simp)
        have HCH := Lib.hid hch
        have HUP := Lib.hid hUp
        clear hch hUp hown3 hu3 hU3 HOC hUc hk hfl
        go_wp2
        rw [Exit.noGoto_ret]
        go_ret
        rw [HNO.out]
        exact ⟨rfl, HCH.out, HUP.out⟩
end Go.Proofs.Ytjiepoeeahnbgaa
