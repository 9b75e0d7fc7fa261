/- The reference's Wait. -/
import Derived.Test.YthchclhleppdhaaRefRecv
import Derived.Test.YthchclhleppdhaaChanWait
namespace Go.Proofs.Ythchclhleppdhaa
set_option linter.unusedVariables false
set_option linter.unusedSimpArgs false
open Go.RowKit
theorem rd_blkW {w : World} {g : Nat} {t : TypeId} {x : Wt} (h : w.heap[g]? = some (.cells #[.int .i64 x.task, .int .i64 x.case_, .int .i64 x.seq, .int .i64 x.v] t (0, 0))) : Rd w (.slice (some ⟨g, 0, none⟩) 1 1) 1 x.enc := by
  refine ⟨_, 1, rfl, Nat.le_refl _, by unfold maxLen; omega, (fun h => by cases h), .inr ⟨_, _, rfl, fun j u hj => ?_⟩⟩
  simp only [Wt.enc] at hj
  simp only [Nat.zero_add, World.cell?, h]
  simpa using hj
set_option maxHeartbeats 3200000 in
theorem refWaitR_state (q m room : Nat) (xs : List Int) (sq rq : List Wt) (cl : Bool) (x : Wt) (w : World) (h : ChanM w q m room xs sq rq cl) (hc : canR xs sq cl = true) :
    Calls Try.prog 26 #[.pointer (some ⟨q, 0, none⟩), .agg #[.int .i64 x.task, .int .i64 x.case_, .int .i64 x.seq, .int .i64 x.v], .bool false] w fun e w' => e = .returned (.int .i64 10) ∧ Upd [] w w' := by
  obtain ⟨sa, sc, ra, rc, h1, h2, h3⟩ := h.ch.ex
  obtain ⟨W0, hW0⟩ : ∃ W0, W0 = w.alloc (.cells #[.int .i64 x.task, .int .i64 x.case_, .int .i64 x.seq, .int .i64 x.v] 55) := ⟨_, rfl⟩
  have hu1 : Upd [] w W0 := by rw [hW0]; exact (Upd.refl _ _).alloc _
  have HW0 := Lib.hid hW0
  have HH := Lib.hid (fun W (hW : Upd [] W0 W) => h.keep0 (hu1.trans0 hW))
  have hu0 := Upd.refl [] W0
  have HU1 := Lib.hid hu1
  clear h h1 h2 h3 hW0 hu1
  go_enter Try.func26, Try.ntmps26
  go_wp2_with fail
  rw [← HW0.out]
  refine (refCanRecv_any q m room xs sq rq cl _ (HH.out _ hu0)).mono ?_
  rw [hc]
  rintro e w1 ⟨rfl, rfl⟩
  have hU := hu0
  go_wp2
  go_ret
  exact ⟨rfl, HU1.out.trans0 hU⟩
set_option maxHeartbeats 6400000 in
set_option maxRecDepth 100000 in
theorem refWaitR_any (q m room : Nat) (xs : List Int) (sq rq : List Wt) (cl : Bool) (x : Wt) (w : World) (h : ChanM w q m room xs sq rq cl) (hc : canR xs sq cl = false) (hmq : rq.length ≤ 100000) :
    Calls Try.prog 26 #[.pointer (some ⟨q, 0, none⟩), .agg #[.int .i64 x.task, .int .i64 x.case_, .int .i64 x.seq, .int .i64 x.v], .bool false] w fun e w' => e = .returned (.int .i64 (if has2 rq x = true then 6 else 0)) ∧ (ChanM w' q m room xs sq (if has2 rq x = true then rq else rq ++ [x]) cl) ∧ Upd [q] w w' := by
  generalize hE : (if has2 rq x = true then (6 : Int) else 0) = res
  generalize hL : (if has2 rq x = true then rq else rq ++ [x]) = lst
  have HE := Lib.hid hE
  have HL := Lib.hid hL
  clear hE hL
  obtain ⟨sa, sc, ra, rc, h1, h2, h3⟩ := h.ch.ex
  obtain ⟨W0, hW0⟩ : ∃ W0, W0 = w.alloc (.cells #[.int .i64 x.task, .int .i64 x.case_, .int .i64 x.seq, .int .i64 x.v] 55) := ⟨_, rfl⟩
  have hu1 : Upd [] w W0 := by rw [hW0]; exact (Upd.refl _ _).alloc _
  have HW0 := Lib.hid hW0
  have HH := Lib.hid (fun W (hW : Upd [] W0 W) => h.keep0 (hu1.trans0 hW))
  have hu0 := Upd.refl [] W0
  have hx4 : W0.heap[w.heap.size]? = some (.cells #[.int .i64 x.task, .int .i64 x.case_, .int .i64 x.seq, .int .i64 x.v] 55 (0, 0)) := by rw [hW0]; exact heap_alloc_new _ _
  have HX := Lib.hid (fun W (hW : Upd [] W0 W) => four_cells (hW.keep hx4 (by simp)))
  have HC := Lib.hid (fun W (hW : Upd [] W0 W) => four_cells ((hu1.trans0 hW).keep h1 (by simp)))
  have HF := Lib.hid (fun W (hW : Upd [] W0 W) => four_frozen ((hu1.trans0 hW).keep h1 (by simp)))
  have HQ := Lib.hid (fun W (hW : Upd [] W0 W) => (Rd.of_own h3).keep0 (hu1.trans0 hW))
  have hbx : w.heap.size < W0.heap.size := blk_lt hx4
  have hql := h.ch.lt
  clear hx4
  have HU1 := Lib.hid hu1
  clear h h1 h2 h3 hW0 hu1
  go_enter Try.func26, Try.ntmps26
  go_wp2_with fail
  rw [← HW0.out]
  refine (refCanRecv_any q m room xs sq rq cl _ (HH.out _ hu0)).mono ?_
  rw [hc]
  rintro e w1 ⟨rfl, rfl⟩
  have hU := hu0
  obtain ⟨d0, d1, d2, d3⟩ := HC.out _ hU
  have HU := Lib.hid hU
  clear hU
  go_wp2
  go_loopw [8] (fun iv wr => ∃ (k : Nat), k ≤ rq.length ∧ iv = .int .i64 k ∧ Hid (has2 (rq.take k) x = false) ∧ Hid (Upd [] W0 wr)) (fun iv _ => rq.length - (intOf iv).toNat)
  case atStart => exact ⟨0, Nat.zero_le _, rfl, Lib.hid rfl, HU⟩
  case round =>
    clear HU d0 d1 d2 d3
    obtain ⟨k, hk, rfl, HN, HU⟩ := hrel
    obtain ⟨x0, x1, x2, x3⟩ := HX.out _ HU.out
    by_cases hlt : k < rq.length
    · obtain ⟨y, hy⟩ : ∃ y, rq[k]? = some y := ⟨_, List.getElem?_eq_getElem hlt⟩
      obtain ⟨b, off, hab, y0, y1, y2, y3⟩ := RdW.cells (HQ.out _ HU.out) hy
      have hst := has2_step rq x k y hy
      rw [HN.out, Bool.false_or] at hst
      have k0 : (0 : Int) ≤ (k : Int) := by omega
      have k1 : (k : Int) < (rq.length : Int) := by omega
      have HST := Lib.hid hst
      subst hab
      clear hst hy
      by_cases ht : y.task = x.task
      · have t1 : (y.task == x.task) = true := by simp [ht]
        by_cases hcs : y.case_ = x.case_
        · have t2 : (y.case_ == x.case_) = true := by simp [hcs]
          have hh : has2 rq x = true := has2_sub rq x (k + 1) (by rw [HST.out]; simp [ht, hcs])
          have HHH := Lib.hid hh
          clear hh ht hcs
          go_wp2
          go_quiet (fail)
          go_wp2
          go_ret
          have hfin := HU.out.drewN nq
          rw [← HE.out, ← HL.out, HHH.out]
          exact ⟨rfl, by simpa using HH.out _ hfin, (HU1.out.trans0 hfin).mono (fun z hz _ => by simp at hz)⟩
        · have t2 : (y.case_ == x.case_) = false := beq_eq_false_iff_ne.2 hcs
          have hn : has2 (rq.take (k + 1)) x = false := by rw [HST.out]; simp [hcs]
          have HN2 := Lib.hid hn
          clear hn ht hcs
          go_wp2
          go_quiet (fail)
          go_wp2
          go_roundw
          case rel => exact ⟨k + 1, by omega, by go_num, HN2, Lib.hid (HU.out.drewN _)⟩
          case measure => simp [intOf]; omega
      · have t1 : (y.task == x.task) = false := beq_eq_false_iff_ne.2 ht
        have hn : has2 (rq.take (k + 1)) x = false := by rw [HST.out]; simp [ht]
        have HN2 := Lib.hid hn
        clear hn ht
        go_wp2
        go_quiet (fail)
        go_wp2
        go_roundw
        case rel => exact ⟨k + 1, by omega, by go_num, HN2, Lib.hid (HU.out.drewN _)⟩
        case measure => simp [intOf]; omega
    · obtain rfl : k = rq.length := by omega
      have hno : has2 rq x = false := by have h := HN.out; rwa [List.take_of_length_le (Nat.le_refl _)] at h
      have HNO := Lib.hid hno
      clear hno
      have hU := HU.out
      have hsz0 := hU.size
      have hm0 : rq.length ≤ maxLen := by unfold maxLen; omega
      have hm00 : rq.length * 32 ≤ 140737488355328 := by omega
      have hm1 : rq.length + 1 ≤ maxLen := by unfold maxLen; omega
      have hm2 : (rq.length + 1) * 32 ≤ 140737488355328 := by omega
      have hl1 : (rq.flatMap Wt.enc).length = rq.length * 4 := by rw [flat_len Wt.enc 4 Wt.enc_len]
      have n0 := World.new_ne wr ⟨w.heap.size, 0, none⟩ x0
      have n1 := World.new_ne wr ⟨w.heap.size, 1, none⟩ x1
      have n2 := World.new_ne wr ⟨w.heap.size, 2, none⟩ x2
      have n3 := World.new_ne wr ⟨w.heap.size, 3, none⟩ x3
      have HM1 : ∀ W, Upd [] (wr.alloc (.cells #[] 55)) W → W.ownsRow W0.heap.size 55 4 (.slice (some ⟨wr.heap.size, 0, none⟩) 0 0) 0 [] := fun W hW => own_keep0 (World.ownsRow_made wr #[] 0 hsz0 (by simp) rfl) hW
      have HM2 : ∀ W, Upd [] ((wr.alloc (.cells #[.int .i64 x.task, .int .i64 x.case_, .int .i64 x.seq, .int .i64 x.v] 55)).alloc (.cells #[] 55)) W → W.ownsRow W0.heap.size 55 4 (.slice (some ⟨wr.heap.size + 1, 0, none⟩) 0 0) 0 [] := fun W hW => by
        have h := World.ownsRow_made (base := W0.heap.size) (e := 55) (size := 4) (wr.alloc (.cells #[.int .i64 x.task, .int .i64 x.case_, .int .i64 x.seq, .int .i64 x.v] 55)) #[] 0 (Nat.le_trans hsz0 (by simp)) (by simp) rfl
        rw [World.size_alloc] at h
        exact own_keep0 h hW
      have hbl : w.heap.size < wr.heap.size := Nat.lt_of_lt_of_le hbx hsz0
      go_wp2
      go_region_law (first
        | (refine step_extend tWr rfl (.tmp 57) (.tmp 59) rfl (HOC.out _ (by repeat (first | exact Upd.refl _ _ | refine Upd.alloc ?_ _ | refine Upd.drewN ?_ _ | refine Upd.drew ?_))) rfl rfl (by first | exact rd_new _ x.enc _ | exact RD | exact RE | exact RD.keep0 (by repeat (first | exact Upd.refl _ _ | refine Upd.drewN ?_ _ | refine Upd.drew ?_)) | exact RE.keep0 (by repeat (first | exact Upd.refl _ _ | refine Upd.drewN ?_ _ | refine Upd.drew ?_))) rfl (Wt.one1 x) hm1 hm2 (Nat.le_trans hs1 (by simp)) ?_; intro a4 k4 w4 hown4 hu4; have hU4 := Upd.trans (a := W0) (S := []) (by repeat (first | exact hUc | refine Upd.alloc ?_ _ | refine Upd.drewN ?_ _ | refine Upd.drew ?_)) hu4 (fun y hy hl => by have := ((HOC.out _ (Upd.refl _ _)).lt y (by simpa using hy)).1; omega); have q0 := (HX.out _ hU4).1; have q1 := (HX.out _ hU4).2.1; have q2 := (HX.out _ hU4).2.2.1; have q3 := (HX.out _ hU4).2.2.2)
        | (refine step_copy tWr rfl (.tmp 55) (.tmp 56) rfl (base := W0.heap.size) (by first | exact HM1 _ (by repeat (first | exact Upd.refl [] _ | refine Upd.alloc ?_ _ | refine Upd.drew ?_)) | exact HM2 _ (by repeat (first | exact Upd.refl [] _ | refine Upd.alloc ?_ _ | refine Upd.drew ?_))) rfl rfl (HQ.out _ (by repeat (first | exact hU | refine Upd.alloc ?_ _ | refine Upd.drewN ?_ _ | refine Upd.drew ?_))) hl1 (Wt.one _) hm0 hm00 (by first | omega | (simp; omega)) ?_; intro a3 k3 w3 hown3 hu3; have hUc := Upd.trans (a := W0) (S := []) (by repeat (first | exact hU | refine Upd.alloc ?_ _ | refine Upd.drewN ?_ _ | refine Upd.drew ?_)) hu3 (fun y hy hl => by first | (have hy' : y ∈ (Value.slice (some ⟨wr.heap.size, 0, none⟩) 0 0).ownBlock.toList := hy; simp [Value.ownBlock] at hy'; omega) | (have hy' : y ∈ (Value.slice (some ⟨wr.heap.size + 1, 0, none⟩) 0 0).ownBlock.toList := hy; simp [Value.ownBlock] at hy'; omega)); have HOC := Lib.hid (fun W (hW : Upd [] w3 W) => own_keep0 hown3 hW); have hs1 := hUc.size; (try have RD := rd_blkW (hu3.keep (heap_alloc2_old wr _ _) (by intro hm; have hm' : wr.heap.size ∈ (Value.slice (some ⟨wr.heap.size + 1, 0, none⟩) 0 0).ownBlock.toList := hm; simp [Value.ownBlock] at hm'))); (try have RE := rd_blkW (hu3.keep (heap_alloc2_new wr _ _) (by intro hm; have hm' : wr.heap.size + 1 ∈ (Value.slice (some ⟨wr.heap.size, 0, none⟩) 0 0).ownBlock.toList := hm; simp [Value.ownBlock] at hm'))); have q0 := (HX.out _ hUc).1; have q1 := (HX.out _ hUc).2.1; have q2 := (HX.out _ hUc).2.2.1; have q3 := (HX.out _ hUc).2.2.2))
      all_goals
        obtain ⟨d0, d1, d2, d3⟩ := HC.out _ hU4
        have zf := HF.out _ hU4
        have hfl : (rq ++ [x]).flatMap Wt.enc = rq.flatMap Wt.enc ++ x.enc := by simp
        have hch := (HH.out _ hU4).setR (n := rq.length + 1) (q' := rq ++ [x]) (by simp) (by rw [hfl]; exact hown4)
        have hUp : Upd [q] w (w4.setCell ⟨q, 2, none⟩ (.slice a4 (rq.length + 1) k4)) := ((HU1.out.trans0 hU4).mono (fun z hz _ => by simp at hz)).setCell _ _ (fun _ => by simp)
        have HCH := Lib.hid hch
        have HUP := Lib.hid hUp
        clear hch hUp hown4 hu4 hU4 hfl HM1 HM2
        go_wp2
        go_ret
        rw [← HE.out, ← HL.out]
        simp only [HNO.out, Bool.false_eq_true, if_false]
        exact ⟨rfl, HCH.out, HUP.out⟩
set_option maxHeartbeats 3200000 in
theorem refWaitS_state (q m room : Nat) (xs : List Int) (sq rq : List Wt) (cl : Bool) (x : Wt) (w : World) (h : ChanM w q m room xs sq rq cl) (hc : canS room xs rq cl = true) :
    Calls Try.prog 26 #[.pointer (some ⟨q, 0, none⟩), .agg #[.int .i64 x.task, .int .i64 x.case_, .int .i64 x.seq, .int .i64 x.v], .bool true] w fun e w' => e = .returned (.int .i64 10) ∧ Upd [] w w' := by
  obtain ⟨sa, sc, ra, rc, h1, h2, h3⟩ := h.ch.ex
  obtain ⟨W0, hW0⟩ : ∃ W0, W0 = w.alloc (.cells #[.int .i64 x.task, .int .i64 x.case_, .int .i64 x.seq, .int .i64 x.v] 55) := ⟨_, rfl⟩
  have hu1 : Upd [] w W0 := by rw [hW0]; exact (Upd.refl _ _).alloc _
  have HW0 := Lib.hid hW0
  have HH := Lib.hid (fun W (hW : Upd [] W0 W) => h.keep0 (hu1.trans0 hW))
  have hu0 := Upd.refl [] W0
  have HU1 := Lib.hid hu1
  clear h h1 h2 h3 hW0 hu1
  go_enter Try.func26, Try.ntmps26
  go_wp2_with fail
  rw [← HW0.out]
  refine (refCanSend_any q m room xs sq rq cl _ (HH.out _ hu0)).mono ?_
  rw [hc]
  rintro e w1 ⟨rfl, hU⟩
  go_wp2
  go_ret
  exact ⟨rfl, HU1.out.trans0 hU⟩
set_option maxHeartbeats 6400000 in
set_option maxRecDepth 100000 in
theorem refWaitS_any (q m room : Nat) (xs : List Int) (sq rq : List Wt) (cl : Bool) (x : Wt) (w : World) (h : ChanM w q m room xs sq rq cl) (hc : canS room xs rq cl = false) (hmq : sq.length ≤ 100000) :
    Calls Try.prog 26 #[.pointer (some ⟨q, 0, none⟩), .agg #[.int .i64 x.task, .int .i64 x.case_, .int .i64 x.seq, .int .i64 x.v], .bool true] w fun e w' => e = .returned (.int .i64 (if has2 sq x = true then 6 else 0)) ∧ (ChanM w' q m room xs (if has2 sq x = true then sq else sq ++ [x]) rq cl) ∧ Upd [q] w w' := by
  generalize hE : (if has2 sq x = true then (6 : Int) else 0) = res
  generalize hL : (if has2 sq x = true then sq else sq ++ [x]) = lst
  have HE := Lib.hid hE
  have HL := Lib.hid hL
  clear hE hL
  obtain ⟨sa, sc, ra, rc, h1, h2, h3⟩ := h.ch.ex
  obtain ⟨W0, hW0⟩ : ∃ W0, W0 = w.alloc (.cells #[.int .i64 x.task, .int .i64 x.case_, .int .i64 x.seq, .int .i64 x.v] 55) := ⟨_, rfl⟩
  have hu1 : Upd [] w W0 := by rw [hW0]; exact (Upd.refl _ _).alloc _
  have HW0 := Lib.hid hW0
  have HH := Lib.hid (fun W (hW : Upd [] W0 W) => h.keep0 (hu1.trans0 hW))
  have hu0 := Upd.refl [] W0
  have hx4 : W0.heap[w.heap.size]? = some (.cells #[.int .i64 x.task, .int .i64 x.case_, .int .i64 x.seq, .int .i64 x.v] 55 (0, 0)) := by rw [hW0]; exact heap_alloc_new _ _
  have HX := Lib.hid (fun W (hW : Upd [] W0 W) => four_cells (hW.keep hx4 (by simp)))
  have HC := Lib.hid (fun W (hW : Upd [] W0 W) => four_cells ((hu1.trans0 hW).keep h1 (by simp)))
  have HF := Lib.hid (fun W (hW : Upd [] W0 W) => four_frozen ((hu1.trans0 hW).keep h1 (by simp)))
  have HQ := Lib.hid (fun W (hW : Upd [] W0 W) => (Rd.of_own h2).keep0 (hu1.trans0 hW))
  have hbx : w.heap.size < W0.heap.size := blk_lt hx4
  have hql := h.ch.lt
  clear hx4
  have HU1 := Lib.hid hu1
  clear h h1 h2 h3 hW0 hu1
  go_enter Try.func26, Try.ntmps26
  go_wp2_with fail
  rw [← HW0.out]
  refine (refCanSend_any q m room xs sq rq cl _ (HH.out _ hu0)).mono ?_
  rw [hc]
  rintro e w1 ⟨rfl, hU⟩
  obtain ⟨d0, d1, d2, d3⟩ := HC.out _ hU
  have HU := Lib.hid hU
  clear hU
  go_wp2
  go_loopw [8] (fun iv wr => ∃ (k : Nat), k ≤ sq.length ∧ iv = .int .i64 k ∧ Hid (has2 (sq.take k) x = false) ∧ Hid (Upd [] W0 wr)) (fun iv _ => sq.length - (intOf iv).toNat)
  case atStart => exact ⟨0, Nat.zero_le _, rfl, Lib.hid rfl, HU⟩
  case round =>
    clear HU d0 d1 d2 d3
    obtain ⟨k, hk, rfl, HN, HU⟩ := hrel
    obtain ⟨x0, x1, x2, x3⟩ := HX.out _ HU.out
    by_cases hlt : k < sq.length
    · obtain ⟨y, hy⟩ : ∃ y, sq[k]? = some y := ⟨_, List.getElem?_eq_getElem hlt⟩
      obtain ⟨b, off, hab, y0, y1, y2, y3⟩ := RdW.cells (HQ.out _ HU.out) hy
      have hst := has2_step sq x k y hy
      rw [HN.out, Bool.false_or] at hst
      have k0 : (0 : Int) ≤ (k : Int) := by omega
      have k1 : (k : Int) < (sq.length : Int) := by omega
      have HST := Lib.hid hst
      subst hab
      clear hst hy
      by_cases ht : y.task = x.task
      · have t1 : (y.task == x.task) = true := by simp [ht]
        by_cases hcs : y.case_ = x.case_
        · have t2 : (y.case_ == x.case_) = true := by simp [hcs]
          have hh : has2 sq x = true := has2_sub sq x (k + 1) (by rw [HST.out]; simp [ht, hcs])
          have HHH := Lib.hid hh
          clear hh ht hcs
          go_wp2
          go_quiet (fail)
          go_wp2
          go_ret
          have hfin := HU.out.drewN nq
          rw [← HE.out, ← HL.out, HHH.out]
          exact ⟨rfl, by simpa using HH.out _ hfin, (HU1.out.trans0 hfin).mono (fun z hz _ => by simp at hz)⟩
        · have t2 : (y.case_ == x.case_) = false := beq_eq_false_iff_ne.2 hcs
          have hn : has2 (sq.take (k + 1)) x = false := by rw [HST.out]; simp [hcs]
          have HN2 := Lib.hid hn
          clear hn ht hcs
          go_wp2
          go_quiet (fail)
          go_wp2
          go_roundw
          case rel => exact ⟨k + 1, by omega, by go_num, HN2, Lib.hid (HU.out.drewN _)⟩
          case measure => simp [intOf]; omega
      · have t1 : (y.task == x.task) = false := beq_eq_false_iff_ne.2 ht
        have hn : has2 (sq.take (k + 1)) x = false := by rw [HST.out]; simp [ht]
        have HN2 := Lib.hid hn
        clear hn ht
        go_wp2
        go_quiet (fail)
        go_wp2
        go_roundw
        case rel => exact ⟨k + 1, by omega, by go_num, HN2, Lib.hid (HU.out.drewN _)⟩
        case measure => simp [intOf]; omega
    · obtain rfl : k = sq.length := by omega
      have hno : has2 sq x = false := by have h := HN.out; rwa [List.take_of_length_le (Nat.le_refl _)] at h
      have HNO := Lib.hid hno
      clear hno
      have hU := HU.out
      have hsz0 := hU.size
      have hm0 : sq.length ≤ maxLen := by unfold maxLen; omega
      have hm00 : sq.length * 32 ≤ 140737488355328 := by omega
      have hm1 : sq.length + 1 ≤ maxLen := by unfold maxLen; omega
      have hm2 : (sq.length + 1) * 32 ≤ 140737488355328 := by omega
      have hl1 : (sq.flatMap Wt.enc).length = sq.length * 4 := by rw [flat_len Wt.enc 4 Wt.enc_len]
      have n0 := World.new_ne wr ⟨w.heap.size, 0, none⟩ x0
      have n1 := World.new_ne wr ⟨w.heap.size, 1, none⟩ x1
      have n2 := World.new_ne wr ⟨w.heap.size, 2, none⟩ x2
      have n3 := World.new_ne wr ⟨w.heap.size, 3, none⟩ x3
      have HM1 : ∀ W, Upd [] (wr.alloc (.cells #[] 55)) W → W.ownsRow W0.heap.size 55 4 (.slice (some ⟨wr.heap.size, 0, none⟩) 0 0) 0 [] := fun W hW => own_keep0 (World.ownsRow_made wr #[] 0 hsz0 (by simp) rfl) hW
      have HM2 : ∀ W, Upd [] ((wr.alloc (.cells #[.int .i64 x.task, .int .i64 x.case_, .int .i64 x.seq, .int .i64 x.v] 55)).alloc (.cells #[] 55)) W → W.ownsRow W0.heap.size 55 4 (.slice (some ⟨wr.heap.size + 1, 0, none⟩) 0 0) 0 [] := fun W hW => by
        have h := World.ownsRow_made (base := W0.heap.size) (e := 55) (size := 4) (wr.alloc (.cells #[.int .i64 x.task, .int .i64 x.case_, .int .i64 x.seq, .int .i64 x.v] 55)) #[] 0 (Nat.le_trans hsz0 (by simp)) (by simp) rfl
        rw [World.size_alloc] at h
        exact own_keep0 h hW
      have hbl : w.heap.size < wr.heap.size := Nat.lt_of_lt_of_le hbx hsz0
      go_wp2
      go_region_law (first
        | (refine step_extend tWr rfl (.tmp 57) (.tmp 59) rfl (HOC.out _ (by repeat (first | exact Upd.refl _ _ | refine Upd.alloc ?_ _ | refine Upd.drewN ?_ _ | refine Upd.drew ?_))) rfl rfl (by first | exact rd_new _ x.enc _ | exact RD | exact RE | exact RD.keep0 (by repeat (first | exact Upd.refl _ _ | refine Upd.drewN ?_ _ | refine Upd.drew ?_)) | exact RE.keep0 (by repeat (first | exact Upd.refl _ _ | refine Upd.drewN ?_ _ | refine Upd.drew ?_))) rfl (Wt.one1 x) hm1 hm2 (Nat.le_trans hs1 (by simp)) ?_; intro a4 k4 w4 hown4 hu4; have hU4 := Upd.trans (a := W0) (S := []) (by repeat (first | exact hUc | refine Upd.alloc ?_ _ | refine Upd.drewN ?_ _ | refine Upd.drew ?_)) hu4 (fun y hy hl => by have := ((HOC.out _ (Upd.refl _ _)).lt y (by simpa using hy)).1; omega); have q0 := (HX.out _ hU4).1; have q1 := (HX.out _ hU4).2.1; have q2 := (HX.out _ hU4).2.2.1; have q3 := (HX.out _ hU4).2.2.2)
        | (refine step_copy tWr rfl (.tmp 55) (.tmp 56) rfl (base := W0.heap.size) (by first | exact HM1 _ (by repeat (first | exact Upd.refl [] _ | refine Upd.alloc ?_ _ | refine Upd.drew ?_)) | exact HM2 _ (by repeat (first | exact Upd.refl [] _ | refine Upd.alloc ?_ _ | refine Upd.drew ?_))) rfl rfl (HQ.out _ (by repeat (first | exact hU | refine Upd.alloc ?_ _ | refine Upd.drewN ?_ _ | refine Upd.drew ?_))) hl1 (Wt.one _) hm0 hm00 (by first | omega | (simp; omega)) ?_; intro a3 k3 w3 hown3 hu3; have hUc := Upd.trans (a := W0) (S := []) (by repeat (first | exact hU | refine Upd.alloc ?_ _ | refine Upd.drewN ?_ _ | refine Upd.drew ?_)) hu3 (fun y hy hl => by first | (have hy' : y ∈ (Value.slice (some ⟨wr.heap.size, 0, none⟩) 0 0).ownBlock.toList := hy; simp [Value.ownBlock] at hy'; omega) | (have hy' : y ∈ (Value.slice (some ⟨wr.heap.size + 1, 0, none⟩) 0 0).ownBlock.toList := hy; simp [Value.ownBlock] at hy'; omega)); have HOC := Lib.hid (fun W (hW : Upd [] w3 W) => own_keep0 hown3 hW); have hs1 := hUc.size; (try have RD := rd_blkW (hu3.keep (heap_alloc2_old wr _ _) (by intro hm; have hm' : wr.heap.size ∈ (Value.slice (some ⟨wr.heap.size + 1, 0, none⟩) 0 0).ownBlock.toList := hm; simp [Value.ownBlock] at hm'))); (try have RE := rd_blkW (hu3.keep (heap_alloc2_new wr _ _) (by intro hm; have hm' : wr.heap.size + 1 ∈ (Value.slice (some ⟨wr.heap.size, 0, none⟩) 0 0).ownBlock.toList := hm; simp [Value.ownBlock] at hm'))); have q0 := (HX.out _ hUc).1; have q1 := (HX.out _ hUc).2.1; have q2 := (HX.out _ hUc).2.2.1; have q3 := (HX.out _ hUc).2.2.2))
      all_goals
        obtain ⟨d0, d1, d2, d3⟩ := HC.out _ hU4
        have zf := HF.out _ hU4
        have hfl : (sq ++ [x]).flatMap Wt.enc = sq.flatMap Wt.enc ++ x.enc := by simp
        have hch := (HH.out _ hU4).setS (n := sq.length + 1) (q' := sq ++ [x]) (by simp) (by rw [hfl]; exact hown4)
        have hUp : Upd [q] w (w4.setCell ⟨q, 1, none⟩ (.slice a4 (sq.length + 1) k4)) := ((HU1.out.trans0 hU4).mono (fun z hz _ => by simp at hz)).setCell _ _ (fun _ => by simp)
        have HCH := Lib.hid hch
        have HUP := Lib.hid hUp
        clear hch hUp hown4 hu4 hU4 hfl HM1 HM2
        go_wp2
        go_ret
        rw [← HE.out, ← HL.out]
        simp only [HNO.out, Bool.false_eq_true, if_false]
        exact ⟨rfl, HCH.out, HUP.out⟩
end Go.Proofs.Ythchclhleppdhaa
