-- PRINTED by print.py (a twelfth state) out of the translation. Not trusted: Lean checks it.
import Derived.Test.YthdmomaephiodaaXAx0
import Derived.Test.YthdmomaephiodaaXAx2
import Derived.Test.YthdmomaephiodaaXAx4
import Derived.Test.YthdmomaephiodaaXAx5
namespace Go.Proofs.Ythdmomaephiodaa.XA
open Go.RowKit Go.Proofs.YthdmomaephiodaaW.PrintWords Go.Proofs.YthdmomaephiodaaW.PrintLast Go.Proofs.YthdmomaephiodaaW.PrintMore
attribute [local go_sem] max2_int min2_int max_two min_two max_three min_three max_four min_four   -- for this text's walks alone
set_option linter.unusedVariables false
set_option linter.unusedSimpArgs false

/-! ### watchbillref8_checkTask: function 23 -/
mutual
def watchbillref8_checkTask.l0 : Nat → Int → Int → Int → List (S63) → List (S60) → ByteArray → Int → Int → Int → List (S92) → Option (Int)
  | 0, _, _, _, _, _, _, _, _, _, _ => none
  | k + 1, x1, x6, x190000, x190001, x190002, x192000, x192001, x192002, x192003, x192004 => if x6 < x1 then (if 0 ≤ x6 then (if x6 < (x190002.length : Int) then (if ((rd_T60 x190002 x6).f0).toList = x192000.toList then (some 6) else (watchbillref8_checkTask.l0 k x1 (wrap64 (x6 + 1)) x190000 x190001 x190002 x192000 x192001 x192002 x192003 x192004)) else (none)) else (none)) else (if x192001 < 1 then (watchbillref8_checkTask.j1 k true x190000 x190001 x190002 x192000 x192001 x192002 x192003 x192004) else (if x192001 > 1099511627776 then (watchbillref8_checkTask.j1 k true x190000 x190001 x190002 x192000 x192001 x192002 x192003 x192004) else (if x192002 < 1 then (watchbillref8_checkTask.j1 k true x190000 x190001 x190002 x192000 x192001 x192002 x192003 x192004) else (if x192002 > x192001 then (watchbillref8_checkTask.j1 k true x190000 x190001 x190002 x192000 x192001 x192002 x192003 x192004) else (if x192003 < 1 then (watchbillref8_checkTask.j1 k true x190000 x190001 x190002 x192000 x192001 x192002 x192003 x192004) else (watchbillref8_checkTask.j1 k (decide (x192003 > x192002)) x190000 x190001 x190002 x192000 x192001 x192002 x192003 x192004))))))
def watchbillref8_checkTask.j1 : Nat → Bool → Int → List (S63) → List (S60) → ByteArray → Int → Int → Int → List (S92) → Option (Int)
  | 0, _, _, _, _, _, _, _, _, _ => none
  | k + 1, x64, x190000, x190001, x190002, x192000, x192001, x192002, x192003, x192004 => if x64 = true then (some 1) else ((watchbillref8_CheckProg.f x192004).bind fun bt194 => (if bt194.2 = 0 then ((watchbillref8_Cost.f k x192004).bind fun t196 => (if t196 = 0 then (some 5) else (watchbillref8_checkTask.l1 k 0 x190000 x190001 x190002 x192000 x192001 x192002 x192003 x192004))) else (some bt194.2)))
def watchbillref8_checkTask.l1 : Nat → Int → Int → List (S63) → List (S60) → ByteArray → Int → Int → Int → List (S92) → Option (Int)
  | 0, _, _, _, _, _, _, _, _, _ => none
  | k + 1, x9, x190000, x190001, x190002, x192000, x192001, x192002, x192003, x192004 => if x9 < (x192004.length : Int) then (if 0 ≤ x9 then ((watchbillref8_known.f k ((rd_T92 x192004 x9).f0) ((rd_T92 x192004 x9).f1) ((rd_T92 x192004 x9).f2) ((rd_T92 x192004 x9).f3) ((rd_T92 x192004 x9).f4) x190000 x190001 x190002).bind fun t198 => (if t198 = true then (watchbillref8_checkTask.l1 k (wrap64 (x9 + 1)) x190000 x190001 x190002 x192000 x192001 x192002 x192003 x192004) else (some 3))) else (none)) else (some 0)
end
def watchbillref8_checkTask.f (k : Nat) (a0_0 : Int) (l0_1 : List (S63)) (l0_2 : List (S60)) (a1 : Int) : Option (Int) := if 0 ≤ a1 then (if a1 < (l0_2.length : Int) then ((watchbillref8_Name.f k ((rd_T60 l0_2 a1).f0)).bind fun t192 => (if t192 = true then (watchbillref8_checkTask.l0 k a1 0 a0_0 l0_1 l0_2 ((rd_T60 l0_2 a1).f0) ((rd_T60 l0_2 a1).f1) ((rd_T60 l0_2 a1).f2) ((rd_T60 l0_2 a1).f3) ((rd_T60 l0_2 a1).f4)) else (some 3))) else (none)) else (none)
theorem watchbillref8_checkTask.mono_l : ∀ k, (∀ y0 y1 y2 y3 y4 y5 y6 y7 y8 y9, LeO (watchbillref8_checkTask.l0 k y0 y1 y2 y3 y4 y5 y6 y7 y8 y9) (watchbillref8_checkTask.l0 (k + 1) y0 y1 y2 y3 y4 y5 y6 y7 y8 y9)) ∧ (∀ y0 y1 y2 y3 y4 y5 y6 y7 y8, LeO (watchbillref8_checkTask.j1 k y0 y1 y2 y3 y4 y5 y6 y7 y8) (watchbillref8_checkTask.j1 (k + 1) y0 y1 y2 y3 y4 y5 y6 y7 y8)) ∧ (∀ y0 y1 y2 y3 y4 y5 y6 y7 y8, LeO (watchbillref8_checkTask.l1 k y0 y1 y2 y3 y4 y5 y6 y7 y8) (watchbillref8_checkTask.l1 (k + 1) y0 y1 y2 y3 y4 y5 y6 y7 y8))
  | 0 => ⟨fun _ _ _ _ _ _ _ _ _ _ r h => by simp [watchbillref8_checkTask.l0] at h, fun _ _ _ _ _ _ _ _ _ r h => by simp [watchbillref8_checkTask.j1] at h, fun _ _ _ _ _ _ _ _ _ r h => by simp [watchbillref8_checkTask.l1] at h⟩
  | k + 1 => by
    obtain ⟨ih0, ih1, ih2⟩ := watchbillref8_checkTask.mono_l k
    refine ⟨?_, ?_, ?_⟩
    · intro y0 y1 y2 y3 y4 y5 y6 y7 y8 y9
      unfold watchbillref8_checkTask.l0
      repeat' first
      | (with_reducible exact ih0 _ _ _ _ _ _ _ _ _ _)
      | (with_reducible exact ih1 _ _ _ _ _ _ _ _ _)
      | (with_reducible exact ih2 _ _ _ _ _ _ _ _ _)
      | (with_reducible exact watchbillref8_Cost.mono _ _)
      | (with_reducible exact watchbillref8_Name.mono _ _)
      | (with_reducible exact watchbillref8_known.mono _ _ _ _ _ _ _ _ _)
      | (with_reducible exact LeO.refl _)
      | (with_reducible exact LeO.none _)
      | (with_reducible refine LeO.ite ?_ ?_)
      | (with_reducible refine LeO.bind ?_ (fun _ => ?_))
      | exact ih0 _ _ _ _ _ _ _ _ _ _
      | exact ih1 _ _ _ _ _ _ _ _ _
      | exact ih2 _ _ _ _ _ _ _ _ _
      | exact watchbillref8_Cost.mono _ _
      | exact watchbillref8_Name.mono _ _
      | exact watchbillref8_known.mono _ _ _ _ _ _ _ _ _
      | exact LeO.none _
      | refine LeO.ite ?_ ?_
      | refine LeO.bind ?_ (fun _ => ?_)
    · intro y0 y1 y2 y3 y4 y5 y6 y7 y8
      unfold watchbillref8_checkTask.j1
      repeat' first
      | (with_reducible exact ih0 _ _ _ _ _ _ _ _ _ _)
      | (with_reducible exact ih1 _ _ _ _ _ _ _ _ _)
      | (with_reducible exact ih2 _ _ _ _ _ _ _ _ _)
      | (with_reducible exact watchbillref8_Cost.mono _ _)
      | (with_reducible exact watchbillref8_Name.mono _ _)
      | (with_reducible exact watchbillref8_known.mono _ _ _ _ _ _ _ _ _)
      | (with_reducible exact LeO.refl _)
      | (with_reducible exact LeO.none _)
      | (with_reducible refine LeO.ite ?_ ?_)
      | (with_reducible refine LeO.bind ?_ (fun _ => ?_))
      | exact ih0 _ _ _ _ _ _ _ _ _ _
      | exact ih1 _ _ _ _ _ _ _ _ _
      | exact ih2 _ _ _ _ _ _ _ _ _
      | exact watchbillref8_Cost.mono _ _
      | exact watchbillref8_Name.mono _ _
      | exact watchbillref8_known.mono _ _ _ _ _ _ _ _ _
      | exact LeO.none _
      | refine LeO.ite ?_ ?_
      | refine LeO.bind ?_ (fun _ => ?_)
    · intro y0 y1 y2 y3 y4 y5 y6 y7 y8
      unfold watchbillref8_checkTask.l1
      repeat' first
      | (with_reducible exact ih0 _ _ _ _ _ _ _ _ _ _)
      | (with_reducible exact ih1 _ _ _ _ _ _ _ _ _)
      | (with_reducible exact ih2 _ _ _ _ _ _ _ _ _)
      | (with_reducible exact watchbillref8_Cost.mono _ _)
      | (with_reducible exact watchbillref8_Name.mono _ _)
      | (with_reducible exact watchbillref8_known.mono _ _ _ _ _ _ _ _ _)
      | (with_reducible exact LeO.refl _)
      | (with_reducible exact LeO.none _)
      | (with_reducible refine LeO.ite ?_ ?_)
      | (with_reducible refine LeO.bind ?_ (fun _ => ?_))
      | exact ih0 _ _ _ _ _ _ _ _ _ _
      | exact ih1 _ _ _ _ _ _ _ _ _
      | exact ih2 _ _ _ _ _ _ _ _ _
      | exact watchbillref8_Cost.mono _ _
      | exact watchbillref8_Name.mono _ _
      | exact watchbillref8_known.mono _ _ _ _ _ _ _ _ _
      | exact LeO.none _
      | refine LeO.ite ?_ ?_
      | refine LeO.bind ?_ (fun _ => ?_)
theorem watchbillref8_checkTask.mono : ∀ a0 a1 a2 a3 k, LeO (watchbillref8_checkTask.f k a0 a1 a2 a3) (watchbillref8_checkTask.f (k + 1) a0 a1 a2 a3) := by
  intro a0 a1 a2 a3 k
  obtain ⟨ih0, ih1, ih2⟩ := watchbillref8_checkTask.mono_l k
  unfold watchbillref8_checkTask.f
  repeat' first
      | (with_reducible exact ih0 _ _ _ _ _ _ _ _ _ _)
      | (with_reducible exact ih1 _ _ _ _ _ _ _ _ _)
      | (with_reducible exact ih2 _ _ _ _ _ _ _ _ _)
      | (with_reducible exact watchbillref8_Cost.mono _ _)
      | (with_reducible exact watchbillref8_Name.mono _ _)
      | (with_reducible exact watchbillref8_known.mono _ _ _ _ _ _ _ _ _)
      | (with_reducible exact LeO.refl _)
      | (with_reducible exact LeO.none _)
      | (with_reducible refine LeO.ite ?_ ?_)
      | (with_reducible refine LeO.bind ?_ (fun _ => ?_))
      | exact ih0 _ _ _ _ _ _ _ _ _ _
      | exact ih1 _ _ _ _ _ _ _ _ _
      | exact ih2 _ _ _ _ _ _ _ _ _
      | exact watchbillref8_Cost.mono _ _
      | exact watchbillref8_Name.mono _ _
      | exact watchbillref8_known.mono _ _ _ _ _ _ _ _ _
      | exact LeO.none _
      | refine LeO.ite ?_ ?_
      | refine LeO.bind ?_ (fun _ => ?_)
def watchbillref8_checkTask.T7 : Bool × List (List Nat × List Nat) := (true, [([], []), ([0], [0]), ([], []), ([1, 2], [1, 2]), ([3], [3]), ([4], [4]), ([], []), ([6], [6]), ([5, 7], [5, 7])])
def watchbillref8_checkTask.B7 : List Nat := [0, 1, 0, 7, 15, 31, 0, 64, 255]
theorem watchbillref8_checkTask.tab7 : rtab .any (opsOf Try.f23 7) = watchbillref8_checkTask.T7 := by kernel_rfl
theorem watchbillref8_checkTask.bits7 : waitsOk watchbillref8_checkTask.T7.2 watchbillref8_checkTask.B7 = true := by kernel_rfl
def watchbillref8_checkTask.T19 : Bool × List (List Nat × List Nat) := (true, [([], []), ([0], [0]), ([], []), ([1, 2], [1, 2]), ([3], [3]), ([], []), ([4, 5], [4, 5]), ([6], [6])])
def watchbillref8_checkTask.B19 : List Nat := [0, 1, 0, 7, 15, 0, 63, 127]
theorem watchbillref8_checkTask.tab19 : rtab .any (opsOf Try.f23 19) = watchbillref8_checkTask.T19 := by kernel_rfl
theorem watchbillref8_checkTask.bits19 : waitsOk watchbillref8_checkTask.T19.2 watchbillref8_checkTask.B19 = true := by kernel_rfl
set_option maxHeartbeats 8000000 in
set_option maxRecDepth 100000 in
theorem watchbillref8_checkTask.calls (k : Nat) (a0_0 : Int) (A0_1 : Option Addr) (c0_1 : Nat) (l0_1 : List (S63)) (A0_2 : Option Addr) (c0_2 : Nat) (l0_2 : List (S60)) (a1 : Int) (r : Int) (w : World) (hr0_1 : Kd.C k63 w A0_1 l0_1.length l0_1) (hc0_1 : l0_1.length ≤ c0_1) (hr0_2 : Kd.C k60 w A0_2 l0_2.length l0_2) (hc0_2 : l0_2.length ≤ c0_2) (h : watchbillref8_checkTask.f k a0_0 l0_1 l0_2 a1 = some r) :
    Calls Try.prog 23 #[.agg #[.int .i64 a0_0, .slice A0_1 l0_1.length c0_1, .slice A0_2 l0_2.length c0_2], .int .i64 a1] w fun e w' => e = .returned (.int .i64 r) ∧ Below w.heap.size w w' := by
  have hu25 := Try.underlying25
  have hu60 := Try.underlying60
  have hu92 := Try.underlying92
  have HR0_1 := Aside0.mk hr0_1
  have HC0_1 := Aside0.mk hc0_1
  clear hr0_1 hc0_1
  have HR0_2 := Aside0.mk hr0_2
  have HC0_2 := Aside0.mk hc0_2
  clear hr0_2 hc0_2
  have HB := Aside0.mk (Below.refl w.heap.size w)
  have H : (if 0 ≤ a1 then (if a1 < (l0_2.length : Int) then ((watchbillref8_Name.f k ((rd_T60 l0_2 a1).f0)).bind fun t192 => (if t192 = true then (watchbillref8_checkTask.l0 k a1 0 a0_0 l0_1 l0_2 ((rd_T60 l0_2 a1).f0) ((rd_T60 l0_2 a1).f1) ((rd_T60 l0_2 a1).f2) ((rd_T60 l0_2 a1).f3) ((rd_T60 l0_2 a1).f4)) else (some 3))) else (none)) else (none)) = some r := h
  clear h
  by_cases c3 : 0 ≤ a1
  · rw [if_pos c3] at H
    have c3b0 : decide (0 ≤ a1) = true := decide_eq_true c3
    clear c3
    by_cases c4 : a1 < (l0_2.length : Int)
    · rw [if_pos c4] at H
      have c4b0 : decide (a1 < (l0_2.length : Int)) = true := decide_eq_true c4
      clear c4
      replace H := Option.bind_eq_some_iff.mp H
      obtain ⟨t192, A50, H⟩ := H
      replace H : (if t192 = true then (watchbillref8_checkTask.l0 k a1 0 a0_0 l0_1 l0_2 ((rd_T60 l0_2 a1).f0) ((rd_T60 l0_2 a1).f1) ((rd_T60 l0_2 a1).f2) ((rd_T60 l0_2 a1).f3) ((rd_T60 l0_2 a1).f4)) else (some 3)) = some r := H
      have A5 := Aside0.mk A50
      clear A50
      by_cases c6 : t192 = true
      · subst c6
        have H1 : (watchbillref8_checkTask.l0 k a1 0 a0_0 l0_1 l0_2 ((rd_T60 l0_2 a1).f0) ((rd_T60 l0_2 a1).f1) ((rd_T60 l0_2 a1).f2) ((rd_T60 l0_2 a1).f3) ((rd_T60 l0_2 a1).f4)) = some r := by rw [if_pos rfl] at H; exact H
        clear H
        have H := H1
        clear H1
        have H' := Aside0.mk H
        clear H
        go_enter Try.func23, Try.ntmps23
        go_wp2_with (first | ((with_reducible refine gate_dst (N := 2) rfl ?_); refine box_event ?hg (N := 2) ?hd (cs := #[.int .i64 a0_0, .slice A0_1 l0_1.length c0_1, .slice A0_2 l0_2.length c0_2]) (t := 25) ?hr ?_; (case hd => rfl); (case hg => rfl); (case hr => first | (go_simp; done) | (go_simp; rfl)); intro gb189 hg w7 hbox hb; have n0_ := Aside0.mk (below_step (by repeat (first | (with_reducible first | exact HB.out | apply below_alloc | apply pw_below_drewN | apply below_drew1) | exact HB.out)) hb); have n1_ := Aside0.mk (hbox); have n2_ := Aside0.mk ((by rw [hg]; exact (below_size (by repeat (first | (with_reducible first | exact HB.out | apply below_alloc | apply pw_below_drewN | apply below_drew1) | exact HB.out))) : w.heap.size ≤ gb189)); have n3_ := Aside0.mk ((by rw [hg]; exact (below_size (by repeat (first | (with_reducible first | exact HB.out | apply below_alloc | apply pw_below_drewN | apply below_drew1) | exact HB.out))) : w.heap.size ≤ gb189)); clear HB; have HB := n0_; have BK189 := n1_; have GW189 := n2_; have GE189 := n3_; clear n0_ n1_ n2_ n3_; clear hb hbox hg; have hcz8_0 : w7.cell? ⟨gb189, 0, none⟩ = some (.int .i64 a0_0) := (blk_cell BK189.out 0).trans rfl; have hcz8_1 : w7.cell? ⟨gb189, 1, none⟩ = some (.slice A0_1 l0_1.length c0_1) := (blk_cell BK189.out 1).trans rfl; have hcz8_2 : w7.cell? ⟨gb189, 2, none⟩ = some (.slice A0_2 l0_2.length c0_2) := (blk_cell BK189.out 2).trans rfl; have hfz8_0 := blk_frozen BK189.out 0; have hfz8_1 := blk_frozen BK189.out 1; have hfz8_2 := blk_frozen BK189.out 2; have p190 : 0 ≤ (a1 : Int) := of_decide_eq_true (by first | (with_reducible assumption) | assumption); have q190 : a1 < (l0_2.length : Int) := of_decide_eq_true (by first | (with_reducible assumption) | assumption); obtain ⟨ad190, A190_4, c190_4, e190, hx190_0, hx190_1, hx190_2, hx190_3, hx190_4, hl190_4, hi190_4⟩ := at_T60 HR0_2.out a1 p190 q190; cases e190; replace hx190_0 := (HB.out.cell (World.block_lt_of_cell? w _ hx190_0)).trans hx190_0; replace hx190_1 := (HB.out.cell (World.block_lt_of_cell? w _ hx190_1)).trans hx190_1; replace hx190_2 := (HB.out.cell (World.block_lt_of_cell? w _ hx190_2)).trans hx190_2; replace hx190_3 := (HB.out.cell (World.block_lt_of_cell? w _ hx190_3)).trans hx190_3; replace hx190_4 := (HB.out.cell (World.block_lt_of_cell? w _ hx190_4)).trans hx190_4; have HR190_4 := Aside0.mk hi190_4; have HC190_4 := Aside0.mk hl190_4; clear hi190_4 hl190_4; replace p190 := eq_true p190; replace q190 := eq_true q190) | ((with_reducible refine gate_dst (N := 5) rfl ?_); refine box_event ?hg (N := 5) ?hd (cs := #[.string (⟨#[]⟩ : ByteArray), .int .i64 0, .int .i64 0, .int .i64 0, .slice none 0 0]) (t := 60) ?hr ?_; (case hd => rfl); (case hg => rfl); (case hr => first | (go_simp; done) | (go_simp; rfl)); intro gb191 hg w9 hbox hb; have n0_ := Aside0.mk (blk_below (g := gb189) (o := .cells #[.int .i64 a0_0, .slice A0_1 l0_1.length c0_1, .slice (some ad190) l0_2.length c0_2] 25 (0, 0)) (by (with_reducible repeat (first | refine blk_drewN ?_ _ | refine blk_drew ?_ | refine blk_alloc ?_ _)); exact BK189.out) hb); have n1_ := Aside0.mk (below_step (by repeat (first | (with_reducible first | exact HB.out | apply below_alloc | apply pw_below_drewN | apply below_drew1 | refine below_set ?_ GE189.out) | exact HB.out)) hb); have n2_ := Aside0.mk (hbox); have n3_ := Aside0.mk ((by rw [hg]; exact (below_size (by repeat (first | (with_reducible first | exact HB.out | apply below_alloc | apply pw_below_drewN | apply below_drew1 | refine below_set ?_ GE189.out) | exact HB.out))) : w.heap.size ≤ gb191)); have n4_ := Aside0.mk ((by rw [hg]; exact (below_size (by repeat (first | (with_reducible first | exact HB.out | apply below_alloc | apply pw_below_drewN | apply below_drew1 | refine below_set ?_ GE189.out) | exact HB.out))) : w.heap.size ≤ gb191)); have n5_ := Aside0.mk ((by rw [hg]; exact Nat.ne_of_lt (blk_lt (g := gb189) (o := .cells #[.int .i64 a0_0, .slice A0_1 l0_1.length c0_1, .slice (some ad190) l0_2.length c0_2] 25 (0, 0)) (by (with_reducible repeat (first | refine blk_drewN ?_ _ | refine blk_drew ?_ | refine blk_alloc ?_ _)); exact BK189.out)) : gb189 ≠ gb191)); have n6_ := Aside0.mk ((by rw [hg]; exact Nat.ne_of_gt (blk_lt (g := gb189) (o := .cells #[.int .i64 a0_0, .slice A0_1 l0_1.length c0_1, .slice (some ad190) l0_2.length c0_2] 25 (0, 0)) (by (with_reducible repeat (first | refine blk_drewN ?_ _ | refine blk_drew ?_ | refine blk_alloc ?_ _)); exact BK189.out)) : gb191 ≠ gb189)); clear BK189; clear HB; have BK189 := n0_; have HB := n1_; have BK191 := n2_; have GW191 := n3_; have GE191 := n4_; have NB189_191 := n5_; have NB191_189 := n6_; clear n0_ n1_ n2_ n3_ n4_ n5_ n6_; clear hb hbox hg; have hnb10 := NB191_189.out; have hnc10 := NB189_191.out; have hcz11_0 : w9.cell? ⟨gb191, 0, none⟩ = some (.string (⟨#[]⟩ : ByteArray)) := (blk_cell BK191.out 0).trans rfl; have hcz11_1 : w9.cell? ⟨gb191, 1, none⟩ = some (.int .i64 0) := (blk_cell BK191.out 1).trans rfl; have hcz11_2 : w9.cell? ⟨gb191, 2, none⟩ = some (.int .i64 0) := (blk_cell BK191.out 2).trans rfl; have hcz11_3 : w9.cell? ⟨gb191, 3, none⟩ = some (.int .i64 0) := (blk_cell BK191.out 3).trans rfl; have hcz11_4 : w9.cell? ⟨gb191, 4, none⟩ = some (.slice none 0 0) := (blk_cell BK191.out 4).trans rfl; have hfz11_0 := blk_frozen BK191.out 0; have hfz11_1 := blk_frozen BK191.out 1; have hfz11_2 := blk_frozen BK191.out 2; have hfz11_3 := blk_frozen BK191.out 3; have hfz11_4 := blk_frozen BK191.out 4) | ((with_reducible refine gate_callee (f := 37) rfl ?_); refine goesL_ (some 17) rfl rfl Try.func37 (by kernel_rfl) rfl #[.string ((rd_T60 l0_2 a1).f0)] rfl (by (try simp only [List.map_toArray, List.map_cons, List.map_nil]); first | done | rfl | (simp only [List.length_drop, List.length_take]; rfl)) ?_; (with_reducible refine (watchbillref8_Name.calls k ((rd_T60 l0_2 a1).f0) true _ A5.out).mono ?_); rintro e w' ⟨rfl, ⟨nd, rfl⟩⟩; refine ⟨_, rfl, ?_⟩))
        go_loopg [6] k (fun kq v6 w' => ∃ (x6_1 : Int), v6 = .int .i64 x6_1 ∧ Aside0 (watchbillref8_checkTask.l0 kq a1 x6_1 a0_0 l0_1 l0_2 ((rd_T60 l0_2 a1).f0) ((rd_T60 l0_2 a1).f1) ((rd_T60 l0_2 a1).f2) ((rd_T60 l0_2 a1).f3) ((rd_T60 l0_2 a1).f4) = some r) ∧ Aside0 (kq ≤ k) ∧ Aside0 (w'.heap[gb189]? = some (.cells #[.int .i64 a0_0, (.slice A0_1 l0_1.length c0_1), (.slice (some ad190) l0_2.length c0_2)] 25 (0, 0))) ∧ Aside0 (w'.heap[gb191]? = some (.cells #[.string ((rd_T60 l0_2 a1).f0), .int .i64 ((rd_T60 l0_2 a1).f1), .int .i64 ((rd_T60 l0_2 a1).f2), .int .i64 ((rd_T60 l0_2 a1).f3), (.slice A190_4 ((rd_T60 l0_2 a1).f4).length c190_4)] 60 (0, 0))) ∧ Aside0 (Below w.heap.size w w'))
        case atStart => exact ⟨(0), (by first | rfl | (simp; done) | (simp [*]; done) | (simp [Int.tdiv_eq_ediv_of_nonneg]; done)), H', ⟨Nat.le_refl _⟩, ⟨by (with_reducible repeat (first | refine blk_drewN ?_ _ | refine blk_drew ?_ | refine blk_alloc ?_ _)); refine blk_far ?_ NB189_191.out _; (with_reducible repeat (first | refine blk_drewN ?_ _ | refine blk_drew ?_ | refine blk_alloc ?_ _)); refine blk_far ?_ NB189_191.out _; (with_reducible repeat (first | refine blk_drewN ?_ _ | refine blk_drew ?_ | refine blk_alloc ?_ _)); refine blk_far ?_ NB189_191.out _; (with_reducible repeat (first | refine blk_drewN ?_ _ | refine blk_drew ?_ | refine blk_alloc ?_ _)); refine blk_far ?_ NB189_191.out _; (with_reducible repeat (first | refine blk_drewN ?_ _ | refine blk_drew ?_ | refine blk_alloc ?_ _)); refine blk_far ?_ NB189_191.out _; (with_reducible repeat (first | refine blk_drewN ?_ _ | refine blk_drew ?_ | refine blk_alloc ?_ _)); exact BK189.out⟩, ⟨by (with_reducible repeat (first | refine blk_drewN ?_ _ | refine blk_drew ?_ | refine blk_alloc ?_ _)); refine blk_put (cs := #[.string ((rd_T60 l0_2 a1).f0), .int .i64 ((rd_T60 l0_2 a1).f1), .int .i64 ((rd_T60 l0_2 a1).f2), .int .i64 ((rd_T60 l0_2 a1).f3), .slice none 0 0]) ?_ 4 _ rfl; (with_reducible repeat (first | refine blk_drewN ?_ _ | refine blk_drew ?_ | refine blk_alloc ?_ _)); refine blk_put (cs := #[.string ((rd_T60 l0_2 a1).f0), .int .i64 ((rd_T60 l0_2 a1).f1), .int .i64 ((rd_T60 l0_2 a1).f2), .int .i64 0, .slice none 0 0]) ?_ 3 _ rfl; (with_reducible repeat (first | refine blk_drewN ?_ _ | refine blk_drew ?_ | refine blk_alloc ?_ _)); refine blk_put (cs := #[.string ((rd_T60 l0_2 a1).f0), .int .i64 ((rd_T60 l0_2 a1).f1), .int .i64 0, .int .i64 0, .slice none 0 0]) ?_ 2 _ rfl; (with_reducible repeat (first | refine blk_drewN ?_ _ | refine blk_drew ?_ | refine blk_alloc ?_ _)); refine blk_put (cs := #[.string ((rd_T60 l0_2 a1).f0), .int .i64 0, .int .i64 0, .int .i64 0, .slice none 0 0]) ?_ 1 _ rfl; (with_reducible repeat (first | refine blk_drewN ?_ _ | refine blk_drew ?_ | refine blk_alloc ?_ _)); refine blk_put (cs := #[.string (⟨#[]⟩ : ByteArray), .int .i64 0, .int .i64 0, .int .i64 0, .slice none 0 0]) ?_ 0 _ rfl; (with_reducible repeat (first | refine blk_drewN ?_ _ | refine blk_drew ?_ | refine blk_alloc ?_ _)); exact BK191.out⟩, ⟨by repeat (first | (with_reducible first | exact HB.out | apply below_alloc | apply pw_below_drewN | apply below_drew1 | refine below_set ?_ GE189.out | refine below_set ?_ GE191.out) | exact HB.out)⟩⟩
        case round =>
          clear H'
          try clear c1
          try clear p1
          try clear q1
          try clear hx1
          try clear c2
          try clear p2
          try clear c3
          try clear c3b0
          try clear c4
          try clear c4b0
          try clear c6
          try clear c10
          try clear hcz11_0
          try clear hcz11_1
          try clear hcz11_2
          try clear hcz11_3
          try clear hcz11_4
          try clear hcz8_0
          try clear hcz8_1
          try clear hcz8_2
          try clear hfz11_0
          try clear hfz11_1
          try clear hfz11_2
          try clear hfz11_3
          try clear hfz11_4
          try clear hfz8_0
          try clear hfz8_1
          try clear hfz8_2
          try clear hx190_0
          try clear hx190_1
          try clear hx190_2
          try clear hx190_3
          try clear hx190_4
          try clear p190
          try clear q190
          obtain ⟨x6_1, rfl, HA, HK1, BK189, BK191, HB⟩ := hrel
          cases gk with
          | zero => exact absurd HA.out (by simp [watchbillref8_checkTask.l0])
          | succ k1 =>
            have H := HA.out
            clear HA
            simp only [watchbillref8_checkTask.l0] at H
            by_cases c12 : x6_1 < a1
            · rw [if_pos c12] at H
              have c12b0 : decide (x6_1 < a1) = true := decide_eq_true c12
              clear c12
              by_cases c13 : 0 ≤ x6_1
              · rw [if_pos c13] at H
                have c13b0 : decide (0 ≤ x6_1) = true := decide_eq_true c13
                clear c13
                by_cases c14 : x6_1 < (l0_2.length : Int)
                · rw [if_pos c14] at H
                  have c14b0 : decide (x6_1 < (l0_2.length : Int)) = true := decide_eq_true c14
                  clear c14
                  by_cases c15 : ((rd_T60 l0_2 x6_1).f0).toList = ((rd_T60 l0_2 a1).f0).toList
                  · rw [if_pos c15] at H
                    have c15b0 : (((rd_T60 l0_2 x6_1).f0).toList == ((rd_T60 l0_2 a1).f0).toList) = true := beq_iff_eq.mpr c15
                    have c15b1 : (((rd_T60 l0_2 x6_1).f0).toList != ((rd_T60 l0_2 a1).f0).toList) = false := bne_eq_false_iff_eq.mpr c15
                    clear c15
                    obtain rfl := Option.some.inj H
                    try go_wp2
                    have n0_ := Aside0.mk (blk_drew BK189.out)
                    have n1_ := Aside0.mk (blk_drew BK191.out)
                    have n2_ := Aside0.mk (below_drew1 HB.out)
                    clear BK189
                    clear BK191
                    clear HB
                    have BK189 := n0_
                    have BK191 := n1_
                    have HB := n2_
                    clear n0_ n1_ n2_
                    have p193 : 0 ≤ (x6_1 : Int) := of_decide_eq_true (by first | (with_reducible assumption) | assumption)
                    have q193 : x6_1 < (l0_2.length : Int) := of_decide_eq_true (by first | (with_reducible assumption) | assumption)
                    obtain ⟨ad193, A193_4, c193_4, e193, hx193_0, hx193_1, hx193_2, hx193_3, hx193_4, hl193_4, hi193_4⟩ := at_T60 HR0_2.out x6_1 p193 q193
                    have hw193_4 := hx193_4
                    have hw193_3 := hx193_3
                    have hw193_2 := hx193_2
                    have hw193_1 := hx193_1
                    have hw193_0 := hx193_0
                    obtain rfl : ad190 = ad193 := (by injection e193)
                    replace hx193_0 := (HB.out.cell (World.block_lt_of_cell? w _ hx193_0)).trans hx193_0
                    replace hx193_1 := (HB.out.cell (World.block_lt_of_cell? w _ hx193_1)).trans hx193_1
                    replace hx193_2 := (HB.out.cell (World.block_lt_of_cell? w _ hx193_2)).trans hx193_2
                    replace hx193_3 := (HB.out.cell (World.block_lt_of_cell? w _ hx193_3)).trans hx193_3
                    replace hx193_4 := (HB.out.cell (World.block_lt_of_cell? w _ hx193_4)).trans hx193_4
                    have HR193_4 := Aside0.mk hi193_4
                    have HC193_4 := Aside0.mk hl193_4
                    clear hi193_4 hl193_4
                    replace p193 := eq_true p193
                    replace q193 := eq_true q193
                    refine start_ (n := 9) (S := fun w' => w'.cell? ⟨gb189, 0, none⟩ = some (.int .i64 a0_0) ∧ w'.cell? ⟨gb189, 1, none⟩ = some (.slice A0_1 l0_1.length c0_1) ∧ w'.cell? ⟨gb189, 2, none⟩ = some (.slice (some ad190) l0_2.length c0_2) ∧ w'.cell? ⟨gb191, 0, none⟩ = some (.string ((rd_T60 l0_2 a1).f0)) ∧ w'.cell? ⟨gb191, 1, none⟩ = some (.int .i64 ((rd_T60 l0_2 a1).f1)) ∧ w'.cell? ⟨gb191, 2, none⟩ = some (.int .i64 ((rd_T60 l0_2 a1).f2)) ∧ w'.cell? ⟨gb191, 3, none⟩ = some (.int .i64 ((rd_T60 l0_2 a1).f3)) ∧ w'.cell? ⟨gb191, 4, none⟩ = some (.slice A190_4 ((rd_T60 l0_2 a1).f4).length c190_4) ∧ w'.cell? (ad190.add ((x6_1).toNat * 5)) = some (.string ((rd_T60 l0_2 x6_1).f0)) ∧ w'.cell? ⟨(ad190.add ((x6_1).toNat * 5)).block, (ad190.add ((x6_1).toNat * 5)).off + 1, none⟩ = some (.int .i64 ((rd_T60 l0_2 x6_1).f1)) ∧ w'.cell? ⟨(ad190.add ((x6_1).toNat * 5)).block, (ad190.add ((x6_1).toNat * 5)).off + 2, none⟩ = some (.int .i64 ((rd_T60 l0_2 x6_1).f2)) ∧ w'.cell? ⟨(ad190.add ((x6_1).toNat * 5)).block, (ad190.add ((x6_1).toNat * 5)).off + 3, none⟩ = some (.int .i64 ((rd_T60 l0_2 x6_1).f3)) ∧ w'.cell? ⟨(ad190.add ((x6_1).toNat * 5)).block, (ad190.add ((x6_1).toNat * 5)).off + 4, none⟩ = some (.slice A193_4 ((rd_T60 l0_2 x6_1).f4).length c193_4)) (ds := []) #[false, false, false, false, false, false, false, false, false] (by kernel_rfl) rfl rfl ⟨(blk_cell BK189.out 0).trans rfl, (blk_cell BK189.out 1).trans rfl, (blk_cell BK189.out 2).trans rfl, (blk_cell BK191.out 0).trans rfl, (blk_cell BK191.out 1).trans rfl, (blk_cell BK191.out 2).trans rfl, (blk_cell BK191.out 3).trans rfl, (blk_cell BK191.out 4).trans rfl, ((HB.out.cell (World.block_lt_of_cell? w _ hw193_0)).trans hw193_0), ((HB.out.cell (World.block_lt_of_cell? w _ hw193_1)).trans hw193_1), ((HB.out.cell (World.block_lt_of_cell? w _ hw193_2)).trans hw193_2), ((HB.out.cell (World.block_lt_of_cell? w _ hw193_3)).trans hw193_3), ((HB.out.cell (World.block_lt_of_cell? w _ hw193_4)).trans hw193_4)⟩ (fun hHeld => ?_); refine with_tabW watchbillref8_checkTask.tab7 watchbillref8_checkTask.bits7 (fun HT_ HW_ => ?_)
                    generalize wr.drew = w16 at BK189 BK191 HB HR193_4 hx193_0 hx193_1 hx193_2 hx193_3 hx193_4 hHeld ⊢
                    refine pure_ (i := 0) (N := some 24) (v := ?_) (a' := ?_) #[true, false, false, false, false, false, false, false, false] rfl rfl (any_of HT_.out (by kernel_rfl)) (fun _ _ _ h => h) (Or.inl ⟨by rfl, ?_⟩) ?_ ?_
                    rotate_left
                    · intro w'
                      go_simp
                      with_reducible rfl
                    rotate_left
                    · simp only [Act.put, List.setIfInBounds_toArray, List.set_cons_zero, List.set_cons_succ, i64_w, i32_w]
                      rfl
                    refine pure_ (i := 2) (N := some 26) (v := ?_) (a' := ?_) #[true, false, true, false, false, false, false, false, false] rfl rfl (any_of HT_.out (by kernel_rfl)) (fun _ _ _ h => h) (Or.inl ⟨by rfl, ?_⟩) ?_ ?_
                    rotate_left
                    · intro w'
                      go_simp
                      with_reducible rfl
                    rotate_left
                    · simp only [Act.put, List.setIfInBounds_toArray, List.set_cons_zero, List.set_cons_succ, i64_w, i32_w]
                      rfl
                    refine pure_ (i := 6) (N := some 30) (v := ?_) (a' := ?_) #[true, false, true, false, false, false, true, false, false] rfl rfl (any_of HT_.out (by kernel_rfl)) (fun _ _ _ h => h) (Or.inl ⟨by rfl, ?_⟩) ?_ ?_
                    rotate_left
                    · intro w'
                      go_simp
                      with_reducible rfl
                    rotate_left
                    · simp only [Act.put, List.setIfInBounds_toArray, List.set_cons_zero, List.set_cons_succ, i64_w, i32_w]
                      rfl
                    refine take_ (i := 1) (N := some 25) (v := ?_) (a' := ?_) #[true, true, true, false, false, false, true, false, false] rfl rfl (take_ofW HT_.out HW_.out (by kernel_rfl)) (fun _ _ _ h => h) (Or.inl ⟨by rfl, ?_⟩) hHeld ?_ ?_
                    rotate_left
                    · rintro w' ⟨s0, s1, s2, s3, s4, s5, s6, s7, s8, s9, s10, s11, s12⟩
                      go_simp
                      with_reducible rfl
                    rotate_left
                    · simp only [Act.put, List.setIfInBounds_toArray, List.set_cons_zero, List.set_cons_succ, i64_w, i32_w]
                      rfl
                    refine pure_ (i := 3) (N := some 27) (v := ?_) (a' := ?_) #[true, true, true, true, false, false, true, false, false] rfl rfl (any_of HT_.out (by kernel_rfl)) (fun _ _ _ h => h) (Or.inl ⟨by rfl, ?_⟩) ?_ ?_
                    rotate_left
                    · intro w'
                      go_simp
                      with_reducible rfl
                    rotate_left
                    · simp only [Act.put, List.setIfInBounds_toArray, List.set_cons_zero, List.set_cons_succ, i64_w, i32_w]
                      rfl
                    refine pure_ (i := 4) (N := some 28) (v := ?_) (a' := ?_) #[true, true, true, true, true, false, true, false, false] rfl rfl (any_of HT_.out (by kernel_rfl)) (fun _ _ _ h => h) (Or.inl ⟨by rfl, ?_⟩) ?_ ?_
                    rotate_left
                    · intro w'
                      go_simp
                      with_reducible rfl
                    rotate_left
                    · simp only [Act.put, List.setIfInBounds_toArray, List.set_cons_zero, List.set_cons_succ, i64_w, i32_w]
                      rfl
                    refine take_ (i := 5) (N := some 29) (v := ?_) (a' := ?_) #[true, true, true, true, true, true, true, false, false] rfl rfl (take_ofW HT_.out HW_.out (by kernel_rfl)) (fun _ _ _ h => h) (Or.inl ⟨by rfl, ?_⟩) hHeld ?_ ?_
                    rotate_left
                    · rintro w' ⟨s0, s1, s2, s3, s4, s5, s6, s7, s8, s9, s10, s11, s12⟩
                      go_simp
                      with_reducible rfl
                    rotate_left
                    · simp only [Act.put, List.setIfInBounds_toArray, List.set_cons_zero, List.set_cons_succ, i64_w, i32_w]
                      rfl
                    refine take_ (i := 7) (N := some 31) (v := ?_) (a' := ?_) #[true, true, true, true, true, true, true, true, false] rfl rfl (take_ofW HT_.out HW_.out (by kernel_rfl)) (fun _ _ _ h => h) (Or.inl ⟨by rfl, ?_⟩) hHeld ?_ ?_
                    rotate_left
                    · rintro w' ⟨s0, s1, s2, s3, s4, s5, s6, s7, s8, s9, s10, s11, s12⟩
                      go_simp
                      with_reducible rfl
                    rotate_left
                    · simp only [Act.put, List.setIfInBounds_toArray, List.set_cons_zero, List.set_cons_succ, i64_w, i32_w]
                      rfl
                    refine pure_ (i := 8) (N := some 32) (v := ?_) (a' := ?_) #[true, true, true, true, true, true, true, true, true] rfl rfl (any_of HT_.out (by kernel_rfl)) (fun _ _ _ h => h) (Or.inl ⟨by rfl, ?_⟩) ?_ ?_
                    rotate_left
                    · intro w'
                      go_simp
                      with_reducible rfl
                    rotate_left
                    · simp only [Act.put, List.setIfInBounds_toArray, List.set_cons_zero, List.set_cons_succ, i64_w, i32_w]
                      rfl
                    refine done_ (done_of HT_.out (by kernel_rfl)) ?_
                    try go_wp2
                    go_ret
                    exact ⟨by first | rfl | (simp [errW_none, errW_some] <;> rfl) | (simp [*, errW_none, errW_some] <;> rfl), by repeat (first | (with_reducible first | exact HB.out | apply below_alloc | apply pw_below_drewN | apply below_drew1 | refine below_set ?_ GE189.out | refine below_set ?_ GE191.out) | exact HB.out)⟩
                  · rw [if_neg c15] at H
                    have c15b0 : (((rd_T60 l0_2 x6_1).f0).toList == ((rd_T60 l0_2 a1).f0).toList) = false := beq_eq_false_iff_ne.mpr c15
                    have c15b1 : (((rd_T60 l0_2 x6_1).f0).toList != ((rd_T60 l0_2 a1).f0).toList) = true := bne_iff_ne.mpr c15
                    have H' := Aside0.mk H
                    clear H
                    try go_wp2
                    have n0_ := Aside0.mk (blk_drew BK189.out)
                    have n1_ := Aside0.mk (blk_drew BK191.out)
                    have n2_ := Aside0.mk (below_drew1 HB.out)
                    clear BK189
                    clear BK191
                    clear HB
                    have BK189 := n0_
                    have BK191 := n1_
                    have HB := n2_
                    clear n0_ n1_ n2_
                    have p193 : 0 ≤ (x6_1 : Int) := of_decide_eq_true (by first | (with_reducible assumption) | assumption)
                    have q193 : x6_1 < (l0_2.length : Int) := of_decide_eq_true (by first | (with_reducible assumption) | assumption)
                    obtain ⟨ad193, A193_4, c193_4, e193, hx193_0, hx193_1, hx193_2, hx193_3, hx193_4, hl193_4, hi193_4⟩ := at_T60 HR0_2.out x6_1 p193 q193
                    have hw193_4 := hx193_4
                    have hw193_3 := hx193_3
                    have hw193_2 := hx193_2
                    have hw193_1 := hx193_1
                    have hw193_0 := hx193_0
                    obtain rfl : ad190 = ad193 := (by injection e193)
                    replace hx193_0 := (HB.out.cell (World.block_lt_of_cell? w _ hx193_0)).trans hx193_0
                    replace hx193_1 := (HB.out.cell (World.block_lt_of_cell? w _ hx193_1)).trans hx193_1
                    replace hx193_2 := (HB.out.cell (World.block_lt_of_cell? w _ hx193_2)).trans hx193_2
                    replace hx193_3 := (HB.out.cell (World.block_lt_of_cell? w _ hx193_3)).trans hx193_3
                    replace hx193_4 := (HB.out.cell (World.block_lt_of_cell? w _ hx193_4)).trans hx193_4
                    have HR193_4 := Aside0.mk hi193_4
                    have HC193_4 := Aside0.mk hl193_4
                    clear hi193_4 hl193_4
                    replace p193 := eq_true p193
                    replace q193 := eq_true q193
                    refine start_ (n := 9) (S := fun w' => w'.cell? ⟨gb189, 0, none⟩ = some (.int .i64 a0_0) ∧ w'.cell? ⟨gb189, 1, none⟩ = some (.slice A0_1 l0_1.length c0_1) ∧ w'.cell? ⟨gb189, 2, none⟩ = some (.slice (some ad190) l0_2.length c0_2) ∧ w'.cell? ⟨gb191, 0, none⟩ = some (.string ((rd_T60 l0_2 a1).f0)) ∧ w'.cell? ⟨gb191, 1, none⟩ = some (.int .i64 ((rd_T60 l0_2 a1).f1)) ∧ w'.cell? ⟨gb191, 2, none⟩ = some (.int .i64 ((rd_T60 l0_2 a1).f2)) ∧ w'.cell? ⟨gb191, 3, none⟩ = some (.int .i64 ((rd_T60 l0_2 a1).f3)) ∧ w'.cell? ⟨gb191, 4, none⟩ = some (.slice A190_4 ((rd_T60 l0_2 a1).f4).length c190_4) ∧ w'.cell? (ad190.add ((x6_1).toNat * 5)) = some (.string ((rd_T60 l0_2 x6_1).f0)) ∧ w'.cell? ⟨(ad190.add ((x6_1).toNat * 5)).block, (ad190.add ((x6_1).toNat * 5)).off + 1, none⟩ = some (.int .i64 ((rd_T60 l0_2 x6_1).f1)) ∧ w'.cell? ⟨(ad190.add ((x6_1).toNat * 5)).block, (ad190.add ((x6_1).toNat * 5)).off + 2, none⟩ = some (.int .i64 ((rd_T60 l0_2 x6_1).f2)) ∧ w'.cell? ⟨(ad190.add ((x6_1).toNat * 5)).block, (ad190.add ((x6_1).toNat * 5)).off + 3, none⟩ = some (.int .i64 ((rd_T60 l0_2 x6_1).f3)) ∧ w'.cell? ⟨(ad190.add ((x6_1).toNat * 5)).block, (ad190.add ((x6_1).toNat * 5)).off + 4, none⟩ = some (.slice A193_4 ((rd_T60 l0_2 x6_1).f4).length c193_4)) (ds := []) #[false, false, false, false, false, false, false, false, false] (by kernel_rfl) rfl rfl ⟨(blk_cell BK189.out 0).trans rfl, (blk_cell BK189.out 1).trans rfl, (blk_cell BK189.out 2).trans rfl, (blk_cell BK191.out 0).trans rfl, (blk_cell BK191.out 1).trans rfl, (blk_cell BK191.out 2).trans rfl, (blk_cell BK191.out 3).trans rfl, (blk_cell BK191.out 4).trans rfl, ((HB.out.cell (World.block_lt_of_cell? w _ hw193_0)).trans hw193_0), ((HB.out.cell (World.block_lt_of_cell? w _ hw193_1)).trans hw193_1), ((HB.out.cell (World.block_lt_of_cell? w _ hw193_2)).trans hw193_2), ((HB.out.cell (World.block_lt_of_cell? w _ hw193_3)).trans hw193_3), ((HB.out.cell (World.block_lt_of_cell? w _ hw193_4)).trans hw193_4)⟩ (fun hHeld => ?_); refine with_tabW watchbillref8_checkTask.tab7 watchbillref8_checkTask.bits7 (fun HT_ HW_ => ?_)
                    generalize wr.drew = w17 at BK189 BK191 HB HR193_4 hx193_0 hx193_1 hx193_2 hx193_3 hx193_4 hHeld ⊢
                    refine pure_ (i := 0) (N := some 24) (v := ?_) (a' := ?_) #[true, false, false, false, false, false, false, false, false] rfl rfl (any_of HT_.out (by kernel_rfl)) (fun _ _ _ h => h) (Or.inl ⟨by rfl, ?_⟩) ?_ ?_
                    rotate_left
                    · intro w'
                      go_simp
                      with_reducible rfl
                    rotate_left
                    · simp only [Act.put, List.setIfInBounds_toArray, List.set_cons_zero, List.set_cons_succ, i64_w, i32_w]
                      rfl
                    refine pure_ (i := 2) (N := some 26) (v := ?_) (a' := ?_) #[true, false, true, false, false, false, false, false, false] rfl rfl (any_of HT_.out (by kernel_rfl)) (fun _ _ _ h => h) (Or.inl ⟨by rfl, ?_⟩) ?_ ?_
                    rotate_left
                    · intro w'
                      go_simp
                      with_reducible rfl
                    rotate_left
                    · simp only [Act.put, List.setIfInBounds_toArray, List.set_cons_zero, List.set_cons_succ, i64_w, i32_w]
                      rfl
                    refine pure_ (i := 6) (N := some 30) (v := ?_) (a' := ?_) #[true, false, true, false, false, false, true, false, false] rfl rfl (any_of HT_.out (by kernel_rfl)) (fun _ _ _ h => h) (Or.inl ⟨by rfl, ?_⟩) ?_ ?_
                    rotate_left
                    · intro w'
                      go_simp
                      with_reducible rfl
                    rotate_left
                    · simp only [Act.put, List.setIfInBounds_toArray, List.set_cons_zero, List.set_cons_succ, i64_w, i32_w]
                      rfl
                    refine take_ (i := 1) (N := some 25) (v := ?_) (a' := ?_) #[true, true, true, false, false, false, true, false, false] rfl rfl (take_ofW HT_.out HW_.out (by kernel_rfl)) (fun _ _ _ h => h) (Or.inl ⟨by rfl, ?_⟩) hHeld ?_ ?_
                    rotate_left
                    · rintro w' ⟨s0, s1, s2, s3, s4, s5, s6, s7, s8, s9, s10, s11, s12⟩
                      go_simp
                      with_reducible rfl
                    rotate_left
                    · simp only [Act.put, List.setIfInBounds_toArray, List.set_cons_zero, List.set_cons_succ, i64_w, i32_w]
                      rfl
                    refine pure_ (i := 3) (N := some 27) (v := ?_) (a' := ?_) #[true, true, true, true, false, false, true, false, false] rfl rfl (any_of HT_.out (by kernel_rfl)) (fun _ _ _ h => h) (Or.inl ⟨by rfl, ?_⟩) ?_ ?_
                    rotate_left
                    · intro w'
                      go_simp
                      with_reducible rfl
                    rotate_left
                    · simp only [Act.put, List.setIfInBounds_toArray, List.set_cons_zero, List.set_cons_succ, i64_w, i32_w]
                      rfl
                    refine pure_ (i := 4) (N := some 28) (v := ?_) (a' := ?_) #[true, true, true, true, true, false, true, false, false] rfl rfl (any_of HT_.out (by kernel_rfl)) (fun _ _ _ h => h) (Or.inl ⟨by rfl, ?_⟩) ?_ ?_
                    rotate_left
                    · intro w'
                      go_simp
                      with_reducible rfl
                    rotate_left
                    · simp only [Act.put, List.setIfInBounds_toArray, List.set_cons_zero, List.set_cons_succ, i64_w, i32_w]
                      rfl
                    refine take_ (i := 5) (N := some 29) (v := ?_) (a' := ?_) #[true, true, true, true, true, true, true, false, false] rfl rfl (take_ofW HT_.out HW_.out (by kernel_rfl)) (fun _ _ _ h => h) (Or.inl ⟨by rfl, ?_⟩) hHeld ?_ ?_
                    rotate_left
                    · rintro w' ⟨s0, s1, s2, s3, s4, s5, s6, s7, s8, s9, s10, s11, s12⟩
                      go_simp
                      with_reducible rfl
                    rotate_left
                    · simp only [Act.put, List.setIfInBounds_toArray, List.set_cons_zero, List.set_cons_succ, i64_w, i32_w]
                      rfl
                    refine take_ (i := 7) (N := some 31) (v := ?_) (a' := ?_) #[true, true, true, true, true, true, true, true, false] rfl rfl (take_ofW HT_.out HW_.out (by kernel_rfl)) (fun _ _ _ h => h) (Or.inl ⟨by rfl, ?_⟩) hHeld ?_ ?_
                    rotate_left
                    · rintro w' ⟨s0, s1, s2, s3, s4, s5, s6, s7, s8, s9, s10, s11, s12⟩
                      go_simp
                      with_reducible rfl
                    rotate_left
                    · simp only [Act.put, List.setIfInBounds_toArray, List.set_cons_zero, List.set_cons_succ, i64_w, i32_w]
                      rfl
                    refine pure_ (i := 8) (N := some 32) (v := ?_) (a' := ?_) #[true, true, true, true, true, true, true, true, true] rfl rfl (any_of HT_.out (by kernel_rfl)) (fun _ _ _ h => h) (Or.inl ⟨by rfl, ?_⟩) ?_ ?_
                    rotate_left
                    · intro w'
                      go_simp
                      with_reducible rfl
                    rotate_left
                    · simp only [Act.put, List.setIfInBounds_toArray, List.set_cons_zero, List.set_cons_succ, i64_w, i32_w]
                      rfl
                    refine done_ (done_of HT_.out (by kernel_rfl)) ?_
                    try go_wp2
                    go_roundg k1
                    case measure => have := HK1.out; omega
                    case rel => exact ⟨(wrap64 (x6_1 + 1)), (by first | rfl | (simp; done) | (simp [*]; done) | (simp [Int.tdiv_eq_ediv_of_nonneg]; done)), H', ⟨by have := HK1.out; omega⟩, ⟨by (with_reducible repeat (first | refine blk_drewN ?_ _ | refine blk_drew ?_ | refine blk_alloc ?_ _)); exact BK189.out⟩, ⟨by (with_reducible repeat (first | refine blk_drewN ?_ _ | refine blk_drew ?_ | refine blk_alloc ?_ _)); exact BK191.out⟩, ⟨by repeat (first | (with_reducible first | exact HB.out | apply below_alloc | apply pw_below_drewN | apply below_drew1 | refine below_set ?_ GE189.out | refine below_set ?_ GE191.out) | exact HB.out)⟩⟩
                · rw [if_neg c14] at H
                  exact absurd H (by simp)
              · rw [if_neg c13] at H
                exact absurd H (by simp)
            · rw [if_neg c12] at H
              have c12b0 : decide (x6_1 < a1) = false := decide_eq_false c12
              clear c12
              have HC18 := Aside0.mk H
              clear H
              go_upto_region 9 with (fail)
              go_cut [64] (fun v64 wc => ∃ (kq : Nat) (x64_17 : Bool), v64 = .bool x64_17 ∧ Aside0 (watchbillref8_checkTask.j1 kq x64_17 a0_0 l0_1 l0_2 ((rd_T60 l0_2 a1).f0) ((rd_T60 l0_2 a1).f1) ((rd_T60 l0_2 a1).f2) ((rd_T60 l0_2 a1).f3) ((rd_T60 l0_2 a1).f4) = some r) ∧ Aside0 (kq ≤ k1) ∧ Aside0 (wc.heap[gb189]? = some (.cells #[.int .i64 a0_0, (.slice A0_1 l0_1.length c0_1), (.slice (some ad190) l0_2.length c0_2)] 25 (0, 0))) ∧ Aside0 (wc.heap[gb191]? = some (.cells #[.string ((rd_T60 l0_2 a1).f0), .int .i64 ((rd_T60 l0_2 a1).f1), .int .i64 ((rd_T60 l0_2 a1).f2), .int .i64 ((rd_T60 l0_2 a1).f3), (.slice A190_4 ((rd_T60 l0_2 a1).f4).length c190_4)] 60 (0, 0))) ∧ Aside0 (Below w.heap.size w wc))
              case first =>
                have H := HC18.out
                clear HC18
                by_cases c19 : ((rd_T60 l0_2 a1).f1) < 1
                · rw [if_pos c19] at H
                  have c19b0 : decide (((rd_T60 l0_2 a1).f1) < 1) = true := decide_eq_true c19
                  clear c19
                  (first | rw [c19b0] | (simp only [i64_w, i32_w]; rw [c19b0]) | skip)
                  have H' := Aside0.mk H
                  clear H
                  have hnb20 := NB191_189.out
                  have hnc20 := NB189_191.out
                  have hcz21_0 : wr.cell? ⟨gb191, 0, none⟩ = some (.string ((rd_T60 l0_2 a1).f0)) := (blk_cell BK191.out 0).trans rfl
                  have hcz21_1 : wr.cell? ⟨gb191, 1, none⟩ = some (.int .i64 ((rd_T60 l0_2 a1).f1)) := (blk_cell BK191.out 1).trans rfl
                  have hcz21_2 : wr.cell? ⟨gb191, 2, none⟩ = some (.int .i64 ((rd_T60 l0_2 a1).f2)) := (blk_cell BK191.out 2).trans rfl
                  have hcz21_3 : wr.cell? ⟨gb191, 3, none⟩ = some (.int .i64 ((rd_T60 l0_2 a1).f3)) := (blk_cell BK191.out 3).trans rfl
                  have hcz21_4 : wr.cell? ⟨gb191, 4, none⟩ = some (.slice A190_4 ((rd_T60 l0_2 a1).f4).length c190_4) := (blk_cell BK191.out 4).trans rfl
                  have hfz21_0 := blk_frozen BK191.out 0
                  have hfz21_1 := blk_frozen BK191.out 1
                  have hfz21_2 := blk_frozen BK191.out 2
                  have hfz21_3 := blk_frozen BK191.out 3
                  have hfz21_4 := blk_frozen BK191.out 4
                  go_wp2
                  go_meet
                  case rel => exact ⟨_, (true), (by first | rfl | (simp; done) | (simp [*]; done) | (simp [Int.tdiv_eq_ediv_of_nonneg]; done)), H', ⟨by have := HK1.out; first | omega | exact Nat.le_refl _⟩, ⟨by (with_reducible repeat (first | refine blk_drewN ?_ _ | refine blk_drew ?_ | refine blk_alloc ?_ _)); exact BK189.out⟩, ⟨by (with_reducible repeat (first | refine blk_drewN ?_ _ | refine blk_drew ?_ | refine blk_alloc ?_ _)); exact BK191.out⟩, ⟨by repeat (first | (with_reducible first | exact HB.out | apply below_alloc | apply pw_below_drewN | apply below_drew1 | refine below_set ?_ GE189.out | refine below_set ?_ GE191.out) | exact HB.out)⟩⟩
                · rw [if_neg c19] at H
                  have c19b0 : decide (((rd_T60 l0_2 a1).f1) < 1) = false := decide_eq_false c19
                  clear c19
                  (first | rw [c19b0] | (simp only [i64_w, i32_w]; rw [c19b0]) | skip)
                  by_cases c22 : ((rd_T60 l0_2 a1).f1) > 1099511627776
                  · rw [if_pos c22] at H
                    have c22b0 : decide (1099511627776 < ((rd_T60 l0_2 a1).f1)) = true := decide_eq_true c22
                    clear c22
                    have H' := Aside0.mk H
                    clear H
                    have hnb23 := NB191_189.out
                    have hnc23 := NB189_191.out
                    have hcz24_0 : wr.cell? ⟨gb191, 0, none⟩ = some (.string ((rd_T60 l0_2 a1).f0)) := (blk_cell BK191.out 0).trans rfl
                    have hcz24_1 : wr.cell? ⟨gb191, 1, none⟩ = some (.int .i64 ((rd_T60 l0_2 a1).f1)) := (blk_cell BK191.out 1).trans rfl
                    have hcz24_2 : wr.cell? ⟨gb191, 2, none⟩ = some (.int .i64 ((rd_T60 l0_2 a1).f2)) := (blk_cell BK191.out 2).trans rfl
                    have hcz24_3 : wr.cell? ⟨gb191, 3, none⟩ = some (.int .i64 ((rd_T60 l0_2 a1).f3)) := (blk_cell BK191.out 3).trans rfl
                    have hcz24_4 : wr.cell? ⟨gb191, 4, none⟩ = some (.slice A190_4 ((rd_T60 l0_2 a1).f4).length c190_4) := (blk_cell BK191.out 4).trans rfl
                    have hfz24_0 := blk_frozen BK191.out 0
                    have hfz24_1 := blk_frozen BK191.out 1
                    have hfz24_2 := blk_frozen BK191.out 2
                    have hfz24_3 := blk_frozen BK191.out 3
                    have hfz24_4 := blk_frozen BK191.out 4
                    go_wp2
                    go_meet
                    case rel => exact ⟨_, (true), (by first | rfl | (simp; done) | (simp [*]; done) | (simp [Int.tdiv_eq_ediv_of_nonneg]; done)), H', ⟨by have := HK1.out; first | omega | exact Nat.le_refl _⟩, ⟨by (with_reducible repeat (first | refine blk_drewN ?_ _ | refine blk_drew ?_ | refine blk_alloc ?_ _)); exact BK189.out⟩, ⟨by (with_reducible repeat (first | refine blk_drewN ?_ _ | refine blk_drew ?_ | refine blk_alloc ?_ _)); exact BK191.out⟩, ⟨by repeat (first | (with_reducible first | exact HB.out | apply below_alloc | apply pw_below_drewN | apply below_drew1 | refine below_set ?_ GE189.out | refine below_set ?_ GE191.out) | exact HB.out)⟩⟩
                  · rw [if_neg c22] at H
                    have c22b0 : decide (1099511627776 < ((rd_T60 l0_2 a1).f1)) = false := decide_eq_false c22
                    clear c22
                    by_cases c25 : ((rd_T60 l0_2 a1).f2) < 1
                    · rw [if_pos c25] at H
                      have c25b0 : decide (((rd_T60 l0_2 a1).f2) < 1) = true := decide_eq_true c25
                      clear c25
                      have H' := Aside0.mk H
                      clear H
                      have hnb26 := NB191_189.out
                      have hnc26 := NB189_191.out
                      have hcz27_0 : wr.cell? ⟨gb191, 0, none⟩ = some (.string ((rd_T60 l0_2 a1).f0)) := (blk_cell BK191.out 0).trans rfl
                      have hcz27_1 : wr.cell? ⟨gb191, 1, none⟩ = some (.int .i64 ((rd_T60 l0_2 a1).f1)) := (blk_cell BK191.out 1).trans rfl
                      have hcz27_2 : wr.cell? ⟨gb191, 2, none⟩ = some (.int .i64 ((rd_T60 l0_2 a1).f2)) := (blk_cell BK191.out 2).trans rfl
                      have hcz27_3 : wr.cell? ⟨gb191, 3, none⟩ = some (.int .i64 ((rd_T60 l0_2 a1).f3)) := (blk_cell BK191.out 3).trans rfl
                      have hcz27_4 : wr.cell? ⟨gb191, 4, none⟩ = some (.slice A190_4 ((rd_T60 l0_2 a1).f4).length c190_4) := (blk_cell BK191.out 4).trans rfl
                      have hfz27_0 := blk_frozen BK191.out 0
                      have hfz27_1 := blk_frozen BK191.out 1
                      have hfz27_2 := blk_frozen BK191.out 2
                      have hfz27_3 := blk_frozen BK191.out 3
                      have hfz27_4 := blk_frozen BK191.out 4
                      go_wp2
                      go_meet
                      case rel => exact ⟨_, (true), (by first | rfl | (simp; done) | (simp [*]; done) | (simp [Int.tdiv_eq_ediv_of_nonneg]; done)), H', ⟨by have := HK1.out; first | omega | exact Nat.le_refl _⟩, ⟨by (with_reducible repeat (first | refine blk_drewN ?_ _ | refine blk_drew ?_ | refine blk_alloc ?_ _)); exact BK189.out⟩, ⟨by (with_reducible repeat (first | refine blk_drewN ?_ _ | refine blk_drew ?_ | refine blk_alloc ?_ _)); exact BK191.out⟩, ⟨by repeat (first | (with_reducible first | exact HB.out | apply below_alloc | apply pw_below_drewN | apply below_drew1 | refine below_set ?_ GE189.out | refine below_set ?_ GE191.out) | exact HB.out)⟩⟩
                    · rw [if_neg c25] at H
                      have c25b0 : decide (((rd_T60 l0_2 a1).f2) < 1) = false := decide_eq_false c25
                      clear c25
                      by_cases c28 : ((rd_T60 l0_2 a1).f2) > ((rd_T60 l0_2 a1).f1)
                      · rw [if_pos c28] at H
                        have c28b0 : decide (((rd_T60 l0_2 a1).f1) < ((rd_T60 l0_2 a1).f2)) = true := decide_eq_true c28
                        clear c28
                        have H' := Aside0.mk H
                        clear H
                        have hnb29 := NB191_189.out
                        have hnc29 := NB189_191.out
                        have hcz30_0 : wr.cell? ⟨gb191, 0, none⟩ = some (.string ((rd_T60 l0_2 a1).f0)) := (blk_cell BK191.out 0).trans rfl
                        have hcz30_1 : wr.cell? ⟨gb191, 1, none⟩ = some (.int .i64 ((rd_T60 l0_2 a1).f1)) := (blk_cell BK191.out 1).trans rfl
                        have hcz30_2 : wr.cell? ⟨gb191, 2, none⟩ = some (.int .i64 ((rd_T60 l0_2 a1).f2)) := (blk_cell BK191.out 2).trans rfl
                        have hcz30_3 : wr.cell? ⟨gb191, 3, none⟩ = some (.int .i64 ((rd_T60 l0_2 a1).f3)) := (blk_cell BK191.out 3).trans rfl
                        have hcz30_4 : wr.cell? ⟨gb191, 4, none⟩ = some (.slice A190_4 ((rd_T60 l0_2 a1).f4).length c190_4) := (blk_cell BK191.out 4).trans rfl
                        have hfz30_0 := blk_frozen BK191.out 0
                        have hfz30_1 := blk_frozen BK191.out 1
                        have hfz30_2 := blk_frozen BK191.out 2
                        have hfz30_3 := blk_frozen BK191.out 3
                        have hfz30_4 := blk_frozen BK191.out 4
                        go_wp2
                        go_meet
                        case rel => exact ⟨_, (true), (by first | rfl | (simp; done) | (simp [*]; done) | (simp [Int.tdiv_eq_ediv_of_nonneg]; done)), H', ⟨by have := HK1.out; first | omega | exact Nat.le_refl _⟩, ⟨by (with_reducible repeat (first | refine blk_drewN ?_ _ | refine blk_drew ?_ | refine blk_alloc ?_ _)); exact BK189.out⟩, ⟨by (with_reducible repeat (first | refine blk_drewN ?_ _ | refine blk_drew ?_ | refine blk_alloc ?_ _)); exact BK191.out⟩, ⟨by repeat (first | (with_reducible first | exact HB.out | apply below_alloc | apply pw_below_drewN | apply below_drew1 | refine below_set ?_ GE189.out | refine below_set ?_ GE191.out) | exact HB.out)⟩⟩
                      · rw [if_neg c28] at H
                        have c28b0 : decide (((rd_T60 l0_2 a1).f1) < ((rd_T60 l0_2 a1).f2)) = false := decide_eq_false c28
                        clear c28
                        by_cases c31 : ((rd_T60 l0_2 a1).f3) < 1
                        · rw [if_pos c31] at H
                          have c31b0 : decide (((rd_T60 l0_2 a1).f3) < 1) = true := decide_eq_true c31
                          clear c31
                          have H' := Aside0.mk H
                          clear H
                          have hnb32 := NB191_189.out
                          have hnc32 := NB189_191.out
                          have hcz33_0 : wr.cell? ⟨gb191, 0, none⟩ = some (.string ((rd_T60 l0_2 a1).f0)) := (blk_cell BK191.out 0).trans rfl
                          have hcz33_1 : wr.cell? ⟨gb191, 1, none⟩ = some (.int .i64 ((rd_T60 l0_2 a1).f1)) := (blk_cell BK191.out 1).trans rfl
                          have hcz33_2 : wr.cell? ⟨gb191, 2, none⟩ = some (.int .i64 ((rd_T60 l0_2 a1).f2)) := (blk_cell BK191.out 2).trans rfl
                          have hcz33_3 : wr.cell? ⟨gb191, 3, none⟩ = some (.int .i64 ((rd_T60 l0_2 a1).f3)) := (blk_cell BK191.out 3).trans rfl
                          have hcz33_4 : wr.cell? ⟨gb191, 4, none⟩ = some (.slice A190_4 ((rd_T60 l0_2 a1).f4).length c190_4) := (blk_cell BK191.out 4).trans rfl
                          have hfz33_0 := blk_frozen BK191.out 0
                          have hfz33_1 := blk_frozen BK191.out 1
                          have hfz33_2 := blk_frozen BK191.out 2
                          have hfz33_3 := blk_frozen BK191.out 3
                          have hfz33_4 := blk_frozen BK191.out 4
                          go_wp2
                          go_meet
                          case rel => exact ⟨_, (true), (by first | rfl | (simp; done) | (simp [*]; done) | (simp [Int.tdiv_eq_ediv_of_nonneg]; done)), H', ⟨by have := HK1.out; first | omega | exact Nat.le_refl _⟩, ⟨by (with_reducible repeat (first | refine blk_drewN ?_ _ | refine blk_drew ?_ | refine blk_alloc ?_ _)); exact BK189.out⟩, ⟨by (with_reducible repeat (first | refine blk_drewN ?_ _ | refine blk_drew ?_ | refine blk_alloc ?_ _)); exact BK191.out⟩, ⟨by repeat (first | (with_reducible first | exact HB.out | apply below_alloc | apply pw_below_drewN | apply below_drew1 | refine below_set ?_ GE189.out | refine below_set ?_ GE191.out) | exact HB.out)⟩⟩
                        · rw [if_neg c31] at H
                          have c31b0 : decide (((rd_T60 l0_2 a1).f3) < 1) = false := decide_eq_false c31
                          clear c31
                          have H' := Aside0.mk H
                          clear H
                          have hnb34 := NB191_189.out
                          have hnc34 := NB189_191.out
                          have hcz35_0 : wr.cell? ⟨gb191, 0, none⟩ = some (.string ((rd_T60 l0_2 a1).f0)) := (blk_cell BK191.out 0).trans rfl
                          have hcz35_1 : wr.cell? ⟨gb191, 1, none⟩ = some (.int .i64 ((rd_T60 l0_2 a1).f1)) := (blk_cell BK191.out 1).trans rfl
                          have hcz35_2 : wr.cell? ⟨gb191, 2, none⟩ = some (.int .i64 ((rd_T60 l0_2 a1).f2)) := (blk_cell BK191.out 2).trans rfl
                          have hcz35_3 : wr.cell? ⟨gb191, 3, none⟩ = some (.int .i64 ((rd_T60 l0_2 a1).f3)) := (blk_cell BK191.out 3).trans rfl
                          have hcz35_4 : wr.cell? ⟨gb191, 4, none⟩ = some (.slice A190_4 ((rd_T60 l0_2 a1).f4).length c190_4) := (blk_cell BK191.out 4).trans rfl
                          have hfz35_0 := blk_frozen BK191.out 0
                          have hfz35_1 := blk_frozen BK191.out 1
                          have hfz35_2 := blk_frozen BK191.out 2
                          have hfz35_3 := blk_frozen BK191.out 3
                          have hfz35_4 := blk_frozen BK191.out 4
                          go_wp2
                          go_meet
                          case rel => exact ⟨_, (decide (((rd_T60 l0_2 a1).f3) > ((rd_T60 l0_2 a1).f2))), (by first | rfl | (simp; done) | (simp [*]; done) | (simp [Int.tdiv_eq_ediv_of_nonneg]; done)), H', ⟨by have := HK1.out; first | omega | exact Nat.le_refl _⟩, ⟨by (with_reducible repeat (first | refine blk_drewN ?_ _ | refine blk_drew ?_ | refine blk_alloc ?_ _)); exact BK189.out⟩, ⟨by (with_reducible repeat (first | refine blk_drewN ?_ _ | refine blk_drew ?_ | refine blk_alloc ?_ _)); exact BK191.out⟩, ⟨by repeat (first | (with_reducible first | exact HB.out | apply below_alloc | apply pw_below_drewN | apply below_drew1 | refine below_set ?_ GE189.out | refine below_set ?_ GE191.out) | exact HB.out)⟩⟩
              case rest =>
                clear HC18
                try clear c1
                try clear p1
                try clear q1
                try clear hx1
                try clear c2
                try clear p2
                try clear c3
                try clear c3b0
                try clear c4
                try clear c4b0
                try clear c6
                try clear p6
                try clear c10
                try clear c12
                try clear c12b0
                try clear c13
                try clear c13b0
                try clear c14
                try clear c14b0
                try clear c15
                try clear c15b0
                try clear c15b1
                try clear c19
                try clear c19b0
                try clear p19
                try clear q19
                try clear hx19
                try clear c20
                try clear c22
                try clear c22b0
                try clear c23
                try clear c25
                try clear c25b0
                try clear c26
                try clear c28
                try clear c28b0
                try clear c29
                try clear c31
                try clear c31b0
                try clear c32
                try clear c34
                try clear hcz11_0
                try clear hcz11_1
                try clear hcz11_2
                try clear hcz11_3
                try clear hcz11_4
                try clear hcz21_0
                try clear hcz21_1
                try clear hcz21_2
                try clear hcz21_3
                try clear hcz21_4
                try clear hcz24_0
                try clear hcz24_1
                try clear hcz24_2
                try clear hcz24_3
                try clear hcz24_4
                try clear hcz27_0
                try clear hcz27_1
                try clear hcz27_2
                try clear hcz27_3
                try clear hcz27_4
                try clear hcz30_0
                try clear hcz30_1
                try clear hcz30_2
                try clear hcz30_3
                try clear hcz30_4
                try clear hcz33_0
                try clear hcz33_1
                try clear hcz33_2
                try clear hcz33_3
                try clear hcz33_4
                try clear hcz35_0
                try clear hcz35_1
                try clear hcz35_2
                try clear hcz35_3
                try clear hcz35_4
                try clear hcz8_0
                try clear hcz8_1
                try clear hcz8_2
                try clear hfz11_0
                try clear hfz11_1
                try clear hfz11_2
                try clear hfz11_3
                try clear hfz11_4
                try clear hfz21_0
                try clear hfz21_1
                try clear hfz21_2
                try clear hfz21_3
                try clear hfz21_4
                try clear hfz24_0
                try clear hfz24_1
                try clear hfz24_2
                try clear hfz24_3
                try clear hfz24_4
                try clear hfz27_0
                try clear hfz27_1
                try clear hfz27_2
                try clear hfz27_3
                try clear hfz27_4
                try clear hfz30_0
                try clear hfz30_1
                try clear hfz30_2
                try clear hfz30_3
                try clear hfz30_4
                try clear hfz33_0
                try clear hfz33_1
                try clear hfz33_2
                try clear hfz33_3
                try clear hfz33_4
                try clear hfz35_0
                try clear hfz35_1
                try clear hfz35_2
                try clear hfz35_3
                try clear hfz35_4
                try clear hfz8_0
                try clear hfz8_1
                try clear hfz8_2
                try clear hx190_0
                try clear hx190_1
                try clear hx190_2
                try clear hx190_3
                try clear hx190_4
                try clear hx193_0
                try clear hx193_1
                try clear hx193_2
                try clear hx193_3
                try clear hx193_4
                try clear p1
                try clear p190
                try clear p193
                try clear p2
                try clear q1
                try clear q190
                try clear q193
                obtain ⟨kq, x64_17, rfl, HA, HJ17, BK189, BK191, HB⟩ := hcut
                cases kq with
                | zero => exact absurd HA.out (by simp [watchbillref8_checkTask.j1])
                | succ kj17 =>
                  have H := HA.out
                  clear HA
                  simp only [watchbillref8_checkTask.j1] at H
                  by_cases c36 : x64_17 = true
                  · subst c36
                    have H1 : (some 1) = some r := by rw [if_pos rfl] at H; exact H
                    clear H
                    have H := H1
                    clear H1
                    obtain rfl := Option.some.inj H
                    go_wp2
                    go_ret
                    exact ⟨by first | rfl | (simp [errW_none, errW_some] <;> rfl) | (simp [*, errW_none, errW_some] <;> rfl), by repeat (first | (with_reducible first | exact HB.out | apply below_alloc | apply pw_below_drewN | apply below_drew1 | refine below_set ?_ GE189.out | refine below_set ?_ GE191.out) | exact HB.out)⟩
                  · replace c36 := Bool.eq_false_iff.mpr c36
                    subst c36
                    have H1 : ((watchbillref8_CheckProg.f ((rd_T60 l0_2 a1).f4)).bind fun bt194 => (if bt194.2 = 0 then ((watchbillref8_Cost.f kj17 ((rd_T60 l0_2 a1).f4)).bind fun t196 => (if t196 = 0 then (some 5) else (watchbillref8_checkTask.l1 kj17 0 a0_0 l0_1 l0_2 ((rd_T60 l0_2 a1).f0) ((rd_T60 l0_2 a1).f1) ((rd_T60 l0_2 a1).f2) ((rd_T60 l0_2 a1).f3) ((rd_T60 l0_2 a1).f4)))) else (some bt194.2))) = some r := by rw [if_neg (show ¬ (false = true) by decide)] at H; exact H
                    clear H
                    have H := H1
                    clear H1
                    replace H := Option.bind_eq_some_iff.mp H
                    obtain ⟨⟨t194, t195⟩, A370, H⟩ := H
                    replace H : (if t195 = 0 then ((watchbillref8_Cost.f kj17 ((rd_T60 l0_2 a1).f4)).bind fun t196 => (if t196 = 0 then (some 5) else (watchbillref8_checkTask.l1 kj17 0 a0_0 l0_1 l0_2 ((rd_T60 l0_2 a1).f0) ((rd_T60 l0_2 a1).f1) ((rd_T60 l0_2 a1).f2) ((rd_T60 l0_2 a1).f3) ((rd_T60 l0_2 a1).f4)))) else (some t195)) = some r := H
                    have A37 := Aside0.mk A370
                    clear A370
                    by_cases c38 : t195 = 0
                    · rw [if_pos c38] at H
                      have c38b0 : (t195 == 0) = true := beq_iff_eq.mpr c38
                      have c38b1 : (t195 != 0) = false := bne_eq_false_iff_eq.mpr c38
                      clear c38
                      replace H := Option.bind_eq_some_iff.mp H
                      obtain ⟨t196, A390, H⟩ := H
                      replace H : (if t196 = 0 then (some 5) else (watchbillref8_checkTask.l1 kj17 0 a0_0 l0_1 l0_2 ((rd_T60 l0_2 a1).f0) ((rd_T60 l0_2 a1).f1) ((rd_T60 l0_2 a1).f2) ((rd_T60 l0_2 a1).f3) ((rd_T60 l0_2 a1).f4))) = some r := H
                      have A39 := Aside0.mk A390
                      clear A390
                      by_cases c40 : t196 = 0
                      · rw [if_pos c40] at H
                        have c40b0 : (t196 == 0) = true := beq_iff_eq.mpr c40
                        have c40b1 : (t196 != 0) = false := bne_eq_false_iff_eq.mpr c40
                        clear c40
                        obtain rfl := Option.some.inj H
                        have hnb41 := NB191_189.out
                        have hnc41 := NB189_191.out
                        have hcz42_0 : wc.cell? ⟨gb191, 0, none⟩ = some (.string ((rd_T60 l0_2 a1).f0)) := (blk_cell BK191.out 0).trans rfl
                        have hcz42_1 : wc.cell? ⟨gb191, 1, none⟩ = some (.int .i64 ((rd_T60 l0_2 a1).f1)) := (blk_cell BK191.out 1).trans rfl
                        have hcz42_2 : wc.cell? ⟨gb191, 2, none⟩ = some (.int .i64 ((rd_T60 l0_2 a1).f2)) := (blk_cell BK191.out 2).trans rfl
                        have hcz42_3 : wc.cell? ⟨gb191, 3, none⟩ = some (.int .i64 ((rd_T60 l0_2 a1).f3)) := (blk_cell BK191.out 3).trans rfl
                        have hcz42_4 : wc.cell? ⟨gb191, 4, none⟩ = some (.slice A190_4 ((rd_T60 l0_2 a1).f4).length c190_4) := (blk_cell BK191.out 4).trans rfl
                        have hfz42_0 := blk_frozen BK191.out 0
                        have hfz42_1 := blk_frozen BK191.out 1
                        have hfz42_2 := blk_frozen BK191.out 2
                        have hfz42_3 := blk_frozen BK191.out 3
                        have hfz42_4 := blk_frozen BK191.out 4
                        go_wp2_with (first | ((with_reducible refine gate_callee (f := 38) rfl ?_); refine goesL_ (some 68) rfl rfl Try.func38 (by kernel_rfl) rfl #[.slice A190_4 ((rd_T60 l0_2 a1).f4).length c190_4] rfl (by (try simp only [List.map_toArray, List.map_cons, List.map_nil]); first | done | rfl | (simp only [List.length_drop, List.length_take]; rfl)) ?_; (with_reducible refine (watchbillref8_CheckProg.calls _ _ ((rd_T60 l0_2 a1).f4) t194 t195 _ ?side1 ?side2 A37.out).mono ?_); (case side1 => repeat (first | exact (Kd.C_below HR190_4.out HB.out) | (with_reducible refine Kd.C_alloc ?_ _) | (with_reducible refine Kd.C_drewN ?_ _) | (with_reducible refine Kd.C_drew ?_))); (case side2 => exact HC190_4.out); rintro e w43 ⟨rfl, hb⟩; refine ⟨_, rfl, ?_⟩; have n0_ := Aside0.mk (blk_below (g := gb189) (o := .cells #[.int .i64 a0_0, .slice A0_1 l0_1.length c0_1, .slice (some ad190) l0_2.length c0_2] 25 (0, 0)) (by (with_reducible repeat (first | refine blk_drewN ?_ _ | refine blk_drew ?_ | refine blk_alloc ?_ _)); exact BK189.out) hb); have n1_ := Aside0.mk (blk_below (g := gb191) (o := .cells #[.string ((rd_T60 l0_2 a1).f0), .int .i64 ((rd_T60 l0_2 a1).f1), .int .i64 ((rd_T60 l0_2 a1).f2), .int .i64 ((rd_T60 l0_2 a1).f3), .slice A190_4 ((rd_T60 l0_2 a1).f4).length c190_4] 60 (0, 0)) (by (with_reducible repeat (first | refine blk_drewN ?_ _ | refine blk_drew ?_ | refine blk_alloc ?_ _)); exact BK191.out) hb); have n2_ := Aside0.mk (below_step (by repeat (first | (with_reducible first | exact HB.out | apply below_alloc | apply pw_below_drewN | apply below_drew1 | refine below_set ?_ GE189.out | refine below_set ?_ GE191.out) | exact HB.out)) hb); clear BK189; clear BK191; clear HB; have BK189 := n0_; have BK191 := n1_; have HB := n2_; clear n0_ n1_ n2_; (try clear hb); (try clear hb2); (try clear hk); (try clear hi); have hcz44_0 : w43.cell? ⟨gb191, 0, none⟩ = some (.string ((rd_T60 l0_2 a1).f0)) := (blk_cell BK191.out 0).trans rfl; have hcz44_1 : w43.cell? ⟨gb191, 1, none⟩ = some (.int .i64 ((rd_T60 l0_2 a1).f1)) := (blk_cell BK191.out 1).trans rfl; have hcz44_2 : w43.cell? ⟨gb191, 2, none⟩ = some (.int .i64 ((rd_T60 l0_2 a1).f2)) := (blk_cell BK191.out 2).trans rfl; have hcz44_3 : w43.cell? ⟨gb191, 3, none⟩ = some (.int .i64 ((rd_T60 l0_2 a1).f3)) := (blk_cell BK191.out 3).trans rfl; have hcz44_4 : w43.cell? ⟨gb191, 4, none⟩ = some (.slice A190_4 ((rd_T60 l0_2 a1).f4).length c190_4) := (blk_cell BK191.out 4).trans rfl; have hfz44_0 := blk_frozen BK191.out 0; have hfz44_1 := blk_frozen BK191.out 1; have hfz44_2 := blk_frozen BK191.out 2; have hfz44_3 := blk_frozen BK191.out 3; have hfz44_4 := blk_frozen BK191.out 4) | ((with_reducible refine gate_callee (f := 39) rfl ?_); refine goesL_ (some 76) rfl rfl Try.func39 (by kernel_rfl) rfl #[.slice A190_4 ((rd_T60 l0_2 a1).f4).length c190_4] rfl (by (try simp only [List.map_toArray, List.map_cons, List.map_nil]); first | done | rfl | (simp only [List.length_drop, List.length_take]; rfl)) ?_; (with_reducible refine (watchbillref8_Cost.calls kj17 _ _ ((rd_T60 l0_2 a1).f4) t196 _ ?side1 ?side2 A39.out).mono ?_); (case side1 => repeat (first | exact (Kd.C_below HR190_4.out HB.out) | (with_reducible refine Kd.C_alloc ?_ _) | (with_reducible refine Kd.C_drewN ?_ _) | (with_reducible refine Kd.C_drew ?_))); (case side2 => exact HC190_4.out); rintro e w45 ⟨rfl, hb⟩; refine ⟨_, rfl, ?_⟩; have n0_ := Aside0.mk (blk_below (g := gb189) (o := .cells #[.int .i64 a0_0, .slice A0_1 l0_1.length c0_1, .slice (some ad190) l0_2.length c0_2] 25 (0, 0)) (by (with_reducible repeat (first | refine blk_drewN ?_ _ | refine blk_drew ?_ | refine blk_alloc ?_ _)); exact BK189.out) hb); have n1_ := Aside0.mk (blk_below (g := gb191) (o := .cells #[.string ((rd_T60 l0_2 a1).f0), .int .i64 ((rd_T60 l0_2 a1).f1), .int .i64 ((rd_T60 l0_2 a1).f2), .int .i64 ((rd_T60 l0_2 a1).f3), .slice A190_4 ((rd_T60 l0_2 a1).f4).length c190_4] 60 (0, 0)) (by (with_reducible repeat (first | refine blk_drewN ?_ _ | refine blk_drew ?_ | refine blk_alloc ?_ _)); exact BK191.out) hb); have n2_ := Aside0.mk (below_step (by repeat (first | (with_reducible first | exact HB.out | apply below_alloc | apply pw_below_drewN | apply below_drew1 | refine below_set ?_ GE189.out | refine below_set ?_ GE191.out) | exact HB.out)) hb); clear BK189; clear BK191; clear HB; have BK189 := n0_; have BK191 := n1_; have HB := n2_; clear n0_ n1_ n2_; (try clear hb); (try clear hb2); (try clear hk); (try clear hi)))
                        go_ret
                        exact ⟨by first | rfl | (simp [errW_none, errW_some] <;> rfl) | (simp [*, errW_none, errW_some] <;> rfl), by repeat (first | (with_reducible first | exact HB.out | apply below_alloc | apply pw_below_drewN | apply below_drew1 | refine below_set ?_ GE189.out | refine below_set ?_ GE191.out) | exact HB.out)⟩
                      · rw [if_neg c40] at H
                        have c40b0 : (t196 == 0) = false := beq_eq_false_iff_ne.mpr c40
                        have c40b1 : (t196 != 0) = true := bne_iff_ne.mpr c40
                        have H' := Aside0.mk H
                        clear H
                        have hnb46 := NB191_189.out
                        have hnc46 := NB189_191.out
                        have hcz47_0 : wc.cell? ⟨gb191, 0, none⟩ = some (.string ((rd_T60 l0_2 a1).f0)) := (blk_cell BK191.out 0).trans rfl
                        have hcz47_1 : wc.cell? ⟨gb191, 1, none⟩ = some (.int .i64 ((rd_T60 l0_2 a1).f1)) := (blk_cell BK191.out 1).trans rfl
                        have hcz47_2 : wc.cell? ⟨gb191, 2, none⟩ = some (.int .i64 ((rd_T60 l0_2 a1).f2)) := (blk_cell BK191.out 2).trans rfl
                        have hcz47_3 : wc.cell? ⟨gb191, 3, none⟩ = some (.int .i64 ((rd_T60 l0_2 a1).f3)) := (blk_cell BK191.out 3).trans rfl
                        have hcz47_4 : wc.cell? ⟨gb191, 4, none⟩ = some (.slice A190_4 ((rd_T60 l0_2 a1).f4).length c190_4) := (blk_cell BK191.out 4).trans rfl
                        have hfz47_0 := blk_frozen BK191.out 0
                        have hfz47_1 := blk_frozen BK191.out 1
                        have hfz47_2 := blk_frozen BK191.out 2
                        have hfz47_3 := blk_frozen BK191.out 3
                        have hfz47_4 := blk_frozen BK191.out 4
                        go_wp2_with (first | ((with_reducible refine gate_callee (f := 38) rfl ?_); refine goesL_ (some 68) rfl rfl Try.func38 (by kernel_rfl) rfl #[.slice A190_4 ((rd_T60 l0_2 a1).f4).length c190_4] rfl (by (try simp only [List.map_toArray, List.map_cons, List.map_nil]); first | done | rfl | (simp only [List.length_drop, List.length_take]; rfl)) ?_; (with_reducible refine (watchbillref8_CheckProg.calls _ _ ((rd_T60 l0_2 a1).f4) t194 t195 _ ?side1 ?side2 A37.out).mono ?_); (case side1 => repeat (first | exact (Kd.C_below HR190_4.out HB.out) | (with_reducible refine Kd.C_alloc ?_ _) | (with_reducible refine Kd.C_drewN ?_ _) | (with_reducible refine Kd.C_drew ?_))); (case side2 => exact HC190_4.out); rintro e w48 ⟨rfl, hb⟩; refine ⟨_, rfl, ?_⟩; have n0_ := Aside0.mk (blk_below (g := gb189) (o := .cells #[.int .i64 a0_0, .slice A0_1 l0_1.length c0_1, .slice (some ad190) l0_2.length c0_2] 25 (0, 0)) (by (with_reducible repeat (first | refine blk_drewN ?_ _ | refine blk_drew ?_ | refine blk_alloc ?_ _)); exact BK189.out) hb); have n1_ := Aside0.mk (blk_below (g := gb191) (o := .cells #[.string ((rd_T60 l0_2 a1).f0), .int .i64 ((rd_T60 l0_2 a1).f1), .int .i64 ((rd_T60 l0_2 a1).f2), .int .i64 ((rd_T60 l0_2 a1).f3), .slice A190_4 ((rd_T60 l0_2 a1).f4).length c190_4] 60 (0, 0)) (by (with_reducible repeat (first | refine blk_drewN ?_ _ | refine blk_drew ?_ | refine blk_alloc ?_ _)); exact BK191.out) hb); have n2_ := Aside0.mk (below_step (by repeat (first | (with_reducible first | exact HB.out | apply below_alloc | apply pw_below_drewN | apply below_drew1 | refine below_set ?_ GE189.out | refine below_set ?_ GE191.out) | exact HB.out)) hb); clear BK189; clear BK191; clear HB; have BK189 := n0_; have BK191 := n1_; have HB := n2_; clear n0_ n1_ n2_; (try clear hb); (try clear hb2); (try clear hk); (try clear hi); have hcz49_0 : w48.cell? ⟨gb191, 0, none⟩ = some (.string ((rd_T60 l0_2 a1).f0)) := (blk_cell BK191.out 0).trans rfl; have hcz49_1 : w48.cell? ⟨gb191, 1, none⟩ = some (.int .i64 ((rd_T60 l0_2 a1).f1)) := (blk_cell BK191.out 1).trans rfl; have hcz49_2 : w48.cell? ⟨gb191, 2, none⟩ = some (.int .i64 ((rd_T60 l0_2 a1).f2)) := (blk_cell BK191.out 2).trans rfl; have hcz49_3 : w48.cell? ⟨gb191, 3, none⟩ = some (.int .i64 ((rd_T60 l0_2 a1).f3)) := (blk_cell BK191.out 3).trans rfl; have hcz49_4 : w48.cell? ⟨gb191, 4, none⟩ = some (.slice A190_4 ((rd_T60 l0_2 a1).f4).length c190_4) := (blk_cell BK191.out 4).trans rfl; have hfz49_0 := blk_frozen BK191.out 0; have hfz49_1 := blk_frozen BK191.out 1; have hfz49_2 := blk_frozen BK191.out 2; have hfz49_3 := blk_frozen BK191.out 3; have hfz49_4 := blk_frozen BK191.out 4) | ((with_reducible refine gate_callee (f := 39) rfl ?_); refine goesL_ (some 76) rfl rfl Try.func39 (by kernel_rfl) rfl #[.slice A190_4 ((rd_T60 l0_2 a1).f4).length c190_4] rfl (by (try simp only [List.map_toArray, List.map_cons, List.map_nil]); first | done | rfl | (simp only [List.length_drop, List.length_take]; rfl)) ?_; (with_reducible refine (watchbillref8_Cost.calls kj17 _ _ ((rd_T60 l0_2 a1).f4) t196 _ ?side1 ?side2 A39.out).mono ?_); (case side1 => repeat (first | exact (Kd.C_below HR190_4.out HB.out) | (with_reducible refine Kd.C_alloc ?_ _) | (with_reducible refine Kd.C_drewN ?_ _) | (with_reducible refine Kd.C_drew ?_))); (case side2 => exact HC190_4.out); rintro e w50 ⟨rfl, hb⟩; refine ⟨_, rfl, ?_⟩; have n0_ := Aside0.mk (blk_below (g := gb189) (o := .cells #[.int .i64 a0_0, .slice A0_1 l0_1.length c0_1, .slice (some ad190) l0_2.length c0_2] 25 (0, 0)) (by (with_reducible repeat (first | refine blk_drewN ?_ _ | refine blk_drew ?_ | refine blk_alloc ?_ _)); exact BK189.out) hb); have n1_ := Aside0.mk (blk_below (g := gb191) (o := .cells #[.string ((rd_T60 l0_2 a1).f0), .int .i64 ((rd_T60 l0_2 a1).f1), .int .i64 ((rd_T60 l0_2 a1).f2), .int .i64 ((rd_T60 l0_2 a1).f3), .slice A190_4 ((rd_T60 l0_2 a1).f4).length c190_4] 60 (0, 0)) (by (with_reducible repeat (first | refine blk_drewN ?_ _ | refine blk_drew ?_ | refine blk_alloc ?_ _)); exact BK191.out) hb); have n2_ := Aside0.mk (below_step (by repeat (first | (with_reducible first | exact HB.out | apply below_alloc | apply pw_below_drewN | apply below_drew1 | refine below_set ?_ GE189.out | refine below_set ?_ GE191.out) | exact HB.out)) hb); clear BK189; clear BK191; clear HB; have BK189 := n0_; have BK191 := n1_; have HB := n2_; clear n0_ n1_ n2_; (try clear hb); (try clear hb2); (try clear hk); (try clear hi)))
                        go_loopg [9] kj17 (fun kq v9 w' => ∃ (x9_3 : Int), v9 = .int .i64 x9_3 ∧ Aside0 (watchbillref8_checkTask.l1 kq x9_3 a0_0 l0_1 l0_2 ((rd_T60 l0_2 a1).f0) ((rd_T60 l0_2 a1).f1) ((rd_T60 l0_2 a1).f2) ((rd_T60 l0_2 a1).f3) ((rd_T60 l0_2 a1).f4) = some r) ∧ Aside0 (kq ≤ kj17) ∧ Aside0 (w'.heap[gb189]? = some (.cells #[.int .i64 a0_0, (.slice A0_1 l0_1.length c0_1), (.slice (some ad190) l0_2.length c0_2)] 25 (0, 0))) ∧ Aside0 (w'.heap[gb191]? = some (.cells #[.string ((rd_T60 l0_2 a1).f0), .int .i64 ((rd_T60 l0_2 a1).f1), .int .i64 ((rd_T60 l0_2 a1).f2), .int .i64 ((rd_T60 l0_2 a1).f3), (.slice A190_4 ((rd_T60 l0_2 a1).f4).length c190_4)] 60 (0, 0))) ∧ Aside0 (Below w.heap.size w w'))
                        case atStart => exact ⟨(0), (by first | rfl | (simp; done) | (simp [*]; done) | (simp [Int.tdiv_eq_ediv_of_nonneg]; done)), H', ⟨Nat.le_refl _⟩, ⟨by (with_reducible repeat (first | refine blk_drewN ?_ _ | refine blk_drew ?_ | refine blk_alloc ?_ _)); exact BK189.out⟩, ⟨by (with_reducible repeat (first | refine blk_drewN ?_ _ | refine blk_drew ?_ | refine blk_alloc ?_ _)); exact BK191.out⟩, ⟨by repeat (first | (with_reducible first | exact HB.out | apply below_alloc | apply pw_below_drewN | apply below_drew1 | refine below_set ?_ GE189.out | refine below_set ?_ GE191.out) | exact HB.out)⟩⟩
                        case round =>
                          clear H'
                          try clear c1
                          try clear p1
                          try clear q1
                          try clear hx1
                          try clear c2
                          try clear p2
                          try clear c3
                          try clear c3b0
                          try clear c4
                          try clear c4b0
                          try clear c6
                          try clear p6
                          try clear c10
                          try clear c12
                          try clear c12b0
                          try clear c13
                          try clear c13b0
                          try clear c14
                          try clear c14b0
                          try clear c15
                          try clear c15b0
                          try clear c15b1
                          try clear c19
                          try clear c19b0
                          try clear p19
                          try clear q19
                          try clear hx19
                          try clear c20
                          try clear c22
                          try clear c22b0
                          try clear c23
                          try clear c25
                          try clear c25b0
                          try clear c26
                          try clear c28
                          try clear c28b0
                          try clear c29
                          try clear c31
                          try clear c31b0
                          try clear c32
                          try clear c34
                          try clear c36
                          try clear c38
                          try clear c38b0
                          try clear c38b1
                          try clear c39
                          try clear c40
                          try clear c40b0
                          try clear c40b1
                          try clear c41
                          try clear c46
                          try clear hcz11_0
                          try clear hcz11_1
                          try clear hcz11_2
                          try clear hcz11_3
                          try clear hcz11_4
                          try clear hcz21_0
                          try clear hcz21_1
                          try clear hcz21_2
                          try clear hcz21_3
                          try clear hcz21_4
                          try clear hcz24_0
                          try clear hcz24_1
                          try clear hcz24_2
                          try clear hcz24_3
                          try clear hcz24_4
                          try clear hcz27_0
                          try clear hcz27_1
                          try clear hcz27_2
                          try clear hcz27_3
                          try clear hcz27_4
                          try clear hcz30_0
                          try clear hcz30_1
                          try clear hcz30_2
                          try clear hcz30_3
                          try clear hcz30_4
                          try clear hcz33_0
                          try clear hcz33_1
                          try clear hcz33_2
                          try clear hcz33_3
                          try clear hcz33_4
                          try clear hcz35_0
                          try clear hcz35_1
                          try clear hcz35_2
                          try clear hcz35_3
                          try clear hcz35_4
                          try clear hcz42_0
                          try clear hcz42_1
                          try clear hcz42_2
                          try clear hcz42_3
                          try clear hcz42_4
                          try clear hcz44_0
                          try clear hcz44_1
                          try clear hcz44_2
                          try clear hcz44_3
                          try clear hcz44_4
                          try clear hcz47_0
                          try clear hcz47_1
                          try clear hcz47_2
                          try clear hcz47_3
                          try clear hcz47_4
                          try clear hcz49_0
                          try clear hcz49_1
                          try clear hcz49_2
                          try clear hcz49_3
                          try clear hcz49_4
                          try clear hcz8_0
                          try clear hcz8_1
                          try clear hcz8_2
                          try clear hfz11_0
                          try clear hfz11_1
                          try clear hfz11_2
                          try clear hfz11_3
                          try clear hfz11_4
                          try clear hfz21_0
                          try clear hfz21_1
                          try clear hfz21_2
                          try clear hfz21_3
                          try clear hfz21_4
                          try clear hfz24_0
                          try clear hfz24_1
                          try clear hfz24_2
                          try clear hfz24_3
                          try clear hfz24_4
                          try clear hfz27_0
                          try clear hfz27_1
                          try clear hfz27_2
                          try clear hfz27_3
                          try clear hfz27_4
                          try clear hfz30_0
                          try clear hfz30_1
                          try clear hfz30_2
                          try clear hfz30_3
                          try clear hfz30_4
                          try clear hfz33_0
                          try clear hfz33_1
                          try clear hfz33_2
                          try clear hfz33_3
                          try clear hfz33_4
                          try clear hfz35_0
                          try clear hfz35_1
                          try clear hfz35_2
                          try clear hfz35_3
                          try clear hfz35_4
                          try clear hfz42_0
                          try clear hfz42_1
                          try clear hfz42_2
                          try clear hfz42_3
                          try clear hfz42_4
                          try clear hfz44_0
                          try clear hfz44_1
                          try clear hfz44_2
                          try clear hfz44_3
                          try clear hfz44_4
                          try clear hfz47_0
                          try clear hfz47_1
                          try clear hfz47_2
                          try clear hfz47_3
                          try clear hfz47_4
                          try clear hfz49_0
                          try clear hfz49_1
                          try clear hfz49_2
                          try clear hfz49_3
                          try clear hfz49_4
                          try clear hfz8_0
                          try clear hfz8_1
                          try clear hfz8_2
                          try clear hx190_0
                          try clear hx190_1
                          try clear hx190_2
                          try clear hx190_3
                          try clear hx190_4
                          try clear hx193_0
                          try clear hx193_1
                          try clear hx193_2
                          try clear hx193_3
                          try clear hx193_4
                          try clear p1
                          try clear p19
                          try clear p190
                          try clear p193
                          try clear p2
                          try clear p6
                          try clear q1
                          try clear q19
                          try clear q190
                          try clear q193
                          obtain ⟨x9_3, rfl, HA, HK3, BK189, BK191, HB⟩ := hrel
                          cases gk with
                          | zero => exact absurd HA.out (by simp [watchbillref8_checkTask.l1])
                          | succ k3 =>
                            have H := HA.out
                            clear HA
                            simp only [watchbillref8_checkTask.l1] at H
                            by_cases c51 : x9_3 < (((rd_T60 l0_2 a1).f4).length : Int)
                            · rw [if_pos c51] at H
                              have c51b0 : decide (x9_3 < (((rd_T60 l0_2 a1).f4).length : Int)) = true := decide_eq_true c51
                              clear c51
                              by_cases c52 : 0 ≤ x9_3
                              · rw [if_pos c52] at H
                                have c52b0 : decide (0 ≤ x9_3) = true := decide_eq_true c52
                                clear c52
                                replace H := Option.bind_eq_some_iff.mp H
                                obtain ⟨t198, A530, H⟩ := H
                                replace H : (if t198 = true then (watchbillref8_checkTask.l1 k3 (wrap64 (x9_3 + 1)) a0_0 l0_1 l0_2 ((rd_T60 l0_2 a1).f0) ((rd_T60 l0_2 a1).f1) ((rd_T60 l0_2 a1).f2) ((rd_T60 l0_2 a1).f3) ((rd_T60 l0_2 a1).f4)) else (some 3)) = some r := H
                                have A53 := Aside0.mk A530
                                clear A530
                                by_cases c54 : t198 = true
                                · subst c54
                                  have H1 : (watchbillref8_checkTask.l1 k3 (wrap64 (x9_3 + 1)) a0_0 l0_1 l0_2 ((rd_T60 l0_2 a1).f0) ((rd_T60 l0_2 a1).f1) ((rd_T60 l0_2 a1).f2) ((rd_T60 l0_2 a1).f3) ((rd_T60 l0_2 a1).f4)) = some r := by rw [if_pos rfl] at H; exact H
                                  clear H
                                  have H := H1
                                  clear H1
                                  have H' := Aside0.mk H
                                  clear H
                                  have hnb55 := NB191_189.out
                                  have hnc55 := NB189_191.out
                                  have hcz56_0 : wr.cell? ⟨gb191, 0, none⟩ = some (.string ((rd_T60 l0_2 a1).f0)) := (blk_cell BK191.out 0).trans rfl
                                  have hcz56_1 : wr.cell? ⟨gb191, 1, none⟩ = some (.int .i64 ((rd_T60 l0_2 a1).f1)) := (blk_cell BK191.out 1).trans rfl
                                  have hcz56_2 : wr.cell? ⟨gb191, 2, none⟩ = some (.int .i64 ((rd_T60 l0_2 a1).f2)) := (blk_cell BK191.out 2).trans rfl
                                  have hcz56_3 : wr.cell? ⟨gb191, 3, none⟩ = some (.int .i64 ((rd_T60 l0_2 a1).f3)) := (blk_cell BK191.out 3).trans rfl
                                  have hcz56_4 : wr.cell? ⟨gb191, 4, none⟩ = some (.slice A190_4 ((rd_T60 l0_2 a1).f4).length c190_4) := (blk_cell BK191.out 4).trans rfl
                                  have hfz56_0 := blk_frozen BK191.out 0
                                  have hfz56_1 := blk_frozen BK191.out 1
                                  have hfz56_2 := blk_frozen BK191.out 2
                                  have hfz56_3 := blk_frozen BK191.out 3
                                  have hfz56_4 := blk_frozen BK191.out 4
                                  try go_wp2
                                  have n0_ := Aside0.mk (blk_drew BK189.out)
                                  have n1_ := Aside0.mk (blk_drew BK191.out)
                                  have n2_ := Aside0.mk (below_drew1 HB.out)
                                  clear BK189
                                  clear BK191
                                  clear HB
                                  have BK189 := n0_
                                  have BK191 := n1_
                                  have HB := n2_
                                  clear n0_ n1_ n2_
                                  have p197 : 0 ≤ (x9_3 : Int) := of_decide_eq_true (by first | (with_reducible assumption) | assumption)
                                  have q197 : x9_3 < (((rd_T60 l0_2 a1).f4).length : Int) := of_decide_eq_true (by first | (with_reducible assumption) | assumption)
                                  obtain ⟨ad197, A197_4, c197_4, e197, hx197_0, hx197_1, hx197_2, hx197_3, hx197_4, hl197_4, hi197_4⟩ := at_T92 HR190_4.out x9_3 p197 q197
                                  have hw197_4 := hx197_4
                                  have hw197_3 := hx197_3
                                  have hw197_2 := hx197_2
                                  have hw197_1 := hx197_1
                                  have hw197_0 := hx197_0
                                  cases e197
                                  replace hx197_0 := (HB.out.cell (World.block_lt_of_cell? w _ hx197_0)).trans hx197_0
                                  replace hx197_1 := (HB.out.cell (World.block_lt_of_cell? w _ hx197_1)).trans hx197_1
                                  replace hx197_2 := (HB.out.cell (World.block_lt_of_cell? w _ hx197_2)).trans hx197_2
                                  replace hx197_3 := (HB.out.cell (World.block_lt_of_cell? w _ hx197_3)).trans hx197_3
                                  replace hx197_4 := (HB.out.cell (World.block_lt_of_cell? w _ hx197_4)).trans hx197_4
                                  have HR197_4 := Aside0.mk hi197_4
                                  have HC197_4 := Aside0.mk hl197_4
                                  clear hi197_4 hl197_4
                                  replace p197 := eq_true p197
                                  replace q197 := eq_true q197
                                  refine start_ (n := 8) (S := fun w' => w'.cell? ⟨gb191, 0, none⟩ = some (.string ((rd_T60 l0_2 a1).f0)) ∧ w'.cell? ⟨gb191, 1, none⟩ = some (.int .i64 ((rd_T60 l0_2 a1).f1)) ∧ w'.cell? ⟨gb191, 2, none⟩ = some (.int .i64 ((rd_T60 l0_2 a1).f2)) ∧ w'.cell? ⟨gb191, 3, none⟩ = some (.int .i64 ((rd_T60 l0_2 a1).f3)) ∧ w'.cell? ⟨gb191, 4, none⟩ = some (.slice (some ad197) ((rd_T60 l0_2 a1).f4).length c190_4) ∧ w'.cell? ⟨gb189, 0, none⟩ = some (.int .i64 a0_0) ∧ w'.cell? ⟨gb189, 1, none⟩ = some (.slice A0_1 l0_1.length c0_1) ∧ w'.cell? ⟨gb189, 2, none⟩ = some (.slice (some ad190) l0_2.length c0_2) ∧ w'.cell? (ad197.add ((x9_3).toNat * 5)) = some (.int .i64 ((rd_T92 ((rd_T60 l0_2 a1).f4) x9_3).f0)) ∧ w'.cell? ⟨(ad197.add ((x9_3).toNat * 5)).block, (ad197.add ((x9_3).toNat * 5)).off + 1, none⟩ = some (.int .i64 ((rd_T92 ((rd_T60 l0_2 a1).f4) x9_3).f1)) ∧ w'.cell? ⟨(ad197.add ((x9_3).toNat * 5)).block, (ad197.add ((x9_3).toNat * 5)).off + 2, none⟩ = some (.int .i64 ((rd_T92 ((rd_T60 l0_2 a1).f4) x9_3).f2)) ∧ w'.cell? ⟨(ad197.add ((x9_3).toNat * 5)).block, (ad197.add ((x9_3).toNat * 5)).off + 3, none⟩ = some (.int .i64 ((rd_T92 ((rd_T60 l0_2 a1).f4) x9_3).f3)) ∧ w'.cell? ⟨(ad197.add ((x9_3).toNat * 5)).block, (ad197.add ((x9_3).toNat * 5)).off + 4, none⟩ = some (.slice A197_4 ((rd_T92 ((rd_T60 l0_2 a1).f4) x9_3).f4).length c197_4)) (ds := []) #[false, false, false, false, false, false, false, false] (by kernel_rfl) rfl rfl ⟨(blk_cell BK191.out 0).trans rfl, (blk_cell BK191.out 1).trans rfl, (blk_cell BK191.out 2).trans rfl, (blk_cell BK191.out 3).trans rfl, (blk_cell BK191.out 4).trans rfl, (blk_cell BK189.out 0).trans rfl, (blk_cell BK189.out 1).trans rfl, (blk_cell BK189.out 2).trans rfl, ((HB.out.cell (World.block_lt_of_cell? w _ hw197_0)).trans hw197_0), ((HB.out.cell (World.block_lt_of_cell? w _ hw197_1)).trans hw197_1), ((HB.out.cell (World.block_lt_of_cell? w _ hw197_2)).trans hw197_2), ((HB.out.cell (World.block_lt_of_cell? w _ hw197_3)).trans hw197_3), ((HB.out.cell (World.block_lt_of_cell? w _ hw197_4)).trans hw197_4)⟩ (fun hHeld => ?_); refine with_tabW watchbillref8_checkTask.tab19 watchbillref8_checkTask.bits19 (fun HT_ HW_ => ?_)
                                  generalize wr.drew = w57 at BK189 BK191 HB HR197_4 hx197_0 hx197_1 hx197_2 hx197_3 hx197_4 hHeld ⊢
                                  refine pure_ (i := 0) (N := some 85) (v := ?_) (a' := ?_) #[true, false, false, false, false, false, false, false] rfl rfl (any_of HT_.out (by kernel_rfl)) (fun _ _ _ h => h) (Or.inl ⟨by rfl, ?_⟩) ?_ ?_
                                  rotate_left
                                  · intro w'
                                    go_simp
                                    with_reducible rfl
                                  rotate_left
                                  · simp only [Act.put, List.setIfInBounds_toArray, List.set_cons_zero, List.set_cons_succ, i64_w, i32_w]
                                    rfl
                                  refine pure_ (i := 2) (N := some 87) (v := ?_) (a' := ?_) #[true, false, true, false, false, false, false, false] rfl rfl (any_of HT_.out (by kernel_rfl)) (fun _ _ _ h => h) (Or.inl ⟨by rfl, ?_⟩) ?_ ?_
                                  rotate_left
                                  · intro w'
                                    go_simp
                                    with_reducible rfl
                                  rotate_left
                                  · simp only [Act.put, List.setIfInBounds_toArray, List.set_cons_zero, List.set_cons_succ, i64_w, i32_w]
                                    rfl
                                  refine take_ (i := 1) (N := some 86) (v := ?_) (a' := ?_) #[true, true, true, false, false, false, false, false] rfl rfl (take_ofW HT_.out HW_.out (by kernel_rfl)) (fun _ _ _ h => h) (Or.inl ⟨by rfl, ?_⟩) hHeld ?_ ?_
                                  rotate_left
                                  · rintro w' ⟨s0, s1, s2, s3, s4, s5, s6, s7, s8, s9, s10, s11, s12⟩
                                    go_simp
                                    with_reducible rfl
                                  rotate_left
                                  · simp only [Act.put, List.setIfInBounds_toArray, List.set_cons_zero, List.set_cons_succ, i64_w, i32_w]
                                    rfl
                                  refine pure_ (i := 3) (N := some 88) (v := ?_) (a' := ?_) #[true, true, true, true, false, false, false, false] rfl rfl (any_of HT_.out (by kernel_rfl)) (fun _ _ _ h => h) (Or.inl ⟨by rfl, ?_⟩) ?_ ?_
                                  rotate_left
                                  · intro w'
                                    go_simp
                                    with_reducible rfl
                                  rotate_left
                                  · simp only [Act.put, List.setIfInBounds_toArray, List.set_cons_zero, List.set_cons_succ, i64_w, i32_w]
                                    rfl
                                  refine take_ (i := 4) (N := some 89) (v := ?_) (a' := ?_) #[true, true, true, true, true, false, false, false] rfl rfl (take_ofW HT_.out HW_.out (by kernel_rfl)) (fun _ _ _ h => h) (Or.inl ⟨by rfl, ?_⟩) hHeld ?_ ?_
                                  rotate_left
                                  · rintro w' ⟨s0, s1, s2, s3, s4, s5, s6, s7, s8, s9, s10, s11, s12⟩
                                    go_simp
                                    with_reducible rfl
                                  rotate_left
                                  · simp only [Act.put, List.setIfInBounds_toArray, List.set_cons_zero, List.set_cons_succ, i64_w, i32_w]
                                    rfl
                                  refine take_ (i := 5) (N := some 90) (v := ?_) (a' := ?_) #[true, true, true, true, true, true, false, false] rfl rfl (take_ofW HT_.out HW_.out (by kernel_rfl)) (fun _ _ _ h => h) (Or.inl ⟨by rfl, ?_⟩) hHeld ?_ ?_
                                  rotate_left
                                  · rintro w' ⟨s0, s1, s2, s3, s4, s5, s6, s7, s8, s9, s10, s11, s12⟩
                                    go_simp
                                    with_reducible rfl
                                  rotate_left
                                  · simp only [Act.put, List.setIfInBounds_toArray, List.set_cons_zero, List.set_cons_succ, i64_w, i32_w]
                                    rfl
                                  refine one_ (i := 6) (N := some 91) #[true, true, true, true, true, true, true, false] rfl rfl (one_of HT_.out (by kernel_rfl)) (by decide) (fun K hK => ?_)
                                  refine goes_ Try.func40 (by kernel_rfl) rfl #[.agg #[.int .i64 ((rd_T92 ((rd_T60 l0_2 a1).f4) x9_3).f0), .int .i64 ((rd_T92 ((rd_T60 l0_2 a1).f4) x9_3).f1), .int .i64 ((rd_T92 ((rd_T60 l0_2 a1).f4) x9_3).f2), .int .i64 ((rd_T92 ((rd_T60 l0_2 a1).f4) x9_3).f3), .slice A197_4 ((rd_T92 ((rd_T60 l0_2 a1).f4) x9_3).f4).length c197_4], .agg #[.int .i64 a0_0, .slice A0_1 l0_1.length c0_1, .slice (some ad190) l0_2.length c0_2]] (by rfl) rfl rfl (by (try simp only [List.map_toArray, List.map_cons, List.map_nil]); first | done | rfl | (simp only [List.length_drop, List.length_take]; rfl)) ?_
                                  with_reducible refine (watchbillref8_known.calls k3 ((rd_T92 ((rd_T60 l0_2 a1).f4) x9_3).f0) ((rd_T92 ((rd_T60 l0_2 a1).f4) x9_3).f1) ((rd_T92 ((rd_T60 l0_2 a1).f4) x9_3).f2) ((rd_T92 ((rd_T60 l0_2 a1).f4) x9_3).f3) _ _ ((rd_T92 ((rd_T60 l0_2 a1).f4) x9_3).f4) a0_0 _ _ l0_1 _ _ l0_2 true _ ?side1 ?side2 ?side3 ?side4 ?side5 ?side6 A53.out).mono ?_
                                  (case side1 => repeat (first | exact (Kd.C_below HR197_4.out HB.out) | (with_reducible refine Kd.C_alloc ?_ _) | (with_reducible refine Kd.C_drewN ?_ _) | (with_reducible refine Kd.C_drew ?_)))
                                  (case side2 => exact HC197_4.out)
                                  (case side3 => repeat (first | exact (Kd.C_below HR0_1.out HB.out) | (with_reducible refine Kd.C_alloc ?_ _) | (with_reducible refine Kd.C_drewN ?_ _) | (with_reducible refine Kd.C_drew ?_)))
                                  (case side4 => exact HC0_1.out)
                                  (case side5 => repeat (first | exact (Kd.C_below HR0_2.out HB.out) | (with_reducible refine Kd.C_alloc ?_ _) | (with_reducible refine Kd.C_drewN ?_ _) | (with_reducible refine Kd.C_drew ?_)))
                                  (case side6 => exact HC0_2.out)
                                  rintro e w58 ⟨rfl, hb⟩
                                  refine ⟨_, rfl, ?_⟩
                                  have n0_ := Aside0.mk (blk_below (g := gb189) (o := .cells #[.int .i64 a0_0, .slice A0_1 l0_1.length c0_1, .slice (some ad190) l0_2.length c0_2] 25 (0, 0)) (by (with_reducible repeat (first | refine blk_drewN ?_ _ | refine blk_drew ?_ | refine blk_alloc ?_ _)); exact BK189.out) hb)
                                  have n1_ := Aside0.mk (blk_below (g := gb191) (o := .cells #[.string ((rd_T60 l0_2 a1).f0), .int .i64 ((rd_T60 l0_2 a1).f1), .int .i64 ((rd_T60 l0_2 a1).f2), .int .i64 ((rd_T60 l0_2 a1).f3), .slice (some ad197) ((rd_T60 l0_2 a1).f4).length c190_4] 60 (0, 0)) (by (with_reducible repeat (first | refine blk_drewN ?_ _ | refine blk_drew ?_ | refine blk_alloc ?_ _)); exact BK191.out) hb)
                                  have n2_ := Aside0.mk (below_step (by repeat (first | (with_reducible first | exact HB.out | apply below_alloc | apply pw_below_drewN | apply below_drew1 | refine below_set ?_ GE189.out | refine below_set ?_ GE191.out) | exact HB.out)) hb)
                                  clear BK189
                                  clear BK191
                                  clear HB
                                  have BK189 := n0_
                                  have BK191 := n1_
                                  have HB := n2_
                                  clear n0_ n1_ n2_
                                  (try clear hb)
                                  (try clear hb2)
                                  (try clear hk)
                                  (try clear hi)
                                  refine hK.out _ _ ⟨(blk_cell BK191.out 0).trans rfl, (blk_cell BK191.out 1).trans rfl, (blk_cell BK191.out 2).trans rfl, (blk_cell BK191.out 3).trans rfl, (blk_cell BK191.out 4).trans rfl, (blk_cell BK189.out 0).trans rfl, (blk_cell BK189.out 1).trans rfl, (blk_cell BK189.out 2).trans rfl, ((HB.out.cell (World.block_lt_of_cell? w _ hw197_0)).trans hw197_0), ((HB.out.cell (World.block_lt_of_cell? w _ hw197_1)).trans hw197_1), ((HB.out.cell (World.block_lt_of_cell? w _ hw197_2)).trans hw197_2), ((HB.out.cell (World.block_lt_of_cell? w _ hw197_3)).trans hw197_3), ((HB.out.cell (World.block_lt_of_cell? w _ hw197_4)).trans hw197_4)⟩ (fun hHeld => ?_)
                                  clear hK K
                                  refine norm_ (a' := ?_) ?_ ?_
                                  rotate_left
                                  · show Act.put _ (some 91) _ = _
                                    simp only [Act.put, List.setIfInBounds_toArray, List.set_cons_zero, List.set_cons_succ, i64_w, i32_w]
                                    rfl
                                  refine pure_ (i := 7) (N := some 92) (v := ?_) (a' := ?_) #[true, true, true, true, true, true, true, true] rfl rfl (any_of HT_.out (by kernel_rfl)) (fun _ _ _ h => h) (Or.inl ⟨by rfl, ?_⟩) ?_ ?_
                                  rotate_left
                                  · intro w'
                                    go_simp
                                    with_reducible rfl
                                  rotate_left
                                  · simp only [Act.put, List.setIfInBounds_toArray, List.set_cons_zero, List.set_cons_succ, i64_w, i32_w]
                                    rfl
                                  refine done_ (done_of HT_.out (by kernel_rfl)) ?_
                                  try go_wp2
                                  go_roundg k3
                                  case measure => have := HK1.out; have := HJ17.out; have := HK3.out; omega
                                  case rel => exact ⟨(wrap64 (x9_3 + 1)), (by first | rfl | (simp; done) | (simp [*]; done) | (simp [Int.tdiv_eq_ediv_of_nonneg]; done)), H', ⟨by have := HK1.out; have := HJ17.out; have := HK3.out; omega⟩, ⟨by (with_reducible repeat (first | refine blk_drewN ?_ _ | refine blk_drew ?_ | refine blk_alloc ?_ _)); exact BK189.out⟩, ⟨by (with_reducible repeat (first | refine blk_drewN ?_ _ | refine blk_drew ?_ | refine blk_alloc ?_ _)); exact BK191.out⟩, ⟨by repeat (first | (with_reducible first | exact HB.out | apply below_alloc | apply pw_below_drewN | apply below_drew1 | refine below_set ?_ GE189.out | refine below_set ?_ GE191.out) | exact HB.out)⟩⟩
                                · replace c54 := Bool.eq_false_iff.mpr c54
                                  subst c54
                                  have H1 : (some 3) = some r := by rw [if_neg (show ¬ (false = true) by decide)] at H; exact H
                                  clear H
                                  have H := H1
                                  clear H1
                                  obtain rfl := Option.some.inj H
                                  have hnb59 := NB191_189.out
                                  have hnc59 := NB189_191.out
                                  have hcz60_0 : wr.cell? ⟨gb191, 0, none⟩ = some (.string ((rd_T60 l0_2 a1).f0)) := (blk_cell BK191.out 0).trans rfl
                                  have hcz60_1 : wr.cell? ⟨gb191, 1, none⟩ = some (.int .i64 ((rd_T60 l0_2 a1).f1)) := (blk_cell BK191.out 1).trans rfl
                                  have hcz60_2 : wr.cell? ⟨gb191, 2, none⟩ = some (.int .i64 ((rd_T60 l0_2 a1).f2)) := (blk_cell BK191.out 2).trans rfl
                                  have hcz60_3 : wr.cell? ⟨gb191, 3, none⟩ = some (.int .i64 ((rd_T60 l0_2 a1).f3)) := (blk_cell BK191.out 3).trans rfl
                                  have hcz60_4 : wr.cell? ⟨gb191, 4, none⟩ = some (.slice A190_4 ((rd_T60 l0_2 a1).f4).length c190_4) := (blk_cell BK191.out 4).trans rfl
                                  have hfz60_0 := blk_frozen BK191.out 0
                                  have hfz60_1 := blk_frozen BK191.out 1
                                  have hfz60_2 := blk_frozen BK191.out 2
                                  have hfz60_3 := blk_frozen BK191.out 3
                                  have hfz60_4 := blk_frozen BK191.out 4
                                  try go_wp2
                                  have n0_ := Aside0.mk (blk_drew BK189.out)
                                  have n1_ := Aside0.mk (blk_drew BK191.out)
                                  have n2_ := Aside0.mk (below_drew1 HB.out)
                                  clear BK189
                                  clear BK191
                                  clear HB
                                  have BK189 := n0_
                                  have BK191 := n1_
                                  have HB := n2_
                                  clear n0_ n1_ n2_
                                  have p197 : 0 ≤ (x9_3 : Int) := of_decide_eq_true (by first | (with_reducible assumption) | assumption)
                                  have q197 : x9_3 < (((rd_T60 l0_2 a1).f4).length : Int) := of_decide_eq_true (by first | (with_reducible assumption) | assumption)
                                  obtain ⟨ad197, A197_4, c197_4, e197, hx197_0, hx197_1, hx197_2, hx197_3, hx197_4, hl197_4, hi197_4⟩ := at_T92 HR190_4.out x9_3 p197 q197
                                  have hw197_4 := hx197_4
                                  have hw197_3 := hx197_3
                                  have hw197_2 := hx197_2
                                  have hw197_1 := hx197_1
                                  have hw197_0 := hx197_0
                                  cases e197
                                  replace hx197_0 := (HB.out.cell (World.block_lt_of_cell? w _ hx197_0)).trans hx197_0
                                  replace hx197_1 := (HB.out.cell (World.block_lt_of_cell? w _ hx197_1)).trans hx197_1
                                  replace hx197_2 := (HB.out.cell (World.block_lt_of_cell? w _ hx197_2)).trans hx197_2
                                  replace hx197_3 := (HB.out.cell (World.block_lt_of_cell? w _ hx197_3)).trans hx197_3
                                  replace hx197_4 := (HB.out.cell (World.block_lt_of_cell? w _ hx197_4)).trans hx197_4
                                  have HR197_4 := Aside0.mk hi197_4
                                  have HC197_4 := Aside0.mk hl197_4
                                  clear hi197_4 hl197_4
                                  replace p197 := eq_true p197
                                  replace q197 := eq_true q197
                                  refine start_ (n := 8) (S := fun w' => w'.cell? ⟨gb191, 0, none⟩ = some (.string ((rd_T60 l0_2 a1).f0)) ∧ w'.cell? ⟨gb191, 1, none⟩ = some (.int .i64 ((rd_T60 l0_2 a1).f1)) ∧ w'.cell? ⟨gb191, 2, none⟩ = some (.int .i64 ((rd_T60 l0_2 a1).f2)) ∧ w'.cell? ⟨gb191, 3, none⟩ = some (.int .i64 ((rd_T60 l0_2 a1).f3)) ∧ w'.cell? ⟨gb191, 4, none⟩ = some (.slice (some ad197) ((rd_T60 l0_2 a1).f4).length c190_4) ∧ w'.cell? ⟨gb189, 0, none⟩ = some (.int .i64 a0_0) ∧ w'.cell? ⟨gb189, 1, none⟩ = some (.slice A0_1 l0_1.length c0_1) ∧ w'.cell? ⟨gb189, 2, none⟩ = some (.slice (some ad190) l0_2.length c0_2) ∧ w'.cell? (ad197.add ((x9_3).toNat * 5)) = some (.int .i64 ((rd_T92 ((rd_T60 l0_2 a1).f4) x9_3).f0)) ∧ w'.cell? ⟨(ad197.add ((x9_3).toNat * 5)).block, (ad197.add ((x9_3).toNat * 5)).off + 1, none⟩ = some (.int .i64 ((rd_T92 ((rd_T60 l0_2 a1).f4) x9_3).f1)) ∧ w'.cell? ⟨(ad197.add ((x9_3).toNat * 5)).block, (ad197.add ((x9_3).toNat * 5)).off + 2, none⟩ = some (.int .i64 ((rd_T92 ((rd_T60 l0_2 a1).f4) x9_3).f2)) ∧ w'.cell? ⟨(ad197.add ((x9_3).toNat * 5)).block, (ad197.add ((x9_3).toNat * 5)).off + 3, none⟩ = some (.int .i64 ((rd_T92 ((rd_T60 l0_2 a1).f4) x9_3).f3)) ∧ w'.cell? ⟨(ad197.add ((x9_3).toNat * 5)).block, (ad197.add ((x9_3).toNat * 5)).off + 4, none⟩ = some (.slice A197_4 ((rd_T92 ((rd_T60 l0_2 a1).f4) x9_3).f4).length c197_4)) (ds := []) #[false, false, false, false, false, false, false, false] (by kernel_rfl) rfl rfl ⟨(blk_cell BK191.out 0).trans rfl, (blk_cell BK191.out 1).trans rfl, (blk_cell BK191.out 2).trans rfl, (blk_cell BK191.out 3).trans rfl, (blk_cell BK191.out 4).trans rfl, (blk_cell BK189.out 0).trans rfl, (blk_cell BK189.out 1).trans rfl, (blk_cell BK189.out 2).trans rfl, ((HB.out.cell (World.block_lt_of_cell? w _ hw197_0)).trans hw197_0), ((HB.out.cell (World.block_lt_of_cell? w _ hw197_1)).trans hw197_1), ((HB.out.cell (World.block_lt_of_cell? w _ hw197_2)).trans hw197_2), ((HB.out.cell (World.block_lt_of_cell? w _ hw197_3)).trans hw197_3), ((HB.out.cell (World.block_lt_of_cell? w _ hw197_4)).trans hw197_4)⟩ (fun hHeld => ?_); refine with_tabW watchbillref8_checkTask.tab19 watchbillref8_checkTask.bits19 (fun HT_ HW_ => ?_)
                                  generalize wr.drew = w61 at BK189 BK191 HB HR197_4 hx197_0 hx197_1 hx197_2 hx197_3 hx197_4 hHeld ⊢
                                  refine pure_ (i := 0) (N := some 85) (v := ?_) (a' := ?_) #[true, false, false, false, false, false, false, false] rfl rfl (any_of HT_.out (by kernel_rfl)) (fun _ _ _ h => h) (Or.inl ⟨by rfl, ?_⟩) ?_ ?_
                                  rotate_left
                                  · intro w'
                                    go_simp
                                    with_reducible rfl
                                  rotate_left
                                  · simp only [Act.put, List.setIfInBounds_toArray, List.set_cons_zero, List.set_cons_succ, i64_w, i32_w]
                                    rfl
                                  refine pure_ (i := 2) (N := some 87) (v := ?_) (a' := ?_) #[true, false, true, false, false, false, false, false] rfl rfl (any_of HT_.out (by kernel_rfl)) (fun _ _ _ h => h) (Or.inl ⟨by rfl, ?_⟩) ?_ ?_
                                  rotate_left
                                  · intro w'
                                    go_simp
                                    with_reducible rfl
                                  rotate_left
                                  · simp only [Act.put, List.setIfInBounds_toArray, List.set_cons_zero, List.set_cons_succ, i64_w, i32_w]
                                    rfl
                                  refine take_ (i := 1) (N := some 86) (v := ?_) (a' := ?_) #[true, true, true, false, false, false, false, false] rfl rfl (take_ofW HT_.out HW_.out (by kernel_rfl)) (fun _ _ _ h => h) (Or.inl ⟨by rfl, ?_⟩) hHeld ?_ ?_
                                  rotate_left
                                  · rintro w' ⟨s0, s1, s2, s3, s4, s5, s6, s7, s8, s9, s10, s11, s12⟩
                                    go_simp
                                    with_reducible rfl
                                  rotate_left
                                  · simp only [Act.put, List.setIfInBounds_toArray, List.set_cons_zero, List.set_cons_succ, i64_w, i32_w]
                                    rfl
                                  refine pure_ (i := 3) (N := some 88) (v := ?_) (a' := ?_) #[true, true, true, true, false, false, false, false] rfl rfl (any_of HT_.out (by kernel_rfl)) (fun _ _ _ h => h) (Or.inl ⟨by rfl, ?_⟩) ?_ ?_
                                  rotate_left
                                  · intro w'
                                    go_simp
                                    with_reducible rfl
                                  rotate_left
                                  · simp only [Act.put, List.setIfInBounds_toArray, List.set_cons_zero, List.set_cons_succ, i64_w, i32_w]
                                    rfl
                                  refine take_ (i := 4) (N := some 89) (v := ?_) (a' := ?_) #[true, true, true, true, true, false, false, false] rfl rfl (take_ofW HT_.out HW_.out (by kernel_rfl)) (fun _ _ _ h => h) (Or.inl ⟨by rfl, ?_⟩) hHeld ?_ ?_
                                  rotate_left
                                  · rintro w' ⟨s0, s1, s2, s3, s4, s5, s6, s7, s8, s9, s10, s11, s12⟩
                                    go_simp
                                    with_reducible rfl
                                  rotate_left
                                  · simp only [Act.put, List.setIfInBounds_toArray, List.set_cons_zero, List.set_cons_succ, i64_w, i32_w]
                                    rfl
                                  refine take_ (i := 5) (N := some 90) (v := ?_) (a' := ?_) #[true, true, true, true, true, true, false, false] rfl rfl (take_ofW HT_.out HW_.out (by kernel_rfl)) (fun _ _ _ h => h) (Or.inl ⟨by rfl, ?_⟩) hHeld ?_ ?_
                                  rotate_left
                                  · rintro w' ⟨s0, s1, s2, s3, s4, s5, s6, s7, s8, s9, s10, s11, s12⟩
                                    go_simp
                                    with_reducible rfl
                                  rotate_left
                                  · simp only [Act.put, List.setIfInBounds_toArray, List.set_cons_zero, List.set_cons_succ, i64_w, i32_w]
                                    rfl
                                  refine one_ (i := 6) (N := some 91) #[true, true, true, true, true, true, true, false] rfl rfl (one_of HT_.out (by kernel_rfl)) (by decide) (fun K hK => ?_)
                                  refine goes_ Try.func40 (by kernel_rfl) rfl #[.agg #[.int .i64 ((rd_T92 ((rd_T60 l0_2 a1).f4) x9_3).f0), .int .i64 ((rd_T92 ((rd_T60 l0_2 a1).f4) x9_3).f1), .int .i64 ((rd_T92 ((rd_T60 l0_2 a1).f4) x9_3).f2), .int .i64 ((rd_T92 ((rd_T60 l0_2 a1).f4) x9_3).f3), .slice A197_4 ((rd_T92 ((rd_T60 l0_2 a1).f4) x9_3).f4).length c197_4], .agg #[.int .i64 a0_0, .slice A0_1 l0_1.length c0_1, .slice (some ad190) l0_2.length c0_2]] (by rfl) rfl rfl (by (try simp only [List.map_toArray, List.map_cons, List.map_nil]); first | done | rfl | (simp only [List.length_drop, List.length_take]; rfl)) ?_
                                  with_reducible refine (watchbillref8_known.calls k3 ((rd_T92 ((rd_T60 l0_2 a1).f4) x9_3).f0) ((rd_T92 ((rd_T60 l0_2 a1).f4) x9_3).f1) ((rd_T92 ((rd_T60 l0_2 a1).f4) x9_3).f2) ((rd_T92 ((rd_T60 l0_2 a1).f4) x9_3).f3) _ _ ((rd_T92 ((rd_T60 l0_2 a1).f4) x9_3).f4) a0_0 _ _ l0_1 _ _ l0_2 false _ ?side1 ?side2 ?side3 ?side4 ?side5 ?side6 A53.out).mono ?_
                                  (case side1 => repeat (first | exact (Kd.C_below HR197_4.out HB.out) | (with_reducible refine Kd.C_alloc ?_ _) | (with_reducible refine Kd.C_drewN ?_ _) | (with_reducible refine Kd.C_drew ?_)))
                                  (case side2 => exact HC197_4.out)
                                  (case side3 => repeat (first | exact (Kd.C_below HR0_1.out HB.out) | (with_reducible refine Kd.C_alloc ?_ _) | (with_reducible refine Kd.C_drewN ?_ _) | (with_reducible refine Kd.C_drew ?_)))
                                  (case side4 => exact HC0_1.out)
                                  (case side5 => repeat (first | exact (Kd.C_below HR0_2.out HB.out) | (with_reducible refine Kd.C_alloc ?_ _) | (with_reducible refine Kd.C_drewN ?_ _) | (with_reducible refine Kd.C_drew ?_)))
                                  (case side6 => exact HC0_2.out)
                                  rintro e w62 ⟨rfl, hb⟩
                                  refine ⟨_, rfl, ?_⟩
                                  have n0_ := Aside0.mk (blk_below (g := gb189) (o := .cells #[.int .i64 a0_0, .slice A0_1 l0_1.length c0_1, .slice (some ad190) l0_2.length c0_2] 25 (0, 0)) (by (with_reducible repeat (first | refine blk_drewN ?_ _ | refine blk_drew ?_ | refine blk_alloc ?_ _)); exact BK189.out) hb)
                                  have n1_ := Aside0.mk (blk_below (g := gb191) (o := .cells #[.string ((rd_T60 l0_2 a1).f0), .int .i64 ((rd_T60 l0_2 a1).f1), .int .i64 ((rd_T60 l0_2 a1).f2), .int .i64 ((rd_T60 l0_2 a1).f3), .slice (some ad197) ((rd_T60 l0_2 a1).f4).length c190_4] 60 (0, 0)) (by (with_reducible repeat (first | refine blk_drewN ?_ _ | refine blk_drew ?_ | refine blk_alloc ?_ _)); exact BK191.out) hb)
                                  have n2_ := Aside0.mk (below_step (by repeat (first | (with_reducible first | exact HB.out | apply below_alloc | apply pw_below_drewN | apply below_drew1 | refine below_set ?_ GE189.out | refine below_set ?_ GE191.out) | exact HB.out)) hb)
                                  clear BK189
                                  clear BK191
                                  clear HB
                                  have BK189 := n0_
                                  have BK191 := n1_
                                  have HB := n2_
                                  clear n0_ n1_ n2_
                                  (try clear hb)
                                  (try clear hb2)
                                  (try clear hk)
                                  (try clear hi)
                                  refine hK.out _ _ ⟨(blk_cell BK191.out 0).trans rfl, (blk_cell BK191.out 1).trans rfl, (blk_cell BK191.out 2).trans rfl, (blk_cell BK191.out 3).trans rfl, (blk_cell BK191.out 4).trans rfl, (blk_cell BK189.out 0).trans rfl, (blk_cell BK189.out 1).trans rfl, (blk_cell BK189.out 2).trans rfl, ((HB.out.cell (World.block_lt_of_cell? w _ hw197_0)).trans hw197_0), ((HB.out.cell (World.block_lt_of_cell? w _ hw197_1)).trans hw197_1), ((HB.out.cell (World.block_lt_of_cell? w _ hw197_2)).trans hw197_2), ((HB.out.cell (World.block_lt_of_cell? w _ hw197_3)).trans hw197_3), ((HB.out.cell (World.block_lt_of_cell? w _ hw197_4)).trans hw197_4)⟩ (fun hHeld => ?_)
                                  clear hK K
                                  refine norm_ (a' := ?_) ?_ ?_
                                  rotate_left
                                  · show Act.put _ (some 91) _ = _
                                    simp only [Act.put, List.setIfInBounds_toArray, List.set_cons_zero, List.set_cons_succ, i64_w, i32_w]
                                    rfl
                                  refine pure_ (i := 7) (N := some 92) (v := ?_) (a' := ?_) #[true, true, true, true, true, true, true, true] rfl rfl (any_of HT_.out (by kernel_rfl)) (fun _ _ _ h => h) (Or.inl ⟨by rfl, ?_⟩) ?_ ?_
                                  rotate_left
                                  · intro w'
                                    go_simp
                                    with_reducible rfl
                                  rotate_left
                                  · simp only [Act.put, List.setIfInBounds_toArray, List.set_cons_zero, List.set_cons_succ, i64_w, i32_w]
                                    rfl
                                  refine done_ (done_of HT_.out (by kernel_rfl)) ?_
                                  try go_wp2
                                  go_ret
                                  exact ⟨by first | rfl | (simp [errW_none, errW_some] <;> rfl) | (simp [*, errW_none, errW_some] <;> rfl), by repeat (first | (with_reducible first | exact HB.out | apply below_alloc | apply pw_below_drewN | apply below_drew1 | refine below_set ?_ GE189.out | refine below_set ?_ GE191.out) | exact HB.out)⟩
                              · rw [if_neg c52] at H
                                exact absurd H (by simp)
                            · rw [if_neg c51] at H
                              have c51b0 : decide (x9_3 < (((rd_T60 l0_2 a1).f4).length : Int)) = false := decide_eq_false c51
                              clear c51
                              obtain rfl := Option.some.inj H
                              have hnb63 := NB191_189.out
                              have hnc63 := NB189_191.out
                              have hcz64_0 : wr.cell? ⟨gb191, 0, none⟩ = some (.string ((rd_T60 l0_2 a1).f0)) := (blk_cell BK191.out 0).trans rfl
                              have hcz64_1 : wr.cell? ⟨gb191, 1, none⟩ = some (.int .i64 ((rd_T60 l0_2 a1).f1)) := (blk_cell BK191.out 1).trans rfl
                              have hcz64_2 : wr.cell? ⟨gb191, 2, none⟩ = some (.int .i64 ((rd_T60 l0_2 a1).f2)) := (blk_cell BK191.out 2).trans rfl
                              have hcz64_3 : wr.cell? ⟨gb191, 3, none⟩ = some (.int .i64 ((rd_T60 l0_2 a1).f3)) := (blk_cell BK191.out 3).trans rfl
                              have hcz64_4 : wr.cell? ⟨gb191, 4, none⟩ = some (.slice A190_4 ((rd_T60 l0_2 a1).f4).length c190_4) := (blk_cell BK191.out 4).trans rfl
                              have hfz64_0 := blk_frozen BK191.out 0
                              have hfz64_1 := blk_frozen BK191.out 1
                              have hfz64_2 := blk_frozen BK191.out 2
                              have hfz64_3 := blk_frozen BK191.out 3
                              have hfz64_4 := blk_frozen BK191.out 4
                              go_wp2
                              go_ret
                              exact ⟨by first | rfl | (simp [errW_none, errW_some] <;> rfl) | (simp [*, errW_none, errW_some] <;> rfl), by repeat (first | (with_reducible first | exact HB.out | apply below_alloc | apply pw_below_drewN | apply below_drew1 | refine below_set ?_ GE189.out | refine below_set ?_ GE191.out) | exact HB.out)⟩
                    · rw [if_neg c38] at H
                      have c38b0 : (t195 == 0) = false := beq_eq_false_iff_ne.mpr c38
                      have c38b1 : (t195 != 0) = true := bne_iff_ne.mpr c38
                      obtain rfl := Option.some.inj H
                      have hnb65 := NB191_189.out
                      have hnc65 := NB189_191.out
                      have hcz66_0 : wc.cell? ⟨gb191, 0, none⟩ = some (.string ((rd_T60 l0_2 a1).f0)) := (blk_cell BK191.out 0).trans rfl
                      have hcz66_1 : wc.cell? ⟨gb191, 1, none⟩ = some (.int .i64 ((rd_T60 l0_2 a1).f1)) := (blk_cell BK191.out 1).trans rfl
                      have hcz66_2 : wc.cell? ⟨gb191, 2, none⟩ = some (.int .i64 ((rd_T60 l0_2 a1).f2)) := (blk_cell BK191.out 2).trans rfl
                      have hcz66_3 : wc.cell? ⟨gb191, 3, none⟩ = some (.int .i64 ((rd_T60 l0_2 a1).f3)) := (blk_cell BK191.out 3).trans rfl
                      have hcz66_4 : wc.cell? ⟨gb191, 4, none⟩ = some (.slice A190_4 ((rd_T60 l0_2 a1).f4).length c190_4) := (blk_cell BK191.out 4).trans rfl
                      have hfz66_0 := blk_frozen BK191.out 0
                      have hfz66_1 := blk_frozen BK191.out 1
                      have hfz66_2 := blk_frozen BK191.out 2
                      have hfz66_3 := blk_frozen BK191.out 3
                      have hfz66_4 := blk_frozen BK191.out 4
                      go_wp2_with (first | ((with_reducible refine gate_callee (f := 38) rfl ?_); refine goesL_ (some 68) rfl rfl Try.func38 (by kernel_rfl) rfl #[.slice A190_4 ((rd_T60 l0_2 a1).f4).length c190_4] rfl (by (try simp only [List.map_toArray, List.map_cons, List.map_nil]); first | done | rfl | (simp only [List.length_drop, List.length_take]; rfl)) ?_; (with_reducible refine (watchbillref8_CheckProg.calls _ _ ((rd_T60 l0_2 a1).f4) t194 t195 _ ?side1 ?side2 A37.out).mono ?_); (case side1 => repeat (first | exact (Kd.C_below HR190_4.out HB.out) | (with_reducible refine Kd.C_alloc ?_ _) | (with_reducible refine Kd.C_drewN ?_ _) | (with_reducible refine Kd.C_drew ?_))); (case side2 => exact HC190_4.out); rintro e w67 ⟨rfl, hb⟩; refine ⟨_, rfl, ?_⟩; have n0_ := Aside0.mk (blk_below (g := gb189) (o := .cells #[.int .i64 a0_0, .slice A0_1 l0_1.length c0_1, .slice (some ad190) l0_2.length c0_2] 25 (0, 0)) (by (with_reducible repeat (first | refine blk_drewN ?_ _ | refine blk_drew ?_ | refine blk_alloc ?_ _)); exact BK189.out) hb); have n1_ := Aside0.mk (blk_below (g := gb191) (o := .cells #[.string ((rd_T60 l0_2 a1).f0), .int .i64 ((rd_T60 l0_2 a1).f1), .int .i64 ((rd_T60 l0_2 a1).f2), .int .i64 ((rd_T60 l0_2 a1).f3), .slice A190_4 ((rd_T60 l0_2 a1).f4).length c190_4] 60 (0, 0)) (by (with_reducible repeat (first | refine blk_drewN ?_ _ | refine blk_drew ?_ | refine blk_alloc ?_ _)); exact BK191.out) hb); have n2_ := Aside0.mk (below_step (by repeat (first | (with_reducible first | exact HB.out | apply below_alloc | apply pw_below_drewN | apply below_drew1 | refine below_set ?_ GE189.out | refine below_set ?_ GE191.out) | exact HB.out)) hb); clear BK189; clear BK191; clear HB; have BK189 := n0_; have BK191 := n1_; have HB := n2_; clear n0_ n1_ n2_; (try clear hb); (try clear hb2); (try clear hk); (try clear hi)))
                      go_ret
                      exact ⟨by first | rfl | (simp [errW_none, errW_some] <;> rfl) | (simp [*, errW_none, errW_some] <;> rfl), by repeat (first | (with_reducible first | exact HB.out | apply below_alloc | apply pw_below_drewN | apply below_drew1 | refine below_set ?_ GE189.out | refine below_set ?_ GE191.out) | exact HB.out)⟩
      · replace c6 := Bool.eq_false_iff.mpr c6
        subst c6
        have H1 : (some 3) = some r := by rw [if_neg (show ¬ (false = true) by decide)] at H; exact H
        clear H
        have H := H1
        clear H1
        obtain rfl := Option.some.inj H
        go_enter Try.func23, Try.ntmps23
        go_wp2_with (first | ((with_reducible refine gate_dst (N := 2) rfl ?_); refine box_event ?hg (N := 2) ?hd (cs := #[.int .i64 a0_0, .slice A0_1 l0_1.length c0_1, .slice A0_2 l0_2.length c0_2]) (t := 25) ?hr ?_; (case hd => rfl); (case hg => rfl); (case hr => first | (go_simp; done) | (go_simp; rfl)); intro gb189 hg w68 hbox hb; have n0_ := Aside0.mk (below_step (by repeat (first | (with_reducible first | exact HB.out | apply below_alloc | apply pw_below_drewN | apply below_drew1) | exact HB.out)) hb); have n1_ := Aside0.mk (hbox); have n2_ := Aside0.mk ((by rw [hg]; exact (below_size (by repeat (first | (with_reducible first | exact HB.out | apply below_alloc | apply pw_below_drewN | apply below_drew1) | exact HB.out))) : w.heap.size ≤ gb189)); have n3_ := Aside0.mk ((by rw [hg]; exact (below_size (by repeat (first | (with_reducible first | exact HB.out | apply below_alloc | apply pw_below_drewN | apply below_drew1) | exact HB.out))) : w.heap.size ≤ gb189)); clear HB; have HB := n0_; have BK189 := n1_; have GW189 := n2_; have GE189 := n3_; clear n0_ n1_ n2_ n3_; clear hb hbox hg; have hcz69_0 : w68.cell? ⟨gb189, 0, none⟩ = some (.int .i64 a0_0) := (blk_cell BK189.out 0).trans rfl; have hcz69_1 : w68.cell? ⟨gb189, 1, none⟩ = some (.slice A0_1 l0_1.length c0_1) := (blk_cell BK189.out 1).trans rfl; have hcz69_2 : w68.cell? ⟨gb189, 2, none⟩ = some (.slice A0_2 l0_2.length c0_2) := (blk_cell BK189.out 2).trans rfl; have hfz69_0 := blk_frozen BK189.out 0; have hfz69_1 := blk_frozen BK189.out 1; have hfz69_2 := blk_frozen BK189.out 2; have p190 : 0 ≤ (a1 : Int) := of_decide_eq_true (by first | (with_reducible assumption) | assumption); have q190 : a1 < (l0_2.length : Int) := of_decide_eq_true (by first | (with_reducible assumption) | assumption); obtain ⟨ad190, A190_4, c190_4, e190, hx190_0, hx190_1, hx190_2, hx190_3, hx190_4, hl190_4, hi190_4⟩ := at_T60 HR0_2.out a1 p190 q190; cases e190; replace hx190_0 := (HB.out.cell (World.block_lt_of_cell? w _ hx190_0)).trans hx190_0; replace hx190_1 := (HB.out.cell (World.block_lt_of_cell? w _ hx190_1)).trans hx190_1; replace hx190_2 := (HB.out.cell (World.block_lt_of_cell? w _ hx190_2)).trans hx190_2; replace hx190_3 := (HB.out.cell (World.block_lt_of_cell? w _ hx190_3)).trans hx190_3; replace hx190_4 := (HB.out.cell (World.block_lt_of_cell? w _ hx190_4)).trans hx190_4; have HR190_4 := Aside0.mk hi190_4; have HC190_4 := Aside0.mk hl190_4; clear hi190_4 hl190_4; replace p190 := eq_true p190; replace q190 := eq_true q190) | ((with_reducible refine gate_dst (N := 5) rfl ?_); refine box_event ?hg (N := 5) ?hd (cs := #[.string (⟨#[]⟩ : ByteArray), .int .i64 0, .int .i64 0, .int .i64 0, .slice none 0 0]) (t := 60) ?hr ?_; (case hd => rfl); (case hg => rfl); (case hr => first | (go_simp; done) | (go_simp; rfl)); intro gb191 hg w70 hbox hb; have n0_ := Aside0.mk (blk_below (g := gb189) (o := .cells #[.int .i64 a0_0, .slice A0_1 l0_1.length c0_1, .slice (some ad190) l0_2.length c0_2] 25 (0, 0)) (by (with_reducible repeat (first | refine blk_drewN ?_ _ | refine blk_drew ?_ | refine blk_alloc ?_ _)); exact BK189.out) hb); have n1_ := Aside0.mk (below_step (by repeat (first | (with_reducible first | exact HB.out | apply below_alloc | apply pw_below_drewN | apply below_drew1 | refine below_set ?_ GE189.out) | exact HB.out)) hb); have n2_ := Aside0.mk (hbox); have n3_ := Aside0.mk ((by rw [hg]; exact (below_size (by repeat (first | (with_reducible first | exact HB.out | apply below_alloc | apply pw_below_drewN | apply below_drew1 | refine below_set ?_ GE189.out) | exact HB.out))) : w.heap.size ≤ gb191)); have n4_ := Aside0.mk ((by rw [hg]; exact (below_size (by repeat (first | (with_reducible first | exact HB.out | apply below_alloc | apply pw_below_drewN | apply below_drew1 | refine below_set ?_ GE189.out) | exact HB.out))) : w.heap.size ≤ gb191)); have n5_ := Aside0.mk ((by rw [hg]; exact Nat.ne_of_lt (blk_lt (g := gb189) (o := .cells #[.int .i64 a0_0, .slice A0_1 l0_1.length c0_1, .slice (some ad190) l0_2.length c0_2] 25 (0, 0)) (by (with_reducible repeat (first | refine blk_drewN ?_ _ | refine blk_drew ?_ | refine blk_alloc ?_ _)); exact BK189.out)) : gb189 ≠ gb191)); have n6_ := Aside0.mk ((by rw [hg]; exact Nat.ne_of_gt (blk_lt (g := gb189) (o := .cells #[.int .i64 a0_0, .slice A0_1 l0_1.length c0_1, .slice (some ad190) l0_2.length c0_2] 25 (0, 0)) (by (with_reducible repeat (first | refine blk_drewN ?_ _ | refine blk_drew ?_ | refine blk_alloc ?_ _)); exact BK189.out)) : gb191 ≠ gb189)); clear BK189; clear HB; have BK189 := n0_; have HB := n1_; have BK191 := n2_; have GW191 := n3_; have GE191 := n4_; have NB189_191 := n5_; have NB191_189 := n6_; clear n0_ n1_ n2_ n3_ n4_ n5_ n6_; clear hb hbox hg; have hnb71 := NB191_189.out; have hnc71 := NB189_191.out; have hcz72_0 : w70.cell? ⟨gb191, 0, none⟩ = some (.string (⟨#[]⟩ : ByteArray)) := (blk_cell BK191.out 0).trans rfl; have hcz72_1 : w70.cell? ⟨gb191, 1, none⟩ = some (.int .i64 0) := (blk_cell BK191.out 1).trans rfl; have hcz72_2 : w70.cell? ⟨gb191, 2, none⟩ = some (.int .i64 0) := (blk_cell BK191.out 2).trans rfl; have hcz72_3 : w70.cell? ⟨gb191, 3, none⟩ = some (.int .i64 0) := (blk_cell BK191.out 3).trans rfl; have hcz72_4 : w70.cell? ⟨gb191, 4, none⟩ = some (.slice none 0 0) := (blk_cell BK191.out 4).trans rfl; have hfz72_0 := blk_frozen BK191.out 0; have hfz72_1 := blk_frozen BK191.out 1; have hfz72_2 := blk_frozen BK191.out 2; have hfz72_3 := blk_frozen BK191.out 3; have hfz72_4 := blk_frozen BK191.out 4) | ((with_reducible refine gate_callee (f := 37) rfl ?_); refine goesL_ (some 17) rfl rfl Try.func37 (by kernel_rfl) rfl #[.string ((rd_T60 l0_2 a1).f0)] rfl (by (try simp only [List.map_toArray, List.map_cons, List.map_nil]); first | done | rfl | (simp only [List.length_drop, List.length_take]; rfl)) ?_; (with_reducible refine (watchbillref8_Name.calls k ((rd_T60 l0_2 a1).f0) false _ A5.out).mono ?_); rintro e w' ⟨rfl, ⟨nd, rfl⟩⟩; refine ⟨_, rfl, ?_⟩))
        go_ret
        exact ⟨by first | rfl | (simp [errW_none, errW_some] <;> rfl) | (simp [*, errW_none, errW_some] <;> rfl), by repeat (first | (with_reducible first | exact HB.out | apply below_alloc | apply pw_below_drewN | apply below_drew1 | refine below_set ?_ GE189.out | refine below_set ?_ GE191.out) | exact HB.out)⟩
    · rw [if_neg c4] at H
      exact absurd H (by simp)
  · rw [if_neg c3] at H
    exact absurd H (by simp)

end Go.Proofs.Ythdmomaephiodaa.XA
