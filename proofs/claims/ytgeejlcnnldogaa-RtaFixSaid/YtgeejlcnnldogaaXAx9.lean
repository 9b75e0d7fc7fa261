-- PRINTED by print.py (a twelfth state) out of the translation. Not trusted: Lean checks it.
import Derived.Test.YtgeejlcnnldogaaXAx0
import Derived.Test.YtgeejlcnnldogaaXAx1
import Derived.Test.YtgeejlcnnldogaaXAx2
import Derived.Test.YtgeejlcnnldogaaXAx3
import Derived.Test.YtgeejlcnnldogaaXAx8
namespace Go.Proofs.Ytgeejlcnnldogaa.XA
open Go.RowKit Go.Proofs.YtgeejlcnnldogaaW.PrintWords Go.Proofs.YtgeejlcnnldogaaW.PrintLast Go.Proofs.YtgeejlcnnldogaaW.PrintMore
attribute [local go_sem] max2_int min2_int max_two min_two max_three min_three max_four min_four   -- for this text's walks alone
set_option linter.unusedVariables false
set_option linter.unusedSimpArgs false

/-! ### rta_Of: function 17 -/
mutual
def rta_Of.j0 : Nat → Int → Bool → Int → List (S79) → List (S75) → Option (Int × Int)
  | 0, _, _, _, _, _ => none
  | k + 1, x1, x20, x219000, x219001, x219002 => if x20 = true then (some (0, 1)) else ((order_Higher.f k x219000 x219001 x219002 x1).bind fun t219 => (rta_Of.l0 k x1 ([] : List (S58)) t219 (t219.length : Int) 0 x219000 x219001 x219002))
def rta_Of.l0 : Nat → Int → List (S58) → List Int → Int → Int → Int → List (S79) → List (S75) → Option (Int × Int)
  | 0, _, _, _, _, _, _, _, _ => none
  | k + 1, x1, x6, x23, x24, x25, x219000, x219001, x219002 => if x25 < x24 then (if 0 ≤ x25 then (if x25 < (x23.length : Int) then (if 0 ≤ (rd x23 x25) then (if (rd x23 x25) < (x219002.length : Int) then ((set_Need.f k ((rd_T75 x219002 (rd x23 x25)).f0) ((rd_T75 x219002 (rd x23 x25)).f1) ((rd_T75 x219002 (rd x23 x25)).f2) ((rd_T75 x219002 (rd x23 x25)).f3) ((rd_T75 x219002 (rd x23 x25)).f4)).bind fun t225 => (if x6.length < 8796093022208 then (rta_Of.l0 k x1 (x6 ++ [(⟨(rd_T75 x219002 (rd x23 x25)).f1, t225⟩ : S58)]) x23 x24 (wrap64 (x25 + 1)) x219000 x219001 x219002) else (none))) else (none)) else (none)) else (none)) else (none)) else (if 0 ≤ x1 then (if x1 < (x219002.length : Int) then ((set_Need.f k ((rd_T75 x219002 x1).f0) ((rd_T75 x219002 x1).f1) ((rd_T75 x219002 x1).f2) ((rd_T75 x219002 x1).f3) ((rd_T75 x219002 x1).f4)).bind fun t230 => ((block_Of.f k x219000 x219001 x219002).bind fun t231 => (if x1 < (t231.length : Int) then ((rta_Fix.f k (wrap64 (t230 + (rd t231 x1))) x6 ((rd_T75 x219002 x1).f2)).bind fun bt236 => (some (bt236.1, bt236.2.2))) else (none)))) else (none)) else (none))
end
def rta_Of.f (k : Nat) (a0_0 : Int) (l0_1 : List (S79)) (l0_2 : List (S75)) (a1 : Int) : Option (Int × Int) := if a1 < 0 then (rta_Of.j0 k a1 true a0_0 l0_1 l0_2) else (rta_Of.j0 k a1 (decide (a1 ≥ (l0_2.length : Int))) a0_0 l0_1 l0_2)
theorem rta_Of.mono_l : ∀ k, (∀ y0 y1 y2 y3 y4, LeO (rta_Of.j0 k y0 y1 y2 y3 y4) (rta_Of.j0 (k + 1) y0 y1 y2 y3 y4)) ∧ (∀ y0 y1 y2 y3 y4 y5 y6 y7, LeO (rta_Of.l0 k y0 y1 y2 y3 y4 y5 y6 y7) (rta_Of.l0 (k + 1) y0 y1 y2 y3 y4 y5 y6 y7))
  | 0 => ⟨fun _ _ _ _ _ r h => by simp [rta_Of.j0] at h, fun _ _ _ _ _ _ _ _ r h => by simp [rta_Of.l0] at h⟩
  | k + 1 => by
    obtain ⟨ih0, ih1⟩ := rta_Of.mono_l k
    refine ⟨?_, ?_⟩
    · intro y0 y1 y2 y3 y4
      unfold rta_Of.j0
      repeat' first
      | (with_reducible exact ih0 _ _ _ _ _)
      | (with_reducible exact ih1 _ _ _ _ _ _ _ _)
      | (with_reducible exact block_Of.mono _ _ _ _)
      | (with_reducible exact order_Higher.mono _ _ _ _ _)
      | (with_reducible exact rta_Fix.mono _ _ _ _)
      | (with_reducible exact set_Need.mono _ _ _ _ _ _)
      | (with_reducible exact LeO.refl _)
      | (with_reducible exact LeO.none _)
      | (with_reducible refine LeO.ite ?_ ?_)
      | (with_reducible refine LeO.bind ?_ (fun _ => ?_))
      | exact ih0 _ _ _ _ _
      | exact ih1 _ _ _ _ _ _ _ _
      | exact block_Of.mono _ _ _ _
      | exact order_Higher.mono _ _ _ _ _
      | exact rta_Fix.mono _ _ _ _
      | exact set_Need.mono _ _ _ _ _ _
      | exact LeO.none _
      | refine LeO.ite ?_ ?_
      | refine LeO.bind ?_ (fun _ => ?_)
    · intro y0 y1 y2 y3 y4 y5 y6 y7
      unfold rta_Of.l0
      repeat' first
      | (with_reducible exact ih0 _ _ _ _ _)
      | (with_reducible exact ih1 _ _ _ _ _ _ _ _)
      | (with_reducible exact block_Of.mono _ _ _ _)
      | (with_reducible exact order_Higher.mono _ _ _ _ _)
      | (with_reducible exact rta_Fix.mono _ _ _ _)
      | (with_reducible exact set_Need.mono _ _ _ _ _ _)
      | (with_reducible exact LeO.refl _)
      | (with_reducible exact LeO.none _)
      | (with_reducible refine LeO.ite ?_ ?_)
      | (with_reducible refine LeO.bind ?_ (fun _ => ?_))
      | exact ih0 _ _ _ _ _
      | exact ih1 _ _ _ _ _ _ _ _
      | exact block_Of.mono _ _ _ _
      | exact order_Higher.mono _ _ _ _ _
      | exact rta_Fix.mono _ _ _ _
      | exact set_Need.mono _ _ _ _ _ _
      | exact LeO.none _
      | refine LeO.ite ?_ ?_
      | refine LeO.bind ?_ (fun _ => ?_)
theorem rta_Of.mono : ∀ a0 a1 a2 a3 k, LeO (rta_Of.f k a0 a1 a2 a3) (rta_Of.f (k + 1) a0 a1 a2 a3) := by
  intro a0 a1 a2 a3 k
  obtain ⟨ih0, ih1⟩ := rta_Of.mono_l k
  unfold rta_Of.f
  repeat' first
      | (with_reducible exact ih0 _ _ _ _ _)
      | (with_reducible exact ih1 _ _ _ _ _ _ _ _)
      | (with_reducible exact block_Of.mono _ _ _ _)
      | (with_reducible exact order_Higher.mono _ _ _ _ _)
      | (with_reducible exact rta_Fix.mono _ _ _ _)
      | (with_reducible exact set_Need.mono _ _ _ _ _ _)
      | (with_reducible exact LeO.refl _)
      | (with_reducible exact LeO.none _)
      | (with_reducible refine LeO.ite ?_ ?_)
      | (with_reducible refine LeO.bind ?_ (fun _ => ?_))
      | exact ih0 _ _ _ _ _
      | exact ih1 _ _ _ _ _ _ _ _
      | exact block_Of.mono _ _ _ _
      | exact order_Higher.mono _ _ _ _ _
      | exact rta_Fix.mono _ _ _ _
      | exact set_Need.mono _ _ _ _ _ _
      | exact LeO.none _
      | refine LeO.ite ?_ ?_
      | refine LeO.bind ?_ (fun _ => ?_)
def rta_Of.T7 : Bool × List (List Nat × List Nat) := (true, [([], []), ([], []), ([1], [1]), ([], []), ([2, 3], [2, 3]), ([4], [4]), ([5], [5]), ([], []), ([7], [7]), ([], []), ([8, 9], [8, 9]), ([10], [10]), ([11], [11]), ([6, 12], [6, 12]), ([13], [13]), ([0, 14, 12], [0, 14]), ([15, 15, 0, 1, 2, 3, 4, 5, 6, 7, 8, 9, 10, 11, 12, 13, 14, 15], [0, 15])])
def rta_Of.B7 : List Nat := [0, 0, 2, 0, 14, 30, 62, 0, 128, 0, 896, 1920, 3968, 8190, 16382, 32767, 65535]
theorem rta_Of.tab7 : rtab .any (opsOf Try.f17 7) = rta_Of.T7 := by kernel_rfl
theorem rta_Of.bits7 : waitsOk rta_Of.T7.2 rta_Of.B7 = true := by kernel_rfl
def rta_Of.T9 : Bool × List (List Nat × List Nat) := (true, [([], []), ([0], [0]), ([], []), ([1, 2], [1, 2]), ([3], [3]), ([4], [4]), ([], []), ([6, 5], [6]), ([], []), ([7, 8], [7, 8]), ([9], [9]), ([5, 10], [5, 10]), ([], []), ([], []), ([13], [13]), ([], []), ([14, 15], [14, 15]), ([16], [16]), ([17], [17]), ([11, 12, 18, 7], [11, 12, 18]), ([19], [19]), ([20], [20]), ([20], [20]), ([20], [20]), ([21, 19, 0, 1, 2, 3, 4, 5, 6, 7, 8, 9, 10, 11, 12, 13, 14, 15, 16, 17, 18, 19, 20, 21], [21]), ([22, 24, 0, 1, 2, 3, 4, 5, 6, 7, 8, 9, 10, 11, 12, 13, 14, 15, 16, 17, 18, 19, 20, 21, 22, 24], [22]), ([23, 25, 0, 1, 2, 3, 4, 5, 6, 7, 8, 9, 10, 11, 12, 13, 14, 15, 16, 17, 18, 19, 20, 21, 22, 23, 24, 25], [23])])
def rta_Of.B9 : List Nat := [0, 1, 0, 7, 15, 31, 0, 127, 0, 511, 1023, 2047, 0, 0, 8192, 0, 57344, 122880, 253952, 524287, 1048575, 2097151, 2097151, 2097151, 4194303, 25165823, 67108863]
theorem rta_Of.tab9 : rtab .any (opsOf Try.f17 9) = rta_Of.T9 := by kernel_rfl
theorem rta_Of.bits9 : waitsOk rta_Of.T9.2 rta_Of.B9 = true := by kernel_rfl
theorem one_yield {P : Program} {ops : Array Oper} {S : World → Prop} {Q : Exit → Act → World → Prop} {o : Oper} {v : Value} {a : Act} {w : World} {K : Act → World → Prop} (hy : YieldsIf P ops S o v a) (hS : S w) (h : K (a.put o.dst v) w) : if Region.wanted o (yielded ops a.tmps) = true then Oper.wp P o a w K Q else K (a.put o.dst undef) w := by
  rcases hy with ⟨hw, hv⟩ | ⟨hw, rfl⟩
  · simp only [hw, if_true, Oper.wp, hv w hS, Oper.upon]; exact h
  · simp only [hw, Bool.false_eq_true, if_false]; exact h
set_option maxHeartbeats 8000000 in
set_option maxRecDepth 100000 in
theorem rta_Of.calls (k : Nat) (a0_0 : Int) (A0_1 : Option Addr) (c0_1 : Nat) (l0_1 : List (S79)) (A0_2 : Option Addr) (c0_2 : Nat) (l0_2 : List (S75)) (a1 : Int) (r1 : Int) (r2 : Int) (w : World) (hr0_1 : Kd.C k79 w A0_1 l0_1.length l0_1) (hc0_1 : l0_1.length ≤ c0_1) (hr0_2 : Kd.C k75 w A0_2 l0_2.length l0_2) (hc0_2 : l0_2.length ≤ c0_2) (h : rta_Of.f k a0_0 l0_1 l0_2 a1 = some (r1, r2)) :
    Calls Try.prog 17 #[.agg #[.int .i64 a0_0, .slice A0_1 l0_1.length c0_1, .slice A0_2 l0_2.length c0_2], .int .i64 a1] w fun e w' => e = .returned (.tuple #[.int .i64 r1, .int .i64 r2]) ∧ Below w.heap.size w w' := by
  have hu48 := Try.underlying48
  have hu75 := Try.underlying75
  have hu58 := Try.underlying58
  have HR0_1 := Aside0.mk hr0_1
  have HC0_1 := Aside0.mk hc0_1
  clear hr0_1 hc0_1
  have HR0_2 := Aside0.mk hr0_2
  have HC0_2 := Aside0.mk hc0_2
  clear hr0_2 hc0_2
  have HB := Aside0.mk (Below.refl w.heap.size w)
  have H : (if a1 < 0 then (rta_Of.j0 k a1 true a0_0 l0_1 l0_2) else (rta_Of.j0 k a1 (decide (a1 ≥ (l0_2.length : Int))) a0_0 l0_1 l0_2)) = some (r1, r2) := h
  clear h
  have HC3 := Aside0.mk H
  clear H
  go_enter Try.func17, Try.ntmps17
  go_upto_region 1 with (first | ((with_reducible refine gate_dst (N := 2) rfl ?_); refine box_event ?hg (N := 2) ?hd (cs := #[.int .i64 a0_0, .slice A0_1 l0_1.length c0_1, .slice A0_2 l0_2.length c0_2]) (t := 48) ?hr ?_; (case hd => rfl); (case hg => rfl); (case hr => first | (go_simp; done) | (go_simp; rfl)); intro gb218 hg w4 hbox hb; have n0_ := Aside0.mk (below_step (by repeat (first | (with_reducible first | exact HB.out | apply below_alloc | apply pw_below_drewN | apply below_drew1) | exact HB.out)) hb); have n1_ := Aside0.mk (hbox); have n2_ := Aside0.mk ((by rw [hg]; exact (below_size (by repeat (first | (with_reducible first | exact HB.out | apply below_alloc | apply pw_below_drewN | apply below_drew1) | exact HB.out))) : w.heap.size ≤ gb218)); have n3_ := Aside0.mk ((by rw [hg]; exact (below_size (by repeat (first | (with_reducible first | exact HB.out | apply below_alloc | apply pw_below_drewN | apply below_drew1) | exact HB.out))) : w.heap.size ≤ gb218)); clear HB; have HB := n0_; have BK218 := n1_; have GW218 := n2_; have GE218 := n3_; clear n0_ n1_ n2_ n3_; clear hb hbox hg))
  (try simp only [Act.put, List.setIfInBounds_toArray, List.set_cons_zero, List.set_cons_succ])
  go_cut [20] (fun v20 wc => ∃ (kq : Nat) (x20_2 : Bool), v20 = .bool x20_2 ∧ Aside0 (rta_Of.j0 kq a1 x20_2 a0_0 l0_1 l0_2 = some (r1, r2)) ∧ Aside0 (kq ≤ k) ∧ Aside0 (wc.heap[gb218]? = some (.cells #[.int .i64 a0_0, (.slice A0_1 l0_1.length c0_1), (.slice A0_2 l0_2.length c0_2)] 48 (0, 0))) ∧ Aside0 (Below w.heap.size w wc))
  case first =>
    have H := HC3.out
    clear HC3
    by_cases c5 : a1 < 0
    · rw [if_pos c5] at H
      have c5b0 : decide (a1 < 0) = true := decide_eq_true c5
      clear c5
      (first | rw [c5b0] | (simp only [i64_w, i32_w]; rw [c5b0]) | skip)
      have H' := Aside0.mk H
      clear H
      go_wp2
      go_meet
      case rel => exact ⟨_, (true), (by first | rfl | (simp; done) | (simp [*]; done) | (simp [Int.tdiv_eq_ediv_of_nonneg]; done)), H', ⟨by first | omega | exact Nat.le_refl _⟩, ⟨by (with_reducible repeat (first | refine blk_drewN ?_ _ | refine blk_drew ?_ | refine blk_alloc ?_ _)); exact BK218.out⟩, ⟨by repeat (first | (with_reducible first | exact HB.out | apply below_alloc | apply pw_below_drewN | apply below_drew1 | refine below_set ?_ GE218.out) | exact HB.out)⟩⟩
    · rw [if_neg c5] at H
      have c5b0 : decide (a1 < 0) = false := decide_eq_false c5
      clear c5
      (first | rw [c5b0] | (simp only [i64_w, i32_w]; rw [c5b0]) | skip)
      have H' := Aside0.mk H
      clear H
      have hcz6_0 : w4.cell? ⟨gb218, 0, none⟩ = some (.int .i64 a0_0) := (blk_cell BK218.out 0).trans rfl
      have hcz6_1 : w4.cell? ⟨gb218, 1, none⟩ = some (.slice A0_1 l0_1.length c0_1) := (blk_cell BK218.out 1).trans rfl
      have hcz6_2 : w4.cell? ⟨gb218, 2, none⟩ = some (.slice A0_2 l0_2.length c0_2) := (blk_cell BK218.out 2).trans rfl
      have hfz6_0 := blk_frozen BK218.out 0
      have hfz6_1 := blk_frozen BK218.out 1
      have hfz6_2 := blk_frozen BK218.out 2
      go_wp2
      go_meet
      case rel => exact ⟨_, (decide (a1 ≥ (l0_2.length : Int))), (by first | rfl | (simp; done) | (simp [*]; done) | (simp [Int.tdiv_eq_ediv_of_nonneg]; done)), H', ⟨by first | omega | exact Nat.le_refl _⟩, ⟨by (with_reducible repeat (first | refine blk_drewN ?_ _ | refine blk_drew ?_ | refine blk_alloc ?_ _)); exact BK218.out⟩, ⟨by repeat (first | (with_reducible first | exact HB.out | apply below_alloc | apply pw_below_drewN | apply below_drew1 | refine below_set ?_ GE218.out) | exact HB.out)⟩⟩
  case rest =>
    clear HC3
    try clear c1
    try clear p2
    try clear c5
    try clear c5b0
    try clear hcz6_0
    try clear hcz6_1
    try clear hcz6_2
    try clear hfz6_0
    try clear hfz6_1
    try clear hfz6_2
    obtain ⟨kq, x20_2, rfl, HA, HJ2, BK218, HB⟩ := hcut
    cases kq with
    | zero => exact absurd HA.out (by simp [rta_Of.j0])
    | succ kj2 =>
      have H := HA.out
      clear HA
      simp only [rta_Of.j0] at H
      by_cases c7 : x20_2 = true
      · subst c7
        have H1 : (some (0, 1)) = some (r1, r2) := by rw [if_pos rfl] at H; exact H
        clear H
        have H := H1
        clear H1
        simp only [Option.some.injEq, Prod.mk.injEq] at H
        obtain ⟨rfl, rfl⟩ := H
        go_wp2
        go_ret2
        exact ⟨by first | rfl | (simp [errW_none, errW_some] <;> rfl) | (simp [*, errW_none, errW_some] <;> rfl), by repeat (first | (with_reducible first | exact HB.out | apply below_alloc | apply pw_below_drewN | apply below_drew1 | refine below_set ?_ GE218.out) | exact HB.out)⟩
      · replace c7 := Bool.eq_false_iff.mpr c7
        subst c7
        have H1 : ((order_Higher.f kj2 a0_0 l0_1 l0_2 a1).bind fun t219 => (rta_Of.l0 kj2 a1 ([] : List (S58)) t219 (t219.length : Int) 0 a0_0 l0_1 l0_2)) = some (r1, r2) := by rw [if_neg (show ¬ (false = true) by decide)] at H; exact H
        clear H
        have H := H1
        clear H1
        replace H := Option.bind_eq_some_iff.mp H
        obtain ⟨t219, A80, H⟩ := H
        replace H : (rta_Of.l0 kj2 a1 ([] : List (S58)) t219 (t219.length : Int) 0 a0_0 l0_1 l0_2) = some (r1, r2) := H
        have A8 := Aside0.mk A80
        clear A80
        have H' := Aside0.mk H
        clear H
        have hcz9_0 : wc.cell? ⟨gb218, 0, none⟩ = some (.int .i64 a0_0) := (blk_cell BK218.out 0).trans rfl
        have hcz9_1 : wc.cell? ⟨gb218, 1, none⟩ = some (.slice A0_1 l0_1.length c0_1) := (blk_cell BK218.out 1).trans rfl
        have hcz9_2 : wc.cell? ⟨gb218, 2, none⟩ = some (.slice A0_2 l0_2.length c0_2) := (blk_cell BK218.out 2).trans rfl
        have hfz9_0 := blk_frozen BK218.out 0
        have hfz9_1 := blk_frozen BK218.out 1
        have hfz9_2 := blk_frozen BK218.out 2
        go_wp2_with (first | ((with_reducible refine gate_callee (f := 26) rfl ?_); refine goesL_ (some 23) rfl rfl Try.func26 (by kernel_rfl) rfl #[.agg #[.int .i64 a0_0, .slice A0_1 l0_1.length c0_1, .slice A0_2 l0_2.length c0_2], .int .i64 a1] rfl (by (try simp only [List.map_toArray, List.map_cons, List.map_nil]); first | done | rfl | (simp only [List.length_drop, List.length_take]; rfl)) ?_; (with_reducible refine (order_Higher.calls kj2 a0_0 _ _ l0_1 _ _ l0_2 a1 t219 _ ?side1 ?side2 ?side3 ?side4 A8.out).mono ?_); (case side1 => repeat (first | exact (Kd.C_below HR0_1.out HB.out) | (with_reducible refine Kd.C_alloc ?_ _) | (with_reducible refine Kd.C_drewN ?_ _) | (with_reducible refine Kd.C_drew ?_))); (case side2 => exact HC0_1.out); (case side3 => repeat (first | exact (Kd.C_below HR0_2.out HB.out) | (with_reducible refine Kd.C_alloc ?_ _) | (with_reducible refine Kd.C_drewN ?_ _) | (with_reducible refine Kd.C_drew ?_))); (case side4 => exact HC0_2.out); rintro e w10 ⟨v220, rfl, ho0, hb⟩; refine ⟨_, rfl, ?_⟩; have n0_ := Aside0.mk (Kd.R_lower ho0 (below_size (by repeat (first | (with_reducible first | exact HB.out | apply below_alloc | apply pw_below_drewN | apply below_drew1 | refine below_set ?_ GE218.out) | exact HB.out)))); have n1_ := Aside0.mk (blk_below (g := gb218) (o := .cells #[.int .i64 a0_0, .slice A0_1 l0_1.length c0_1, .slice A0_2 l0_2.length c0_2] 48 (0, 0)) (by (with_reducible repeat (first | refine blk_drewN ?_ _ | refine blk_drew ?_ | refine blk_alloc ?_ _)); exact BK218.out) hb); have n2_ := Aside0.mk (below_step (by repeat (first | (with_reducible first | exact HB.out | apply below_alloc | apply pw_below_drewN | apply below_drew1 | refine below_set ?_ GE218.out) | exact HB.out)) hb); clear BK218; clear HB; have HO221 := n0_; have BK218 := n1_; have HB := n2_; clear n0_ n1_ n2_; (try clear hb); (try clear hb2); (try clear hk); (try clear hi); (try clear ho0); obtain ⟨Ao11, co11, eo11⟩ := Kd.R_slice HO221.out; subst eo11))
        go_loopg [6, 25] kj2 (fun kq v6 v25 w' => ∃ (x6_2 : List (S58)) (x25_2 : Int), v25 = .int .i64 x25_2 ∧ Aside0 (rta_Of.l0 kq a1 x6_2 t219 (t219.length : Int) x25_2 a0_0 l0_1 l0_2 = some (r1, r2)) ∧ Aside0 (kq ≤ kj2) ∧ Aside0 (Kd.R k58 58 w' w.heap.size (fun _ => True) v6 x6_2) ∧ Aside0 (Kd.R (Kd.int .i64) 3 w' w.heap.size (fun _ => True) (.slice Ao11 t219.length co11) t219) ∧ Aside0 (w'.heap[gb218]? = some (.cells #[.int .i64 a0_0, (.slice A0_1 l0_1.length c0_1), (.slice A0_2 l0_2.length c0_2)] 48 (0, 0))) ∧ Aside0 (Below w.heap.size w w'))
        case atStart => exact ⟨(([] : List (S58))), (0), (by first | rfl | (simp; done) | (simp [*]; done) | (simp [Int.tdiv_eq_ediv_of_nonneg]; done)), H', ⟨Nat.le_refl _⟩, ⟨by first | exact Kd.R_nil _ _ _ _ _ | exact Kd.N_nil _ _ _ _ _ | exact Kd.V_nil _ _ _ _ _ | exact Kd.Q_nil _ _ _ _ _ | exact Kd.S_nil _ _ _ _ _⟩, ⟨by (with_reducible repeat (first | apply Kd.R_alloc | apply Kd.R_drewN | apply Kd.R_drew)); exact HO221.out⟩, ⟨by (with_reducible repeat (first | refine blk_drewN ?_ _ | refine blk_drew ?_ | refine blk_alloc ?_ _)); exact BK218.out⟩, ⟨by repeat (first | (with_reducible first | exact HB.out | apply below_alloc | apply pw_below_drewN | apply below_drew1 | refine below_set ?_ GE218.out) | exact HB.out)⟩⟩
        case round =>
          clear H'
          try clear c1
          try clear c2
          try clear p2
          try clear c5
          try clear c5b0
          try clear c7
          try clear hcz6_0
          try clear hcz6_1
          try clear hcz6_2
          try clear hcz9_0
          try clear hcz9_1
          try clear hcz9_2
          try clear hfz6_0
          try clear hfz6_1
          try clear hfz6_2
          try clear hfz9_0
          try clear hfz9_1
          try clear hfz9_2
          try clear p2
          obtain ⟨x6_2, x25_2, rfl, HA, HK2, HO_6, HO_23, BK218, HB⟩ := hrel
          cases gk with
          | zero => exact absurd HA.out (by simp [rta_Of.l0])
          | succ k2 =>
            have H := HA.out
            clear HA
            simp only [rta_Of.l0] at H
            by_cases c12 : x25_2 < (t219.length : Int)
            · rw [if_pos c12] at H
              have c12b0 : decide (x25_2 < (t219.length : Int)) = true := decide_eq_true c12
              clear c12
              by_cases c13 : 0 ≤ x25_2
              · rw [if_pos c13] at H
                have c13b0 : decide (0 ≤ x25_2) = true := decide_eq_true c13
                clear c13
                by_cases c14 : x25_2 < (t219.length : Int)
                · rw [if_pos c14] at H
                  have c14b0 : decide (x25_2 < (t219.length : Int)) = true := decide_eq_true c14
                  clear c14
                  by_cases c15 : 0 ≤ (rd t219 x25_2)
                  · rw [if_pos c15] at H
                    have c15b0 : decide (0 ≤ (rd t219 x25_2)) = true := decide_eq_true c15
                    clear c15
                    by_cases c16 : (rd t219 x25_2) < (l0_2.length : Int)
                    · rw [if_pos c16] at H
                      have c16b0 : decide ((rd t219 x25_2) < (l0_2.length : Int)) = true := decide_eq_true c16
                      clear c16
                      replace H := Option.bind_eq_some_iff.mp H
                      obtain ⟨t225, A170, H⟩ := H
                      replace H : (if x6_2.length < 8796093022208 then (rta_Of.l0 k2 a1 (x6_2 ++ [(⟨(rd_T75 l0_2 (rd t219 x25_2)).f1, t225⟩ : S58)]) t219 (t219.length : Int) (wrap64 (x25_2 + 1)) a0_0 l0_1 l0_2) else (none)) = some (r1, r2) := H
                      have A17 := Aside0.mk A170
                      clear A170
                      by_cases c18 : x6_2.length < 8796093022208
                      · rw [if_pos c18] at H
                        have LMc18 := Aside0.mk c18
                        clear c18
                        obtain ⟨y226, hy226⟩ : ∃ y_ : List (S58), y_ = (x6_2 ++ [(⟨(rd_T75 l0_2 (rd t219 x25_2)).f1, t225⟩ : S58)]) := ⟨_, rfl⟩
                        replace H : (rta_Of.l0 k2 a1 y226 t219 (t219.length : Int) (wrap64 (x25_2 + 1)) a0_0 l0_1 l0_2) = some (r1, r2) := by first | (rw [hy226]; with_reducible exact H) | (have H2_ := (Option.bind_some _ _).symm.trans H; rw [hy226]; with_reducible exact H2_) | (have H2_ := (Option.bind_some _ _).symm.trans H; with_reducible exact H2_) | with_reducible exact H | (rw [hy226]; exact H) | exact H
                        have Ny226 := Aside0.mk hy226
                        clear hy226
                        have H' := Aside0.mk H
                        clear H
                        have p222 : 0 ≤ (x25_2 : Int) := of_decide_eq_true (by first | (with_reducible assumption) | assumption)
                        have q222 : x25_2 < (t219.length : Int) := of_decide_eq_true (by first | (with_reducible assumption) | assumption)
                        obtain ⟨ad222, e222, hx222_0⟩ := Kd.at_int (Kd.R_reads' HO_23.out).2.2 x25_2 p222 q222
                        cases e222
                        replace p222 := eq_true p222
                        replace q222 := eq_true q222
                        try go_wp2
                        have n0_ := Aside0.mk (Kd.R_drew HO_6.out)
                        have n1_ := Aside0.mk (Kd.R_drew HO_23.out)
                        have n2_ := Aside0.mk (blk_drew BK218.out)
                        have n3_ := Aside0.mk (below_drew1 HB.out)
                        clear HO_6
                        clear HO_23
                        clear BK218
                        clear HB
                        have HO_6 := n0_
                        have HO_23 := n1_
                        have BK218 := n2_
                        have HB := n3_
                        clear n0_ n1_ n2_ n3_
                        have p223 : 0 ≤ ((rd t219 x25_2) : Int) := of_decide_eq_true (by first | (with_reducible assumption) | assumption)
                        have q223 : (rd t219 x25_2) < (l0_2.length : Int) := of_decide_eq_true (by first | (with_reducible assumption) | assumption)
                        obtain ⟨ad223, A223_4, c223_4, e223, hx223_0, hx223_1, hx223_2, hx223_3, hx223_4, hl223_4, hi223_4⟩ := at_T75 HR0_2.out (rd t219 x25_2) p223 q223
                        have hw223_4 := hx223_4
                        have hw223_3 := hx223_3
                        have hw223_2 := hx223_2
                        have hw223_1 := hx223_1
                        have hw223_0 := hx223_0
                        cases e223
                        replace hx223_0 := (HB.out.cell (World.block_lt_of_cell? w _ hx223_0)).trans hx223_0
                        replace hx223_1 := (HB.out.cell (World.block_lt_of_cell? w _ hx223_1)).trans hx223_1
                        replace hx223_2 := (HB.out.cell (World.block_lt_of_cell? w _ hx223_2)).trans hx223_2
                        replace hx223_3 := (HB.out.cell (World.block_lt_of_cell? w _ hx223_3)).trans hx223_3
                        replace hx223_4 := (HB.out.cell (World.block_lt_of_cell? w _ hx223_4)).trans hx223_4
                        have HR223_4 := Aside0.mk hi223_4
                        have HC223_4 := Aside0.mk hl223_4
                        clear hi223_4 hl223_4
                        replace p223 := eq_true p223
                        replace q223 := eq_true q223
                        have p224 : 0 ≤ ((rd t219 x25_2) : Int) := of_decide_eq_true (by first | (with_reducible assumption) | assumption)
                        have q224 : (rd t219 x25_2) < (l0_2.length : Int) := of_decide_eq_true (by first | (with_reducible assumption) | assumption)
                        obtain ⟨ad224, A224_4, c224_4, e224, hx224_0, hx224_1, hx224_2, hx224_3, hx224_4, hl224_4, hi224_4⟩ := at_T75 HR0_2.out (rd t219 x25_2) p224 q224
                        have hw224_4 := hx224_4
                        have hw224_3 := hx224_3
                        have hw224_2 := hx224_2
                        have hw224_1 := hx224_1
                        have hw224_0 := hx224_0
                        obtain rfl : ad223 = ad224 := (by injection e224)
                        replace hx224_0 := (HB.out.cell (World.block_lt_of_cell? w _ hx224_0)).trans hx224_0
                        replace hx224_1 := (HB.out.cell (World.block_lt_of_cell? w _ hx224_1)).trans hx224_1
                        replace hx224_2 := (HB.out.cell (World.block_lt_of_cell? w _ hx224_2)).trans hx224_2
                        replace hx224_3 := (HB.out.cell (World.block_lt_of_cell? w _ hx224_3)).trans hx224_3
                        replace hx224_4 := (HB.out.cell (World.block_lt_of_cell? w _ hx224_4)).trans hx224_4
                        have HR224_4 := Aside0.mk hi224_4
                        have HC224_4 := Aside0.mk hl224_4
                        clear hi224_4 hl224_4
                        replace p224 := eq_true p224
                        replace q224 := eq_true q224
                        have ea_ := Option.some.inj (hx223_4.symm.trans hx224_4)
                        injection ea_ with ea_ en_ ec_
                        subst ea_
                        subst ec_
                        clear en_
                        refine start_ (n := 17) (S := fun w' => w'.cell? ⟨gb218, 0, none⟩ = some (.int .i64 a0_0) ∧ w'.cell? ⟨gb218, 1, none⟩ = some (.slice A0_1 l0_1.length c0_1) ∧ w'.cell? ⟨gb218, 2, none⟩ = some (.slice (some ad223) l0_2.length c0_2) ∧ w'.cell? (ad223.add (((rd t219 x25_2)).toNat * 5)) = some (.string ((rd_T75 l0_2 (rd t219 x25_2)).f0)) ∧ w'.cell? ⟨(ad223.add (((rd t219 x25_2)).toNat * 5)).block, (ad223.add (((rd t219 x25_2)).toNat * 5)).off + 1, none⟩ = some (.int .i64 ((rd_T75 l0_2 (rd t219 x25_2)).f1)) ∧ w'.cell? ⟨(ad223.add (((rd t219 x25_2)).toNat * 5)).block, (ad223.add (((rd t219 x25_2)).toNat * 5)).off + 2, none⟩ = some (.int .i64 ((rd_T75 l0_2 (rd t219 x25_2)).f2)) ∧ w'.cell? ⟨(ad223.add (((rd t219 x25_2)).toNat * 5)).block, (ad223.add (((rd t219 x25_2)).toNat * 5)).off + 3, none⟩ = some (.int .i64 ((rd_T75 l0_2 (rd t219 x25_2)).f3)) ∧ w'.cell? ⟨(ad223.add (((rd t219 x25_2)).toNat * 5)).block, (ad223.add (((rd t219 x25_2)).toNat * 5)).off + 4, none⟩ = some (.slice A223_4 ((rd_T75 l0_2 (rd t219 x25_2)).f4).length c223_4) ∧ w'.cell? (ad223.add (((rd t219 x25_2)).toNat * 5)) = some (.string ((rd_T75 l0_2 (rd t219 x25_2)).f0)) ∧ w'.cell? ⟨(ad223.add (((rd t219 x25_2)).toNat * 5)).block, (ad223.add (((rd t219 x25_2)).toNat * 5)).off + 1, none⟩ = some (.int .i64 ((rd_T75 l0_2 (rd t219 x25_2)).f1)) ∧ w'.cell? ⟨(ad223.add (((rd t219 x25_2)).toNat * 5)).block, (ad223.add (((rd t219 x25_2)).toNat * 5)).off + 2, none⟩ = some (.int .i64 ((rd_T75 l0_2 (rd t219 x25_2)).f2)) ∧ w'.cell? ⟨(ad223.add (((rd t219 x25_2)).toNat * 5)).block, (ad223.add (((rd t219 x25_2)).toNat * 5)).off + 3, none⟩ = some (.int .i64 ((rd_T75 l0_2 (rd t219 x25_2)).f3)) ∧ w'.cell? ⟨(ad223.add (((rd t219 x25_2)).toNat * 5)).block, (ad223.add (((rd t219 x25_2)).toNat * 5)).off + 4, none⟩ = some (.slice A223_4 ((rd_T75 l0_2 (rd t219 x25_2)).f4).length c223_4)) (ds := []) #[false, false, false, false, false, false, false, false, false, false, false, false, false, false, false, false, false] (by kernel_rfl) rfl rfl ⟨(blk_cell BK218.out 0).trans rfl, (blk_cell BK218.out 1).trans rfl, (blk_cell BK218.out 2).trans rfl, ((HB.out.cell (World.block_lt_of_cell? w _ hw223_0)).trans hw223_0), ((HB.out.cell (World.block_lt_of_cell? w _ hw223_1)).trans hw223_1), ((HB.out.cell (World.block_lt_of_cell? w _ hw223_2)).trans hw223_2), ((HB.out.cell (World.block_lt_of_cell? w _ hw223_3)).trans hw223_3), ((HB.out.cell (World.block_lt_of_cell? w _ hw223_4)).trans hw223_4), ((HB.out.cell (World.block_lt_of_cell? w _ hw224_0)).trans hw224_0), ((HB.out.cell (World.block_lt_of_cell? w _ hw224_1)).trans hw224_1), ((HB.out.cell (World.block_lt_of_cell? w _ hw224_2)).trans hw224_2), ((HB.out.cell (World.block_lt_of_cell? w _ hw224_3)).trans hw224_3), ((HB.out.cell (World.block_lt_of_cell? w _ hw224_4)).trans hw224_4)⟩ (fun hHeld => ?_); refine with_tabW rta_Of.tab7 rta_Of.bits7 (fun HT_ HW_ => ?_)
                        generalize wr.drew = w19 at HO_6 HO_23 BK218 HB HR223_4 HR224_4 hx223_0 hx223_1 hx223_2 hx223_3 hx223_4 hx224_0 hx224_1 hx224_2 hx224_3 hx224_4 hHeld ⊢
                        refine pure_ (i := 0) (N := some 29) (v := ?_) (a' := ?_) #[true, false, false, false, false, false, false, false, false, false, false, false, false, false, false, false, false] rfl rfl (any_of HT_.out (by kernel_rfl)) (fun _ _ _ h => h) (Or.inl ⟨by rfl, ?_⟩) ?_ ?_
                        rotate_left
                        · intro w'
                          go_simp
                          with_reducible rfl
                        rotate_left
                        · simp only [Act.put, List.setIfInBounds_toArray, List.set_cons_zero, List.set_cons_succ, i64_w, i32_w]
                          rfl
                        refine pure_ (i := 1) (N := some 30) (v := ?_) (a' := ?_) #[true, true, false, false, false, false, false, false, false, false, false, false, false, false, false, false, false] rfl rfl (any_of HT_.out (by kernel_rfl)) (fun _ _ _ h => h) (Or.inl ⟨by rfl, ?_⟩) ?_ ?_
                        rotate_left
                        · intro w'
                          go_simp
                          with_reducible rfl
                        rotate_left
                        · simp only [Act.put, List.setIfInBounds_toArray, List.set_cons_zero, List.set_cons_succ, i64_w, i32_w]
                          rfl
                        refine pure_ (i := 3) (N := some 32) (v := ?_) (a' := ?_) #[true, true, false, true, false, false, false, false, false, false, false, false, false, false, false, false, false] rfl rfl (any_of HT_.out (by kernel_rfl)) (fun _ _ _ h => h) (Or.inl ⟨by rfl, ?_⟩) ?_ ?_
                        rotate_left
                        · intro w'
                          go_simp
                          with_reducible rfl
                        rotate_left
                        · simp only [Act.put, List.setIfInBounds_toArray, List.set_cons_zero, List.set_cons_succ, i64_w, i32_w]
                          rfl
                        refine pure_ (i := 7) (N := some 36) (v := ?_) (a' := ?_) #[true, true, false, true, false, false, false, true, false, false, false, false, false, false, false, false, false] rfl rfl (any_of HT_.out (by kernel_rfl)) (fun _ _ _ h => h) (Or.inl ⟨by rfl, ?_⟩) ?_ ?_
                        rotate_left
                        · intro w'
                          go_simp
                          with_reducible rfl
                        rotate_left
                        · simp only [Act.put, List.setIfInBounds_toArray, List.set_cons_zero, List.set_cons_succ, i64_w, i32_w]
                          rfl
                        refine pure_ (i := 9) (N := some 38) (v := ?_) (a' := ?_) #[true, true, false, true, false, false, false, true, false, true, false, false, false, false, false, false, false] rfl rfl (any_of HT_.out (by kernel_rfl)) (fun _ _ _ h => h) (Or.inl ⟨by rfl, ?_⟩) ?_ ?_
                        rotate_left
                        · intro w'
                          go_simp
                          with_reducible rfl
                        rotate_left
                        · simp only [Act.put, List.setIfInBounds_toArray, List.set_cons_zero, List.set_cons_succ, i64_w, i32_w]
                          rfl
                        refine take_ (i := 2) (N := some 31) (v := ?_) (a' := ?_) #[true, true, true, true, false, false, false, true, false, true, false, false, false, false, false, false, false] rfl rfl (take_ofW HT_.out HW_.out (by kernel_rfl)) (fun _ _ _ h => h) (Or.inl ⟨by rfl, ?_⟩) hHeld ?_ ?_
                        rotate_left
                        · rintro w' ⟨s0, s1, s2, s3, s4, s5, s6, s7, s8, s9, s10, s11, s12⟩
                          go_simp
                          with_reducible rfl
                        rotate_left
                        · simp only [Act.put, List.setIfInBounds_toArray, List.set_cons_zero, List.set_cons_succ, i64_w, i32_w]
                          rfl
                        refine pure_ (i := 4) (N := some 33) (v := ?_) (a' := ?_) #[true, true, true, true, true, false, false, true, false, true, false, false, false, false, false, false, false] rfl rfl (any_of HT_.out (by kernel_rfl)) (fun _ _ _ h => h) (Or.inl ⟨by rfl, ?_⟩) ?_ ?_
                        rotate_left
                        · intro w'
                          go_simp
                          with_reducible rfl
                        rotate_left
                        · simp only [Act.put, List.setIfInBounds_toArray, List.set_cons_zero, List.set_cons_succ, i64_w, i32_w]
                          rfl
                        refine pure_ (i := 5) (N := some 34) (v := ?_) (a' := ?_) #[true, true, true, true, true, true, false, true, false, true, false, false, false, false, false, false, false] rfl rfl (any_of HT_.out (by kernel_rfl)) (fun _ _ _ h => h) (Or.inl ⟨by rfl, ?_⟩) ?_ ?_
                        rotate_left
                        · intro w'
                          go_simp
                          with_reducible rfl
                        rotate_left
                        · simp only [Act.put, List.setIfInBounds_toArray, List.set_cons_zero, List.set_cons_succ, i64_w, i32_w]
                          rfl
                        refine take_ (i := 6) (N := some 35) (v := ?_) (a' := ?_) #[true, true, true, true, true, true, true, true, false, true, false, false, false, false, false, false, false] rfl rfl (take_ofW HT_.out HW_.out (by kernel_rfl)) (fun _ _ _ h => h) (Or.inl ⟨by rfl, ?_⟩) hHeld ?_ ?_
                        rotate_left
                        · rintro w' ⟨s0, s1, s2, s3, s4, s5, s6, s7, s8, s9, s10, s11, s12⟩
                          go_simp
                          with_reducible rfl
                        rotate_left
                        · simp only [Act.put, List.setIfInBounds_toArray, List.set_cons_zero, List.set_cons_succ, i64_w, i32_w]
                          rfl
                        refine take_ (i := 8) (N := some 37) (v := ?_) (a' := ?_) #[true, true, true, true, true, true, true, true, true, true, false, false, false, false, false, false, false] rfl rfl (take_ofW HT_.out HW_.out (by kernel_rfl)) (fun _ _ _ h => h) (Or.inl ⟨by rfl, ?_⟩) hHeld ?_ ?_
                        rotate_left
                        · rintro w' ⟨s0, s1, s2, s3, s4, s5, s6, s7, s8, s9, s10, s11, s12⟩
                          go_simp
                          with_reducible rfl
                        rotate_left
                        · simp only [Act.put, List.setIfInBounds_toArray, List.set_cons_zero, List.set_cons_succ, i64_w, i32_w]
                          rfl
                        refine pure_ (i := 10) (N := some 39) (v := ?_) (a' := ?_) #[true, true, true, true, true, true, true, true, true, true, true, false, false, false, false, false, false] rfl rfl (any_of HT_.out (by kernel_rfl)) (fun _ _ _ h => h) (Or.inl ⟨by rfl, ?_⟩) ?_ ?_
                        rotate_left
                        · intro w'
                          go_simp
                          with_reducible rfl
                        rotate_left
                        · simp only [Act.put, List.setIfInBounds_toArray, List.set_cons_zero, List.set_cons_succ, i64_w, i32_w]
                          rfl
                        refine take_ (i := 11) (N := some 40) (v := ?_) (a' := ?_) #[true, true, true, true, true, true, true, true, true, true, true, true, false, false, false, false, false] rfl rfl (take_ofW HT_.out HW_.out (by kernel_rfl)) (fun _ _ _ h => h) (Or.inl ⟨by rfl, ?_⟩) hHeld ?_ ?_
                        rotate_left
                        · rintro w' ⟨s0, s1, s2, s3, s4, s5, s6, s7, s8, s9, s10, s11, s12⟩
                          go_simp
                          with_reducible rfl
                        rotate_left
                        · simp only [Act.put, List.setIfInBounds_toArray, List.set_cons_zero, List.set_cons_succ, i64_w, i32_w]
                          rfl
                        refine one_ (i := 12) (N := some 41) #[true, true, true, true, true, true, true, true, true, true, true, true, true, false, false, false, false] rfl rfl (one_of HT_.out (by kernel_rfl)) (by decide) (fun K hK => ?_)
                        refine goes_ Try.func27 (by kernel_rfl) rfl #[.agg #[.string ((rd_T75 l0_2 (rd t219 x25_2)).f0), .int .i64 ((rd_T75 l0_2 (rd t219 x25_2)).f1), .int .i64 ((rd_T75 l0_2 (rd t219 x25_2)).f2), .int .i64 ((rd_T75 l0_2 (rd t219 x25_2)).f3), .slice A223_4 ((rd_T75 l0_2 (rd t219 x25_2)).f4).length c223_4]] (by rfl) rfl rfl (by (try simp only [List.map_toArray, List.map_cons, List.map_nil]); first | done | rfl | (simp only [List.length_drop, List.length_take]; rfl)) ?_
                        with_reducible refine (set_Need.calls k2 ((rd_T75 l0_2 (rd t219 x25_2)).f0) ((rd_T75 l0_2 (rd t219 x25_2)).f1) ((rd_T75 l0_2 (rd t219 x25_2)).f2) ((rd_T75 l0_2 (rd t219 x25_2)).f3) _ _ ((rd_T75 l0_2 (rd t219 x25_2)).f4) t225 _ ?side1 ?side2 A17.out).mono ?_
                        (case side1 => repeat (first | exact (Kd.C_below HR224_4.out HB.out) | (with_reducible refine Kd.C_alloc ?_ _) | (with_reducible refine Kd.C_drewN ?_ _) | (with_reducible refine Kd.C_drew ?_)))
                        (case side2 => exact HC224_4.out)
                        rintro e w20 ⟨rfl, hb⟩
                        refine ⟨_, rfl, ?_⟩
                        have n0_ := Aside0.mk (Kd.R_below (by (with_reducible repeat (first | apply Kd.R_alloc | apply Kd.R_drewN | apply Kd.R_drew)); exact HO_6.out) hb)
                        have n1_ := Aside0.mk (Kd.R_below (by (with_reducible repeat (first | apply Kd.R_alloc | apply Kd.R_drewN | apply Kd.R_drew)); exact HO_23.out) hb)
                        have n2_ := Aside0.mk (blk_below (g := gb218) (o := .cells #[.int .i64 a0_0, .slice A0_1 l0_1.length c0_1, .slice (some ad223) l0_2.length c0_2] 48 (0, 0)) (by (with_reducible repeat (first | refine blk_drewN ?_ _ | refine blk_drew ?_ | refine blk_alloc ?_ _)); exact BK218.out) hb)
                        have n3_ := Aside0.mk (below_step (by repeat (first | (with_reducible first | exact HB.out | apply below_alloc | apply pw_below_drewN | apply below_drew1 | refine below_set ?_ GE218.out) | exact HB.out)) hb)
                        clear HO_6
                        clear HO_23
                        clear BK218
                        clear HB
                        have HO_6 := n0_
                        have HO_23 := n1_
                        have BK218 := n2_
                        have HB := n3_
                        clear n0_ n1_ n2_ n3_
                        (try clear hb)
                        (try clear hb2)
                        (try clear hk)
                        (try clear hi)
                        refine hK.out _ _ ⟨(blk_cell BK218.out 0).trans rfl, (blk_cell BK218.out 1).trans rfl, (blk_cell BK218.out 2).trans rfl, ((HB.out.cell (World.block_lt_of_cell? w _ hw223_0)).trans hw223_0), ((HB.out.cell (World.block_lt_of_cell? w _ hw223_1)).trans hw223_1), ((HB.out.cell (World.block_lt_of_cell? w _ hw223_2)).trans hw223_2), ((HB.out.cell (World.block_lt_of_cell? w _ hw223_3)).trans hw223_3), ((HB.out.cell (World.block_lt_of_cell? w _ hw223_4)).trans hw223_4), ((HB.out.cell (World.block_lt_of_cell? w _ hw224_0)).trans hw224_0), ((HB.out.cell (World.block_lt_of_cell? w _ hw224_1)).trans hw224_1), ((HB.out.cell (World.block_lt_of_cell? w _ hw224_2)).trans hw224_2), ((HB.out.cell (World.block_lt_of_cell? w _ hw224_3)).trans hw224_3), ((HB.out.cell (World.block_lt_of_cell? w _ hw224_4)).trans hw224_4)⟩ (fun hHeld => ?_)
                        clear hK K
                        refine norm_ (a' := ?_) ?_ ?_
                        rotate_left
                        · show Act.put _ (some 41) _ = _
                          simp only [Act.put, List.setIfInBounds_toArray, List.set_cons_zero, List.set_cons_succ, i64_w, i32_w]
                          rfl
                        refine pure_ (i := 13) (N := some 42) (v := ?_) (a' := ?_) #[true, true, true, true, true, true, true, true, true, true, true, true, true, true, false, false, false] rfl rfl (any_of HT_.out (by kernel_rfl)) (fun _ _ _ h => h) (Or.inl ⟨by rfl, ?_⟩) ?_ ?_
                        rotate_left
                        · intro w'
                          go_simp
                          with_reducible rfl
                        rotate_left
                        · simp only [Act.put, List.setIfInBounds_toArray, List.set_cons_zero, List.set_cons_succ, i64_w, i32_w]
                          rfl
                        refine one_ (i := 14) (N := some 43) #[true, true, true, true, true, true, true, true, true, true, true, true, true, true, true, false, false] rfl rfl (one_of HT_.out (by kernel_rfl)) (by decide) (fun K hK => ?_)
                        refine value_ (w1 := ?_) (v := ?_) (by rfl) rfl ?_ ?_
                        rotate_left 2
                        · go_simp
                          constructor
                          · rfl
                          · rfl
                        refine hK.out _ _ ⟨(blk_cell (blk_alloc BK218.out _) 0).trans rfl, (blk_cell (blk_alloc BK218.out _) 1).trans rfl, (blk_cell (blk_alloc BK218.out _) 2).trans rfl, (World.cell?_alloc_lt _ _ _ (World.block_lt_of_cell? _ _ (((HB.out.cell (World.block_lt_of_cell? w _ hw223_0)).trans hw223_0)))).trans (((HB.out.cell (World.block_lt_of_cell? w _ hw223_0)).trans hw223_0)), (World.cell?_alloc_lt _ _ _ (World.block_lt_of_cell? _ _ (((HB.out.cell (World.block_lt_of_cell? w _ hw223_1)).trans hw223_1)))).trans (((HB.out.cell (World.block_lt_of_cell? w _ hw223_1)).trans hw223_1)), (World.cell?_alloc_lt _ _ _ (World.block_lt_of_cell? _ _ (((HB.out.cell (World.block_lt_of_cell? w _ hw223_2)).trans hw223_2)))).trans (((HB.out.cell (World.block_lt_of_cell? w _ hw223_2)).trans hw223_2)), (World.cell?_alloc_lt _ _ _ (World.block_lt_of_cell? _ _ (((HB.out.cell (World.block_lt_of_cell? w _ hw223_3)).trans hw223_3)))).trans (((HB.out.cell (World.block_lt_of_cell? w _ hw223_3)).trans hw223_3)), (World.cell?_alloc_lt _ _ _ (World.block_lt_of_cell? _ _ (((HB.out.cell (World.block_lt_of_cell? w _ hw223_4)).trans hw223_4)))).trans (((HB.out.cell (World.block_lt_of_cell? w _ hw223_4)).trans hw223_4)), (World.cell?_alloc_lt _ _ _ (World.block_lt_of_cell? _ _ (((HB.out.cell (World.block_lt_of_cell? w _ hw224_0)).trans hw224_0)))).trans (((HB.out.cell (World.block_lt_of_cell? w _ hw224_0)).trans hw224_0)), (World.cell?_alloc_lt _ _ _ (World.block_lt_of_cell? _ _ (((HB.out.cell (World.block_lt_of_cell? w _ hw224_1)).trans hw224_1)))).trans (((HB.out.cell (World.block_lt_of_cell? w _ hw224_1)).trans hw224_1)), (World.cell?_alloc_lt _ _ _ (World.block_lt_of_cell? _ _ (((HB.out.cell (World.block_lt_of_cell? w _ hw224_2)).trans hw224_2)))).trans (((HB.out.cell (World.block_lt_of_cell? w _ hw224_2)).trans hw224_2)), (World.cell?_alloc_lt _ _ _ (World.block_lt_of_cell? _ _ (((HB.out.cell (World.block_lt_of_cell? w _ hw224_3)).trans hw224_3)))).trans (((HB.out.cell (World.block_lt_of_cell? w _ hw224_3)).trans hw224_3)), (World.cell?_alloc_lt _ _ _ (World.block_lt_of_cell? _ _ (((HB.out.cell (World.block_lt_of_cell? w _ hw224_4)).trans hw224_4)))).trans (((HB.out.cell (World.block_lt_of_cell? w _ hw224_4)).trans hw224_4))⟩ (fun hHeld => ?_)
                        clear hK K
                        refine norm_ (a' := ?_) ?_ ?_
                        rotate_left
                        · show Act.put _ (some 43) _ = _
                          simp only [Act.put, List.setIfInBounds_toArray, List.set_cons_zero, List.set_cons_succ, i64_w, i32_w]
                          rfl
                        refine one_ (i := 15) (N := some 44) #[true, true, true, true, true, true, true, true, true, true, true, true, true, true, true, true, false] rfl rfl (one_of HT_.out (by kernel_rfl)) (by decide) (fun K hK => ?_)
                        refine Kd.R_append_step k58 (w0 := w) w.heap.size (by rfl) (.tmp 29) (.tmp 43) 22 58 (.agg #[(.int .i64 0), (.int .i64 0)]) 16 rfl Try.underlying22 info58 rfl (by decide) (by omega) u6 x6_2 (⟨(rd_T75 l0_2 (rd t219 x25_2)).f1, t225⟩ : S58) [.int .i64 ((rd_T75 l0_2 (rd t219 x25_2)).f1), .int .i64 t225] (fun _ => True) (fun _ => False) rfl rfl ?aP (fun _ hk => hk.elim) ?aF ?aO ?aB ?aS ?aL ?_
                        (case aP => exact k58_mkM _ _ _ (⟨(rd_T75 l0_2 (rd t219 x25_2)).f1, t225⟩ : S58))
                        (case aB => exact (by repeat (first | (with_reducible first | exact HB.out | apply below_alloc | apply pw_below_drewN | apply below_drew1 | refine below_set ?_ GE218.out) | exact HB.out)))
                        (case aF => exact (fun _ _ => trivial))
                        (case aO => exact (by (with_reducible repeat (first | apply Kd.R_alloc | apply Kd.R_drewN | apply Kd.R_drew)); exact HO_6.out))
                        (case aS => exact (below_size (by repeat (first | (with_reducible first | exact HB.out | apply below_alloc | apply pw_below_drewN | apply below_drew1 | refine below_set ?_ GE218.out) | exact HB.out))))
                        (case aL => have := LMc18.out; omega)
                        intro v227 w21 ho hb hg hat
                        rw [← Ny226.out] at ho
                        have n0_ := Aside0.mk (Kd.R_over' (by (with_reducible repeat (first | apply Kd.R_alloc | apply Kd.R_drewN | apply Kd.R_drew)); exact HO_23.out) (Kd.R_typed (by (with_reducible repeat (first | apply Kd.R_alloc | apply Kd.R_drewN | apply Kd.R_drew)); exact HO_6.out)) (by decide) hg)
                        have n1_ := Aside0.mk (blk_grown (g := gb218) (o := .cells #[.int .i64 a0_0, .slice A0_1 l0_1.length c0_1, .slice (some ad223) l0_2.length c0_2] 48 (0, 0)) (by (with_reducible repeat (first | refine blk_drewN ?_ _ | refine blk_drew ?_ | refine blk_alloc ?_ _)); exact BK218.out) hg (Kd.R_ne HO_6.out BK218.out (by decide)))
                        have n2_ := Aside0.mk (hb)
                        have n3_ := Aside0.mk (ho)
                        clear HO_23
                        clear BK218
                        clear HB
                        clear HO_6
                        have HO_23 := n0_
                        have BK218 := n1_
                        have HB := n2_
                        have HO228 := n3_
                        clear n0_ n1_ n2_ n3_
                        clear ho hb hg hat
                        refine hK.out _ _ ⟨(blk_cell BK218.out 0).trans rfl, (blk_cell BK218.out 1).trans rfl, (blk_cell BK218.out 2).trans rfl, ((HB.out.cell (World.block_lt_of_cell? w _ hw223_0)).trans hw223_0), ((HB.out.cell (World.block_lt_of_cell? w _ hw223_1)).trans hw223_1), ((HB.out.cell (World.block_lt_of_cell? w _ hw223_2)).trans hw223_2), ((HB.out.cell (World.block_lt_of_cell? w _ hw223_3)).trans hw223_3), ((HB.out.cell (World.block_lt_of_cell? w _ hw223_4)).trans hw223_4), ((HB.out.cell (World.block_lt_of_cell? w _ hw224_0)).trans hw224_0), ((HB.out.cell (World.block_lt_of_cell? w _ hw224_1)).trans hw224_1), ((HB.out.cell (World.block_lt_of_cell? w _ hw224_2)).trans hw224_2), ((HB.out.cell (World.block_lt_of_cell? w _ hw224_3)).trans hw224_3), ((HB.out.cell (World.block_lt_of_cell? w _ hw224_4)).trans hw224_4)⟩ (fun hHeld => ?_)
                        clear hK K
                        refine norm_ (a' := ?_) ?_ ?_
                        rotate_left
                        · show Act.put _ (some 44) _ = _
                          simp only [Act.put, List.setIfInBounds_toArray, List.set_cons_zero, List.set_cons_succ, i64_w, i32_w]
                          rfl
                        refine pure_ (i := 16) (N := some 6) (v := ?_) (a' := ?_) #[true, true, true, true, true, true, true, true, true, true, true, true, true, true, true, true, true] rfl rfl (any_of HT_.out (by kernel_rfl)) (fun _ _ _ h => h) (Or.inl ⟨by rfl, ?_⟩) ?_ ?_
                        rotate_left
                        · intro w'
                          go_simp
                          with_reducible rfl
                        rotate_left
                        · simp only [Act.put, List.setIfInBounds_toArray, List.set_cons_zero, List.set_cons_succ, i64_w, i32_w]
                          rfl
                        refine done_ (done_of HT_.out (by kernel_rfl)) ?_
                        try go_wp2
                        go_roundg k2
                        case measure => have := HJ2.out; have := HK2.out; omega
                        case rel => exact ⟨(y226), (wrap64 (x25_2 + 1)), (by first | rfl | (simp; done) | (simp [*]; done) | (simp [Int.tdiv_eq_ediv_of_nonneg]; done)), H', ⟨by have := HJ2.out; have := HK2.out; omega⟩, ⟨by (with_reducible repeat (first | apply Kd.R_alloc | apply Kd.R_drewN | apply Kd.R_drew)); exact HO228.out⟩, ⟨by (with_reducible repeat (first | apply Kd.R_alloc | apply Kd.R_drewN | apply Kd.R_drew)); exact HO_23.out⟩, ⟨by (with_reducible repeat (first | refine blk_drewN ?_ _ | refine blk_drew ?_ | refine blk_alloc ?_ _)); exact BK218.out⟩, ⟨by repeat (first | (with_reducible first | exact HB.out | apply below_alloc | apply pw_below_drewN | apply below_drew1 | refine below_set ?_ GE218.out) | exact HB.out)⟩⟩
                      · rw [if_neg c18] at H
                        exact absurd H (by simp)
                    · rw [if_neg c16] at H
                      exact absurd H (by simp)
                  · rw [if_neg c15] at H
                    exact absurd H (by simp)
                · rw [if_neg c14] at H
                  exact absurd H (by simp)
              · rw [if_neg c13] at H
                exact absurd H (by simp)
            · rw [if_neg c12] at H
              have c12b0 : decide (x25_2 < (t219.length : Int)) = false := decide_eq_false c12
              clear c12
              by_cases c22 : 0 ≤ a1
              · rw [if_pos c22] at H
                have c22b0 : decide (0 ≤ a1) = true := decide_eq_true c22
                clear c22
                by_cases c23 : a1 < (l0_2.length : Int)
                · rw [if_pos c23] at H
                  have c23b0 : decide (a1 < (l0_2.length : Int)) = true := decide_eq_true c23
                  clear c23
                  replace H := Option.bind_eq_some_iff.mp H
                  obtain ⟨t230, A240, H⟩ := H
                  replace H : ((block_Of.f k2 a0_0 l0_1 l0_2).bind fun t231 => (if a1 < (t231.length : Int) then ((rta_Fix.f k2 (wrap64 (t230 + (rd t231 a1))) x6_2 ((rd_T75 l0_2 a1).f2)).bind fun bt236 => (some (bt236.1, bt236.2.2))) else (none))) = some (r1, r2) := H
                  have A24 := Aside0.mk A240
                  clear A240
                  replace H := Option.bind_eq_some_iff.mp H
                  obtain ⟨t231, A250, H⟩ := H
                  replace H : (if a1 < (t231.length : Int) then ((rta_Fix.f k2 (wrap64 (t230 + (rd t231 a1))) x6_2 ((rd_T75 l0_2 a1).f2)).bind fun bt236 => (some (bt236.1, bt236.2.2))) else (none)) = some (r1, r2) := H
                  have A25 := Aside0.mk A250
                  clear A250
                  by_cases c26 : a1 < (t231.length : Int)
                  · rw [if_pos c26] at H
                    have c26b0 : decide (a1 < (t231.length : Int)) = true := decide_eq_true c26
                    clear c26
                    replace H := Option.bind_eq_some_iff.mp H
                    obtain ⟨⟨t236, t237, t238⟩, A270, H⟩ := H
                    replace H : (some (t236, t238)) = some (r1, r2) := H
                    have A27 := Aside0.mk A270
                    clear A270
                    simp only [Option.some.injEq, Prod.mk.injEq] at H
                    obtain ⟨rfl, rfl⟩ := H
                    try go_wp2
                    have n0_ := Aside0.mk (Kd.R_drew HO_6.out)
                    have n1_ := Aside0.mk (Kd.R_drew HO_23.out)
                    have n2_ := Aside0.mk (blk_drew BK218.out)
                    have n3_ := Aside0.mk (below_drew1 HB.out)
                    clear HO_6
                    clear HO_23
                    clear BK218
                    clear HB
                    have HO_6 := n0_
                    have HO_23 := n1_
                    have BK218 := n2_
                    have HB := n3_
                    clear n0_ n1_ n2_ n3_
                    have p229 : 0 ≤ (a1 : Int) := of_decide_eq_true (by first | (with_reducible assumption) | assumption)
                    have q229 : a1 < (l0_2.length : Int) := of_decide_eq_true (by first | (with_reducible assumption) | assumption)
                    obtain ⟨ad229, A229_4, c229_4, e229, hx229_0, hx229_1, hx229_2, hx229_3, hx229_4, hl229_4, hi229_4⟩ := at_T75 HR0_2.out a1 p229 q229
                    have hw229_4 := hx229_4
                    have hw229_3 := hx229_3
                    have hw229_2 := hx229_2
                    have hw229_1 := hx229_1
                    have hw229_0 := hx229_0
                    cases e229
                    replace hx229_0 := (HB.out.cell (World.block_lt_of_cell? w _ hx229_0)).trans hx229_0
                    replace hx229_1 := (HB.out.cell (World.block_lt_of_cell? w _ hx229_1)).trans hx229_1
                    replace hx229_2 := (HB.out.cell (World.block_lt_of_cell? w _ hx229_2)).trans hx229_2
                    replace hx229_3 := (HB.out.cell (World.block_lt_of_cell? w _ hx229_3)).trans hx229_3
                    replace hx229_4 := (HB.out.cell (World.block_lt_of_cell? w _ hx229_4)).trans hx229_4
                    have HR229_4 := Aside0.mk hi229_4
                    have HC229_4 := Aside0.mk hl229_4
                    clear hi229_4 hl229_4
                    replace p229 := eq_true p229
                    replace q229 := eq_true q229
                    have p235 : 0 ≤ (a1 : Int) := of_decide_eq_true (by first | (with_reducible assumption) | assumption)
                    have q235 : a1 < (l0_2.length : Int) := of_decide_eq_true (by first | (with_reducible assumption) | assumption)
                    obtain ⟨ad235, A235_4, c235_4, e235, hx235_0, hx235_1, hx235_2, hx235_3, hx235_4, hl235_4, hi235_4⟩ := at_T75 HR0_2.out a1 p235 q235
                    have hw235_4 := hx235_4
                    have hw235_3 := hx235_3
                    have hw235_2 := hx235_2
                    have hw235_1 := hx235_1
                    have hw235_0 := hx235_0
                    obtain rfl : ad229 = ad235 := (by injection e235)
                    replace hx235_0 := (HB.out.cell (World.block_lt_of_cell? w _ hx235_0)).trans hx235_0
                    replace hx235_1 := (HB.out.cell (World.block_lt_of_cell? w _ hx235_1)).trans hx235_1
                    replace hx235_2 := (HB.out.cell (World.block_lt_of_cell? w _ hx235_2)).trans hx235_2
                    replace hx235_3 := (HB.out.cell (World.block_lt_of_cell? w _ hx235_3)).trans hx235_3
                    replace hx235_4 := (HB.out.cell (World.block_lt_of_cell? w _ hx235_4)).trans hx235_4
                    have HR235_4 := Aside0.mk hi235_4
                    have HC235_4 := Aside0.mk hl235_4
                    clear hi235_4 hl235_4
                    replace p235 := eq_true p235
                    replace q235 := eq_true q235
                    have ea_ := Option.some.inj (hx229_4.symm.trans hx235_4)
                    injection ea_ with ea_ en_ ec_
                    subst ea_
                    subst ec_
                    clear en_
                    refine start_ (n := 27) (S := fun w' => w'.cell? ⟨gb218, 0, none⟩ = some (.int .i64 a0_0) ∧ w'.cell? ⟨gb218, 1, none⟩ = some (.slice A0_1 l0_1.length c0_1) ∧ w'.cell? ⟨gb218, 2, none⟩ = some (.slice (some ad229) l0_2.length c0_2) ∧ w'.cell? (ad229.add ((a1).toNat * 5)) = some (.string ((rd_T75 l0_2 a1).f0)) ∧ w'.cell? ⟨(ad229.add ((a1).toNat * 5)).block, (ad229.add ((a1).toNat * 5)).off + 1, none⟩ = some (.int .i64 ((rd_T75 l0_2 a1).f1)) ∧ w'.cell? ⟨(ad229.add ((a1).toNat * 5)).block, (ad229.add ((a1).toNat * 5)).off + 2, none⟩ = some (.int .i64 ((rd_T75 l0_2 a1).f2)) ∧ w'.cell? ⟨(ad229.add ((a1).toNat * 5)).block, (ad229.add ((a1).toNat * 5)).off + 3, none⟩ = some (.int .i64 ((rd_T75 l0_2 a1).f3)) ∧ w'.cell? ⟨(ad229.add ((a1).toNat * 5)).block, (ad229.add ((a1).toNat * 5)).off + 4, none⟩ = some (.slice A229_4 ((rd_T75 l0_2 a1).f4).length c229_4) ∧ w'.cell? (ad229.add ((a1).toNat * 5)) = some (.string ((rd_T75 l0_2 a1).f0)) ∧ w'.cell? ⟨(ad229.add ((a1).toNat * 5)).block, (ad229.add ((a1).toNat * 5)).off + 1, none⟩ = some (.int .i64 ((rd_T75 l0_2 a1).f1)) ∧ w'.cell? ⟨(ad229.add ((a1).toNat * 5)).block, (ad229.add ((a1).toNat * 5)).off + 2, none⟩ = some (.int .i64 ((rd_T75 l0_2 a1).f2)) ∧ w'.cell? ⟨(ad229.add ((a1).toNat * 5)).block, (ad229.add ((a1).toNat * 5)).off + 3, none⟩ = some (.int .i64 ((rd_T75 l0_2 a1).f3)) ∧ w'.cell? ⟨(ad229.add ((a1).toNat * 5)).block, (ad229.add ((a1).toNat * 5)).off + 4, none⟩ = some (.slice A229_4 ((rd_T75 l0_2 a1).f4).length c229_4) ∧ True) (ds := []) #[false, false, false, false, false, false, false, false, false, false, false, false, false, false, false, false, false, false, false, false, false, false, false, false, false, false, false] (by kernel_rfl) rfl rfl ⟨(blk_cell BK218.out 0).trans rfl, (blk_cell BK218.out 1).trans rfl, (blk_cell BK218.out 2).trans rfl, ((HB.out.cell (World.block_lt_of_cell? w _ hw229_0)).trans hw229_0), ((HB.out.cell (World.block_lt_of_cell? w _ hw229_1)).trans hw229_1), ((HB.out.cell (World.block_lt_of_cell? w _ hw229_2)).trans hw229_2), ((HB.out.cell (World.block_lt_of_cell? w _ hw229_3)).trans hw229_3), ((HB.out.cell (World.block_lt_of_cell? w _ hw229_4)).trans hw229_4), ((HB.out.cell (World.block_lt_of_cell? w _ hw235_0)).trans hw235_0), ((HB.out.cell (World.block_lt_of_cell? w _ hw235_1)).trans hw235_1), ((HB.out.cell (World.block_lt_of_cell? w _ hw235_2)).trans hw235_2), ((HB.out.cell (World.block_lt_of_cell? w _ hw235_3)).trans hw235_3), ((HB.out.cell (World.block_lt_of_cell? w _ hw235_4)).trans hw235_4), trivial⟩ (fun hHeld => ?_); refine with_tabW rta_Of.tab9 rta_Of.bits9 (fun HT_ HW_ => ?_)
                    generalize wr.drew = w28 at HO_6 HO_23 BK218 HB HR229_4 HR235_4 hx229_0 hx229_1 hx229_2 hx229_3 hx229_4 hx235_0 hx235_1 hx235_2 hx235_3 hx235_4 hHeld ⊢
                    refine pure_ (i := 0) (N := some 47) (v := ?_) (a' := ?_) #[true, false, false, false, false, false, false, false, false, false, false, false, false, false, false, false, false, false, false, false, false, false, false, false, false, false, false] rfl rfl (any_of HT_.out (by kernel_rfl)) (fun _ _ _ h => h) (Or.inl ⟨by rfl, ?_⟩) ?_ ?_
                    rotate_left
                    · intro w'
                      go_simp
                      with_reducible rfl
                    rotate_left
                    · simp only [Act.put, List.setIfInBounds_toArray, List.set_cons_zero, List.set_cons_succ, i64_w, i32_w]
                      rfl
                    refine pure_ (i := 2) (N := some 49) (v := ?_) (a' := ?_) #[true, false, true, false, false, false, false, false, false, false, false, false, false, false, false, false, false, false, false, false, false, false, false, false, false, false, false] rfl rfl (any_of HT_.out (by kernel_rfl)) (fun _ _ _ h => h) (Or.inl ⟨by rfl, ?_⟩) ?_ ?_
                    rotate_left
                    · intro w'
                      go_simp
                      with_reducible rfl
                    rotate_left
                    · simp only [Act.put, List.setIfInBounds_toArray, List.set_cons_zero, List.set_cons_succ, i64_w, i32_w]
                      rfl
                    refine pure_ (i := 8) (N := some 55) (v := ?_) (a' := ?_) #[true, false, true, false, false, false, false, false, true, false, false, false, false, false, false, false, false, false, false, false, false, false, false, false, false, false, false] rfl rfl (any_of HT_.out (by kernel_rfl)) (fun _ _ _ h => h) (Or.inl ⟨by rfl, ?_⟩) ?_ ?_
                    rotate_left
                    · intro w'
                      go_simp
                      with_reducible rfl
                    rotate_left
                    · simp only [Act.put, List.setIfInBounds_toArray, List.set_cons_zero, List.set_cons_succ, i64_w, i32_w]
                      rfl
                    refine pure_ (i := 12) (N := some 59) (v := ?_) (a' := ?_) #[true, false, true, false, false, false, false, false, true, false, false, false, true, false, false, false, false, false, false, false, false, false, false, false, false, false, false] rfl rfl (any_of HT_.out (by kernel_rfl)) (fun _ _ _ h => h) (Or.inl ⟨by rfl, ?_⟩) ?_ ?_
                    rotate_left
                    · intro w'
                      go_simp
                      with_reducible rfl
                    rotate_left
                    · simp only [Act.put, List.setIfInBounds_toArray, List.set_cons_zero, List.set_cons_succ, i64_w, i32_w]
                      rfl
                    refine pure_ (i := 13) (N := some 60) (v := ?_) (a' := ?_) #[true, false, true, false, false, false, false, false, true, false, false, false, true, true, false, false, false, false, false, false, false, false, false, false, false, false, false] rfl rfl (any_of HT_.out (by kernel_rfl)) (fun _ _ _ h => h) (Or.inl ⟨by rfl, ?_⟩) ?_ ?_
                    rotate_left
                    · intro w'
                      go_simp
                      with_reducible rfl
                    rotate_left
                    · simp only [Act.put, List.setIfInBounds_toArray, List.set_cons_zero, List.set_cons_succ, i64_w, i32_w]
                      rfl
                    refine pure_ (i := 15) (N := some 62) (v := ?_) (a' := ?_) #[true, false, true, false, false, false, false, false, true, false, false, false, true, true, false, true, false, false, false, false, false, false, false, false, false, false, false] rfl rfl (any_of HT_.out (by kernel_rfl)) (fun _ _ _ h => h) (Or.inl ⟨by rfl, ?_⟩) ?_ ?_
                    rotate_left
                    · intro w'
                      go_simp
                      with_reducible rfl
                    rotate_left
                    · simp only [Act.put, List.setIfInBounds_toArray, List.set_cons_zero, List.set_cons_succ, i64_w, i32_w]
                      rfl
                    refine take_ (i := 1) (N := some 48) (v := ?_) (a' := ?_) #[true, true, true, false, false, false, false, false, true, false, false, false, true, true, false, true, false, false, false, false, false, false, false, false, false, false, false] rfl rfl (take_ofW HT_.out HW_.out (by kernel_rfl)) (fun _ _ _ h => h) (Or.inl ⟨by rfl, ?_⟩) hHeld ?_ ?_
                    rotate_left
                    · rintro w' ⟨s0, s1, s2, s3, s4, s5, s6, s7, s8, s9, s10, s11, s12, s13⟩
                      go_simp
                      with_reducible rfl
                    rotate_left
                    · simp only [Act.put, List.setIfInBounds_toArray, List.set_cons_zero, List.set_cons_succ, i64_w, i32_w]
                      rfl
                    refine pure_ (i := 3) (N := some 50) (v := ?_) (a' := ?_) #[true, true, true, true, false, false, false, false, true, false, false, false, true, true, false, true, false, false, false, false, false, false, false, false, false, false, false] rfl rfl (any_of HT_.out (by kernel_rfl)) (fun _ _ _ h => h) (Or.inl ⟨by rfl, ?_⟩) ?_ ?_
                    rotate_left
                    · intro w'
                      go_simp
                      with_reducible rfl
                    rotate_left
                    · simp only [Act.put, List.setIfInBounds_toArray, List.set_cons_zero, List.set_cons_succ, i64_w, i32_w]
                      rfl
                    refine take_ (i := 4) (N := some 51) (v := ?_) (a' := ?_) #[true, true, true, true, true, false, false, false, true, false, false, false, true, true, false, true, false, false, false, false, false, false, false, false, false, false, false] rfl rfl (take_ofW HT_.out HW_.out (by kernel_rfl)) (fun _ _ _ h => h) (Or.inl ⟨by rfl, ?_⟩) hHeld ?_ ?_
                    rotate_left
                    · rintro w' ⟨s0, s1, s2, s3, s4, s5, s6, s7, s8, s9, s10, s11, s12, s13⟩
                      go_simp
                      with_reducible rfl
                    rotate_left
                    · simp only [Act.put, List.setIfInBounds_toArray, List.set_cons_zero, List.set_cons_succ, i64_w, i32_w]
                      rfl
                    refine take_ (i := 6) (N := some 53) (v := ?_) (a' := ?_) #[true, true, true, true, true, false, true, false, true, false, false, false, true, true, false, true, false, false, false, false, false, false, false, false, false, false, false] rfl rfl (take_ofW HT_.out HW_.out (by kernel_rfl)) (fun _ _ _ h => h) (Or.inl ⟨by rfl, ?_⟩) hHeld ?_ ?_
                    rotate_left
                    · rintro w' ⟨s0, s1, s2, s3, s4, s5, s6, s7, s8, s9, s10, s11, s12, s13⟩
                      go_simp
                      with_reducible rfl
                    rotate_left
                    · simp only [Act.put, List.setIfInBounds_toArray, List.set_cons_zero, List.set_cons_succ, i64_w, i32_w]
                      rfl
                    refine take_ (i := 14) (N := some 61) (v := ?_) (a' := ?_) #[true, true, true, true, true, false, true, false, true, false, false, false, true, true, true, true, false, false, false, false, false, false, false, false, false, false, false] rfl rfl (take_ofW HT_.out HW_.out (by kernel_rfl)) (fun _ _ _ h => h) (Or.inl ⟨by rfl, ?_⟩) hHeld ?_ ?_
                    rotate_left
                    · rintro w' ⟨s0, s1, s2, s3, s4, s5, s6, s7, s8, s9, s10, s11, s12, s13⟩
                      go_simp
                      with_reducible rfl
                    rotate_left
                    · simp only [Act.put, List.setIfInBounds_toArray, List.set_cons_zero, List.set_cons_succ, i64_w, i32_w]
                      rfl
                    refine pure_ (i := 16) (N := some 63) (v := ?_) (a' := ?_) #[true, true, true, true, true, false, true, false, true, false, false, false, true, true, true, true, true, false, false, false, false, false, false, false, false, false, false] rfl rfl (any_of HT_.out (by kernel_rfl)) (fun _ _ _ h => h) (Or.inl ⟨by rfl, ?_⟩) ?_ ?_
                    rotate_left
                    · intro w'
                      go_simp
                      with_reducible rfl
                    rotate_left
                    · simp only [Act.put, List.setIfInBounds_toArray, List.set_cons_zero, List.set_cons_succ, i64_w, i32_w]
                      rfl
                    refine pure_ (i := 17) (N := some 64) (v := ?_) (a' := ?_) #[true, true, true, true, true, false, true, false, true, false, false, false, true, true, true, true, true, true, false, false, false, false, false, false, false, false, false] rfl rfl (any_of HT_.out (by kernel_rfl)) (fun _ _ _ h => h) (Or.inl ⟨by rfl, ?_⟩) ?_ ?_
                    rotate_left
                    · intro w'
                      go_simp
                      with_reducible rfl
                    rotate_left
                    · simp only [Act.put, List.setIfInBounds_toArray, List.set_cons_zero, List.set_cons_succ, i64_w, i32_w]
                      rfl
                    refine take_ (i := 18) (N := some 65) (v := ?_) (a' := ?_) #[true, true, true, true, true, false, true, false, true, false, false, false, true, true, true, true, true, true, true, false, false, false, false, false, false, false, false] rfl rfl (take_ofW HT_.out HW_.out (by kernel_rfl)) (fun _ _ _ h => h) (Or.inl ⟨by rfl, ?_⟩) hHeld ?_ ?_
                    rotate_left
                    · rintro w' ⟨s0, s1, s2, s3, s4, s5, s6, s7, s8, s9, s10, s11, s12, s13⟩
                      go_simp
                      with_reducible rfl
                    rotate_left
                    · simp only [Act.put, List.setIfInBounds_toArray, List.set_cons_zero, List.set_cons_succ, i64_w, i32_w]
                      rfl
                    refine one_ (i := 5) (N := some 52) #[true, true, true, true, true, true, true, false, true, false, false, false, true, true, true, true, true, true, true, false, false, false, false, false, false, false, false] rfl rfl (one_of HT_.out (by kernel_rfl)) (by decide) (fun K hK => ?_)
                    refine goes_ Try.func27 (by kernel_rfl) rfl #[.agg #[.string ((rd_T75 l0_2 a1).f0), .int .i64 ((rd_T75 l0_2 a1).f1), .int .i64 ((rd_T75 l0_2 a1).f2), .int .i64 ((rd_T75 l0_2 a1).f3), .slice A229_4 ((rd_T75 l0_2 a1).f4).length c229_4]] (by rfl) rfl rfl (by (try simp only [List.map_toArray, List.map_cons, List.map_nil]); first | done | rfl | (simp only [List.length_drop, List.length_take]; rfl)) ?_
                    with_reducible refine (set_Need.calls k2 ((rd_T75 l0_2 a1).f0) ((rd_T75 l0_2 a1).f1) ((rd_T75 l0_2 a1).f2) ((rd_T75 l0_2 a1).f3) _ _ ((rd_T75 l0_2 a1).f4) t230 _ ?side1 ?side2 A24.out).mono ?_
                    (case side1 => repeat (first | exact (Kd.C_below HR229_4.out HB.out) | (with_reducible refine Kd.C_alloc ?_ _) | (with_reducible refine Kd.C_drewN ?_ _) | (with_reducible refine Kd.C_drew ?_)))
                    (case side2 => exact HC229_4.out)
                    rintro e w29 ⟨rfl, hb⟩
                    have HS13_ := trivial
                    refine ⟨_, rfl, ?_⟩
                    have n0_ := Aside0.mk (Kd.R_below (by (with_reducible repeat (first | apply Kd.R_alloc | apply Kd.R_drewN | apply Kd.R_drew)); exact HO_6.out) hb)
                    have n1_ := Aside0.mk (Kd.R_below (by (with_reducible repeat (first | apply Kd.R_alloc | apply Kd.R_drewN | apply Kd.R_drew)); exact HO_23.out) hb)
                    have n2_ := Aside0.mk (blk_below (g := gb218) (o := .cells #[.int .i64 a0_0, .slice A0_1 l0_1.length c0_1, .slice (some ad229) l0_2.length c0_2] 48 (0, 0)) (by (with_reducible repeat (first | refine blk_drewN ?_ _ | refine blk_drew ?_ | refine blk_alloc ?_ _)); exact BK218.out) hb)
                    have n3_ := Aside0.mk (below_step (by repeat (first | (with_reducible first | exact HB.out | apply below_alloc | apply pw_below_drewN | apply below_drew1 | refine below_set ?_ GE218.out) | exact HB.out)) hb)
                    clear HO_6
                    clear HO_23
                    clear BK218
                    clear HB
                    have HO_6 := n0_
                    have HO_23 := n1_
                    have BK218 := n2_
                    have HB := n3_
                    clear n0_ n1_ n2_ n3_
                    (try clear hb)
                    (try clear hb2)
                    (try clear hk)
                    (try clear hi)
                    refine hK.out _ _ ⟨(blk_cell BK218.out 0).trans rfl, (blk_cell BK218.out 1).trans rfl, (blk_cell BK218.out 2).trans rfl, ((HB.out.cell (World.block_lt_of_cell? w _ hw229_0)).trans hw229_0), ((HB.out.cell (World.block_lt_of_cell? w _ hw229_1)).trans hw229_1), ((HB.out.cell (World.block_lt_of_cell? w _ hw229_2)).trans hw229_2), ((HB.out.cell (World.block_lt_of_cell? w _ hw229_3)).trans hw229_3), ((HB.out.cell (World.block_lt_of_cell? w _ hw229_4)).trans hw229_4), ((HB.out.cell (World.block_lt_of_cell? w _ hw235_0)).trans hw235_0), ((HB.out.cell (World.block_lt_of_cell? w _ hw235_1)).trans hw235_1), ((HB.out.cell (World.block_lt_of_cell? w _ hw235_2)).trans hw235_2), ((HB.out.cell (World.block_lt_of_cell? w _ hw235_3)).trans hw235_3), ((HB.out.cell (World.block_lt_of_cell? w _ hw235_4)).trans hw235_4), HS13_⟩ (fun hHeld => ?_)
                    clear hK K
                    refine norm_ (a' := ?_) ?_ ?_
                    rotate_left
                    · show Act.put _ (some 52) _ = _
                      simp only [Act.put, List.setIfInBounds_toArray, List.set_cons_zero, List.set_cons_succ, i64_w, i32_w]
                      rfl
                    refine one_ (i := 7) (N := some 54) #[true, true, true, true, true, true, true, true, true, false, false, false, true, true, true, true, true, true, true, false, false, false, false, false, false, false, false] rfl rfl (one_of HT_.out (by kernel_rfl)) (by decide) (fun K hK => ?_)
                    refine goes_ Try.func28 (by kernel_rfl) rfl #[.agg #[.int .i64 a0_0, .slice A0_1 l0_1.length c0_1, .slice (some ad229) l0_2.length c0_2]] (by rfl) rfl rfl (by (try simp only [List.map_toArray, List.map_cons, List.map_nil]); first | done | rfl | (simp only [List.length_drop, List.length_take]; rfl)) ?_
                    with_reducible refine (block_Of.calls k2 a0_0 _ _ l0_1 _ _ l0_2 t231 _ ?side1 ?side2 ?side3 ?side4 A25.out).mono ?_
                    (case side1 => repeat (first | exact (Kd.C_below HR0_1.out HB.out) | (with_reducible refine Kd.C_alloc ?_ _) | (with_reducible refine Kd.C_drewN ?_ _) | (with_reducible refine Kd.C_drew ?_)))
                    (case side2 => exact HC0_1.out)
                    (case side3 => repeat (first | exact (Kd.C_below HR0_2.out HB.out) | (with_reducible refine Kd.C_alloc ?_ _) | (with_reducible refine Kd.C_drewN ?_ _) | (with_reducible refine Kd.C_drew ?_)))
                    (case side4 => exact HC0_2.out)
                    rintro e w30 ⟨v232, rfl, ho0, hb⟩
                    have HS13_ := trivial
                    refine ⟨_, rfl, ?_⟩
                    have n0_ := Aside0.mk (Kd.R_below (by (with_reducible repeat (first | apply Kd.R_alloc | apply Kd.R_drewN | apply Kd.R_drew)); exact HO_6.out) hb)
                    have n1_ := Aside0.mk (Kd.R_below (by (with_reducible repeat (first | apply Kd.R_alloc | apply Kd.R_drewN | apply Kd.R_drew)); exact HO_23.out) hb)
                    have n2_ := Aside0.mk (Kd.R_lower ho0 (below_size (by repeat (first | (with_reducible first | exact HB.out | apply below_alloc | apply pw_below_drewN | apply below_drew1 | refine below_set ?_ GE218.out) | exact HB.out))))
                    have n3_ := Aside0.mk (blk_below (g := gb218) (o := .cells #[.int .i64 a0_0, .slice A0_1 l0_1.length c0_1, .slice (some ad229) l0_2.length c0_2] 48 (0, 0)) (by (with_reducible repeat (first | refine blk_drewN ?_ _ | refine blk_drew ?_ | refine blk_alloc ?_ _)); exact BK218.out) hb)
                    have n4_ := Aside0.mk (below_step (by repeat (first | (with_reducible first | exact HB.out | apply below_alloc | apply pw_below_drewN | apply below_drew1 | refine below_set ?_ GE218.out) | exact HB.out)) hb)
                    clear HO_6
                    clear HO_23
                    clear BK218
                    clear HB
                    have HO_6 := n0_
                    have HO_23 := n1_
                    have HO233 := n2_
                    have BK218 := n3_
                    have HB := n4_
                    clear n0_ n1_ n2_ n3_ n4_
                    (try clear hb)
                    (try clear hb2)
                    (try clear hk)
                    (try clear hi)
                    (try clear ho0)
                    obtain ⟨Ao31, co31, eo31⟩ := Kd.R_slice HO233.out
                    (first | subst eo31 | (injection eo31 with f1_ f2_ f3_; have f4_ := f1_.symm; have f5_ := f3_.symm; clear f1_ f2_ f3_; subst f4_; subst f5_))
                    have p234 : 0 ≤ (a1 : Int) := of_decide_eq_true (by first | (with_reducible assumption) | assumption)
                    have q234 : a1 < (t231.length : Int) := of_decide_eq_true (by first | (with_reducible assumption) | assumption)
                    obtain ⟨ad234, e234, hx234_0⟩ := Kd.at_int (Kd.R_reads' HO233.out).2.2 a1 p234 q234
                    cases e234
                    replace p234 := eq_true p234
                    replace q234 := eq_true q234
                    obtain ⟨Ao32, co32, eo32⟩ := Kd.R_slice HO_6.out
                    (first | subst eo32 | (injection eo32 with f1_ f2_ f3_; have f4_ := f1_.symm; have f5_ := f3_.symm; clear f1_ f2_ f3_; subst f4_; subst f5_))
                    refine hK.out _ _ ⟨(blk_cell BK218.out 0).trans rfl, (blk_cell BK218.out 1).trans rfl, (blk_cell BK218.out 2).trans rfl, ((HB.out.cell (World.block_lt_of_cell? w _ hw229_0)).trans hw229_0), ((HB.out.cell (World.block_lt_of_cell? w _ hw229_1)).trans hw229_1), ((HB.out.cell (World.block_lt_of_cell? w _ hw229_2)).trans hw229_2), ((HB.out.cell (World.block_lt_of_cell? w _ hw229_3)).trans hw229_3), ((HB.out.cell (World.block_lt_of_cell? w _ hw229_4)).trans hw229_4), ((HB.out.cell (World.block_lt_of_cell? w _ hw235_0)).trans hw235_0), ((HB.out.cell (World.block_lt_of_cell? w _ hw235_1)).trans hw235_1), ((HB.out.cell (World.block_lt_of_cell? w _ hw235_2)).trans hw235_2), ((HB.out.cell (World.block_lt_of_cell? w _ hw235_3)).trans hw235_3), ((HB.out.cell (World.block_lt_of_cell? w _ hw235_4)).trans hw235_4), HS13_⟩ (fun hHeld => ?_)
                    clear hK K
                    refine norm_ (a' := ?_) ?_ ?_
                    rotate_left
                    · show Act.put _ (some 54) _ = _
                      simp only [Act.put, List.setIfInBounds_toArray, List.set_cons_zero, List.set_cons_succ, i64_w, i32_w]
                      rfl
                    refine pure_ (i := 9) (N := some 56) (v := ?_) (a' := ?_) #[true, true, true, true, true, true, true, true, true, true, false, false, true, true, true, true, true, true, true, false, false, false, false, false, false, false, false] rfl rfl (any_of HT_.out (by kernel_rfl)) (fun _ _ _ h => h) (Or.inl ⟨by rfl, ?_⟩) ?_ ?_
                    rotate_left
                    · intro w'
                      go_simp
                      with_reducible rfl
                    rotate_left
                    · simp only [Act.put, List.setIfInBounds_toArray, List.set_cons_zero, List.set_cons_succ, i64_w, i32_w]
                      rfl
                    refine one_ (i := 10) (N := some 57) #[true, true, true, true, true, true, true, true, true, true, true, false, true, true, true, true, true, true, true, false, false, false, false, false, false, false, false] rfl rfl (one_of HT_.out (by kernel_rfl)) (by decide) (fun K hK => ?_)
                    refine one_yield (S := fun w' => w'.cell? (ad234.add (a1).toNat) = some (.int .i64 (rd t231 a1))) (v := ?_) (Or.inl ⟨by rfl, ?_⟩) hx234_0 ?_
                    rotate_left
                    · rintro w' s13
                      go_simp
                      with_reducible rfl
                    refine hK.out _ _ ⟨(blk_cell BK218.out 0).trans rfl, (blk_cell BK218.out 1).trans rfl, (blk_cell BK218.out 2).trans rfl, ((HB.out.cell (World.block_lt_of_cell? w _ hw229_0)).trans hw229_0), ((HB.out.cell (World.block_lt_of_cell? w _ hw229_1)).trans hw229_1), ((HB.out.cell (World.block_lt_of_cell? w _ hw229_2)).trans hw229_2), ((HB.out.cell (World.block_lt_of_cell? w _ hw229_3)).trans hw229_3), ((HB.out.cell (World.block_lt_of_cell? w _ hw229_4)).trans hw229_4), ((HB.out.cell (World.block_lt_of_cell? w _ hw235_0)).trans hw235_0), ((HB.out.cell (World.block_lt_of_cell? w _ hw235_1)).trans hw235_1), ((HB.out.cell (World.block_lt_of_cell? w _ hw235_2)).trans hw235_2), ((HB.out.cell (World.block_lt_of_cell? w _ hw235_3)).trans hw235_3), ((HB.out.cell (World.block_lt_of_cell? w _ hw235_4)).trans hw235_4), HS13_⟩ (fun hHeld => ?_)
                    clear hK K
                    refine norm_ (a' := ?_) ?_ ?_
                    rotate_left
                    · show Act.put _ (some 57) _ = _
                      simp only [Act.put, List.setIfInBounds_toArray, List.set_cons_zero, List.set_cons_succ, i64_w, i32_w]
                      rfl
                    refine pure_ (i := 11) (N := some 58) (v := ?_) (a' := ?_) #[true, true, true, true, true, true, true, true, true, true, true, true, true, true, true, true, true, true, true, false, false, false, false, false, false, false, false] rfl rfl (any_of HT_.out (by kernel_rfl)) (fun _ _ _ h => h) (Or.inl ⟨by rfl, ?_⟩) ?_ ?_
                    rotate_left
                    · intro w'
                      go_simp
                      with_reducible rfl
                    rotate_left
                    · simp only [Act.put, List.setIfInBounds_toArray, List.set_cons_zero, List.set_cons_succ, i64_w, i32_w]
                      rfl
                    refine one_ (i := 19) (N := some 66) #[true, true, true, true, true, true, true, true, true, true, true, true, true, true, true, true, true, true, true, true, false, false, false, false, false, false, false] rfl rfl (one_of HT_.out (by kernel_rfl)) (by decide) (fun K hK => ?_)
                    refine goes_ Try.func13 (by kernel_rfl) rfl #[.int .i64 (wrap64 (t230 + (rd t231 a1))), .slice Ao32 x6_2.length co32, .int .i64 ((rd_T75 l0_2 a1).f2)] (by rfl) rfl rfl (by (try simp only [List.map_toArray, List.map_cons, List.map_nil]); first | done | rfl | (simp only [List.length_drop, List.length_take]; rfl)) ?_
                    with_reducible refine (rta_Fix.calls k2 (wrap64 (t230 + (rd t231 a1))) _ _ x6_2 ((rd_T75 l0_2 a1).f2) t236 t237 t238 _ ?side1 ?side2 A27.out).mono ?_
                    (case side1 => repeat (first | exact (Kd.R_reads' HO_6.out).2.2 | (with_reducible refine Kd.C_alloc ?_ _) | (with_reducible refine Kd.C_drewN ?_ _) | (with_reducible refine Kd.C_drew ?_)))
                    (case side2 => exact (Kd.R_reads' HO_6.out).2.1)
                    rintro e w33 ⟨rfl, hb⟩
                    have HS13_ := trivial
                    refine ⟨_, rfl, ?_⟩
                    have n0_ := Aside0.mk (Kd.R_below (by (with_reducible repeat (first | apply Kd.R_alloc | apply Kd.R_drewN | apply Kd.R_drew)); exact HO_6.out) hb)
                    have n1_ := Aside0.mk (Kd.R_below (by (with_reducible repeat (first | apply Kd.R_alloc | apply Kd.R_drewN | apply Kd.R_drew)); exact HO_23.out) hb)
                    have n2_ := Aside0.mk (Kd.R_below (by (with_reducible repeat (first | apply Kd.R_alloc | apply Kd.R_drewN | apply Kd.R_drew)); exact HO233.out) hb)
                    have n3_ := Aside0.mk (blk_below (g := gb218) (o := .cells #[.int .i64 a0_0, .slice A0_1 l0_1.length c0_1, .slice (some ad229) l0_2.length c0_2] 48 (0, 0)) (by (with_reducible repeat (first | refine blk_drewN ?_ _ | refine blk_drew ?_ | refine blk_alloc ?_ _)); exact BK218.out) hb)
                    have n4_ := Aside0.mk (below_step (by repeat (first | (with_reducible first | exact HB.out | apply below_alloc | apply pw_below_drewN | apply below_drew1 | refine below_set ?_ GE218.out) | exact HB.out)) hb)
                    clear HO_6
                    clear HO_23
                    clear HO233
                    clear BK218
                    clear HB
                    have HO_6 := n0_
                    have HO_23 := n1_
                    have HO233 := n2_
                    have BK218 := n3_
                    have HB := n4_
                    clear n0_ n1_ n2_ n3_ n4_
                    (try clear hb)
                    (try clear hb2)
                    (try clear hk)
                    (try clear hi)
                    refine hK.out _ _ ⟨(blk_cell BK218.out 0).trans rfl, (blk_cell BK218.out 1).trans rfl, (blk_cell BK218.out 2).trans rfl, ((HB.out.cell (World.block_lt_of_cell? w _ hw229_0)).trans hw229_0), ((HB.out.cell (World.block_lt_of_cell? w _ hw229_1)).trans hw229_1), ((HB.out.cell (World.block_lt_of_cell? w _ hw229_2)).trans hw229_2), ((HB.out.cell (World.block_lt_of_cell? w _ hw229_3)).trans hw229_3), ((HB.out.cell (World.block_lt_of_cell? w _ hw229_4)).trans hw229_4), ((HB.out.cell (World.block_lt_of_cell? w _ hw235_0)).trans hw235_0), ((HB.out.cell (World.block_lt_of_cell? w _ hw235_1)).trans hw235_1), ((HB.out.cell (World.block_lt_of_cell? w _ hw235_2)).trans hw235_2), ((HB.out.cell (World.block_lt_of_cell? w _ hw235_3)).trans hw235_3), ((HB.out.cell (World.block_lt_of_cell? w _ hw235_4)).trans hw235_4), HS13_⟩ (fun hHeld => ?_)
                    clear hK K
                    refine norm_ (a' := ?_) ?_ ?_
                    rotate_left
                    · show Act.put _ (some 66) _ = _
                      simp only [Act.put, List.setIfInBounds_toArray, List.set_cons_zero, List.set_cons_succ, i64_w, i32_w]
                      rfl
                    refine pure_ (i := 20) (N := some 46) (v := ?_) (a' := ?_) #[true, true, true, true, true, true, true, true, true, true, true, true, true, true, true, true, true, true, true, true, true, false, false, false, false, false, false] rfl rfl (any_of HT_.out (by kernel_rfl)) (fun _ _ _ h => h) (Or.inl ⟨by rfl, ?_⟩) ?_ ?_
                    rotate_left
                    · intro w'
                      go_simp
                      with_reducible rfl
                    rotate_left
                    · simp only [Act.put, List.setIfInBounds_toArray, List.set_cons_zero, List.set_cons_succ, i64_w, i32_w]
                      rfl
                    refine pure_ (i := 21) (N := some 67) (v := ?_) (a' := ?_) #[true, true, true, true, true, true, true, true, true, true, true, true, true, true, true, true, true, true, true, true, true, true, false, false, false, false, false] rfl rfl (any_of HT_.out (by kernel_rfl)) (fun _ _ _ h => h) (Or.inl ⟨by rfl, ?_⟩) ?_ ?_
                    rotate_left
                    · intro w'
                      go_simp
                      with_reducible rfl
                    rotate_left
                    · simp only [Act.put, List.setIfInBounds_toArray, List.set_cons_zero, List.set_cons_succ, i64_w, i32_w]
                      rfl
                    refine pure_ (i := 22) (N := some 68) (v := ?_) (a' := ?_) #[true, true, true, true, true, true, true, true, true, true, true, true, true, true, true, true, true, true, true, true, true, true, true, false, false, false, false] rfl rfl (any_of HT_.out (by kernel_rfl)) (fun _ _ _ h => h) (Or.inl ⟨by rfl, ?_⟩) ?_ ?_
                    rotate_left
                    · intro w'
                      go_simp
                      with_reducible rfl
                    rotate_left
                    · simp only [Act.put, List.setIfInBounds_toArray, List.set_cons_zero, List.set_cons_succ, i64_w, i32_w]
                      rfl
                    refine pure_ (i := 23) (N := some 69) (v := ?_) (a' := ?_) #[true, true, true, true, true, true, true, true, true, true, true, true, true, true, true, true, true, true, true, true, true, true, true, true, false, false, false] rfl rfl (any_of HT_.out (by kernel_rfl)) (fun _ _ _ h => h) (Or.inl ⟨by rfl, ?_⟩) ?_ ?_
                    rotate_left
                    · intro w'
                      go_simp
                      with_reducible rfl
                    rotate_left
                    · simp only [Act.put, List.setIfInBounds_toArray, List.set_cons_zero, List.set_cons_succ, i64_w, i32_w]
                      rfl
                    refine pure_ (i := 24) (N := some 9) (v := ?_) (a' := ?_) #[true, true, true, true, true, true, true, true, true, true, true, true, true, true, true, true, true, true, true, true, true, true, true, true, true, false, false] rfl rfl (any_of HT_.out (by kernel_rfl)) (fun _ _ _ h => h) (Or.inl ⟨by rfl, ?_⟩) ?_ ?_
                    rotate_left
                    · intro w'
                      go_simp
                      with_reducible rfl
                    rotate_left
                    · simp only [Act.put, List.setIfInBounds_toArray, List.set_cons_zero, List.set_cons_succ, i64_w, i32_w]
                      rfl
                    refine pure_ (i := 25) (N := some 10) (v := ?_) (a' := ?_) #[true, true, true, true, true, true, true, true, true, true, true, true, true, true, true, true, true, true, true, true, true, true, true, true, true, true, false] rfl rfl (any_of HT_.out (by kernel_rfl)) (fun _ _ _ h => h) (Or.inl ⟨by rfl, ?_⟩) ?_ ?_
                    rotate_left
                    · intro w'
                      go_simp
                      with_reducible rfl
                    rotate_left
                    · simp only [Act.put, List.setIfInBounds_toArray, List.set_cons_zero, List.set_cons_succ, i64_w, i32_w]
                      rfl
                    refine pure_ (i := 26) (N := some 11) (v := ?_) (a' := ?_) #[true, true, true, true, true, true, true, true, true, true, true, true, true, true, true, true, true, true, true, true, true, true, true, true, true, true, true] rfl rfl (any_of HT_.out (by kernel_rfl)) (fun _ _ _ h => h) (Or.inl ⟨by rfl, ?_⟩) ?_ ?_
                    rotate_left
                    · intro w'
                      go_simp
                      with_reducible rfl
                    rotate_left
                    · simp only [Act.put, List.setIfInBounds_toArray, List.set_cons_zero, List.set_cons_succ, i64_w, i32_w]
                      rfl
                    refine done_ (done_of HT_.out (by kernel_rfl)) ?_
                    try go_wp2
                    go_ret2
                    exact ⟨by first | rfl | (simp [errW_none, errW_some] <;> rfl) | (simp [*, errW_none, errW_some] <;> rfl), by repeat (first | (with_reducible first | exact HB.out | apply below_alloc | apply pw_below_drewN | apply below_drew1 | refine below_set ?_ GE218.out) | exact HB.out)⟩
                  · rw [if_neg c26] at H
                    exact absurd H (by simp)
                · rw [if_neg c23] at H
                  exact absurd H (by simp)
              · rw [if_neg c22] at H
                exact absurd H (by simp)

end Go.Proofs.Ytgeejlcnnldogaa.XA
