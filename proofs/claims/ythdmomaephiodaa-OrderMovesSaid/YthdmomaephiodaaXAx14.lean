-- PRINTED by print.py (a twelfth state) out of the translation. Not trusted: Lean checks it.
import Derived.Test.YthdmomaephiodaaXAx0
import Derived.Test.YthdmomaephiodaaXAx1
import Derived.Test.YthdmomaephiodaaXAx2
import Derived.Test.YthdmomaephiodaaXAx13
namespace Go.Proofs.Ythdmomaephiodaa.XA
open Go.RowKit Go.Proofs.YthdmomaephiodaaW.PrintWords Go.Proofs.YthdmomaephiodaaW.PrintLast Go.Proofs.YthdmomaephiodaaW.PrintMore
attribute [local go_sem] max2_int min2_int max_two min_two max_three min_three max_four min_four   -- for this text's walks alone
set_option linter.unusedVariables false
set_option linter.unusedSimpArgs false

/-! ### watchbilllaw9_OrderMoves: function 5 -/
mutual
def watchbilllaw9_OrderMoves.j0 : Nat → List Int → Int → Int → Bool → Option (Bool)
  | 0, _, _, _, _ => none
  | k + 1, x0, x1, x2, x26 => if x26 = true then (some true) else (watchbilllaw9_OrderMoves.l0 k x0 x1 x2 0 0 ([] : List (S48)))
def watchbilllaw9_OrderMoves.l0 : Nat → List Int → Int → Int → Int → Int → List (S48) → Option (Bool)
  | 0, _, _, _, _, _, _ => none
  | k + 1, x0, x1, x2, x8, x349000, x349002 => if x8 < (x0.length : Int) then (if 0 ≤ x8 then (if x349002.length < 2199023255552 then (watchbilllaw9_OrderMoves.l0 k x0 x1 x2 (wrap64 (x8 + 1)) x349000 (x349002 ++ [(⟨strOfNums (([(wrap64 (97 + x8)) % 256] : List Int)), 900, wrap64 (300 + (wrap64 (rd x0 x8))), 1, (([(⟨1, 1, 0, 0, ([] : List (S110))⟩ : S45)] : List (S45)))⟩ : S48)])) else (none)) else (none)) else (if (x0.length : Int) = 0 then (none) else ((order_Higher.f k x349000 ([] : List (S66)) x349002 (Int.tmod (wrap64 (x1)) (x0.length : Int))).bind fun t359 => ((order_Prios.f x349000 ([] : List (S66)) x349002).bind fun t362 => ((watchbilllaw9_without.f k t362 (Int.tmod (wrap64 (x1)) (x0.length : Int))).bind fun t365 => (if 0 ≤ (Int.tmod (wrap64 (x1)) (x0.length : Int)) then (if (Int.tmod (wrap64 (x1)) (x0.length : Int)) < (x349002.length : Int) then ((some (x349002.set ((Int.tmod (wrap64 (x1)) (x0.length : Int)) : Int).toNat (⟨(rd_T48 x349002 (Int.tmod (wrap64 (x1)) (x0.length : Int))).f0, (rd_T48 x349002 (Int.tmod (wrap64 (x1)) (x0.length : Int))).f1, wrap64 (((rd_T48 x349002 (Int.tmod (wrap64 (x1)) (x0.length : Int))).f2) - (wrap64 (x2))), (rd_T48 x349002 (Int.tmod (wrap64 (x1)) (x0.length : Int))).f3, (rd_T48 x349002 (Int.tmod (wrap64 (x1)) (x0.length : Int))).f4⟩ : S48) : List (S48))).bind fun y369 => ((order_Higher.f k x349000 ([] : List (S66)) y369 (Int.tmod (wrap64 (x1)) (x0.length : Int))).bind fun t370 => ((order_Prios.f x349000 ([] : List (S66)) y369).bind fun t373 => ((watchbilllaw9_without.f k t373 (Int.tmod (wrap64 (x1)) (x0.length : Int))).bind fun t376 => (if (t370.length : Int) > (t359.length : Int) then (some false) else (watchbilllaw9_OrderMoves.l1 k t359 t365 t370 t376 0)))))) else (none)) else (none))))))
def watchbilllaw9_OrderMoves.l1 : Nat → List Int → List Int → List Int → List Int → Int → Option (Bool)
  | 0, _, _, _, _, _ => none
  | k + 1, x10, x11, x12, x13, x14 => if x14 < (x12.length : Int) then (watchbilllaw9_OrderMoves.l2 k x10 x11 x12 x13 x14 false 0) else ((watchbilllaw1_Ints.f k x11 x13).bind fun t379 => (some t379))
def watchbilllaw9_OrderMoves.l2 : Nat → List Int → List Int → List Int → List Int → Int → Bool → Int → Option (Bool)
  | 0, _, _, _, _, _, _, _ => none
  | k + 1, x10, x11, x12, x13, x14, x15, x16 => if x16 < (x10.length : Int) then (if x15 = true then (watchbilllaw9_OrderMoves.l2 k x10 x11 x12 x13 x14 true (wrap64 (x16 + 1))) else (if 0 ≤ x16 then (if 0 ≤ x14 then (if x14 < (x12.length : Int) then (watchbilllaw9_OrderMoves.l2 k x10 x11 x12 x13 x14 ((rd x10 x16) == (rd x12 x14)) (wrap64 (x16 + 1))) else (none)) else (none)) else (none))) else (if x15 = true then (watchbilllaw9_OrderMoves.l1 k x10 x11 x12 x13 (wrap64 (x14 + 1))) else (some false))
end
def watchbilllaw9_OrderMoves.f (k : Nat) (l0 : List Int) (a1 : Int) (a2 : Int) : Option (Bool) := (watchbilllaw9_known.f k).bind fun t347 => (if t347 = true then (if (l0.length : Int) < 1 then (watchbilllaw9_OrderMoves.j0 k l0 a1 a2 true) else (watchbilllaw9_OrderMoves.j0 k l0 a1 a2 (decide ((l0.length : Int) > 12)))) else (some false))
theorem watchbilllaw9_OrderMoves.mono_l : ∀ k, (∀ y0 y1 y2 y3, LeO (watchbilllaw9_OrderMoves.j0 k y0 y1 y2 y3) (watchbilllaw9_OrderMoves.j0 (k + 1) y0 y1 y2 y3)) ∧ (∀ y0 y1 y2 y3 y4 y5, LeO (watchbilllaw9_OrderMoves.l0 k y0 y1 y2 y3 y4 y5) (watchbilllaw9_OrderMoves.l0 (k + 1) y0 y1 y2 y3 y4 y5)) ∧ (∀ y0 y1 y2 y3 y4, LeO (watchbilllaw9_OrderMoves.l1 k y0 y1 y2 y3 y4) (watchbilllaw9_OrderMoves.l1 (k + 1) y0 y1 y2 y3 y4)) ∧ (∀ y0 y1 y2 y3 y4 y5 y6, LeO (watchbilllaw9_OrderMoves.l2 k y0 y1 y2 y3 y4 y5 y6) (watchbilllaw9_OrderMoves.l2 (k + 1) y0 y1 y2 y3 y4 y5 y6))
  | 0 => ⟨fun _ _ _ _ r h => by simp [watchbilllaw9_OrderMoves.j0] at h, fun _ _ _ _ _ _ r h => by simp [watchbilllaw9_OrderMoves.l0] at h, fun _ _ _ _ _ r h => by simp [watchbilllaw9_OrderMoves.l1] at h, fun _ _ _ _ _ _ _ r h => by simp [watchbilllaw9_OrderMoves.l2] at h⟩
  | k + 1 => by
    obtain ⟨ih0, ih1, ih2, ih3⟩ := watchbilllaw9_OrderMoves.mono_l k
    refine ⟨?_, ?_, ?_, ?_⟩
    · intro y0 y1 y2 y3
      unfold watchbilllaw9_OrderMoves.j0
      repeat' first
      | (with_reducible exact ih0 _ _ _ _)
      | (with_reducible exact ih1 _ _ _ _ _ _)
      | (with_reducible exact ih2 _ _ _ _ _)
      | (with_reducible exact ih3 _ _ _ _ _ _ _)
      | (with_reducible exact order_Higher.mono _ _ _ _ _)
      | (with_reducible exact watchbilllaw1_Ints.mono _ _ _)
      | (with_reducible exact watchbilllaw9_known.mono _)
      | (with_reducible exact watchbilllaw9_without.mono _ _ _)
      | (with_reducible exact LeO.refl _)
      | (with_reducible exact LeO.none _)
      | (with_reducible refine LeO.ite ?_ ?_)
      | (with_reducible refine LeO.bind ?_ (fun _ => ?_))
      | exact ih0 _ _ _ _
      | exact ih1 _ _ _ _ _ _
      | exact ih2 _ _ _ _ _
      | exact ih3 _ _ _ _ _ _ _
      | exact order_Higher.mono _ _ _ _ _
      | exact watchbilllaw1_Ints.mono _ _ _
      | exact watchbilllaw9_known.mono _
      | exact watchbilllaw9_without.mono _ _ _
      | exact LeO.none _
      | refine LeO.ite ?_ ?_
      | refine LeO.bind ?_ (fun _ => ?_)
    · intro y0 y1 y2 y3 y4 y5
      unfold watchbilllaw9_OrderMoves.l0
      repeat' first
      | (with_reducible exact ih0 _ _ _ _)
      | (with_reducible exact ih1 _ _ _ _ _ _)
      | (with_reducible exact ih2 _ _ _ _ _)
      | (with_reducible exact ih3 _ _ _ _ _ _ _)
      | (with_reducible exact order_Higher.mono _ _ _ _ _)
      | (with_reducible exact watchbilllaw1_Ints.mono _ _ _)
      | (with_reducible exact watchbilllaw9_known.mono _)
      | (with_reducible exact watchbilllaw9_without.mono _ _ _)
      | (with_reducible exact LeO.refl _)
      | (with_reducible exact LeO.none _)
      | (with_reducible refine LeO.ite ?_ ?_)
      | (with_reducible refine LeO.bind ?_ (fun _ => ?_))
      | exact ih0 _ _ _ _
      | exact ih1 _ _ _ _ _ _
      | exact ih2 _ _ _ _ _
      | exact ih3 _ _ _ _ _ _ _
      | exact order_Higher.mono _ _ _ _ _
      | exact watchbilllaw1_Ints.mono _ _ _
      | exact watchbilllaw9_known.mono _
      | exact watchbilllaw9_without.mono _ _ _
      | exact LeO.none _
      | refine LeO.ite ?_ ?_
      | refine LeO.bind ?_ (fun _ => ?_)
    · intro y0 y1 y2 y3 y4
      unfold watchbilllaw9_OrderMoves.l1
      repeat' first
      | (with_reducible exact ih0 _ _ _ _)
      | (with_reducible exact ih1 _ _ _ _ _ _)
      | (with_reducible exact ih2 _ _ _ _ _)
      | (with_reducible exact ih3 _ _ _ _ _ _ _)
      | (with_reducible exact order_Higher.mono _ _ _ _ _)
      | (with_reducible exact watchbilllaw1_Ints.mono _ _ _)
      | (with_reducible exact watchbilllaw9_known.mono _)
      | (with_reducible exact watchbilllaw9_without.mono _ _ _)
      | (with_reducible exact LeO.refl _)
      | (with_reducible exact LeO.none _)
      | (with_reducible refine LeO.ite ?_ ?_)
      | (with_reducible refine LeO.bind ?_ (fun _ => ?_))
      | exact ih0 _ _ _ _
      | exact ih1 _ _ _ _ _ _
      | exact ih2 _ _ _ _ _
      | exact ih3 _ _ _ _ _ _ _
      | exact order_Higher.mono _ _ _ _ _
      | exact watchbilllaw1_Ints.mono _ _ _
      | exact watchbilllaw9_known.mono _
      | exact watchbilllaw9_without.mono _ _ _
      | exact LeO.none _
      | refine LeO.ite ?_ ?_
      | refine LeO.bind ?_ (fun _ => ?_)
    · intro y0 y1 y2 y3 y4 y5 y6
      unfold watchbilllaw9_OrderMoves.l2
      repeat' first
      | (with_reducible exact ih0 _ _ _ _)
      | (with_reducible exact ih1 _ _ _ _ _ _)
      | (with_reducible exact ih2 _ _ _ _ _)
      | (with_reducible exact ih3 _ _ _ _ _ _ _)
      | (with_reducible exact order_Higher.mono _ _ _ _ _)
      | (with_reducible exact watchbilllaw1_Ints.mono _ _ _)
      | (with_reducible exact watchbilllaw9_known.mono _)
      | (with_reducible exact watchbilllaw9_without.mono _ _ _)
      | (with_reducible exact LeO.refl _)
      | (with_reducible exact LeO.none _)
      | (with_reducible refine LeO.ite ?_ ?_)
      | (with_reducible refine LeO.bind ?_ (fun _ => ?_))
      | exact ih0 _ _ _ _
      | exact ih1 _ _ _ _ _ _
      | exact ih2 _ _ _ _ _
      | exact ih3 _ _ _ _ _ _ _
      | exact order_Higher.mono _ _ _ _ _
      | exact watchbilllaw1_Ints.mono _ _ _
      | exact watchbilllaw9_known.mono _
      | exact watchbilllaw9_without.mono _ _ _
      | exact LeO.none _
      | refine LeO.ite ?_ ?_
      | refine LeO.bind ?_ (fun _ => ?_)
theorem watchbilllaw9_OrderMoves.mono : ∀ a0 a1 a2 k, LeO (watchbilllaw9_OrderMoves.f k a0 a1 a2) (watchbilllaw9_OrderMoves.f (k + 1) a0 a1 a2) := by
  intro a0 a1 a2 k
  obtain ⟨ih0, ih1, ih2, ih3⟩ := watchbilllaw9_OrderMoves.mono_l k
  unfold watchbilllaw9_OrderMoves.f
  repeat' first
      | (with_reducible exact ih0 _ _ _ _)
      | (with_reducible exact ih1 _ _ _ _ _ _)
      | (with_reducible exact ih2 _ _ _ _ _)
      | (with_reducible exact ih3 _ _ _ _ _ _ _)
      | (with_reducible exact order_Higher.mono _ _ _ _ _)
      | (with_reducible exact watchbilllaw1_Ints.mono _ _ _)
      | (with_reducible exact watchbilllaw9_known.mono _)
      | (with_reducible exact watchbilllaw9_without.mono _ _ _)
      | (with_reducible exact LeO.refl _)
      | (with_reducible exact LeO.none _)
      | (with_reducible refine LeO.ite ?_ ?_)
      | (with_reducible refine LeO.bind ?_ (fun _ => ?_))
      | exact ih0 _ _ _ _
      | exact ih1 _ _ _ _ _ _
      | exact ih2 _ _ _ _ _
      | exact ih3 _ _ _ _ _ _ _
      | exact order_Higher.mono _ _ _ _ _
      | exact watchbilllaw1_Ints.mono _ _ _
      | exact watchbilllaw9_known.mono _
      | exact watchbilllaw9_without.mono _ _ _
      | exact LeO.none _
      | refine LeO.ite ?_ ?_
      | refine LeO.bind ?_ (fun _ => ?_)
def watchbilllaw9_OrderMoves.T9 : Bool × List (List Nat × List Nat) := (true, [([], []), ([0], [0]), ([], []), ([2], [2]), ([3], [3]), ([4], [4]), ([5], [5]), ([], []), ([], []), ([7, 8], [7, 8]), ([9], [9]), ([10], [10]), ([11], [11]), ([], []), ([13], [13]), ([6, 12, 14], [6, 12, 14]), ([15], [15]), ([1, 16], [1, 16]), ([0, 1, 2, 3, 4, 5, 6, 7, 8, 9, 10, 11, 12, 13, 14, 15, 16, 17], []), ([18, 17, 17, 0, 1, 2, 3, 4, 5, 6, 7, 8, 9, 10, 11, 12, 13, 14, 15, 16, 17], [17, 18])])
def watchbilllaw9_OrderMoves.B9 : List Nat := [0, 1, 0, 4, 12, 28, 60, 0, 0, 384, 896, 1920, 3968, 0, 8192, 32764, 65532, 131071, 262143, 524287]
theorem watchbilllaw9_OrderMoves.tab9 : rtab .any (opsOf Try.f5 9) = watchbilllaw9_OrderMoves.T9 := by kernel_rfl
theorem watchbilllaw9_OrderMoves.bits9 : waitsOk watchbilllaw9_OrderMoves.T9.2 watchbilllaw9_OrderMoves.B9 = true := by kernel_rfl
def watchbilllaw9_OrderMoves.T13 : Bool × List (List Nat × List Nat) := (true, [([], []), ([0], [0]), ([], []), ([], []), ([3], [3]), ([], []), ([4, 5], [4, 5]), ([6], [6]), ([7], [7]), ([], []), ([9], [9]), ([8, 10], [8, 10]), ([1, 2, 0, 1, 2, 3, 4, 5, 6, 7, 8, 9, 10, 11], [1, 2]), ([12, 0, 1, 2, 3, 4, 5, 6, 7, 8, 9, 10, 11], [12]), ([13, 11, 0, 1, 2, 3, 4, 5, 6, 7, 8, 9, 10, 11], [11, 13])])
def watchbilllaw9_OrderMoves.B13 : List Nat := [0, 1, 0, 0, 8, 0, 56, 120, 248, 0, 512, 2040, 4095, 8191, 16383]
theorem watchbilllaw9_OrderMoves.tab13 : rtab .any (opsOf Try.f5 13) = watchbilllaw9_OrderMoves.T13 := by kernel_rfl
theorem watchbilllaw9_OrderMoves.bits13 : waitsOk watchbilllaw9_OrderMoves.T13.2 watchbilllaw9_OrderMoves.B13 = true := by kernel_rfl
def watchbilllaw9_OrderMoves.T25 : Bool × List (List Nat × List Nat) := (true, [([], []), ([0], [0]), ([1], [1]), ([1], [1]), ([2, 3, 1], [1, 2, 3]), ([4, 1], [1, 4]), ([1], [1]), ([1], [1]), ([6, 7, 1], [1, 6, 7]), ([8, 1], [1, 8]), ([5, 9, 1], [1, 5, 9]), ([1, 10], [1, 10]), ([11, 1, 0, 1, 2, 3, 4, 5, 6, 7, 8, 9, 10, 11], [0, 11])])
def watchbilllaw9_OrderMoves.B25 : List Nat := [0, 1, 3, 3, 15, 31, 3, 3, 195, 451, 1023, 2047, 4095]
theorem watchbilllaw9_OrderMoves.tab25 : rtab .any (opsOf Try.f5 25) = watchbilllaw9_OrderMoves.T25 := by kernel_rfl
theorem watchbilllaw9_OrderMoves.bits25 : waitsOk watchbilllaw9_OrderMoves.T25.2 watchbilllaw9_OrderMoves.B25 = true := by kernel_rfl
set_option maxHeartbeats 8000000 in
set_option maxRecDepth 100000 in
theorem watchbilllaw9_OrderMoves.calls (k : Nat) (A0 : Option Addr) (c0 : Nat) (l0 : List Int) (a1 : Int) (a2 : Int) (r : Bool) (w : World) (hr0 : Kd.C (Kd.int .u8) w A0 l0.length l0) (hc0 : l0.length ≤ c0) (h : watchbilllaw9_OrderMoves.f k l0 a1 a2 = some r) :
    Calls Try.prog 5 #[.slice A0 l0.length c0, .int .u8 a1, .int .u8 a2] w fun e w' => e = .returned (.bool r) ∧ Below w.heap.size w w' := by
  have hu33 := Try.underlying33
  have hu45 := Try.underlying45
  have hu48 := Try.underlying48
  have HR0 := Aside0.mk hr0
  have HC0 := Aside0.mk hc0
  clear hr0 hc0
  have HB := Aside0.mk (Below.refl w.heap.size w)
  have H : ((watchbilllaw9_known.f k).bind fun t347 => (if t347 = true then (if (l0.length : Int) < 1 then (watchbilllaw9_OrderMoves.j0 k l0 a1 a2 true) else (watchbilllaw9_OrderMoves.j0 k l0 a1 a2 (decide ((l0.length : Int) > 12)))) else (some false))) = some r := h
  clear h
  replace H := Option.bind_eq_some_iff.mp H
  obtain ⟨t347, A40, H⟩ := H
  replace H : (if t347 = true then (if (l0.length : Int) < 1 then (watchbilllaw9_OrderMoves.j0 k l0 a1 a2 true) else (watchbilllaw9_OrderMoves.j0 k l0 a1 a2 (decide ((l0.length : Int) > 12)))) else (some false)) = some r := H
  have A4 := Aside0.mk A40
  clear A40
  by_cases c5 : t347 = true
  · subst c5
    have H1 : (if (l0.length : Int) < 1 then (watchbilllaw9_OrderMoves.j0 k l0 a1 a2 true) else (watchbilllaw9_OrderMoves.j0 k l0 a1 a2 (decide ((l0.length : Int) > 12)))) = some r := by rw [if_pos rfl] at H; exact H
    clear H
    have H := H1
    clear H1
    have HC6 := Aside0.mk H
    clear H
    go_enter Try.func5, Try.ntmps5
    go_upto_region 3 with (first | ((with_reducible refine gate_callee (f := 7) rfl ?_); refine goesL_ (some 17) rfl rfl Try.func7 (by kernel_rfl) rfl #[] rfl (by (try simp only [List.map_toArray, List.map_cons, List.map_nil]); first | done | rfl | (simp only [List.length_drop, List.length_take]; rfl)) ?_; (with_reducible refine (watchbilllaw9_known.calls k  true _ A4.out).mono ?_); rintro e w7 ⟨rfl, hb⟩; refine ⟨_, rfl, ?_⟩; have n0_ := Aside0.mk (below_step (by repeat (first | (with_reducible first | exact HB.out | apply below_alloc | apply pw_below_drewN | apply below_drew1) | exact HB.out)) hb); clear HB; have HB := n0_; clear n0_; (try clear hb); (try clear hb2); (try clear hk); (try clear hi)))
    (try simp only [Act.put, List.setIfInBounds_toArray, List.set_cons_zero, List.set_cons_succ])
    go_cut [26] (fun v26 wc => ∃ (kq : Nat) (x26_5 : Bool), v26 = .bool x26_5 ∧ Aside0 (watchbilllaw9_OrderMoves.j0 kq l0 a1 a2 x26_5 = some r) ∧ Aside0 (kq ≤ k) ∧ Aside0 (Below w.heap.size w wc))
    case first =>
      have H := HC6.out
      clear HC6
      by_cases c8 : (l0.length : Int) < 1
      · rw [if_pos c8] at H
        have c8b0 : decide ((l0.length : Int) < 1) = true := decide_eq_true c8
        have c8b1 : decide (l0.length < 1) = true := decide_eq_true (by omega)
        clear c8
        (first | rw [c8b0] | (simp only [i64_w, i32_w]; rw [c8b0]) | skip)
        have H' := Aside0.mk H
        clear H
        go_wp2
        go_meet
        case rel => exact ⟨_, (true), (by first | rfl | (simp; done) | (simp [*]; done) | (simp [Int.tdiv_eq_ediv_of_nonneg]; done)), H', ⟨by first | omega | exact Nat.le_refl _⟩, ⟨by repeat (first | (with_reducible first | exact HB.out | apply below_alloc | apply pw_below_drewN | apply below_drew1) | exact HB.out)⟩⟩
      · rw [if_neg c8] at H
        have c8b0 : decide ((l0.length : Int) < 1) = false := decide_eq_false c8
        have c8b1 : decide (l0.length < 1) = false := decide_eq_false (by omega)
        clear c8
        (first | rw [c8b0] | (simp only [i64_w, i32_w]; rw [c8b0]) | skip)
        have H' := Aside0.mk H
        clear H
        go_wp2
        go_meet
        case rel => exact ⟨_, (decide ((l0.length : Int) > 12)), (by first | rfl | (simp; done) | (simp [*]; done) | (simp [Int.tdiv_eq_ediv_of_nonneg]; done)), H', ⟨by first | omega | exact Nat.le_refl _⟩, ⟨by repeat (first | (with_reducible first | exact HB.out | apply below_alloc | apply pw_below_drewN | apply below_drew1) | exact HB.out)⟩⟩
    case rest =>
      clear HC6
      try clear p2
      try clear c5
      try clear c7
      try clear c8
      try clear c8b0
      try clear c8b1
      obtain ⟨kq, x26_5, rfl, HA, HJ5, HB⟩ := hcut
      cases kq with
      | zero => exact absurd HA.out (by simp [watchbilllaw9_OrderMoves.j0])
      | succ kj5 =>
        have H := HA.out
        clear HA
        simp only [watchbilllaw9_OrderMoves.j0] at H
        by_cases c9 : x26_5 = true
        · subst c9
          have H1 : (some true) = some r := by rw [if_pos rfl] at H; exact H
          clear H
          have H := H1
          clear H1
          obtain rfl := Option.some.inj H
          go_wp2
          go_ret
          exact ⟨by first | rfl | (simp [errW_none, errW_some] <;> rfl) | (simp [*, errW_none, errW_some] <;> rfl), by repeat (first | (with_reducible first | exact HB.out | apply below_alloc | apply pw_below_drewN | apply below_drew1) | exact HB.out)⟩
        · replace c9 := Bool.eq_false_iff.mpr c9
          subst c9
          have H1 : (watchbilllaw9_OrderMoves.l0 kj5 l0 a1 a2 0 0 ([] : List (S48))) = some r := by rw [if_neg (show ¬ (false = true) by decide)] at H; exact H
          clear H
          have H := H1
          clear H1
          have H' := Aside0.mk H
          clear H
          go_wp2_with (first | ((with_reducible refine gate_dst (N := 7) rfl ?_); (try (refine gate_guard (by rfl) ?_; dsimp only)); refine box_event ?hg (N := 7) ?hd (cs := #[.int .i64 0, .slice none 0 0, .slice none 0 0]) (t := 33) ?hr ?_; (case hd => rfl); (case hg => rfl); (case hr => first | (go_simp; done) | (go_simp; rfl)); intro gb348 hg w10 hbox hb; have n0_ := Aside0.mk (below_step (by repeat (first | (with_reducible first | exact HB.out | apply below_alloc | apply pw_below_drewN | apply below_drew1) | exact HB.out)) hb); have n1_ := Aside0.mk (hbox); have n2_ := Aside0.mk ((by rw [hg]; exact (below_size (by repeat (first | (with_reducible first | exact HB.out | apply below_alloc | apply pw_below_drewN | apply below_drew1) | exact HB.out))) : w.heap.size ≤ gb348)); have n3_ := Aside0.mk ((by rw [hg]; exact (below_size (by repeat (first | (with_reducible first | exact HB.out | apply below_alloc | apply pw_below_drewN | apply below_drew1) | exact HB.out))) : w.heap.size ≤ gb348)); clear HB; have HB := n0_; have BK348 := n1_; have GW348 := n2_; have GE348 := n3_; clear n0_ n1_ n2_ n3_; clear hb hbox hg; have hcz11_0 : w10.cell? ⟨gb348, 0, none⟩ = some (.int .i64 0) := (blk_cell BK348.out 0).trans rfl; have hcz11_1 : w10.cell? ⟨gb348, 1, none⟩ = some (.slice none 0 0) := (blk_cell BK348.out 1).trans rfl; have hcz11_2 : w10.cell? ⟨gb348, 2, none⟩ = some (.slice none 0 0) := (blk_cell BK348.out 2).trans rfl; have hfz11_0 := blk_frozen BK348.out 0; have hfz11_1 := blk_frozen BK348.out 1; have hfz11_2 := blk_frozen BK348.out 2))
          go_loopg [8] kj5 (fun kq v8 w' => ∃ (x8_2 : Int) (x349002_2 : List (S48)) (u349002 : Value), v8 = .int .i64 x8_2 ∧ Aside0 (watchbilllaw9_OrderMoves.l0 kq l0 a1 a2 x8_2 0 x349002_2 = some r) ∧ Aside0 (kq ≤ kj5) ∧ Aside0 (Kd.R k48 48 w' w.heap.size (fun _ => True) u349002 x349002_2) ∧ Aside0 (w'.heap[gb348]? = some (.cells #[.int .i64 0, (.slice none 0 0), u349002] 33 (0, 0))) ∧ Aside0 (Below w.heap.size w w'))
          case atStart => exact ⟨(0), (([] : List (S48))), (.slice none 0 0), (by first | rfl | (simp; done) | (simp [*]; done) | (simp [Int.tdiv_eq_ediv_of_nonneg]; done)), H', ⟨Nat.le_refl _⟩, ⟨by first | exact Kd.R_nil _ _ _ _ _ | exact Kd.N_nil _ _ _ _ _ | exact Kd.V_nil _ _ _ _ _ | exact Kd.Q_nil _ _ _ _ _ | exact Kd.S_nil _ _ _ _ _⟩, ⟨by (with_reducible repeat (first | refine blk_drewN ?_ _ | refine blk_drew ?_ | refine blk_alloc ?_ _)); refine blk_put (cs := #[.int .i64 0, .slice none 0 0, .slice none 0 0]) ?_ 2 _ rfl; (with_reducible repeat (first | refine blk_drewN ?_ _ | refine blk_drew ?_ | refine blk_alloc ?_ _)); refine blk_put (cs := #[.int .i64 0, .slice none 0 0, .slice none 0 0]) ?_ 1 _ rfl; (with_reducible repeat (first | refine blk_drewN ?_ _ | refine blk_drew ?_ | refine blk_alloc ?_ _)); refine blk_put (cs := #[.int .i64 0, .slice none 0 0, .slice none 0 0]) ?_ 0 _ rfl; (with_reducible repeat (first | refine blk_drewN ?_ _ | refine blk_drew ?_ | refine blk_alloc ?_ _)); exact BK348.out⟩, ⟨by repeat (first | (with_reducible first | exact HB.out | apply below_alloc | apply pw_below_drewN | apply below_drew1 | refine below_set ?_ GE348.out) | exact HB.out)⟩⟩
          case round =>
            clear H'
            try clear p2
            try clear c5
            try clear c7
            try clear c8
            try clear c8b0
            try clear c8b1
            try clear c9
            try clear hcz11_0
            try clear hcz11_1
            try clear hcz11_2
            try clear hfz11_0
            try clear hfz11_1
            try clear hfz11_2
            try clear p2
            obtain ⟨x8_2, x349002_2, u349002, rfl, HA, HK2, HO_349002, BK348, HB⟩ := hrel
            cases gk with
            | zero => exact absurd HA.out (by simp [watchbilllaw9_OrderMoves.l0])
            | succ k2 =>
              have H := HA.out
              clear HA
              simp only [watchbilllaw9_OrderMoves.l0] at H
              by_cases c12 : x8_2 < (l0.length : Int)
              · rw [if_pos c12] at H
                have c12b0 : decide (x8_2 < (l0.length : Int)) = true := decide_eq_true c12
                clear c12
                obtain ⟨y349, hy349⟩ : ∃ y_ : List Int, y_ = (([(wrap64 (97 + x8_2)) % 256] : List Int)) := ⟨_, rfl⟩
                replace H : (if 0 ≤ x8_2 then (if x349002_2.length < 2199023255552 then (watchbilllaw9_OrderMoves.l0 k2 l0 a1 a2 (wrap64 (x8_2 + 1)) 0 (x349002_2 ++ [(⟨strOfNums y349, 900, wrap64 (300 + (wrap64 (rd l0 x8_2))), 1, (([(⟨1, 1, 0, 0, ([] : List (S110))⟩ : S45)] : List (S45)))⟩ : S48)])) else (none)) else (none)) = some r := by first | (rw [hy349]; with_reducible exact H) | (have H2_ := (Option.bind_some _ _).symm.trans H; rw [hy349]; with_reducible exact H2_) | (have H2_ := (Option.bind_some _ _).symm.trans H; with_reducible exact H2_) | with_reducible exact H | (rw [hy349]; exact H) | exact H
                have Ny349 := Aside0.mk hy349
                clear hy349
                by_cases c13 : 0 ≤ x8_2
                · rw [if_pos c13] at H
                  have c13b0 : decide (0 ≤ x8_2) = true := decide_eq_true c13
                  clear c13
                  obtain ⟨y353, hy353⟩ : ∃ y_ : List (S45), y_ = (([(⟨1, 1, 0, 0, ([] : List (S110))⟩ : S45)] : List (S45))) := ⟨_, rfl⟩
                  replace H : (if x349002_2.length < 2199023255552 then (watchbilllaw9_OrderMoves.l0 k2 l0 a1 a2 (wrap64 (x8_2 + 1)) 0 (x349002_2 ++ [(⟨strOfNums y349, 900, wrap64 (300 + (wrap64 (rd l0 x8_2))), 1, y353⟩ : S48)])) else (none)) = some r := by first | (rw [hy353]; with_reducible exact H) | (have H2_ := (Option.bind_some _ _).symm.trans H; rw [hy353]; with_reducible exact H2_) | (have H2_ := (Option.bind_some _ _).symm.trans H; with_reducible exact H2_) | with_reducible exact H | (rw [hy353]; exact H) | exact H
                  have Ny353 := Aside0.mk hy353
                  clear hy353
                  by_cases c14 : x349002_2.length < 2199023255552
                  · rw [if_pos c14] at H
                    have LMc14 := Aside0.mk c14
                    clear c14
                    obtain ⟨y356, hy356⟩ : ∃ y_ : List (S48), y_ = (x349002_2 ++ [(⟨strOfNums y349, 900, wrap64 (300 + (wrap64 (rd l0 x8_2))), 1, y353⟩ : S48)]) := ⟨_, rfl⟩
                    replace H : (watchbilllaw9_OrderMoves.l0 k2 l0 a1 a2 (wrap64 (x8_2 + 1)) 0 y356) = some r := by first | (rw [hy356]; with_reducible exact H) | (have H2_ := (Option.bind_some _ _).symm.trans H; rw [hy356]; with_reducible exact H2_) | (have H2_ := (Option.bind_some _ _).symm.trans H; with_reducible exact H2_) | with_reducible exact H | (rw [hy356]; exact H) | exact H
                    have Ny356 := Aside0.mk hy356
                    clear hy356
                    have H' := Aside0.mk H
                    clear H
                    obtain ⟨Ao15, co15, eo15⟩ := Kd.R_slice HO_349002.out
                    subst eo15
                    try go_wp2
                    have n0_ := Aside0.mk (Kd.R_drew HO_349002.out)
                    have n1_ := Aside0.mk (blk_drew BK348.out)
                    have n2_ := Aside0.mk (below_drew1 HB.out)
                    clear HO_349002
                    clear BK348
                    clear HB
                    have HO_349002 := n0_
                    have BK348 := n1_
                    have HB := n2_
                    clear n0_ n1_ n2_
                    have p352 : 0 ≤ (x8_2 : Int) := of_decide_eq_true (by first | (with_reducible assumption) | assumption)
                    have q352 : x8_2 < (l0.length : Int) := of_decide_eq_true (by first | (with_reducible assumption) | assumption)
                    obtain ⟨ad352, e352, hx352_0⟩ := Kd.at_int HR0.out x8_2 p352 q352
                    have hw352_0 := hx352_0
                    cases e352
                    replace hx352_0 := (HB.out.cell (World.block_lt_of_cell? w _ hx352_0)).trans hx352_0
                    replace p352 := eq_true p352
                    replace q352 := eq_true q352
                    refine start_ (n := 20) (S := fun w' => w'.cell? ⟨gb348, 0, none⟩ = some (.int .i64 0) ∧ w'.cell? ⟨gb348, 1, none⟩ = some (.slice none 0 0) ∧ w'.cell? ⟨gb348, 2, none⟩ = some (.slice Ao15 x349002_2.length co15) ∧ w'.cell? (ad352.add (x8_2).toNat) = some (.int .u8 (rd l0 x8_2))) (ds := [19]) #[false, false, false, false, false, false, false, false, false, false, false, false, false, false, false, false, false, false, false, false] (by kernel_rfl) rfl rfl ⟨(blk_cell BK348.out 0).trans rfl, (blk_cell BK348.out 1).trans rfl, (blk_cell BK348.out 2).trans rfl, ((HB.out.cell (World.block_lt_of_cell? w _ hw352_0)).trans hw352_0)⟩ (fun hHeld => ?_); refine with_tabW watchbilllaw9_OrderMoves.tab9 watchbilllaw9_OrderMoves.bits9 (fun HT_ HW_ => ?_)
                    generalize wr.drew = w16 at HO_349002 BK348 HB hx352_0 hHeld ⊢
                    refine pure_ (i := 0) (N := some 34) (v := ?_) (a' := ?_) #[true, false, false, false, false, false, false, false, false, false, false, false, false, false, false, false, false, false, false, false] rfl rfl (any_of HT_.out (by kernel_rfl)) (fun _ _ _ h => h) (Or.inl ⟨by rfl, ?_⟩) ?_ ?_
                    rotate_left
                    · intro w'
                      go_simp
                      with_reducible rfl
                    rotate_left
                    · simp only [Act.put, List.setIfInBounds_toArray, List.set_cons_zero, List.set_cons_succ, i64_w, i32_w]
                      rfl
                    refine pure_ (i := 2) (N := some 36) (v := ?_) (a' := ?_) #[true, false, true, false, false, false, false, false, false, false, false, false, false, false, false, false, false, false, false, false] rfl rfl (any_of HT_.out (by kernel_rfl)) (fun _ _ _ h => h) (Or.inl ⟨by rfl, ?_⟩) ?_ ?_
                    rotate_left
                    · intro w'
                      go_simp
                      with_reducible rfl
                    rotate_left
                    · simp only [Act.put, List.setIfInBounds_toArray, List.set_cons_zero, List.set_cons_succ, i64_w, i32_w]
                      rfl
                    refine pure_ (i := 3) (N := some 37) (v := ?_) (a' := ?_) #[true, false, true, true, false, false, false, false, false, false, false, false, false, false, false, false, false, false, false, false] rfl rfl (any_of HT_.out (by kernel_rfl)) (fun _ _ _ h => h) (Or.inl ⟨by rfl, ?_⟩) ?_ ?_
                    rotate_left
                    · intro w'
                      go_simp
                      with_reducible rfl
                    rotate_left
                    · simp only [Act.put, List.setIfInBounds_toArray, List.set_cons_zero, List.set_cons_succ, i64_w, i32_w]
                      rfl
                    refine pure_ (i := 4) (N := some 38) (v := ?_) (a' := ?_) #[true, false, true, true, true, false, false, false, false, false, false, false, false, false, false, false, false, false, false, false] rfl rfl (any_of HT_.out (by kernel_rfl)) (fun _ _ _ h => h) (Or.inl ⟨by rfl, ?_⟩) ?_ ?_
                    rotate_left
                    · intro w'
                      go_simp
                      with_reducible rfl
                    rotate_left
                    · simp only [Act.put, List.setIfInBounds_toArray, List.set_cons_zero, List.set_cons_succ, i64_w, i32_w]
                      rfl
                    refine pure_ (i := 7) (N := some 41) (v := ?_) (a' := ?_) #[true, false, true, true, true, false, false, true, false, false, false, false, false, false, false, false, false, false, false, false] rfl rfl (any_of HT_.out (by kernel_rfl)) (fun _ _ _ h => h) (Or.inl ⟨by rfl, ?_⟩) ?_ ?_
                    rotate_left
                    · intro w'
                      go_simp
                      with_reducible rfl
                    rotate_left
                    · simp only [Act.put, List.setIfInBounds_toArray, List.set_cons_zero, List.set_cons_succ, i64_w, i32_w]
                      rfl
                    refine pure_ (i := 8) (N := some 42) (v := ?_) (a' := ?_) #[true, false, true, true, true, false, false, true, true, false, false, false, false, false, false, false, false, false, false, false] rfl rfl (any_of HT_.out (by kernel_rfl)) (fun _ _ _ h => h) (Or.inl ⟨by rfl, ?_⟩) ?_ ?_
                    rotate_left
                    · intro w'
                      go_simp
                      with_reducible rfl
                    rotate_left
                    · simp only [Act.put, List.setIfInBounds_toArray, List.set_cons_zero, List.set_cons_succ, i64_w, i32_w]
                      rfl
                    refine pure_ (i := 9) (N := some 43) (v := ?_) (a' := ?_) #[true, false, true, true, true, false, false, true, true, true, false, false, false, false, false, false, false, false, false, false] rfl rfl (any_of HT_.out (by kernel_rfl)) (fun _ _ _ h => h) (Or.inl ⟨by rfl, ?_⟩) ?_ ?_
                    rotate_left
                    · intro w'
                      go_simp
                      with_reducible rfl
                    rotate_left
                    · simp only [Act.put, List.setIfInBounds_toArray, List.set_cons_zero, List.set_cons_succ, i64_w, i32_w]
                      rfl
                    refine pure_ (i := 13) (N := some 47) (v := ?_) (a' := ?_) #[true, false, true, true, true, false, false, true, true, true, false, false, false, true, false, false, false, false, false, false] rfl rfl (any_of HT_.out (by kernel_rfl)) (fun _ _ _ h => h) (Or.inl ⟨by rfl, ?_⟩) ?_ ?_
                    rotate_left
                    · intro w'
                      go_simp
                      with_reducible rfl
                    rotate_left
                    · simp only [Act.put, List.setIfInBounds_toArray, List.set_cons_zero, List.set_cons_succ, i64_w, i32_w]
                      rfl
                    refine take_ (i := 1) (N := some 35) (v := ?_) (a' := ?_) #[true, true, true, true, true, false, false, true, true, true, false, false, false, true, false, false, false, false, false, false] rfl rfl (take_ofW HT_.out HW_.out (by kernel_rfl)) (fun _ _ _ h => h) (Or.inl ⟨by rfl, ?_⟩) hHeld ?_ ?_
                    rotate_left
                    · rintro w' ⟨s0, s1, s2, s3⟩
                      go_simp
                      with_reducible rfl
                    rotate_left
                    · simp only [Act.put, List.setIfInBounds_toArray, List.set_cons_zero, List.set_cons_succ, i64_w, i32_w]
                      rfl
                    refine take_ (i := 10) (N := some 44) (v := ?_) (a' := ?_) #[true, true, true, true, true, false, false, true, true, true, true, false, false, true, false, false, false, false, false, false] rfl rfl (take_ofW HT_.out HW_.out (by kernel_rfl)) (fun _ _ _ h => h) (Or.inl ⟨by rfl, ?_⟩) hHeld ?_ ?_
                    rotate_left
                    · rintro w' ⟨s0, s1, s2, s3⟩
                      go_simp
                      with_reducible rfl
                    rotate_left
                    · simp only [Act.put, List.setIfInBounds_toArray, List.set_cons_zero, List.set_cons_succ, i64_w, i32_w]
                      rfl
                    refine pure_ (i := 11) (N := some 45) (v := ?_) (a' := ?_) #[true, true, true, true, true, false, false, true, true, true, true, true, false, true, false, false, false, false, false, false] rfl rfl (any_of HT_.out (by kernel_rfl)) (fun _ _ _ h => h) (Or.inl ⟨by rfl, ?_⟩) ?_ ?_
                    rotate_left
                    · intro w'
                      go_simp
                      with_reducible rfl
                    rotate_left
                    · simp only [Act.put, List.setIfInBounds_toArray, List.set_cons_zero, List.set_cons_succ, i64_w, i32_w]
                      rfl
                    refine pure_ (i := 12) (N := some 46) (v := ?_) (a' := ?_) #[true, true, true, true, true, false, false, true, true, true, true, true, true, true, false, false, false, false, false, false] rfl rfl (any_of HT_.out (by kernel_rfl)) (fun _ _ _ h => h) (Or.inl ⟨by rfl, ?_⟩) ?_ ?_
                    rotate_left
                    · intro w'
                      go_simp
                      with_reducible rfl
                    rotate_left
                    · simp only [Act.put, List.setIfInBounds_toArray, List.set_cons_zero, List.set_cons_succ, i64_w, i32_w]
                      rfl
                    refine join_ (σ := Value × Value) 5 #[true, true, true, true, true, true, true, true, true, true, true, true, true, true, true, false, false, false, false, false] (fun s_ => [(39, s_.1), (40, .string (strOfNums y349)), (48, s_.2)]) (fun s_ w' => (w'.cell? ⟨gb348, 0, none⟩ = some (.int .i64 0) ∧ w'.cell? ⟨gb348, 1, none⟩ = some (.slice none 0 0) ∧ w'.cell? ⟨gb348, 2, none⟩ = some (.slice Ao15 x349002_2.length co15) ∧ w'.cell? (ad352.add (x8_2).toNat) = some (.int .u8 (rd l0 x8_2))) ∧ (Kd.R (Kd.int .u8) 5 w' w.heap.size (fun _ => True) s_.1 y349) ∧ (Kd.S k45 45 w' w.heap.size (fun _ => True) s_.2 y353) ∧ (Kd.R k48 48 w' w.heap.size (fun k_ => some k_ ≠ (s_.2 : Value).ownBlock) (.slice Ao15 x349002_2.length co15) x349002_2) ∧ (w'.heap[gb348]? = some (.cells #[.int .i64 0, .slice none 0 0, .slice Ao15 x349002_2.length co15] 33 (0, 0))) ∧ (Below w.heap.size w w')) ?_ ?_
                    rotate_left
                    · intro hCont
                      refine two_ (i := 5) (j := 14) (Ni := some 39) (Nj := some 48) #[true, true, true, true, true, true, false, true, true, true, true, true, true, true, false, false, false, false, false, false] #[true, true, true, true, true, false, false, true, true, true, true, true, true, true, true, false, false, false, false, false] rfl rfl rfl rfl (two_of HT_.out (by kernel_rfl)) (by decide) (by decide) (fun K hK => ?_) (fun K hK => ?_)
                      · skip
                        refine Kd.R_lit_step (Kd.int .u8) _ 5 ?hg (N := 39) ?hd (xs := ([(wrap64 (97 + x8_2)) % 256] : List Int)) (inner := [.int .u8 ((wrap64 (97 + x8_2)) % 256)]) (ok := fun _ => True) (okp := fun _ => True) ?hr ?hp (fun _ hk => hk) trivial (Below.refl _ _) (Nat.le_refl _) (by simp) ?_; (case hd => rfl); (case hg => rfl); (case hr => first | (go_simp; done) | (go_simp; rfl)); (case hp => exact (Reps.one (show Kd.M (Kd.int .u8) _ _ _ ((wrap64 (97 + x8_2)) % 256) [.int .u8 ((wrap64 (97 + x8_2)) % 256)] from rfl) (Reps.none _ _)))
                        intro v350 w17 ho18 hb hg_ hnew_
                        clear hg_ hnew_
                        (first | rw [← Ny349.out] at ho18 | (simp only [Int.reduceToNat] at ho18; rw [← Ny349.out] at ho18))
                        have n0_ := Aside0.mk (Kd.R_below (by (with_reducible repeat (first | apply Kd.R_alloc | apply Kd.R_drewN | apply Kd.R_drew)); exact HO_349002.out) hb)
                        have n1_ := Aside0.mk (Kd.R_lower ho18 (below_size (by repeat (first | (with_reducible first | exact HB.out | apply below_alloc | apply pw_below_drewN | apply below_drew1 | refine below_set ?_ GE348.out) | exact HB.out))))
                        have n2_ := Aside0.mk (blk_below (g := gb348) (o := .cells #[.int .i64 0, .slice none 0 0, .slice Ao15 x349002_2.length co15] 33 (0, 0)) (by (with_reducible repeat (first | refine blk_drewN ?_ _ | refine blk_drew ?_ | refine blk_alloc ?_ _)); exact BK348.out) hb)
                        have n3_ := Aside0.mk (below_step (by repeat (first | (with_reducible first | exact HB.out | apply below_alloc | apply pw_below_drewN | apply below_drew1 | refine below_set ?_ GE348.out) | exact HB.out)) hb)
                        clear HO_349002
                        clear BK348
                        clear HB
                        have HO_349002 := n0_
                        have HO351 := n1_
                        have BK348 := n2_
                        have HB := n3_
                        clear n0_ n1_ n2_ n3_
                        clear hb ho18
                        refine hK.out _ _ ⟨(blk_cell BK348.out 0).trans rfl, (blk_cell BK348.out 1).trans rfl, (blk_cell BK348.out 2).trans rfl, ((HB.out.cell (World.block_lt_of_cell? w _ hw352_0)).trans hw352_0)⟩ (fun hHeld => ?_)
                        clear hK K
                        refine norm_ (a' := ?_) ?_ ?_
                        rotate_left
                        · show Act.put _ (some 39) _ = _
                          simp only [Act.put, List.setIfInBounds_toArray, List.set_cons_zero, List.set_cons_succ, i64_w, i32_w]
                          rfl
                        refine two_ (i := 6) (j := 14) (Ni := some 40) (Nj := some 48) #[true, true, true, true, true, true, true, true, true, true, true, true, true, true, false, false, false, false, false, false] #[true, true, true, true, true, true, false, true, true, true, true, true, true, true, true, false, false, false, false, false] rfl rfl rfl rfl (two_of HT_.out (by kernel_rfl)) (by decide) (by decide) (fun K hK => ?_) (fun K hK => ?_)
                        · skip
                          have hcv19 := own_string (P := Try.prog) Try.underlying42 Try.underlying5 Try.underlying9 (Kd.own_of_R HO351.out)
                          refine value_ (w1 := ?_) (v := ?_) (by rfl) rfl ?_ ?_
                          rotate_left 2
                          · go_simp
                            constructor
                            · rfl
                            · rfl
                          clear hcv19
                          refine hK.out _ _ ⟨(blk_cell BK348.out 0).trans rfl, (blk_cell BK348.out 1).trans rfl, (blk_cell BK348.out 2).trans rfl, ((HB.out.cell (World.block_lt_of_cell? w _ hw352_0)).trans hw352_0)⟩ (fun hHeld => ?_)
                          clear hK K
                          refine norm_ (a' := ?_) ?_ ?_
                          rotate_left
                          · show Act.put _ (some 40) _ = _
                            simp only [Act.put, List.setIfInBounds_toArray, List.set_cons_zero, List.set_cons_succ, i64_w, i32_w]
                            rfl
                          refine one_ (i := 14) (N := some 48) #[true, true, true, true, true, true, true, true, true, true, true, true, true, true, true, false, false, false, false, false] rfl rfl (one_of HT_.out (by kernel_rfl)) (by decide) (fun K hK => ?_)
                          refine Kd.S_lit_step k45 _ 45 ?hg (N := 48) ?hd (xs := ([(⟨1, 1, 0, 0, ([] : List (S110))⟩ : S45)] : List (S45))) (inner := [.int .i64 1, .int .i64 1, .int .i64 0, .int .i64 0, .slice none 0 0]) (ok := fun _ => True) (okp := fun _ => True) ?hr ?hp (fun _ hk => hk) trivial (Below.refl _ _) (Nat.le_refl _) (by simp) ?_; (case hd => rfl); (case hg => rfl); (case hr => first | (go_simp; done) | (go_simp; rfl)); (case hp => exact (Reps.c5 (show Kd.M k45 _ _ _ (⟨1, 1, 0, 0, ([] : List (S110))⟩ : S45) [.int .i64 1, .int .i64 1, .int .i64 0, .int .i64 0, .slice none 0 0] from (k45_mkM _ _ _ (⟨1, 1, 0, 0, ([] : List (S110))⟩ : S45) (Kd.R_nil _ _ _ _ _))) (Reps.none _ _)))
                          intro v354 w20 ho21 hb hg_ hnew_
                          clear hg_ hnew_
                          (first | rw [← Ny353.out] at ho21 | (simp only [Int.reduceToNat] at ho21; rw [← Ny353.out] at ho21))
                          have n0_ := Aside0.mk (Kd.R_elder' (by (with_reducible repeat (first | apply Kd.R_alloc | apply Kd.R_drewN | apply Kd.R_drew)); exact HO_349002.out) (Kd.S_base ho21) hb)
                          have n1_ := Aside0.mk (Kd.R_below (by (with_reducible repeat (first | apply Kd.R_alloc | apply Kd.R_drewN | apply Kd.R_drew)); exact HO351.out) hb)
                          have n2_ := Aside0.mk (Kd.S_lower ho21 (below_size (by repeat (first | (with_reducible first | exact HB.out | apply below_alloc | apply pw_below_drewN | apply below_drew1 | refine below_set ?_ GE348.out) | exact HB.out))))
                          have n3_ := Aside0.mk (blk_below (g := gb348) (o := .cells #[.int .i64 0, .slice none 0 0, .slice Ao15 x349002_2.length co15] 33 (0, 0)) (by (with_reducible repeat (first | refine blk_drewN ?_ _ | refine blk_drew ?_ | refine blk_alloc ?_ _)); exact BK348.out) hb)
                          have n4_ := Aside0.mk (below_step (by repeat (first | (with_reducible first | exact HB.out | apply below_alloc | apply pw_below_drewN | apply below_drew1 | refine below_set ?_ GE348.out) | exact HB.out)) hb)
                          clear HO_349002
                          clear HO351
                          clear BK348
                          clear HB
                          have HO_349002 := n0_
                          have HO351 := n1_
                          have HO355 := n2_
                          have BK348 := n3_
                          have HB := n4_
                          clear n0_ n1_ n2_ n3_ n4_
                          clear hb ho21
                          obtain ⟨Ao22, co22, eo22⟩ := Kd.S_slice HO355.out
                          (first | subst eo22 | (injection eo22 with f1_ f2_ f3_; have f4_ := f1_.symm; have f5_ := f3_.symm; clear f1_ f2_ f3_; subst f4_; subst f5_))
                          refine hK.out _ _ ⟨(blk_cell BK348.out 0).trans rfl, (blk_cell BK348.out 1).trans rfl, (blk_cell BK348.out 2).trans rfl, ((HB.out.cell (World.block_lt_of_cell? w _ hw352_0)).trans hw352_0)⟩ (fun hHeld => ?_)
                          clear hK K
                          refine norm_ (a' := ?_) ?_ ?_
                          rotate_left
                          · show Act.put _ (some 48) _ = _
                            simp only [Act.put, List.setIfInBounds_toArray, List.set_cons_zero, List.set_cons_succ, i64_w, i32_w]
                            rfl
                          exact norm_ (by simp only [putAll, Act.put, List.setIfInBounds_toArray, List.set_cons_zero, List.set_cons_succ]) (hCont (v350, .slice Ao22 y353.length co22) _ ⟨hHeld, (by (with_reducible repeat (first | apply Kd.R_alloc | apply Kd.R_drewN | apply Kd.R_drew)); exact HO351.out), (by (with_reducible repeat (first | apply Kd.S_alloc | apply Kd.S_drewN | apply Kd.S_drew)); exact HO355.out), (by (with_reducible repeat (first | apply Kd.R_alloc | apply Kd.R_drewN | apply Kd.R_drew)); exact Kd.R_mono HO_349002.out (fun _ hk => hk.2)), (by (with_reducible repeat (first | refine blk_drewN ?_ _ | refine blk_drew ?_ | refine blk_alloc ?_ _)); exact BK348.out), (by repeat (first | (with_reducible first | exact HB.out | apply below_alloc | apply pw_below_drewN | apply below_drew1 | refine below_set ?_ GE348.out) | exact HB.out))⟩)
                        · skip
                          refine Kd.S_lit_step k45 _ 45 ?hg (N := 48) ?hd (xs := ([(⟨1, 1, 0, 0, ([] : List (S110))⟩ : S45)] : List (S45))) (inner := [.int .i64 1, .int .i64 1, .int .i64 0, .int .i64 0, .slice none 0 0]) (ok := fun _ => True) (okp := fun _ => True) ?hr ?hp (fun _ hk => hk) trivial (Below.refl _ _) (Nat.le_refl _) (by simp) ?_; (case hd => rfl); (case hg => rfl); (case hr => first | (go_simp; done) | (go_simp; rfl)); (case hp => exact (Reps.c5 (show Kd.M k45 _ _ _ (⟨1, 1, 0, 0, ([] : List (S110))⟩ : S45) [.int .i64 1, .int .i64 1, .int .i64 0, .int .i64 0, .slice none 0 0] from (k45_mkM _ _ _ (⟨1, 1, 0, 0, ([] : List (S110))⟩ : S45) (Kd.R_nil _ _ _ _ _))) (Reps.none _ _)))
                          intro v354 w19 ho20 hb hg_ hnew_
                          clear hg_ hnew_
                          (first | rw [← Ny353.out] at ho20 | (simp only [Int.reduceToNat] at ho20; rw [← Ny353.out] at ho20))
                          have n0_ := Aside0.mk (Kd.R_elder' (by (with_reducible repeat (first | apply Kd.R_alloc | apply Kd.R_drewN | apply Kd.R_drew)); exact HO_349002.out) (Kd.S_base ho20) hb)
                          have n1_ := Aside0.mk (Kd.R_below (by (with_reducible repeat (first | apply Kd.R_alloc | apply Kd.R_drewN | apply Kd.R_drew)); exact HO351.out) hb)
                          have n2_ := Aside0.mk (Kd.S_lower ho20 (below_size (by repeat (first | (with_reducible first | exact HB.out | apply below_alloc | apply pw_below_drewN | apply below_drew1 | refine below_set ?_ GE348.out) | exact HB.out))))
                          have n3_ := Aside0.mk (blk_below (g := gb348) (o := .cells #[.int .i64 0, .slice none 0 0, .slice Ao15 x349002_2.length co15] 33 (0, 0)) (by (with_reducible repeat (first | refine blk_drewN ?_ _ | refine blk_drew ?_ | refine blk_alloc ?_ _)); exact BK348.out) hb)
                          have n4_ := Aside0.mk (below_step (by repeat (first | (with_reducible first | exact HB.out | apply below_alloc | apply pw_below_drewN | apply below_drew1 | refine below_set ?_ GE348.out) | exact HB.out)) hb)
                          clear HO_349002
                          clear HO351
                          clear BK348
                          clear HB
                          have HO_349002 := n0_
                          have HO351 := n1_
                          have HO355 := n2_
                          have BK348 := n3_
                          have HB := n4_
                          clear n0_ n1_ n2_ n3_ n4_
                          clear hb ho20
                          obtain ⟨Ao22, co22, eo22⟩ := Kd.S_slice HO355.out
                          (first | subst eo22 | (injection eo22 with f1_ f2_ f3_; have f4_ := f1_.symm; have f5_ := f3_.symm; clear f1_ f2_ f3_; subst f4_; subst f5_))
                          refine hK.out _ _ ⟨(blk_cell BK348.out 0).trans rfl, (blk_cell BK348.out 1).trans rfl, (blk_cell BK348.out 2).trans rfl, ((HB.out.cell (World.block_lt_of_cell? w _ hw352_0)).trans hw352_0)⟩ (fun hHeld => ?_)
                          clear hK K
                          refine norm_ (a' := ?_) ?_ ?_
                          rotate_left
                          · show Act.put _ (some 48) _ = _
                            simp only [Act.put, List.setIfInBounds_toArray, List.set_cons_zero, List.set_cons_succ, i64_w, i32_w]
                            rfl
                          refine one_ (i := 6) (N := some 40) #[true, true, true, true, true, true, true, true, true, true, true, true, true, true, true, false, false, false, false, false] rfl rfl (one_of HT_.out (by kernel_rfl)) (by decide) (fun K hK => ?_)
                          have hcv21 := own_string (P := Try.prog) Try.underlying42 Try.underlying5 Try.underlying9 (Kd.own_of_R HO351.out)
                          refine value_ (w1 := ?_) (v := ?_) (by rfl) rfl ?_ ?_
                          rotate_left 2
                          · go_simp
                            constructor
                            · rfl
                            · rfl
                          clear hcv21
                          refine hK.out _ _ ⟨(blk_cell BK348.out 0).trans rfl, (blk_cell BK348.out 1).trans rfl, (blk_cell BK348.out 2).trans rfl, ((HB.out.cell (World.block_lt_of_cell? w _ hw352_0)).trans hw352_0)⟩ (fun hHeld => ?_)
                          clear hK K
                          refine norm_ (a' := ?_) ?_ ?_
                          rotate_left
                          · show Act.put _ (some 40) _ = _
                            simp only [Act.put, List.setIfInBounds_toArray, List.set_cons_zero, List.set_cons_succ, i64_w, i32_w]
                            rfl
                          exact norm_ (by simp only [putAll, Act.put, List.setIfInBounds_toArray, List.set_cons_zero, List.set_cons_succ]) (hCont (v350, .slice Ao22 y353.length co22) _ ⟨hHeld, (by (with_reducible repeat (first | apply Kd.R_alloc | apply Kd.R_drewN | apply Kd.R_drew)); exact HO351.out), (by (with_reducible repeat (first | apply Kd.S_alloc | apply Kd.S_drewN | apply Kd.S_drew)); exact HO355.out), (by (with_reducible repeat (first | apply Kd.R_alloc | apply Kd.R_drewN | apply Kd.R_drew)); exact Kd.R_mono HO_349002.out (fun _ hk => hk.2)), (by (with_reducible repeat (first | refine blk_drewN ?_ _ | refine blk_drew ?_ | refine blk_alloc ?_ _)); exact BK348.out), (by repeat (first | (with_reducible first | exact HB.out | apply below_alloc | apply pw_below_drewN | apply below_drew1 | refine below_set ?_ GE348.out) | exact HB.out))⟩)
                      · skip
                        refine Kd.S_lit_step k45 _ 45 ?hg (N := 48) ?hd (xs := ([(⟨1, 1, 0, 0, ([] : List (S110))⟩ : S45)] : List (S45))) (inner := [.int .i64 1, .int .i64 1, .int .i64 0, .int .i64 0, .slice none 0 0]) (ok := fun _ => True) (okp := fun _ => True) ?hr ?hp (fun _ hk => hk) trivial (Below.refl _ _) (Nat.le_refl _) (by simp) ?_; (case hd => rfl); (case hg => rfl); (case hr => first | (go_simp; done) | (go_simp; rfl)); (case hp => exact (Reps.c5 (show Kd.M k45 _ _ _ (⟨1, 1, 0, 0, ([] : List (S110))⟩ : S45) [.int .i64 1, .int .i64 1, .int .i64 0, .int .i64 0, .slice none 0 0] from (k45_mkM _ _ _ (⟨1, 1, 0, 0, ([] : List (S110))⟩ : S45) (Kd.R_nil _ _ _ _ _))) (Reps.none _ _)))
                        intro v354 w17 ho18 hb hg_ hnew_
                        clear hg_ hnew_
                        (first | rw [← Ny353.out] at ho18 | (simp only [Int.reduceToNat] at ho18; rw [← Ny353.out] at ho18))
                        have n0_ := Aside0.mk (Kd.R_elder' (by (with_reducible repeat (first | apply Kd.R_alloc | apply Kd.R_drewN | apply Kd.R_drew)); exact HO_349002.out) (Kd.S_base ho18) hb)
                        have n1_ := Aside0.mk (Kd.S_lower ho18 (below_size (by repeat (first | (with_reducible first | exact HB.out | apply below_alloc | apply pw_below_drewN | apply below_drew1 | refine below_set ?_ GE348.out) | exact HB.out))))
                        have n2_ := Aside0.mk (blk_below (g := gb348) (o := .cells #[.int .i64 0, .slice none 0 0, .slice Ao15 x349002_2.length co15] 33 (0, 0)) (by (with_reducible repeat (first | refine blk_drewN ?_ _ | refine blk_drew ?_ | refine blk_alloc ?_ _)); exact BK348.out) hb)
                        have n3_ := Aside0.mk (below_step (by repeat (first | (with_reducible first | exact HB.out | apply below_alloc | apply pw_below_drewN | apply below_drew1 | refine below_set ?_ GE348.out) | exact HB.out)) hb)
                        clear HO_349002
                        clear BK348
                        clear HB
                        have HO_349002 := n0_
                        have HO355 := n1_
                        have BK348 := n2_
                        have HB := n3_
                        clear n0_ n1_ n2_ n3_
                        clear hb ho18
                        refine hK.out _ _ ⟨(blk_cell BK348.out 0).trans rfl, (blk_cell BK348.out 1).trans rfl, (blk_cell BK348.out 2).trans rfl, ((HB.out.cell (World.block_lt_of_cell? w _ hw352_0)).trans hw352_0)⟩ (fun hHeld => ?_)
                        clear hK K
                        refine norm_ (a' := ?_) ?_ ?_
                        rotate_left
                        · show Act.put _ (some 48) _ = _
                          simp only [Act.put, List.setIfInBounds_toArray, List.set_cons_zero, List.set_cons_succ, i64_w, i32_w]
                          rfl
                        refine one_ (i := 5) (N := some 39) #[true, true, true, true, true, true, false, true, true, true, true, true, true, true, true, false, false, false, false, false] rfl rfl (one_of HT_.out (by kernel_rfl)) (by decide) (fun K hK => ?_)
                        refine Kd.R_lit_step (Kd.int .u8) _ 5 ?hg (N := 39) ?hd (xs := ([(wrap64 (97 + x8_2)) % 256] : List Int)) (inner := [.int .u8 ((wrap64 (97 + x8_2)) % 256)]) (ok := fun _ => True) (okp := fun _ => True) ?hr ?hp (fun _ hk => hk) trivial (Below.refl _ _) (Nat.le_refl _) (by simp) ?_; (case hd => rfl); (case hg => rfl); (case hr => first | (go_simp; done) | (go_simp; rfl)); (case hp => exact (Reps.one (show Kd.M (Kd.int .u8) _ _ _ ((wrap64 (97 + x8_2)) % 256) [.int .u8 ((wrap64 (97 + x8_2)) % 256)] from rfl) (Reps.none _ _)))
                        intro v350 w19 ho20 hb hg_ hnew_
                        clear hg_ hnew_
                        (first | rw [← Ny349.out] at ho20 | (simp only [Int.reduceToNat] at ho20; rw [← Ny349.out] at ho20))
                        have n0_ := Aside0.mk (Kd.R_below (by (with_reducible repeat (first | apply Kd.R_alloc | apply Kd.R_drewN | apply Kd.R_drew)); exact HO_349002.out) hb)
                        have n1_ := Aside0.mk (Kd.S_below (by (with_reducible repeat (first | apply Kd.S_alloc | apply Kd.S_drewN | apply Kd.S_drew)); exact HO355.out) hb)
                        have n2_ := Aside0.mk (Kd.R_lower ho20 (below_size (by repeat (first | (with_reducible first | exact HB.out | apply below_alloc | apply pw_below_drewN | apply below_drew1 | refine below_set ?_ GE348.out) | exact HB.out))))
                        have n3_ := Aside0.mk (blk_below (g := gb348) (o := .cells #[.int .i64 0, .slice none 0 0, .slice Ao15 x349002_2.length co15] 33 (0, 0)) (by (with_reducible repeat (first | refine blk_drewN ?_ _ | refine blk_drew ?_ | refine blk_alloc ?_ _)); exact BK348.out) hb)
                        have n4_ := Aside0.mk (below_step (by repeat (first | (with_reducible first | exact HB.out | apply below_alloc | apply pw_below_drewN | apply below_drew1 | refine below_set ?_ GE348.out) | exact HB.out)) hb)
                        clear HO_349002
                        clear HO355
                        clear BK348
                        clear HB
                        have HO_349002 := n0_
                        have HO355 := n1_
                        have HO351 := n2_
                        have BK348 := n3_
                        have HB := n4_
                        clear n0_ n1_ n2_ n3_ n4_
                        clear hb ho20
                        obtain ⟨Ao22, co22, eo22⟩ := Kd.S_slice HO355.out
                        (first | subst eo22 | (injection eo22 with f1_ f2_ f3_; have f4_ := f1_.symm; have f5_ := f3_.symm; clear f1_ f2_ f3_; subst f4_; subst f5_))
                        refine hK.out _ _ ⟨(blk_cell BK348.out 0).trans rfl, (blk_cell BK348.out 1).trans rfl, (blk_cell BK348.out 2).trans rfl, ((HB.out.cell (World.block_lt_of_cell? w _ hw352_0)).trans hw352_0)⟩ (fun hHeld => ?_)
                        clear hK K
                        refine norm_ (a' := ?_) ?_ ?_
                        rotate_left
                        · show Act.put _ (some 39) _ = _
                          simp only [Act.put, List.setIfInBounds_toArray, List.set_cons_zero, List.set_cons_succ, i64_w, i32_w]
                          rfl
                        refine one_ (i := 6) (N := some 40) #[true, true, true, true, true, true, true, true, true, true, true, true, true, true, true, false, false, false, false, false] rfl rfl (one_of HT_.out (by kernel_rfl)) (by decide) (fun K hK => ?_)
                        have hcv21 := own_string (P := Try.prog) Try.underlying42 Try.underlying5 Try.underlying9 (Kd.own_of_R HO351.out)
                        refine value_ (w1 := ?_) (v := ?_) (by rfl) rfl ?_ ?_
                        rotate_left 2
                        · go_simp
                          constructor
                          · rfl
                          · rfl
                        clear hcv21
                        refine hK.out _ _ ⟨(blk_cell BK348.out 0).trans rfl, (blk_cell BK348.out 1).trans rfl, (blk_cell BK348.out 2).trans rfl, ((HB.out.cell (World.block_lt_of_cell? w _ hw352_0)).trans hw352_0)⟩ (fun hHeld => ?_)
                        clear hK K
                        refine norm_ (a' := ?_) ?_ ?_
                        rotate_left
                        · show Act.put _ (some 40) _ = _
                          simp only [Act.put, List.setIfInBounds_toArray, List.set_cons_zero, List.set_cons_succ, i64_w, i32_w]
                          rfl
                        exact norm_ (by simp only [putAll, Act.put, List.setIfInBounds_toArray, List.set_cons_zero, List.set_cons_succ]) (hCont (v350, .slice Ao22 y353.length co22) _ ⟨hHeld, (by (with_reducible repeat (first | apply Kd.R_alloc | apply Kd.R_drewN | apply Kd.R_drew)); exact HO351.out), (by (with_reducible repeat (first | apply Kd.S_alloc | apply Kd.S_drewN | apply Kd.S_drew)); exact HO355.out), (by (with_reducible repeat (first | apply Kd.R_alloc | apply Kd.R_drewN | apply Kd.R_drew)); exact Kd.R_mono HO_349002.out (fun _ hk => hk.2)), (by (with_reducible repeat (first | refine blk_drewN ?_ _ | refine blk_drew ?_ | refine blk_alloc ?_ _)); exact BK348.out), (by repeat (first | (with_reducible first | exact HB.out | apply below_alloc | apply pw_below_drewN | apply below_drew1 | refine below_set ?_ GE348.out) | exact HB.out))⟩)
                    rintro ⟨v350, v354⟩ w23 ⟨hS_, h0_, h1_, h2_, h3_, h4_⟩
                    have n0_ : Aside0 (Kd.R (Kd.int .u8) 5 w23 w.heap.size (fun _ => True) v350 y349) := ⟨h0_⟩
                    have n1_ : Aside0 (Kd.S k45 45 w23 w.heap.size (fun _ => True) v354 y353) := ⟨h1_⟩
                    have n2_ : Aside0 (Kd.R k48 48 w23 w.heap.size (fun k_ => some k_ ≠ (v354 : Value).ownBlock) (.slice Ao15 x349002_2.length co15) x349002_2) := ⟨h2_⟩
                    have n3_ : Aside0 (w23.heap[gb348]? = some (.cells #[.int .i64 0, .slice none 0 0, .slice Ao15 x349002_2.length co15] 33 (0, 0))) := ⟨h3_⟩
                    have n4_ : Aside0 (Below w.heap.size w w23) := ⟨h4_⟩
                    clear HO_349002
                    clear BK348
                    clear HB
                    clear h0_ h1_ h2_ h3_ h4_
                    have HO351 := n0_
                    have HO355 := n1_
                    have HO_349002 := n2_
                    have BK348 := n3_
                    have HB := n4_
                    clear n0_ n1_ n2_ n3_ n4_
                    have hHeld : w23.cell? ⟨gb348, 0, none⟩ = some (.int .i64 0) ∧ w23.cell? ⟨gb348, 1, none⟩ = some (.slice none 0 0) ∧ w23.cell? ⟨gb348, 2, none⟩ = some (.slice Ao15 x349002_2.length co15) ∧ w23.cell? (ad352.add (x8_2).toNat) = some (.int .u8 (rd l0 x8_2)) := hS_
                    obtain ⟨Ao24, co24, eo24⟩ := Kd.S_slice HO355.out
                    (first | subst eo24 | (injection eo24 with f1_ f2_ f3_; have f4_ := f1_.symm; have f5_ := f3_.symm; clear f1_ f2_ f3_; subst f4_; subst f5_))
                    refine norm_ (a' := ?_) ?_ ?_
                    rotate_left
                    · simp only [putAll, Act.put, List.setIfInBounds_toArray, List.set_cons_zero, List.set_cons_succ]
                      rfl
                    refine pure_ (i := 15) (N := some 49) (v := ?_) (a' := ?_) #[true, true, true, true, true, true, true, true, true, true, true, true, true, true, true, true, false, false, false, false] rfl rfl (any_of HT_.out (by kernel_rfl)) (fun _ _ _ h => h) (Or.inl ⟨by rfl, ?_⟩) ?_ ?_
                    rotate_left
                    · intro w'
                      go_simp
                      with_reducible rfl
                    rotate_left
                    · simp only [Act.put, List.setIfInBounds_toArray, List.set_cons_zero, List.set_cons_succ, i64_w, i32_w]
                      rfl
                    refine one_ (i := 16) (N := some 50) #[true, true, true, true, true, true, true, true, true, true, true, true, true, true, true, true, true, false, false, false] rfl rfl (one_of HT_.out (by kernel_rfl)) (by decide) (fun K hK => ?_)
                    refine value_ (w1 := ?_) (v := ?_) (by rfl) rfl ?_ ?_
                    rotate_left 2
                    · go_simp
                      constructor
                      · rfl
                      · rfl
                    refine hK.out _ _ ⟨(blk_cell (blk_alloc BK348.out _) 0).trans rfl, (blk_cell (blk_alloc BK348.out _) 1).trans rfl, (blk_cell (blk_alloc BK348.out _) 2).trans rfl, (World.cell?_alloc_lt _ _ _ (World.block_lt_of_cell? _ _ (((HB.out.cell (World.block_lt_of_cell? w _ hw352_0)).trans hw352_0)))).trans (((HB.out.cell (World.block_lt_of_cell? w _ hw352_0)).trans hw352_0))⟩ (fun hHeld => ?_)
                    clear hK K
                    refine norm_ (a' := ?_) ?_ ?_
                    rotate_left
                    · show Act.put _ (some 50) _ = _
                      simp only [Act.put, List.setIfInBounds_toArray, List.set_cons_zero, List.set_cons_succ, i64_w, i32_w]
                      rfl
                    refine one_ (i := 17) (N := some 51) #[true, true, true, true, true, true, true, true, true, true, true, true, true, true, true, true, true, true, false, false] rfl rfl (one_of HT_.out (by kernel_rfl)) (by decide) (fun K hK => ?_)
                    refine Kd.R_append_step k48 (w0 := w) w.heap.size (by rfl) (.tmp 35) (.tmp 50) 31 48 (.agg #[(.string ⟨#[]⟩), (.int .i64 0), (.int .i64 0), (.int .i64 0), (.slice none 0 0)]) 64 rfl Try.underlying31 info48 rfl (by decide) (by omega) (.slice Ao15 x349002_2.length co15) x349002_2 (⟨strOfNums y349, 900, wrap64 (300 + (wrap64 (rd l0 x8_2))), 1, y353⟩ : S48) [.string (strOfNums y349), .int .i64 900, .int .i64 (wrap64 (300 + (wrap64 (rd l0 x8_2)))), .int .i64 1, .slice Ao24 y353.length co24] (fun _ => True) (fun k_ => ((fun _ => True)) k_ ∧ some k_ ≠ (.slice Ao15 x349002_2.length co15 : Value).ownBlock) rfl rfl ?aP (fun _ hk => hk) ?aF ?aO ?aB ?aS ?aL ?_
                    (case aP => exact k48_mkM _ _ _ (⟨strOfNums y349, 900, wrap64 (300 + (wrap64 (rd l0 x8_2))), 1, y353⟩ : S48) (Kd.R_mono (Kd.R_apart' ((Kd.S_R HO355.out)) (Kd.R_typed HO_349002.out) (by decide)) (fun k_ hk => ⟨trivial, hk.2⟩)))
                    (case aB => exact (by repeat (first | (with_reducible first | exact HB.out | apply below_alloc | apply pw_below_drewN | apply below_drew1 | refine below_set ?_ GE348.out) | exact HB.out)))
                    (case aF => exact (fun _ _ => trivial))
                    (case aO => exact (by (with_reducible repeat (first | apply Kd.R_alloc | apply Kd.R_drewN | apply Kd.R_drew)); exact Kd.R_mono HO_349002.out (fun _ hk => trivial)))
                    (case aS => exact (below_size (by repeat (first | (with_reducible first | exact HB.out | apply below_alloc | apply pw_below_drewN | apply below_drew1 | refine below_set ?_ GE348.out) | exact HB.out))))
                    (case aL => have := LMc14.out; omega)
                    intro v357 w25 ho hb hg hat
                    rw [← Ny356.out] at ho
                    have n0_ := Aside0.mk (blk_grown (g := gb348) (o := .cells #[.int .i64 0, .slice none 0 0, .slice Ao15 x349002_2.length co15] 33 (0, 0)) (by (with_reducible repeat (first | refine blk_drewN ?_ _ | refine blk_drew ?_ | refine blk_alloc ?_ _)); exact BK348.out) hg (Kd.R_ne HO_349002.out BK348.out (by decide)))
                    have n1_ := Aside0.mk (Kd.R_over' (by (with_reducible repeat (first | apply Kd.R_alloc | apply Kd.R_drewN | apply Kd.R_drew)); exact HO351.out) (Kd.R_typed (by (with_reducible repeat (first | apply Kd.R_alloc | apply Kd.R_drewN | apply Kd.R_drew)); exact HO_349002.out)) (by decide) hg)
                    have n2_ := Aside0.mk (hb)
                    have n3_ := Aside0.mk (ho)
                    clear BK348
                    clear HO351
                    clear HB
                    clear HO_349002
                    clear HO355
                    have BK348 := n0_
                    have HO351 := n1_
                    have HB := n2_
                    have HO358 := n3_
                    clear n0_ n1_ n2_ n3_
                    clear ho hb hg hat
                    obtain ⟨Ao26, co26, eo26⟩ := Kd.R_slice HO358.out
                    (first | subst eo26 | (injection eo26 with f1_ f2_ f3_; have f4_ := f1_.symm; have f5_ := f3_.symm; clear f1_ f2_ f3_; subst f4_; subst f5_))
                    refine hK.out _ _ ⟨(blk_cell BK348.out 0).trans rfl, (blk_cell BK348.out 1).trans rfl, (blk_cell BK348.out 2).trans rfl, ((HB.out.cell (World.block_lt_of_cell? w _ hw352_0)).trans hw352_0)⟩ (fun hHeld => ?_)
                    clear hK K
                    refine norm_ (a' := ?_) ?_ ?_
                    rotate_left
                    · show Act.put _ (some 51) _ = _
                      simp only [Act.put, List.setIfInBounds_toArray, List.set_cons_zero, List.set_cons_succ, i64_w, i32_w]
                      rfl
                    refine pure_ (i := 18) (N := some 52) (v := ?_) (a' := ?_) #[true, true, true, true, true, true, true, true, true, true, true, true, true, true, true, true, true, true, true, false] rfl rfl (any_of HT_.out (by kernel_rfl)) (fun _ _ _ h => h) (Or.inl ⟨by rfl, ?_⟩) ?_ ?_
                    rotate_left
                    · intro w'
                      go_simp
                      with_reducible rfl
                    rotate_left
                    · simp only [Act.put, List.setIfInBounds_toArray, List.set_cons_zero, List.set_cons_succ, i64_w, i32_w]
                      rfl
                    refine last_ (i := 19) (N := none) #[true, true, true, true, true, true, true, true, true, true, true, true, true, true, true, true, true, true, true, true] rfl rfl (one_of HT_.out (by kernel_rfl)) (by decide) (fun K hK => ?_)
                    have hs27 : w25.cell? ⟨gb348, 2, none⟩ = some (.slice Ao15 x349002_2.length co15) := (blk_cell BK348.out 2).trans rfl
                    have hfs27 := blk_frozen BK348.out 2
                    refine skip_ (w1 := ?_) (by rfl) rfl ?_ ?_
                    rotate_left
                    · go_simp
                      rfl
                    refine hK.out _ _ ?_
                    clear hK K
                    refine done_ (done_of HT_.out (by kernel_rfl)) ?_
                    try go_wp2
                    go_roundg k2
                    case measure => have := HJ5.out; have := HK2.out; omega
                    case rel => exact ⟨(wrap64 (x8_2 + 1)), (y356), (.slice Ao26 y356.length co26), (by first | rfl | (simp; done) | (simp [*]; done) | (simp [Int.tdiv_eq_ediv_of_nonneg]; done)), H', ⟨by have := HJ5.out; have := HK2.out; omega⟩, ⟨by (with_reducible repeat (first | apply Kd.R_alloc | apply Kd.R_drewN | apply Kd.R_drew)); exact Kd.R_mono (Kd.R_far (p := ⟨gb348, 2, none⟩) (Kd.R_types HO358.out BK348.out (by decide)) (fun _ hk => hk.2) (.slice Ao26 y356.length co26)) (fun _ hk => trivial)⟩, ⟨by (with_reducible repeat (first | refine blk_drewN ?_ _ | refine blk_drew ?_ | refine blk_alloc ?_ _)); refine blk_put (cs := #[.int .i64 0, .slice none 0 0, .slice Ao15 x349002_2.length co15]) ?_ 2 _ rfl; (with_reducible repeat (first | refine blk_drewN ?_ _ | refine blk_drew ?_ | refine blk_alloc ?_ _)); exact BK348.out⟩, ⟨by repeat (first | (with_reducible first | exact HB.out | apply below_alloc | apply pw_below_drewN | apply below_drew1 | refine below_set ?_ GE348.out) | exact HB.out)⟩⟩
                  · rw [if_neg c14] at H
                    exact absurd H (by simp)
                · rw [if_neg c13] at H
                  exact absurd H (by simp)
              · rw [if_neg c12] at H
                have c12b0 : decide (x8_2 < (l0.length : Int)) = false := decide_eq_false c12
                clear c12
                by_cases c28 : (l0.length : Int) = 0
                · rw [if_pos c28] at H
                  exact absurd H (by simp)
                · rw [if_neg c28] at H
                  have c28b0 : ((l0.length : Int) == 0) = false := beq_eq_false_iff_ne.mpr c28
                  have c28b1 : ((l0.length : Int) != 0) = true := bne_iff_ne.mpr c28
                  have c28b2 : ¬ (l0 = []) := fun h_ => c28 (by rw [h_]; rfl)
                  replace H := Option.bind_eq_some_iff.mp H
                  obtain ⟨t359, A290, H⟩ := H
                  replace H : ((order_Prios.f 0 ([] : List (S66)) x349002_2).bind fun t362 => ((watchbilllaw9_without.f k2 t362 (Int.tmod (wrap64 (a1)) (l0.length : Int))).bind fun t365 => (if 0 ≤ (Int.tmod (wrap64 (a1)) (l0.length : Int)) then (if (Int.tmod (wrap64 (a1)) (l0.length : Int)) < (x349002_2.length : Int) then ((some (x349002_2.set ((Int.tmod (wrap64 (a1)) (l0.length : Int)) : Int).toNat (⟨(rd_T48 x349002_2 (Int.tmod (wrap64 (a1)) (l0.length : Int))).f0, (rd_T48 x349002_2 (Int.tmod (wrap64 (a1)) (l0.length : Int))).f1, wrap64 (((rd_T48 x349002_2 (Int.tmod (wrap64 (a1)) (l0.length : Int))).f2) - (wrap64 (a2))), (rd_T48 x349002_2 (Int.tmod (wrap64 (a1)) (l0.length : Int))).f3, (rd_T48 x349002_2 (Int.tmod (wrap64 (a1)) (l0.length : Int))).f4⟩ : S48) : List (S48))).bind fun y369 => ((order_Higher.f k2 0 ([] : List (S66)) y369 (Int.tmod (wrap64 (a1)) (l0.length : Int))).bind fun t370 => ((order_Prios.f 0 ([] : List (S66)) y369).bind fun t373 => ((watchbilllaw9_without.f k2 t373 (Int.tmod (wrap64 (a1)) (l0.length : Int))).bind fun t376 => (if (t370.length : Int) > (t359.length : Int) then (some false) else (watchbilllaw9_OrderMoves.l1 k2 t359 t365 t370 t376 0)))))) else (none)) else (none)))) = some r := H
                  have A29 := Aside0.mk A290
                  clear A290
                  replace H := Option.bind_eq_some_iff.mp H
                  obtain ⟨t362, A300, H⟩ := H
                  replace H : ((watchbilllaw9_without.f k2 t362 (Int.tmod (wrap64 (a1)) (l0.length : Int))).bind fun t365 => (if 0 ≤ (Int.tmod (wrap64 (a1)) (l0.length : Int)) then (if (Int.tmod (wrap64 (a1)) (l0.length : Int)) < (x349002_2.length : Int) then ((some (x349002_2.set ((Int.tmod (wrap64 (a1)) (l0.length : Int)) : Int).toNat (⟨(rd_T48 x349002_2 (Int.tmod (wrap64 (a1)) (l0.length : Int))).f0, (rd_T48 x349002_2 (Int.tmod (wrap64 (a1)) (l0.length : Int))).f1, wrap64 (((rd_T48 x349002_2 (Int.tmod (wrap64 (a1)) (l0.length : Int))).f2) - (wrap64 (a2))), (rd_T48 x349002_2 (Int.tmod (wrap64 (a1)) (l0.length : Int))).f3, (rd_T48 x349002_2 (Int.tmod (wrap64 (a1)) (l0.length : Int))).f4⟩ : S48) : List (S48))).bind fun y369 => ((order_Higher.f k2 0 ([] : List (S66)) y369 (Int.tmod (wrap64 (a1)) (l0.length : Int))).bind fun t370 => ((order_Prios.f 0 ([] : List (S66)) y369).bind fun t373 => ((watchbilllaw9_without.f k2 t373 (Int.tmod (wrap64 (a1)) (l0.length : Int))).bind fun t376 => (if (t370.length : Int) > (t359.length : Int) then (some false) else (watchbilllaw9_OrderMoves.l1 k2 t359 t365 t370 t376 0)))))) else (none)) else (none))) = some r := H
                  have A30 := Aside0.mk A300
                  clear A300
                  replace H := Option.bind_eq_some_iff.mp H
                  obtain ⟨t365, A310, H⟩ := H
                  replace H : (if 0 ≤ (Int.tmod (wrap64 (a1)) (l0.length : Int)) then (if (Int.tmod (wrap64 (a1)) (l0.length : Int)) < (x349002_2.length : Int) then ((some (x349002_2.set ((Int.tmod (wrap64 (a1)) (l0.length : Int)) : Int).toNat (⟨(rd_T48 x349002_2 (Int.tmod (wrap64 (a1)) (l0.length : Int))).f0, (rd_T48 x349002_2 (Int.tmod (wrap64 (a1)) (l0.length : Int))).f1, wrap64 (((rd_T48 x349002_2 (Int.tmod (wrap64 (a1)) (l0.length : Int))).f2) - (wrap64 (a2))), (rd_T48 x349002_2 (Int.tmod (wrap64 (a1)) (l0.length : Int))).f3, (rd_T48 x349002_2 (Int.tmod (wrap64 (a1)) (l0.length : Int))).f4⟩ : S48) : List (S48))).bind fun y369 => ((order_Higher.f k2 0 ([] : List (S66)) y369 (Int.tmod (wrap64 (a1)) (l0.length : Int))).bind fun t370 => ((order_Prios.f 0 ([] : List (S66)) y369).bind fun t373 => ((watchbilllaw9_without.f k2 t373 (Int.tmod (wrap64 (a1)) (l0.length : Int))).bind fun t376 => (if (t370.length : Int) > (t359.length : Int) then (some false) else (watchbilllaw9_OrderMoves.l1 k2 t359 t365 t370 t376 0)))))) else (none)) else (none)) = some r := H
                  have A31 := Aside0.mk A310
                  clear A310
                  obtain ⟨ji32, hji32⟩ : ∃ j_ : Int, (Int.tmod (wrap64 (a1)) (l0.length : Int)) = j_ := ⟨_, rfl⟩
                  replace H : (if 0 ≤ (ji32) then (if (ji32) < (x349002_2.length : Int) then ((some (x349002_2.set ((ji32) : Int).toNat (⟨(rd_T48 x349002_2 (ji32)).f0, (rd_T48 x349002_2 (ji32)).f1, wrap64 (((rd_T48 x349002_2 (ji32)).f2) - (wrap64 (a2))), (rd_T48 x349002_2 (ji32)).f3, (rd_T48 x349002_2 (ji32)).f4⟩ : S48) : List (S48))).bind fun y369 => ((order_Higher.f k2 0 ([] : List (S66)) y369 (ji32)).bind fun t370 => ((order_Prios.f 0 ([] : List (S66)) y369).bind fun t373 => ((watchbilllaw9_without.f k2 t373 (ji32)).bind fun t376 => (if (t370.length : Int) > (t359.length : Int) then (some false) else (watchbilllaw9_OrderMoves.l1 k2 t359 t365 t370 t376 0)))))) else (none)) else (none)) = some r := by first | (rw [hji32] at H; exact H) | (simp only [hji32] at H ⊢; exact H)
                  (try rw [hji32] at A29)
                  (try rw [hji32] at A30)
                  (try rw [hji32] at A31)
                  by_cases c33 : 0 ≤ (ji32)
                  · rw [if_pos c33] at H
                    have c33b0 : decide (0 ≤ (ji32)) = true := decide_eq_true c33
                    clear c33
                    by_cases c34 : (ji32) < (x349002_2.length : Int)
                    · rw [if_pos c34] at H
                      have c34b0 : decide ((ji32) < (x349002_2.length : Int)) = true := decide_eq_true c34
                      clear c34
                      obtain ⟨y369, hy369⟩ : ∃ y_ : List (S48), y_ = (x349002_2.set ((ji32) : Int).toNat (⟨(rd_T48 x349002_2 (ji32)).f0, (rd_T48 x349002_2 (ji32)).f1, wrap64 (((rd_T48 x349002_2 (ji32)).f2) - (wrap64 (a2))), (rd_T48 x349002_2 (ji32)).f3, (rd_T48 x349002_2 (ji32)).f4⟩ : S48)) := ⟨_, rfl⟩
                      replace H : ((order_Higher.f k2 0 ([] : List (S66)) y369 (ji32)).bind fun t370 => ((order_Prios.f 0 ([] : List (S66)) y369).bind fun t373 => ((watchbilllaw9_without.f k2 t373 (ji32)).bind fun t376 => (if (t370.length : Int) > (t359.length : Int) then (some false) else (watchbilllaw9_OrderMoves.l1 k2 t359 t365 t370 t376 0))))) = some r := by first | (rw [hy369]; with_reducible exact H) | (have H2_ := (Option.bind_some _ _).symm.trans H; rw [hy369]; with_reducible exact H2_) | (have H2_ := (Option.bind_some _ _).symm.trans H; with_reducible exact H2_) | with_reducible exact H | (rw [hy369]; exact H) | exact H
                      have Ny369 := Aside0.mk hy369
                      clear hy369
                      replace H := Option.bind_eq_some_iff.mp H
                      obtain ⟨t370, A360, H⟩ := H
                      replace H : ((order_Prios.f 0 ([] : List (S66)) y369).bind fun t373 => ((watchbilllaw9_without.f k2 t373 (ji32)).bind fun t376 => (if (t370.length : Int) > (t359.length : Int) then (some false) else (watchbilllaw9_OrderMoves.l1 k2 t359 t365 t370 t376 0)))) = some r := H
                      have A36 := Aside0.mk A360
                      clear A360
                      replace H := Option.bind_eq_some_iff.mp H
                      obtain ⟨t373, A370, H⟩ := H
                      replace H : ((watchbilllaw9_without.f k2 t373 (ji32)).bind fun t376 => (if (t370.length : Int) > (t359.length : Int) then (some false) else (watchbilllaw9_OrderMoves.l1 k2 t359 t365 t370 t376 0))) = some r := H
                      have A37 := Aside0.mk A370
                      clear A370
                      replace H := Option.bind_eq_some_iff.mp H
                      obtain ⟨t376, A380, H⟩ := H
                      replace H : (if (t370.length : Int) > (t359.length : Int) then (some false) else (watchbilllaw9_OrderMoves.l1 k2 t359 t365 t370 t376 0)) = some r := H
                      have A38 := Aside0.mk A380
                      clear A380
                      by_cases c39 : (t370.length : Int) > (t359.length : Int)
                      · rw [if_pos c39] at H
                        have c39b0 : decide ((t359.length : Int) < (t370.length : Int)) = true := decide_eq_true c39
                        have c39b1 : decide (t359.length < t370.length) = true := decide_eq_true (Int.ofNat_lt.mp c39)
                        clear c39
                        obtain rfl := Option.some.inj H
                        have hcz40_0 : wr.cell? ⟨gb348, 0, none⟩ = some (.int .i64 0) := (blk_cell BK348.out 0).trans rfl
                        have hcz40_1 : wr.cell? ⟨gb348, 1, none⟩ = some (.slice none 0 0) := (blk_cell BK348.out 1).trans rfl
                        have hcz40_2 : wr.cell? ⟨gb348, 2, none⟩ = some (u349002) := (blk_cell BK348.out 2).trans rfl
                        have hfz40_0 := blk_frozen BK348.out 0
                        have hfz40_1 := blk_frozen BK348.out 1
                        have hfz40_2 := blk_frozen BK348.out 2
                        obtain ⟨Ao41, co41, eo41⟩ := Kd.R_slice HO_349002.out
                        subst eo41
                        try go_wp2_with (first | ((with_reducible refine gate_callee (f := 11) rfl ?_); refine goesL_ (some 60) rfl rfl Try.func11 (by kernel_rfl) rfl #[.agg #[.int .i64 0, .slice none 0 0, .slice Ao41 x349002_2.length co41], .int .i64 ji32] rfl (by (try simp only [List.map_toArray, List.map_cons, List.map_nil]); first | done | (simp only [hji32]; rfl) | rfl | (simp only [List.length_drop, List.length_take]; rfl)) ?_; (refine (order_Higher.calls k2 0 _ _ ([] : List (S66)) _ _ x349002_2 ji32 t359 _ ?side1 ?side2 ?side3 ?side4 A29.out).mono ?_); (case side1 => exact Kd.C_nil _ _); (case side2 => exact Nat.le_refl _); (case side3 => repeat (first | exact (Kd.R_reads' HO_349002.out).2.2 | (with_reducible refine Kd.C_alloc ?_ _) | (with_reducible refine Kd.C_drewN ?_ _) | (with_reducible refine Kd.C_drew ?_))); (case side4 => exact (Kd.R_reads' HO_349002.out).2.1); rintro e w42 ⟨v360, rfl, ho0, hb⟩; refine ⟨_, rfl, ?_⟩; have n0_ := Aside0.mk (Kd.R_below (by (with_reducible repeat (first | apply Kd.R_alloc | apply Kd.R_drewN | apply Kd.R_drew)); exact HO_349002.out) hb); have n1_ := Aside0.mk (Kd.R_lower ho0 (below_size (by repeat (first | (with_reducible first | exact HB.out | apply below_alloc | apply pw_below_drewN | apply below_drew1 | refine below_set ?_ GE348.out) | exact HB.out)))); have n2_ := Aside0.mk (blk_below (g := gb348) (o := .cells #[.int .i64 0, .slice none 0 0, .slice Ao41 x349002_2.length co41] 33 (0, 0)) (by (with_reducible repeat (first | refine blk_drewN ?_ _ | refine blk_drew ?_ | refine blk_alloc ?_ _)); exact BK348.out) hb); have n3_ := Aside0.mk (below_step (by repeat (first | (with_reducible first | exact HB.out | apply below_alloc | apply pw_below_drewN | apply below_drew1 | refine below_set ?_ GE348.out) | exact HB.out)) hb); clear HO_349002; clear BK348; clear HB; have HO_349002 := n0_; have HO361 := n1_; have BK348 := n2_; have HB := n3_; clear n0_ n1_ n2_ n3_; (try clear hb); (try clear hb2); (try clear hk); (try clear hi); (try clear ho0); have hcz43_0 : w42.cell? ⟨gb348, 0, none⟩ = some (.int .i64 0) := (blk_cell BK348.out 0).trans rfl; have hcz43_1 : w42.cell? ⟨gb348, 1, none⟩ = some (.slice none 0 0) := (blk_cell BK348.out 1).trans rfl; have hcz43_2 : w42.cell? ⟨gb348, 2, none⟩ = some (.slice Ao41 x349002_2.length co41) := (blk_cell BK348.out 2).trans rfl; have hfz43_0 := blk_frozen BK348.out 0; have hfz43_1 := blk_frozen BK348.out 1; have hfz43_2 := blk_frozen BK348.out 2) | ((with_reducible refine gate_callee (f := 14) rfl ?_); refine goesL_ (some 62) rfl rfl Try.func14 (by kernel_rfl) rfl #[.agg #[.int .i64 0, .slice none 0 0, .slice Ao41 x349002_2.length co41]] rfl (by (try simp only [List.map_toArray, List.map_cons, List.map_nil]); first | done | rfl | (simp only [List.length_drop, List.length_take]; rfl)) ?_; (refine (order_Prios.calls 0 _ _ ([] : List (S66)) _ _ x349002_2 t362 _ ?side1 ?side2 ?side3 ?side4 A30.out).mono ?_); (case side1 => exact Kd.C_nil _ _); (case side2 => exact Nat.le_refl _); (case side3 => repeat (first | exact (Kd.R_reads' HO_349002.out).2.2 | (with_reducible refine Kd.C_alloc ?_ _) | (with_reducible refine Kd.C_drewN ?_ _) | (with_reducible refine Kd.C_drew ?_))); (case side4 => exact (Kd.R_reads' HO_349002.out).2.1); rintro e w44 ⟨v363, rfl, ho0, hb⟩; refine ⟨_, rfl, ?_⟩; have n0_ := Aside0.mk (Kd.R_below (by (with_reducible repeat (first | apply Kd.R_alloc | apply Kd.R_drewN | apply Kd.R_drew)); exact HO_349002.out) hb); have n1_ := Aside0.mk (Kd.R_elder' (by (with_reducible repeat (first | apply Kd.R_alloc | apply Kd.R_drewN | apply Kd.R_drew)); exact HO361.out) (Kd.R_base ho0) hb); have n2_ := Aside0.mk (Kd.R_lower (Kd.R_new' ho0 (Kd.R_lt (by (with_reducible repeat (first | apply Kd.R_alloc | apply Kd.R_drewN | apply Kd.R_drew)); exact HO361.out))) (below_size (by repeat (first | (with_reducible first | exact HB.out | apply below_alloc | apply pw_below_drewN | apply below_drew1 | refine below_set ?_ GE348.out) | exact HB.out)))); have n3_ := Aside0.mk (blk_below (g := gb348) (o := .cells #[.int .i64 0, .slice none 0 0, .slice Ao41 x349002_2.length co41] 33 (0, 0)) (by (with_reducible repeat (first | refine blk_drewN ?_ _ | refine blk_drew ?_ | refine blk_alloc ?_ _)); exact BK348.out) hb); have n4_ := Aside0.mk (below_step (by repeat (first | (with_reducible first | exact HB.out | apply below_alloc | apply pw_below_drewN | apply below_drew1 | refine below_set ?_ GE348.out) | exact HB.out)) hb); clear HO_349002; clear HO361; clear BK348; clear HB; have HO_349002 := n0_; have HO361 := n1_; have HO364 := n2_; have BK348 := n3_; have HB := n4_; clear n0_ n1_ n2_ n3_ n4_; (try clear hb); (try clear hb2); (try clear hk); (try clear hi); (try clear ho0); obtain ⟨Ao45, co45, eo45⟩ := Kd.R_slice HO364.out; subst eo45) | ((with_reducible refine gate_callee (f := 18) rfl ?_); refine goesL_ (some 64) rfl rfl Try.func18 (by kernel_rfl) rfl #[.slice Ao45 t362.length co45, .int .i64 ji32] rfl (by (try simp only [List.map_toArray, List.map_cons, List.map_nil]); first | done | (simp only [hji32]; rfl) | rfl | (simp only [List.length_drop, List.length_take]; rfl)) ?_; (with_reducible refine (watchbilllaw9_without.calls k2 _ _ t362 ji32 t365 _ ?side1 ?side2 A31.out).mono ?_); (case side1 => repeat (first | exact (Kd.R_reads' HO364.out).2.2 | (with_reducible refine Kd.C_alloc ?_ _) | (with_reducible refine Kd.C_drewN ?_ _) | (with_reducible refine Kd.C_drew ?_))); (case side2 => exact (Kd.R_reads' HO364.out).2.1); rintro e w46 ⟨v366, rfl, ho0, hb⟩; refine ⟨_, rfl, ?_⟩; have n0_ := Aside0.mk (Kd.R_below (by (with_reducible repeat (first | apply Kd.R_alloc | apply Kd.R_drewN | apply Kd.R_drew)); exact HO_349002.out) hb); have n1_ := Aside0.mk (Kd.R_elder' (by (with_reducible repeat (first | apply Kd.R_alloc | apply Kd.R_drewN | apply Kd.R_drew)); exact HO361.out) (Kd.R_base ho0) hb); have n2_ := Aside0.mk (Kd.R_elder' (by (with_reducible repeat (first | apply Kd.R_alloc | apply Kd.R_drewN | apply Kd.R_drew)); exact HO364.out) (Kd.R_base ho0) hb); have n3_ := Aside0.mk (Kd.R_lower (Kd.R_new' (Kd.R_new' ho0 (Kd.R_lt (by (with_reducible repeat (first | apply Kd.R_alloc | apply Kd.R_drewN | apply Kd.R_drew)); exact HO361.out))) (Kd.R_lt (by (with_reducible repeat (first | apply Kd.R_alloc | apply Kd.R_drewN | apply Kd.R_drew)); exact HO364.out))) (below_size (by repeat (first | (with_reducible first | exact HB.out | apply below_alloc | apply pw_below_drewN | apply below_drew1 | refine below_set ?_ GE348.out) | exact HB.out)))); have n4_ := Aside0.mk (blk_below (g := gb348) (o := .cells #[.int .i64 0, .slice none 0 0, .slice Ao41 x349002_2.length co41] 33 (0, 0)) (by (with_reducible repeat (first | refine blk_drewN ?_ _ | refine blk_drew ?_ | refine blk_alloc ?_ _)); exact BK348.out) hb); have n5_ := Aside0.mk (below_step (by repeat (first | (with_reducible first | exact HB.out | apply below_alloc | apply pw_below_drewN | apply below_drew1 | refine below_set ?_ GE348.out) | exact HB.out)) hb); clear HO_349002; clear HO361; clear HO364; clear BK348; clear HB; have HO_349002 := n0_; have HO361 := n1_; have HO364 := n2_; have HO367 := n3_; have BK348 := n4_; have HB := n5_; clear n0_ n1_ n2_ n3_ n4_ n5_; (try clear hb); (try clear hb2); (try clear hk); (try clear hi); (try clear ho0)))
                        have n0_ := Aside0.mk (Kd.R_drew HO_349002.out)
                        have n1_ := Aside0.mk (Kd.R_drew HO361.out)
                        have n2_ := Aside0.mk (Kd.R_drew HO364.out)
                        have n3_ := Aside0.mk (Kd.R_drew HO367.out)
                        have n4_ := Aside0.mk (blk_drew BK348.out)
                        have n5_ := Aside0.mk (below_drew1 HB.out)
                        clear HO_349002
                        clear HO361
                        clear HO364
                        clear HO367
                        clear BK348
                        clear HB
                        have HO_349002 := n0_
                        have HO361 := n1_
                        have HO364 := n2_
                        have HO367 := n3_
                        have BK348 := n4_
                        have HB := n5_
                        clear n0_ n1_ n2_ n3_ n4_ n5_
                        have p368 : 0 ≤ ((ji32) : Int) := of_decide_eq_true (by first | (with_reducible assumption) | assumption)
                        have q368 : (ji32) < (x349002_2.length : Int) := of_decide_eq_true (by first | (with_reducible assumption) | assumption)
                        obtain ⟨ad368, A368_4, c368_4, e368, hx368_0, hx368_1, hx368_2, hx368_3, hx368_4, hl368_4, hi368_4⟩ := at_T48 (Kd.R_reads' HO_349002.out).2.2 (ji32) p368 q368
                        cases e368
                        obtain ⟨ce368, hce368, hMe368, hcc368⟩ := Kd.R_get HO_349002.out z48 (ji32) p368 (by first | exact q368 | exact of_decide_eq_true (by first | (with_reducible assumption) | assumption) | (have e_ := (Kd.R_reads' HO_349002.out).1; omega))
                        obtain ⟨ve368_4, rfl, ge368_4⟩ := k48_openM hMe368
                        have hv368_4 := hcc368 4 _ rfl
                        rw [add_field _ _ 4 (by omega)] at hv368_4
                        replace hv368_4 := Option.some.inj (hv368_4.symm.trans hx368_4)
                        rw [hv368_4] at ge368_4
                        have HL368_4 := Aside0.mk (show Kd.R k45 45 _ _ _ _ ((rd_T48 x349002_2 (ji32)).f4) from ge368_4)
                        clear hv368_4 ge368_4
                        clear hcc368 hce368
                        have HR368_4 := Aside0.mk hi368_4
                        have HC368_4 := Aside0.mk hl368_4
                        clear hi368_4 hl368_4
                        replace p368 := eq_true p368
                        replace q368 := eq_true q368
                        have p35 : 0 ≤ ((ji32) : Int) := of_decide_eq_true (by first | (with_reducible assumption) | assumption)
                        have q35 : ((ji32) : Int) < ((x349002_2.length : Int) : Int) := of_decide_eq_true (by first | (with_reducible assumption) | assumption)
                        obtain ⟨go35, co35, eo35, gb35, gl35, cl35, HG35⟩ := Kd.R_form HO_349002.out (by omega)
                        (first | cases eo35 | (injection eo35 with ea_ en_ ec_; (first | subst ea_ | (injection ea_ with ea_; subst ea_)); subst ec_; clear en_))
                        have GB35 := Aside0.mk gb35
                        have GG35 := Aside0.mk HG35
                        clear gb35 gl35 HG35
                        (first | simp only [add_plain] at hx368_0 | skip)
                        (first | simp only [add_plain] at hx368_1 | skip)
                        (first | simp only [add_plain] at hx368_2 | skip)
                        (first | simp only [add_plain] at hx368_3 | skip)
                        (first | simp only [add_plain] at hx368_4 | skip)
                        obtain ⟨ce35, hcl35, hM35, hcc35, hfr35⟩ := Kd.R_elem HO_349002.out z48 ((ji32) : Int) p35 q35
                        obtain ⟨ve35_4, rfl, ge35_4⟩ := k48_openM hM35
                        have hx35_0 : World.cell? _ ⟨go35, ((ji32) : Int).toNat * 5, none⟩ = some (.string ((rd_T48 x349002_2 (ji32)).f0)) := hcc35 0 _ rfl
                        have hx35_1 : World.cell? _ ⟨go35, ((ji32) : Int).toNat * 5 + 1, none⟩ = some (.int .i64 ((rd_T48 x349002_2 (ji32)).f1)) := hcc35 1 _ rfl
                        have hx35_2 : World.cell? _ ⟨go35, ((ji32) : Int).toNat * 5 + 2, none⟩ = some (.int .i64 ((rd_T48 x349002_2 (ji32)).f2)) := hcc35 2 _ rfl
                        have hx35_3 : World.cell? _ ⟨go35, ((ji32) : Int).toNat * 5 + 3, none⟩ = some (.int .i64 ((rd_T48 x349002_2 (ji32)).f3)) := hcc35 3 _ rfl
                        have hx35_4 : World.cell? _ ⟨go35, ((ji32) : Int).toNat * 5 + 4, none⟩ = some (ve35_4) := hcc35 4 _ rfl
                        have hf35_0 : World.frozen? _ ⟨go35, ((ji32) : Int).toNat * 5, none⟩ = false := hfr35 0
                        have hf35_1 : World.frozen? _ ⟨go35, ((ji32) : Int).toNat * 5 + 1, none⟩ = false := hfr35 1
                        have hf35_2 : World.frozen? _ ⟨go35, ((ji32) : Int).toNat * 5 + 2, none⟩ = false := hfr35 2
                        have hf35_3 : World.frozen? _ ⟨go35, ((ji32) : Int).toNat * 5 + 3, none⟩ = false := hfr35 3
                        have hf35_4 : World.frozen? _ ⟨go35, ((ji32) : Int).toNat * 5 + 4, none⟩ = false := hfr35 4
                        clear hcl35 hcc35 hfr35 hM35
                        replace p35 := eq_true p35
                        replace q35 := eq_true q35
                        obtain ⟨ce48, hcl48, hM48, hcc48, hfr48⟩ := Kd.R_elem HO_349002.out z48 ((ji32) : Int) (of_decide_eq_true (by first | (with_reducible assumption) | assumption)) (by have h_ : ((ji32) : Int) < ((x349002_2.length : Int) : Int) := of_decide_eq_true (by first | (with_reducible assumption) | assumption); first | exact h_ | (have e_ := (Kd.R_reads' HO_349002.out).1; omega) | simpa using h_)
                        obtain ⟨ve48_4, rfl, ge48_4⟩ := k48_openM hM48
                        have HP48 := (Kd.R_seg HO_349002.out ((ji32) : Int) (of_decide_eq_true (by first | (with_reducible assumption) | assumption)) (by have h_ : ((ji32) : Int) < ((x349002_2.length : Int) : Int) := of_decide_eq_true (by first | (with_reducible assumption) | assumption); first | exact h_ | (have e_ := (Kd.R_reads' HO_349002.out).1; omega) | simpa using h_) (seg := [.int .i64 (wrap64 (((rd_T48 x349002_2 (ji32)).f2) - (wrap64 (a2))))]) (j := 2) hcl48 hcc48 (show 3 ≤ 5 from by decide) (x' := (⟨(rd_T48 x349002_2 (ji32)).f0, (rd_T48 x349002_2 (ji32)).f1, wrap64 (((rd_T48 x349002_2 (ji32)).f2) - (wrap64 (a2))), (rd_T48 x349002_2 (ji32)).f3, (rd_T48 x349002_2 (ji32)).f4⟩ : S48)) (k48_mkM _ _ _ (⟨(rd_T48 x349002_2 (ji32)).f0, (rd_T48 x349002_2 (ji32)).f1, wrap64 (((rd_T48 x349002_2 (ji32)).f2) - (wrap64 (a2))), (rd_T48 x349002_2 (ji32)).f3, (rd_T48 x349002_2 (ji32)).f4⟩ : S48) ge48_4) (fun _ hk => hk)).1
                        rw [← Ny369.out] at HP48
                        have HQ48 := Aside0.mk HP48
                        clear hcl48 hcc48 hfr48 hM48 HP48
                        refine start_ (n := 15) (S := fun w' => w'.cell? ⟨gb348, 0, none⟩ = some (.int .i64 0) ∧ w'.cell? ⟨gb348, 1, none⟩ = some (.slice none 0 0) ∧ w'.cell? ⟨gb348, 2, none⟩ = some (.slice (some ⟨go35, 0, none⟩) x349002_2.length co41) ∧ w'.cell? ⟨go35, (((ji32)).toNat * 5), none⟩ = some (.string ((rd_T48 x349002_2 (ji32)).f0)) ∧ w'.cell? ⟨go35, (((ji32)).toNat * 5) + 1, none⟩ = some (.int .i64 ((rd_T48 x349002_2 (ji32)).f1)) ∧ w'.cell? ⟨go35, (((ji32)).toNat * 5) + 2, none⟩ = some (.int .i64 ((rd_T48 x349002_2 (ji32)).f2)) ∧ w'.cell? ⟨go35, (((ji32)).toNat * 5) + 3, none⟩ = some (.int .i64 ((rd_T48 x349002_2 (ji32)).f3)) ∧ w'.cell? ⟨go35, (((ji32)).toNat * 5) + 4, none⟩ = some (.slice A368_4 ((rd_T48 x349002_2 (ji32)).f4).length c368_4)) (ds := [14]) #[false, false, false, false, false, false, false, false, false, false, false, false, false, false, false] (by kernel_rfl) rfl rfl ⟨(blk_cell BK348.out 0).trans rfl, (blk_cell BK348.out 1).trans rfl, (blk_cell BK348.out 2).trans rfl, hx368_0, hx368_1, hx368_2, hx368_3, hx368_4⟩ (fun hHeld => ?_); refine with_tabW watchbilllaw9_OrderMoves.tab13 watchbilllaw9_OrderMoves.bits13 (fun HT_ HW_ => ?_)
                        generalize w46.drew = w47 at HO_349002 HO361 HO364 HO367 BK348 HB GG35 HL368_4 HQ48 HR368_4 hf35_0 hf35_1 hf35_2 hf35_3 hf35_4 hx35_0 hx35_1 hx35_2 hx35_3 hx35_4 hx368_0 hx368_1 hx368_2 hx368_3 hx368_4 hHeld ⊢
                        refine pure_ (i := 0) (N := some 65) (v := ?_) (a' := ?_) #[true, false, false, false, false, false, false, false, false, false, false, false, false, false, false] rfl rfl (any_of HT_.out (by kernel_rfl)) (fun _ _ _ h => h) (Or.inl ⟨by rfl, ?_⟩) ?_ ?_
                        rotate_left
                        · intro w'
                          go_simp
                          with_reducible rfl
                        rotate_left
                        · simp only [Act.put, List.setIfInBounds_toArray, List.set_cons_zero, List.set_cons_succ, i64_w, i32_w]
                          rfl
                        refine pure_ (i := 2) (N := some 67) (v := ?_) (a' := ?_) #[true, false, true, false, false, false, false, false, false, false, false, false, false, false, false] rfl rfl (any_of HT_.out (by kernel_rfl)) (fun _ _ _ h => h) (Or.inl ⟨by rfl, ?_⟩) ?_ ?_
                        rotate_left
                        · intro w'
                          go_simp
                          with_reducible rfl
                        rotate_left
                        · simp only [Act.put, List.setIfInBounds_toArray, List.set_cons_zero, List.set_cons_succ, i64_w, i32_w]
                          rfl
                        refine pure_ (i := 3) (N := some 68) (v := ?_) (a' := ?_) #[true, false, true, true, false, false, false, false, false, false, false, false, false, false, false] rfl rfl (any_of HT_.out (by kernel_rfl)) (fun _ _ _ h => h) (Or.inl ⟨by rfl, ?_⟩) ?_ ?_
                        rotate_left
                        · intro w'
                          go_simp
                          with_reducible rfl
                        rotate_left
                        · simp only [Act.put, List.setIfInBounds_toArray, List.set_cons_zero, List.set_cons_succ, i64_w, i32_w]
                          rfl
                        refine pure_ (i := 5) (N := some 70) (v := ?_) (a' := ?_) #[true, false, true, true, false, true, false, false, false, false, false, false, false, false, false] rfl rfl (any_of HT_.out (by kernel_rfl)) (fun _ _ _ h => h) (Or.inl ⟨by rfl, ?_⟩) ?_ ?_
                        rotate_left
                        · intro w'
                          go_simp
                          with_reducible rfl
                        rotate_left
                        · simp only [Act.put, List.setIfInBounds_toArray, List.set_cons_zero, List.set_cons_succ, i64_w, i32_w]
                          rfl
                        refine pure_ (i := 9) (N := some 74) (v := ?_) (a' := ?_) #[true, false, true, true, false, true, false, false, false, true, false, false, false, false, false] rfl rfl (any_of HT_.out (by kernel_rfl)) (fun _ _ _ h => h) (Or.inl ⟨by rfl, ?_⟩) ?_ ?_
                        rotate_left
                        · intro w'
                          go_simp
                          with_reducible rfl
                        rotate_left
                        · simp only [Act.put, List.setIfInBounds_toArray, List.set_cons_zero, List.set_cons_succ, i64_w, i32_w]
                          rfl
                        refine pure_ (i := 10) (N := some 75) (v := ?_) (a' := ?_) #[true, false, true, true, false, true, false, false, false, true, true, false, false, false, false] rfl rfl (any_of HT_.out (by kernel_rfl)) (fun _ _ _ h => h) (Or.inl ⟨by rfl, ?_⟩) ?_ ?_
                        rotate_left
                        · intro w'
                          go_simp
                          with_reducible rfl
                        rotate_left
                        · simp only [Act.put, List.setIfInBounds_toArray, List.set_cons_zero, List.set_cons_succ, i64_w, i32_w]
                          rfl
                        refine take_ (i := 1) (N := some 66) (v := ?_) (a' := ?_) #[true, true, true, true, false, true, false, false, false, true, true, false, false, false, false] rfl rfl (take_ofW HT_.out HW_.out (by kernel_rfl)) (fun _ _ _ h => h) (Or.inl ⟨by rfl, ?_⟩) hHeld ?_ ?_
                        rotate_left
                        · rintro w' ⟨s0, s1, s2, s3, s4, s5, s6, s7⟩
                          go_simp
                          with_reducible rfl
                        rotate_left
                        · simp only [Act.put, List.setIfInBounds_toArray, List.set_cons_zero, List.set_cons_succ, i64_w, i32_w]
                          rfl
                        refine take_ (i := 4) (N := some 69) (v := ?_) (a' := ?_) #[true, true, true, true, true, true, false, false, false, true, true, false, false, false, false] rfl rfl (take_ofW HT_.out HW_.out (by kernel_rfl)) (fun _ _ _ h => h) (Or.inl ⟨by rfl, ?_⟩) hHeld ?_ ?_
                        rotate_left
                        · rintro w' ⟨s0, s1, s2, s3, s4, s5, s6, s7⟩
                          go_simp
                          with_reducible rfl
                        rotate_left
                        · simp only [Act.put, List.setIfInBounds_toArray, List.set_cons_zero, List.set_cons_succ, i64_w, i32_w]
                          rfl
                        refine pure_ (i := 6) (N := some 71) (v := ?_) (a' := ?_) #[true, true, true, true, true, true, true, false, false, true, true, false, false, false, false] rfl rfl (any_of HT_.out (by kernel_rfl)) (fun _ _ _ h => h) (Or.inl ⟨by rfl, ?_⟩) ?_ ?_
                        rotate_left
                        · intro w'
                          go_simp
                          with_reducible rfl
                        rotate_left
                        · simp only [Act.put, List.setIfInBounds_toArray, List.set_cons_zero, List.set_cons_succ, i64_w, i32_w]
                          rfl
                        refine pure_ (i := 7) (N := some 72) (v := ?_) (a' := ?_) #[true, true, true, true, true, true, true, true, false, true, true, false, false, false, false] rfl rfl (any_of HT_.out (by kernel_rfl)) (fun _ _ _ h => h) (Or.inl ⟨by rfl, ?_⟩) ?_ ?_
                        rotate_left
                        · intro w'
                          go_simp
                          with_reducible rfl
                        rotate_left
                        · simp only [Act.put, List.setIfInBounds_toArray, List.set_cons_zero, List.set_cons_succ, i64_w, i32_w]
                          rfl
                        refine take_ (i := 8) (N := some 73) (v := ?_) (a' := ?_) #[true, true, true, true, true, true, true, true, true, true, true, false, false, false, false] rfl rfl (take_ofW HT_.out HW_.out (by kernel_rfl)) (fun _ _ _ h => h) (Or.inl ⟨by rfl, ?_⟩) hHeld ?_ ?_
                        rotate_left
                        · rintro w' ⟨s0, s1, s2, s3, s4, s5, s6, s7⟩
                          go_simp
                          with_reducible rfl
                        rotate_left
                        · simp only [Act.put, List.setIfInBounds_toArray, List.set_cons_zero, List.set_cons_succ, i64_w, i32_w]
                          rfl
                        refine pure_ (i := 11) (N := some 76) (v := ?_) (a' := ?_) #[true, true, true, true, true, true, true, true, true, true, true, true, false, false, false] rfl rfl (any_of HT_.out (by kernel_rfl)) (fun _ _ _ h => h) (Or.inl ⟨by rfl, ?_⟩) ?_ ?_
                        rotate_left
                        · intro w'
                          go_simp
                          with_reducible rfl
                        rotate_left
                        · simp only [Act.put, List.setIfInBounds_toArray, List.set_cons_zero, List.set_cons_succ, i64_w, i32_w]
                          rfl
                        refine pure_ (i := 12) (N := some 77) (v := ?_) (a' := ?_) #[true, true, true, true, true, true, true, true, true, true, true, true, true, false, false] rfl rfl (any_of HT_.out (by kernel_rfl)) (fun _ _ _ h => h) (Or.inl ⟨by rfl, ?_⟩) ?_ ?_
                        rotate_left
                        · intro w'
                          go_simp
                          with_reducible rfl
                        rotate_left
                        · simp only [Act.put, List.setIfInBounds_toArray, List.set_cons_zero, List.set_cons_succ, i64_w, i32_w]
                          rfl
                        refine pure_ (i := 13) (N := some 78) (v := ?_) (a' := ?_) #[true, true, true, true, true, true, true, true, true, true, true, true, true, true, false] rfl rfl (any_of HT_.out (by kernel_rfl)) (fun _ _ _ h => h) (Or.inl ⟨by rfl, ?_⟩) ?_ ?_
                        rotate_left
                        · intro w'
                          go_simp
                          with_reducible rfl
                        rotate_left
                        · simp only [Act.put, List.setIfInBounds_toArray, List.set_cons_zero, List.set_cons_succ, i64_w, i32_w]
                          rfl
                        refine last_ (i := 14) (N := none) #[true, true, true, true, true, true, true, true, true, true, true, true, true, true, true] rfl rfl (one_of HT_.out (by kernel_rfl)) (by decide) (fun K hK => ?_)
                        refine skip_ (w1 := ?_) (by rfl) rfl ?_ ?_
                        rotate_left
                        · go_simp
                          rfl
                        refine hK.out _ _ ?_
                        clear hK K
                        refine done_ (done_of HT_.out (by kernel_rfl)) ?_
                        have hcz49_0 : w47.cell? ⟨gb348, 0, none⟩ = some (.int .i64 0) := (blk_cell BK348.out 0).trans rfl
                        have hne_gb348 : gb348 ≠ go35 := by have h_ := Kd.R_ne HO_349002.out BK348.out (by decide); intro e_; exact h_ (by rw [e_]; rfl)
                        have hcz49_0s : ∀ (p_ : Nat) (u_ : Value), (w47.setCell ⟨go35, p_, none⟩ u_).cell? ⟨gb348, 0, none⟩ = some (.int .i64 0) := fun p_ u_ => (blk_cell (blk_far BK348.out hne_gb348 u_) 0).trans rfl
                        have hcz49_1 : w47.cell? ⟨gb348, 1, none⟩ = some (.slice none 0 0) := (blk_cell BK348.out 1).trans rfl
                        have hcz49_1s : ∀ (p_ : Nat) (u_ : Value), (w47.setCell ⟨go35, p_, none⟩ u_).cell? ⟨gb348, 1, none⟩ = some (.slice none 0 0) := fun p_ u_ => (blk_cell (blk_far BK348.out hne_gb348 u_) 1).trans rfl
                        have hcz49_2 : w47.cell? ⟨gb348, 2, none⟩ = some (.slice (some ⟨go35, 0, none⟩) x349002_2.length co41) := (blk_cell BK348.out 2).trans rfl
                        have hcz49_2s : ∀ (p_ : Nat) (u_ : Value), (w47.setCell ⟨go35, p_, none⟩ u_).cell? ⟨gb348, 2, none⟩ = some (.slice (some ⟨go35, 0, none⟩) x349002_2.length co41) := fun p_ u_ => (blk_cell (blk_far BK348.out hne_gb348 u_) 2).trans rfl
                        have hfz49_0 := blk_frozen BK348.out 0
                        have hfz49_1 := blk_frozen BK348.out 1
                        have hfz49_2 := blk_frozen BK348.out 2
                        try go_wp2_with (first | ((with_reducible refine gate_callee (f := 11) rfl ?_); refine goesL_ (some 81) rfl rfl Try.func11 (by kernel_rfl) rfl #[.agg #[.int .i64 0, .slice none 0 0, .slice (some ⟨go35, 0, none⟩) y369.length co41], .int .i64 ji32] rfl (by (try simp only [List.map_toArray, List.map_cons, List.map_nil]); first | done | (rw [show y369.length = x349002_2.length from (Kd.R_reads' HQ48.out).1.symm] <;> rfl) | (simp only [hji32]; rfl) | rfl | (simp only [List.length_drop, List.length_take]; rfl)) ?_; (refine (order_Higher.calls k2 0 _ _ ([] : List (S66)) _ _ y369 ji32 t370 _ ?side1 ?side2 ?side3 ?side4 A36.out).mono ?_); (case side1 => exact Kd.C_nil _ _); (case side2 => exact Nat.le_refl _); (case side3 => refine (Kd.R_reads' (e := 48) (base := w.heap.size) (ok := fun k_ => True) (n := x349002_2.length) (c := co41) ?_).2.2; exact (by (with_reducible repeat (first | apply Kd.R_alloc | apply Kd.R_drewN | apply Kd.R_drew)); exact HQ48.out)); (case side4 => rw [show y369.length = x349002_2.length from (Kd.R_reads' HQ48.out).1.symm]; exact (Kd.R_reads' HO_349002.out).2.1); rintro e w50 ⟨v371, rfl, ho0, hb⟩; refine ⟨_, rfl, ?_⟩; have n0_ := Aside0.mk (Kd.R_below (by (with_reducible repeat (first | apply Kd.R_alloc | apply Kd.R_drewN | apply Kd.R_drew)); exact HQ48.out) hb); have n1_ := Aside0.mk (Kd.R_elder' (by (with_reducible repeat (first | apply Kd.R_alloc | apply Kd.R_drewN | apply Kd.R_drew)); exact (Kd.R_mono (Kd.R_far (p := ⟨go35, ((ji32) : Int).toNat * 5 + 2, none⟩) (Kd.R_types HO361.out GG35.out (by decide)) (fun _ hk => hk.2) (.int .i64 (wrap64 (((rd_T48 x349002_2 (ji32)).f2) - (wrap64 (a2)))))) (fun _ h_ => h_.1))) (Kd.R_base ho0) hb); have n2_ := Aside0.mk (Kd.R_elder' (by (with_reducible repeat (first | apply Kd.R_alloc | apply Kd.R_drewN | apply Kd.R_drew)); exact (Kd.R_mono (Kd.R_far (p := ⟨go35, ((ji32) : Int).toNat * 5 + 2, none⟩) (Kd.R_types HO364.out GG35.out (by decide)) (fun _ hk => hk.2) (.int .i64 (wrap64 (((rd_T48 x349002_2 (ji32)).f2) - (wrap64 (a2)))))) (fun _ h_ => h_.1))) (Kd.R_base ho0) hb); have n3_ := Aside0.mk (Kd.R_elder' (by (with_reducible repeat (first | apply Kd.R_alloc | apply Kd.R_drewN | apply Kd.R_drew)); exact (Kd.R_mono (Kd.R_far (p := ⟨go35, ((ji32) : Int).toNat * 5 + 2, none⟩) (Kd.R_types HO367.out GG35.out (by decide)) (fun _ hk => hk.2) (.int .i64 (wrap64 (((rd_T48 x349002_2 (ji32)).f2) - (wrap64 (a2)))))) (fun _ h_ => h_.1))) (Kd.R_base ho0) hb); have n4_ := Aside0.mk (Kd.R_below (by (with_reducible repeat (first | apply Kd.R_alloc | apply Kd.R_drewN | apply Kd.R_drew)); exact (Kd.R_mono (Kd.R_far (p := ⟨go35, ((ji32) : Int).toNat * 5 + 2, none⟩) (Kd.R_types HL368_4.out GG35.out (by decide)) (fun _ hk => hk.2) (.int .i64 (wrap64 (((rd_T48 x349002_2 (ji32)).f2) - (wrap64 (a2)))))) (fun _ h_ => h_.1))) hb); have n5_ := Aside0.mk (Kd.R_lower (Kd.R_new' (Kd.R_new' (Kd.R_new' ho0 (Kd.R_lt (by (with_reducible repeat (first | apply Kd.R_alloc | apply Kd.R_drewN | apply Kd.R_drew)); exact (Kd.R_mono (Kd.R_far (p := ⟨go35, ((ji32) : Int).toNat * 5 + 2, none⟩) (Kd.R_types HO361.out GG35.out (by decide)) (fun _ hk => hk.2) (.int .i64 (wrap64 (((rd_T48 x349002_2 (ji32)).f2) - (wrap64 (a2)))))) (fun _ h_ => h_.1))))) (Kd.R_lt (by (with_reducible repeat (first | apply Kd.R_alloc | apply Kd.R_drewN | apply Kd.R_drew)); exact (Kd.R_mono (Kd.R_far (p := ⟨go35, ((ji32) : Int).toNat * 5 + 2, none⟩) (Kd.R_types HO364.out GG35.out (by decide)) (fun _ hk => hk.2) (.int .i64 (wrap64 (((rd_T48 x349002_2 (ji32)).f2) - (wrap64 (a2)))))) (fun _ h_ => h_.1))))) (Kd.R_lt (by (with_reducible repeat (first | apply Kd.R_alloc | apply Kd.R_drewN | apply Kd.R_drew)); exact (Kd.R_mono (Kd.R_far (p := ⟨go35, ((ji32) : Int).toNat * 5 + 2, none⟩) (Kd.R_types HO367.out GG35.out (by decide)) (fun _ hk => hk.2) (.int .i64 (wrap64 (((rd_T48 x349002_2 (ji32)).f2) - (wrap64 (a2)))))) (fun _ h_ => h_.1))))) (below_size (by repeat (first | (with_reducible first | exact HB.out | apply below_alloc | apply pw_below_drewN | apply below_drew1 | refine below_set ?_ GB35.out | refine below_set ?_ GE348.out) | exact HB.out)))); have n6_ := Aside0.mk (blk_below (g := gb348) (o := .cells #[.int .i64 0, .slice none 0 0, .slice (some ⟨go35, 0, none⟩) x349002_2.length co41] 33 (0, 0)) (by (with_reducible repeat (first | refine blk_drewN ?_ _ | refine blk_drew ?_ | refine blk_alloc ?_ _)); refine blk_far ?_ (by have h_ := Kd.R_ne HO_349002.out BK348.out (by decide); intro e_; exact h_ (by rw [e_]; rfl)) _; (with_reducible repeat (first | refine blk_drewN ?_ _ | refine blk_drew ?_ | refine blk_alloc ?_ _)); exact BK348.out) hb); have n7_ := Aside0.mk (Kd.C_below ((Kd.R_reads' (by (with_reducible repeat (first | apply Kd.R_alloc | apply Kd.R_drewN | apply Kd.R_drew)); exact (Kd.R_mono (Kd.R_far (p := ⟨go35, ((ji32) : Int).toNat * 5 + 2, none⟩) (Kd.R_types HL368_4.out GG35.out (by decide)) (fun _ hk => hk.2) (.int .i64 (wrap64 (((rd_T48 x349002_2 (ji32)).f2) - (wrap64 (a2)))))) (fun _ h_ => h_.1)))).2.2) hb); have n8_ := Aside0.mk (below_step (by repeat (first | (with_reducible first | exact HB.out | apply below_alloc | apply pw_below_drewN | apply below_drew1 | refine below_set ?_ GB35.out | refine below_set ?_ GE348.out) | exact HB.out)) hb); clear HO_349002; clear HO361; clear HO364; clear HO367; clear HL368_4; clear BK348; clear HR368_4; clear HB; have HO_349002 := n0_; have HO361 := n1_; have HO364 := n2_; have HO367 := n3_; have HL368_4 := n4_; have HO372 := n5_; have BK348 := n6_; have HR368_4 := n7_; have HB := n8_; clear n0_ n1_ n2_ n3_ n4_ n5_ n6_ n7_ n8_; (try clear hb); (try clear hb2); (try clear hk); (try clear hi); (try clear ho0); have hcz51_0 : w50.cell? ⟨gb348, 0, none⟩ = some (.int .i64 0) := (blk_cell BK348.out 0).trans rfl; have hcz51_1 : w50.cell? ⟨gb348, 1, none⟩ = some (.slice none 0 0) := (blk_cell BK348.out 1).trans rfl; have hcz51_2 : w50.cell? ⟨gb348, 2, none⟩ = some (.slice (some ⟨go35, 0, none⟩) x349002_2.length co41) := (blk_cell BK348.out 2).trans rfl; have hfz51_0 := blk_frozen BK348.out 0; have hfz51_1 := blk_frozen BK348.out 1; have hfz51_2 := blk_frozen BK348.out 2) | ((with_reducible refine gate_callee (f := 14) rfl ?_); refine goesL_ (some 83) rfl rfl Try.func14 (by kernel_rfl) rfl #[.agg #[.int .i64 0, .slice none 0 0, .slice (some ⟨go35, 0, none⟩) y369.length co41]] rfl (by (try simp only [List.map_toArray, List.map_cons, List.map_nil]); first | done | (rw [show y369.length = x349002_2.length from (Kd.R_reads' HO_349002.out).1.symm] <;> rfl) | rfl | (simp only [List.length_drop, List.length_take]; rfl)) ?_; (refine (order_Prios.calls 0 _ _ ([] : List (S66)) _ _ y369 t373 _ ?side1 ?side2 ?side3 ?side4 A37.out).mono ?_); (case side1 => exact Kd.C_nil _ _); (case side2 => exact Nat.le_refl _); (case side3 => repeat (first | exact (Kd.R_reads' HO_349002.out).2.2 | (with_reducible refine Kd.C_alloc ?_ _) | (with_reducible refine Kd.C_drewN ?_ _) | (with_reducible refine Kd.C_drew ?_))); (case side4 => rw [show y369.length = x349002_2.length from (Kd.R_reads' HO_349002.out).1.symm]; exact (Kd.R_reads' HO_349002.out).2.1); rintro e w52 ⟨v374, rfl, ho0, hb⟩; refine ⟨_, rfl, ?_⟩; have n0_ := Aside0.mk (Kd.R_below (by (with_reducible repeat (first | apply Kd.R_alloc | apply Kd.R_drewN | apply Kd.R_drew)); exact HO_349002.out) hb); have n1_ := Aside0.mk (Kd.R_elder' (by (with_reducible repeat (first | apply Kd.R_alloc | apply Kd.R_drewN | apply Kd.R_drew)); exact HO361.out) (Kd.R_base ho0) hb); have n2_ := Aside0.mk (Kd.R_elder' (by (with_reducible repeat (first | apply Kd.R_alloc | apply Kd.R_drewN | apply Kd.R_drew)); exact HO364.out) (Kd.R_base ho0) hb); have n3_ := Aside0.mk (Kd.R_elder' (by (with_reducible repeat (first | apply Kd.R_alloc | apply Kd.R_drewN | apply Kd.R_drew)); exact HO367.out) (Kd.R_base ho0) hb); have n4_ := Aside0.mk (Kd.R_below (by (with_reducible repeat (first | apply Kd.R_alloc | apply Kd.R_drewN | apply Kd.R_drew)); exact HL368_4.out) hb); have n5_ := Aside0.mk (Kd.R_elder' (by (with_reducible repeat (first | apply Kd.R_alloc | apply Kd.R_drewN | apply Kd.R_drew)); exact HO372.out) (Kd.R_base ho0) hb); have n6_ := Aside0.mk (Kd.R_lower (Kd.R_new' (Kd.R_new' (Kd.R_new' (Kd.R_new' ho0 (Kd.R_lt (by (with_reducible repeat (first | apply Kd.R_alloc | apply Kd.R_drewN | apply Kd.R_drew)); exact HO361.out))) (Kd.R_lt (by (with_reducible repeat (first | apply Kd.R_alloc | apply Kd.R_drewN | apply Kd.R_drew)); exact HO364.out))) (Kd.R_lt (by (with_reducible repeat (first | apply Kd.R_alloc | apply Kd.R_drewN | apply Kd.R_drew)); exact HO367.out))) (Kd.R_lt (by (with_reducible repeat (first | apply Kd.R_alloc | apply Kd.R_drewN | apply Kd.R_drew)); exact HO372.out))) (below_size (by repeat (first | (with_reducible first | exact HB.out | apply below_alloc | apply pw_below_drewN | apply below_drew1 | refine below_set ?_ GE348.out) | exact HB.out)))); have n7_ := Aside0.mk (blk_below (g := gb348) (o := .cells #[.int .i64 0, .slice none 0 0, .slice (some ⟨go35, 0, none⟩) x349002_2.length co41] 33 (0, 0)) (by (with_reducible repeat (first | refine blk_drewN ?_ _ | refine blk_drew ?_ | refine blk_alloc ?_ _)); exact BK348.out) hb); have n8_ := Aside0.mk (Kd.C_below (by repeat (first | (with_reducible exact HR368_4.out) | (with_reducible refine Kd.C_alloc ?_ _) | (with_reducible refine Kd.C_drewN ?_ _) | (with_reducible refine Kd.C_drew ?_) | exact HR368_4.out)) hb); have n9_ := Aside0.mk (below_step (by repeat (first | (with_reducible first | exact HB.out | apply below_alloc | apply pw_below_drewN | apply below_drew1 | refine below_set ?_ GE348.out) | exact HB.out)) hb); clear HO_349002; clear HO361; clear HO364; clear HO367; clear HL368_4; clear HO372; clear BK348; clear HR368_4; clear HB; have HO_349002 := n0_; have HO361 := n1_; have HO364 := n2_; have HO367 := n3_; have HL368_4 := n4_; have HO372 := n5_; have HO375 := n6_; have BK348 := n7_; have HR368_4 := n8_; have HB := n9_; clear n0_ n1_ n2_ n3_ n4_ n5_ n6_ n7_ n8_ n9_; (try clear hb); (try clear hb2); (try clear hk); (try clear hi); (try clear ho0); obtain ⟨Ao53, co53, eo53⟩ := Kd.R_slice HO375.out; subst eo53) | ((with_reducible refine gate_callee (f := 18) rfl ?_); refine goesL_ (some 85) rfl rfl Try.func18 (by kernel_rfl) rfl #[.slice Ao53 t373.length co53, .int .i64 ji32] rfl (by (try simp only [List.map_toArray, List.map_cons, List.map_nil]); first | done | (simp only [hji32]; rfl) | rfl | (simp only [List.length_drop, List.length_take]; rfl)) ?_; (with_reducible refine (watchbilllaw9_without.calls k2 _ _ t373 ji32 t376 _ ?side1 ?side2 A38.out).mono ?_); (case side1 => repeat (first | exact (Kd.R_reads' HO375.out).2.2 | (with_reducible refine Kd.C_alloc ?_ _) | (with_reducible refine Kd.C_drewN ?_ _) | (with_reducible refine Kd.C_drew ?_))); (case side2 => exact (Kd.R_reads' HO375.out).2.1); rintro e w54 ⟨v377, rfl, ho0, hb⟩; refine ⟨_, rfl, ?_⟩; have n0_ := Aside0.mk (Kd.R_below (by (with_reducible repeat (first | apply Kd.R_alloc | apply Kd.R_drewN | apply Kd.R_drew)); exact HO_349002.out) hb); have n1_ := Aside0.mk (Kd.R_elder' (by (with_reducible repeat (first | apply Kd.R_alloc | apply Kd.R_drewN | apply Kd.R_drew)); exact HO361.out) (Kd.R_base ho0) hb); have n2_ := Aside0.mk (Kd.R_elder' (by (with_reducible repeat (first | apply Kd.R_alloc | apply Kd.R_drewN | apply Kd.R_drew)); exact HO364.out) (Kd.R_base ho0) hb); have n3_ := Aside0.mk (Kd.R_elder' (by (with_reducible repeat (first | apply Kd.R_alloc | apply Kd.R_drewN | apply Kd.R_drew)); exact HO367.out) (Kd.R_base ho0) hb); have n4_ := Aside0.mk (Kd.R_below (by (with_reducible repeat (first | apply Kd.R_alloc | apply Kd.R_drewN | apply Kd.R_drew)); exact HL368_4.out) hb); have n5_ := Aside0.mk (Kd.R_elder' (by (with_reducible repeat (first | apply Kd.R_alloc | apply Kd.R_drewN | apply Kd.R_drew)); exact HO372.out) (Kd.R_base ho0) hb); have n6_ := Aside0.mk (Kd.R_elder' (by (with_reducible repeat (first | apply Kd.R_alloc | apply Kd.R_drewN | apply Kd.R_drew)); exact HO375.out) (Kd.R_base ho0) hb); have n7_ := Aside0.mk (Kd.R_lower (Kd.R_new' (Kd.R_new' (Kd.R_new' (Kd.R_new' (Kd.R_new' ho0 (Kd.R_lt (by (with_reducible repeat (first | apply Kd.R_alloc | apply Kd.R_drewN | apply Kd.R_drew)); exact HO361.out))) (Kd.R_lt (by (with_reducible repeat (first | apply Kd.R_alloc | apply Kd.R_drewN | apply Kd.R_drew)); exact HO364.out))) (Kd.R_lt (by (with_reducible repeat (first | apply Kd.R_alloc | apply Kd.R_drewN | apply Kd.R_drew)); exact HO367.out))) (Kd.R_lt (by (with_reducible repeat (first | apply Kd.R_alloc | apply Kd.R_drewN | apply Kd.R_drew)); exact HO372.out))) (Kd.R_lt (by (with_reducible repeat (first | apply Kd.R_alloc | apply Kd.R_drewN | apply Kd.R_drew)); exact HO375.out))) (below_size (by repeat (first | (with_reducible first | exact HB.out | apply below_alloc | apply pw_below_drewN | apply below_drew1 | refine below_set ?_ GE348.out) | exact HB.out)))); have n8_ := Aside0.mk (blk_below (g := gb348) (o := .cells #[.int .i64 0, .slice none 0 0, .slice (some ⟨go35, 0, none⟩) x349002_2.length co41] 33 (0, 0)) (by (with_reducible repeat (first | refine blk_drewN ?_ _ | refine blk_drew ?_ | refine blk_alloc ?_ _)); exact BK348.out) hb); have n9_ := Aside0.mk (Kd.C_below (by repeat (first | (with_reducible exact HR368_4.out) | (with_reducible refine Kd.C_alloc ?_ _) | (with_reducible refine Kd.C_drewN ?_ _) | (with_reducible refine Kd.C_drew ?_) | exact HR368_4.out)) hb); have n10_ := Aside0.mk (below_step (by repeat (first | (with_reducible first | exact HB.out | apply below_alloc | apply pw_below_drewN | apply below_drew1 | refine below_set ?_ GE348.out) | exact HB.out)) hb); clear HO_349002; clear HO361; clear HO364; clear HO367; clear HL368_4; clear HO372; clear HO375; clear BK348; clear HR368_4; clear HB; have HO_349002 := n0_; have HO361 := n1_; have HO364 := n2_; have HO367 := n3_; have HL368_4 := n4_; have HO372 := n5_; have HO375 := n6_; have HO378 := n7_; have BK348 := n8_; have HR368_4 := n9_; have HB := n10_; clear n0_ n1_ n2_ n3_ n4_ n5_ n6_ n7_ n8_ n9_ n10_; (try clear hb); (try clear hb2); (try clear hk); (try clear hi); (try clear ho0); obtain ⟨Ao55, co55, eo55⟩ := Kd.R_slice HO372.out; subst eo55; obtain ⟨Ao56, co56, eo56⟩ := Kd.R_slice HO361.out; subst eo56))
                        go_ret
                        exact ⟨by first | rfl | (simp [errW_none, errW_some] <;> rfl) | (simp only [← hji32]; first | rfl | (simp [errW_none, errW_some] <;> rfl)) | (simp [*, errW_none, errW_some] <;> rfl), by repeat (first | (with_reducible first | exact HB.out | apply below_alloc | apply pw_below_drewN | apply below_drew1 | refine below_set ?_ GE348.out) | exact HB.out)⟩
                      · rw [if_neg c39] at H
                        have c39b0 : decide ((t359.length : Int) < (t370.length : Int)) = false := decide_eq_false c39
                        have c39b1 : decide (t359.length < t370.length) = false := decide_eq_false (fun h => c39 (Int.ofNat_lt.mpr h))
                        clear c39
                        have H' := Aside0.mk H
                        clear H
                        have hcz57_0 : wr.cell? ⟨gb348, 0, none⟩ = some (.int .i64 0) := (blk_cell BK348.out 0).trans rfl
                        have hcz57_1 : wr.cell? ⟨gb348, 1, none⟩ = some (.slice none 0 0) := (blk_cell BK348.out 1).trans rfl
                        have hcz57_2 : wr.cell? ⟨gb348, 2, none⟩ = some (u349002) := (blk_cell BK348.out 2).trans rfl
                        have hfz57_0 := blk_frozen BK348.out 0
                        have hfz57_1 := blk_frozen BK348.out 1
                        have hfz57_2 := blk_frozen BK348.out 2
                        obtain ⟨Ao58, co58, eo58⟩ := Kd.R_slice HO_349002.out
                        subst eo58
                        try go_wp2_with (first | ((with_reducible refine gate_callee (f := 11) rfl ?_); refine goesL_ (some 60) rfl rfl Try.func11 (by kernel_rfl) rfl #[.agg #[.int .i64 0, .slice none 0 0, .slice Ao58 x349002_2.length co58], .int .i64 ji32] rfl (by (try simp only [List.map_toArray, List.map_cons, List.map_nil]); first | done | (simp only [hji32]; rfl) | rfl | (simp only [List.length_drop, List.length_take]; rfl)) ?_; (refine (order_Higher.calls k2 0 _ _ ([] : List (S66)) _ _ x349002_2 ji32 t359 _ ?side1 ?side2 ?side3 ?side4 A29.out).mono ?_); (case side1 => exact Kd.C_nil _ _); (case side2 => exact Nat.le_refl _); (case side3 => repeat (first | exact (Kd.R_reads' HO_349002.out).2.2 | (with_reducible refine Kd.C_alloc ?_ _) | (with_reducible refine Kd.C_drewN ?_ _) | (with_reducible refine Kd.C_drew ?_))); (case side4 => exact (Kd.R_reads' HO_349002.out).2.1); rintro e w59 ⟨v360, rfl, ho0, hb⟩; refine ⟨_, rfl, ?_⟩; have n0_ := Aside0.mk (Kd.R_below (by (with_reducible repeat (first | apply Kd.R_alloc | apply Kd.R_drewN | apply Kd.R_drew)); exact HO_349002.out) hb); have n1_ := Aside0.mk (Kd.R_lower ho0 (below_size (by repeat (first | (with_reducible first | exact HB.out | apply below_alloc | apply pw_below_drewN | apply below_drew1 | refine below_set ?_ GE348.out) | exact HB.out)))); have n2_ := Aside0.mk (blk_below (g := gb348) (o := .cells #[.int .i64 0, .slice none 0 0, .slice Ao58 x349002_2.length co58] 33 (0, 0)) (by (with_reducible repeat (first | refine blk_drewN ?_ _ | refine blk_drew ?_ | refine blk_alloc ?_ _)); exact BK348.out) hb); have n3_ := Aside0.mk (below_step (by repeat (first | (with_reducible first | exact HB.out | apply below_alloc | apply pw_below_drewN | apply below_drew1 | refine below_set ?_ GE348.out) | exact HB.out)) hb); clear HO_349002; clear BK348; clear HB; have HO_349002 := n0_; have HO361 := n1_; have BK348 := n2_; have HB := n3_; clear n0_ n1_ n2_ n3_; (try clear hb); (try clear hb2); (try clear hk); (try clear hi); (try clear ho0); have hcz60_0 : w59.cell? ⟨gb348, 0, none⟩ = some (.int .i64 0) := (blk_cell BK348.out 0).trans rfl; have hcz60_1 : w59.cell? ⟨gb348, 1, none⟩ = some (.slice none 0 0) := (blk_cell BK348.out 1).trans rfl; have hcz60_2 : w59.cell? ⟨gb348, 2, none⟩ = some (.slice Ao58 x349002_2.length co58) := (blk_cell BK348.out 2).trans rfl; have hfz60_0 := blk_frozen BK348.out 0; have hfz60_1 := blk_frozen BK348.out 1; have hfz60_2 := blk_frozen BK348.out 2) | ((with_reducible refine gate_callee (f := 14) rfl ?_); refine goesL_ (some 62) rfl rfl Try.func14 (by kernel_rfl) rfl #[.agg #[.int .i64 0, .slice none 0 0, .slice Ao58 x349002_2.length co58]] rfl (by (try simp only [List.map_toArray, List.map_cons, List.map_nil]); first | done | rfl | (simp only [List.length_drop, List.length_take]; rfl)) ?_; (refine (order_Prios.calls 0 _ _ ([] : List (S66)) _ _ x349002_2 t362 _ ?side1 ?side2 ?side3 ?side4 A30.out).mono ?_); (case side1 => exact Kd.C_nil _ _); (case side2 => exact Nat.le_refl _); (case side3 => repeat (first | exact (Kd.R_reads' HO_349002.out).2.2 | (with_reducible refine Kd.C_alloc ?_ _) | (with_reducible refine Kd.C_drewN ?_ _) | (with_reducible refine Kd.C_drew ?_))); (case side4 => exact (Kd.R_reads' HO_349002.out).2.1); rintro e w61 ⟨v363, rfl, ho0, hb⟩; refine ⟨_, rfl, ?_⟩; have n0_ := Aside0.mk (Kd.R_below (by (with_reducible repeat (first | apply Kd.R_alloc | apply Kd.R_drewN | apply Kd.R_drew)); exact HO_349002.out) hb); have n1_ := Aside0.mk (Kd.R_elder' (by (with_reducible repeat (first | apply Kd.R_alloc | apply Kd.R_drewN | apply Kd.R_drew)); exact HO361.out) (Kd.R_base ho0) hb); have n2_ := Aside0.mk (Kd.R_lower (Kd.R_new' ho0 (Kd.R_lt (by (with_reducible repeat (first | apply Kd.R_alloc | apply Kd.R_drewN | apply Kd.R_drew)); exact HO361.out))) (below_size (by repeat (first | (with_reducible first | exact HB.out | apply below_alloc | apply pw_below_drewN | apply below_drew1 | refine below_set ?_ GE348.out) | exact HB.out)))); have n3_ := Aside0.mk (blk_below (g := gb348) (o := .cells #[.int .i64 0, .slice none 0 0, .slice Ao58 x349002_2.length co58] 33 (0, 0)) (by (with_reducible repeat (first | refine blk_drewN ?_ _ | refine blk_drew ?_ | refine blk_alloc ?_ _)); exact BK348.out) hb); have n4_ := Aside0.mk (below_step (by repeat (first | (with_reducible first | exact HB.out | apply below_alloc | apply pw_below_drewN | apply below_drew1 | refine below_set ?_ GE348.out) | exact HB.out)) hb); clear HO_349002; clear HO361; clear BK348; clear HB; have HO_349002 := n0_; have HO361 := n1_; have HO364 := n2_; have BK348 := n3_; have HB := n4_; clear n0_ n1_ n2_ n3_ n4_; (try clear hb); (try clear hb2); (try clear hk); (try clear hi); (try clear ho0); obtain ⟨Ao62, co62, eo62⟩ := Kd.R_slice HO364.out; subst eo62) | ((with_reducible refine gate_callee (f := 18) rfl ?_); refine goesL_ (some 64) rfl rfl Try.func18 (by kernel_rfl) rfl #[.slice Ao62 t362.length co62, .int .i64 ji32] rfl (by (try simp only [List.map_toArray, List.map_cons, List.map_nil]); first | done | (simp only [hji32]; rfl) | rfl | (simp only [List.length_drop, List.length_take]; rfl)) ?_; (with_reducible refine (watchbilllaw9_without.calls k2 _ _ t362 ji32 t365 _ ?side1 ?side2 A31.out).mono ?_); (case side1 => repeat (first | exact (Kd.R_reads' HO364.out).2.2 | (with_reducible refine Kd.C_alloc ?_ _) | (with_reducible refine Kd.C_drewN ?_ _) | (with_reducible refine Kd.C_drew ?_))); (case side2 => exact (Kd.R_reads' HO364.out).2.1); rintro e w63 ⟨v366, rfl, ho0, hb⟩; refine ⟨_, rfl, ?_⟩; have n0_ := Aside0.mk (Kd.R_below (by (with_reducible repeat (first | apply Kd.R_alloc | apply Kd.R_drewN | apply Kd.R_drew)); exact HO_349002.out) hb); have n1_ := Aside0.mk (Kd.R_elder' (by (with_reducible repeat (first | apply Kd.R_alloc | apply Kd.R_drewN | apply Kd.R_drew)); exact HO361.out) (Kd.R_base ho0) hb); have n2_ := Aside0.mk (Kd.R_elder' (by (with_reducible repeat (first | apply Kd.R_alloc | apply Kd.R_drewN | apply Kd.R_drew)); exact HO364.out) (Kd.R_base ho0) hb); have n3_ := Aside0.mk (Kd.R_lower (Kd.R_new' (Kd.R_new' ho0 (Kd.R_lt (by (with_reducible repeat (first | apply Kd.R_alloc | apply Kd.R_drewN | apply Kd.R_drew)); exact HO361.out))) (Kd.R_lt (by (with_reducible repeat (first | apply Kd.R_alloc | apply Kd.R_drewN | apply Kd.R_drew)); exact HO364.out))) (below_size (by repeat (first | (with_reducible first | exact HB.out | apply below_alloc | apply pw_below_drewN | apply below_drew1 | refine below_set ?_ GE348.out) | exact HB.out)))); have n4_ := Aside0.mk (blk_below (g := gb348) (o := .cells #[.int .i64 0, .slice none 0 0, .slice Ao58 x349002_2.length co58] 33 (0, 0)) (by (with_reducible repeat (first | refine blk_drewN ?_ _ | refine blk_drew ?_ | refine blk_alloc ?_ _)); exact BK348.out) hb); have n5_ := Aside0.mk (below_step (by repeat (first | (with_reducible first | exact HB.out | apply below_alloc | apply pw_below_drewN | apply below_drew1 | refine below_set ?_ GE348.out) | exact HB.out)) hb); clear HO_349002; clear HO361; clear HO364; clear BK348; clear HB; have HO_349002 := n0_; have HO361 := n1_; have HO364 := n2_; have HO367 := n3_; have BK348 := n4_; have HB := n5_; clear n0_ n1_ n2_ n3_ n4_ n5_; (try clear hb); (try clear hb2); (try clear hk); (try clear hi); (try clear ho0)))
                        have n0_ := Aside0.mk (Kd.R_drew HO_349002.out)
                        have n1_ := Aside0.mk (Kd.R_drew HO361.out)
                        have n2_ := Aside0.mk (Kd.R_drew HO364.out)
                        have n3_ := Aside0.mk (Kd.R_drew HO367.out)
                        have n4_ := Aside0.mk (blk_drew BK348.out)
                        have n5_ := Aside0.mk (below_drew1 HB.out)
                        clear HO_349002
                        clear HO361
                        clear HO364
                        clear HO367
                        clear BK348
                        clear HB
                        have HO_349002 := n0_
                        have HO361 := n1_
                        have HO364 := n2_
                        have HO367 := n3_
                        have BK348 := n4_
                        have HB := n5_
                        clear n0_ n1_ n2_ n3_ n4_ n5_
                        have p368 : 0 ≤ ((ji32) : Int) := of_decide_eq_true (by first | (with_reducible assumption) | assumption)
                        have q368 : (ji32) < (x349002_2.length : Int) := of_decide_eq_true (by first | (with_reducible assumption) | assumption)
                        obtain ⟨ad368, A368_4, c368_4, e368, hx368_0, hx368_1, hx368_2, hx368_3, hx368_4, hl368_4, hi368_4⟩ := at_T48 (Kd.R_reads' HO_349002.out).2.2 (ji32) p368 q368
                        cases e368
                        obtain ⟨ce368, hce368, hMe368, hcc368⟩ := Kd.R_get HO_349002.out z48 (ji32) p368 (by first | exact q368 | exact of_decide_eq_true (by first | (with_reducible assumption) | assumption) | (have e_ := (Kd.R_reads' HO_349002.out).1; omega))
                        obtain ⟨ve368_4, rfl, ge368_4⟩ := k48_openM hMe368
                        have hv368_4 := hcc368 4 _ rfl
                        rw [add_field _ _ 4 (by omega)] at hv368_4
                        replace hv368_4 := Option.some.inj (hv368_4.symm.trans hx368_4)
                        rw [hv368_4] at ge368_4
                        have HL368_4 := Aside0.mk (show Kd.R k45 45 _ _ _ _ ((rd_T48 x349002_2 (ji32)).f4) from ge368_4)
                        clear hv368_4 ge368_4
                        clear hcc368 hce368
                        have HR368_4 := Aside0.mk hi368_4
                        have HC368_4 := Aside0.mk hl368_4
                        clear hi368_4 hl368_4
                        replace p368 := eq_true p368
                        replace q368 := eq_true q368
                        have p35 : 0 ≤ ((ji32) : Int) := of_decide_eq_true (by first | (with_reducible assumption) | assumption)
                        have q35 : ((ji32) : Int) < ((x349002_2.length : Int) : Int) := of_decide_eq_true (by first | (with_reducible assumption) | assumption)
                        obtain ⟨go35, co35, eo35, gb35, gl35, cl35, HG35⟩ := Kd.R_form HO_349002.out (by omega)
                        (first | cases eo35 | (injection eo35 with ea_ en_ ec_; (first | subst ea_ | (injection ea_ with ea_; subst ea_)); subst ec_; clear en_))
                        have GB35 := Aside0.mk gb35
                        have GG35 := Aside0.mk HG35
                        clear gb35 gl35 HG35
                        (first | simp only [add_plain] at hx368_0 | skip)
                        (first | simp only [add_plain] at hx368_1 | skip)
                        (first | simp only [add_plain] at hx368_2 | skip)
                        (first | simp only [add_plain] at hx368_3 | skip)
                        (first | simp only [add_plain] at hx368_4 | skip)
                        obtain ⟨ce35, hcl35, hM35, hcc35, hfr35⟩ := Kd.R_elem HO_349002.out z48 ((ji32) : Int) p35 q35
                        obtain ⟨ve35_4, rfl, ge35_4⟩ := k48_openM hM35
                        have hx35_0 : World.cell? _ ⟨go35, ((ji32) : Int).toNat * 5, none⟩ = some (.string ((rd_T48 x349002_2 (ji32)).f0)) := hcc35 0 _ rfl
                        have hx35_1 : World.cell? _ ⟨go35, ((ji32) : Int).toNat * 5 + 1, none⟩ = some (.int .i64 ((rd_T48 x349002_2 (ji32)).f1)) := hcc35 1 _ rfl
                        have hx35_2 : World.cell? _ ⟨go35, ((ji32) : Int).toNat * 5 + 2, none⟩ = some (.int .i64 ((rd_T48 x349002_2 (ji32)).f2)) := hcc35 2 _ rfl
                        have hx35_3 : World.cell? _ ⟨go35, ((ji32) : Int).toNat * 5 + 3, none⟩ = some (.int .i64 ((rd_T48 x349002_2 (ji32)).f3)) := hcc35 3 _ rfl
                        have hx35_4 : World.cell? _ ⟨go35, ((ji32) : Int).toNat * 5 + 4, none⟩ = some (ve35_4) := hcc35 4 _ rfl
                        have hf35_0 : World.frozen? _ ⟨go35, ((ji32) : Int).toNat * 5, none⟩ = false := hfr35 0
                        have hf35_1 : World.frozen? _ ⟨go35, ((ji32) : Int).toNat * 5 + 1, none⟩ = false := hfr35 1
                        have hf35_2 : World.frozen? _ ⟨go35, ((ji32) : Int).toNat * 5 + 2, none⟩ = false := hfr35 2
                        have hf35_3 : World.frozen? _ ⟨go35, ((ji32) : Int).toNat * 5 + 3, none⟩ = false := hfr35 3
                        have hf35_4 : World.frozen? _ ⟨go35, ((ji32) : Int).toNat * 5 + 4, none⟩ = false := hfr35 4
                        clear hcl35 hcc35 hfr35 hM35
                        replace p35 := eq_true p35
                        replace q35 := eq_true q35
                        obtain ⟨ce65, hcl65, hM65, hcc65, hfr65⟩ := Kd.R_elem HO_349002.out z48 ((ji32) : Int) (of_decide_eq_true (by first | (with_reducible assumption) | assumption)) (by have h_ : ((ji32) : Int) < ((x349002_2.length : Int) : Int) := of_decide_eq_true (by first | (with_reducible assumption) | assumption); first | exact h_ | (have e_ := (Kd.R_reads' HO_349002.out).1; omega) | simpa using h_)
                        obtain ⟨ve65_4, rfl, ge65_4⟩ := k48_openM hM65
                        have HP65 := (Kd.R_seg HO_349002.out ((ji32) : Int) (of_decide_eq_true (by first | (with_reducible assumption) | assumption)) (by have h_ : ((ji32) : Int) < ((x349002_2.length : Int) : Int) := of_decide_eq_true (by first | (with_reducible assumption) | assumption); first | exact h_ | (have e_ := (Kd.R_reads' HO_349002.out).1; omega) | simpa using h_) (seg := [.int .i64 (wrap64 (((rd_T48 x349002_2 (ji32)).f2) - (wrap64 (a2))))]) (j := 2) hcl65 hcc65 (show 3 ≤ 5 from by decide) (x' := (⟨(rd_T48 x349002_2 (ji32)).f0, (rd_T48 x349002_2 (ji32)).f1, wrap64 (((rd_T48 x349002_2 (ji32)).f2) - (wrap64 (a2))), (rd_T48 x349002_2 (ji32)).f3, (rd_T48 x349002_2 (ji32)).f4⟩ : S48)) (k48_mkM _ _ _ (⟨(rd_T48 x349002_2 (ji32)).f0, (rd_T48 x349002_2 (ji32)).f1, wrap64 (((rd_T48 x349002_2 (ji32)).f2) - (wrap64 (a2))), (rd_T48 x349002_2 (ji32)).f3, (rd_T48 x349002_2 (ji32)).f4⟩ : S48) ge65_4) (fun _ hk => hk)).1
                        rw [← Ny369.out] at HP65
                        have HQ65 := Aside0.mk HP65
                        clear hcl65 hcc65 hfr65 hM65 HP65
                        refine start_ (n := 15) (S := fun w' => w'.cell? ⟨gb348, 0, none⟩ = some (.int .i64 0) ∧ w'.cell? ⟨gb348, 1, none⟩ = some (.slice none 0 0) ∧ w'.cell? ⟨gb348, 2, none⟩ = some (.slice (some ⟨go35, 0, none⟩) x349002_2.length co58) ∧ w'.cell? ⟨go35, (((ji32)).toNat * 5), none⟩ = some (.string ((rd_T48 x349002_2 (ji32)).f0)) ∧ w'.cell? ⟨go35, (((ji32)).toNat * 5) + 1, none⟩ = some (.int .i64 ((rd_T48 x349002_2 (ji32)).f1)) ∧ w'.cell? ⟨go35, (((ji32)).toNat * 5) + 2, none⟩ = some (.int .i64 ((rd_T48 x349002_2 (ji32)).f2)) ∧ w'.cell? ⟨go35, (((ji32)).toNat * 5) + 3, none⟩ = some (.int .i64 ((rd_T48 x349002_2 (ji32)).f3)) ∧ w'.cell? ⟨go35, (((ji32)).toNat * 5) + 4, none⟩ = some (.slice A368_4 ((rd_T48 x349002_2 (ji32)).f4).length c368_4)) (ds := [14]) #[false, false, false, false, false, false, false, false, false, false, false, false, false, false, false] (by kernel_rfl) rfl rfl ⟨(blk_cell BK348.out 0).trans rfl, (blk_cell BK348.out 1).trans rfl, (blk_cell BK348.out 2).trans rfl, hx368_0, hx368_1, hx368_2, hx368_3, hx368_4⟩ (fun hHeld => ?_); refine with_tabW watchbilllaw9_OrderMoves.tab13 watchbilllaw9_OrderMoves.bits13 (fun HT_ HW_ => ?_)
                        generalize w63.drew = w64 at HO_349002 HO361 HO364 HO367 BK348 HB GG35 HL368_4 HQ65 HR368_4 hf35_0 hf35_1 hf35_2 hf35_3 hf35_4 hx35_0 hx35_1 hx35_2 hx35_3 hx35_4 hx368_0 hx368_1 hx368_2 hx368_3 hx368_4 hHeld ⊢
                        refine pure_ (i := 0) (N := some 65) (v := ?_) (a' := ?_) #[true, false, false, false, false, false, false, false, false, false, false, false, false, false, false] rfl rfl (any_of HT_.out (by kernel_rfl)) (fun _ _ _ h => h) (Or.inl ⟨by rfl, ?_⟩) ?_ ?_
                        rotate_left
                        · intro w'
                          go_simp
                          with_reducible rfl
                        rotate_left
                        · simp only [Act.put, List.setIfInBounds_toArray, List.set_cons_zero, List.set_cons_succ, i64_w, i32_w]
                          rfl
                        refine pure_ (i := 2) (N := some 67) (v := ?_) (a' := ?_) #[true, false, true, false, false, false, false, false, false, false, false, false, false, false, false] rfl rfl (any_of HT_.out (by kernel_rfl)) (fun _ _ _ h => h) (Or.inl ⟨by rfl, ?_⟩) ?_ ?_
                        rotate_left
                        · intro w'
                          go_simp
                          with_reducible rfl
                        rotate_left
                        · simp only [Act.put, List.setIfInBounds_toArray, List.set_cons_zero, List.set_cons_succ, i64_w, i32_w]
                          rfl
                        refine pure_ (i := 3) (N := some 68) (v := ?_) (a' := ?_) #[true, false, true, true, false, false, false, false, false, false, false, false, false, false, false] rfl rfl (any_of HT_.out (by kernel_rfl)) (fun _ _ _ h => h) (Or.inl ⟨by rfl, ?_⟩) ?_ ?_
                        rotate_left
                        · intro w'
                          go_simp
                          with_reducible rfl
                        rotate_left
                        · simp only [Act.put, List.setIfInBounds_toArray, List.set_cons_zero, List.set_cons_succ, i64_w, i32_w]
                          rfl
                        refine pure_ (i := 5) (N := some 70) (v := ?_) (a' := ?_) #[true, false, true, true, false, true, false, false, false, false, false, false, false, false, false] rfl rfl (any_of HT_.out (by kernel_rfl)) (fun _ _ _ h => h) (Or.inl ⟨by rfl, ?_⟩) ?_ ?_
                        rotate_left
                        · intro w'
                          go_simp
                          with_reducible rfl
                        rotate_left
                        · simp only [Act.put, List.setIfInBounds_toArray, List.set_cons_zero, List.set_cons_succ, i64_w, i32_w]
                          rfl
                        refine pure_ (i := 9) (N := some 74) (v := ?_) (a' := ?_) #[true, false, true, true, false, true, false, false, false, true, false, false, false, false, false] rfl rfl (any_of HT_.out (by kernel_rfl)) (fun _ _ _ h => h) (Or.inl ⟨by rfl, ?_⟩) ?_ ?_
                        rotate_left
                        · intro w'
                          go_simp
                          with_reducible rfl
                        rotate_left
                        · simp only [Act.put, List.setIfInBounds_toArray, List.set_cons_zero, List.set_cons_succ, i64_w, i32_w]
                          rfl
                        refine pure_ (i := 10) (N := some 75) (v := ?_) (a' := ?_) #[true, false, true, true, false, true, false, false, false, true, true, false, false, false, false] rfl rfl (any_of HT_.out (by kernel_rfl)) (fun _ _ _ h => h) (Or.inl ⟨by rfl, ?_⟩) ?_ ?_
                        rotate_left
                        · intro w'
                          go_simp
                          with_reducible rfl
                        rotate_left
                        · simp only [Act.put, List.setIfInBounds_toArray, List.set_cons_zero, List.set_cons_succ, i64_w, i32_w]
                          rfl
                        refine take_ (i := 1) (N := some 66) (v := ?_) (a' := ?_) #[true, true, true, true, false, true, false, false, false, true, true, false, false, false, false] rfl rfl (take_ofW HT_.out HW_.out (by kernel_rfl)) (fun _ _ _ h => h) (Or.inl ⟨by rfl, ?_⟩) hHeld ?_ ?_
                        rotate_left
                        · rintro w' ⟨s0, s1, s2, s3, s4, s5, s6, s7⟩
                          go_simp
                          with_reducible rfl
                        rotate_left
                        · simp only [Act.put, List.setIfInBounds_toArray, List.set_cons_zero, List.set_cons_succ, i64_w, i32_w]
                          rfl
                        refine take_ (i := 4) (N := some 69) (v := ?_) (a' := ?_) #[true, true, true, true, true, true, false, false, false, true, true, false, false, false, false] rfl rfl (take_ofW HT_.out HW_.out (by kernel_rfl)) (fun _ _ _ h => h) (Or.inl ⟨by rfl, ?_⟩) hHeld ?_ ?_
                        rotate_left
                        · rintro w' ⟨s0, s1, s2, s3, s4, s5, s6, s7⟩
                          go_simp
                          with_reducible rfl
                        rotate_left
                        · simp only [Act.put, List.setIfInBounds_toArray, List.set_cons_zero, List.set_cons_succ, i64_w, i32_w]
                          rfl
                        refine pure_ (i := 6) (N := some 71) (v := ?_) (a' := ?_) #[true, true, true, true, true, true, true, false, false, true, true, false, false, false, false] rfl rfl (any_of HT_.out (by kernel_rfl)) (fun _ _ _ h => h) (Or.inl ⟨by rfl, ?_⟩) ?_ ?_
                        rotate_left
                        · intro w'
                          go_simp
                          with_reducible rfl
                        rotate_left
                        · simp only [Act.put, List.setIfInBounds_toArray, List.set_cons_zero, List.set_cons_succ, i64_w, i32_w]
                          rfl
                        refine pure_ (i := 7) (N := some 72) (v := ?_) (a' := ?_) #[true, true, true, true, true, true, true, true, false, true, true, false, false, false, false] rfl rfl (any_of HT_.out (by kernel_rfl)) (fun _ _ _ h => h) (Or.inl ⟨by rfl, ?_⟩) ?_ ?_
                        rotate_left
                        · intro w'
                          go_simp
                          with_reducible rfl
                        rotate_left
                        · simp only [Act.put, List.setIfInBounds_toArray, List.set_cons_zero, List.set_cons_succ, i64_w, i32_w]
                          rfl
                        refine take_ (i := 8) (N := some 73) (v := ?_) (a' := ?_) #[true, true, true, true, true, true, true, true, true, true, true, false, false, false, false] rfl rfl (take_ofW HT_.out HW_.out (by kernel_rfl)) (fun _ _ _ h => h) (Or.inl ⟨by rfl, ?_⟩) hHeld ?_ ?_
                        rotate_left
                        · rintro w' ⟨s0, s1, s2, s3, s4, s5, s6, s7⟩
                          go_simp
                          with_reducible rfl
                        rotate_left
                        · simp only [Act.put, List.setIfInBounds_toArray, List.set_cons_zero, List.set_cons_succ, i64_w, i32_w]
                          rfl
                        refine pure_ (i := 11) (N := some 76) (v := ?_) (a' := ?_) #[true, true, true, true, true, true, true, true, true, true, true, true, false, false, false] rfl rfl (any_of HT_.out (by kernel_rfl)) (fun _ _ _ h => h) (Or.inl ⟨by rfl, ?_⟩) ?_ ?_
                        rotate_left
                        · intro w'
                          go_simp
                          with_reducible rfl
                        rotate_left
                        · simp only [Act.put, List.setIfInBounds_toArray, List.set_cons_zero, List.set_cons_succ, i64_w, i32_w]
                          rfl
                        refine pure_ (i := 12) (N := some 77) (v := ?_) (a' := ?_) #[true, true, true, true, true, true, true, true, true, true, true, true, true, false, false] rfl rfl (any_of HT_.out (by kernel_rfl)) (fun _ _ _ h => h) (Or.inl ⟨by rfl, ?_⟩) ?_ ?_
                        rotate_left
                        · intro w'
                          go_simp
                          with_reducible rfl
                        rotate_left
                        · simp only [Act.put, List.setIfInBounds_toArray, List.set_cons_zero, List.set_cons_succ, i64_w, i32_w]
                          rfl
                        refine pure_ (i := 13) (N := some 78) (v := ?_) (a' := ?_) #[true, true, true, true, true, true, true, true, true, true, true, true, true, true, false] rfl rfl (any_of HT_.out (by kernel_rfl)) (fun _ _ _ h => h) (Or.inl ⟨by rfl, ?_⟩) ?_ ?_
                        rotate_left
                        · intro w'
                          go_simp
                          with_reducible rfl
                        rotate_left
                        · simp only [Act.put, List.setIfInBounds_toArray, List.set_cons_zero, List.set_cons_succ, i64_w, i32_w]
                          rfl
                        refine last_ (i := 14) (N := none) #[true, true, true, true, true, true, true, true, true, true, true, true, true, true, true] rfl rfl (one_of HT_.out (by kernel_rfl)) (by decide) (fun K hK => ?_)
                        refine skip_ (w1 := ?_) (by rfl) rfl ?_ ?_
                        rotate_left
                        · go_simp
                          rfl
                        refine hK.out _ _ ?_
                        clear hK K
                        refine done_ (done_of HT_.out (by kernel_rfl)) ?_
                        have hcz66_0 : w64.cell? ⟨gb348, 0, none⟩ = some (.int .i64 0) := (blk_cell BK348.out 0).trans rfl
                        have hne_gb348 : gb348 ≠ go35 := by have h_ := Kd.R_ne HO_349002.out BK348.out (by decide); intro e_; exact h_ (by rw [e_]; rfl)
                        have hcz66_0s : ∀ (p_ : Nat) (u_ : Value), (w64.setCell ⟨go35, p_, none⟩ u_).cell? ⟨gb348, 0, none⟩ = some (.int .i64 0) := fun p_ u_ => (blk_cell (blk_far BK348.out hne_gb348 u_) 0).trans rfl
                        have hcz66_1 : w64.cell? ⟨gb348, 1, none⟩ = some (.slice none 0 0) := (blk_cell BK348.out 1).trans rfl
                        have hcz66_1s : ∀ (p_ : Nat) (u_ : Value), (w64.setCell ⟨go35, p_, none⟩ u_).cell? ⟨gb348, 1, none⟩ = some (.slice none 0 0) := fun p_ u_ => (blk_cell (blk_far BK348.out hne_gb348 u_) 1).trans rfl
                        have hcz66_2 : w64.cell? ⟨gb348, 2, none⟩ = some (.slice (some ⟨go35, 0, none⟩) x349002_2.length co58) := (blk_cell BK348.out 2).trans rfl
                        have hcz66_2s : ∀ (p_ : Nat) (u_ : Value), (w64.setCell ⟨go35, p_, none⟩ u_).cell? ⟨gb348, 2, none⟩ = some (.slice (some ⟨go35, 0, none⟩) x349002_2.length co58) := fun p_ u_ => (blk_cell (blk_far BK348.out hne_gb348 u_) 2).trans rfl
                        have hfz66_0 := blk_frozen BK348.out 0
                        have hfz66_1 := blk_frozen BK348.out 1
                        have hfz66_2 := blk_frozen BK348.out 2
                        try go_wp2_with (first | ((with_reducible refine gate_callee (f := 11) rfl ?_); refine goesL_ (some 81) rfl rfl Try.func11 (by kernel_rfl) rfl #[.agg #[.int .i64 0, .slice none 0 0, .slice (some ⟨go35, 0, none⟩) y369.length co58], .int .i64 ji32] rfl (by (try simp only [List.map_toArray, List.map_cons, List.map_nil]); first | done | (rw [show y369.length = x349002_2.length from (Kd.R_reads' HQ65.out).1.symm] <;> rfl) | (simp only [hji32]; rfl) | rfl | (simp only [List.length_drop, List.length_take]; rfl)) ?_; (refine (order_Higher.calls k2 0 _ _ ([] : List (S66)) _ _ y369 ji32 t370 _ ?side1 ?side2 ?side3 ?side4 A36.out).mono ?_); (case side1 => exact Kd.C_nil _ _); (case side2 => exact Nat.le_refl _); (case side3 => refine (Kd.R_reads' (e := 48) (base := w.heap.size) (ok := fun k_ => True) (n := x349002_2.length) (c := co58) ?_).2.2; exact (by (with_reducible repeat (first | apply Kd.R_alloc | apply Kd.R_drewN | apply Kd.R_drew)); exact HQ65.out)); (case side4 => rw [show y369.length = x349002_2.length from (Kd.R_reads' HQ65.out).1.symm]; exact (Kd.R_reads' HO_349002.out).2.1); rintro e w67 ⟨v371, rfl, ho0, hb⟩; refine ⟨_, rfl, ?_⟩; have n0_ := Aside0.mk (Kd.R_below (by (with_reducible repeat (first | apply Kd.R_alloc | apply Kd.R_drewN | apply Kd.R_drew)); exact HQ65.out) hb); have n1_ := Aside0.mk (Kd.R_elder' (by (with_reducible repeat (first | apply Kd.R_alloc | apply Kd.R_drewN | apply Kd.R_drew)); exact (Kd.R_mono (Kd.R_far (p := ⟨go35, ((ji32) : Int).toNat * 5 + 2, none⟩) (Kd.R_types HO361.out GG35.out (by decide)) (fun _ hk => hk.2) (.int .i64 (wrap64 (((rd_T48 x349002_2 (ji32)).f2) - (wrap64 (a2)))))) (fun _ h_ => h_.1))) (Kd.R_base ho0) hb); have n2_ := Aside0.mk (Kd.R_elder' (by (with_reducible repeat (first | apply Kd.R_alloc | apply Kd.R_drewN | apply Kd.R_drew)); exact (Kd.R_mono (Kd.R_far (p := ⟨go35, ((ji32) : Int).toNat * 5 + 2, none⟩) (Kd.R_types HO364.out GG35.out (by decide)) (fun _ hk => hk.2) (.int .i64 (wrap64 (((rd_T48 x349002_2 (ji32)).f2) - (wrap64 (a2)))))) (fun _ h_ => h_.1))) (Kd.R_base ho0) hb); have n3_ := Aside0.mk (Kd.R_elder' (by (with_reducible repeat (first | apply Kd.R_alloc | apply Kd.R_drewN | apply Kd.R_drew)); exact (Kd.R_mono (Kd.R_far (p := ⟨go35, ((ji32) : Int).toNat * 5 + 2, none⟩) (Kd.R_types HO367.out GG35.out (by decide)) (fun _ hk => hk.2) (.int .i64 (wrap64 (((rd_T48 x349002_2 (ji32)).f2) - (wrap64 (a2)))))) (fun _ h_ => h_.1))) (Kd.R_base ho0) hb); have n4_ := Aside0.mk (Kd.R_below (by (with_reducible repeat (first | apply Kd.R_alloc | apply Kd.R_drewN | apply Kd.R_drew)); exact (Kd.R_mono (Kd.R_far (p := ⟨go35, ((ji32) : Int).toNat * 5 + 2, none⟩) (Kd.R_types HL368_4.out GG35.out (by decide)) (fun _ hk => hk.2) (.int .i64 (wrap64 (((rd_T48 x349002_2 (ji32)).f2) - (wrap64 (a2)))))) (fun _ h_ => h_.1))) hb); have n5_ := Aside0.mk (Kd.R_lower (Kd.R_new' (Kd.R_new' (Kd.R_new' ho0 (Kd.R_lt (by (with_reducible repeat (first | apply Kd.R_alloc | apply Kd.R_drewN | apply Kd.R_drew)); exact (Kd.R_mono (Kd.R_far (p := ⟨go35, ((ji32) : Int).toNat * 5 + 2, none⟩) (Kd.R_types HO361.out GG35.out (by decide)) (fun _ hk => hk.2) (.int .i64 (wrap64 (((rd_T48 x349002_2 (ji32)).f2) - (wrap64 (a2)))))) (fun _ h_ => h_.1))))) (Kd.R_lt (by (with_reducible repeat (first | apply Kd.R_alloc | apply Kd.R_drewN | apply Kd.R_drew)); exact (Kd.R_mono (Kd.R_far (p := ⟨go35, ((ji32) : Int).toNat * 5 + 2, none⟩) (Kd.R_types HO364.out GG35.out (by decide)) (fun _ hk => hk.2) (.int .i64 (wrap64 (((rd_T48 x349002_2 (ji32)).f2) - (wrap64 (a2)))))) (fun _ h_ => h_.1))))) (Kd.R_lt (by (with_reducible repeat (first | apply Kd.R_alloc | apply Kd.R_drewN | apply Kd.R_drew)); exact (Kd.R_mono (Kd.R_far (p := ⟨go35, ((ji32) : Int).toNat * 5 + 2, none⟩) (Kd.R_types HO367.out GG35.out (by decide)) (fun _ hk => hk.2) (.int .i64 (wrap64 (((rd_T48 x349002_2 (ji32)).f2) - (wrap64 (a2)))))) (fun _ h_ => h_.1))))) (below_size (by repeat (first | (with_reducible first | exact HB.out | apply below_alloc | apply pw_below_drewN | apply below_drew1 | refine below_set ?_ GB35.out | refine below_set ?_ GE348.out) | exact HB.out)))); have n6_ := Aside0.mk (blk_below (g := gb348) (o := .cells #[.int .i64 0, .slice none 0 0, .slice (some ⟨go35, 0, none⟩) x349002_2.length co58] 33 (0, 0)) (by (with_reducible repeat (first | refine blk_drewN ?_ _ | refine blk_drew ?_ | refine blk_alloc ?_ _)); refine blk_far ?_ (by have h_ := Kd.R_ne HO_349002.out BK348.out (by decide); intro e_; exact h_ (by rw [e_]; rfl)) _; (with_reducible repeat (first | refine blk_drewN ?_ _ | refine blk_drew ?_ | refine blk_alloc ?_ _)); exact BK348.out) hb); have n7_ := Aside0.mk (Kd.C_below ((Kd.R_reads' (by (with_reducible repeat (first | apply Kd.R_alloc | apply Kd.R_drewN | apply Kd.R_drew)); exact (Kd.R_mono (Kd.R_far (p := ⟨go35, ((ji32) : Int).toNat * 5 + 2, none⟩) (Kd.R_types HL368_4.out GG35.out (by decide)) (fun _ hk => hk.2) (.int .i64 (wrap64 (((rd_T48 x349002_2 (ji32)).f2) - (wrap64 (a2)))))) (fun _ h_ => h_.1)))).2.2) hb); have n8_ := Aside0.mk (below_step (by repeat (first | (with_reducible first | exact HB.out | apply below_alloc | apply pw_below_drewN | apply below_drew1 | refine below_set ?_ GB35.out | refine below_set ?_ GE348.out) | exact HB.out)) hb); clear HO_349002; clear HO361; clear HO364; clear HO367; clear HL368_4; clear BK348; clear HR368_4; clear HB; have HO_349002 := n0_; have HO361 := n1_; have HO364 := n2_; have HO367 := n3_; have HL368_4 := n4_; have HO372 := n5_; have BK348 := n6_; have HR368_4 := n7_; have HB := n8_; clear n0_ n1_ n2_ n3_ n4_ n5_ n6_ n7_ n8_; (try clear hb); (try clear hb2); (try clear hk); (try clear hi); (try clear ho0); have hcz68_0 : w67.cell? ⟨gb348, 0, none⟩ = some (.int .i64 0) := (blk_cell BK348.out 0).trans rfl; have hcz68_1 : w67.cell? ⟨gb348, 1, none⟩ = some (.slice none 0 0) := (blk_cell BK348.out 1).trans rfl; have hcz68_2 : w67.cell? ⟨gb348, 2, none⟩ = some (.slice (some ⟨go35, 0, none⟩) x349002_2.length co58) := (blk_cell BK348.out 2).trans rfl; have hfz68_0 := blk_frozen BK348.out 0; have hfz68_1 := blk_frozen BK348.out 1; have hfz68_2 := blk_frozen BK348.out 2) | ((with_reducible refine gate_callee (f := 14) rfl ?_); refine goesL_ (some 83) rfl rfl Try.func14 (by kernel_rfl) rfl #[.agg #[.int .i64 0, .slice none 0 0, .slice (some ⟨go35, 0, none⟩) y369.length co58]] rfl (by (try simp only [List.map_toArray, List.map_cons, List.map_nil]); first | done | (rw [show y369.length = x349002_2.length from (Kd.R_reads' HO_349002.out).1.symm] <;> rfl) | rfl | (simp only [List.length_drop, List.length_take]; rfl)) ?_; (refine (order_Prios.calls 0 _ _ ([] : List (S66)) _ _ y369 t373 _ ?side1 ?side2 ?side3 ?side4 A37.out).mono ?_); (case side1 => exact Kd.C_nil _ _); (case side2 => exact Nat.le_refl _); (case side3 => repeat (first | exact (Kd.R_reads' HO_349002.out).2.2 | (with_reducible refine Kd.C_alloc ?_ _) | (with_reducible refine Kd.C_drewN ?_ _) | (with_reducible refine Kd.C_drew ?_))); (case side4 => rw [show y369.length = x349002_2.length from (Kd.R_reads' HO_349002.out).1.symm]; exact (Kd.R_reads' HO_349002.out).2.1); rintro e w69 ⟨v374, rfl, ho0, hb⟩; refine ⟨_, rfl, ?_⟩; have n0_ := Aside0.mk (Kd.R_below (by (with_reducible repeat (first | apply Kd.R_alloc | apply Kd.R_drewN | apply Kd.R_drew)); exact HO_349002.out) hb); have n1_ := Aside0.mk (Kd.R_elder' (by (with_reducible repeat (first | apply Kd.R_alloc | apply Kd.R_drewN | apply Kd.R_drew)); exact HO361.out) (Kd.R_base ho0) hb); have n2_ := Aside0.mk (Kd.R_elder' (by (with_reducible repeat (first | apply Kd.R_alloc | apply Kd.R_drewN | apply Kd.R_drew)); exact HO364.out) (Kd.R_base ho0) hb); have n3_ := Aside0.mk (Kd.R_elder' (by (with_reducible repeat (first | apply Kd.R_alloc | apply Kd.R_drewN | apply Kd.R_drew)); exact HO367.out) (Kd.R_base ho0) hb); have n4_ := Aside0.mk (Kd.R_below (by (with_reducible repeat (first | apply Kd.R_alloc | apply Kd.R_drewN | apply Kd.R_drew)); exact HL368_4.out) hb); have n5_ := Aside0.mk (Kd.R_elder' (by (with_reducible repeat (first | apply Kd.R_alloc | apply Kd.R_drewN | apply Kd.R_drew)); exact HO372.out) (Kd.R_base ho0) hb); have n6_ := Aside0.mk (Kd.R_lower (Kd.R_new' (Kd.R_new' (Kd.R_new' (Kd.R_new' ho0 (Kd.R_lt (by (with_reducible repeat (first | apply Kd.R_alloc | apply Kd.R_drewN | apply Kd.R_drew)); exact HO361.out))) (Kd.R_lt (by (with_reducible repeat (first | apply Kd.R_alloc | apply Kd.R_drewN | apply Kd.R_drew)); exact HO364.out))) (Kd.R_lt (by (with_reducible repeat (first | apply Kd.R_alloc | apply Kd.R_drewN | apply Kd.R_drew)); exact HO367.out))) (Kd.R_lt (by (with_reducible repeat (first | apply Kd.R_alloc | apply Kd.R_drewN | apply Kd.R_drew)); exact HO372.out))) (below_size (by repeat (first | (with_reducible first | exact HB.out | apply below_alloc | apply pw_below_drewN | apply below_drew1 | refine below_set ?_ GE348.out) | exact HB.out)))); have n7_ := Aside0.mk (blk_below (g := gb348) (o := .cells #[.int .i64 0, .slice none 0 0, .slice (some ⟨go35, 0, none⟩) x349002_2.length co58] 33 (0, 0)) (by (with_reducible repeat (first | refine blk_drewN ?_ _ | refine blk_drew ?_ | refine blk_alloc ?_ _)); exact BK348.out) hb); have n8_ := Aside0.mk (Kd.C_below (by repeat (first | (with_reducible exact HR368_4.out) | (with_reducible refine Kd.C_alloc ?_ _) | (with_reducible refine Kd.C_drewN ?_ _) | (with_reducible refine Kd.C_drew ?_) | exact HR368_4.out)) hb); have n9_ := Aside0.mk (below_step (by repeat (first | (with_reducible first | exact HB.out | apply below_alloc | apply pw_below_drewN | apply below_drew1 | refine below_set ?_ GE348.out) | exact HB.out)) hb); clear HO_349002; clear HO361; clear HO364; clear HO367; clear HL368_4; clear HO372; clear BK348; clear HR368_4; clear HB; have HO_349002 := n0_; have HO361 := n1_; have HO364 := n2_; have HO367 := n3_; have HL368_4 := n4_; have HO372 := n5_; have HO375 := n6_; have BK348 := n7_; have HR368_4 := n8_; have HB := n9_; clear n0_ n1_ n2_ n3_ n4_ n5_ n6_ n7_ n8_ n9_; (try clear hb); (try clear hb2); (try clear hk); (try clear hi); (try clear ho0); obtain ⟨Ao70, co70, eo70⟩ := Kd.R_slice HO375.out; subst eo70) | ((with_reducible refine gate_callee (f := 18) rfl ?_); refine goesL_ (some 85) rfl rfl Try.func18 (by kernel_rfl) rfl #[.slice Ao70 t373.length co70, .int .i64 ji32] rfl (by (try simp only [List.map_toArray, List.map_cons, List.map_nil]); first | done | (simp only [hji32]; rfl) | rfl | (simp only [List.length_drop, List.length_take]; rfl)) ?_; (with_reducible refine (watchbilllaw9_without.calls k2 _ _ t373 ji32 t376 _ ?side1 ?side2 A38.out).mono ?_); (case side1 => repeat (first | exact (Kd.R_reads' HO375.out).2.2 | (with_reducible refine Kd.C_alloc ?_ _) | (with_reducible refine Kd.C_drewN ?_ _) | (with_reducible refine Kd.C_drew ?_))); (case side2 => exact (Kd.R_reads' HO375.out).2.1); rintro e w71 ⟨v377, rfl, ho0, hb⟩; refine ⟨_, rfl, ?_⟩; have n0_ := Aside0.mk (Kd.R_below (by (with_reducible repeat (first | apply Kd.R_alloc | apply Kd.R_drewN | apply Kd.R_drew)); exact HO_349002.out) hb); have n1_ := Aside0.mk (Kd.R_elder' (by (with_reducible repeat (first | apply Kd.R_alloc | apply Kd.R_drewN | apply Kd.R_drew)); exact HO361.out) (Kd.R_base ho0) hb); have n2_ := Aside0.mk (Kd.R_elder' (by (with_reducible repeat (first | apply Kd.R_alloc | apply Kd.R_drewN | apply Kd.R_drew)); exact HO364.out) (Kd.R_base ho0) hb); have n3_ := Aside0.mk (Kd.R_elder' (by (with_reducible repeat (first | apply Kd.R_alloc | apply Kd.R_drewN | apply Kd.R_drew)); exact HO367.out) (Kd.R_base ho0) hb); have n4_ := Aside0.mk (Kd.R_below (by (with_reducible repeat (first | apply Kd.R_alloc | apply Kd.R_drewN | apply Kd.R_drew)); exact HL368_4.out) hb); have n5_ := Aside0.mk (Kd.R_elder' (by (with_reducible repeat (first | apply Kd.R_alloc | apply Kd.R_drewN | apply Kd.R_drew)); exact HO372.out) (Kd.R_base ho0) hb); have n6_ := Aside0.mk (Kd.R_elder' (by (with_reducible repeat (first | apply Kd.R_alloc | apply Kd.R_drewN | apply Kd.R_drew)); exact HO375.out) (Kd.R_base ho0) hb); have n7_ := Aside0.mk (Kd.R_lower (Kd.R_new' (Kd.R_new' (Kd.R_new' (Kd.R_new' (Kd.R_new' ho0 (Kd.R_lt (by (with_reducible repeat (first | apply Kd.R_alloc | apply Kd.R_drewN | apply Kd.R_drew)); exact HO361.out))) (Kd.R_lt (by (with_reducible repeat (first | apply Kd.R_alloc | apply Kd.R_drewN | apply Kd.R_drew)); exact HO364.out))) (Kd.R_lt (by (with_reducible repeat (first | apply Kd.R_alloc | apply Kd.R_drewN | apply Kd.R_drew)); exact HO367.out))) (Kd.R_lt (by (with_reducible repeat (first | apply Kd.R_alloc | apply Kd.R_drewN | apply Kd.R_drew)); exact HO372.out))) (Kd.R_lt (by (with_reducible repeat (first | apply Kd.R_alloc | apply Kd.R_drewN | apply Kd.R_drew)); exact HO375.out))) (below_size (by repeat (first | (with_reducible first | exact HB.out | apply below_alloc | apply pw_below_drewN | apply below_drew1 | refine below_set ?_ GE348.out) | exact HB.out)))); have n8_ := Aside0.mk (blk_below (g := gb348) (o := .cells #[.int .i64 0, .slice none 0 0, .slice (some ⟨go35, 0, none⟩) x349002_2.length co58] 33 (0, 0)) (by (with_reducible repeat (first | refine blk_drewN ?_ _ | refine blk_drew ?_ | refine blk_alloc ?_ _)); exact BK348.out) hb); have n9_ := Aside0.mk (Kd.C_below (by repeat (first | (with_reducible exact HR368_4.out) | (with_reducible refine Kd.C_alloc ?_ _) | (with_reducible refine Kd.C_drewN ?_ _) | (with_reducible refine Kd.C_drew ?_) | exact HR368_4.out)) hb); have n10_ := Aside0.mk (below_step (by repeat (first | (with_reducible first | exact HB.out | apply below_alloc | apply pw_below_drewN | apply below_drew1 | refine below_set ?_ GE348.out) | exact HB.out)) hb); clear HO_349002; clear HO361; clear HO364; clear HO367; clear HL368_4; clear HO372; clear HO375; clear BK348; clear HR368_4; clear HB; have HO_349002 := n0_; have HO361 := n1_; have HO364 := n2_; have HO367 := n3_; have HL368_4 := n4_; have HO372 := n5_; have HO375 := n6_; have HO378 := n7_; have BK348 := n8_; have HR368_4 := n9_; have HB := n10_; clear n0_ n1_ n2_ n3_ n4_ n5_ n6_ n7_ n8_ n9_ n10_; (try clear hb); (try clear hb2); (try clear hk); (try clear hi); (try clear ho0); obtain ⟨Ao72, co72, eo72⟩ := Kd.R_slice HO372.out; subst eo72; obtain ⟨Ao73, co73, eo73⟩ := Kd.R_slice HO361.out; subst eo73))
                        go_loopg [14] k2 (fun kq v14 w' => ∃ (x14_3 : Int), v14 = .int .i64 x14_3 ∧ Aside0 (watchbilllaw9_OrderMoves.l1 kq t359 t365 t370 t376 x14_3 = some r) ∧ Aside0 (kq ≤ k2) ∧ Aside0 (Kd.R (Kd.int .i64) 3 w' w.heap.size (fun k_ => some k_ ≠ (v366 : Value).ownBlock ∧ some k_ ≠ ((.slice Ao72 t370.length co72) : Value).ownBlock ∧ some k_ ≠ (v377 : Value).ownBlock) (.slice Ao73 t359.length co73) t359) ∧ Aside0 (Kd.R (Kd.int .i64) 3 w' w.heap.size (fun k_ => some k_ ≠ ((.slice Ao73 t359.length co73) : Value).ownBlock ∧ some k_ ≠ ((.slice Ao72 t370.length co72) : Value).ownBlock ∧ some k_ ≠ (v377 : Value).ownBlock) v366 t365) ∧ Aside0 (Kd.R (Kd.int .i64) 3 w' w.heap.size (fun k_ => some k_ ≠ ((.slice Ao73 t359.length co73) : Value).ownBlock ∧ some k_ ≠ (v366 : Value).ownBlock ∧ some k_ ≠ (v377 : Value).ownBlock) (.slice Ao72 t370.length co72) t370) ∧ Aside0 (Kd.R (Kd.int .i64) 3 w' w.heap.size (fun k_ => some k_ ≠ ((.slice Ao73 t359.length co73) : Value).ownBlock ∧ some k_ ≠ (v366 : Value).ownBlock ∧ some k_ ≠ ((.slice Ao72 t370.length co72) : Value).ownBlock) v377 t376) ∧ Aside0 (Kd.R k48 48 w' w.heap.size (fun _ => True) (.slice (some ⟨go35, 0, none⟩) x349002_2.length co58) y369) ∧ Aside0 (w'.heap[gb348]? = some (.cells #[.int .i64 0, (.slice none 0 0), (.slice (some ⟨go35, 0, none⟩) x349002_2.length co58)] 33 (0, 0))) ∧ Aside0 (Kd.C k45 w' A368_4 ((rd_T48 x349002_2 (ji32)).f4).length ((rd_T48 x349002_2 (ji32)).f4)) ∧ Aside0 (Below w.heap.size w w'))
                        case atStart => exact ⟨(0), (by first | rfl | (simp; done) | (simp [*]; done) | (simp [Int.tdiv_eq_ediv_of_nonneg]; done)), H', ⟨Nat.le_refl _⟩, ⟨by (with_reducible repeat (first | apply Kd.R_alloc | apply Kd.R_drewN | apply Kd.R_drew)); exact Kd.R_mono HO361.out (fun _ hk => ⟨hk.1.1.1.2, ⟨hk.1.1.2, hk.2⟩⟩)⟩, ⟨by (with_reducible repeat (first | apply Kd.R_alloc | apply Kd.R_drewN | apply Kd.R_drew)); exact Kd.R_mono HO367.out (fun _ hk => ⟨hk.1.1.1.1.2, ⟨hk.1.1.2, hk.2⟩⟩)⟩, ⟨by (with_reducible repeat (first | apply Kd.R_alloc | apply Kd.R_drewN | apply Kd.R_drew)); exact Kd.R_mono HO372.out (fun _ hk => ⟨hk.1.1.1.1.2, ⟨hk.1.1.2, hk.2⟩⟩)⟩, ⟨by (with_reducible repeat (first | apply Kd.R_alloc | apply Kd.R_drewN | apply Kd.R_drew)); exact Kd.R_mono HO378.out (fun _ hk => ⟨hk.1.1.1.1.2, ⟨hk.1.1.2, hk.1.2⟩⟩)⟩, ⟨by (with_reducible repeat (first | apply Kd.R_alloc | apply Kd.R_drewN | apply Kd.R_drew)); exact HO_349002.out⟩, ⟨by (with_reducible repeat (first | refine blk_drewN ?_ _ | refine blk_drew ?_ | refine blk_alloc ?_ _)); exact BK348.out⟩, ⟨by repeat (first | (with_reducible exact HR368_4.out) | (with_reducible refine Kd.C_alloc ?_ _) | (with_reducible refine Kd.C_drewN ?_ _) | (with_reducible refine Kd.C_drew ?_) | exact HR368_4.out)⟩, ⟨by repeat (first | (with_reducible first | exact HB.out | apply below_alloc | apply pw_below_drewN | apply below_drew1 | refine below_set ?_ GE348.out) | exact HB.out)⟩⟩
                        case round =>
                          clear H'
                          try clear c1
                          try clear c2
                          try clear p2
                          try clear c3
                          try clear p3
                          try clear q3
                          try clear hx3
                          try clear hf3
                          try clear c4
                          try clear c6
                          try clear p6
                          try clear c11
                          try clear c12
                          try clear c12b0
                          try clear c13
                          try clear c14
                          try clear c18
                          try clear c28
                          try clear c28b0
                          try clear c28b1
                          try clear c28b2
                          try clear c33
                          try clear c33b0
                          try clear c34
                          try clear c34b0
                          try clear c35
                          try clear p35
                          try clear q35
                          try clear hx35
                          try clear hf35
                          try clear c36
                          try clear p36
                          try clear q36
                          try clear hx36
                          try clear c39
                          try clear c39b0
                          try clear c39b1
                          try clear c48
                          try clear p64
                          try clear c65
                          try clear hcz40_0
                          try clear hcz40_1
                          try clear hcz40_2
                          try clear hcz43_0
                          try clear hcz43_1
                          try clear hcz43_2
                          try clear hcz49_0
                          try clear hcz49_1
                          try clear hcz49_2
                          try clear hcz51_0
                          try clear hcz51_1
                          try clear hcz51_2
                          try clear hcz57_0
                          try clear hcz57_1
                          try clear hcz57_2
                          try clear hcz60_0
                          try clear hcz60_1
                          try clear hcz60_2
                          try clear hcz66_0
                          try clear hcz66_1
                          try clear hcz66_2
                          try clear hcz68_0
                          try clear hcz68_1
                          try clear hcz68_2
                          try clear hfz40_0
                          try clear hfz40_1
                          try clear hfz40_2
                          try clear hfz43_0
                          try clear hfz43_1
                          try clear hfz43_2
                          try clear hfz49_0
                          try clear hfz49_1
                          try clear hfz49_2
                          try clear hfz51_0
                          try clear hfz51_1
                          try clear hfz51_2
                          try clear hfz57_0
                          try clear hfz57_1
                          try clear hfz57_2
                          try clear hfz60_0
                          try clear hfz60_1
                          try clear hfz60_2
                          try clear hfz66_0
                          try clear hfz66_1
                          try clear hfz66_2
                          try clear hfz68_0
                          try clear hfz68_1
                          try clear hfz68_2
                          try clear hx35_0
                          try clear hx35_1
                          try clear hx35_2
                          try clear hx35_3
                          try clear hx35_4
                          try clear hx368_0
                          try clear hx368_1
                          try clear hx368_2
                          try clear hx368_3
                          try clear hx368_4
                          try clear p35
                          try clear p368
                          try clear q35
                          try clear q368
                          obtain ⟨x14_3, rfl, HA, HK3, HO_10, HO_11, HO_12, HO_13, HO_349002, BK348, HR368_4, HB⟩ := hrel
                          have hl349002_3 := (Kd.R_reads' HO_349002.out).1
                          rw [hl349002_3] at HO_349002
                          (try simp only [hl349002_3])
                          (try simp only [hl349002_3] at BK348)
                          (try simp only [hl349002_3] at HO_10)
                          (try simp only [hl349002_3] at HO_11)
                          (try simp only [hl349002_3] at HO_12)
                          (try simp only [hl349002_3] at HO_13)
                          cases gk with
                          | zero => exact absurd HA.out (by simp [watchbilllaw9_OrderMoves.l1])
                          | succ k3 =>
                            have H := HA.out
                            clear HA
                            simp only [watchbilllaw9_OrderMoves.l1] at H
                            by_cases c74 : x14_3 < (t370.length : Int)
                            · rw [if_pos c74] at H
                              have c74b0 : decide (x14_3 < (t370.length : Int)) = true := decide_eq_true c74
                              (try (have c74b0z := c74b0; simp only [hl349002_3] at c74b0z))
                              clear c74
                              have H' := Aside0.mk H
                              clear H
                              go_wp2
                              go_loopg [15, 16] k3 (fun kq v15 v16 w' => ∃ (x15_4 : Bool) (x16_4 : Int), v15 = .bool x15_4 ∧ v16 = .int .i64 x16_4 ∧ Aside0 (watchbilllaw9_OrderMoves.l2 kq t359 t365 t370 t376 x14_3 x15_4 x16_4 = some r) ∧ Aside0 (kq ≤ k3) ∧ Aside0 (Kd.R (Kd.int .i64) 3 w' w.heap.size (fun k_ => some k_ ≠ (v366 : Value).ownBlock ∧ some k_ ≠ ((.slice Ao72 t370.length co72) : Value).ownBlock ∧ some k_ ≠ (v377 : Value).ownBlock) (.slice Ao73 t359.length co73) t359) ∧ Aside0 (Kd.R (Kd.int .i64) 3 w' w.heap.size (fun k_ => some k_ ≠ ((.slice Ao73 t359.length co73) : Value).ownBlock ∧ some k_ ≠ ((.slice Ao72 t370.length co72) : Value).ownBlock ∧ some k_ ≠ (v377 : Value).ownBlock) v366 t365) ∧ Aside0 (Kd.R (Kd.int .i64) 3 w' w.heap.size (fun k_ => some k_ ≠ ((.slice Ao73 t359.length co73) : Value).ownBlock ∧ some k_ ≠ (v366 : Value).ownBlock ∧ some k_ ≠ (v377 : Value).ownBlock) (.slice Ao72 t370.length co72) t370) ∧ Aside0 (Kd.R (Kd.int .i64) 3 w' w.heap.size (fun k_ => some k_ ≠ ((.slice Ao73 t359.length co73) : Value).ownBlock ∧ some k_ ≠ (v366 : Value).ownBlock ∧ some k_ ≠ ((.slice Ao72 t370.length co72) : Value).ownBlock) v377 t376) ∧ Aside0 (Kd.R k48 48 w' w.heap.size (fun _ => True) (.slice (some ⟨go35, 0, none⟩) y369.length co58) y369) ∧ Aside0 (w'.heap[gb348]? = some (.cells #[.int .i64 0, (.slice none 0 0), (.slice (some ⟨go35, 0, none⟩) y369.length co58)] 33 (0, 0))) ∧ Aside0 (Kd.C k45 w' A368_4 ((rd_T48 x349002_2 (ji32)).f4).length ((rd_T48 x349002_2 (ji32)).f4)) ∧ Aside0 (Below w.heap.size w w'))
                              case atStart => exact ⟨(false), (0), (by first | rfl | (simp; done) | (simp [*]; done) | (simp [Int.tdiv_eq_ediv_of_nonneg]; done)), (by first | rfl | (simp; done) | (simp [*]; done) | (simp [Int.tdiv_eq_ediv_of_nonneg]; done)), H', ⟨Nat.le_refl _⟩, ⟨by (try simp only [hl349002_3]); (with_reducible repeat (first | apply Kd.R_alloc | apply Kd.R_drewN | apply Kd.R_drew)); exact HO_10.out⟩, ⟨by (try simp only [hl349002_3]); (with_reducible repeat (first | apply Kd.R_alloc | apply Kd.R_drewN | apply Kd.R_drew)); exact HO_11.out⟩, ⟨by (try simp only [hl349002_3]); (with_reducible repeat (first | apply Kd.R_alloc | apply Kd.R_drewN | apply Kd.R_drew)); exact HO_12.out⟩, ⟨by (try simp only [hl349002_3]); (with_reducible repeat (first | apply Kd.R_alloc | apply Kd.R_drewN | apply Kd.R_drew)); exact HO_13.out⟩, ⟨by (try simp only [hl349002_3]); (with_reducible repeat (first | apply Kd.R_alloc | apply Kd.R_drewN | apply Kd.R_drew)); exact HO_349002.out⟩, ⟨by (try simp only [hl349002_3]); (with_reducible repeat (first | refine blk_drewN ?_ _ | refine blk_drew ?_ | refine blk_alloc ?_ _)); exact BK348.out⟩, ⟨by repeat (first | (with_reducible exact HR368_4.out) | (with_reducible refine Kd.C_alloc ?_ _) | (with_reducible refine Kd.C_drewN ?_ _) | (with_reducible refine Kd.C_drew ?_) | exact HR368_4.out)⟩, ⟨by repeat (first | (with_reducible first | exact HB.out | apply below_alloc | apply pw_below_drewN | apply below_drew1 | refine below_set ?_ GE348.out) | exact HB.out)⟩⟩
                              case round =>
                                clear H'
                                try clear c1
                                try clear c2
                                try clear p2
                                try clear c3
                                try clear p3
                                try clear q3
                                try clear hx3
                                try clear hf3
                                try clear c4
                                try clear c6
                                try clear p6
                                try clear c7
                                try clear c11
                                try clear c12
                                try clear c12b0
                                try clear c13
                                try clear c14
                                try clear c18
                                try clear c28
                                try clear c28b0
                                try clear c28b1
                                try clear c28b2
                                try clear c33
                                try clear c33b0
                                try clear c34
                                try clear c34b0
                                try clear c35
                                try clear p35
                                try clear q35
                                try clear hx35
                                try clear hf35
                                try clear c36
                                try clear p36
                                try clear q36
                                try clear hx36
                                try clear c39
                                try clear c39b0
                                try clear c39b1
                                try clear c48
                                try clear p64
                                try clear c65
                                try clear c74
                                try clear c74b0
                                try clear hcz40_0
                                try clear hcz40_1
                                try clear hcz40_2
                                try clear hcz43_0
                                try clear hcz43_1
                                try clear hcz43_2
                                try clear hcz49_0
                                try clear hcz49_1
                                try clear hcz49_2
                                try clear hcz51_0
                                try clear hcz51_1
                                try clear hcz51_2
                                try clear hcz57_0
                                try clear hcz57_1
                                try clear hcz57_2
                                try clear hcz60_0
                                try clear hcz60_1
                                try clear hcz60_2
                                try clear hcz66_0
                                try clear hcz66_1
                                try clear hcz66_2
                                try clear hcz68_0
                                try clear hcz68_1
                                try clear hcz68_2
                                try clear hfz40_0
                                try clear hfz40_1
                                try clear hfz40_2
                                try clear hfz43_0
                                try clear hfz43_1
                                try clear hfz43_2
                                try clear hfz49_0
                                try clear hfz49_1
                                try clear hfz49_2
                                try clear hfz51_0
                                try clear hfz51_1
                                try clear hfz51_2
                                try clear hfz57_0
                                try clear hfz57_1
                                try clear hfz57_2
                                try clear hfz60_0
                                try clear hfz60_1
                                try clear hfz60_2
                                try clear hfz66_0
                                try clear hfz66_1
                                try clear hfz66_2
                                try clear hfz68_0
                                try clear hfz68_1
                                try clear hfz68_2
                                try clear hx35_0
                                try clear hx35_1
                                try clear hx35_2
                                try clear hx35_3
                                try clear hx35_4
                                try clear hx368_0
                                try clear hx368_1
                                try clear hx368_2
                                try clear hx368_3
                                try clear hx368_4
                                try clear p2
                                try clear p3
                                try clear p35
                                try clear p36
                                try clear p368
                                try clear p6
                                try clear p64
                                try clear q3
                                try clear q35
                                try clear q36
                                try clear q368
                                obtain ⟨x15_4, x16_4, rfl, rfl, HA, HK4, HO_10, HO_11, HO_12, HO_13, HO_349002, BK348, HR368_4, HB⟩ := hrel
                                cases gk with
                                | zero => exact absurd HA.out (by simp [watchbilllaw9_OrderMoves.l2])
                                | succ k4 =>
                                  have H := HA.out
                                  clear HA
                                  simp only [watchbilllaw9_OrderMoves.l2] at H
                                  by_cases c75 : x16_4 < (t359.length : Int)
                                  · rw [if_pos c75] at H
                                    have c75b0 : decide (x16_4 < (t359.length : Int)) = true := decide_eq_true c75
                                    (try (have c75b0z := c75b0; simp only [hl349002_3] at c75b0z))
                                    clear c75
                                    by_cases c76 : x15_4 = true
                                    · subst c76
                                      have H1 : (watchbilllaw9_OrderMoves.l2 k4 t359 t365 t370 t376 x14_3 true (wrap64 (x16_4 + 1))) = some r := by rw [if_pos rfl] at H; exact H
                                      clear H
                                      have H := H1
                                      clear H1
                                      have H' := Aside0.mk H
                                      clear H
                                      try go_wp2
                                      have n0_ := Aside0.mk (Kd.R_drew HO_10.out)
                                      have n1_ := Aside0.mk (Kd.R_drew HO_11.out)
                                      have n2_ := Aside0.mk (Kd.R_drew HO_12.out)
                                      have n3_ := Aside0.mk (Kd.R_drew HO_13.out)
                                      have n4_ := Aside0.mk (Kd.R_drew HO_349002.out)
                                      have n5_ := Aside0.mk (blk_drew BK348.out)
                                      have n6_ := Aside0.mk (Kd.C_drew HR368_4.out)
                                      have n7_ := Aside0.mk (below_drew1 HB.out)
                                      clear HO_10
                                      clear HO_11
                                      clear HO_12
                                      clear HO_13
                                      clear HO_349002
                                      clear BK348
                                      clear HR368_4
                                      clear HB
                                      have HO_10 := n0_
                                      have HO_11 := n1_
                                      have HO_12 := n2_
                                      have HO_13 := n3_
                                      have HO_349002 := n4_
                                      have BK348 := n5_
                                      have HR368_4 := n6_
                                      have HB := n7_
                                      clear n0_ n1_ n2_ n3_ n4_ n5_ n6_ n7_
                                      refine start_ (n := 13) (S := fun w' => True) (ds := []) #[false, false, false, false, false, false, false, false, false, false, false, false, false] (by kernel_rfl) rfl rfl trivial (fun hHeld => ?_); refine with_tabW watchbilllaw9_OrderMoves.tab25 watchbilllaw9_OrderMoves.bits25 (fun HT_ HW_ => ?_)
                                      generalize wr.drew = w77 at HO_10 HO_11 HO_12 HO_13 HO_349002 BK348 HR368_4 HB hHeld ⊢
                                      refine pure_ (i := 0) (N := some 103) (v := ?_) (a' := ?_) #[true, false, false, false, false, false, false, false, false, false, false, false, false] rfl rfl (any_of HT_.out (by kernel_rfl)) (fun _ _ _ h => h) (Or.inl ⟨by rfl, ?_⟩) ?_ ?_
                                      rotate_left
                                      · intro w'
                                        go_simp
                                        with_reducible rfl
                                      rotate_left
                                      · simp only [Act.put, List.setIfInBounds_toArray, List.set_cons_zero, List.set_cons_succ, i64_w, i32_w]
                                        rfl
                                      refine pure_ (i := 1) (N := some 104) (v := ?_) (a' := ?_) #[true, true, false, false, false, false, false, false, false, false, false, false, false] rfl rfl (any_of HT_.out (by kernel_rfl)) (fun _ _ _ h => h) (Or.inl ⟨by rfl, ?_⟩) ?_ ?_
                                      rotate_left
                                      · intro w'
                                        go_simp
                                        with_reducible rfl
                                      rotate_left
                                      · simp only [Act.put, List.setIfInBounds_toArray, List.set_cons_zero, List.set_cons_succ, i64_w, i32_w]
                                        rfl
                                      refine pure_ (i := 2) (N := some 105) (v := undef) (a' := ?_) #[true, true, true, false, false, false, false, false, false, false, false, false, false] rfl rfl (any_of HT_.out (by kernel_rfl)) (fun _ _ _ h => h) (Or.inr ⟨by rfl, rfl⟩) ?_ ?_
                                      rotate_left
                                      · simp only [Act.put, List.setIfInBounds_toArray, List.set_cons_zero, List.set_cons_succ, i64_w, i32_w]
                                        rfl
                                      refine pure_ (i := 3) (N := some 106) (v := undef) (a' := ?_) #[true, true, true, true, false, false, false, false, false, false, false, false, false] rfl rfl (any_of HT_.out (by kernel_rfl)) (fun _ _ _ h => h) (Or.inr ⟨by rfl, rfl⟩) ?_ ?_
                                      rotate_left
                                      · simp only [Act.put, List.setIfInBounds_toArray, List.set_cons_zero, List.set_cons_succ, i64_w, i32_w]
                                        rfl
                                      refine pure_ (i := 4) (N := some 107) (v := undef) (a' := ?_) #[true, true, true, true, true, false, false, false, false, false, false, false, false] rfl rfl (any_of HT_.out (by kernel_rfl)) (fun _ _ _ h => h) (Or.inr ⟨by rfl, rfl⟩) ?_ ?_
                                      rotate_left
                                      · simp only [Act.put, List.setIfInBounds_toArray, List.set_cons_zero, List.set_cons_succ, i64_w, i32_w]
                                        rfl
                                      refine pure_ (i := 5) (N := some 108) (v := undef) (a' := ?_) #[true, true, true, true, true, true, false, false, false, false, false, false, false] rfl rfl (any_of HT_.out (by kernel_rfl)) (fun _ _ _ h => h) (Or.inr ⟨by rfl, rfl⟩) ?_ ?_
                                      rotate_left
                                      · simp only [Act.put, List.setIfInBounds_toArray, List.set_cons_zero, List.set_cons_succ, i64_w, i32_w]
                                        rfl
                                      refine pure_ (i := 6) (N := some 109) (v := undef) (a' := ?_) #[true, true, true, true, true, true, true, false, false, false, false, false, false] rfl rfl (any_of HT_.out (by kernel_rfl)) (fun _ _ _ h => h) (Or.inr ⟨by rfl, rfl⟩) ?_ ?_
                                      rotate_left
                                      · simp only [Act.put, List.setIfInBounds_toArray, List.set_cons_zero, List.set_cons_succ, i64_w, i32_w]
                                        rfl
                                      refine pure_ (i := 7) (N := some 110) (v := undef) (a' := ?_) #[true, true, true, true, true, true, true, true, false, false, false, false, false] rfl rfl (any_of HT_.out (by kernel_rfl)) (fun _ _ _ h => h) (Or.inr ⟨by rfl, rfl⟩) ?_ ?_
                                      rotate_left
                                      · simp only [Act.put, List.setIfInBounds_toArray, List.set_cons_zero, List.set_cons_succ, i64_w, i32_w]
                                        rfl
                                      refine pure_ (i := 8) (N := some 111) (v := undef) (a' := ?_) #[true, true, true, true, true, true, true, true, true, false, false, false, false] rfl rfl (any_of HT_.out (by kernel_rfl)) (fun _ _ _ h => h) (Or.inr ⟨by rfl, rfl⟩) ?_ ?_
                                      rotate_left
                                      · simp only [Act.put, List.setIfInBounds_toArray, List.set_cons_zero, List.set_cons_succ, i64_w, i32_w]
                                        rfl
                                      refine pure_ (i := 9) (N := some 112) (v := undef) (a' := ?_) #[true, true, true, true, true, true, true, true, true, true, false, false, false] rfl rfl (any_of HT_.out (by kernel_rfl)) (fun _ _ _ h => h) (Or.inr ⟨by rfl, rfl⟩) ?_ ?_
                                      rotate_left
                                      · simp only [Act.put, List.setIfInBounds_toArray, List.set_cons_zero, List.set_cons_succ, i64_w, i32_w]
                                        rfl
                                      refine pure_ (i := 10) (N := some 113) (v := undef) (a' := ?_) #[true, true, true, true, true, true, true, true, true, true, true, false, false] rfl rfl (any_of HT_.out (by kernel_rfl)) (fun _ _ _ h => h) (Or.inr ⟨by rfl, rfl⟩) ?_ ?_
                                      rotate_left
                                      · simp only [Act.put, List.setIfInBounds_toArray, List.set_cons_zero, List.set_cons_succ, i64_w, i32_w]
                                        rfl
                                      refine pure_ (i := 11) (N := some 114) (v := ?_) (a' := ?_) #[true, true, true, true, true, true, true, true, true, true, true, true, false] rfl rfl (any_of HT_.out (by kernel_rfl)) (fun _ _ _ h => h) (Or.inl ⟨by rfl, ?_⟩) ?_ ?_
                                      rotate_left
                                      · intro w'
                                        go_simp
                                        with_reducible rfl
                                      rotate_left
                                      · simp only [Act.put, List.setIfInBounds_toArray, List.set_cons_zero, List.set_cons_succ, i64_w, i32_w]
                                        rfl
                                      refine pure_ (i := 12) (N := some 15) (v := ?_) (a' := ?_) #[true, true, true, true, true, true, true, true, true, true, true, true, true] rfl rfl (any_of HT_.out (by kernel_rfl)) (fun _ _ _ h => h) (Or.inl ⟨by rfl, ?_⟩) ?_ ?_
                                      rotate_left
                                      · intro w'
                                        go_simp
                                        with_reducible rfl
                                      rotate_left
                                      · simp only [Act.put, List.setIfInBounds_toArray, List.set_cons_zero, List.set_cons_succ, i64_w, i32_w]
                                        rfl
                                      refine done_ (done_of HT_.out (by kernel_rfl)) ?_
                                      try go_wp2
                                      go_roundg k4
                                      case measure => have := HJ5.out; have := HK2.out; have := HK3.out; have := HK4.out; omega
                                      case rel => exact ⟨(true), (wrap64 (x16_4 + 1)), (by first | rfl | (simp; done) | (simp [*]; done) | (simp [Int.tdiv_eq_ediv_of_nonneg]; done)), (by first | rfl | (simp; done) | (simp [*]; done) | (simp [Int.tdiv_eq_ediv_of_nonneg]; done)), H', ⟨by have := HJ5.out; have := HK2.out; have := HK3.out; have := HK4.out; omega⟩, ⟨by (try simp only [hl349002_3]); (with_reducible repeat (first | apply Kd.R_alloc | apply Kd.R_drewN | apply Kd.R_drew)); exact HO_10.out⟩, ⟨by (try simp only [hl349002_3]); (with_reducible repeat (first | apply Kd.R_alloc | apply Kd.R_drewN | apply Kd.R_drew)); exact HO_11.out⟩, ⟨by (try simp only [hl349002_3]); (with_reducible repeat (first | apply Kd.R_alloc | apply Kd.R_drewN | apply Kd.R_drew)); exact HO_12.out⟩, ⟨by (try simp only [hl349002_3]); (with_reducible repeat (first | apply Kd.R_alloc | apply Kd.R_drewN | apply Kd.R_drew)); exact HO_13.out⟩, ⟨by (try simp only [hl349002_3]); (with_reducible repeat (first | apply Kd.R_alloc | apply Kd.R_drewN | apply Kd.R_drew)); exact HO_349002.out⟩, ⟨by (try simp only [hl349002_3]); (with_reducible repeat (first | refine blk_drewN ?_ _ | refine blk_drew ?_ | refine blk_alloc ?_ _)); exact BK348.out⟩, ⟨by repeat (first | (with_reducible exact HR368_4.out) | (with_reducible refine Kd.C_alloc ?_ _) | (with_reducible refine Kd.C_drewN ?_ _) | (with_reducible refine Kd.C_drew ?_) | exact HR368_4.out)⟩, ⟨by repeat (first | (with_reducible first | exact HB.out | apply below_alloc | apply pw_below_drewN | apply below_drew1 | refine below_set ?_ GE348.out) | exact HB.out)⟩⟩
                                    · replace c76 := Bool.eq_false_iff.mpr c76
                                      subst c76
                                      have H1 : (if 0 ≤ x16_4 then (if 0 ≤ x14_3 then (if x14_3 < (t370.length : Int) then (watchbilllaw9_OrderMoves.l2 k4 t359 t365 t370 t376 x14_3 ((rd t359 x16_4) == (rd t370 x14_3)) (wrap64 (x16_4 + 1))) else (none)) else (none)) else (none)) = some r := by rw [if_neg (show ¬ (false = true) by decide)] at H; exact H
                                      clear H
                                      have H := H1
                                      clear H1
                                      by_cases c78 : 0 ≤ x16_4
                                      · rw [if_pos c78] at H
                                        have c78b0 : decide (0 ≤ x16_4) = true := decide_eq_true c78
                                        (try (have c78b0z := c78b0; simp only [hl349002_3] at c78b0z))
                                        clear c78
                                        by_cases c79 : 0 ≤ x14_3
                                        · rw [if_pos c79] at H
                                          have c79b0 : decide (0 ≤ x14_3) = true := decide_eq_true c79
                                          (try (have c79b0z := c79b0; simp only [hl349002_3] at c79b0z))
                                          clear c79
                                          by_cases c80 : x14_3 < (t370.length : Int)
                                          · rw [if_pos c80] at H
                                            have c80b0 : decide (x14_3 < (t370.length : Int)) = true := decide_eq_true c80
                                            (try (have c80b0z := c80b0; simp only [hl349002_3] at c80b0z))
                                            clear c80
                                            have H' := Aside0.mk H
                                            clear H
                                            try go_wp2
                                            have n0_ := Aside0.mk (Kd.R_drew HO_10.out)
                                            have n1_ := Aside0.mk (Kd.R_drew HO_11.out)
                                            have n2_ := Aside0.mk (Kd.R_drew HO_12.out)
                                            have n3_ := Aside0.mk (Kd.R_drew HO_13.out)
                                            have n4_ := Aside0.mk (Kd.R_drew HO_349002.out)
                                            have n5_ := Aside0.mk (blk_drew BK348.out)
                                            have n6_ := Aside0.mk (Kd.C_drew HR368_4.out)
                                            have n7_ := Aside0.mk (below_drew1 HB.out)
                                            clear HO_10
                                            clear HO_11
                                            clear HO_12
                                            clear HO_13
                                            clear HO_349002
                                            clear BK348
                                            clear HR368_4
                                            clear HB
                                            have HO_10 := n0_
                                            have HO_11 := n1_
                                            have HO_12 := n2_
                                            have HO_13 := n3_
                                            have HO_349002 := n4_
                                            have BK348 := n5_
                                            have HR368_4 := n6_
                                            have HB := n7_
                                            clear n0_ n1_ n2_ n3_ n4_ n5_ n6_ n7_
                                            have p380 : 0 ≤ (x16_4 : Int) := of_decide_eq_true (by first | (with_reducible assumption) | assumption)
                                            have q380 : x16_4 < (t359.length : Int) := of_decide_eq_true (by first | (with_reducible assumption) | assumption)
                                            obtain ⟨ad380, e380, hx380_0⟩ := Kd.at_int (Kd.R_reads' HO_10.out).2.2 x16_4 p380 q380
                                            cases e380
                                            replace p380 := eq_true p380
                                            replace q380 := eq_true q380
                                            have p381 : 0 ≤ (x14_3 : Int) := of_decide_eq_true (by first | (with_reducible assumption) | assumption)
                                            have q381 : x14_3 < (t370.length : Int) := of_decide_eq_true (by first | (with_reducible assumption) | assumption)
                                            obtain ⟨ad381, e381, hx381_0⟩ := Kd.at_int (Kd.R_reads' HO_12.out).2.2 x14_3 p381 q381
                                            cases e381
                                            replace p381 := eq_true p381
                                            replace q381 := eq_true q381
                                            refine start_ (n := 13) (S := fun w' => w'.cell? (ad380.add (x16_4).toNat) = some (.int .i64 (rd t359 x16_4)) ∧ w'.cell? (ad381.add (x14_3).toNat) = some (.int .i64 (rd t370 x14_3))) (ds := []) #[false, false, false, false, false, false, false, false, false, false, false, false, false] (by kernel_rfl) rfl rfl ⟨hx380_0, hx381_0⟩ (fun hHeld => ?_); refine with_tabW watchbilllaw9_OrderMoves.tab25 watchbilllaw9_OrderMoves.bits25 (fun HT_ HW_ => ?_)
                                            generalize wr.drew = w81 at HO_10 HO_11 HO_12 HO_13 HO_349002 BK348 HR368_4 HB hx380_0 hx381_0 hHeld ⊢
                                            refine pure_ (i := 0) (N := some 103) (v := ?_) (a' := ?_) #[true, false, false, false, false, false, false, false, false, false, false, false, false] rfl rfl (any_of HT_.out (by kernel_rfl)) (fun _ _ _ h => h) (Or.inl ⟨by rfl, ?_⟩) ?_ ?_
                                            rotate_left
                                            · intro w'
                                              go_simp
                                              with_reducible rfl
                                            rotate_left
                                            · simp only [Act.put, List.setIfInBounds_toArray, List.set_cons_zero, List.set_cons_succ, i64_w, i32_w]
                                              rfl
                                            refine pure_ (i := 1) (N := some 104) (v := ?_) (a' := ?_) #[true, true, false, false, false, false, false, false, false, false, false, false, false] rfl rfl (any_of HT_.out (by kernel_rfl)) (fun _ _ _ h => h) (Or.inl ⟨by rfl, ?_⟩) ?_ ?_
                                            rotate_left
                                            · intro w'
                                              go_simp
                                              with_reducible rfl
                                            rotate_left
                                            · simp only [Act.put, List.setIfInBounds_toArray, List.set_cons_zero, List.set_cons_succ, i64_w, i32_w]
                                              rfl
                                            refine pure_ (i := 2) (N := some 105) (v := ?_) (a' := ?_) #[true, true, true, false, false, false, false, false, false, false, false, false, false] rfl rfl (any_of HT_.out (by kernel_rfl)) (fun _ _ _ h => h) (Or.inl ⟨by rfl, ?_⟩) ?_ ?_
                                            rotate_left
                                            · intro w'
                                              go_simp
                                              with_reducible rfl
                                            rotate_left
                                            · simp only [Act.put, List.setIfInBounds_toArray, List.set_cons_zero, List.set_cons_succ, i64_w, i32_w]
                                              rfl
                                            refine pure_ (i := 3) (N := some 106) (v := ?_) (a' := ?_) #[true, true, true, true, false, false, false, false, false, false, false, false, false] rfl rfl (any_of HT_.out (by kernel_rfl)) (fun _ _ _ h => h) (Or.inl ⟨by rfl, ?_⟩) ?_ ?_
                                            rotate_left
                                            · intro w'
                                              go_simp
                                              with_reducible rfl
                                            rotate_left
                                            · simp only [Act.put, List.setIfInBounds_toArray, List.set_cons_zero, List.set_cons_succ, i64_w, i32_w]
                                              rfl
                                            refine pure_ (i := 4) (N := some 107) (v := ?_) (a' := ?_) #[true, true, true, true, true, false, false, false, false, false, false, false, false] rfl rfl (any_of HT_.out (by kernel_rfl)) (fun _ _ _ h => h) (Or.inl ⟨by rfl, ?_⟩) ?_ ?_
                                            rotate_left
                                            · intro w'
                                              go_simp
                                              with_reducible rfl
                                            rotate_left
                                            · simp only [Act.put, List.setIfInBounds_toArray, List.set_cons_zero, List.set_cons_succ, i64_w, i32_w]
                                              rfl
                                            refine pure_ (i := 6) (N := some 109) (v := ?_) (a' := ?_) #[true, true, true, true, true, false, true, false, false, false, false, false, false] rfl rfl (any_of HT_.out (by kernel_rfl)) (fun _ _ _ h => h) (Or.inl ⟨by rfl, ?_⟩) ?_ ?_
                                            rotate_left
                                            · intro w'
                                              go_simp
                                              with_reducible rfl
                                            rotate_left
                                            · simp only [Act.put, List.setIfInBounds_toArray, List.set_cons_zero, List.set_cons_succ, i64_w, i32_w]
                                              rfl
                                            refine pure_ (i := 7) (N := some 110) (v := ?_) (a' := ?_) #[true, true, true, true, true, false, true, true, false, false, false, false, false] rfl rfl (any_of HT_.out (by kernel_rfl)) (fun _ _ _ h => h) (Or.inl ⟨by rfl, ?_⟩) ?_ ?_
                                            rotate_left
                                            · intro w'
                                              go_simp
                                              with_reducible rfl
                                            rotate_left
                                            · simp only [Act.put, List.setIfInBounds_toArray, List.set_cons_zero, List.set_cons_succ, i64_w, i32_w]
                                              rfl
                                            refine pure_ (i := 8) (N := some 111) (v := ?_) (a' := ?_) #[true, true, true, true, true, false, true, true, true, false, false, false, false] rfl rfl (any_of HT_.out (by kernel_rfl)) (fun _ _ _ h => h) (Or.inl ⟨by rfl, ?_⟩) ?_ ?_
                                            rotate_left
                                            · intro w'
                                              go_simp
                                              with_reducible rfl
                                            rotate_left
                                            · simp only [Act.put, List.setIfInBounds_toArray, List.set_cons_zero, List.set_cons_succ, i64_w, i32_w]
                                              rfl
                                            refine take_ (i := 5) (N := some 108) (v := ?_) (a' := ?_) #[true, true, true, true, true, true, true, true, true, false, false, false, false] rfl rfl (take_ofW HT_.out HW_.out (by kernel_rfl)) (fun _ _ _ h => h) (Or.inl ⟨by rfl, ?_⟩) hHeld ?_ ?_
                                            rotate_left
                                            · rintro w' ⟨s0, s1⟩
                                              go_simp
                                              with_reducible rfl
                                            rotate_left
                                            · simp only [Act.put, List.setIfInBounds_toArray, List.set_cons_zero, List.set_cons_succ, i64_w, i32_w]
                                              rfl
                                            refine take_ (i := 9) (N := some 112) (v := ?_) (a' := ?_) #[true, true, true, true, true, true, true, true, true, true, false, false, false] rfl rfl (take_ofW HT_.out HW_.out (by kernel_rfl)) (fun _ _ _ h => h) (Or.inl ⟨by rfl, ?_⟩) hHeld ?_ ?_
                                            rotate_left
                                            · rintro w' ⟨s0, s1⟩
                                              go_simp
                                              with_reducible rfl
                                            rotate_left
                                            · simp only [Act.put, List.setIfInBounds_toArray, List.set_cons_zero, List.set_cons_succ, i64_w, i32_w]
                                              rfl
                                            refine pure_ (i := 10) (N := some 113) (v := ?_) (a' := ?_) #[true, true, true, true, true, true, true, true, true, true, true, false, false] rfl rfl (any_of HT_.out (by kernel_rfl)) (fun _ _ _ h => h) (Or.inl ⟨by rfl, ?_⟩) ?_ ?_
                                            rotate_left
                                            · intro w'
                                              go_simp
                                              with_reducible rfl
                                            rotate_left
                                            · simp only [Act.put, List.setIfInBounds_toArray, List.set_cons_zero, List.set_cons_succ, i64_w, i32_w]
                                              rfl
                                            refine pure_ (i := 11) (N := some 114) (v := ?_) (a' := ?_) #[true, true, true, true, true, true, true, true, true, true, true, true, false] rfl rfl (any_of HT_.out (by kernel_rfl)) (fun _ _ _ h => h) (Or.inl ⟨by rfl, ?_⟩) ?_ ?_
                                            rotate_left
                                            · intro w'
                                              go_simp
                                              with_reducible rfl
                                            rotate_left
                                            · simp only [Act.put, List.setIfInBounds_toArray, List.set_cons_zero, List.set_cons_succ, i64_w, i32_w]
                                              rfl
                                            refine pure_ (i := 12) (N := some 15) (v := ?_) (a' := ?_) #[true, true, true, true, true, true, true, true, true, true, true, true, true] rfl rfl (any_of HT_.out (by kernel_rfl)) (fun _ _ _ h => h) (Or.inl ⟨by rfl, ?_⟩) ?_ ?_
                                            rotate_left
                                            · intro w'
                                              go_simp
                                              with_reducible rfl
                                            rotate_left
                                            · simp only [Act.put, List.setIfInBounds_toArray, List.set_cons_zero, List.set_cons_succ, i64_w, i32_w]
                                              rfl
                                            refine done_ (done_of HT_.out (by kernel_rfl)) ?_
                                            try go_wp2
                                            go_roundg k4
                                            case measure => have := HJ5.out; have := HK2.out; have := HK3.out; have := HK4.out; omega
                                            case rel => exact ⟨(((rd t359 x16_4) == (rd t370 x14_3))), (wrap64 (x16_4 + 1)), (by first | rfl | (simp; done) | (simp [*]; done) | (simp [Int.tdiv_eq_ediv_of_nonneg]; done)), (by first | rfl | (simp; done) | (simp [*]; done) | (simp [Int.tdiv_eq_ediv_of_nonneg]; done)), H', ⟨by have := HJ5.out; have := HK2.out; have := HK3.out; have := HK4.out; omega⟩, ⟨by (try simp only [hl349002_3]); (with_reducible repeat (first | apply Kd.R_alloc | apply Kd.R_drewN | apply Kd.R_drew)); exact HO_10.out⟩, ⟨by (try simp only [hl349002_3]); (with_reducible repeat (first | apply Kd.R_alloc | apply Kd.R_drewN | apply Kd.R_drew)); exact HO_11.out⟩, ⟨by (try simp only [hl349002_3]); (with_reducible repeat (first | apply Kd.R_alloc | apply Kd.R_drewN | apply Kd.R_drew)); exact HO_12.out⟩, ⟨by (try simp only [hl349002_3]); (with_reducible repeat (first | apply Kd.R_alloc | apply Kd.R_drewN | apply Kd.R_drew)); exact HO_13.out⟩, ⟨by (try simp only [hl349002_3]); (with_reducible repeat (first | apply Kd.R_alloc | apply Kd.R_drewN | apply Kd.R_drew)); exact HO_349002.out⟩, ⟨by (try simp only [hl349002_3]); (with_reducible repeat (first | refine blk_drewN ?_ _ | refine blk_drew ?_ | refine blk_alloc ?_ _)); exact BK348.out⟩, ⟨by repeat (first | (with_reducible exact HR368_4.out) | (with_reducible refine Kd.C_alloc ?_ _) | (with_reducible refine Kd.C_drewN ?_ _) | (with_reducible refine Kd.C_drew ?_) | exact HR368_4.out)⟩, ⟨by repeat (first | (with_reducible first | exact HB.out | apply below_alloc | apply pw_below_drewN | apply below_drew1 | refine below_set ?_ GE348.out) | exact HB.out)⟩⟩
                                          · rw [if_neg c80] at H
                                            exact absurd H (by simp)
                                        · rw [if_neg c79] at H
                                          exact absurd H (by simp)
                                      · rw [if_neg c78] at H
                                        exact absurd H (by simp)
                                  · rw [if_neg c75] at H
                                    have c75b0 : decide (x16_4 < (t359.length : Int)) = false := decide_eq_false c75
                                    (try (have c75b0z := c75b0; simp only [hl349002_3] at c75b0z))
                                    clear c75
                                    by_cases c82 : x15_4 = true
                                    · subst c82
                                      have H1 : (watchbilllaw9_OrderMoves.l1 k4 t359 t365 t370 t376 (wrap64 (x14_3 + 1))) = some r := by rw [if_pos rfl] at H; exact H
                                      clear H
                                      have H := H1
                                      clear H1
                                      have H' := Aside0.mk H
                                      clear H
                                      go_wp2
                                      (try simp only [← hl349002_3])
                                      go_roundg k4
                                      case measure => have := HJ5.out; have := HK2.out; have := HK3.out; have := HK4.out; omega
                                      case rel => exact ⟨(wrap64 (x14_3 + 1)), (by first | rfl | (simp; done) | (simp [*]; done) | (simp [Int.tdiv_eq_ediv_of_nonneg]; done)), H', ⟨by have := HJ5.out; have := HK2.out; have := HK3.out; have := HK4.out; omega⟩, ⟨by (try simp only [hl349002_3]); (with_reducible repeat (first | apply Kd.R_alloc | apply Kd.R_drewN | apply Kd.R_drew)); exact HO_10.out⟩, ⟨by (try simp only [hl349002_3]); (with_reducible repeat (first | apply Kd.R_alloc | apply Kd.R_drewN | apply Kd.R_drew)); exact HO_11.out⟩, ⟨by (try simp only [hl349002_3]); (with_reducible repeat (first | apply Kd.R_alloc | apply Kd.R_drewN | apply Kd.R_drew)); exact HO_12.out⟩, ⟨by (try simp only [hl349002_3]); (with_reducible repeat (first | apply Kd.R_alloc | apply Kd.R_drewN | apply Kd.R_drew)); exact HO_13.out⟩, ⟨by (try simp only [hl349002_3]); (with_reducible repeat (first | apply Kd.R_alloc | apply Kd.R_drewN | apply Kd.R_drew)); exact HO_349002.out⟩, ⟨by (try simp only [hl349002_3]); (with_reducible repeat (first | refine blk_drewN ?_ _ | refine blk_drew ?_ | refine blk_alloc ?_ _)); exact BK348.out⟩, ⟨by repeat (first | (with_reducible exact HR368_4.out) | (with_reducible refine Kd.C_alloc ?_ _) | (with_reducible refine Kd.C_drewN ?_ _) | (with_reducible refine Kd.C_drew ?_) | exact HR368_4.out)⟩, ⟨by repeat (first | (with_reducible first | exact HB.out | apply below_alloc | apply pw_below_drewN | apply below_drew1 | refine below_set ?_ GE348.out) | exact HB.out)⟩⟩
                                    · replace c82 := Bool.eq_false_iff.mpr c82
                                      subst c82
                                      have H1 : (some false) = some r := by rw [if_neg (show ¬ (false = true) by decide)] at H; exact H
                                      clear H
                                      have H := H1
                                      clear H1
                                      obtain rfl := Option.some.inj H
                                      go_wp2
                                      go_ret
                                      exact ⟨by first | rfl | (simp [errW_none, errW_some] <;> rfl) | (simp only [← hji32]; first | rfl | (simp [errW_none, errW_some] <;> rfl)) | (simp [*, errW_none, errW_some] <;> rfl), by repeat (first | (with_reducible first | exact HB.out | apply below_alloc | apply pw_below_drewN | apply below_drew1 | refine below_set ?_ GE348.out) | exact HB.out)⟩
                            · rw [if_neg c74] at H
                              have c74b0 : decide (x14_3 < (t370.length : Int)) = false := decide_eq_false c74
                              (try (have c74b0z := c74b0; simp only [hl349002_3] at c74b0z))
                              clear c74
                              replace H := Option.bind_eq_some_iff.mp H
                              obtain ⟨t379, A830, H⟩ := H
                              replace H : (some t379) = some r := H
                              have A83 := Aside0.mk A830
                              clear A830
                              obtain rfl := Option.some.inj H
                              obtain ⟨Ao84, co84, eo84⟩ := Kd.R_slice HO_11.out
                              subst eo84
                              obtain ⟨Ao85, co85, eo85⟩ := Kd.R_slice HO_13.out
                              subst eo85
                              go_wp2_with (first | ((with_reducible refine gate_callee (f := 13) rfl ?_); refine goesL_ (some 119) rfl rfl Try.func13 (by kernel_rfl) rfl #[.slice Ao84 t365.length co84, .slice Ao85 t376.length co85] rfl (by (try simp only [List.map_toArray, List.map_cons, List.map_nil]); first | done | rfl | (simp only [List.length_drop, List.length_take]; rfl)) ?_; (with_reducible refine (watchbilllaw1_Ints.calls k3 _ _ t365 _ _ t376 t379 _ ?side1 ?side2 ?side3 ?side4 A83.out).mono ?_); (case side1 => repeat (first | exact (Kd.R_reads' HO_11.out).2.2 | (with_reducible refine Kd.C_alloc ?_ _) | (with_reducible refine Kd.C_drewN ?_ _) | (with_reducible refine Kd.C_drew ?_))); (case side2 => exact (Kd.R_reads' HO_11.out).2.1); (case side3 => repeat (first | exact (Kd.R_reads' HO_13.out).2.2 | (with_reducible refine Kd.C_alloc ?_ _) | (with_reducible refine Kd.C_drewN ?_ _) | (with_reducible refine Kd.C_drew ?_))); (case side4 => exact (Kd.R_reads' HO_13.out).2.1); rintro e w' ⟨rfl, ⟨nd, rfl⟩⟩; refine ⟨_, rfl, ?_⟩))
                              go_ret
                              exact ⟨by first | rfl | (simp [errW_none, errW_some] <;> rfl) | (simp only [← hji32]; first | rfl | (simp [errW_none, errW_some] <;> rfl)) | (simp [*, errW_none, errW_some] <;> rfl), by repeat (first | (with_reducible first | exact HB.out | apply below_alloc | apply pw_below_drewN | apply below_drew1 | refine below_set ?_ GE348.out) | exact HB.out)⟩
                    · rw [if_neg c34] at H
                      exact absurd H (by simp)
                  · rw [if_neg c33] at H
                    exact absurd H (by simp)
  · replace c5 := Bool.eq_false_iff.mpr c5
    subst c5
    have H1 : (some false) = some r := by rw [if_neg (show ¬ (false = true) by decide)] at H; exact H
    clear H
    have H := H1
    clear H1
    obtain rfl := Option.some.inj H
    go_enter Try.func5, Try.ntmps5
    go_wp2_with (first | ((with_reducible refine gate_callee (f := 7) rfl ?_); refine goesL_ (some 17) rfl rfl Try.func7 (by kernel_rfl) rfl #[] rfl (by (try simp only [List.map_toArray, List.map_cons, List.map_nil]); first | done | rfl | (simp only [List.length_drop, List.length_take]; rfl)) ?_; (with_reducible refine (watchbilllaw9_known.calls k  false _ A4.out).mono ?_); rintro e w86 ⟨rfl, hb⟩; refine ⟨_, rfl, ?_⟩; have n0_ := Aside0.mk (below_step (by repeat (first | (with_reducible first | exact HB.out | apply below_alloc | apply pw_below_drewN | apply below_drew1) | exact HB.out)) hb); clear HB; have HB := n0_; clear n0_; (try clear hb); (try clear hb2); (try clear hk); (try clear hi)))
    go_ret
    exact ⟨by first | rfl | (simp [errW_none, errW_some] <;> rfl) | (simp [*, errW_none, errW_some] <;> rfl), by repeat (first | (with_reducible first | exact HB.out | apply below_alloc | apply pw_below_drewN | apply below_drew1) | exact HB.out)⟩

/-- THE ONE PURE STATEMENT of watchbilllaw9_OrderMoves: yours. -/
def watchbilllaw9_OrderMoves.Pure : Prop := ∀ (l0 : List Int) (a1 : Int) (a2 : Int), l0.length ≤ maxLen → l0.length * 1 ≤ 140737488351232 → (∀ x ∈ l0, (Lit.int .u8 x).wf = true) → (Lit.int .u8 a1).wf = true → (Lit.int .u8 a2).wf = true → ∃ k, watchbilllaw9_OrderMoves.f k l0 a1 a2 = some true
theorem watchbilllaw9_OrderMoves.walk (P : watchbilllaw9_OrderMoves.Pure) (a0 : Option Addr) (len0 cap0 : Nat) (z0 : List Int) (a1 : Int) (a2 : Int) (w : World) (w0 : (a0 = none ∧ len0 = 0 ∧ cap0 = 0 ∧ z0 = []) ∨ ∃ x, a0 = some x ∧ len0 ≤ cap0 ∧ cap0 ≤ maxLen ∧ z0.length = cap0 ∧ (∀ i, i < z0.length → w.cell? (x.add i) = some (.int .u8 (z0.getD i 0))) ∧ ∀ n ∈ z0, (Lit.int .u8 n).wf = true) (y0 : len0 * 1 ≤ 140737488351232) (w1 : (Lit.int .u8 a1).wf = true) (w2 : (Lit.int .u8 a2).wf = true) :
    Calls Try.prog 5 #[.slice a0 len0 cap0, .int .u8 a1, .int .u8 a2] w fun e w' => e = .returned (.bool true) ∧ Below w.heap.size w w' := by
  obtain ⟨l0, rfl, hr0, hm0, hw0, hc0⟩ := ReadsInt.ofRowC w0
  obtain ⟨k, h⟩ := P l0 a1 a2 hm0 y0 hw0 w1 w2
  refine (watchbilllaw9_OrderMoves.calls k _ _ l0 a1 a2 true w (Kd.C_of_reads (d := (0 : Int)) (h1 := fun _ => rfl) hr0) hc0 h).mono ?_
  rintro e w' ⟨rfl, hd⟩
  exact ⟨rfl, hd⟩

end Go.Proofs.Ythdmomaephiodaa.XA
