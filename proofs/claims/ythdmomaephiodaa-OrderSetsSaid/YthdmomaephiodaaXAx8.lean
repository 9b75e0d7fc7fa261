-- PRINTED by print.py (a twelfth state) out of the translation. Not trusted: Lean checks it.
import Derived.Test.YthdmomaephiodaaXAx0
import Derived.Test.YthdmomaephiodaaXAx7
namespace Go.Proofs.Ythdmomaephiodaa.XA
open Go.RowKit Go.Proofs.YthdmomaephiodaaW.PrintWords Go.Proofs.YthdmomaephiodaaW.PrintLast Go.Proofs.YthdmomaephiodaaW.PrintMore
attribute [local go_sem] max2_int min2_int max_two min_two max_three min_three max_four min_four   -- for this text's walks alone
set_option linter.unusedVariables false
set_option linter.unusedSimpArgs false

/-! ### watchbilllaw6_Few: function 24 -/
def watchbilllaw6_Few.l0 : Nat → List (S92) → Int → Option (Bool)
  | 0, _, _ => none
  | k + 1, x0, x3 => if x3 < (x0.length : Int) then (if 0 ≤ x3 then ((watchbilllaw5_Few.f ((rd_T92 x0 x3).f0) ((rd_T92 x0 x3).f1) ((rd_T92 x0 x3).f2) ((rd_T92 x0 x3).f3) ((rd_T92 x0 x3).f4)).bind fun t205 => (if t205 = true then (watchbilllaw6_Few.l0 k x0 (wrap64 (x3 + 1))) else (some false))) else (none)) else (some true)
def watchbilllaw6_Few.f (k : Nat) (l0 : List (S92)) : Option (Bool) := if (l0.length : Int) > 60 then (some false) else (watchbilllaw6_Few.l0 k l0 0)
theorem watchbilllaw6_Few.mono_l : ∀ k, (∀ y0 y1, LeO (watchbilllaw6_Few.l0 k y0 y1) (watchbilllaw6_Few.l0 (k + 1) y0 y1))
  | 0 => fun _ _ r h => by simp [watchbilllaw6_Few.l0] at h
  | k + 1 => by
    have ih0 := watchbilllaw6_Few.mono_l k
    · intro y0 y1
      unfold watchbilllaw6_Few.l0
      repeat' first
      | (with_reducible exact ih0 _ _)
      | (with_reducible exact LeO.refl _)
      | (with_reducible exact LeO.none _)
      | (with_reducible refine LeO.ite ?_ ?_)
      | (with_reducible refine LeO.bind ?_ (fun _ => ?_))
      | exact ih0 _ _
      | exact LeO.none _
      | refine LeO.ite ?_ ?_
      | refine LeO.bind ?_ (fun _ => ?_)
theorem watchbilllaw6_Few.mono : ∀ a0 k, LeO (watchbilllaw6_Few.f k a0) (watchbilllaw6_Few.f (k + 1) a0) := by
  intro a0 k
  have ih0 := watchbilllaw6_Few.mono_l k
  unfold watchbilllaw6_Few.f
  repeat' first
      | (with_reducible exact ih0 _ _)
      | (with_reducible exact LeO.refl _)
      | (with_reducible exact LeO.none _)
      | (with_reducible refine LeO.ite ?_ ?_)
      | (with_reducible refine LeO.bind ?_ (fun _ => ?_))
      | exact ih0 _ _
      | exact LeO.none _
      | refine LeO.ite ?_ ?_
      | refine LeO.bind ?_ (fun _ => ?_)
set_option maxHeartbeats 8000000 in
set_option maxRecDepth 100000 in
theorem watchbilllaw6_Few.calls (k : Nat) (A0 : Option Addr) (c0 : Nat) (l0 : List (S92)) (r : Bool) (w : World) (hr0 : Kd.C k92 w A0 l0.length l0) (hc0 : l0.length ≤ c0) (h : watchbilllaw6_Few.f k l0 = some r) :
    Calls Try.prog 24 #[.slice A0 l0.length c0] w fun e w' => e = .returned (.bool r) ∧ Below w.heap.size w w' := by
  have hu92 := Try.underlying92
  have HR0 := Aside0.mk hr0
  have HC0 := Aside0.mk hc0
  clear hr0 hc0
  have HB := Aside0.mk (Below.refl w.heap.size w)
  have H : (if (l0.length : Int) > 60 then (some false) else (watchbilllaw6_Few.l0 k l0 0)) = some r := h
  clear h
  by_cases c2 : (l0.length : Int) > 60
  · rw [if_pos c2] at H
    have c2b0 : decide (60 < (l0.length : Int)) = true := decide_eq_true c2
    have c2b1 : decide (60 < l0.length) = true := decide_eq_true (by omega)
    clear c2
    obtain rfl := Option.some.inj H
    go_enter Try.func24, Try.ntmps24
    go_wp2
    go_ret
    exact ⟨by first | rfl | (simp [errW_none, errW_some] <;> rfl) | (simp [*, errW_none, errW_some] <;> rfl), by repeat (first | (with_reducible first | exact HB.out | apply below_alloc | apply pw_below_drewN | apply below_drew1) | exact HB.out)⟩
  · rw [if_neg c2] at H
    have c2b0 : decide (60 < (l0.length : Int)) = false := decide_eq_false c2
    have c2b1 : decide (60 < l0.length) = false := decide_eq_false (by omega)
    clear c2
    have H' := Aside0.mk H
    clear H
    go_enter Try.func24, Try.ntmps24
    go_wp2
    go_loopg [3] k (fun kq v3 w' => ∃ (x3_1 : Int), v3 = .int .i64 x3_1 ∧ Aside0 (watchbilllaw6_Few.l0 kq l0 x3_1 = some r) ∧ Aside0 (kq ≤ k) ∧ Aside0 (Below w.heap.size w w'))
    case atStart => exact ⟨(0), (by first | rfl | (simp; done) | (simp [*]; done) | (simp [Int.tdiv_eq_ediv_of_nonneg]; done)), H', ⟨Nat.le_refl _⟩, ⟨by repeat (first | (with_reducible first | exact HB.out | apply below_alloc | apply pw_below_drewN | apply below_drew1) | exact HB.out)⟩⟩
    case round =>
      clear H'
      try clear c2
      try clear c2b0
      try clear c2b1
      try clear p2
      obtain ⟨x3_1, rfl, HA, HK1, HB⟩ := hrel
      cases gk with
      | zero => exact absurd HA.out (by simp [watchbilllaw6_Few.l0])
      | succ k1 =>
        have H := HA.out
        clear HA
        simp only [watchbilllaw6_Few.l0] at H
        by_cases c3 : x3_1 < (l0.length : Int)
        · rw [if_pos c3] at H
          have c3b0 : decide (x3_1 < (l0.length : Int)) = true := decide_eq_true c3
          clear c3
          by_cases c4 : 0 ≤ x3_1
          · rw [if_pos c4] at H
            have c4b0 : decide (0 ≤ x3_1) = true := decide_eq_true c4
            clear c4
            replace H := Option.bind_eq_some_iff.mp H
            obtain ⟨t205, A50, H⟩ := H
            replace H : (if t205 = true then (watchbilllaw6_Few.l0 k1 l0 (wrap64 (x3_1 + 1))) else (some false)) = some r := H
            have A5 := Aside0.mk A50
            clear A50
            by_cases c6 : t205 = true
            · subst c6
              have H1 : (watchbilllaw6_Few.l0 k1 l0 (wrap64 (x3_1 + 1))) = some r := by rw [if_pos rfl] at H; exact H
              clear H
              have H := H1
              clear H1
              have H' := Aside0.mk H
              clear H
              have p204 : 0 ≤ (x3_1 : Int) := of_decide_eq_true (by first | (with_reducible assumption) | assumption)
              have q204 : x3_1 < (l0.length : Int) := of_decide_eq_true (by first | (with_reducible assumption) | assumption)
              obtain ⟨ad204, A204_4, c204_4, e204, hx204_0, hx204_1, hx204_2, hx204_3, hx204_4, hl204_4, hi204_4⟩ := at_T92 HR0.out x3_1 p204 q204
              cases e204
              replace hx204_0 := (HB.out.cell (World.block_lt_of_cell? w _ hx204_0)).trans hx204_0
              replace hx204_1 := (HB.out.cell (World.block_lt_of_cell? w _ hx204_1)).trans hx204_1
              replace hx204_2 := (HB.out.cell (World.block_lt_of_cell? w _ hx204_2)).trans hx204_2
              replace hx204_3 := (HB.out.cell (World.block_lt_of_cell? w _ hx204_3)).trans hx204_3
              replace hx204_4 := (HB.out.cell (World.block_lt_of_cell? w _ hx204_4)).trans hx204_4
              have HR204_4 := Aside0.mk hi204_4
              have HC204_4 := Aside0.mk hl204_4
              clear hi204_4 hl204_4
              replace p204 := eq_true p204
              replace q204 := eq_true q204
              go_wp2_with (first | ((with_reducible refine gate_callee (f := 41) rfl ?_); refine goesL_ (some 17) rfl rfl Try.func41 (by kernel_rfl) rfl #[.agg #[.int .i64 ((rd_T92 l0 x3_1).f0), .int .i64 ((rd_T92 l0 x3_1).f1), .int .i64 ((rd_T92 l0 x3_1).f2), .int .i64 ((rd_T92 l0 x3_1).f3), .slice A204_4 ((rd_T92 l0 x3_1).f4).length c204_4]] rfl (by (try simp only [List.map_toArray, List.map_cons, List.map_nil]); first | done | rfl | (simp only [List.length_drop, List.length_take]; rfl)) ?_; (with_reducible refine (watchbilllaw5_Few.calls ((rd_T92 l0 x3_1).f0) ((rd_T92 l0 x3_1).f1) ((rd_T92 l0 x3_1).f2) ((rd_T92 l0 x3_1).f3) _ _ ((rd_T92 l0 x3_1).f4) true _ ?side1 ?side2 A5.out).mono ?_); (case side1 => repeat (first | exact (Kd.C_below HR204_4.out HB.out) | (with_reducible refine Kd.C_alloc ?_ _) | (with_reducible refine Kd.C_drewN ?_ _) | (with_reducible refine Kd.C_drew ?_))); (case side2 => exact HC204_4.out); rintro e w7 ⟨rfl, hb⟩; refine ⟨_, rfl, ?_⟩; have n0_ := Aside0.mk (below_step (by repeat (first | (with_reducible first | exact HB.out | apply below_alloc | apply pw_below_drewN | apply below_drew1) | exact HB.out)) hb); clear HB; have HB := n0_; clear n0_; (try clear hb); (try clear hb2); (try clear hk); (try clear hi)))
              go_roundg k1
              case measure => have := HK1.out; omega
              case rel => exact ⟨(wrap64 (x3_1 + 1)), (by first | rfl | (simp; done) | (simp [*]; done) | (simp [Int.tdiv_eq_ediv_of_nonneg]; done)), H', ⟨by have := HK1.out; omega⟩, ⟨by repeat (first | (with_reducible first | exact HB.out | apply below_alloc | apply pw_below_drewN | apply below_drew1) | exact HB.out)⟩⟩
            · replace c6 := Bool.eq_false_iff.mpr c6
              subst c6
              have H1 : (some false) = some r := by rw [if_neg (show ¬ (false = true) by decide)] at H; exact H
              clear H
              have H := H1
              clear H1
              obtain rfl := Option.some.inj H
              have p204 : 0 ≤ (x3_1 : Int) := of_decide_eq_true (by first | (with_reducible assumption) | assumption)
              have q204 : x3_1 < (l0.length : Int) := of_decide_eq_true (by first | (with_reducible assumption) | assumption)
              obtain ⟨ad204, A204_4, c204_4, e204, hx204_0, hx204_1, hx204_2, hx204_3, hx204_4, hl204_4, hi204_4⟩ := at_T92 HR0.out x3_1 p204 q204
              cases e204
              replace hx204_0 := (HB.out.cell (World.block_lt_of_cell? w _ hx204_0)).trans hx204_0
              replace hx204_1 := (HB.out.cell (World.block_lt_of_cell? w _ hx204_1)).trans hx204_1
              replace hx204_2 := (HB.out.cell (World.block_lt_of_cell? w _ hx204_2)).trans hx204_2
              replace hx204_3 := (HB.out.cell (World.block_lt_of_cell? w _ hx204_3)).trans hx204_3
              replace hx204_4 := (HB.out.cell (World.block_lt_of_cell? w _ hx204_4)).trans hx204_4
              have HR204_4 := Aside0.mk hi204_4
              have HC204_4 := Aside0.mk hl204_4
              clear hi204_4 hl204_4
              replace p204 := eq_true p204
              replace q204 := eq_true q204
              go_wp2_with (first | ((with_reducible refine gate_callee (f := 41) rfl ?_); refine goesL_ (some 17) rfl rfl Try.func41 (by kernel_rfl) rfl #[.agg #[.int .i64 ((rd_T92 l0 x3_1).f0), .int .i64 ((rd_T92 l0 x3_1).f1), .int .i64 ((rd_T92 l0 x3_1).f2), .int .i64 ((rd_T92 l0 x3_1).f3), .slice A204_4 ((rd_T92 l0 x3_1).f4).length c204_4]] rfl (by (try simp only [List.map_toArray, List.map_cons, List.map_nil]); first | done | rfl | (simp only [List.length_drop, List.length_take]; rfl)) ?_; (with_reducible refine (watchbilllaw5_Few.calls ((rd_T92 l0 x3_1).f0) ((rd_T92 l0 x3_1).f1) ((rd_T92 l0 x3_1).f2) ((rd_T92 l0 x3_1).f3) _ _ ((rd_T92 l0 x3_1).f4) false _ ?side1 ?side2 A5.out).mono ?_); (case side1 => repeat (first | exact (Kd.C_below HR204_4.out HB.out) | (with_reducible refine Kd.C_alloc ?_ _) | (with_reducible refine Kd.C_drewN ?_ _) | (with_reducible refine Kd.C_drew ?_))); (case side2 => exact HC204_4.out); rintro e w8 ⟨rfl, hb⟩; refine ⟨_, rfl, ?_⟩; have n0_ := Aside0.mk (below_step (by repeat (first | (with_reducible first | exact HB.out | apply below_alloc | apply pw_below_drewN | apply below_drew1) | exact HB.out)) hb); clear HB; have HB := n0_; clear n0_; (try clear hb); (try clear hb2); (try clear hk); (try clear hi)))
              go_ret
              exact ⟨by first | rfl | (simp [errW_none, errW_some] <;> rfl) | (simp [*, errW_none, errW_some] <;> rfl), by repeat (first | (with_reducible first | exact HB.out | apply below_alloc | apply pw_below_drewN | apply below_drew1) | exact HB.out)⟩
          · rw [if_neg c4] at H
            exact absurd H (by simp)
        · rw [if_neg c3] at H
          have c3b0 : decide (x3_1 < (l0.length : Int)) = false := decide_eq_false c3
          clear c3
          obtain rfl := Option.some.inj H
          go_wp2
          go_ret
          exact ⟨by first | rfl | (simp [errW_none, errW_some] <;> rfl) | (simp [*, errW_none, errW_some] <;> rfl), by repeat (first | (with_reducible first | exact HB.out | apply below_alloc | apply pw_below_drewN | apply below_drew1) | exact HB.out)⟩

/-! ### watchbilllaw7_Few: function 9 -/
mutual
def watchbilllaw7_Few.j0 : Nat → Bool → Int → List (S63) → List (S60) → Option (Bool)
  | 0, _, _, _, _ => none
  | k + 1, x13, x207000, x207001, x207002 => if x13 = true then (some false) else (watchbilllaw7_Few.l0 k 0 x207000 x207001 x207002)
def watchbilllaw7_Few.l0 : Nat → Int → Int → List (S63) → List (S60) → Option (Bool)
  | 0, _, _, _, _ => none
  | k + 1, x3, x207000, x207001, x207002 => if x3 < (x207002.length : Int) then (if 0 ≤ x3 then ((watchbilllaw6_Few.f k ((rd_T60 x207002 x3).f4)).bind fun t208 => (if t208 = true then (if (((rd_T60 x207002 x3).f0).size : Int) > 50 then (some false) else (watchbilllaw7_Few.l0 k (wrap64 (x3 + 1)) x207000 x207001 x207002)) else (some false))) else (none)) else (some true)
end
def watchbilllaw7_Few.f (k : Nat) (a0_0 : Int) (l0_1 : List (S63)) (l0_2 : List (S60)) : Option (Bool) := if (l0_2.length : Int) > 20 then (watchbilllaw7_Few.j0 k true a0_0 l0_1 l0_2) else (watchbilllaw7_Few.j0 k (decide ((l0_1.length : Int) > 20)) a0_0 l0_1 l0_2)
theorem watchbilllaw7_Few.mono_l : ∀ k, (∀ y0 y1 y2 y3, LeO (watchbilllaw7_Few.j0 k y0 y1 y2 y3) (watchbilllaw7_Few.j0 (k + 1) y0 y1 y2 y3)) ∧ (∀ y0 y1 y2 y3, LeO (watchbilllaw7_Few.l0 k y0 y1 y2 y3) (watchbilllaw7_Few.l0 (k + 1) y0 y1 y2 y3))
  | 0 => ⟨fun _ _ _ _ r h => by simp [watchbilllaw7_Few.j0] at h, fun _ _ _ _ r h => by simp [watchbilllaw7_Few.l0] at h⟩
  | k + 1 => by
    obtain ⟨ih0, ih1⟩ := watchbilllaw7_Few.mono_l k
    refine ⟨?_, ?_⟩
    · intro y0 y1 y2 y3
      unfold watchbilllaw7_Few.j0
      repeat' first
      | (with_reducible exact ih0 _ _ _ _)
      | (with_reducible exact ih1 _ _ _ _)
      | (with_reducible exact watchbilllaw6_Few.mono _ _)
      | (with_reducible exact LeO.refl _)
      | (with_reducible exact LeO.none _)
      | (with_reducible refine LeO.ite ?_ ?_)
      | (with_reducible refine LeO.bind ?_ (fun _ => ?_))
      | exact ih0 _ _ _ _
      | exact ih1 _ _ _ _
      | exact watchbilllaw6_Few.mono _ _
      | exact LeO.none _
      | refine LeO.ite ?_ ?_
      | refine LeO.bind ?_ (fun _ => ?_)
    · intro y0 y1 y2 y3
      unfold watchbilllaw7_Few.l0
      repeat' first
      | (with_reducible exact ih0 _ _ _ _)
      | (with_reducible exact ih1 _ _ _ _)
      | (with_reducible exact watchbilllaw6_Few.mono _ _)
      | (with_reducible exact LeO.refl _)
      | (with_reducible exact LeO.none _)
      | (with_reducible refine LeO.ite ?_ ?_)
      | (with_reducible refine LeO.bind ?_ (fun _ => ?_))
      | exact ih0 _ _ _ _
      | exact ih1 _ _ _ _
      | exact watchbilllaw6_Few.mono _ _
      | exact LeO.none _
      | refine LeO.ite ?_ ?_
      | refine LeO.bind ?_ (fun _ => ?_)
theorem watchbilllaw7_Few.mono : ∀ a0 a1 a2 k, LeO (watchbilllaw7_Few.f k a0 a1 a2) (watchbilllaw7_Few.f (k + 1) a0 a1 a2) := by
  intro a0 a1 a2 k
  obtain ⟨ih0, ih1⟩ := watchbilllaw7_Few.mono_l k
  unfold watchbilllaw7_Few.f
  repeat' first
      | (with_reducible exact ih0 _ _ _ _)
      | (with_reducible exact ih1 _ _ _ _)
      | (with_reducible exact watchbilllaw6_Few.mono _ _)
      | (with_reducible exact LeO.refl _)
      | (with_reducible exact LeO.none _)
      | (with_reducible refine LeO.ite ?_ ?_)
      | (with_reducible refine LeO.bind ?_ (fun _ => ?_))
      | exact ih0 _ _ _ _
      | exact ih1 _ _ _ _
      | exact watchbilllaw6_Few.mono _ _
      | exact LeO.none _
      | refine LeO.ite ?_ ?_
      | refine LeO.bind ?_ (fun _ => ?_)
set_option maxHeartbeats 8000000 in
set_option maxRecDepth 100000 in
theorem watchbilllaw7_Few.calls (k : Nat) (a0_0 : Int) (A0_1 : Option Addr) (c0_1 : Nat) (l0_1 : List (S63)) (A0_2 : Option Addr) (c0_2 : Nat) (l0_2 : List (S60)) (r : Bool) (w : World) (hr0_1 : Kd.C k63 w A0_1 l0_1.length l0_1) (hc0_1 : l0_1.length ≤ c0_1) (hr0_2 : Kd.C k60 w A0_2 l0_2.length l0_2) (hc0_2 : l0_2.length ≤ c0_2) (h : watchbilllaw7_Few.f k a0_0 l0_1 l0_2 = some r) :
    Calls Try.prog 9 #[.agg #[.int .i64 a0_0, .slice A0_1 l0_1.length c0_1, .slice A0_2 l0_2.length c0_2]] w fun e w' => e = .returned (.bool r) ∧ Below w.heap.size w w' := by
  have hu25 := Try.underlying25
  have HR0_1 := Aside0.mk hr0_1
  have HC0_1 := Aside0.mk hc0_1
  clear hr0_1 hc0_1
  have HR0_2 := Aside0.mk hr0_2
  have HC0_2 := Aside0.mk hc0_2
  clear hr0_2 hc0_2
  have HB := Aside0.mk (Below.refl w.heap.size w)
  have H : (if (l0_2.length : Int) > 20 then (watchbilllaw7_Few.j0 k true a0_0 l0_1 l0_2) else (watchbilllaw7_Few.j0 k (decide ((l0_1.length : Int) > 20)) a0_0 l0_1 l0_2)) = some r := h
  clear h
  have HC2 := Aside0.mk H
  clear H
  go_enter Try.func9, Try.ntmps9
  go_upto_region 1 with (first | ((with_reducible refine gate_dst (N := 1) rfl ?_); (try (refine gate_guard (by rfl) ?_; dsimp only)); refine box_event ?hg (N := 1) ?hd (cs := #[.int .i64 a0_0, .slice A0_1 l0_1.length c0_1, .slice A0_2 l0_2.length c0_2]) (t := 25) ?hr ?_; (case hd => rfl); (case hg => rfl); (case hr => first | (go_simp; done) | (go_simp; rfl)); intro gb206 hg w3 hbox hb; have n0_ := Aside0.mk (below_step (by repeat (first | (with_reducible first | exact HB.out | apply below_alloc | apply pw_below_drewN | apply below_drew1) | exact HB.out)) hb); have n1_ := Aside0.mk (hbox); have n2_ := Aside0.mk ((by rw [hg]; exact (below_size (by repeat (first | (with_reducible first | exact HB.out | apply below_alloc | apply pw_below_drewN | apply below_drew1) | exact HB.out))) : w.heap.size ≤ gb206)); have n3_ := Aside0.mk ((by rw [hg]; exact (below_size (by repeat (first | (with_reducible first | exact HB.out | apply below_alloc | apply pw_below_drewN | apply below_drew1) | exact HB.out))) : w.heap.size ≤ gb206)); clear HB; have HB := n0_; have BK206 := n1_; have GW206 := n2_; have GE206 := n3_; clear n0_ n1_ n2_ n3_; clear hb hbox hg))
  (try simp only [Act.put, List.setIfInBounds_toArray, List.set_cons_zero, List.set_cons_succ])
  go_cut [13] (fun v13 wc => ∃ (kq : Nat) (x13_1 : Bool), v13 = .bool x13_1 ∧ Aside0 (watchbilllaw7_Few.j0 kq x13_1 a0_0 l0_1 l0_2 = some r) ∧ Aside0 (kq ≤ k) ∧ Aside0 (wc.heap[gb206]? = some (.cells #[.int .i64 a0_0, (.slice A0_1 l0_1.length c0_1), (.slice A0_2 l0_2.length c0_2)] 25 (0, 0))) ∧ Aside0 (Below w.heap.size w wc))
  case first =>
    have H := HC2.out
    clear HC2
    by_cases c4 : (l0_2.length : Int) > 20
    · rw [if_pos c4] at H
      have c4b0 : decide (20 < (l0_2.length : Int)) = true := decide_eq_true c4
      have c4b1 : decide (20 < l0_2.length) = true := decide_eq_true (by omega)
      clear c4
      (first | rw [c4b0] | (simp only [i64_w, i32_w]; rw [c4b0]) | skip)
      have H' := Aside0.mk H
      clear H
      have hcz5_0 : w3.cell? ⟨gb206, 0, none⟩ = some (.int .i64 a0_0) := (blk_cell BK206.out 0).trans rfl
      have hcz5_1 : w3.cell? ⟨gb206, 1, none⟩ = some (.slice A0_1 l0_1.length c0_1) := (blk_cell BK206.out 1).trans rfl
      have hcz5_2 : w3.cell? ⟨gb206, 2, none⟩ = some (.slice A0_2 l0_2.length c0_2) := (blk_cell BK206.out 2).trans rfl
      have hfz5_0 := blk_frozen BK206.out 0
      have hfz5_1 := blk_frozen BK206.out 1
      have hfz5_2 := blk_frozen BK206.out 2
      go_wp2
      go_meet
      case rel => exact ⟨_, (true), (by first | rfl | (simp; done) | (simp [*]; done) | (simp [Int.tdiv_eq_ediv_of_nonneg]; done)), H', ⟨by first | omega | exact Nat.le_refl _⟩, ⟨by (with_reducible repeat (first | refine blk_drewN ?_ _ | refine blk_drew ?_ | refine blk_alloc ?_ _)); exact BK206.out⟩, ⟨by repeat (first | (with_reducible first | exact HB.out | apply below_alloc | apply pw_below_drewN | apply below_drew1 | refine below_set ?_ GE206.out) | exact HB.out)⟩⟩
    · rw [if_neg c4] at H
      have c4b0 : decide (20 < (l0_2.length : Int)) = false := decide_eq_false c4
      have c4b1 : decide (20 < l0_2.length) = false := decide_eq_false (by omega)
      clear c4
      (first | rw [c4b0] | (simp only [i64_w, i32_w]; rw [c4b0]) | skip)
      have H' := Aside0.mk H
      clear H
      have hcz6_0 : w3.cell? ⟨gb206, 0, none⟩ = some (.int .i64 a0_0) := (blk_cell BK206.out 0).trans rfl
      have hcz6_1 : w3.cell? ⟨gb206, 1, none⟩ = some (.slice A0_1 l0_1.length c0_1) := (blk_cell BK206.out 1).trans rfl
      have hcz6_2 : w3.cell? ⟨gb206, 2, none⟩ = some (.slice A0_2 l0_2.length c0_2) := (blk_cell BK206.out 2).trans rfl
      have hfz6_0 := blk_frozen BK206.out 0
      have hfz6_1 := blk_frozen BK206.out 1
      have hfz6_2 := blk_frozen BK206.out 2
      go_wp2
      go_meet
      case rel => exact ⟨_, (decide ((l0_1.length : Int) > 20)), (by first | rfl | (simp; done) | (simp [*]; done) | (simp [Int.tdiv_eq_ediv_of_nonneg]; done)), H', ⟨by first | omega | exact Nat.le_refl _⟩, ⟨by (with_reducible repeat (first | refine blk_drewN ?_ _ | refine blk_drew ?_ | refine blk_alloc ?_ _)); exact BK206.out⟩, ⟨by repeat (first | (with_reducible first | exact HB.out | apply below_alloc | apply pw_below_drewN | apply below_drew1 | refine below_set ?_ GE206.out) | exact HB.out)⟩⟩
  case rest =>
    clear HC2
    try clear p2
    try clear c4
    try clear c4b0
    try clear c4b1
    try clear hcz5_0
    try clear hcz5_1
    try clear hcz5_2
    try clear hcz6_0
    try clear hcz6_1
    try clear hcz6_2
    try clear hfz5_0
    try clear hfz5_1
    try clear hfz5_2
    try clear hfz6_0
    try clear hfz6_1
    try clear hfz6_2
    obtain ⟨kq, x13_1, rfl, HA, HJ1, BK206, HB⟩ := hcut
    cases kq with
    | zero => exact absurd HA.out (by simp [watchbilllaw7_Few.j0])
    | succ kj1 =>
      have H := HA.out
      clear HA
      simp only [watchbilllaw7_Few.j0] at H
      by_cases c7 : x13_1 = true
      · subst c7
        have H1 : (some false) = some r := by rw [if_pos rfl] at H; exact H
        clear H
        have H := H1
        clear H1
        obtain rfl := Option.some.inj H
        go_wp2
        go_ret
        exact ⟨by first | rfl | (simp [errW_none, errW_some] <;> rfl) | (simp [*, errW_none, errW_some] <;> rfl), by repeat (first | (with_reducible first | exact HB.out | apply below_alloc | apply pw_below_drewN | apply below_drew1 | refine below_set ?_ GE206.out) | exact HB.out)⟩
      · replace c7 := Bool.eq_false_iff.mpr c7
        subst c7
        have H1 : (watchbilllaw7_Few.l0 kj1 0 a0_0 l0_1 l0_2) = some r := by rw [if_neg (show ¬ (false = true) by decide)] at H; exact H
        clear H
        have H := H1
        clear H1
        have H' := Aside0.mk H
        clear H
        go_wp2
        go_loopg [3] kj1 (fun kq v3 w' => ∃ (x3_2 : Int), v3 = .int .i64 x3_2 ∧ Aside0 (watchbilllaw7_Few.l0 kq x3_2 a0_0 l0_1 l0_2 = some r) ∧ Aside0 (kq ≤ kj1) ∧ Aside0 (w'.heap[gb206]? = some (.cells #[.int .i64 a0_0, (.slice A0_1 l0_1.length c0_1), (.slice A0_2 l0_2.length c0_2)] 25 (0, 0))) ∧ Aside0 (Below w.heap.size w w'))
        case atStart => exact ⟨(0), (by first | rfl | (simp; done) | (simp [*]; done) | (simp [Int.tdiv_eq_ediv_of_nonneg]; done)), H', ⟨Nat.le_refl _⟩, ⟨by (with_reducible repeat (first | refine blk_drewN ?_ _ | refine blk_drew ?_ | refine blk_alloc ?_ _)); exact BK206.out⟩, ⟨by repeat (first | (with_reducible first | exact HB.out | apply below_alloc | apply pw_below_drewN | apply below_drew1 | refine below_set ?_ GE206.out) | exact HB.out)⟩⟩
        case round =>
          clear H'
          try clear p2
          try clear c4
          try clear c4b0
          try clear c4b1
          try clear c7
          try clear hcz5_0
          try clear hcz5_1
          try clear hcz5_2
          try clear hcz6_0
          try clear hcz6_1
          try clear hcz6_2
          try clear hfz5_0
          try clear hfz5_1
          try clear hfz5_2
          try clear hfz6_0
          try clear hfz6_1
          try clear hfz6_2
          try clear p2
          obtain ⟨x3_2, rfl, HA, HK2, BK206, HB⟩ := hrel
          cases gk with
          | zero => exact absurd HA.out (by simp [watchbilllaw7_Few.l0])
          | succ k2 =>
            have H := HA.out
            clear HA
            simp only [watchbilllaw7_Few.l0] at H
            by_cases c8 : x3_2 < (l0_2.length : Int)
            · rw [if_pos c8] at H
              have c8b0 : decide (x3_2 < (l0_2.length : Int)) = true := decide_eq_true c8
              clear c8
              by_cases c9 : 0 ≤ x3_2
              · rw [if_pos c9] at H
                have c9b0 : decide (0 ≤ x3_2) = true := decide_eq_true c9
                clear c9
                replace H := Option.bind_eq_some_iff.mp H
                obtain ⟨t208, A100, H⟩ := H
                replace H : (if t208 = true then (if (((rd_T60 l0_2 x3_2).f0).size : Int) > 50 then (some false) else (watchbilllaw7_Few.l0 k2 (wrap64 (x3_2 + 1)) a0_0 l0_1 l0_2)) else (some false)) = some r := H
                have A10 := Aside0.mk A100
                clear A100
                by_cases c11 : t208 = true
                · subst c11
                  have H1 : (if (((rd_T60 l0_2 x3_2).f0).size : Int) > 50 then (some false) else (watchbilllaw7_Few.l0 k2 (wrap64 (x3_2 + 1)) a0_0 l0_1 l0_2)) = some r := by rw [if_pos rfl] at H; exact H
                  clear H
                  have H := H1
                  clear H1
                  by_cases c12 : (((rd_T60 l0_2 x3_2).f0).size : Int) > 50
                  · rw [if_pos c12] at H
                    have c12b0 : decide (50 < (((rd_T60 l0_2 x3_2).f0).size : Int)) = true := decide_eq_true c12
                    have c12b1 : decide (50 < ((rd_T60 l0_2 x3_2).f0).size) = true := decide_eq_true (by omega)
                    clear c12
                    obtain rfl := Option.some.inj H
                    have hcz13_0 : wr.cell? ⟨gb206, 0, none⟩ = some (.int .i64 a0_0) := (blk_cell BK206.out 0).trans rfl
                    have hcz13_1 : wr.cell? ⟨gb206, 1, none⟩ = some (.slice A0_1 l0_1.length c0_1) := (blk_cell BK206.out 1).trans rfl
                    have hcz13_2 : wr.cell? ⟨gb206, 2, none⟩ = some (.slice A0_2 l0_2.length c0_2) := (blk_cell BK206.out 2).trans rfl
                    have hfz13_0 := blk_frozen BK206.out 0
                    have hfz13_1 := blk_frozen BK206.out 1
                    have hfz13_2 := blk_frozen BK206.out 2
                    have p207 : 0 ≤ (x3_2 : Int) := of_decide_eq_true (by first | (with_reducible assumption) | assumption)
                    have q207 : x3_2 < (l0_2.length : Int) := of_decide_eq_true (by first | (with_reducible assumption) | assumption)
                    obtain ⟨ad207, A207_4, c207_4, e207, hx207_0, hx207_1, hx207_2, hx207_3, hx207_4, hl207_4, hi207_4⟩ := at_T60 HR0_2.out x3_2 p207 q207
                    cases e207
                    replace hx207_0 := (HB.out.cell (World.block_lt_of_cell? w _ hx207_0)).trans hx207_0
                    replace hx207_1 := (HB.out.cell (World.block_lt_of_cell? w _ hx207_1)).trans hx207_1
                    replace hx207_2 := (HB.out.cell (World.block_lt_of_cell? w _ hx207_2)).trans hx207_2
                    replace hx207_3 := (HB.out.cell (World.block_lt_of_cell? w _ hx207_3)).trans hx207_3
                    replace hx207_4 := (HB.out.cell (World.block_lt_of_cell? w _ hx207_4)).trans hx207_4
                    have HR207_4 := Aside0.mk hi207_4
                    have HC207_4 := Aside0.mk hl207_4
                    clear hi207_4 hl207_4
                    replace p207 := eq_true p207
                    replace q207 := eq_true q207
                    go_wp2_with (first | ((with_reducible refine gate_callee (f := 24) rfl ?_); refine goesL_ (some 27) rfl rfl Try.func24 (by kernel_rfl) rfl #[.slice A207_4 ((rd_T60 l0_2 x3_2).f4).length c207_4] rfl (by (try simp only [List.map_toArray, List.map_cons, List.map_nil]); first | done | rfl | (simp only [List.length_drop, List.length_take]; rfl)) ?_; (with_reducible refine (watchbilllaw6_Few.calls k2 _ _ ((rd_T60 l0_2 x3_2).f4) true _ ?side1 ?side2 A10.out).mono ?_); (case side1 => repeat (first | exact (Kd.C_below HR207_4.out HB.out) | (with_reducible refine Kd.C_alloc ?_ _) | (with_reducible refine Kd.C_drewN ?_ _) | (with_reducible refine Kd.C_drew ?_))); (case side2 => exact HC207_4.out); rintro e w14 ⟨rfl, hb⟩; refine ⟨_, rfl, ?_⟩; have n0_ := Aside0.mk (blk_below (g := gb206) (o := .cells #[.int .i64 a0_0, .slice A0_1 l0_1.length c0_1, .slice (some ad207) l0_2.length c0_2] 25 (0, 0)) (by (with_reducible repeat (first | refine blk_drewN ?_ _ | refine blk_drew ?_ | refine blk_alloc ?_ _)); exact BK206.out) hb); have n1_ := Aside0.mk (below_step (by repeat (first | (with_reducible first | exact HB.out | apply below_alloc | apply pw_below_drewN | apply below_drew1 | refine below_set ?_ GE206.out) | exact HB.out)) hb); clear BK206; clear HB; have BK206 := n0_; have HB := n1_; clear n0_ n1_; (try clear hb); (try clear hb2); (try clear hk); (try clear hi); have hcz15_0 : w14.cell? ⟨gb206, 0, none⟩ = some (.int .i64 a0_0) := (blk_cell BK206.out 0).trans rfl; have hcz15_1 : w14.cell? ⟨gb206, 1, none⟩ = some (.slice A0_1 l0_1.length c0_1) := (blk_cell BK206.out 1).trans rfl; have hcz15_2 : w14.cell? ⟨gb206, 2, none⟩ = some (.slice (some ad207) l0_2.length c0_2) := (blk_cell BK206.out 2).trans rfl; have hfz15_0 := blk_frozen BK206.out 0; have hfz15_1 := blk_frozen BK206.out 1; have hfz15_2 := blk_frozen BK206.out 2; have p209 : 0 ≤ (x3_2 : Int) := of_decide_eq_true (by first | (with_reducible assumption) | assumption); have q209 : x3_2 < (l0_2.length : Int) := of_decide_eq_true (by first | (with_reducible assumption) | assumption); obtain ⟨ad209, A209_4, c209_4, e209, hx209_0, hx209_1, hx209_2, hx209_3, hx209_4, hl209_4, hi209_4⟩ := at_T60 HR0_2.out x3_2 p209 q209; obtain rfl : ad207 = ad209 := (by injection e209); replace hx209_0 := (HB.out.cell (World.block_lt_of_cell? w _ hx209_0)).trans hx209_0; replace hx209_1 := (HB.out.cell (World.block_lt_of_cell? w _ hx209_1)).trans hx209_1; replace hx209_2 := (HB.out.cell (World.block_lt_of_cell? w _ hx209_2)).trans hx209_2; replace hx209_3 := (HB.out.cell (World.block_lt_of_cell? w _ hx209_3)).trans hx209_3; replace hx209_4 := (HB.out.cell (World.block_lt_of_cell? w _ hx209_4)).trans hx209_4; have HR209_4 := Aside0.mk hi209_4; have HC209_4 := Aside0.mk hl209_4; clear hi209_4 hl209_4; replace p209 := eq_true p209; replace q209 := eq_true q209))
                    go_ret
                    exact ⟨by first | rfl | (simp [errW_none, errW_some] <;> rfl) | (simp [*, errW_none, errW_some] <;> rfl), by repeat (first | (with_reducible first | exact HB.out | apply below_alloc | apply pw_below_drewN | apply below_drew1 | refine below_set ?_ GE206.out) | exact HB.out)⟩
                  · rw [if_neg c12] at H
                    have c12b0 : decide (50 < (((rd_T60 l0_2 x3_2).f0).size : Int)) = false := decide_eq_false c12
                    have c12b1 : decide (50 < ((rd_T60 l0_2 x3_2).f0).size) = false := decide_eq_false (by omega)
                    clear c12
                    have H' := Aside0.mk H
                    clear H
                    have hcz16_0 : wr.cell? ⟨gb206, 0, none⟩ = some (.int .i64 a0_0) := (blk_cell BK206.out 0).trans rfl
                    have hcz16_1 : wr.cell? ⟨gb206, 1, none⟩ = some (.slice A0_1 l0_1.length c0_1) := (blk_cell BK206.out 1).trans rfl
                    have hcz16_2 : wr.cell? ⟨gb206, 2, none⟩ = some (.slice A0_2 l0_2.length c0_2) := (blk_cell BK206.out 2).trans rfl
                    have hfz16_0 := blk_frozen BK206.out 0
                    have hfz16_1 := blk_frozen BK206.out 1
                    have hfz16_2 := blk_frozen BK206.out 2
                    have p207 : 0 ≤ (x3_2 : Int) := of_decide_eq_true (by first | (with_reducible assumption) | assumption)
                    have q207 : x3_2 < (l0_2.length : Int) := of_decide_eq_true (by first | (with_reducible assumption) | assumption)
                    obtain ⟨ad207, A207_4, c207_4, e207, hx207_0, hx207_1, hx207_2, hx207_3, hx207_4, hl207_4, hi207_4⟩ := at_T60 HR0_2.out x3_2 p207 q207
                    cases e207
                    replace hx207_0 := (HB.out.cell (World.block_lt_of_cell? w _ hx207_0)).trans hx207_0
                    replace hx207_1 := (HB.out.cell (World.block_lt_of_cell? w _ hx207_1)).trans hx207_1
                    replace hx207_2 := (HB.out.cell (World.block_lt_of_cell? w _ hx207_2)).trans hx207_2
                    replace hx207_3 := (HB.out.cell (World.block_lt_of_cell? w _ hx207_3)).trans hx207_3
                    replace hx207_4 := (HB.out.cell (World.block_lt_of_cell? w _ hx207_4)).trans hx207_4
                    have HR207_4 := Aside0.mk hi207_4
                    have HC207_4 := Aside0.mk hl207_4
                    clear hi207_4 hl207_4
                    replace p207 := eq_true p207
                    replace q207 := eq_true q207
                    go_wp2_with (first | ((with_reducible refine gate_callee (f := 24) rfl ?_); refine goesL_ (some 27) rfl rfl Try.func24 (by kernel_rfl) rfl #[.slice A207_4 ((rd_T60 l0_2 x3_2).f4).length c207_4] rfl (by (try simp only [List.map_toArray, List.map_cons, List.map_nil]); first | done | rfl | (simp only [List.length_drop, List.length_take]; rfl)) ?_; (with_reducible refine (watchbilllaw6_Few.calls k2 _ _ ((rd_T60 l0_2 x3_2).f4) true _ ?side1 ?side2 A10.out).mono ?_); (case side1 => repeat (first | exact (Kd.C_below HR207_4.out HB.out) | (with_reducible refine Kd.C_alloc ?_ _) | (with_reducible refine Kd.C_drewN ?_ _) | (with_reducible refine Kd.C_drew ?_))); (case side2 => exact HC207_4.out); rintro e w17 ⟨rfl, hb⟩; refine ⟨_, rfl, ?_⟩; have n0_ := Aside0.mk (blk_below (g := gb206) (o := .cells #[.int .i64 a0_0, .slice A0_1 l0_1.length c0_1, .slice (some ad207) l0_2.length c0_2] 25 (0, 0)) (by (with_reducible repeat (first | refine blk_drewN ?_ _ | refine blk_drew ?_ | refine blk_alloc ?_ _)); exact BK206.out) hb); have n1_ := Aside0.mk (below_step (by repeat (first | (with_reducible first | exact HB.out | apply below_alloc | apply pw_below_drewN | apply below_drew1 | refine below_set ?_ GE206.out) | exact HB.out)) hb); clear BK206; clear HB; have BK206 := n0_; have HB := n1_; clear n0_ n1_; (try clear hb); (try clear hb2); (try clear hk); (try clear hi); have hcz18_0 : w17.cell? ⟨gb206, 0, none⟩ = some (.int .i64 a0_0) := (blk_cell BK206.out 0).trans rfl; have hcz18_1 : w17.cell? ⟨gb206, 1, none⟩ = some (.slice A0_1 l0_1.length c0_1) := (blk_cell BK206.out 1).trans rfl; have hcz18_2 : w17.cell? ⟨gb206, 2, none⟩ = some (.slice (some ad207) l0_2.length c0_2) := (blk_cell BK206.out 2).trans rfl; have hfz18_0 := blk_frozen BK206.out 0; have hfz18_1 := blk_frozen BK206.out 1; have hfz18_2 := blk_frozen BK206.out 2; have p209 : 0 ≤ (x3_2 : Int) := of_decide_eq_true (by first | (with_reducible assumption) | assumption); have q209 : x3_2 < (l0_2.length : Int) := of_decide_eq_true (by first | (with_reducible assumption) | assumption); obtain ⟨ad209, A209_4, c209_4, e209, hx209_0, hx209_1, hx209_2, hx209_3, hx209_4, hl209_4, hi209_4⟩ := at_T60 HR0_2.out x3_2 p209 q209; obtain rfl : ad207 = ad209 := (by injection e209); replace hx209_0 := (HB.out.cell (World.block_lt_of_cell? w _ hx209_0)).trans hx209_0; replace hx209_1 := (HB.out.cell (World.block_lt_of_cell? w _ hx209_1)).trans hx209_1; replace hx209_2 := (HB.out.cell (World.block_lt_of_cell? w _ hx209_2)).trans hx209_2; replace hx209_3 := (HB.out.cell (World.block_lt_of_cell? w _ hx209_3)).trans hx209_3; replace hx209_4 := (HB.out.cell (World.block_lt_of_cell? w _ hx209_4)).trans hx209_4; have HR209_4 := Aside0.mk hi209_4; have HC209_4 := Aside0.mk hl209_4; clear hi209_4 hl209_4; replace p209 := eq_true p209; replace q209 := eq_true q209))
                    go_roundg k2
                    case measure => have := HJ1.out; have := HK2.out; omega
                    case rel => exact ⟨(wrap64 (x3_2 + 1)), (by first | rfl | (simp; done) | (simp [*]; done) | (simp [Int.tdiv_eq_ediv_of_nonneg]; done)), H', ⟨by have := HJ1.out; have := HK2.out; omega⟩, ⟨by (with_reducible repeat (first | refine blk_drewN ?_ _ | refine blk_drew ?_ | refine blk_alloc ?_ _)); exact BK206.out⟩, ⟨by repeat (first | (with_reducible first | exact HB.out | apply below_alloc | apply pw_below_drewN | apply below_drew1 | refine below_set ?_ GE206.out) | exact HB.out)⟩⟩
                · replace c11 := Bool.eq_false_iff.mpr c11
                  subst c11
                  have H1 : (some false) = some r := by rw [if_neg (show ¬ (false = true) by decide)] at H; exact H
                  clear H
                  have H := H1
                  clear H1
                  obtain rfl := Option.some.inj H
                  have hcz19_0 : wr.cell? ⟨gb206, 0, none⟩ = some (.int .i64 a0_0) := (blk_cell BK206.out 0).trans rfl
                  have hcz19_1 : wr.cell? ⟨gb206, 1, none⟩ = some (.slice A0_1 l0_1.length c0_1) := (blk_cell BK206.out 1).trans rfl
                  have hcz19_2 : wr.cell? ⟨gb206, 2, none⟩ = some (.slice A0_2 l0_2.length c0_2) := (blk_cell BK206.out 2).trans rfl
                  have hfz19_0 := blk_frozen BK206.out 0
                  have hfz19_1 := blk_frozen BK206.out 1
                  have hfz19_2 := blk_frozen BK206.out 2
                  have p207 : 0 ≤ (x3_2 : Int) := of_decide_eq_true (by first | (with_reducible assumption) | assumption)
                  have q207 : x3_2 < (l0_2.length : Int) := of_decide_eq_true (by first | (with_reducible assumption) | assumption)
                  obtain ⟨ad207, A207_4, c207_4, e207, hx207_0, hx207_1, hx207_2, hx207_3, hx207_4, hl207_4, hi207_4⟩ := at_T60 HR0_2.out x3_2 p207 q207
                  cases e207
                  replace hx207_0 := (HB.out.cell (World.block_lt_of_cell? w _ hx207_0)).trans hx207_0
                  replace hx207_1 := (HB.out.cell (World.block_lt_of_cell? w _ hx207_1)).trans hx207_1
                  replace hx207_2 := (HB.out.cell (World.block_lt_of_cell? w _ hx207_2)).trans hx207_2
                  replace hx207_3 := (HB.out.cell (World.block_lt_of_cell? w _ hx207_3)).trans hx207_3
                  replace hx207_4 := (HB.out.cell (World.block_lt_of_cell? w _ hx207_4)).trans hx207_4
                  have HR207_4 := Aside0.mk hi207_4
                  have HC207_4 := Aside0.mk hl207_4
                  clear hi207_4 hl207_4
                  replace p207 := eq_true p207
                  replace q207 := eq_true q207
                  go_wp2_with (first | ((with_reducible refine gate_callee (f := 24) rfl ?_); refine goesL_ (some 27) rfl rfl Try.func24 (by kernel_rfl) rfl #[.slice A207_4 ((rd_T60 l0_2 x3_2).f4).length c207_4] rfl (by (try simp only [List.map_toArray, List.map_cons, List.map_nil]); first | done | rfl | (simp only [List.length_drop, List.length_take]; rfl)) ?_; (with_reducible refine (watchbilllaw6_Few.calls k2 _ _ ((rd_T60 l0_2 x3_2).f4) false _ ?side1 ?side2 A10.out).mono ?_); (case side1 => repeat (first | exact (Kd.C_below HR207_4.out HB.out) | (with_reducible refine Kd.C_alloc ?_ _) | (with_reducible refine Kd.C_drewN ?_ _) | (with_reducible refine Kd.C_drew ?_))); (case side2 => exact HC207_4.out); rintro e w20 ⟨rfl, hb⟩; refine ⟨_, rfl, ?_⟩; have n0_ := Aside0.mk (blk_below (g := gb206) (o := .cells #[.int .i64 a0_0, .slice A0_1 l0_1.length c0_1, .slice (some ad207) l0_2.length c0_2] 25 (0, 0)) (by (with_reducible repeat (first | refine blk_drewN ?_ _ | refine blk_drew ?_ | refine blk_alloc ?_ _)); exact BK206.out) hb); have n1_ := Aside0.mk (below_step (by repeat (first | (with_reducible first | exact HB.out | apply below_alloc | apply pw_below_drewN | apply below_drew1 | refine below_set ?_ GE206.out) | exact HB.out)) hb); clear BK206; clear HB; have BK206 := n0_; have HB := n1_; clear n0_ n1_; (try clear hb); (try clear hb2); (try clear hk); (try clear hi)))
                  go_ret
                  exact ⟨by first | rfl | (simp [errW_none, errW_some] <;> rfl) | (simp [*, errW_none, errW_some] <;> rfl), by repeat (first | (with_reducible first | exact HB.out | apply below_alloc | apply pw_below_drewN | apply below_drew1 | refine below_set ?_ GE206.out) | exact HB.out)⟩
              · rw [if_neg c9] at H
                exact absurd H (by simp)
            · rw [if_neg c8] at H
              have c8b0 : decide (x3_2 < (l0_2.length : Int)) = false := decide_eq_false c8
              clear c8
              obtain rfl := Option.some.inj H
              have hcz21_0 : wr.cell? ⟨gb206, 0, none⟩ = some (.int .i64 a0_0) := (blk_cell BK206.out 0).trans rfl
              have hcz21_1 : wr.cell? ⟨gb206, 1, none⟩ = some (.slice A0_1 l0_1.length c0_1) := (blk_cell BK206.out 1).trans rfl
              have hcz21_2 : wr.cell? ⟨gb206, 2, none⟩ = some (.slice A0_2 l0_2.length c0_2) := (blk_cell BK206.out 2).trans rfl
              have hfz21_0 := blk_frozen BK206.out 0
              have hfz21_1 := blk_frozen BK206.out 1
              have hfz21_2 := blk_frozen BK206.out 2
              go_wp2
              go_ret
              exact ⟨by first | rfl | (simp [errW_none, errW_some] <;> rfl) | (simp [*, errW_none, errW_some] <;> rfl), by repeat (first | (with_reducible first | exact HB.out | apply below_alloc | apply pw_below_drewN | apply below_drew1 | refine below_set ?_ GE206.out) | exact HB.out)⟩

end Go.Proofs.Ythdmomaephiodaa.XA
