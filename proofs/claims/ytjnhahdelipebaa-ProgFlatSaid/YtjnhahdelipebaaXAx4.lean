-- PRINTED by print.py (a twelfth state) out of the translation. Not trusted: Lean checks it.
import Derived.Test.YtjnhahdelipebaaXAx0
import Derived.Test.YtjnhahdelipebaaXAx3
namespace Go.Proofs.Ytjnhahdelipebaa.XA
open Go.RowKit Go.Proofs.YtjnhahdelipebaaW.PrintWords Go.Proofs.YtjnhahdelipebaaW.PrintLast Go.Proofs.YtjnhahdelipebaaW.PrintMore
attribute [local go_sem] max2_int min2_int max_two min_two max_three min_three max_four min_four   -- for this text's walks alone
set_option linter.unusedVariables false
set_option linter.unusedSimpArgs false

/-! ### prog_Section: function 22 -/
def prog_Section.l0 : Nat → Int → Int → Int → Bool → List (S52) → Int → Int → Option (Int)
  | 0, _, _, _, _, _, _, _ => none
  | k + 1, x1, x5, x6, x7, x11, x12, x13 => if x13 < x12 then (if 0 ≤ x13 then (if x13 < (x11.length : Int) then (if ((rd_T52 x11 x13).f0) = 2 then (if ((rd_T52 x11 x13).f1) = x1 then (prog_Section.l0 k x1 x5 0 true x11 x12 (wrap64 (x13 + 1))) else (if ((rd_T52 x11 x13).f0) = 3 then (if ((rd_T52 x11 x13).f0) = 1 then (if x7 = true then (prog_Section.l0 k x1 (mx x5 (wrap64 (x6 + ((rd_T52 x11 x13).f1)))) (wrap64 (x6 + ((rd_T52 x11 x13).f1))) x7 x11 x12 (wrap64 (x13 + 1))) else (prog_Section.l0 k x1 x5 x6 x7 x11 x12 (wrap64 (x13 + 1)))) else (prog_Section.l0 k x1 x5 x6 x7 x11 x12 (wrap64 (x13 + 1)))) else (if ((rd_T52 x11 x13).f0) = 1 then (if x7 = true then (prog_Section.l0 k x1 (mx x5 (wrap64 (x6 + ((rd_T52 x11 x13).f1)))) (wrap64 (x6 + ((rd_T52 x11 x13).f1))) x7 x11 x12 (wrap64 (x13 + 1))) else (prog_Section.l0 k x1 x5 x6 x7 x11 x12 (wrap64 (x13 + 1)))) else (prog_Section.l0 k x1 x5 x6 x7 x11 x12 (wrap64 (x13 + 1)))))) else (if ((rd_T52 x11 x13).f0) = 3 then (if ((rd_T52 x11 x13).f1) = x1 then (prog_Section.l0 k x1 x5 x6 false x11 x12 (wrap64 (x13 + 1))) else (if ((rd_T52 x11 x13).f0) = 1 then (if x7 = true then (prog_Section.l0 k x1 (mx x5 (wrap64 (x6 + ((rd_T52 x11 x13).f1)))) (wrap64 (x6 + ((rd_T52 x11 x13).f1))) x7 x11 x12 (wrap64 (x13 + 1))) else (prog_Section.l0 k x1 x5 x6 x7 x11 x12 (wrap64 (x13 + 1)))) else (prog_Section.l0 k x1 x5 x6 x7 x11 x12 (wrap64 (x13 + 1))))) else (if ((rd_T52 x11 x13).f0) = 1 then (if x7 = true then (prog_Section.l0 k x1 (mx x5 (wrap64 (x6 + ((rd_T52 x11 x13).f1)))) (wrap64 (x6 + ((rd_T52 x11 x13).f1))) x7 x11 x12 (wrap64 (x13 + 1))) else (prog_Section.l0 k x1 x5 x6 x7 x11 x12 (wrap64 (x13 + 1)))) else (prog_Section.l0 k x1 x5 x6 x7 x11 x12 (wrap64 (x13 + 1)))))) else (none)) else (none)) else (some x5)
def prog_Section.f (k : Nat) (l0 : List (S52)) (a1 : Int) : Option (Int) := (prog_Flat.f k l0).bind fun t128 => (prog_Section.l0 k a1 0 0 false t128 (t128.length : Int) 0)
theorem prog_Section.mono_l : ∀ k, (∀ y0 y1 y2 y3 y4 y5 y6, LeO (prog_Section.l0 k y0 y1 y2 y3 y4 y5 y6) (prog_Section.l0 (k + 1) y0 y1 y2 y3 y4 y5 y6))
  | 0 => fun _ _ _ _ _ _ _ r h => by simp [prog_Section.l0] at h
  | k + 1 => by
    have ih0 := prog_Section.mono_l k
    · intro y0 y1 y2 y3 y4 y5 y6
      unfold prog_Section.l0
      repeat' first
      | (with_reducible exact ih0 _ _ _ _ _ _ _)
      | (with_reducible exact prog_Flat.mono _ _)
      | (with_reducible exact LeO.refl _)
      | (with_reducible exact LeO.none _)
      | (with_reducible refine LeO.ite ?_ ?_)
      | (with_reducible refine LeO.bind ?_ (fun _ => ?_))
      | exact ih0 _ _ _ _ _ _ _
      | exact prog_Flat.mono _ _
      | exact LeO.none _
      | refine LeO.ite ?_ ?_
      | refine LeO.bind ?_ (fun _ => ?_)
theorem prog_Section.mono : ∀ a0 a1 k, LeO (prog_Section.f k a0 a1) (prog_Section.f (k + 1) a0 a1) := by
  intro a0 a1 k
  have ih0 := prog_Section.mono_l k
  unfold prog_Section.f
  repeat' first
      | (with_reducible exact ih0 _ _ _ _ _ _ _)
      | (with_reducible exact prog_Flat.mono _ _)
      | (with_reducible exact LeO.refl _)
      | (with_reducible exact LeO.none _)
      | (with_reducible refine LeO.ite ?_ ?_)
      | (with_reducible refine LeO.bind ?_ (fun _ => ?_))
      | exact ih0 _ _ _ _ _ _ _
      | exact prog_Flat.mono _ _
      | exact LeO.none _
      | refine LeO.ite ?_ ?_
      | refine LeO.bind ?_ (fun _ => ?_)
set_option maxHeartbeats 8000000 in
set_option maxRecDepth 100000 in
theorem prog_Section.calls (k : Nat) (A0 : Option Addr) (c0 : Nat) (l0 : List (S52)) (a1 : Int) (r : Int) (w : World) (hr0 : Kd.C k52 w A0 l0.length l0) (hc0 : l0.length ≤ c0) (h : prog_Section.f k l0 a1 = some r) :
    Calls Try.prog 22 #[.slice A0 l0.length c0, .int .i64 a1] w fun e w' => e = .returned (.int .i64 r) ∧ Below w.heap.size w w' := by
  have hu52 := Try.underlying52
  have HR0 := Aside0.mk hr0
  have HC0 := Aside0.mk hc0
  clear hr0 hc0
  have HB := Aside0.mk (Below.refl w.heap.size w)
  have H : ((prog_Flat.f k l0).bind fun t128 => (prog_Section.l0 k a1 0 0 false t128 (t128.length : Int) 0)) = some r := h
  clear h
  replace H := Option.bind_eq_some_iff.mp H
  obtain ⟨t128, A30, H⟩ := H
  replace H : (prog_Section.l0 k a1 0 0 false t128 (t128.length : Int) 0) = some r := H
  have A3 := Aside0.mk A30
  clear A30
  have H' := Aside0.mk H
  clear H
  go_enter Try.func22, Try.ntmps22
  go_wp2_with (first | ((with_reducible refine gate_callee (f := 29) rfl ?_); refine goesL_ (some 11) rfl rfl Try.func29 (by kernel_rfl) rfl #[.slice A0 l0.length c0] rfl (by (try simp only [List.map_toArray, List.map_cons, List.map_nil]); first | done | rfl | (simp only [List.length_drop, List.length_take]; rfl)) ?_; (with_reducible refine (prog_Flat.calls k (fun k_ => k_ < w.heap.size) _ _ l0 t128 _ ?side1 A3.out).mono ?_); (case side1 => exact Kd.V_mk HC0.out (Kd.F_below (Kd.C_F k52_heap HR0.out) (by repeat (first | (with_reducible first | exact HB.out | apply below_alloc | apply pw_below_drewN | apply below_drew1) | exact HB.out)))); rintro e w4 ⟨v129, rfl, ho0, hb⟩; refine ⟨_, rfl, ?_⟩; have n0_ := Aside0.mk (Kd.N_lower (Kd.N_mono (ok' := fun k_ => True) ho0 (fun k_ hk_ => trivial)) (below_size (by repeat (first | (with_reducible first | exact HB.out | apply below_alloc | apply pw_below_drewN | apply below_drew1) | exact HB.out)))); have n1_ := Aside0.mk (below_step (by repeat (first | (with_reducible first | exact HB.out | apply below_alloc | apply pw_below_drewN | apply below_drew1) | exact HB.out)) hb); clear HB; have HO130 := n0_; have HB := n1_; clear n0_ n1_; (try clear hb); (try clear hb2); (try clear hk); (try clear hi); (try clear ho0); obtain ⟨Ao5, co5, eo5⟩ := Kd.N_slice HO130.out; subst eo5))
  go_loopg [5, 6, 7, 13] k (fun kq v5 v6 v7 v13 w' => ∃ (x5_1 : Int) (x6_1 : Int) (x7_1 : Bool) (x13_1 : Int), v5 = .int .i64 x5_1 ∧ v6 = .int .i64 x6_1 ∧ v7 = .bool x7_1 ∧ v13 = .int .i64 x13_1 ∧ Aside0 (prog_Section.l0 kq a1 x5_1 x6_1 x7_1 t128 (t128.length : Int) x13_1 = some r) ∧ Aside0 (kq ≤ k) ∧ Aside0 (Kd.N k52 52 w' w.heap.size (fun _ => True) (.slice Ao5 t128.length co5) t128) ∧ Aside0 (Below w.heap.size w w'))
  case atStart => exact ⟨(0), (0), (false), (0), (by first | rfl | (simp; done) | (simp [*]; done) | (simp [Int.tdiv_eq_ediv_of_nonneg]; done)), (by first | rfl | (simp; done) | (simp [*]; done) | (simp [Int.tdiv_eq_ediv_of_nonneg]; done)), (by first | rfl | (simp; done) | (simp [*]; done) | (simp [Int.tdiv_eq_ediv_of_nonneg]; done)), (by first | rfl | (simp; done) | (simp [*]; done) | (simp [Int.tdiv_eq_ediv_of_nonneg]; done)), H', ⟨Nat.le_refl _⟩, ⟨by (with_reducible repeat (first | apply Kd.N_alloc | apply Kd.N_drewN | apply Kd.N_drew)); exact HO130.out⟩, ⟨by repeat (first | (with_reducible first | exact HB.out | apply below_alloc | apply pw_below_drewN | apply below_drew1) | exact HB.out)⟩⟩
  case round =>
    clear H'
    try clear c2
    try clear p2
    obtain ⟨x5_1, x6_1, x7_1, x13_1, rfl, rfl, rfl, rfl, HA, HK1, HO_11, HB⟩ := hrel
    cases gk with
    | zero => exact absurd HA.out (by simp [prog_Section.l0])
    | succ k1 =>
      have H := HA.out
      clear HA
      simp only [prog_Section.l0] at H
      by_cases c6 : x13_1 < (t128.length : Int)
      · rw [if_pos c6] at H
        have c6b0 : decide (x13_1 < (t128.length : Int)) = true := decide_eq_true c6
        clear c6
        by_cases c7 : 0 ≤ x13_1
        · rw [if_pos c7] at H
          have c7b0 : decide (0 ≤ x13_1) = true := decide_eq_true c7
          clear c7
          by_cases c8 : x13_1 < (t128.length : Int)
          · rw [if_pos c8] at H
            have c8b0 : decide (x13_1 < (t128.length : Int)) = true := decide_eq_true c8
            clear c8
            by_cases c9 : ((rd_T52 t128 x13_1).f0) = 2
            · rw [if_pos c9] at H
              have c9b0 : (((rd_T52 t128 x13_1).f0) == 2) = true := beq_iff_eq.mpr c9
              have c9b1 : (((rd_T52 t128 x13_1).f0) != 2) = false := bne_eq_false_iff_eq.mpr c9
              clear c9
              by_cases c10 : ((rd_T52 t128 x13_1).f1) = a1
              · rw [if_pos c10] at H
                have c10b0 : (((rd_T52 t128 x13_1).f1) == a1) = true := beq_iff_eq.mpr c10
                have c10b1 : (((rd_T52 t128 x13_1).f1) != a1) = false := bne_eq_false_iff_eq.mpr c10
                clear c10
                have H' := Aside0.mk H
                clear H
                have p131 : 0 ≤ (x13_1 : Int) := of_decide_eq_true (by first | (with_reducible assumption) | assumption)
                have q131 : x13_1 < (t128.length : Int) := of_decide_eq_true (by first | (with_reducible assumption) | assumption)
                obtain ⟨ad131, A131_4, c131_4, e131, hx131_0, hx131_1, hx131_2, hx131_3, hx131_4, hl131_4, hi131_4⟩ := at_T52 (Kd.N_reads' HO_11.out).2.2 x13_1 p131 q131
                cases e131
                obtain ⟨ce131, hce131, hMe131, hcc131⟩ := Kd.N_get HO_11.out z52 x13_1 p131 (by first | exact q131 | exact of_decide_eq_true (by first | (with_reducible assumption) | assumption) | (have e_ := (Kd.N_reads' HO_11.out).1; omega))
                obtain ⟨ua131_4, uc131_4, rfl, ul131_4, ge131_4⟩ := k52_openF hMe131
                have hv131_4 := hcc131 4 _ rfl
                rw [add_field _ _ 4 (by omega)] at hv131_4
                replace hv131_4 := Option.some.inj (hv131_4.symm.trans hx131_4)
                injection hv131_4 with hva_ hvn_ hvc_
                rw [hva_] at ge131_4
                rw [hvc_] at ul131_4
                have HL131_4 := Aside0.mk (show Kd.V k84 84 _ w.heap.size _ _ ((rd_T52 t128 x13_1).f4) from Kd.V_mk ul131_4 ge131_4)
                clear hva_ hvn_ hvc_ ge131_4 ul131_4
                clear hcc131 hce131
                have HR131_4 := Aside0.mk hi131_4
                have HC131_4 := Aside0.mk hl131_4
                clear hi131_4 hl131_4
                replace p131 := eq_true p131
                replace q131 := eq_true q131
                go_wp2_with (first | ((with_reducible refine gate_dst (N := 9) rfl ?_); refine box_event ?hg (N := 9) ?hd (cs := #[.int .i64 0, .int .i64 0, .int .i64 0, .int .i64 0, .slice none 0 0]) (t := 52) ?hr ?_; (case hd => rfl); (case hg => rfl); (case hr => first | (go_simp; done) | (go_simp; rfl)); intro gb132 hg w11 hbox hb; have n0_ := Aside0.mk (Kd.N_below (Kd.N_elderB (by (with_reducible repeat (first | apply Kd.N_alloc | apply Kd.N_drewN | apply Kd.N_drew)); exact HO_11.out) gb132 (Nat.le_of_eq hg.symm)) hb); have n1_ := Aside0.mk (Kd.V_below (Kd.V_elderB (by (with_reducible repeat (first | apply Kd.V_alloc | apply Kd.V_drewN | apply Kd.V_drew)); exact HL131_4.out) gb132 (Nat.le_of_eq hg.symm)) hb); have n2_ := Aside0.mk (Kd.C_below (by repeat (first | (with_reducible exact HR131_4.out) | (with_reducible refine Kd.C_alloc ?_ _) | (with_reducible refine Kd.C_drewN ?_ _) | (with_reducible refine Kd.C_drew ?_) | exact HR131_4.out)) hb); have n3_ := Aside0.mk (below_step (by repeat (first | (with_reducible first | exact HB.out | apply below_alloc | apply pw_below_drewN | apply below_drew1) | exact HB.out)) hb); have n4_ := Aside0.mk (hbox); have n5_ := Aside0.mk ((by rw [hg]; exact (below_size (by repeat (first | (with_reducible first | exact HB.out | apply below_alloc | apply pw_below_drewN | apply below_drew1) | exact HB.out))) : w.heap.size ≤ gb132)); have n6_ := Aside0.mk ((by rw [hg]; exact (below_size (by repeat (first | (with_reducible first | exact HB.out | apply below_alloc | apply pw_below_drewN | apply below_drew1) | exact HB.out))) : w.heap.size ≤ gb132)); clear HO_11; clear HL131_4; clear HR131_4; clear HB; have HO_11 := n0_; have HL131_4 := n1_; have HR131_4 := n2_; have HB := n3_; have BK132 := n4_; have GW132 := n5_; have GE132 := n6_; clear n0_ n1_ n2_ n3_ n4_ n5_ n6_; clear hb hbox hg; have hcz12_0 : w11.cell? ⟨gb132, 0, none⟩ = some (.int .i64 0) := (blk_cell BK132.out 0).trans rfl; have hcz12_1 : w11.cell? ⟨gb132, 1, none⟩ = some (.int .i64 0) := (blk_cell BK132.out 1).trans rfl; have hcz12_2 : w11.cell? ⟨gb132, 2, none⟩ = some (.int .i64 0) := (blk_cell BK132.out 2).trans rfl; have hcz12_3 : w11.cell? ⟨gb132, 3, none⟩ = some (.int .i64 0) := (blk_cell BK132.out 3).trans rfl; have hcz12_4 : w11.cell? ⟨gb132, 4, none⟩ = some (.slice none 0 0) := (blk_cell BK132.out 4).trans rfl; have hfz12_0 := blk_frozen BK132.out 0; have hfz12_1 := blk_frozen BK132.out 1; have hfz12_2 := blk_frozen BK132.out 2; have hfz12_3 := blk_frozen BK132.out 3; have hfz12_4 := blk_frozen BK132.out 4))
                go_roundg k1
                case measure => have := HK1.out; omega
                case rel => exact ⟨(x5_1), (0), (true), (wrap64 (x13_1 + 1)), (by first | rfl | (simp; done) | (simp [*]; done) | (simp [Int.tdiv_eq_ediv_of_nonneg]; done)), (by first | rfl | (simp; done) | (simp [*]; done) | (simp [Int.tdiv_eq_ediv_of_nonneg]; done)), (by first | rfl | (simp; done) | (simp [*]; done) | (simp [Int.tdiv_eq_ediv_of_nonneg]; done)), (by first | rfl | (simp; done) | (simp [*]; done) | (simp [Int.tdiv_eq_ediv_of_nonneg]; done)), H', ⟨by have := HK1.out; omega⟩, ⟨by (with_reducible repeat (first | apply Kd.N_alloc | apply Kd.N_drewN | apply Kd.N_drew)); exact Kd.N_mono (Kd.N_far (p := ⟨gb132, 4, none⟩) (Kd.N_far (p := ⟨gb132, 3, none⟩) (Kd.N_far (p := ⟨gb132, 2, none⟩) (Kd.N_far (p := ⟨gb132, 1, none⟩) (Kd.N_far (p := ⟨gb132, 0, none⟩) (Kd.N_mono HO_11.out (fun k_ hk => (⟨hk, hk.2⟩ : _ ∧ k_ ≠ gb132))) (fun _ hk => hk.2) (.int .i64 ((rd_T52 t128 x13_1).f0))) (fun _ hk => hk.2) (.int .i64 ((rd_T52 t128 x13_1).f1))) (fun _ hk => hk.2) (.int .i64 ((rd_T52 t128 x13_1).f2))) (fun _ hk => hk.2) (.int .i64 ((rd_T52 t128 x13_1).f3))) (fun _ hk => hk.2) (.slice A131_4 ((rd_T52 t128 x13_1).f4).length c131_4)) (fun _ hk => trivial)⟩, ⟨by repeat (first | (with_reducible first | exact HB.out | apply below_alloc | apply pw_below_drewN | apply below_drew1 | refine below_set ?_ GE132.out) | exact HB.out)⟩⟩
              · rw [if_neg c10] at H
                have c10b0 : (((rd_T52 t128 x13_1).f1) == a1) = false := beq_eq_false_iff_ne.mpr c10
                have c10b1 : (((rd_T52 t128 x13_1).f1) != a1) = true := bne_iff_ne.mpr c10
                by_cases c13 : ((rd_T52 t128 x13_1).f0) = 3
                · rw [if_pos c13] at H
                  have c13b0 : (((rd_T52 t128 x13_1).f0) == 3) = true := beq_iff_eq.mpr c13
                  have c13b1 : (((rd_T52 t128 x13_1).f0) != 3) = false := bne_eq_false_iff_eq.mpr c13
                  clear c13
                  by_cases c14 : ((rd_T52 t128 x13_1).f0) = 1
                  · rw [if_pos c14] at H
                    have c14b0 : (((rd_T52 t128 x13_1).f0) == 1) = true := beq_iff_eq.mpr c14
                    have c14b1 : (((rd_T52 t128 x13_1).f0) != 1) = false := bne_eq_false_iff_eq.mpr c14
                    clear c14
                    by_cases c15 : x7_1 = true
                    · subst c15
                      have H1 : (prog_Section.l0 k1 a1 (mx x5_1 (wrap64 (x6_1 + ((rd_T52 t128 x13_1).f1)))) (wrap64 (x6_1 + ((rd_T52 t128 x13_1).f1))) true t128 (t128.length : Int) (wrap64 (x13_1 + 1))) = some r := by rw [if_pos rfl] at H; exact H
                      clear H
                      have H := H1
                      clear H1
                      obtain ⟨ji16, hji16⟩ : ∃ j_ : Int, (mx x5_1 (wrap64 (x6_1 + ((rd_T52 t128 x13_1).f1)))) = j_ := ⟨_, rfl⟩
                      replace H : (prog_Section.l0 k1 a1 ji16 (wrap64 (x6_1 + ((rd_T52 t128 x13_1).f1))) true t128 (t128.length : Int) (wrap64 (x13_1 + 1))) = some r := by first | (rw [hji16] at H; exact H) | (simp only [hji16] at H ⊢; exact H)
                      have hji16_ : (if x5_1 < (wrap64 (x6_1 + ((rd_T52 t128 x13_1).f1))) then (wrap64 (x6_1 + ((rd_T52 t128 x13_1).f1))) else x5_1) = ji16 := hji16
                      have H' := Aside0.mk H
                      clear H
                      have p131 : 0 ≤ (x13_1 : Int) := of_decide_eq_true (by first | (with_reducible assumption) | assumption)
                      have q131 : x13_1 < (t128.length : Int) := of_decide_eq_true (by first | (with_reducible assumption) | assumption)
                      obtain ⟨ad131, A131_4, c131_4, e131, hx131_0, hx131_1, hx131_2, hx131_3, hx131_4, hl131_4, hi131_4⟩ := at_T52 (Kd.N_reads' HO_11.out).2.2 x13_1 p131 q131
                      cases e131
                      obtain ⟨ce131, hce131, hMe131, hcc131⟩ := Kd.N_get HO_11.out z52 x13_1 p131 (by first | exact q131 | exact of_decide_eq_true (by first | (with_reducible assumption) | assumption) | (have e_ := (Kd.N_reads' HO_11.out).1; omega))
                      obtain ⟨ua131_4, uc131_4, rfl, ul131_4, ge131_4⟩ := k52_openF hMe131
                      have hv131_4 := hcc131 4 _ rfl
                      rw [add_field _ _ 4 (by omega)] at hv131_4
                      replace hv131_4 := Option.some.inj (hv131_4.symm.trans hx131_4)
                      injection hv131_4 with hva_ hvn_ hvc_
                      rw [hva_] at ge131_4
                      rw [hvc_] at ul131_4
                      have HL131_4 := Aside0.mk (show Kd.V k84 84 _ w.heap.size _ _ ((rd_T52 t128 x13_1).f4) from Kd.V_mk ul131_4 ge131_4)
                      clear hva_ hvn_ hvc_ ge131_4 ul131_4
                      clear hcc131 hce131
                      have HR131_4 := Aside0.mk hi131_4
                      have HC131_4 := Aside0.mk hl131_4
                      clear hi131_4 hl131_4
                      replace p131 := eq_true p131
                      replace q131 := eq_true q131
                      go_wp2_with (first | ((with_reducible refine gate_dst (N := 9) rfl ?_); refine box_event ?hg (N := 9) ?hd (cs := #[.int .i64 0, .int .i64 0, .int .i64 0, .int .i64 0, .slice none 0 0]) (t := 52) ?hr ?_; (case hd => rfl); (case hg => rfl); (case hr => first | (go_simp; done) | (go_simp; rfl)); intro gb132 hg w17 hbox hb; have n0_ := Aside0.mk (Kd.N_below (Kd.N_elderB (by (with_reducible repeat (first | apply Kd.N_alloc | apply Kd.N_drewN | apply Kd.N_drew)); exact HO_11.out) gb132 (Nat.le_of_eq hg.symm)) hb); have n1_ := Aside0.mk (Kd.V_below (Kd.V_elderB (by (with_reducible repeat (first | apply Kd.V_alloc | apply Kd.V_drewN | apply Kd.V_drew)); exact HL131_4.out) gb132 (Nat.le_of_eq hg.symm)) hb); have n2_ := Aside0.mk (Kd.C_below (by repeat (first | (with_reducible exact HR131_4.out) | (with_reducible refine Kd.C_alloc ?_ _) | (with_reducible refine Kd.C_drewN ?_ _) | (with_reducible refine Kd.C_drew ?_) | exact HR131_4.out)) hb); have n3_ := Aside0.mk (below_step (by repeat (first | (with_reducible first | exact HB.out | apply below_alloc | apply pw_below_drewN | apply below_drew1) | exact HB.out)) hb); have n4_ := Aside0.mk (hbox); have n5_ := Aside0.mk ((by rw [hg]; exact (below_size (by repeat (first | (with_reducible first | exact HB.out | apply below_alloc | apply pw_below_drewN | apply below_drew1) | exact HB.out))) : w.heap.size ≤ gb132)); have n6_ := Aside0.mk ((by rw [hg]; exact (below_size (by repeat (first | (with_reducible first | exact HB.out | apply below_alloc | apply pw_below_drewN | apply below_drew1) | exact HB.out))) : w.heap.size ≤ gb132)); clear HO_11; clear HL131_4; clear HR131_4; clear HB; have HO_11 := n0_; have HL131_4 := n1_; have HR131_4 := n2_; have HB := n3_; have BK132 := n4_; have GW132 := n5_; have GE132 := n6_; clear n0_ n1_ n2_ n3_ n4_ n5_ n6_; clear hb hbox hg; have hcz18_0 : w17.cell? ⟨gb132, 0, none⟩ = some (.int .i64 0) := (blk_cell BK132.out 0).trans rfl; have hcz18_1 : w17.cell? ⟨gb132, 1, none⟩ = some (.int .i64 0) := (blk_cell BK132.out 1).trans rfl; have hcz18_2 : w17.cell? ⟨gb132, 2, none⟩ = some (.int .i64 0) := (blk_cell BK132.out 2).trans rfl; have hcz18_3 : w17.cell? ⟨gb132, 3, none⟩ = some (.int .i64 0) := (blk_cell BK132.out 3).trans rfl; have hcz18_4 : w17.cell? ⟨gb132, 4, none⟩ = some (.slice none 0 0) := (blk_cell BK132.out 4).trans rfl; have hfz18_0 := blk_frozen BK132.out 0; have hfz18_1 := blk_frozen BK132.out 1; have hfz18_2 := blk_frozen BK132.out 2; have hfz18_3 := blk_frozen BK132.out 3; have hfz18_4 := blk_frozen BK132.out 4))
                      go_roundg k1
                      case measure => have := HK1.out; omega
                      case rel => exact ⟨(ji16), (wrap64 (x6_1 + ((rd_T52 t128 x13_1).f1))), (true), (wrap64 (x13_1 + 1)), (by first | rfl | (simp; done) | (simp only [← hji16] <;> (first | rfl | simp)) | (simp [*]; done) | (simp [Int.tdiv_eq_ediv_of_nonneg]; done)), (by first | rfl | (simp; done) | (simp [*]; done) | (simp [Int.tdiv_eq_ediv_of_nonneg]; done)), (by first | rfl | (simp; done) | (simp [*]; done) | (simp [Int.tdiv_eq_ediv_of_nonneg]; done)), (by first | rfl | (simp; done) | (simp [*]; done) | (simp [Int.tdiv_eq_ediv_of_nonneg]; done)), H', ⟨by have := HK1.out; omega⟩, ⟨by (with_reducible repeat (first | apply Kd.N_alloc | apply Kd.N_drewN | apply Kd.N_drew)); exact Kd.N_mono (Kd.N_far (p := ⟨gb132, 4, none⟩) (Kd.N_far (p := ⟨gb132, 3, none⟩) (Kd.N_far (p := ⟨gb132, 2, none⟩) (Kd.N_far (p := ⟨gb132, 1, none⟩) (Kd.N_far (p := ⟨gb132, 0, none⟩) (Kd.N_mono HO_11.out (fun k_ hk => (⟨hk, hk.2⟩ : _ ∧ k_ ≠ gb132))) (fun _ hk => hk.2) (.int .i64 ((rd_T52 t128 x13_1).f0))) (fun _ hk => hk.2) (.int .i64 ((rd_T52 t128 x13_1).f1))) (fun _ hk => hk.2) (.int .i64 ((rd_T52 t128 x13_1).f2))) (fun _ hk => hk.2) (.int .i64 ((rd_T52 t128 x13_1).f3))) (fun _ hk => hk.2) (.slice A131_4 ((rd_T52 t128 x13_1).f4).length c131_4)) (fun _ hk => trivial)⟩, ⟨by repeat (first | (with_reducible first | exact HB.out | apply below_alloc | apply pw_below_drewN | apply below_drew1 | refine below_set ?_ GE132.out) | exact HB.out)⟩⟩
                    · replace c15 := Bool.eq_false_iff.mpr c15
                      subst c15
                      have H1 : (prog_Section.l0 k1 a1 x5_1 x6_1 false t128 (t128.length : Int) (wrap64 (x13_1 + 1))) = some r := by rw [if_neg (show ¬ (false = true) by decide)] at H; exact H
                      clear H
                      have H := H1
                      clear H1
                      have H' := Aside0.mk H
                      clear H
                      have p131 : 0 ≤ (x13_1 : Int) := of_decide_eq_true (by first | (with_reducible assumption) | assumption)
                      have q131 : x13_1 < (t128.length : Int) := of_decide_eq_true (by first | (with_reducible assumption) | assumption)
                      obtain ⟨ad131, A131_4, c131_4, e131, hx131_0, hx131_1, hx131_2, hx131_3, hx131_4, hl131_4, hi131_4⟩ := at_T52 (Kd.N_reads' HO_11.out).2.2 x13_1 p131 q131
                      cases e131
                      obtain ⟨ce131, hce131, hMe131, hcc131⟩ := Kd.N_get HO_11.out z52 x13_1 p131 (by first | exact q131 | exact of_decide_eq_true (by first | (with_reducible assumption) | assumption) | (have e_ := (Kd.N_reads' HO_11.out).1; omega))
                      obtain ⟨ua131_4, uc131_4, rfl, ul131_4, ge131_4⟩ := k52_openF hMe131
                      have hv131_4 := hcc131 4 _ rfl
                      rw [add_field _ _ 4 (by omega)] at hv131_4
                      replace hv131_4 := Option.some.inj (hv131_4.symm.trans hx131_4)
                      injection hv131_4 with hva_ hvn_ hvc_
                      rw [hva_] at ge131_4
                      rw [hvc_] at ul131_4
                      have HL131_4 := Aside0.mk (show Kd.V k84 84 _ w.heap.size _ _ ((rd_T52 t128 x13_1).f4) from Kd.V_mk ul131_4 ge131_4)
                      clear hva_ hvn_ hvc_ ge131_4 ul131_4
                      clear hcc131 hce131
                      have HR131_4 := Aside0.mk hi131_4
                      have HC131_4 := Aside0.mk hl131_4
                      clear hi131_4 hl131_4
                      replace p131 := eq_true p131
                      replace q131 := eq_true q131
                      go_wp2_with (first | ((with_reducible refine gate_dst (N := 9) rfl ?_); refine box_event ?hg (N := 9) ?hd (cs := #[.int .i64 0, .int .i64 0, .int .i64 0, .int .i64 0, .slice none 0 0]) (t := 52) ?hr ?_; (case hd => rfl); (case hg => rfl); (case hr => first | (go_simp; done) | (go_simp; rfl)); intro gb132 hg w19 hbox hb; have n0_ := Aside0.mk (Kd.N_below (Kd.N_elderB (by (with_reducible repeat (first | apply Kd.N_alloc | apply Kd.N_drewN | apply Kd.N_drew)); exact HO_11.out) gb132 (Nat.le_of_eq hg.symm)) hb); have n1_ := Aside0.mk (Kd.V_below (Kd.V_elderB (by (with_reducible repeat (first | apply Kd.V_alloc | apply Kd.V_drewN | apply Kd.V_drew)); exact HL131_4.out) gb132 (Nat.le_of_eq hg.symm)) hb); have n2_ := Aside0.mk (Kd.C_below (by repeat (first | (with_reducible exact HR131_4.out) | (with_reducible refine Kd.C_alloc ?_ _) | (with_reducible refine Kd.C_drewN ?_ _) | (with_reducible refine Kd.C_drew ?_) | exact HR131_4.out)) hb); have n3_ := Aside0.mk (below_step (by repeat (first | (with_reducible first | exact HB.out | apply below_alloc | apply pw_below_drewN | apply below_drew1) | exact HB.out)) hb); have n4_ := Aside0.mk (hbox); have n5_ := Aside0.mk ((by rw [hg]; exact (below_size (by repeat (first | (with_reducible first | exact HB.out | apply below_alloc | apply pw_below_drewN | apply below_drew1) | exact HB.out))) : w.heap.size ≤ gb132)); have n6_ := Aside0.mk ((by rw [hg]; exact (below_size (by repeat (first | (with_reducible first | exact HB.out | apply below_alloc | apply pw_below_drewN | apply below_drew1) | exact HB.out))) : w.heap.size ≤ gb132)); clear HO_11; clear HL131_4; clear HR131_4; clear HB; have HO_11 := n0_; have HL131_4 := n1_; have HR131_4 := n2_; have HB := n3_; have BK132 := n4_; have GW132 := n5_; have GE132 := n6_; clear n0_ n1_ n2_ n3_ n4_ n5_ n6_; clear hb hbox hg; have hcz20_0 : w19.cell? ⟨gb132, 0, none⟩ = some (.int .i64 0) := (blk_cell BK132.out 0).trans rfl; have hcz20_1 : w19.cell? ⟨gb132, 1, none⟩ = some (.int .i64 0) := (blk_cell BK132.out 1).trans rfl; have hcz20_2 : w19.cell? ⟨gb132, 2, none⟩ = some (.int .i64 0) := (blk_cell BK132.out 2).trans rfl; have hcz20_3 : w19.cell? ⟨gb132, 3, none⟩ = some (.int .i64 0) := (blk_cell BK132.out 3).trans rfl; have hcz20_4 : w19.cell? ⟨gb132, 4, none⟩ = some (.slice none 0 0) := (blk_cell BK132.out 4).trans rfl; have hfz20_0 := blk_frozen BK132.out 0; have hfz20_1 := blk_frozen BK132.out 1; have hfz20_2 := blk_frozen BK132.out 2; have hfz20_3 := blk_frozen BK132.out 3; have hfz20_4 := blk_frozen BK132.out 4))
                      go_roundg k1
                      case measure => have := HK1.out; omega
                      case rel => exact ⟨(x5_1), (x6_1), (false), (wrap64 (x13_1 + 1)), (by first | rfl | (simp; done) | (simp [*]; done) | (simp [Int.tdiv_eq_ediv_of_nonneg]; done)), (by first | rfl | (simp; done) | (simp [*]; done) | (simp [Int.tdiv_eq_ediv_of_nonneg]; done)), (by first | rfl | (simp; done) | (simp [*]; done) | (simp [Int.tdiv_eq_ediv_of_nonneg]; done)), (by first | rfl | (simp; done) | (simp [*]; done) | (simp [Int.tdiv_eq_ediv_of_nonneg]; done)), H', ⟨by have := HK1.out; omega⟩, ⟨by (with_reducible repeat (first | apply Kd.N_alloc | apply Kd.N_drewN | apply Kd.N_drew)); exact Kd.N_mono (Kd.N_far (p := ⟨gb132, 4, none⟩) (Kd.N_far (p := ⟨gb132, 3, none⟩) (Kd.N_far (p := ⟨gb132, 2, none⟩) (Kd.N_far (p := ⟨gb132, 1, none⟩) (Kd.N_far (p := ⟨gb132, 0, none⟩) (Kd.N_mono HO_11.out (fun k_ hk => (⟨hk, hk.2⟩ : _ ∧ k_ ≠ gb132))) (fun _ hk => hk.2) (.int .i64 ((rd_T52 t128 x13_1).f0))) (fun _ hk => hk.2) (.int .i64 ((rd_T52 t128 x13_1).f1))) (fun _ hk => hk.2) (.int .i64 ((rd_T52 t128 x13_1).f2))) (fun _ hk => hk.2) (.int .i64 ((rd_T52 t128 x13_1).f3))) (fun _ hk => hk.2) (.slice A131_4 ((rd_T52 t128 x13_1).f4).length c131_4)) (fun _ hk => trivial)⟩, ⟨by repeat (first | (with_reducible first | exact HB.out | apply below_alloc | apply pw_below_drewN | apply below_drew1 | refine below_set ?_ GE132.out) | exact HB.out)⟩⟩
                  · rw [if_neg c14] at H
                    have c14b0 : (((rd_T52 t128 x13_1).f0) == 1) = false := beq_eq_false_iff_ne.mpr c14
                    have c14b1 : (((rd_T52 t128 x13_1).f0) != 1) = true := bne_iff_ne.mpr c14
                    have H' := Aside0.mk H
                    clear H
                    have p131 : 0 ≤ (x13_1 : Int) := of_decide_eq_true (by first | (with_reducible assumption) | assumption)
                    have q131 : x13_1 < (t128.length : Int) := of_decide_eq_true (by first | (with_reducible assumption) | assumption)
                    obtain ⟨ad131, A131_4, c131_4, e131, hx131_0, hx131_1, hx131_2, hx131_3, hx131_4, hl131_4, hi131_4⟩ := at_T52 (Kd.N_reads' HO_11.out).2.2 x13_1 p131 q131
                    cases e131
                    obtain ⟨ce131, hce131, hMe131, hcc131⟩ := Kd.N_get HO_11.out z52 x13_1 p131 (by first | exact q131 | exact of_decide_eq_true (by first | (with_reducible assumption) | assumption) | (have e_ := (Kd.N_reads' HO_11.out).1; omega))
                    obtain ⟨ua131_4, uc131_4, rfl, ul131_4, ge131_4⟩ := k52_openF hMe131
                    have hv131_4 := hcc131 4 _ rfl
                    rw [add_field _ _ 4 (by omega)] at hv131_4
                    replace hv131_4 := Option.some.inj (hv131_4.symm.trans hx131_4)
                    injection hv131_4 with hva_ hvn_ hvc_
                    rw [hva_] at ge131_4
                    rw [hvc_] at ul131_4
                    have HL131_4 := Aside0.mk (show Kd.V k84 84 _ w.heap.size _ _ ((rd_T52 t128 x13_1).f4) from Kd.V_mk ul131_4 ge131_4)
                    clear hva_ hvn_ hvc_ ge131_4 ul131_4
                    clear hcc131 hce131
                    have HR131_4 := Aside0.mk hi131_4
                    have HC131_4 := Aside0.mk hl131_4
                    clear hi131_4 hl131_4
                    replace p131 := eq_true p131
                    replace q131 := eq_true q131
                    go_wp2_with (first | ((with_reducible refine gate_dst (N := 9) rfl ?_); refine box_event ?hg (N := 9) ?hd (cs := #[.int .i64 0, .int .i64 0, .int .i64 0, .int .i64 0, .slice none 0 0]) (t := 52) ?hr ?_; (case hd => rfl); (case hg => rfl); (case hr => first | (go_simp; done) | (go_simp; rfl)); intro gb132 hg w21 hbox hb; have n0_ := Aside0.mk (Kd.N_below (Kd.N_elderB (by (with_reducible repeat (first | apply Kd.N_alloc | apply Kd.N_drewN | apply Kd.N_drew)); exact HO_11.out) gb132 (Nat.le_of_eq hg.symm)) hb); have n1_ := Aside0.mk (Kd.V_below (Kd.V_elderB (by (with_reducible repeat (first | apply Kd.V_alloc | apply Kd.V_drewN | apply Kd.V_drew)); exact HL131_4.out) gb132 (Nat.le_of_eq hg.symm)) hb); have n2_ := Aside0.mk (Kd.C_below (by repeat (first | (with_reducible exact HR131_4.out) | (with_reducible refine Kd.C_alloc ?_ _) | (with_reducible refine Kd.C_drewN ?_ _) | (with_reducible refine Kd.C_drew ?_) | exact HR131_4.out)) hb); have n3_ := Aside0.mk (below_step (by repeat (first | (with_reducible first | exact HB.out | apply below_alloc | apply pw_below_drewN | apply below_drew1) | exact HB.out)) hb); have n4_ := Aside0.mk (hbox); have n5_ := Aside0.mk ((by rw [hg]; exact (below_size (by repeat (first | (with_reducible first | exact HB.out | apply below_alloc | apply pw_below_drewN | apply below_drew1) | exact HB.out))) : w.heap.size ≤ gb132)); have n6_ := Aside0.mk ((by rw [hg]; exact (below_size (by repeat (first | (with_reducible first | exact HB.out | apply below_alloc | apply pw_below_drewN | apply below_drew1) | exact HB.out))) : w.heap.size ≤ gb132)); clear HO_11; clear HL131_4; clear HR131_4; clear HB; have HO_11 := n0_; have HL131_4 := n1_; have HR131_4 := n2_; have HB := n3_; have BK132 := n4_; have GW132 := n5_; have GE132 := n6_; clear n0_ n1_ n2_ n3_ n4_ n5_ n6_; clear hb hbox hg; have hcz22_0 : w21.cell? ⟨gb132, 0, none⟩ = some (.int .i64 0) := (blk_cell BK132.out 0).trans rfl; have hcz22_1 : w21.cell? ⟨gb132, 1, none⟩ = some (.int .i64 0) := (blk_cell BK132.out 1).trans rfl; have hcz22_2 : w21.cell? ⟨gb132, 2, none⟩ = some (.int .i64 0) := (blk_cell BK132.out 2).trans rfl; have hcz22_3 : w21.cell? ⟨gb132, 3, none⟩ = some (.int .i64 0) := (blk_cell BK132.out 3).trans rfl; have hcz22_4 : w21.cell? ⟨gb132, 4, none⟩ = some (.slice none 0 0) := (blk_cell BK132.out 4).trans rfl; have hfz22_0 := blk_frozen BK132.out 0; have hfz22_1 := blk_frozen BK132.out 1; have hfz22_2 := blk_frozen BK132.out 2; have hfz22_3 := blk_frozen BK132.out 3; have hfz22_4 := blk_frozen BK132.out 4))
                    go_roundg k1
                    case measure => have := HK1.out; omega
                    case rel => exact ⟨(x5_1), (x6_1), (x7_1), (wrap64 (x13_1 + 1)), (by first | rfl | (simp; done) | (simp [*]; done) | (simp [Int.tdiv_eq_ediv_of_nonneg]; done)), (by first | rfl | (simp; done) | (simp [*]; done) | (simp [Int.tdiv_eq_ediv_of_nonneg]; done)), (by first | rfl | (simp; done) | (simp [*]; done) | (simp [Int.tdiv_eq_ediv_of_nonneg]; done)), (by first | rfl | (simp; done) | (simp [*]; done) | (simp [Int.tdiv_eq_ediv_of_nonneg]; done)), H', ⟨by have := HK1.out; omega⟩, ⟨by (with_reducible repeat (first | apply Kd.N_alloc | apply Kd.N_drewN | apply Kd.N_drew)); exact Kd.N_mono (Kd.N_far (p := ⟨gb132, 4, none⟩) (Kd.N_far (p := ⟨gb132, 3, none⟩) (Kd.N_far (p := ⟨gb132, 2, none⟩) (Kd.N_far (p := ⟨gb132, 1, none⟩) (Kd.N_far (p := ⟨gb132, 0, none⟩) (Kd.N_mono HO_11.out (fun k_ hk => (⟨hk, hk.2⟩ : _ ∧ k_ ≠ gb132))) (fun _ hk => hk.2) (.int .i64 ((rd_T52 t128 x13_1).f0))) (fun _ hk => hk.2) (.int .i64 ((rd_T52 t128 x13_1).f1))) (fun _ hk => hk.2) (.int .i64 ((rd_T52 t128 x13_1).f2))) (fun _ hk => hk.2) (.int .i64 ((rd_T52 t128 x13_1).f3))) (fun _ hk => hk.2) (.slice A131_4 ((rd_T52 t128 x13_1).f4).length c131_4)) (fun _ hk => trivial)⟩, ⟨by repeat (first | (with_reducible first | exact HB.out | apply below_alloc | apply pw_below_drewN | apply below_drew1 | refine below_set ?_ GE132.out) | exact HB.out)⟩⟩
                · rw [if_neg c13] at H
                  have c13b0 : (((rd_T52 t128 x13_1).f0) == 3) = false := beq_eq_false_iff_ne.mpr c13
                  have c13b1 : (((rd_T52 t128 x13_1).f0) != 3) = true := bne_iff_ne.mpr c13
                  by_cases c23 : ((rd_T52 t128 x13_1).f0) = 1
                  · rw [if_pos c23] at H
                    have c23b0 : (((rd_T52 t128 x13_1).f0) == 1) = true := beq_iff_eq.mpr c23
                    have c23b1 : (((rd_T52 t128 x13_1).f0) != 1) = false := bne_eq_false_iff_eq.mpr c23
                    clear c23
                    by_cases c24 : x7_1 = true
                    · subst c24
                      have H1 : (prog_Section.l0 k1 a1 (mx x5_1 (wrap64 (x6_1 + ((rd_T52 t128 x13_1).f1)))) (wrap64 (x6_1 + ((rd_T52 t128 x13_1).f1))) true t128 (t128.length : Int) (wrap64 (x13_1 + 1))) = some r := by rw [if_pos rfl] at H; exact H
                      clear H
                      have H := H1
                      clear H1
                      obtain ⟨ji25, hji25⟩ : ∃ j_ : Int, (mx x5_1 (wrap64 (x6_1 + ((rd_T52 t128 x13_1).f1)))) = j_ := ⟨_, rfl⟩
                      replace H : (prog_Section.l0 k1 a1 ji25 (wrap64 (x6_1 + ((rd_T52 t128 x13_1).f1))) true t128 (t128.length : Int) (wrap64 (x13_1 + 1))) = some r := by first | (rw [hji25] at H; exact H) | (simp only [hji25] at H ⊢; exact H)
                      have hji25_ : (if x5_1 < (wrap64 (x6_1 + ((rd_T52 t128 x13_1).f1))) then (wrap64 (x6_1 + ((rd_T52 t128 x13_1).f1))) else x5_1) = ji25 := hji25
                      have H' := Aside0.mk H
                      clear H
                      have p131 : 0 ≤ (x13_1 : Int) := of_decide_eq_true (by first | (with_reducible assumption) | assumption)
                      have q131 : x13_1 < (t128.length : Int) := of_decide_eq_true (by first | (with_reducible assumption) | assumption)
                      obtain ⟨ad131, A131_4, c131_4, e131, hx131_0, hx131_1, hx131_2, hx131_3, hx131_4, hl131_4, hi131_4⟩ := at_T52 (Kd.N_reads' HO_11.out).2.2 x13_1 p131 q131
                      cases e131
                      obtain ⟨ce131, hce131, hMe131, hcc131⟩ := Kd.N_get HO_11.out z52 x13_1 p131 (by first | exact q131 | exact of_decide_eq_true (by first | (with_reducible assumption) | assumption) | (have e_ := (Kd.N_reads' HO_11.out).1; omega))
                      obtain ⟨ua131_4, uc131_4, rfl, ul131_4, ge131_4⟩ := k52_openF hMe131
                      have hv131_4 := hcc131 4 _ rfl
                      rw [add_field _ _ 4 (by omega)] at hv131_4
                      replace hv131_4 := Option.some.inj (hv131_4.symm.trans hx131_4)
                      injection hv131_4 with hva_ hvn_ hvc_
                      rw [hva_] at ge131_4
                      rw [hvc_] at ul131_4
                      have HL131_4 := Aside0.mk (show Kd.V k84 84 _ w.heap.size _ _ ((rd_T52 t128 x13_1).f4) from Kd.V_mk ul131_4 ge131_4)
                      clear hva_ hvn_ hvc_ ge131_4 ul131_4
                      clear hcc131 hce131
                      have HR131_4 := Aside0.mk hi131_4
                      have HC131_4 := Aside0.mk hl131_4
                      clear hi131_4 hl131_4
                      replace p131 := eq_true p131
                      replace q131 := eq_true q131
                      go_wp2_with (first | ((with_reducible refine gate_dst (N := 9) rfl ?_); refine box_event ?hg (N := 9) ?hd (cs := #[.int .i64 0, .int .i64 0, .int .i64 0, .int .i64 0, .slice none 0 0]) (t := 52) ?hr ?_; (case hd => rfl); (case hg => rfl); (case hr => first | (go_simp; done) | (go_simp; rfl)); intro gb132 hg w26 hbox hb; have n0_ := Aside0.mk (Kd.N_below (Kd.N_elderB (by (with_reducible repeat (first | apply Kd.N_alloc | apply Kd.N_drewN | apply Kd.N_drew)); exact HO_11.out) gb132 (Nat.le_of_eq hg.symm)) hb); have n1_ := Aside0.mk (Kd.V_below (Kd.V_elderB (by (with_reducible repeat (first | apply Kd.V_alloc | apply Kd.V_drewN | apply Kd.V_drew)); exact HL131_4.out) gb132 (Nat.le_of_eq hg.symm)) hb); have n2_ := Aside0.mk (Kd.C_below (by repeat (first | (with_reducible exact HR131_4.out) | (with_reducible refine Kd.C_alloc ?_ _) | (with_reducible refine Kd.C_drewN ?_ _) | (with_reducible refine Kd.C_drew ?_) | exact HR131_4.out)) hb); have n3_ := Aside0.mk (below_step (by repeat (first | (with_reducible first | exact HB.out | apply below_alloc | apply pw_below_drewN | apply below_drew1) | exact HB.out)) hb); have n4_ := Aside0.mk (hbox); have n5_ := Aside0.mk ((by rw [hg]; exact (below_size (by repeat (first | (with_reducible first | exact HB.out | apply below_alloc | apply pw_below_drewN | apply below_drew1) | exact HB.out))) : w.heap.size ≤ gb132)); have n6_ := Aside0.mk ((by rw [hg]; exact (below_size (by repeat (first | (with_reducible first | exact HB.out | apply below_alloc | apply pw_below_drewN | apply below_drew1) | exact HB.out))) : w.heap.size ≤ gb132)); clear HO_11; clear HL131_4; clear HR131_4; clear HB; have HO_11 := n0_; have HL131_4 := n1_; have HR131_4 := n2_; have HB := n3_; have BK132 := n4_; have GW132 := n5_; have GE132 := n6_; clear n0_ n1_ n2_ n3_ n4_ n5_ n6_; clear hb hbox hg; have hcz27_0 : w26.cell? ⟨gb132, 0, none⟩ = some (.int .i64 0) := (blk_cell BK132.out 0).trans rfl; have hcz27_1 : w26.cell? ⟨gb132, 1, none⟩ = some (.int .i64 0) := (blk_cell BK132.out 1).trans rfl; have hcz27_2 : w26.cell? ⟨gb132, 2, none⟩ = some (.int .i64 0) := (blk_cell BK132.out 2).trans rfl; have hcz27_3 : w26.cell? ⟨gb132, 3, none⟩ = some (.int .i64 0) := (blk_cell BK132.out 3).trans rfl; have hcz27_4 : w26.cell? ⟨gb132, 4, none⟩ = some (.slice none 0 0) := (blk_cell BK132.out 4).trans rfl; have hfz27_0 := blk_frozen BK132.out 0; have hfz27_1 := blk_frozen BK132.out 1; have hfz27_2 := blk_frozen BK132.out 2; have hfz27_3 := blk_frozen BK132.out 3; have hfz27_4 := blk_frozen BK132.out 4))
                      go_roundg k1
                      case measure => have := HK1.out; omega
                      case rel => exact ⟨(ji25), (wrap64 (x6_1 + ((rd_T52 t128 x13_1).f1))), (true), (wrap64 (x13_1 + 1)), (by first | rfl | (simp; done) | (simp only [← hji25] <;> (first | rfl | simp)) | (simp [*]; done) | (simp [Int.tdiv_eq_ediv_of_nonneg]; done)), (by first | rfl | (simp; done) | (simp [*]; done) | (simp [Int.tdiv_eq_ediv_of_nonneg]; done)), (by first | rfl | (simp; done) | (simp [*]; done) | (simp [Int.tdiv_eq_ediv_of_nonneg]; done)), (by first | rfl | (simp; done) | (simp [*]; done) | (simp [Int.tdiv_eq_ediv_of_nonneg]; done)), H', ⟨by have := HK1.out; omega⟩, ⟨by (with_reducible repeat (first | apply Kd.N_alloc | apply Kd.N_drewN | apply Kd.N_drew)); exact Kd.N_mono (Kd.N_far (p := ⟨gb132, 4, none⟩) (Kd.N_far (p := ⟨gb132, 3, none⟩) (Kd.N_far (p := ⟨gb132, 2, none⟩) (Kd.N_far (p := ⟨gb132, 1, none⟩) (Kd.N_far (p := ⟨gb132, 0, none⟩) (Kd.N_mono HO_11.out (fun k_ hk => (⟨hk, hk.2⟩ : _ ∧ k_ ≠ gb132))) (fun _ hk => hk.2) (.int .i64 ((rd_T52 t128 x13_1).f0))) (fun _ hk => hk.2) (.int .i64 ((rd_T52 t128 x13_1).f1))) (fun _ hk => hk.2) (.int .i64 ((rd_T52 t128 x13_1).f2))) (fun _ hk => hk.2) (.int .i64 ((rd_T52 t128 x13_1).f3))) (fun _ hk => hk.2) (.slice A131_4 ((rd_T52 t128 x13_1).f4).length c131_4)) (fun _ hk => trivial)⟩, ⟨by repeat (first | (with_reducible first | exact HB.out | apply below_alloc | apply pw_below_drewN | apply below_drew1 | refine below_set ?_ GE132.out) | exact HB.out)⟩⟩
                    · replace c24 := Bool.eq_false_iff.mpr c24
                      subst c24
                      have H1 : (prog_Section.l0 k1 a1 x5_1 x6_1 false t128 (t128.length : Int) (wrap64 (x13_1 + 1))) = some r := by rw [if_neg (show ¬ (false = true) by decide)] at H; exact H
                      clear H
                      have H := H1
                      clear H1
                      have H' := Aside0.mk H
                      clear H
                      have p131 : 0 ≤ (x13_1 : Int) := of_decide_eq_true (by first | (with_reducible assumption) | assumption)
                      have q131 : x13_1 < (t128.length : Int) := of_decide_eq_true (by first | (with_reducible assumption) | assumption)
                      obtain ⟨ad131, A131_4, c131_4, e131, hx131_0, hx131_1, hx131_2, hx131_3, hx131_4, hl131_4, hi131_4⟩ := at_T52 (Kd.N_reads' HO_11.out).2.2 x13_1 p131 q131
                      cases e131
                      obtain ⟨ce131, hce131, hMe131, hcc131⟩ := Kd.N_get HO_11.out z52 x13_1 p131 (by first | exact q131 | exact of_decide_eq_true (by first | (with_reducible assumption) | assumption) | (have e_ := (Kd.N_reads' HO_11.out).1; omega))
                      obtain ⟨ua131_4, uc131_4, rfl, ul131_4, ge131_4⟩ := k52_openF hMe131
                      have hv131_4 := hcc131 4 _ rfl
                      rw [add_field _ _ 4 (by omega)] at hv131_4
                      replace hv131_4 := Option.some.inj (hv131_4.symm.trans hx131_4)
                      injection hv131_4 with hva_ hvn_ hvc_
                      rw [hva_] at ge131_4
                      rw [hvc_] at ul131_4
                      have HL131_4 := Aside0.mk (show Kd.V k84 84 _ w.heap.size _ _ ((rd_T52 t128 x13_1).f4) from Kd.V_mk ul131_4 ge131_4)
                      clear hva_ hvn_ hvc_ ge131_4 ul131_4
                      clear hcc131 hce131
                      have HR131_4 := Aside0.mk hi131_4
                      have HC131_4 := Aside0.mk hl131_4
                      clear hi131_4 hl131_4
                      replace p131 := eq_true p131
                      replace q131 := eq_true q131
                      go_wp2_with (first | ((with_reducible refine gate_dst (N := 9) rfl ?_); refine box_event ?hg (N := 9) ?hd (cs := #[.int .i64 0, .int .i64 0, .int .i64 0, .int .i64 0, .slice none 0 0]) (t := 52) ?hr ?_; (case hd => rfl); (case hg => rfl); (case hr => first | (go_simp; done) | (go_simp; rfl)); intro gb132 hg w28 hbox hb; have n0_ := Aside0.mk (Kd.N_below (Kd.N_elderB (by (with_reducible repeat (first | apply Kd.N_alloc | apply Kd.N_drewN | apply Kd.N_drew)); exact HO_11.out) gb132 (Nat.le_of_eq hg.symm)) hb); have n1_ := Aside0.mk (Kd.V_below (Kd.V_elderB (by (with_reducible repeat (first | apply Kd.V_alloc | apply Kd.V_drewN | apply Kd.V_drew)); exact HL131_4.out) gb132 (Nat.le_of_eq hg.symm)) hb); have n2_ := Aside0.mk (Kd.C_below (by repeat (first | (with_reducible exact HR131_4.out) | (with_reducible refine Kd.C_alloc ?_ _) | (with_reducible refine Kd.C_drewN ?_ _) | (with_reducible refine Kd.C_drew ?_) | exact HR131_4.out)) hb); have n3_ := Aside0.mk (below_step (by repeat (first | (with_reducible first | exact HB.out | apply below_alloc | apply pw_below_drewN | apply below_drew1) | exact HB.out)) hb); have n4_ := Aside0.mk (hbox); have n5_ := Aside0.mk ((by rw [hg]; exact (below_size (by repeat (first | (with_reducible first | exact HB.out | apply below_alloc | apply pw_below_drewN | apply below_drew1) | exact HB.out))) : w.heap.size ≤ gb132)); have n6_ := Aside0.mk ((by rw [hg]; exact (below_size (by repeat (first | (with_reducible first | exact HB.out | apply below_alloc | apply pw_below_drewN | apply below_drew1) | exact HB.out))) : w.heap.size ≤ gb132)); clear HO_11; clear HL131_4; clear HR131_4; clear HB; have HO_11 := n0_; have HL131_4 := n1_; have HR131_4 := n2_; have HB := n3_; have BK132 := n4_; have GW132 := n5_; have GE132 := n6_; clear n0_ n1_ n2_ n3_ n4_ n5_ n6_; clear hb hbox hg; have hcz29_0 : w28.cell? ⟨gb132, 0, none⟩ = some (.int .i64 0) := (blk_cell BK132.out 0).trans rfl; have hcz29_1 : w28.cell? ⟨gb132, 1, none⟩ = some (.int .i64 0) := (blk_cell BK132.out 1).trans rfl; have hcz29_2 : w28.cell? ⟨gb132, 2, none⟩ = some (.int .i64 0) := (blk_cell BK132.out 2).trans rfl; have hcz29_3 : w28.cell? ⟨gb132, 3, none⟩ = some (.int .i64 0) := (blk_cell BK132.out 3).trans rfl; have hcz29_4 : w28.cell? ⟨gb132, 4, none⟩ = some (.slice none 0 0) := (blk_cell BK132.out 4).trans rfl; have hfz29_0 := blk_frozen BK132.out 0; have hfz29_1 := blk_frozen BK132.out 1; have hfz29_2 := blk_frozen BK132.out 2; have hfz29_3 := blk_frozen BK132.out 3; have hfz29_4 := blk_frozen BK132.out 4))
                      go_roundg k1
                      case measure => have := HK1.out; omega
                      case rel => exact ⟨(x5_1), (x6_1), (false), (wrap64 (x13_1 + 1)), (by first | rfl | (simp; done) | (simp [*]; done) | (simp [Int.tdiv_eq_ediv_of_nonneg]; done)), (by first | rfl | (simp; done) | (simp [*]; done) | (simp [Int.tdiv_eq_ediv_of_nonneg]; done)), (by first | rfl | (simp; done) | (simp [*]; done) | (simp [Int.tdiv_eq_ediv_of_nonneg]; done)), (by first | rfl | (simp; done) | (simp [*]; done) | (simp [Int.tdiv_eq_ediv_of_nonneg]; done)), H', ⟨by have := HK1.out; omega⟩, ⟨by (with_reducible repeat (first | apply Kd.N_alloc | apply Kd.N_drewN | apply Kd.N_drew)); exact Kd.N_mono (Kd.N_far (p := ⟨gb132, 4, none⟩) (Kd.N_far (p := ⟨gb132, 3, none⟩) (Kd.N_far (p := ⟨gb132, 2, none⟩) (Kd.N_far (p := ⟨gb132, 1, none⟩) (Kd.N_far (p := ⟨gb132, 0, none⟩) (Kd.N_mono HO_11.out (fun k_ hk => (⟨hk, hk.2⟩ : _ ∧ k_ ≠ gb132))) (fun _ hk => hk.2) (.int .i64 ((rd_T52 t128 x13_1).f0))) (fun _ hk => hk.2) (.int .i64 ((rd_T52 t128 x13_1).f1))) (fun _ hk => hk.2) (.int .i64 ((rd_T52 t128 x13_1).f2))) (fun _ hk => hk.2) (.int .i64 ((rd_T52 t128 x13_1).f3))) (fun _ hk => hk.2) (.slice A131_4 ((rd_T52 t128 x13_1).f4).length c131_4)) (fun _ hk => trivial)⟩, ⟨by repeat (first | (with_reducible first | exact HB.out | apply below_alloc | apply pw_below_drewN | apply below_drew1 | refine below_set ?_ GE132.out) | exact HB.out)⟩⟩
                  · rw [if_neg c23] at H
                    have c23b0 : (((rd_T52 t128 x13_1).f0) == 1) = false := beq_eq_false_iff_ne.mpr c23
                    have c23b1 : (((rd_T52 t128 x13_1).f0) != 1) = true := bne_iff_ne.mpr c23
                    have H' := Aside0.mk H
                    clear H
                    have p131 : 0 ≤ (x13_1 : Int) := of_decide_eq_true (by first | (with_reducible assumption) | assumption)
                    have q131 : x13_1 < (t128.length : Int) := of_decide_eq_true (by first | (with_reducible assumption) | assumption)
                    obtain ⟨ad131, A131_4, c131_4, e131, hx131_0, hx131_1, hx131_2, hx131_3, hx131_4, hl131_4, hi131_4⟩ := at_T52 (Kd.N_reads' HO_11.out).2.2 x13_1 p131 q131
                    cases e131
                    obtain ⟨ce131, hce131, hMe131, hcc131⟩ := Kd.N_get HO_11.out z52 x13_1 p131 (by first | exact q131 | exact of_decide_eq_true (by first | (with_reducible assumption) | assumption) | (have e_ := (Kd.N_reads' HO_11.out).1; omega))
                    obtain ⟨ua131_4, uc131_4, rfl, ul131_4, ge131_4⟩ := k52_openF hMe131
                    have hv131_4 := hcc131 4 _ rfl
                    rw [add_field _ _ 4 (by omega)] at hv131_4
                    replace hv131_4 := Option.some.inj (hv131_4.symm.trans hx131_4)
                    injection hv131_4 with hva_ hvn_ hvc_
                    rw [hva_] at ge131_4
                    rw [hvc_] at ul131_4
                    have HL131_4 := Aside0.mk (show Kd.V k84 84 _ w.heap.size _ _ ((rd_T52 t128 x13_1).f4) from Kd.V_mk ul131_4 ge131_4)
                    clear hva_ hvn_ hvc_ ge131_4 ul131_4
                    clear hcc131 hce131
                    have HR131_4 := Aside0.mk hi131_4
                    have HC131_4 := Aside0.mk hl131_4
                    clear hi131_4 hl131_4
                    replace p131 := eq_true p131
                    replace q131 := eq_true q131
                    go_wp2_with (first | ((with_reducible refine gate_dst (N := 9) rfl ?_); refine box_event ?hg (N := 9) ?hd (cs := #[.int .i64 0, .int .i64 0, .int .i64 0, .int .i64 0, .slice none 0 0]) (t := 52) ?hr ?_; (case hd => rfl); (case hg => rfl); (case hr => first | (go_simp; done) | (go_simp; rfl)); intro gb132 hg w30 hbox hb; have n0_ := Aside0.mk (Kd.N_below (Kd.N_elderB (by (with_reducible repeat (first | apply Kd.N_alloc | apply Kd.N_drewN | apply Kd.N_drew)); exact HO_11.out) gb132 (Nat.le_of_eq hg.symm)) hb); have n1_ := Aside0.mk (Kd.V_below (Kd.V_elderB (by (with_reducible repeat (first | apply Kd.V_alloc | apply Kd.V_drewN | apply Kd.V_drew)); exact HL131_4.out) gb132 (Nat.le_of_eq hg.symm)) hb); have n2_ := Aside0.mk (Kd.C_below (by repeat (first | (with_reducible exact HR131_4.out) | (with_reducible refine Kd.C_alloc ?_ _) | (with_reducible refine Kd.C_drewN ?_ _) | (with_reducible refine Kd.C_drew ?_) | exact HR131_4.out)) hb); have n3_ := Aside0.mk (below_step (by repeat (first | (with_reducible first | exact HB.out | apply below_alloc | apply pw_below_drewN | apply below_drew1) | exact HB.out)) hb); have n4_ := Aside0.mk (hbox); have n5_ := Aside0.mk ((by rw [hg]; exact (below_size (by repeat (first | (with_reducible first | exact HB.out | apply below_alloc | apply pw_below_drewN | apply below_drew1) | exact HB.out))) : w.heap.size ≤ gb132)); have n6_ := Aside0.mk ((by rw [hg]; exact (below_size (by repeat (first | (with_reducible first | exact HB.out | apply below_alloc | apply pw_below_drewN | apply below_drew1) | exact HB.out))) : w.heap.size ≤ gb132)); clear HO_11; clear HL131_4; clear HR131_4; clear HB; have HO_11 := n0_; have HL131_4 := n1_; have HR131_4 := n2_; have HB := n3_; have BK132 := n4_; have GW132 := n5_; have GE132 := n6_; clear n0_ n1_ n2_ n3_ n4_ n5_ n6_; clear hb hbox hg; have hcz31_0 : w30.cell? ⟨gb132, 0, none⟩ = some (.int .i64 0) := (blk_cell BK132.out 0).trans rfl; have hcz31_1 : w30.cell? ⟨gb132, 1, none⟩ = some (.int .i64 0) := (blk_cell BK132.out 1).trans rfl; have hcz31_2 : w30.cell? ⟨gb132, 2, none⟩ = some (.int .i64 0) := (blk_cell BK132.out 2).trans rfl; have hcz31_3 : w30.cell? ⟨gb132, 3, none⟩ = some (.int .i64 0) := (blk_cell BK132.out 3).trans rfl; have hcz31_4 : w30.cell? ⟨gb132, 4, none⟩ = some (.slice none 0 0) := (blk_cell BK132.out 4).trans rfl; have hfz31_0 := blk_frozen BK132.out 0; have hfz31_1 := blk_frozen BK132.out 1; have hfz31_2 := blk_frozen BK132.out 2; have hfz31_3 := blk_frozen BK132.out 3; have hfz31_4 := blk_frozen BK132.out 4))
                    go_roundg k1
                    case measure => have := HK1.out; omega
                    case rel => exact ⟨(x5_1), (x6_1), (x7_1), (wrap64 (x13_1 + 1)), (by first | rfl | (simp; done) | (simp [*]; done) | (simp [Int.tdiv_eq_ediv_of_nonneg]; done)), (by first | rfl | (simp; done) | (simp [*]; done) | (simp [Int.tdiv_eq_ediv_of_nonneg]; done)), (by first | rfl | (simp; done) | (simp [*]; done) | (simp [Int.tdiv_eq_ediv_of_nonneg]; done)), (by first | rfl | (simp; done) | (simp [*]; done) | (simp [Int.tdiv_eq_ediv_of_nonneg]; done)), H', ⟨by have := HK1.out; omega⟩, ⟨by (with_reducible repeat (first | apply Kd.N_alloc | apply Kd.N_drewN | apply Kd.N_drew)); exact Kd.N_mono (Kd.N_far (p := ⟨gb132, 4, none⟩) (Kd.N_far (p := ⟨gb132, 3, none⟩) (Kd.N_far (p := ⟨gb132, 2, none⟩) (Kd.N_far (p := ⟨gb132, 1, none⟩) (Kd.N_far (p := ⟨gb132, 0, none⟩) (Kd.N_mono HO_11.out (fun k_ hk => (⟨hk, hk.2⟩ : _ ∧ k_ ≠ gb132))) (fun _ hk => hk.2) (.int .i64 ((rd_T52 t128 x13_1).f0))) (fun _ hk => hk.2) (.int .i64 ((rd_T52 t128 x13_1).f1))) (fun _ hk => hk.2) (.int .i64 ((rd_T52 t128 x13_1).f2))) (fun _ hk => hk.2) (.int .i64 ((rd_T52 t128 x13_1).f3))) (fun _ hk => hk.2) (.slice A131_4 ((rd_T52 t128 x13_1).f4).length c131_4)) (fun _ hk => trivial)⟩, ⟨by repeat (first | (with_reducible first | exact HB.out | apply below_alloc | apply pw_below_drewN | apply below_drew1 | refine below_set ?_ GE132.out) | exact HB.out)⟩⟩
            · rw [if_neg c9] at H
              have c9b0 : (((rd_T52 t128 x13_1).f0) == 2) = false := beq_eq_false_iff_ne.mpr c9
              have c9b1 : (((rd_T52 t128 x13_1).f0) != 2) = true := bne_iff_ne.mpr c9
              by_cases c32 : ((rd_T52 t128 x13_1).f0) = 3
              · rw [if_pos c32] at H
                have c32b0 : (((rd_T52 t128 x13_1).f0) == 3) = true := beq_iff_eq.mpr c32
                have c32b1 : (((rd_T52 t128 x13_1).f0) != 3) = false := bne_eq_false_iff_eq.mpr c32
                clear c32
                by_cases c33 : ((rd_T52 t128 x13_1).f1) = a1
                · rw [if_pos c33] at H
                  have c33b0 : (((rd_T52 t128 x13_1).f1) == a1) = true := beq_iff_eq.mpr c33
                  have c33b1 : (((rd_T52 t128 x13_1).f1) != a1) = false := bne_eq_false_iff_eq.mpr c33
                  clear c33
                  have H' := Aside0.mk H
                  clear H
                  have p131 : 0 ≤ (x13_1 : Int) := of_decide_eq_true (by first | (with_reducible assumption) | assumption)
                  have q131 : x13_1 < (t128.length : Int) := of_decide_eq_true (by first | (with_reducible assumption) | assumption)
                  obtain ⟨ad131, A131_4, c131_4, e131, hx131_0, hx131_1, hx131_2, hx131_3, hx131_4, hl131_4, hi131_4⟩ := at_T52 (Kd.N_reads' HO_11.out).2.2 x13_1 p131 q131
                  cases e131
                  obtain ⟨ce131, hce131, hMe131, hcc131⟩ := Kd.N_get HO_11.out z52 x13_1 p131 (by first | exact q131 | exact of_decide_eq_true (by first | (with_reducible assumption) | assumption) | (have e_ := (Kd.N_reads' HO_11.out).1; omega))
                  obtain ⟨ua131_4, uc131_4, rfl, ul131_4, ge131_4⟩ := k52_openF hMe131
                  have hv131_4 := hcc131 4 _ rfl
                  rw [add_field _ _ 4 (by omega)] at hv131_4
                  replace hv131_4 := Option.some.inj (hv131_4.symm.trans hx131_4)
                  injection hv131_4 with hva_ hvn_ hvc_
                  rw [hva_] at ge131_4
                  rw [hvc_] at ul131_4
                  have HL131_4 := Aside0.mk (show Kd.V k84 84 _ w.heap.size _ _ ((rd_T52 t128 x13_1).f4) from Kd.V_mk ul131_4 ge131_4)
                  clear hva_ hvn_ hvc_ ge131_4 ul131_4
                  clear hcc131 hce131
                  have HR131_4 := Aside0.mk hi131_4
                  have HC131_4 := Aside0.mk hl131_4
                  clear hi131_4 hl131_4
                  replace p131 := eq_true p131
                  replace q131 := eq_true q131
                  go_wp2_with (first | ((with_reducible refine gate_dst (N := 9) rfl ?_); refine box_event ?hg (N := 9) ?hd (cs := #[.int .i64 0, .int .i64 0, .int .i64 0, .int .i64 0, .slice none 0 0]) (t := 52) ?hr ?_; (case hd => rfl); (case hg => rfl); (case hr => first | (go_simp; done) | (go_simp; rfl)); intro gb132 hg w34 hbox hb; have n0_ := Aside0.mk (Kd.N_below (Kd.N_elderB (by (with_reducible repeat (first | apply Kd.N_alloc | apply Kd.N_drewN | apply Kd.N_drew)); exact HO_11.out) gb132 (Nat.le_of_eq hg.symm)) hb); have n1_ := Aside0.mk (Kd.V_below (Kd.V_elderB (by (with_reducible repeat (first | apply Kd.V_alloc | apply Kd.V_drewN | apply Kd.V_drew)); exact HL131_4.out) gb132 (Nat.le_of_eq hg.symm)) hb); have n2_ := Aside0.mk (Kd.C_below (by repeat (first | (with_reducible exact HR131_4.out) | (with_reducible refine Kd.C_alloc ?_ _) | (with_reducible refine Kd.C_drewN ?_ _) | (with_reducible refine Kd.C_drew ?_) | exact HR131_4.out)) hb); have n3_ := Aside0.mk (below_step (by repeat (first | (with_reducible first | exact HB.out | apply below_alloc | apply pw_below_drewN | apply below_drew1) | exact HB.out)) hb); have n4_ := Aside0.mk (hbox); have n5_ := Aside0.mk ((by rw [hg]; exact (below_size (by repeat (first | (with_reducible first | exact HB.out | apply below_alloc | apply pw_below_drewN | apply below_drew1) | exact HB.out))) : w.heap.size ≤ gb132)); have n6_ := Aside0.mk ((by rw [hg]; exact (below_size (by repeat (first | (with_reducible first | exact HB.out | apply below_alloc | apply pw_below_drewN | apply below_drew1) | exact HB.out))) : w.heap.size ≤ gb132)); clear HO_11; clear HL131_4; clear HR131_4; clear HB; have HO_11 := n0_; have HL131_4 := n1_; have HR131_4 := n2_; have HB := n3_; have BK132 := n4_; have GW132 := n5_; have GE132 := n6_; clear n0_ n1_ n2_ n3_ n4_ n5_ n6_; clear hb hbox hg; have hcz35_0 : w34.cell? ⟨gb132, 0, none⟩ = some (.int .i64 0) := (blk_cell BK132.out 0).trans rfl; have hcz35_1 : w34.cell? ⟨gb132, 1, none⟩ = some (.int .i64 0) := (blk_cell BK132.out 1).trans rfl; have hcz35_2 : w34.cell? ⟨gb132, 2, none⟩ = some (.int .i64 0) := (blk_cell BK132.out 2).trans rfl; have hcz35_3 : w34.cell? ⟨gb132, 3, none⟩ = some (.int .i64 0) := (blk_cell BK132.out 3).trans rfl; have hcz35_4 : w34.cell? ⟨gb132, 4, none⟩ = some (.slice none 0 0) := (blk_cell BK132.out 4).trans rfl; have hfz35_0 := blk_frozen BK132.out 0; have hfz35_1 := blk_frozen BK132.out 1; have hfz35_2 := blk_frozen BK132.out 2; have hfz35_3 := blk_frozen BK132.out 3; have hfz35_4 := blk_frozen BK132.out 4))
                  go_roundg k1
                  case measure => have := HK1.out; omega
                  case rel => exact ⟨(x5_1), (x6_1), (false), (wrap64 (x13_1 + 1)), (by first | rfl | (simp; done) | (simp [*]; done) | (simp [Int.tdiv_eq_ediv_of_nonneg]; done)), (by first | rfl | (simp; done) | (simp [*]; done) | (simp [Int.tdiv_eq_ediv_of_nonneg]; done)), (by first | rfl | (simp; done) | (simp [*]; done) | (simp [Int.tdiv_eq_ediv_of_nonneg]; done)), (by first | rfl | (simp; done) | (simp [*]; done) | (simp [Int.tdiv_eq_ediv_of_nonneg]; done)), H', ⟨by have := HK1.out; omega⟩, ⟨by (with_reducible repeat (first | apply Kd.N_alloc | apply Kd.N_drewN | apply Kd.N_drew)); exact Kd.N_mono (Kd.N_far (p := ⟨gb132, 4, none⟩) (Kd.N_far (p := ⟨gb132, 3, none⟩) (Kd.N_far (p := ⟨gb132, 2, none⟩) (Kd.N_far (p := ⟨gb132, 1, none⟩) (Kd.N_far (p := ⟨gb132, 0, none⟩) (Kd.N_mono HO_11.out (fun k_ hk => (⟨hk, hk.2⟩ : _ ∧ k_ ≠ gb132))) (fun _ hk => hk.2) (.int .i64 ((rd_T52 t128 x13_1).f0))) (fun _ hk => hk.2) (.int .i64 ((rd_T52 t128 x13_1).f1))) (fun _ hk => hk.2) (.int .i64 ((rd_T52 t128 x13_1).f2))) (fun _ hk => hk.2) (.int .i64 ((rd_T52 t128 x13_1).f3))) (fun _ hk => hk.2) (.slice A131_4 ((rd_T52 t128 x13_1).f4).length c131_4)) (fun _ hk => trivial)⟩, ⟨by repeat (first | (with_reducible first | exact HB.out | apply below_alloc | apply pw_below_drewN | apply below_drew1 | refine below_set ?_ GE132.out) | exact HB.out)⟩⟩
                · rw [if_neg c33] at H
                  have c33b0 : (((rd_T52 t128 x13_1).f1) == a1) = false := beq_eq_false_iff_ne.mpr c33
                  have c33b1 : (((rd_T52 t128 x13_1).f1) != a1) = true := bne_iff_ne.mpr c33
                  by_cases c36 : ((rd_T52 t128 x13_1).f0) = 1
                  · rw [if_pos c36] at H
                    have c36b0 : (((rd_T52 t128 x13_1).f0) == 1) = true := beq_iff_eq.mpr c36
                    have c36b1 : (((rd_T52 t128 x13_1).f0) != 1) = false := bne_eq_false_iff_eq.mpr c36
                    clear c36
                    by_cases c37 : x7_1 = true
                    · subst c37
                      have H1 : (prog_Section.l0 k1 a1 (mx x5_1 (wrap64 (x6_1 + ((rd_T52 t128 x13_1).f1)))) (wrap64 (x6_1 + ((rd_T52 t128 x13_1).f1))) true t128 (t128.length : Int) (wrap64 (x13_1 + 1))) = some r := by rw [if_pos rfl] at H; exact H
                      clear H
                      have H := H1
                      clear H1
                      obtain ⟨ji38, hji38⟩ : ∃ j_ : Int, (mx x5_1 (wrap64 (x6_1 + ((rd_T52 t128 x13_1).f1)))) = j_ := ⟨_, rfl⟩
                      replace H : (prog_Section.l0 k1 a1 ji38 (wrap64 (x6_1 + ((rd_T52 t128 x13_1).f1))) true t128 (t128.length : Int) (wrap64 (x13_1 + 1))) = some r := by first | (rw [hji38] at H; exact H) | (simp only [hji38] at H ⊢; exact H)
                      have hji38_ : (if x5_1 < (wrap64 (x6_1 + ((rd_T52 t128 x13_1).f1))) then (wrap64 (x6_1 + ((rd_T52 t128 x13_1).f1))) else x5_1) = ji38 := hji38
                      have H' := Aside0.mk H
                      clear H
                      have p131 : 0 ≤ (x13_1 : Int) := of_decide_eq_true (by first | (with_reducible assumption) | assumption)
                      have q131 : x13_1 < (t128.length : Int) := of_decide_eq_true (by first | (with_reducible assumption) | assumption)
                      obtain ⟨ad131, A131_4, c131_4, e131, hx131_0, hx131_1, hx131_2, hx131_3, hx131_4, hl131_4, hi131_4⟩ := at_T52 (Kd.N_reads' HO_11.out).2.2 x13_1 p131 q131
                      cases e131
                      obtain ⟨ce131, hce131, hMe131, hcc131⟩ := Kd.N_get HO_11.out z52 x13_1 p131 (by first | exact q131 | exact of_decide_eq_true (by first | (with_reducible assumption) | assumption) | (have e_ := (Kd.N_reads' HO_11.out).1; omega))
                      obtain ⟨ua131_4, uc131_4, rfl, ul131_4, ge131_4⟩ := k52_openF hMe131
                      have hv131_4 := hcc131 4 _ rfl
                      rw [add_field _ _ 4 (by omega)] at hv131_4
                      replace hv131_4 := Option.some.inj (hv131_4.symm.trans hx131_4)
                      injection hv131_4 with hva_ hvn_ hvc_
                      rw [hva_] at ge131_4
                      rw [hvc_] at ul131_4
                      have HL131_4 := Aside0.mk (show Kd.V k84 84 _ w.heap.size _ _ ((rd_T52 t128 x13_1).f4) from Kd.V_mk ul131_4 ge131_4)
                      clear hva_ hvn_ hvc_ ge131_4 ul131_4
                      clear hcc131 hce131
                      have HR131_4 := Aside0.mk hi131_4
                      have HC131_4 := Aside0.mk hl131_4
                      clear hi131_4 hl131_4
                      replace p131 := eq_true p131
                      replace q131 := eq_true q131
                      go_wp2_with (first | ((with_reducible refine gate_dst (N := 9) rfl ?_); refine box_event ?hg (N := 9) ?hd (cs := #[.int .i64 0, .int .i64 0, .int .i64 0, .int .i64 0, .slice none 0 0]) (t := 52) ?hr ?_; (case hd => rfl); (case hg => rfl); (case hr => first | (go_simp; done) | (go_simp; rfl)); intro gb132 hg w39 hbox hb; have n0_ := Aside0.mk (Kd.N_below (Kd.N_elderB (by (with_reducible repeat (first | apply Kd.N_alloc | apply Kd.N_drewN | apply Kd.N_drew)); exact HO_11.out) gb132 (Nat.le_of_eq hg.symm)) hb); have n1_ := Aside0.mk (Kd.V_below (Kd.V_elderB (by (with_reducible repeat (first | apply Kd.V_alloc | apply Kd.V_drewN | apply Kd.V_drew)); exact HL131_4.out) gb132 (Nat.le_of_eq hg.symm)) hb); have n2_ := Aside0.mk (Kd.C_below (by repeat (first | (with_reducible exact HR131_4.out) | (with_reducible refine Kd.C_alloc ?_ _) | (with_reducible refine Kd.C_drewN ?_ _) | (with_reducible refine Kd.C_drew ?_) | exact HR131_4.out)) hb); have n3_ := Aside0.mk (below_step (by repeat (first | (with_reducible first | exact HB.out | apply below_alloc | apply pw_below_drewN | apply below_drew1) | exact HB.out)) hb); have n4_ := Aside0.mk (hbox); have n5_ := Aside0.mk ((by rw [hg]; exact (below_size (by repeat (first | (with_reducible first | exact HB.out | apply below_alloc | apply pw_below_drewN | apply below_drew1) | exact HB.out))) : w.heap.size ≤ gb132)); have n6_ := Aside0.mk ((by rw [hg]; exact (below_size (by repeat (first | (with_reducible first | exact HB.out | apply below_alloc | apply pw_below_drewN | apply below_drew1) | exact HB.out))) : w.heap.size ≤ gb132)); clear HO_11; clear HL131_4; clear HR131_4; clear HB; have HO_11 := n0_; have HL131_4 := n1_; have HR131_4 := n2_; have HB := n3_; have BK132 := n4_; have GW132 := n5_; have GE132 := n6_; clear n0_ n1_ n2_ n3_ n4_ n5_ n6_; clear hb hbox hg; have hcz40_0 : w39.cell? ⟨gb132, 0, none⟩ = some (.int .i64 0) := (blk_cell BK132.out 0).trans rfl; have hcz40_1 : w39.cell? ⟨gb132, 1, none⟩ = some (.int .i64 0) := (blk_cell BK132.out 1).trans rfl; have hcz40_2 : w39.cell? ⟨gb132, 2, none⟩ = some (.int .i64 0) := (blk_cell BK132.out 2).trans rfl; have hcz40_3 : w39.cell? ⟨gb132, 3, none⟩ = some (.int .i64 0) := (blk_cell BK132.out 3).trans rfl; have hcz40_4 : w39.cell? ⟨gb132, 4, none⟩ = some (.slice none 0 0) := (blk_cell BK132.out 4).trans rfl; have hfz40_0 := blk_frozen BK132.out 0; have hfz40_1 := blk_frozen BK132.out 1; have hfz40_2 := blk_frozen BK132.out 2; have hfz40_3 := blk_frozen BK132.out 3; have hfz40_4 := blk_frozen BK132.out 4))
                      go_roundg k1
                      case measure => have := HK1.out; omega
                      case rel => exact ⟨(ji38), (wrap64 (x6_1 + ((rd_T52 t128 x13_1).f1))), (true), (wrap64 (x13_1 + 1)), (by first | rfl | (simp; done) | (simp only [← hji38] <;> (first | rfl | simp)) | (simp [*]; done) | (simp [Int.tdiv_eq_ediv_of_nonneg]; done)), (by first | rfl | (simp; done) | (simp [*]; done) | (simp [Int.tdiv_eq_ediv_of_nonneg]; done)), (by first | rfl | (simp; done) | (simp [*]; done) | (simp [Int.tdiv_eq_ediv_of_nonneg]; done)), (by first | rfl | (simp; done) | (simp [*]; done) | (simp [Int.tdiv_eq_ediv_of_nonneg]; done)), H', ⟨by have := HK1.out; omega⟩, ⟨by (with_reducible repeat (first | apply Kd.N_alloc | apply Kd.N_drewN | apply Kd.N_drew)); exact Kd.N_mono (Kd.N_far (p := ⟨gb132, 4, none⟩) (Kd.N_far (p := ⟨gb132, 3, none⟩) (Kd.N_far (p := ⟨gb132, 2, none⟩) (Kd.N_far (p := ⟨gb132, 1, none⟩) (Kd.N_far (p := ⟨gb132, 0, none⟩) (Kd.N_mono HO_11.out (fun k_ hk => (⟨hk, hk.2⟩ : _ ∧ k_ ≠ gb132))) (fun _ hk => hk.2) (.int .i64 ((rd_T52 t128 x13_1).f0))) (fun _ hk => hk.2) (.int .i64 ((rd_T52 t128 x13_1).f1))) (fun _ hk => hk.2) (.int .i64 ((rd_T52 t128 x13_1).f2))) (fun _ hk => hk.2) (.int .i64 ((rd_T52 t128 x13_1).f3))) (fun _ hk => hk.2) (.slice A131_4 ((rd_T52 t128 x13_1).f4).length c131_4)) (fun _ hk => trivial)⟩, ⟨by repeat (first | (with_reducible first | exact HB.out | apply below_alloc | apply pw_below_drewN | apply below_drew1 | refine below_set ?_ GE132.out) | exact HB.out)⟩⟩
                    · replace c37 := Bool.eq_false_iff.mpr c37
                      subst c37
                      have H1 : (prog_Section.l0 k1 a1 x5_1 x6_1 false t128 (t128.length : Int) (wrap64 (x13_1 + 1))) = some r := by rw [if_neg (show ¬ (false = true) by decide)] at H; exact H
                      clear H
                      have H := H1
                      clear H1
                      have H' := Aside0.mk H
                      clear H
                      have p131 : 0 ≤ (x13_1 : Int) := of_decide_eq_true (by first | (with_reducible assumption) | assumption)
                      have q131 : x13_1 < (t128.length : Int) := of_decide_eq_true (by first | (with_reducible assumption) | assumption)
                      obtain ⟨ad131, A131_4, c131_4, e131, hx131_0, hx131_1, hx131_2, hx131_3, hx131_4, hl131_4, hi131_4⟩ := at_T52 (Kd.N_reads' HO_11.out).2.2 x13_1 p131 q131
                      cases e131
                      obtain ⟨ce131, hce131, hMe131, hcc131⟩ := Kd.N_get HO_11.out z52 x13_1 p131 (by first | exact q131 | exact of_decide_eq_true (by first | (with_reducible assumption) | assumption) | (have e_ := (Kd.N_reads' HO_11.out).1; omega))
                      obtain ⟨ua131_4, uc131_4, rfl, ul131_4, ge131_4⟩ := k52_openF hMe131
                      have hv131_4 := hcc131 4 _ rfl
                      rw [add_field _ _ 4 (by omega)] at hv131_4
                      replace hv131_4 := Option.some.inj (hv131_4.symm.trans hx131_4)
                      injection hv131_4 with hva_ hvn_ hvc_
                      rw [hva_] at ge131_4
                      rw [hvc_] at ul131_4
                      have HL131_4 := Aside0.mk (show Kd.V k84 84 _ w.heap.size _ _ ((rd_T52 t128 x13_1).f4) from Kd.V_mk ul131_4 ge131_4)
                      clear hva_ hvn_ hvc_ ge131_4 ul131_4
                      clear hcc131 hce131
                      have HR131_4 := Aside0.mk hi131_4
                      have HC131_4 := Aside0.mk hl131_4
                      clear hi131_4 hl131_4
                      replace p131 := eq_true p131
                      replace q131 := eq_true q131
                      go_wp2_with (first | ((with_reducible refine gate_dst (N := 9) rfl ?_); refine box_event ?hg (N := 9) ?hd (cs := #[.int .i64 0, .int .i64 0, .int .i64 0, .int .i64 0, .slice none 0 0]) (t := 52) ?hr ?_; (case hd => rfl); (case hg => rfl); (case hr => first | (go_simp; done) | (go_simp; rfl)); intro gb132 hg w41 hbox hb; have n0_ := Aside0.mk (Kd.N_below (Kd.N_elderB (by (with_reducible repeat (first | apply Kd.N_alloc | apply Kd.N_drewN | apply Kd.N_drew)); exact HO_11.out) gb132 (Nat.le_of_eq hg.symm)) hb); have n1_ := Aside0.mk (Kd.V_below (Kd.V_elderB (by (with_reducible repeat (first | apply Kd.V_alloc | apply Kd.V_drewN | apply Kd.V_drew)); exact HL131_4.out) gb132 (Nat.le_of_eq hg.symm)) hb); have n2_ := Aside0.mk (Kd.C_below (by repeat (first | (with_reducible exact HR131_4.out) | (with_reducible refine Kd.C_alloc ?_ _) | (with_reducible refine Kd.C_drewN ?_ _) | (with_reducible refine Kd.C_drew ?_) | exact HR131_4.out)) hb); have n3_ := Aside0.mk (below_step (by repeat (first | (with_reducible first | exact HB.out | apply below_alloc | apply pw_below_drewN | apply below_drew1) | exact HB.out)) hb); have n4_ := Aside0.mk (hbox); have n5_ := Aside0.mk ((by rw [hg]; exact (below_size (by repeat (first | (with_reducible first | exact HB.out | apply below_alloc | apply pw_below_drewN | apply below_drew1) | exact HB.out))) : w.heap.size ≤ gb132)); have n6_ := Aside0.mk ((by rw [hg]; exact (below_size (by repeat (first | (with_reducible first | exact HB.out | apply below_alloc | apply pw_below_drewN | apply below_drew1) | exact HB.out))) : w.heap.size ≤ gb132)); clear HO_11; clear HL131_4; clear HR131_4; clear HB; have HO_11 := n0_; have HL131_4 := n1_; have HR131_4 := n2_; have HB := n3_; have BK132 := n4_; have GW132 := n5_; have GE132 := n6_; clear n0_ n1_ n2_ n3_ n4_ n5_ n6_; clear hb hbox hg; have hcz42_0 : w41.cell? ⟨gb132, 0, none⟩ = some (.int .i64 0) := (blk_cell BK132.out 0).trans rfl; have hcz42_1 : w41.cell? ⟨gb132, 1, none⟩ = some (.int .i64 0) := (blk_cell BK132.out 1).trans rfl; have hcz42_2 : w41.cell? ⟨gb132, 2, none⟩ = some (.int .i64 0) := (blk_cell BK132.out 2).trans rfl; have hcz42_3 : w41.cell? ⟨gb132, 3, none⟩ = some (.int .i64 0) := (blk_cell BK132.out 3).trans rfl; have hcz42_4 : w41.cell? ⟨gb132, 4, none⟩ = some (.slice none 0 0) := (blk_cell BK132.out 4).trans rfl; have hfz42_0 := blk_frozen BK132.out 0; have hfz42_1 := blk_frozen BK132.out 1; have hfz42_2 := blk_frozen BK132.out 2; have hfz42_3 := blk_frozen BK132.out 3; have hfz42_4 := blk_frozen BK132.out 4))
                      go_roundg k1
                      case measure => have := HK1.out; omega
                      case rel => exact ⟨(x5_1), (x6_1), (false), (wrap64 (x13_1 + 1)), (by first | rfl | (simp; done) | (simp [*]; done) | (simp [Int.tdiv_eq_ediv_of_nonneg]; done)), (by first | rfl | (simp; done) | (simp [*]; done) | (simp [Int.tdiv_eq_ediv_of_nonneg]; done)), (by first | rfl | (simp; done) | (simp [*]; done) | (simp [Int.tdiv_eq_ediv_of_nonneg]; done)), (by first | rfl | (simp; done) | (simp [*]; done) | (simp [Int.tdiv_eq_ediv_of_nonneg]; done)), H', ⟨by have := HK1.out; omega⟩, ⟨by (with_reducible repeat (first | apply Kd.N_alloc | apply Kd.N_drewN | apply Kd.N_drew)); exact Kd.N_mono (Kd.N_far (p := ⟨gb132, 4, none⟩) (Kd.N_far (p := ⟨gb132, 3, none⟩) (Kd.N_far (p := ⟨gb132, 2, none⟩) (Kd.N_far (p := ⟨gb132, 1, none⟩) (Kd.N_far (p := ⟨gb132, 0, none⟩) (Kd.N_mono HO_11.out (fun k_ hk => (⟨hk, hk.2⟩ : _ ∧ k_ ≠ gb132))) (fun _ hk => hk.2) (.int .i64 ((rd_T52 t128 x13_1).f0))) (fun _ hk => hk.2) (.int .i64 ((rd_T52 t128 x13_1).f1))) (fun _ hk => hk.2) (.int .i64 ((rd_T52 t128 x13_1).f2))) (fun _ hk => hk.2) (.int .i64 ((rd_T52 t128 x13_1).f3))) (fun _ hk => hk.2) (.slice A131_4 ((rd_T52 t128 x13_1).f4).length c131_4)) (fun _ hk => trivial)⟩, ⟨by repeat (first | (with_reducible first | exact HB.out | apply below_alloc | apply pw_below_drewN | apply below_drew1 | refine below_set ?_ GE132.out) | exact HB.out)⟩⟩
                  · rw [if_neg c36] at H
                    have c36b0 : (((rd_T52 t128 x13_1).f0) == 1) = false := beq_eq_false_iff_ne.mpr c36
                    have c36b1 : (((rd_T52 t128 x13_1).f0) != 1) = true := bne_iff_ne.mpr c36
                    have H' := Aside0.mk H
                    clear H
                    have p131 : 0 ≤ (x13_1 : Int) := of_decide_eq_true (by first | (with_reducible assumption) | assumption)
                    have q131 : x13_1 < (t128.length : Int) := of_decide_eq_true (by first | (with_reducible assumption) | assumption)
                    obtain ⟨ad131, A131_4, c131_4, e131, hx131_0, hx131_1, hx131_2, hx131_3, hx131_4, hl131_4, hi131_4⟩ := at_T52 (Kd.N_reads' HO_11.out).2.2 x13_1 p131 q131
                    cases e131
                    obtain ⟨ce131, hce131, hMe131, hcc131⟩ := Kd.N_get HO_11.out z52 x13_1 p131 (by first | exact q131 | exact of_decide_eq_true (by first | (with_reducible assumption) | assumption) | (have e_ := (Kd.N_reads' HO_11.out).1; omega))
                    obtain ⟨ua131_4, uc131_4, rfl, ul131_4, ge131_4⟩ := k52_openF hMe131
                    have hv131_4 := hcc131 4 _ rfl
                    rw [add_field _ _ 4 (by omega)] at hv131_4
                    replace hv131_4 := Option.some.inj (hv131_4.symm.trans hx131_4)
                    injection hv131_4 with hva_ hvn_ hvc_
                    rw [hva_] at ge131_4
                    rw [hvc_] at ul131_4
                    have HL131_4 := Aside0.mk (show Kd.V k84 84 _ w.heap.size _ _ ((rd_T52 t128 x13_1).f4) from Kd.V_mk ul131_4 ge131_4)
                    clear hva_ hvn_ hvc_ ge131_4 ul131_4
                    clear hcc131 hce131
                    have HR131_4 := Aside0.mk hi131_4
                    have HC131_4 := Aside0.mk hl131_4
                    clear hi131_4 hl131_4
                    replace p131 := eq_true p131
                    replace q131 := eq_true q131
                    go_wp2_with (first | ((with_reducible refine gate_dst (N := 9) rfl ?_); refine box_event ?hg (N := 9) ?hd (cs := #[.int .i64 0, .int .i64 0, .int .i64 0, .int .i64 0, .slice none 0 0]) (t := 52) ?hr ?_; (case hd => rfl); (case hg => rfl); (case hr => first | (go_simp; done) | (go_simp; rfl)); intro gb132 hg w43 hbox hb; have n0_ := Aside0.mk (Kd.N_below (Kd.N_elderB (by (with_reducible repeat (first | apply Kd.N_alloc | apply Kd.N_drewN | apply Kd.N_drew)); exact HO_11.out) gb132 (Nat.le_of_eq hg.symm)) hb); have n1_ := Aside0.mk (Kd.V_below (Kd.V_elderB (by (with_reducible repeat (first | apply Kd.V_alloc | apply Kd.V_drewN | apply Kd.V_drew)); exact HL131_4.out) gb132 (Nat.le_of_eq hg.symm)) hb); have n2_ := Aside0.mk (Kd.C_below (by repeat (first | (with_reducible exact HR131_4.out) | (with_reducible refine Kd.C_alloc ?_ _) | (with_reducible refine Kd.C_drewN ?_ _) | (with_reducible refine Kd.C_drew ?_) | exact HR131_4.out)) hb); have n3_ := Aside0.mk (below_step (by repeat (first | (with_reducible first | exact HB.out | apply below_alloc | apply pw_below_drewN | apply below_drew1) | exact HB.out)) hb); have n4_ := Aside0.mk (hbox); have n5_ := Aside0.mk ((by rw [hg]; exact (below_size (by repeat (first | (with_reducible first | exact HB.out | apply below_alloc | apply pw_below_drewN | apply below_drew1) | exact HB.out))) : w.heap.size ≤ gb132)); have n6_ := Aside0.mk ((by rw [hg]; exact (below_size (by repeat (first | (with_reducible first | exact HB.out | apply below_alloc | apply pw_below_drewN | apply below_drew1) | exact HB.out))) : w.heap.size ≤ gb132)); clear HO_11; clear HL131_4; clear HR131_4; clear HB; have HO_11 := n0_; have HL131_4 := n1_; have HR131_4 := n2_; have HB := n3_; have BK132 := n4_; have GW132 := n5_; have GE132 := n6_; clear n0_ n1_ n2_ n3_ n4_ n5_ n6_; clear hb hbox hg; have hcz44_0 : w43.cell? ⟨gb132, 0, none⟩ = some (.int .i64 0) := (blk_cell BK132.out 0).trans rfl; have hcz44_1 : w43.cell? ⟨gb132, 1, none⟩ = some (.int .i64 0) := (blk_cell BK132.out 1).trans rfl; have hcz44_2 : w43.cell? ⟨gb132, 2, none⟩ = some (.int .i64 0) := (blk_cell BK132.out 2).trans rfl; have hcz44_3 : w43.cell? ⟨gb132, 3, none⟩ = some (.int .i64 0) := (blk_cell BK132.out 3).trans rfl; have hcz44_4 : w43.cell? ⟨gb132, 4, none⟩ = some (.slice none 0 0) := (blk_cell BK132.out 4).trans rfl; have hfz44_0 := blk_frozen BK132.out 0; have hfz44_1 := blk_frozen BK132.out 1; have hfz44_2 := blk_frozen BK132.out 2; have hfz44_3 := blk_frozen BK132.out 3; have hfz44_4 := blk_frozen BK132.out 4))
                    go_roundg k1
                    case measure => have := HK1.out; omega
                    case rel => exact ⟨(x5_1), (x6_1), (x7_1), (wrap64 (x13_1 + 1)), (by first | rfl | (simp; done) | (simp [*]; done) | (simp [Int.tdiv_eq_ediv_of_nonneg]; done)), (by first | rfl | (simp; done) | (simp [*]; done) | (simp [Int.tdiv_eq_ediv_of_nonneg]; done)), (by first | rfl | (simp; done) | (simp [*]; done) | (simp [Int.tdiv_eq_ediv_of_nonneg]; done)), (by first | rfl | (simp; done) | (simp [*]; done) | (simp [Int.tdiv_eq_ediv_of_nonneg]; done)), H', ⟨by have := HK1.out; omega⟩, ⟨by (with_reducible repeat (first | apply Kd.N_alloc | apply Kd.N_drewN | apply Kd.N_drew)); exact Kd.N_mono (Kd.N_far (p := ⟨gb132, 4, none⟩) (Kd.N_far (p := ⟨gb132, 3, none⟩) (Kd.N_far (p := ⟨gb132, 2, none⟩) (Kd.N_far (p := ⟨gb132, 1, none⟩) (Kd.N_far (p := ⟨gb132, 0, none⟩) (Kd.N_mono HO_11.out (fun k_ hk => (⟨hk, hk.2⟩ : _ ∧ k_ ≠ gb132))) (fun _ hk => hk.2) (.int .i64 ((rd_T52 t128 x13_1).f0))) (fun _ hk => hk.2) (.int .i64 ((rd_T52 t128 x13_1).f1))) (fun _ hk => hk.2) (.int .i64 ((rd_T52 t128 x13_1).f2))) (fun _ hk => hk.2) (.int .i64 ((rd_T52 t128 x13_1).f3))) (fun _ hk => hk.2) (.slice A131_4 ((rd_T52 t128 x13_1).f4).length c131_4)) (fun _ hk => trivial)⟩, ⟨by repeat (first | (with_reducible first | exact HB.out | apply below_alloc | apply pw_below_drewN | apply below_drew1 | refine below_set ?_ GE132.out) | exact HB.out)⟩⟩
              · rw [if_neg c32] at H
                have c32b0 : (((rd_T52 t128 x13_1).f0) == 3) = false := beq_eq_false_iff_ne.mpr c32
                have c32b1 : (((rd_T52 t128 x13_1).f0) != 3) = true := bne_iff_ne.mpr c32
                by_cases c45 : ((rd_T52 t128 x13_1).f0) = 1
                · rw [if_pos c45] at H
                  have c45b0 : (((rd_T52 t128 x13_1).f0) == 1) = true := beq_iff_eq.mpr c45
                  have c45b1 : (((rd_T52 t128 x13_1).f0) != 1) = false := bne_eq_false_iff_eq.mpr c45
                  clear c45
                  by_cases c46 : x7_1 = true
                  · subst c46
                    have H1 : (prog_Section.l0 k1 a1 (mx x5_1 (wrap64 (x6_1 + ((rd_T52 t128 x13_1).f1)))) (wrap64 (x6_1 + ((rd_T52 t128 x13_1).f1))) true t128 (t128.length : Int) (wrap64 (x13_1 + 1))) = some r := by rw [if_pos rfl] at H; exact H
                    clear H
                    have H := H1
                    clear H1
                    obtain ⟨ji47, hji47⟩ : ∃ j_ : Int, (mx x5_1 (wrap64 (x6_1 + ((rd_T52 t128 x13_1).f1)))) = j_ := ⟨_, rfl⟩
                    replace H : (prog_Section.l0 k1 a1 ji47 (wrap64 (x6_1 + ((rd_T52 t128 x13_1).f1))) true t128 (t128.length : Int) (wrap64 (x13_1 + 1))) = some r := by first | (rw [hji47] at H; exact H) | (simp only [hji47] at H ⊢; exact H)
                    have hji47_ : (if x5_1 < (wrap64 (x6_1 + ((rd_T52 t128 x13_1).f1))) then (wrap64 (x6_1 + ((rd_T52 t128 x13_1).f1))) else x5_1) = ji47 := hji47
                    have H' := Aside0.mk H
                    clear H
                    have p131 : 0 ≤ (x13_1 : Int) := of_decide_eq_true (by first | (with_reducible assumption) | assumption)
                    have q131 : x13_1 < (t128.length : Int) := of_decide_eq_true (by first | (with_reducible assumption) | assumption)
                    obtain ⟨ad131, A131_4, c131_4, e131, hx131_0, hx131_1, hx131_2, hx131_3, hx131_4, hl131_4, hi131_4⟩ := at_T52 (Kd.N_reads' HO_11.out).2.2 x13_1 p131 q131
                    cases e131
                    obtain ⟨ce131, hce131, hMe131, hcc131⟩ := Kd.N_get HO_11.out z52 x13_1 p131 (by first | exact q131 | exact of_decide_eq_true (by first | (with_reducible assumption) | assumption) | (have e_ := (Kd.N_reads' HO_11.out).1; omega))
                    obtain ⟨ua131_4, uc131_4, rfl, ul131_4, ge131_4⟩ := k52_openF hMe131
                    have hv131_4 := hcc131 4 _ rfl
                    rw [add_field _ _ 4 (by omega)] at hv131_4
                    replace hv131_4 := Option.some.inj (hv131_4.symm.trans hx131_4)
                    injection hv131_4 with hva_ hvn_ hvc_
                    rw [hva_] at ge131_4
                    rw [hvc_] at ul131_4
                    have HL131_4 := Aside0.mk (show Kd.V k84 84 _ w.heap.size _ _ ((rd_T52 t128 x13_1).f4) from Kd.V_mk ul131_4 ge131_4)
                    clear hva_ hvn_ hvc_ ge131_4 ul131_4
                    clear hcc131 hce131
                    have HR131_4 := Aside0.mk hi131_4
                    have HC131_4 := Aside0.mk hl131_4
                    clear hi131_4 hl131_4
                    replace p131 := eq_true p131
                    replace q131 := eq_true q131
                    go_wp2_with (first | ((with_reducible refine gate_dst (N := 9) rfl ?_); refine box_event ?hg (N := 9) ?hd (cs := #[.int .i64 0, .int .i64 0, .int .i64 0, .int .i64 0, .slice none 0 0]) (t := 52) ?hr ?_; (case hd => rfl); (case hg => rfl); (case hr => first | (go_simp; done) | (go_simp; rfl)); intro gb132 hg w48 hbox hb; have n0_ := Aside0.mk (Kd.N_below (Kd.N_elderB (by (with_reducible repeat (first | apply Kd.N_alloc | apply Kd.N_drewN | apply Kd.N_drew)); exact HO_11.out) gb132 (Nat.le_of_eq hg.symm)) hb); have n1_ := Aside0.mk (Kd.V_below (Kd.V_elderB (by (with_reducible repeat (first | apply Kd.V_alloc | apply Kd.V_drewN | apply Kd.V_drew)); exact HL131_4.out) gb132 (Nat.le_of_eq hg.symm)) hb); have n2_ := Aside0.mk (Kd.C_below (by repeat (first | (with_reducible exact HR131_4.out) | (with_reducible refine Kd.C_alloc ?_ _) | (with_reducible refine Kd.C_drewN ?_ _) | (with_reducible refine Kd.C_drew ?_) | exact HR131_4.out)) hb); have n3_ := Aside0.mk (below_step (by repeat (first | (with_reducible first | exact HB.out | apply below_alloc | apply pw_below_drewN | apply below_drew1) | exact HB.out)) hb); have n4_ := Aside0.mk (hbox); have n5_ := Aside0.mk ((by rw [hg]; exact (below_size (by repeat (first | (with_reducible first | exact HB.out | apply below_alloc | apply pw_below_drewN | apply below_drew1) | exact HB.out))) : w.heap.size ≤ gb132)); have n6_ := Aside0.mk ((by rw [hg]; exact (below_size (by repeat (first | (with_reducible first | exact HB.out | apply below_alloc | apply pw_below_drewN | apply below_drew1) | exact HB.out))) : w.heap.size ≤ gb132)); clear HO_11; clear HL131_4; clear HR131_4; clear HB; have HO_11 := n0_; have HL131_4 := n1_; have HR131_4 := n2_; have HB := n3_; have BK132 := n4_; have GW132 := n5_; have GE132 := n6_; clear n0_ n1_ n2_ n3_ n4_ n5_ n6_; clear hb hbox hg; have hcz49_0 : w48.cell? ⟨gb132, 0, none⟩ = some (.int .i64 0) := (blk_cell BK132.out 0).trans rfl; have hcz49_1 : w48.cell? ⟨gb132, 1, none⟩ = some (.int .i64 0) := (blk_cell BK132.out 1).trans rfl; have hcz49_2 : w48.cell? ⟨gb132, 2, none⟩ = some (.int .i64 0) := (blk_cell BK132.out 2).trans rfl; have hcz49_3 : w48.cell? ⟨gb132, 3, none⟩ = some (.int .i64 0) := (blk_cell BK132.out 3).trans rfl; have hcz49_4 : w48.cell? ⟨gb132, 4, none⟩ = some (.slice none 0 0) := (blk_cell BK132.out 4).trans rfl; have hfz49_0 := blk_frozen BK132.out 0; have hfz49_1 := blk_frozen BK132.out 1; have hfz49_2 := blk_frozen BK132.out 2; have hfz49_3 := blk_frozen BK132.out 3; have hfz49_4 := blk_frozen BK132.out 4))
                    go_roundg k1
                    case measure => have := HK1.out; omega
                    case rel => exact ⟨(ji47), (wrap64 (x6_1 + ((rd_T52 t128 x13_1).f1))), (true), (wrap64 (x13_1 + 1)), (by first | rfl | (simp; done) | (simp only [← hji47] <;> (first | rfl | simp)) | (simp [*]; done) | (simp [Int.tdiv_eq_ediv_of_nonneg]; done)), (by first | rfl | (simp; done) | (simp [*]; done) | (simp [Int.tdiv_eq_ediv_of_nonneg]; done)), (by first | rfl | (simp; done) | (simp [*]; done) | (simp [Int.tdiv_eq_ediv_of_nonneg]; done)), (by first | rfl | (simp; done) | (simp [*]; done) | (simp [Int.tdiv_eq_ediv_of_nonneg]; done)), H', ⟨by have := HK1.out; omega⟩, ⟨by (with_reducible repeat (first | apply Kd.N_alloc | apply Kd.N_drewN | apply Kd.N_drew)); exact Kd.N_mono (Kd.N_far (p := ⟨gb132, 4, none⟩) (Kd.N_far (p := ⟨gb132, 3, none⟩) (Kd.N_far (p := ⟨gb132, 2, none⟩) (Kd.N_far (p := ⟨gb132, 1, none⟩) (Kd.N_far (p := ⟨gb132, 0, none⟩) (Kd.N_mono HO_11.out (fun k_ hk => (⟨hk, hk.2⟩ : _ ∧ k_ ≠ gb132))) (fun _ hk => hk.2) (.int .i64 ((rd_T52 t128 x13_1).f0))) (fun _ hk => hk.2) (.int .i64 ((rd_T52 t128 x13_1).f1))) (fun _ hk => hk.2) (.int .i64 ((rd_T52 t128 x13_1).f2))) (fun _ hk => hk.2) (.int .i64 ((rd_T52 t128 x13_1).f3))) (fun _ hk => hk.2) (.slice A131_4 ((rd_T52 t128 x13_1).f4).length c131_4)) (fun _ hk => trivial)⟩, ⟨by repeat (first | (with_reducible first | exact HB.out | apply below_alloc | apply pw_below_drewN | apply below_drew1 | refine below_set ?_ GE132.out) | exact HB.out)⟩⟩
                  · replace c46 := Bool.eq_false_iff.mpr c46
                    subst c46
                    have H1 : (prog_Section.l0 k1 a1 x5_1 x6_1 false t128 (t128.length : Int) (wrap64 (x13_1 + 1))) = some r := by rw [if_neg (show ¬ (false = true) by decide)] at H; exact H
                    clear H
                    have H := H1
                    clear H1
                    have H' := Aside0.mk H
                    clear H
                    have p131 : 0 ≤ (x13_1 : Int) := of_decide_eq_true (by first | (with_reducible assumption) | assumption)
                    have q131 : x13_1 < (t128.length : Int) := of_decide_eq_true (by first | (with_reducible assumption) | assumption)
                    obtain ⟨ad131, A131_4, c131_4, e131, hx131_0, hx131_1, hx131_2, hx131_3, hx131_4, hl131_4, hi131_4⟩ := at_T52 (Kd.N_reads' HO_11.out).2.2 x13_1 p131 q131
                    cases e131
                    obtain ⟨ce131, hce131, hMe131, hcc131⟩ := Kd.N_get HO_11.out z52 x13_1 p131 (by first | exact q131 | exact of_decide_eq_true (by first | (with_reducible assumption) | assumption) | (have e_ := (Kd.N_reads' HO_11.out).1; omega))
                    obtain ⟨ua131_4, uc131_4, rfl, ul131_4, ge131_4⟩ := k52_openF hMe131
                    have hv131_4 := hcc131 4 _ rfl
                    rw [add_field _ _ 4 (by omega)] at hv131_4
                    replace hv131_4 := Option.some.inj (hv131_4.symm.trans hx131_4)
                    injection hv131_4 with hva_ hvn_ hvc_
                    rw [hva_] at ge131_4
                    rw [hvc_] at ul131_4
                    have HL131_4 := Aside0.mk (show Kd.V k84 84 _ w.heap.size _ _ ((rd_T52 t128 x13_1).f4) from Kd.V_mk ul131_4 ge131_4)
                    clear hva_ hvn_ hvc_ ge131_4 ul131_4
                    clear hcc131 hce131
                    have HR131_4 := Aside0.mk hi131_4
                    have HC131_4 := Aside0.mk hl131_4
                    clear hi131_4 hl131_4
                    replace p131 := eq_true p131
                    replace q131 := eq_true q131
                    go_wp2_with (first | ((with_reducible refine gate_dst (N := 9) rfl ?_); refine box_event ?hg (N := 9) ?hd (cs := #[.int .i64 0, .int .i64 0, .int .i64 0, .int .i64 0, .slice none 0 0]) (t := 52) ?hr ?_; (case hd => rfl); (case hg => rfl); (case hr => first | (go_simp; done) | (go_simp; rfl)); intro gb132 hg w50 hbox hb; have n0_ := Aside0.mk (Kd.N_below (Kd.N_elderB (by (with_reducible repeat (first | apply Kd.N_alloc | apply Kd.N_drewN | apply Kd.N_drew)); exact HO_11.out) gb132 (Nat.le_of_eq hg.symm)) hb); have n1_ := Aside0.mk (Kd.V_below (Kd.V_elderB (by (with_reducible repeat (first | apply Kd.V_alloc | apply Kd.V_drewN | apply Kd.V_drew)); exact HL131_4.out) gb132 (Nat.le_of_eq hg.symm)) hb); have n2_ := Aside0.mk (Kd.C_below (by repeat (first | (with_reducible exact HR131_4.out) | (with_reducible refine Kd.C_alloc ?_ _) | (with_reducible refine Kd.C_drewN ?_ _) | (with_reducible refine Kd.C_drew ?_) | exact HR131_4.out)) hb); have n3_ := Aside0.mk (below_step (by repeat (first | (with_reducible first | exact HB.out | apply below_alloc | apply pw_below_drewN | apply below_drew1) | exact HB.out)) hb); have n4_ := Aside0.mk (hbox); have n5_ := Aside0.mk ((by rw [hg]; exact (below_size (by repeat (first | (with_reducible first | exact HB.out | apply below_alloc | apply pw_below_drewN | apply below_drew1) | exact HB.out))) : w.heap.size ≤ gb132)); have n6_ := Aside0.mk ((by rw [hg]; exact (below_size (by repeat (first | (with_reducible first | exact HB.out | apply below_alloc | apply pw_below_drewN | apply below_drew1) | exact HB.out))) : w.heap.size ≤ gb132)); clear HO_11; clear HL131_4; clear HR131_4; clear HB; have HO_11 := n0_; have HL131_4 := n1_; have HR131_4 := n2_; have HB := n3_; have BK132 := n4_; have GW132 := n5_; have GE132 := n6_; clear n0_ n1_ n2_ n3_ n4_ n5_ n6_; clear hb hbox hg; have hcz51_0 : w50.cell? ⟨gb132, 0, none⟩ = some (.int .i64 0) := (blk_cell BK132.out 0).trans rfl; have hcz51_1 : w50.cell? ⟨gb132, 1, none⟩ = some (.int .i64 0) := (blk_cell BK132.out 1).trans rfl; have hcz51_2 : w50.cell? ⟨gb132, 2, none⟩ = some (.int .i64 0) := (blk_cell BK132.out 2).trans rfl; have hcz51_3 : w50.cell? ⟨gb132, 3, none⟩ = some (.int .i64 0) := (blk_cell BK132.out 3).trans rfl; have hcz51_4 : w50.cell? ⟨gb132, 4, none⟩ = some (.slice none 0 0) := (blk_cell BK132.out 4).trans rfl; have hfz51_0 := blk_frozen BK132.out 0; have hfz51_1 := blk_frozen BK132.out 1; have hfz51_2 := blk_frozen BK132.out 2; have hfz51_3 := blk_frozen BK132.out 3; have hfz51_4 := blk_frozen BK132.out 4))
                    go_roundg k1
                    case measure => have := HK1.out; omega
                    case rel => exact ⟨(x5_1), (x6_1), (false), (wrap64 (x13_1 + 1)), (by first | rfl | (simp; done) | (simp [*]; done) | (simp [Int.tdiv_eq_ediv_of_nonneg]; done)), (by first | rfl | (simp; done) | (simp [*]; done) | (simp [Int.tdiv_eq_ediv_of_nonneg]; done)), (by first | rfl | (simp; done) | (simp [*]; done) | (simp [Int.tdiv_eq_ediv_of_nonneg]; done)), (by first | rfl | (simp; done) | (simp [*]; done) | (simp [Int.tdiv_eq_ediv_of_nonneg]; done)), H', ⟨by have := HK1.out; omega⟩, ⟨by (with_reducible repeat (first | apply Kd.N_alloc | apply Kd.N_drewN | apply Kd.N_drew)); exact Kd.N_mono (Kd.N_far (p := ⟨gb132, 4, none⟩) (Kd.N_far (p := ⟨gb132, 3, none⟩) (Kd.N_far (p := ⟨gb132, 2, none⟩) (Kd.N_far (p := ⟨gb132, 1, none⟩) (Kd.N_far (p := ⟨gb132, 0, none⟩) (Kd.N_mono HO_11.out (fun k_ hk => (⟨hk, hk.2⟩ : _ ∧ k_ ≠ gb132))) (fun _ hk => hk.2) (.int .i64 ((rd_T52 t128 x13_1).f0))) (fun _ hk => hk.2) (.int .i64 ((rd_T52 t128 x13_1).f1))) (fun _ hk => hk.2) (.int .i64 ((rd_T52 t128 x13_1).f2))) (fun _ hk => hk.2) (.int .i64 ((rd_T52 t128 x13_1).f3))) (fun _ hk => hk.2) (.slice A131_4 ((rd_T52 t128 x13_1).f4).length c131_4)) (fun _ hk => trivial)⟩, ⟨by repeat (first | (with_reducible first | exact HB.out | apply below_alloc | apply pw_below_drewN | apply below_drew1 | refine below_set ?_ GE132.out) | exact HB.out)⟩⟩
                · rw [if_neg c45] at H
                  have c45b0 : (((rd_T52 t128 x13_1).f0) == 1) = false := beq_eq_false_iff_ne.mpr c45
                  have c45b1 : (((rd_T52 t128 x13_1).f0) != 1) = true := bne_iff_ne.mpr c45
                  have H' := Aside0.mk H
                  clear H
                  have p131 : 0 ≤ (x13_1 : Int) := of_decide_eq_true (by first | (with_reducible assumption) | assumption)
                  have q131 : x13_1 < (t128.length : Int) := of_decide_eq_true (by first | (with_reducible assumption) | assumption)
                  obtain ⟨ad131, A131_4, c131_4, e131, hx131_0, hx131_1, hx131_2, hx131_3, hx131_4, hl131_4, hi131_4⟩ := at_T52 (Kd.N_reads' HO_11.out).2.2 x13_1 p131 q131
                  cases e131
                  obtain ⟨ce131, hce131, hMe131, hcc131⟩ := Kd.N_get HO_11.out z52 x13_1 p131 (by first | exact q131 | exact of_decide_eq_true (by first | (with_reducible assumption) | assumption) | (have e_ := (Kd.N_reads' HO_11.out).1; omega))
                  obtain ⟨ua131_4, uc131_4, rfl, ul131_4, ge131_4⟩ := k52_openF hMe131
                  have hv131_4 := hcc131 4 _ rfl
                  rw [add_field _ _ 4 (by omega)] at hv131_4
                  replace hv131_4 := Option.some.inj (hv131_4.symm.trans hx131_4)
                  injection hv131_4 with hva_ hvn_ hvc_
                  rw [hva_] at ge131_4
                  rw [hvc_] at ul131_4
                  have HL131_4 := Aside0.mk (show Kd.V k84 84 _ w.heap.size _ _ ((rd_T52 t128 x13_1).f4) from Kd.V_mk ul131_4 ge131_4)
                  clear hva_ hvn_ hvc_ ge131_4 ul131_4
                  clear hcc131 hce131
                  have HR131_4 := Aside0.mk hi131_4
                  have HC131_4 := Aside0.mk hl131_4
                  clear hi131_4 hl131_4
                  replace p131 := eq_true p131
                  replace q131 := eq_true q131
                  go_wp2_with (first | ((with_reducible refine gate_dst (N := 9) rfl ?_); refine box_event ?hg (N := 9) ?hd (cs := #[.int .i64 0, .int .i64 0, .int .i64 0, .int .i64 0, .slice none 0 0]) (t := 52) ?hr ?_; (case hd => rfl); (case hg => rfl); (case hr => first | (go_simp; done) | (go_simp; rfl)); intro gb132 hg w52 hbox hb; have n0_ := Aside0.mk (Kd.N_below (Kd.N_elderB (by (with_reducible repeat (first | apply Kd.N_alloc | apply Kd.N_drewN | apply Kd.N_drew)); exact HO_11.out) gb132 (Nat.le_of_eq hg.symm)) hb); have n1_ := Aside0.mk (Kd.V_below (Kd.V_elderB (by (with_reducible repeat (first | apply Kd.V_alloc | apply Kd.V_drewN | apply Kd.V_drew)); exact HL131_4.out) gb132 (Nat.le_of_eq hg.symm)) hb); have n2_ := Aside0.mk (Kd.C_below (by repeat (first | (with_reducible exact HR131_4.out) | (with_reducible refine Kd.C_alloc ?_ _) | (with_reducible refine Kd.C_drewN ?_ _) | (with_reducible refine Kd.C_drew ?_) | exact HR131_4.out)) hb); have n3_ := Aside0.mk (below_step (by repeat (first | (with_reducible first | exact HB.out | apply below_alloc | apply pw_below_drewN | apply below_drew1) | exact HB.out)) hb); have n4_ := Aside0.mk (hbox); have n5_ := Aside0.mk ((by rw [hg]; exact (below_size (by repeat (first | (with_reducible first | exact HB.out | apply below_alloc | apply pw_below_drewN | apply below_drew1) | exact HB.out))) : w.heap.size ≤ gb132)); have n6_ := Aside0.mk ((by rw [hg]; exact (below_size (by repeat (first | (with_reducible first | exact HB.out | apply below_alloc | apply pw_below_drewN | apply below_drew1) | exact HB.out))) : w.heap.size ≤ gb132)); clear HO_11; clear HL131_4; clear HR131_4; clear HB; have HO_11 := n0_; have HL131_4 := n1_; have HR131_4 := n2_; have HB := n3_; have BK132 := n4_; have GW132 := n5_; have GE132 := n6_; clear n0_ n1_ n2_ n3_ n4_ n5_ n6_; clear hb hbox hg; have hcz53_0 : w52.cell? ⟨gb132, 0, none⟩ = some (.int .i64 0) := (blk_cell BK132.out 0).trans rfl; have hcz53_1 : w52.cell? ⟨gb132, 1, none⟩ = some (.int .i64 0) := (blk_cell BK132.out 1).trans rfl; have hcz53_2 : w52.cell? ⟨gb132, 2, none⟩ = some (.int .i64 0) := (blk_cell BK132.out 2).trans rfl; have hcz53_3 : w52.cell? ⟨gb132, 3, none⟩ = some (.int .i64 0) := (blk_cell BK132.out 3).trans rfl; have hcz53_4 : w52.cell? ⟨gb132, 4, none⟩ = some (.slice none 0 0) := (blk_cell BK132.out 4).trans rfl; have hfz53_0 := blk_frozen BK132.out 0; have hfz53_1 := blk_frozen BK132.out 1; have hfz53_2 := blk_frozen BK132.out 2; have hfz53_3 := blk_frozen BK132.out 3; have hfz53_4 := blk_frozen BK132.out 4))
                  go_roundg k1
                  case measure => have := HK1.out; omega
                  case rel => exact ⟨(x5_1), (x6_1), (x7_1), (wrap64 (x13_1 + 1)), (by first | rfl | (simp; done) | (simp [*]; done) | (simp [Int.tdiv_eq_ediv_of_nonneg]; done)), (by first | rfl | (simp; done) | (simp [*]; done) | (simp [Int.tdiv_eq_ediv_of_nonneg]; done)), (by first | rfl | (simp; done) | (simp [*]; done) | (simp [Int.tdiv_eq_ediv_of_nonneg]; done)), (by first | rfl | (simp; done) | (simp [*]; done) | (simp [Int.tdiv_eq_ediv_of_nonneg]; done)), H', ⟨by have := HK1.out; omega⟩, ⟨by (with_reducible repeat (first | apply Kd.N_alloc | apply Kd.N_drewN | apply Kd.N_drew)); exact Kd.N_mono (Kd.N_far (p := ⟨gb132, 4, none⟩) (Kd.N_far (p := ⟨gb132, 3, none⟩) (Kd.N_far (p := ⟨gb132, 2, none⟩) (Kd.N_far (p := ⟨gb132, 1, none⟩) (Kd.N_far (p := ⟨gb132, 0, none⟩) (Kd.N_mono HO_11.out (fun k_ hk => (⟨hk, hk.2⟩ : _ ∧ k_ ≠ gb132))) (fun _ hk => hk.2) (.int .i64 ((rd_T52 t128 x13_1).f0))) (fun _ hk => hk.2) (.int .i64 ((rd_T52 t128 x13_1).f1))) (fun _ hk => hk.2) (.int .i64 ((rd_T52 t128 x13_1).f2))) (fun _ hk => hk.2) (.int .i64 ((rd_T52 t128 x13_1).f3))) (fun _ hk => hk.2) (.slice A131_4 ((rd_T52 t128 x13_1).f4).length c131_4)) (fun _ hk => trivial)⟩, ⟨by repeat (first | (with_reducible first | exact HB.out | apply below_alloc | apply pw_below_drewN | apply below_drew1 | refine below_set ?_ GE132.out) | exact HB.out)⟩⟩
          · rw [if_neg c8] at H
            exact absurd H (by simp)
        · rw [if_neg c7] at H
          exact absurd H (by simp)
      · rw [if_neg c6] at H
        have c6b0 : decide (x13_1 < (t128.length : Int)) = false := decide_eq_false c6
        clear c6
        obtain rfl := Option.some.inj H
        go_wp2
        go_ret
        exact ⟨by first | rfl | (simp [errW_none, errW_some] <;> rfl) | (simp [*, errW_none, errW_some] <;> rfl), by repeat (first | (with_reducible first | exact HB.out | apply below_alloc | apply pw_below_drewN | apply below_drew1) | exact HB.out)⟩

/-! ### prog_Cost: function 17 -/
open Go.Proofs.YtjnhahdelipebaaH (Upd Rd)
def lastI (ts : List Int) : Int := ts.getD (ts.length - 1) 0
/-- Through all ops, with how often each is done. -/
def eachF (see : S52 → Int → Int → Int) : List S52 → List Int → Int → Int
  | [], _, n => n
  | o :: l, ts, n => if o.f0 = 8 then eachF see l (ts ++ [wrap64 (lastI ts * o.f1)]) n else if o.f0 = 9 then eachF see l (ts.take (max (ts.length - 1) 1)) n else eachF see l ts (see o (lastI ts) n)
theorem tIntC : Go.Proofs.YtjnhahdelipebaaH.ElemT Try.prog 42 3 (.int .i64 0) 1 8 :=
  ⟨Try.underlying42, by
    obtain ⟨i, hi, h⟩ := info_parts (show (Try.prog.info? 3).map (fun i => (i.zero, i.size, i.bytes)) = some (some (.int .i64 0), 1, 8) by kernel_rfl)
    exact ⟨i, hi, h⟩, rfl, by decide⟩
theorem run_uptoC {P : Program} {t e : TypeId} {z : Value} {size bytes : Nat} (T : Go.Proofs.YtjnhahdelipebaaH.ElemT P t e z size bytes) (g n cap u : Nat) (hu : u ≤ cap) {U : Int} (hU : U = (u : Int)) (W : World) :
    (Instr.slice t (.slice (some ⟨g, 0, none⟩) n cap) none (some (.int .i64 U)) none).run P W = .ok (.slice (some ⟨g, 0, none⟩) u cap) W := by
  obtain ⟨i, hi, hz, hsz, hby⟩ := T.info
  subst hU
  simp [Instr.slice, run_underlying T.und, Instr.sliceBounds, run_sliceBound, show (u : Int) ≤ (cap : Int) by omega, sizeOf, run_typeInfo _ hi, hsz, Addr.add]
theorem own_take {w : World} {base g cap n u : Nat} {e : TypeId} {ts : List Int} (h : w.ownsRow base e 1 (.slice (some ⟨g, 0, none⟩) n cap) n (ts.map (Value.int .i64))) (hu : u ≤ n) : w.ownsRow base e 1 (.slice (some ⟨g, 0, none⟩) u cap) u ((ts.take u).map (Value.int .i64)) := by
  rcases h.2 with ⟨he, h0⟩ | ⟨g', cap', cur, he, hb, hg, hn, hm, hs, ht⟩
  · injection he with h1; cases h1
  · injection he with h1 h2 h3
    cases h1
    subst h3
    have hl : ts.length = n := by have := h.1; simpa using this
    refine ⟨by simp; omega, .inr ⟨g, cap, cur, rfl, hb, hg, by omega, hm, hs, ?_⟩⟩
    rw [List.map_take, ← ht, List.take_take]
    congr 1
    omega
theorem own_get {w : World} {base g cap n : Nat} {e : TypeId} {ts : List Int} (h : w.ownsRow base e 1 (.slice (some ⟨g, 0, none⟩) n cap) n (ts.map (Value.int .i64))) {i : Nat} (hi : i < ts.length) : w.cell? ⟨g, i, none⟩ = some (.int .i64 (ts.getD i 0)) := by
  have := h.cells (g := g) rfl i (.int .i64 (ts.getD i 0)) (by simp [List.getD, hi])
  rwa [add_plain] at this
set_option maxHeartbeats 8000000 in
set_option maxRecDepth 100000 in
theorem each_any (see : S52 → Int → Int → Int) (T nb : Nat) (A : Option Addr) (c : Nat) (l : List S52) (n0 : Int) (w0 w : World) (hl : Kd.C k52 w0 A l.length l) (hb0 : Below w0.heap.size w0 w) (hnb0 : w0.heap.size ≤ nb) (hc : l.length ≤ c) (hm : l.length ≤ 1000000000)
    (hnb : w.heap[nb]? = some (.cells #[.int .i64 n0] T (0, 0)))
    (hcl : ∀ (o : S52) (B : Option Addr) (d : Nat) (t n : Int) (W : World), Upd [nb] w W → W.heap[nb]? = some (.cells #[.int .i64 n] T (0, 0)) → Calls Try.prog 39 #[.agg #[.int .i64 o.f0, .int .i64 o.f1, .int .i64 o.f2, .int .i64 o.f3, .slice B o.f4.length d], .int .i64 t, .pointer (some ⟨nb, 0, none⟩)] W fun e w' => e = .returned (.tuple #[]) ∧ w'.heap[nb]? = some (.cells #[.int .i64 (see o t n)] T (0, 0)) ∧ Upd [nb] W w') :
    Calls Try.prog 38 #[.slice A l.length c, .func (.func 39) #[] #[.pointer (some ⟨nb, 0, none⟩)]] w fun e w' => e = .returned (.tuple #[]) ∧ w'.heap[nb]? = some (.cells #[.int .i64 (eachF see l [1] n0)] T (0, 0)) ∧ Upd [nb] w w' := by
  obtain ⟨R, hR⟩ : ∃ R, R = eachF see l [1] n0 := ⟨_, rfl⟩
  rw [← hR]
  have HR := Lib.hid hR
  have HCL := Lib.hid hcl
  have HL := Lib.hid hl
  have HNB := Lib.hid hnb
  obtain ⟨N, hN⟩ : ∃ N, N = l.length := ⟨_, rfl⟩
  have HN := Lib.hid hN
  rw [← hN] at hm ⊢
  clear hR hcl hl hnb hN hc
  go_enter Try.func38, Try.ntmps38
  go_wp2
  go_loopw [4, 11] (fun v i wr => ∃ (k g cap : Nat) (ts : List Int) (n : Int), k ≤ N ∧ i = .int .i64 k ∧ v = .slice (some ⟨g, 0, none⟩) ts.length cap ∧ 1 ≤ ts.length ∧ ts.length ≤ k + 1 ∧ wr.ownsRow w.heap.size 3 1 (.slice (some ⟨g, 0, none⟩) ts.length cap) ts.length (ts.map (Value.int .i64)) ∧ wr.heap[nb]? = some (.cells #[.int .i64 n] T (0, 0)) ∧ Upd [nb] w wr ∧ Hid (eachF see (l.drop k) ts n = R)) (fun _ i _ => N - (intOf i).toNat)
  case atStart =>
    refine ⟨0, w.heap.size, 1, [1], n0, Nat.zero_le _, rfl, rfl, by simp, by simp, ?_, ?_, (Upd.refl _ _).alloc _, Lib.hid (by rw [List.drop_zero]; exact HR.out.symm)⟩
    · exact ⟨rfl, .inr ⟨w.heap.size, 1, _, rfl, Nat.le_refl _, heap_alloc_new w _, Nat.le_refl _, by unfold maxLen; omega, rfl, rfl⟩⟩
    · exact ((Upd.refl [] w).alloc _).keep HNB.out (by simp)
  case round =>
    obtain ⟨k, g, cap, ts, n, hk, rfl, rfl, ht1, ht2, hown, hnb, hu, HE⟩ := hrel
    have hbw : Below w0.heap.size w0 wr := hb0.trans (hu.belowB hb0.size (by simpa using hnb0))
    by_cases hlt : k < N
    · have hkl : k < l.length := by rw [← HN.out]; exact hlt
      obtain ⟨ad, A4, c4, rfl, x0, x1, x2, x3, x4, -, -⟩ := at_T52 (Kd.C_below HL.out hbw) k (by omega) (by omega)
      obtain ⟨o, ho⟩ : ∃ o, o = rd_T52 l k := ⟨_, rfl⟩
      rw [← ho] at x0 x1 x2 x3 x4
      simp only [Int.toNat_natCast] at x0 x1 x2 x3 x4
      have hdr : l.drop k = o :: l.drop (k + 1) := by
        rw [List.drop_eq_getElem_cons hkl, ho]
        simp [rd_T52, List.getD, hkl]
      have hE := HE.out
      rw [hdr, eachF] at hE
      have hlast := own_get hown (i := ts.length - 1) (by omega)
      have hli : ts.getD (ts.length - 1) 0 = lastI ts := rfl
      rw [hli] at hlast
      obtain ⟨m, hm2⟩ : ∃ m, m = ts.length := ⟨_, rfl⟩
      rw [← hm2] at hlast hown ht1 ht2 ⊢
      obtain ⟨q, hq⟩ : ∃ q, q = m - 1 := ⟨_, rfl⟩
      rw [← hq] at hlast
      have hq0 : (0 : Int) ≤ (q : Int) := by omega
      have hq1 : (q : Int) < (m : Int) := by omega
      have hqm : IntKind.i64.wrap ((m : Int) - 1) = (q : Int) := by rw [IntWalk.i64_in _ (by omega)]; omega
      obtain ⟨la, hla⟩ : ∃ la, la = lastI ts := ⟨_, rfl⟩
      rw [← hla] at hlast hE
      have HE2 := Lib.hid hE
      have HLA := Lib.hid hla
      have HM := Lib.hid hm2
      have HQ := Lib.hid hq
      have HO := Lib.hid ho
      have hadl := World.block_lt_of_cell? wr _ x1
      have hbl := World.block_lt_of_cell? wr _ hlast
      clear hE hla hm2 hq hdr hli HE ho
      by_cases h8 : o.f0 = 8
      · have t8 : (o.f0 == 8) = true := beq_iff_eq.2 h8
        have hE2 := HE2.out
        rw [if_pos h8] at hE2
        have HE3 := Lib.hid hE2
        clear HE2 hE2 h8
        have hm1 : m + 1 ≤ maxLen := by unfold maxLen; omega
        have hm3 : (m + 1) * 8 ≤ 140737488355328 := by omega
        have hown2 := Go.Proofs.YtjnhahdelipebaaH.own_keep0 hown ((Upd.refl [] wr).alloc (.cells #[.int .i64 o.f0, .int .i64 o.f1, .int .i64 o.f2, .int .i64 o.f3, .slice A4 o.f4.length c4] 52))
        have hb2 : w.heap.size ≤ (wr.alloc (.cells #[.int .i64 o.f0, .int .i64 o.f1, .int .i64 o.f2, .int .i64 o.f3, .slice A4 o.f4.length c4] 52)).heap.size := by have := hu.size; simp; omega
        go_wp2_with (first
          | (at_builtin; refine Go.Proofs.YtjnhahdelipebaaH.wp_push_at tIntC rfl (.tmp 29) (.tmp 34) rfl hown2 [.int .i64 (wrap64 (la * o.f1))] rfl rfl (World.size_alloc _ _).symm rfl (by intro u hu; simp at hu; subst hu; rfl) hm1 hm3 hb2 ?_; intro g3 c3 w3 hown3 hu3))
        have hgw := (hown.lt g rfl).1
        have hnbw := blk_lt HNB.out
        have HU3 := Lib.hid hu3
        have HOWN3 := Lib.hid hown3
        clear hu3 hown3 hown2
        go_wp2
        go_roundw
        case rel =>
          have hlen : (ts ++ [wrap64 (la * o.f1)]).length = m + 1 := by rw [List.length_append, HM.out]; rfl
          refine ⟨k + 1, g3, c3, ts ++ [wrap64 (la * o.f1)], n, by omega, by go_num, by rw [hlen], by omega, by omega, ?_, ?_, ?_, Lib.hid (by rw [HLA.out] at HE3 ⊢; exact HE3.out)⟩
          · rw [hlen]
            simpa using HOWN3.out
          · exact HU3.out.keep (((Upd.refl [] wr).alloc _).keep hnb (by simp)) (by simp [Value.ownBlock]; omega)
          · exact (hu.alloc _).trans HU3.out (fun x hx hl => by simp [Value.ownBlock] at hx; omega)
        case measure => simp [intOf]; omega
      · have t8 : (o.f0 == 8) = false := beq_eq_false_iff_ne.2 h8
        have hE2 := HE2.out
        rw [if_neg h8] at hE2
        by_cases h9 : o.f0 = 9
        · have t9 : (o.f0 == 9) = true := beq_iff_eq.2 h9
          rw [if_pos h9] at hE2
          have HE3 := Lib.hid hE2
          obtain ⟨u, hu1⟩ : ∃ u, u = max (m - 1) 1 := ⟨_, rfl⟩
          have hum : u ≤ m := by omega
          have hmc : m ≤ cap := by
            obtain ⟨a', c', he, hle⟩ := Go.Proofs.YtjnhahdelipebaaH.own_slice hown
            injection he with _ _ h3
            omega
          have htk := own_take hown hum
          have HTK := Lib.hid htk
          have HU1 := Lib.hid hu1
          have hrun := fun W => run_uptoC (P := Try.prog) tIntC g m cap u (by omega) (U := (u : Int)) rfl W
          have hmx : (if (1 : Int) > (q : Int) then (1 : Int) else (q : Int)) = (u : Int) := by have := HQ.out; split <;> omega
          have hmx2 : (if (q : Int) < 1 then (1 : Int) else (q : Int)) = (u : Int) := by have := HQ.out; split <;> omega
          have hmx3 : max (q : Int) 1 = (u : Int) := by have := HQ.out; omega
          clear HE2 hE2 h8 h9 hu1 htk
          go_wp2
          go_roundw
          case rel =>
            have hlen : (ts.take u).length = u := by rw [List.length_take, ← HM.out]; omega
            refine ⟨k + 1, g, cap, ts.take u, n, by omega, by go_num, by rw [hlen], by have := HU1.out; omega, by omega, by rw [hlen]; exact Go.Proofs.YtjnhahdelipebaaH.own_keep0 HTK.out ((Upd.refl [] wr).alloc _), ((Upd.refl [] wr).alloc _).keep hnb (by simp), hu.alloc _, Lib.hid (by rw [HU1.out, HM.out]; exact HE3.out)⟩
          case measure => simp [intOf]; omega
        · have t9 : (o.f0 == 9) = false := beq_eq_false_iff_ne.2 h9
          rw [if_neg h9] at hE2
          have HE3 := Lib.hid hE2
          clear HE2 hE2 h8 h9
          have hnb2 := ((Upd.refl [] wr).alloc (.cells #[.int .i64 o.f0, .int .i64 o.f1, .int .i64 o.f2, .int .i64 o.f3, .slice A4 o.f4.length c4] 52)).keep hnb (by simp)
          have hgw := (hown.lt g rfl).1
          have hnbw := blk_lt HNB.out
          go_wp2_with fail
          refine (HCL.out o A4 c4 la n _ (hu.alloc _) hnb2).mono ?_
          rintro e w1 ⟨rfl, hnb3, hu3⟩
          have HU3 := Lib.hid hu3
          have HNB3 := Lib.hid hnb3
          clear hu3 hnb3
          go_wp2
          go_roundw
          case rel =>
            refine ⟨k + 1, g, cap, ts, _, by omega, by go_num, by rw [HM.out], by have := HM.out; omega, by have := HM.out; omega, ?_, HNB3.out, (hu.alloc _).transS HU3.out, HE3⟩
            rw [← HM.out]
            exact Go.Proofs.YtjnhahdelipebaaH.own_keep (Go.Proofs.YtjnhahdelipebaaH.own_keep0 hown ((Upd.refl [] wr).alloc _)) HU3.out (fun x hx => by simp [Value.ownBlock] at hx; simp; omega)
          case measure => simp [intOf]; omega
    · obtain rfl : k = N := by omega
      have hE := HE.out
      rw [List.drop_of_length_le (by rw [← HN.out]; exact Nat.le_refl _), eachF] at hE
      subst hE
      go_wp2
      first | go_end0 | ((try simp only [Exit.inBlock, Exit.then]); refine bodyPost_ret (results_none rfl _ _ _) rfl ?_)
      exact ⟨rfl, hnb, hu⟩
def costSee (o : S52) (t n : Int) : Int := if o.f0 = 1 then wrap64 (n + wrap64 (o.f1 * t)) else n
set_option maxHeartbeats 4000000 in
set_option maxRecDepth 100000 in
theorem cost_closure (nb : Nat) (o : S52) (B : Option Addr) (d : Nat) (t n : Int) (W : World) (hnb : W.heap[nb]? = some (.cells #[.int .i64 n] 2 (0, 0))) :
    Calls Try.prog 39 #[.agg #[.int .i64 o.f0, .int .i64 o.f1, .int .i64 o.f2, .int .i64 o.f3, .slice B o.f4.length d], .int .i64 t, .pointer (some ⟨nb, 0, none⟩)] W fun e w' => e = .returned (.tuple #[]) ∧ w'.heap[nb]? = some (.cells #[.int .i64 (costSee o t n)] 2 (0, 0)) ∧ Upd [nb] W w' := by
  have hc := (blk_cell hnb 0).trans (show (#[Value.int .i64 n] : Array Value)[0]? = some (.int .i64 n) from rfl)
  have hf := blk_frozen hnb 0
  have hlt := blk_lt hnb
  have hnb2 := ((Upd.refl [] W).alloc (.cells #[.int .i64 o.f0, .int .i64 o.f1, .int .i64 o.f2, .int .i64 o.f3, .slice B o.f4.length d] 52)).keep hnb (by simp)
  have HNB2 := Lib.hid hnb2
  have HNB1 := Lib.hid hnb
  unfold costSee
  by_cases h1 : o.f0 = 1
  · have t1 : (o.f0 == 1) = true := beq_iff_eq.2 h1
    rw [if_pos h1]
    clear h1 hnb hnb2
    go_enter Try.func39, Try.ntmps39
    go_wp2
    first | go_end0 | ((try simp only [Exit.inBlock, Exit.then]); refine bodyPost_ret (results_none rfl _ _ _) rfl ?_)
    exact ⟨rfl, ((Upd.refl [] _).alloc _).keep (by simpa using blk_set HNB1.out 0 (.int .i64 (wrap64 (n + wrap64 (o.f1 * t))))) (by simp), ((Upd.refl [nb] W).setCell _ _ (by simp)).alloc _⟩
  · have t1 : (o.f0 == 1) = false := beq_eq_false_iff_ne.2 h1
    rw [if_neg h1]
    clear h1 hnb hnb2
    go_enter Try.func39, Try.ntmps39
    go_wp2
    first | go_end0 | ((try simp only [Exit.inBlock, Exit.then]); refine bodyPost_ret (results_none rfl _ _ _) rfl ?_)
    exact ⟨rfl, HNB2.out, (Upd.refl _ _).alloc _⟩
def prog_Cost.f (k : Nat) (l0 : List (S52)) : Option (Int) := if l0.length ≤ 1000000000 then some (eachF costSee l0 [1] 0) else none
theorem prog_Cost.mono : ∀ a0 k, LeO (prog_Cost.f k a0) (prog_Cost.f (k + 1) a0) := fun _ _ => LeO.refl _
set_option maxHeartbeats 4000000 in
set_option maxRecDepth 100000 in
theorem prog_Cost.calls (k : Nat) (A0 : Option Addr) (c0 : Nat) (l0 : List (S52)) (r : Int) (w : World) (hr0 : Kd.C k52 w A0 l0.length l0) (hc0 : l0.length ≤ c0) (h : prog_Cost.f k l0 = some r) :
    Calls Try.prog 17 #[.slice A0 l0.length c0] w fun e w' => e = .returned (.int .i64 r) ∧ Below w.heap.size w w' := by
  unfold prog_Cost.f at h
  split at h
  case isFalse => cases h
  case isTrue hm =>
  injection h with h
  have hB0 : Below w.heap.size w (w.alloc (.cells #[.int .i64 0] 2)) := (Below.refl _ _).alloc (Nat.le_refl _) _
  have hnb0 : (w.alloc (.cells #[.int .i64 0] 2)).heap[w.heap.size]? = some (.cells #[.int .i64 0] 2 (0, 0)) := heap_alloc_new w _
  have heach := each_any costSee 2 w.heap.size A0 c0 l0 0 w _ hr0 hB0 (Nat.le_refl _) hc0 hm hnb0 (fun o B d t n W _ hn => cost_closure w.heap.size o B d t n W hn)
  rw [h] at heach
  have HB0 := Lib.hid hB0
  have HE := Lib.hid heach
  clear h hr0 hc0 hm hnb0 heach hB0
  have hmf : ∀ (fn : Fn) (first cap : Array Value) (w : World), (Instr.makeFunc fn first cap).run Try.prog w = .ok (.func fn first cap) w := fun _ _ _ _ => rfl
  go_enter Try.func17, Try.ntmps17
  go_wp2_with fail
  refine HE.out.mono ?_
  rintro e w1 ⟨rfl, hnb, hu⟩
  have hc := (blk_cell hnb 0).trans (show (#[Value.int .i64 r] : Array Value)[0]? = some (.int .i64 r) from rfl)
  go_wp2
  go_ret
  exact ⟨rfl, HB0.out.trans (hu.belowB HB0.out.size (by simp))⟩


end Go.Proofs.Ytjnhahdelipebaa.XA
