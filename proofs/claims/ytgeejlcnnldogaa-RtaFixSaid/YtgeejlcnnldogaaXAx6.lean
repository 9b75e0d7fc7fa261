-- PRINTED by print.py (a twelfth state) out of the translation. Not trusted: Lean checks it.
import Derived.Test.YtgeejlcnnldogaaXAx0
import Derived.Test.YtgeejlcnnldogaaXAx5
namespace Go.Proofs.Ytgeejlcnnldogaa.XA
open Go.RowKit Go.Proofs.YtgeejlcnnldogaaW.PrintWords Go.Proofs.YtgeejlcnnldogaaW.PrintLast Go.Proofs.YtgeejlcnnldogaaW.PrintMore
attribute [local go_sem] max2_int min2_int max_two min_two max_three min_three max_four min_four   -- for this text's walks alone
set_option linter.unusedVariables false
set_option linter.unusedSimpArgs false

/-! ### prog_Section: function 61 -/
def prog_Section.l0 : Nat → Int → Int → Int → Bool → List (S86) → Int → Int → Option (Int)
  | 0, _, _, _, _, _, _, _ => none
  | k + 1, x1, x5, x6, x7, x11, x12, x13 => if x13 < x12 then (if 0 ≤ x13 then (if x13 < (x11.length : Int) then (if ((rd_T86 x11 x13).f0) = 2 then (if ((rd_T86 x11 x13).f1) = x1 then (prog_Section.l0 k x1 x5 0 true x11 x12 (wrap64 (x13 + 1))) else (if ((rd_T86 x11 x13).f0) = 3 then (if ((rd_T86 x11 x13).f0) = 1 then (if x7 = true then (prog_Section.l0 k x1 (mx x5 (wrap64 (x6 + ((rd_T86 x11 x13).f1)))) (wrap64 (x6 + ((rd_T86 x11 x13).f1))) x7 x11 x12 (wrap64 (x13 + 1))) else (prog_Section.l0 k x1 x5 x6 x7 x11 x12 (wrap64 (x13 + 1)))) else (prog_Section.l0 k x1 x5 x6 x7 x11 x12 (wrap64 (x13 + 1)))) else (if ((rd_T86 x11 x13).f0) = 1 then (if x7 = true then (prog_Section.l0 k x1 (mx x5 (wrap64 (x6 + ((rd_T86 x11 x13).f1)))) (wrap64 (x6 + ((rd_T86 x11 x13).f1))) x7 x11 x12 (wrap64 (x13 + 1))) else (prog_Section.l0 k x1 x5 x6 x7 x11 x12 (wrap64 (x13 + 1)))) else (prog_Section.l0 k x1 x5 x6 x7 x11 x12 (wrap64 (x13 + 1)))))) else (if ((rd_T86 x11 x13).f0) = 3 then (if ((rd_T86 x11 x13).f1) = x1 then (prog_Section.l0 k x1 x5 x6 false x11 x12 (wrap64 (x13 + 1))) else (if ((rd_T86 x11 x13).f0) = 1 then (if x7 = true then (prog_Section.l0 k x1 (mx x5 (wrap64 (x6 + ((rd_T86 x11 x13).f1)))) (wrap64 (x6 + ((rd_T86 x11 x13).f1))) x7 x11 x12 (wrap64 (x13 + 1))) else (prog_Section.l0 k x1 x5 x6 x7 x11 x12 (wrap64 (x13 + 1)))) else (prog_Section.l0 k x1 x5 x6 x7 x11 x12 (wrap64 (x13 + 1))))) else (if ((rd_T86 x11 x13).f0) = 1 then (if x7 = true then (prog_Section.l0 k x1 (mx x5 (wrap64 (x6 + ((rd_T86 x11 x13).f1)))) (wrap64 (x6 + ((rd_T86 x11 x13).f1))) x7 x11 x12 (wrap64 (x13 + 1))) else (prog_Section.l0 k x1 x5 x6 x7 x11 x12 (wrap64 (x13 + 1)))) else (prog_Section.l0 k x1 x5 x6 x7 x11 x12 (wrap64 (x13 + 1)))))) else (none)) else (none)) else (some x5)
def prog_Section.f (k : Nat) (l0 : List (S86)) (a1 : Int) : Option (Int) := (prog_Flat.f k l0).bind fun t179 => (prog_Section.l0 k a1 0 0 false t179 (t179.length : Int) 0)
theorem prog_Section.mono_l : ∀ k, (∀ y0 y1 y2 y3 y4 y5 y6, LeO (prog_Section.l0 k y0 y1 y2 y3 y4 y5 y6) (prog_Section.l0 (k + 1) y0 y1 y2 y3 y4 y5 y6))
  | 0 => fun _ _ _ _ _ _ _ r h => by simp [prog_Section.l0] at h
  | k + 1 => by
    have ih0 := prog_Section.mono_l k
    · intro y0 y1 y2 y3 y4 y5 y6
      unfold prog_Section.l0
      repeat' first
      | (with_reducible exact ih0 _ _ _ _ _ _ _)
      | (with_reducible exact prog_Flat.mono _ _)
      | (with_reducible exact LeO.refl _)
      | (with_reducible exact LeO.none _)
      | (with_reducible refine LeO.ite ?_ ?_)
      | (with_reducible refine LeO.bind ?_ (fun _ => ?_))
      | exact ih0 _ _ _ _ _ _ _
      | exact prog_Flat.mono _ _
      | exact LeO.none _
      | refine LeO.ite ?_ ?_
      | refine LeO.bind ?_ (fun _ => ?_)
theorem prog_Section.mono : ∀ a0 a1 k, LeO (prog_Section.f k a0 a1) (prog_Section.f (k + 1) a0 a1) := by
  intro a0 a1 k
  have ih0 := prog_Section.mono_l k
  unfold prog_Section.f
  repeat' first
      | (with_reducible exact ih0 _ _ _ _ _ _ _)
      | (with_reducible exact prog_Flat.mono _ _)
      | (with_reducible exact LeO.refl _)
      | (with_reducible exact LeO.none _)
      | (with_reducible refine LeO.ite ?_ ?_)
      | (with_reducible refine LeO.bind ?_ (fun _ => ?_))
      | exact ih0 _ _ _ _ _ _ _
      | exact prog_Flat.mono _ _
      | exact LeO.none _
      | refine LeO.ite ?_ ?_
      | refine LeO.bind ?_ (fun _ => ?_)
set_option maxHeartbeats 8000000 in
set_option maxRecDepth 100000 in
theorem prog_Section.calls (k : Nat) (A0 : Option Addr) (c0 : Nat) (l0 : List (S86)) (a1 : Int) (r : Int) (w : World) (hr0 : Kd.C k86 w A0 l0.length l0) (hc0 : l0.length ≤ c0) (h : prog_Section.f k l0 a1 = some r) :
    Calls Try.prog 61 #[.slice A0 l0.length c0, .int .i64 a1] w fun e w' => e = .returned (.int .i64 r) ∧ Below w.heap.size w w' := by
  have hu86 := Try.underlying86
  have HR0 := Aside0.mk hr0
  have HC0 := Aside0.mk hc0
  clear hr0 hc0
  have HB := Aside0.mk (Below.refl w.heap.size w)
  have H : ((prog_Flat.f k l0).bind fun t179 => (prog_Section.l0 k a1 0 0 false t179 (t179.length : Int) 0)) = some r := h
  clear h
  replace H := Option.bind_eq_some_iff.mp H
  obtain ⟨t179, A30, H⟩ := H
  replace H : (prog_Section.l0 k a1 0 0 false t179 (t179.length : Int) 0) = some r := H
  have A3 := Aside0.mk A30
  clear A30
  have H' := Aside0.mk H
  clear H
  go_enter Try.func61, Try.ntmps61
  go_wp2_with (first | ((with_reducible refine gate_callee (f := 71) rfl ?_); refine goesL_ (some 11) rfl rfl Try.func71 (by kernel_rfl) rfl #[.slice A0 l0.length c0] rfl (by (try simp only [List.map_toArray, List.map_cons, List.map_nil]); first | done | rfl | (simp only [List.length_drop, List.length_take]; rfl)) ?_; (with_reducible refine (prog_Flat.calls k (fun k_ => k_ < w.heap.size) _ _ l0 t179 _ ?side1 A3.out).mono ?_); (case side1 => exact Kd.V_mk HC0.out (Kd.F_below (Kd.C_F k86_heap HR0.out) (by repeat (first | (with_reducible first | exact HB.out | apply below_alloc | apply pw_below_drewN | apply below_drew1) | exact HB.out)))); rintro e w4 ⟨v180, rfl, ho0, hb⟩; refine ⟨_, rfl, ?_⟩; have n0_ := Aside0.mk (Kd.N_lower (Kd.N_mono (ok' := fun k_ => True) ho0 (fun k_ hk_ => trivial)) (below_size (by repeat (first | (with_reducible first | exact HB.out | apply below_alloc | apply pw_below_drewN | apply below_drew1) | exact HB.out)))); have n1_ := Aside0.mk (below_step (by repeat (first | (with_reducible first | exact HB.out | apply below_alloc | apply pw_below_drewN | apply below_drew1) | exact HB.out)) hb); clear HB; have HO181 := n0_; have HB := n1_; clear n0_ n1_; (try clear hb); (try clear hb2); (try clear hk); (try clear hi); (try clear ho0); obtain ⟨Ao5, co5, eo5⟩ := Kd.N_slice HO181.out; subst eo5))
  go_loopg [5, 6, 7, 13] k (fun kq v5 v6 v7 v13 w' => ∃ (x5_1 : Int) (x6_1 : Int) (x7_1 : Bool) (x13_1 : Int), v5 = .int .i64 x5_1 ∧ v6 = .int .i64 x6_1 ∧ v7 = .bool x7_1 ∧ v13 = .int .i64 x13_1 ∧ Aside0 (prog_Section.l0 kq a1 x5_1 x6_1 x7_1 t179 (t179.length : Int) x13_1 = some r) ∧ Aside0 (kq ≤ k) ∧ Aside0 (Kd.N k86 86 w' w.heap.size (fun _ => True) (.slice Ao5 t179.length co5) t179) ∧ Aside0 (Below w.heap.size w w'))
  case atStart => exact ⟨(0), (0), (false), (0), (by first | rfl | (simp; done) | (simp [*]; done) | (simp [Int.tdiv_eq_ediv_of_nonneg]; done)), (by first | rfl | (simp; done) | (simp [*]; done) | (simp [Int.tdiv_eq_ediv_of_nonneg]; done)), (by first | rfl | (simp; done) | (simp [*]; done) | (simp [Int.tdiv_eq_ediv_of_nonneg]; done)), (by first | rfl | (simp; done) | (simp [*]; done) | (simp [Int.tdiv_eq_ediv_of_nonneg]; done)), H', ⟨Nat.le_refl _⟩, ⟨by (with_reducible repeat (first | apply Kd.N_alloc | apply Kd.N_drewN | apply Kd.N_drew)); exact HO181.out⟩, ⟨by repeat (first | (with_reducible first | exact HB.out | apply below_alloc | apply pw_below_drewN | apply below_drew1) | exact HB.out)⟩⟩
  case round =>
    clear H'
    try clear p2
    obtain ⟨x5_1, x6_1, x7_1, x13_1, rfl, rfl, rfl, rfl, HA, HK1, HO_11, HB⟩ := hrel
    cases gk with
    | zero => exact absurd HA.out (by simp [prog_Section.l0])
    | succ k1 =>
      have H := HA.out
      clear HA
      simp only [prog_Section.l0] at H
      by_cases c6 : x13_1 < (t179.length : Int)
      · rw [if_pos c6] at H
        have c6b0 : decide (x13_1 < (t179.length : Int)) = true := decide_eq_true c6
        clear c6
        by_cases c7 : 0 ≤ x13_1
        · rw [if_pos c7] at H
          have c7b0 : decide (0 ≤ x13_1) = true := decide_eq_true c7
          clear c7
          by_cases c8 : x13_1 < (t179.length : Int)
          · rw [if_pos c8] at H
            have c8b0 : decide (x13_1 < (t179.length : Int)) = true := decide_eq_true c8
            clear c8
            by_cases c9 : ((rd_T86 t179 x13_1).f0) = 2
            · rw [if_pos c9] at H
              have c9b0 : (((rd_T86 t179 x13_1).f0) == 2) = true := beq_iff_eq.mpr c9
              have c9b1 : (((rd_T86 t179 x13_1).f0) != 2) = false := bne_eq_false_iff_eq.mpr c9
              clear c9
              by_cases c10 : ((rd_T86 t179 x13_1).f1) = a1
              · rw [if_pos c10] at H
                have c10b0 : (((rd_T86 t179 x13_1).f1) == a1) = true := beq_iff_eq.mpr c10
                have c10b1 : (((rd_T86 t179 x13_1).f1) != a1) = false := bne_eq_false_iff_eq.mpr c10
                clear c10
                have H' := Aside0.mk H
                clear H
                have p182 : 0 ≤ (x13_1 : Int) := of_decide_eq_true (by first | (with_reducible assumption) | assumption)
                have q182 : x13_1 < (t179.length : Int) := of_decide_eq_true (by first | (with_reducible assumption) | assumption)
                obtain ⟨ad182, A182_4, c182_4, e182, hx182_0, hx182_1, hx182_2, hx182_3, hx182_4, hl182_4, hi182_4⟩ := at_T86 (Kd.N_reads' HO_11.out).2.2 x13_1 p182 q182
                cases e182
                obtain ⟨ce182, hce182, hMe182, hcc182⟩ := Kd.N_get HO_11.out z86 x13_1 p182 (by first | exact q182 | exact of_decide_eq_true (by first | (with_reducible assumption) | assumption) | (have e_ := (Kd.N_reads' HO_11.out).1; omega))
                obtain ⟨ua182_4, uc182_4, rfl, ul182_4, ge182_4⟩ := k86_openF hMe182
                have hv182_4 := hcc182 4 _ rfl
                rw [add_field _ _ 4 (by omega)] at hv182_4
                replace hv182_4 := Option.some.inj (hv182_4.symm.trans hx182_4)
                injection hv182_4 with hva_ hvn_ hvc_
                rw [hva_] at ge182_4
                rw [hvc_] at ul182_4
                have HL182_4 := Aside0.mk (show Kd.V k122 122 _ w.heap.size _ _ ((rd_T86 t179 x13_1).f4) from Kd.V_mk ul182_4 ge182_4)
                clear hva_ hvn_ hvc_ ge182_4 ul182_4
                clear hcc182 hce182
                have HR182_4 := Aside0.mk hi182_4
                have HC182_4 := Aside0.mk hl182_4
                clear hi182_4 hl182_4
                replace p182 := eq_true p182
                replace q182 := eq_true q182
                go_wp2_with (first | ((with_reducible refine gate_dst (N := 9) rfl ?_); refine box_event ?hg (N := 9) ?hd (cs := #[.int .i64 0, .int .i64 0, .int .i64 0, .int .i64 0, .slice none 0 0]) (t := 86) ?hr ?_; (case hd => rfl); (case hg => rfl); (case hr => first | (go_simp; done) | (go_simp; rfl)); intro gb183 hg w11 hbox hb; have n0_ := Aside0.mk (Kd.N_below (Kd.N_elderB (by (with_reducible repeat (first | apply Kd.N_alloc | apply Kd.N_drewN | apply Kd.N_drew)); exact HO_11.out) gb183 (Nat.le_of_eq hg.symm)) hb); have n1_ := Aside0.mk (Kd.V_below (Kd.V_elderB (by (with_reducible repeat (first | apply Kd.V_alloc | apply Kd.V_drewN | apply Kd.V_drew)); exact HL182_4.out) gb183 (Nat.le_of_eq hg.symm)) hb); have n2_ := Aside0.mk (Kd.C_below (by repeat (first | (with_reducible exact HR182_4.out) | (with_reducible refine Kd.C_alloc ?_ _) | (with_reducible refine Kd.C_drewN ?_ _) | (with_reducible refine Kd.C_drew ?_) | exact HR182_4.out)) hb); have n3_ := Aside0.mk (below_step (by repeat (first | (with_reducible first | exact HB.out | apply below_alloc | apply pw_below_drewN | apply below_drew1) | exact HB.out)) hb); have n4_ := Aside0.mk (hbox); have n5_ := Aside0.mk ((by rw [hg]; exact (below_size (by repeat (first | (with_reducible first | exact HB.out | apply below_alloc | apply pw_below_drewN | apply below_drew1) | exact HB.out))) : w.heap.size ≤ gb183)); have n6_ := Aside0.mk ((by rw [hg]; exact (below_size (by repeat (first | (with_reducible first | exact HB.out | apply below_alloc | apply pw_below_drewN | apply below_drew1) | exact HB.out))) : w.heap.size ≤ gb183)); clear HO_11; clear HL182_4; clear HR182_4; clear HB; have HO_11 := n0_; have HL182_4 := n1_; have HR182_4 := n2_; have HB := n3_; have BK183 := n4_; have GW183 := n5_; have GE183 := n6_; clear n0_ n1_ n2_ n3_ n4_ n5_ n6_; clear hb hbox hg; have hcz12_0 : w11.cell? ⟨gb183, 0, none⟩ = some (.int .i64 0) := (blk_cell BK183.out 0).trans rfl; have hcz12_1 : w11.cell? ⟨gb183, 1, none⟩ = some (.int .i64 0) := (blk_cell BK183.out 1).trans rfl; have hcz12_2 : w11.cell? ⟨gb183, 2, none⟩ = some (.int .i64 0) := (blk_cell BK183.out 2).trans rfl; have hcz12_3 : w11.cell? ⟨gb183, 3, none⟩ = some (.int .i64 0) := (blk_cell BK183.out 3).trans rfl; have hcz12_4 : w11.cell? ⟨gb183, 4, none⟩ = some (.slice none 0 0) := (blk_cell BK183.out 4).trans rfl; have hfz12_0 := blk_frozen BK183.out 0; have hfz12_1 := blk_frozen BK183.out 1; have hfz12_2 := blk_frozen BK183.out 2; have hfz12_3 := blk_frozen BK183.out 3; have hfz12_4 := blk_frozen BK183.out 4))
                go_roundg k1
                case measure => have := HK1.out; omega
                case rel => exact ⟨(x5_1), (0), (true), (wrap64 (x13_1 + 1)), (by first | rfl | (simp; done) | (simp [*]; done) | (simp [Int.tdiv_eq_ediv_of_nonneg]; done)), (by first | rfl | (simp; done) | (simp [*]; done) | (simp [Int.tdiv_eq_ediv_of_nonneg]; done)), (by first | rfl | (simp; done) | (simp [*]; done) | (simp [Int.tdiv_eq_ediv_of_nonneg]; done)), (by first | rfl | (simp; done) | (simp [*]; done) | (simp [Int.tdiv_eq_ediv_of_nonneg]; done)), H', ⟨by have := HK1.out; omega⟩, ⟨by (with_reducible repeat (first | apply Kd.N_alloc | apply Kd.N_drewN | apply Kd.N_drew)); exact Kd.N_mono (Kd.N_far (p := ⟨gb183, 4, none⟩) (Kd.N_far (p := ⟨gb183, 3, none⟩) (Kd.N_far (p := ⟨gb183, 2, none⟩) (Kd.N_far (p := ⟨gb183, 1, none⟩) (Kd.N_far (p := ⟨gb183, 0, none⟩) (Kd.N_mono HO_11.out (fun k_ hk => (⟨hk, hk.2⟩ : _ ∧ k_ ≠ gb183))) (fun _ hk => hk.2) (.int .i64 ((rd_T86 t179 x13_1).f0))) (fun _ hk => hk.2) (.int .i64 ((rd_T86 t179 x13_1).f1))) (fun _ hk => hk.2) (.int .i64 ((rd_T86 t179 x13_1).f2))) (fun _ hk => hk.2) (.int .i64 ((rd_T86 t179 x13_1).f3))) (fun _ hk => hk.2) (.slice A182_4 ((rd_T86 t179 x13_1).f4).length c182_4)) (fun _ hk => trivial)⟩, ⟨by repeat (first | (with_reducible first | exact HB.out | apply below_alloc | apply pw_below_drewN | apply below_drew1 | refine below_set ?_ GE183.out) | exact HB.out)⟩⟩
              · rw [if_neg c10] at H
                have c10b0 : (((rd_T86 t179 x13_1).f1) == a1) = false := beq_eq_false_iff_ne.mpr c10
                have c10b1 : (((rd_T86 t179 x13_1).f1) != a1) = true := bne_iff_ne.mpr c10
                by_cases c13 : ((rd_T86 t179 x13_1).f0) = 3
                · rw [if_pos c13] at H
                  have c13b0 : (((rd_T86 t179 x13_1).f0) == 3) = true := beq_iff_eq.mpr c13
                  have c13b1 : (((rd_T86 t179 x13_1).f0) != 3) = false := bne_eq_false_iff_eq.mpr c13
                  clear c13
                  by_cases c14 : ((rd_T86 t179 x13_1).f0) = 1
                  · rw [if_pos c14] at H
                    have c14b0 : (((rd_T86 t179 x13_1).f0) == 1) = true := beq_iff_eq.mpr c14
                    have c14b1 : (((rd_T86 t179 x13_1).f0) != 1) = false := bne_eq_false_iff_eq.mpr c14
                    clear c14
                    by_cases c15 : x7_1 = true
                    · subst c15
                      have H1 : (prog_Section.l0 k1 a1 (mx x5_1 (wrap64 (x6_1 + ((rd_T86 t179 x13_1).f1)))) (wrap64 (x6_1 + ((rd_T86 t179 x13_1).f1))) true t179 (t179.length : Int) (wrap64 (x13_1 + 1))) = some r := by rw [if_pos rfl] at H; exact H
                      clear H
                      have H := H1
                      clear H1
                      obtain ⟨ji16, hji16⟩ : ∃ j_ : Int, (mx x5_1 (wrap64 (x6_1 + ((rd_T86 t179 x13_1).f1)))) = j_ := ⟨_, rfl⟩
                      replace H : (prog_Section.l0 k1 a1 ji16 (wrap64 (x6_1 + ((rd_T86 t179 x13_1).f1))) true t179 (t179.length : Int) (wrap64 (x13_1 + 1))) = some r := by first | (rw [hji16] at H; exact H) | (simp only [hji16] at H ⊢; exact H)
                      have hji16_ : (if x5_1 < (wrap64 (x6_1 + ((rd_T86 t179 x13_1).f1))) then (wrap64 (x6_1 + ((rd_T86 t179 x13_1).f1))) else x5_1) = ji16 := hji16
                      have H' := Aside0.mk H
                      clear H
                      have p182 : 0 ≤ (x13_1 : Int) := of_decide_eq_true (by first | (with_reducible assumption) | assumption)
                      have q182 : x13_1 < (t179.length : Int) := of_decide_eq_true (by first | (with_reducible assumption) | assumption)
                      obtain ⟨ad182, A182_4, c182_4, e182, hx182_0, hx182_1, hx182_2, hx182_3, hx182_4, hl182_4, hi182_4⟩ := at_T86 (Kd.N_reads' HO_11.out).2.2 x13_1 p182 q182
                      cases e182
                      obtain ⟨ce182, hce182, hMe182, hcc182⟩ := Kd.N_get HO_11.out z86 x13_1 p182 (by first | exact q182 | exact of_decide_eq_true (by first | (with_reducible assumption) | assumption) | (have e_ := (Kd.N_reads' HO_11.out).1; omega))
                      obtain ⟨ua182_4, uc182_4, rfl, ul182_4, ge182_4⟩ := k86_openF hMe182
                      have hv182_4 := hcc182 4 _ rfl
                      rw [add_field _ _ 4 (by omega)] at hv182_4
                      replace hv182_4 := Option.some.inj (hv182_4.symm.trans hx182_4)
                      injection hv182_4 with hva_ hvn_ hvc_
                      rw [hva_] at ge182_4
                      rw [hvc_] at ul182_4
                      have HL182_4 := Aside0.mk (show Kd.V k122 122 _ w.heap.size _ _ ((rd_T86 t179 x13_1).f4) from Kd.V_mk ul182_4 ge182_4)
                      clear hva_ hvn_ hvc_ ge182_4 ul182_4
                      clear hcc182 hce182
                      have HR182_4 := Aside0.mk hi182_4
                      have HC182_4 := Aside0.mk hl182_4
                      clear hi182_4 hl182_4
                      replace p182 := eq_true p182
                      replace q182 := eq_true q182
                      go_wp2_with (first | ((with_reducible refine gate_dst (N := 9) rfl ?_); refine box_event ?hg (N := 9) ?hd (cs := #[.int .i64 0, .int .i64 0, .int .i64 0, .int .i64 0, .slice none 0 0]) (t := 86) ?hr ?_; (case hd => rfl); (case hg => rfl); (case hr => first | (go_simp; done) | (go_simp; rfl)); intro gb183 hg w17 hbox hb; have n0_ := Aside0.mk (Kd.N_below (Kd.N_elderB (by (with_reducible repeat (first | apply Kd.N_alloc | apply Kd.N_drewN | apply Kd.N_drew)); exact HO_11.out) gb183 (Nat.le_of_eq hg.symm)) hb); have n1_ := Aside0.mk (Kd.V_below (Kd.V_elderB (by (with_reducible repeat (first | apply Kd.V_alloc | apply Kd.V_drewN | apply Kd.V_drew)); exact HL182_4.out) gb183 (Nat.le_of_eq hg.symm)) hb); have n2_ := Aside0.mk (Kd.C_below (by repeat (first | (with_reducible exact HR182_4.out) | (with_reducible refine Kd.C_alloc ?_ _) | (with_reducible refine Kd.C_drewN ?_ _) | (with_reducible refine Kd.C_drew ?_) | exact HR182_4.out)) hb); have n3_ := Aside0.mk (below_step (by repeat (first | (with_reducible first | exact HB.out | apply below_alloc | apply pw_below_drewN | apply below_drew1) | exact HB.out)) hb); have n4_ := Aside0.mk (hbox); have n5_ := Aside0.mk ((by rw [hg]; exact (below_size (by repeat (first | (with_reducible first | exact HB.out | apply below_alloc | apply pw_below_drewN | apply below_drew1) | exact HB.out))) : w.heap.size ≤ gb183)); have n6_ := Aside0.mk ((by rw [hg]; exact (below_size (by repeat (first | (with_reducible first | exact HB.out | apply below_alloc | apply pw_below_drewN | apply below_drew1) | exact HB.out))) : w.heap.size ≤ gb183)); clear HO_11; clear HL182_4; clear HR182_4; clear HB; have HO_11 := n0_; have HL182_4 := n1_; have HR182_4 := n2_; have HB := n3_; have BK183 := n4_; have GW183 := n5_; have GE183 := n6_; clear n0_ n1_ n2_ n3_ n4_ n5_ n6_; clear hb hbox hg; have hcz18_0 : w17.cell? ⟨gb183, 0, none⟩ = some (.int .i64 0) := (blk_cell BK183.out 0).trans rfl; have hcz18_1 : w17.cell? ⟨gb183, 1, none⟩ = some (.int .i64 0) := (blk_cell BK183.out 1).trans rfl; have hcz18_2 : w17.cell? ⟨gb183, 2, none⟩ = some (.int .i64 0) := (blk_cell BK183.out 2).trans rfl; have hcz18_3 : w17.cell? ⟨gb183, 3, none⟩ = some (.int .i64 0) := (blk_cell BK183.out 3).trans rfl; have hcz18_4 : w17.cell? ⟨gb183, 4, none⟩ = some (.slice none 0 0) := (blk_cell BK183.out 4).trans rfl; have hfz18_0 := blk_frozen BK183.out 0; have hfz18_1 := blk_frozen BK183.out 1; have hfz18_2 := blk_frozen BK183.out 2; have hfz18_3 := blk_frozen BK183.out 3; have hfz18_4 := blk_frozen BK183.out 4))
                      go_roundg k1
                      case measure => have := HK1.out; omega
                      case rel => exact ⟨(ji16), (wrap64 (x6_1 + ((rd_T86 t179 x13_1).f1))), (true), (wrap64 (x13_1 + 1)), (by first | rfl | (simp; done) | (simp only [← hji16] <;> (first | rfl | simp)) | (simp [*]; done) | (simp [Int.tdiv_eq_ediv_of_nonneg]; done)), (by first | rfl | (simp; done) | (simp [*]; done) | (simp [Int.tdiv_eq_ediv_of_nonneg]; done)), (by first | rfl | (simp; done) | (simp [*]; done) | (simp [Int.tdiv_eq_ediv_of_nonneg]; done)), (by first | rfl | (simp; done) | (simp [*]; done) | (simp [Int.tdiv_eq_ediv_of_nonneg]; done)), H', ⟨by have := HK1.out; omega⟩, ⟨by (with_reducible repeat (first | apply Kd.N_alloc | apply Kd.N_drewN | apply Kd.N_drew)); exact Kd.N_mono (Kd.N_far (p := ⟨gb183, 4, none⟩) (Kd.N_far (p := ⟨gb183, 3, none⟩) (Kd.N_far (p := ⟨gb183, 2, none⟩) (Kd.N_far (p := ⟨gb183, 1, none⟩) (Kd.N_far (p := ⟨gb183, 0, none⟩) (Kd.N_mono HO_11.out (fun k_ hk => (⟨hk, hk.2⟩ : _ ∧ k_ ≠ gb183))) (fun _ hk => hk.2) (.int .i64 ((rd_T86 t179 x13_1).f0))) (fun _ hk => hk.2) (.int .i64 ((rd_T86 t179 x13_1).f1))) (fun _ hk => hk.2) (.int .i64 ((rd_T86 t179 x13_1).f2))) (fun _ hk => hk.2) (.int .i64 ((rd_T86 t179 x13_1).f3))) (fun _ hk => hk.2) (.slice A182_4 ((rd_T86 t179 x13_1).f4).length c182_4)) (fun _ hk => trivial)⟩, ⟨by repeat (first | (with_reducible first | exact HB.out | apply below_alloc | apply pw_below_drewN | apply below_drew1 | refine below_set ?_ GE183.out) | exact HB.out)⟩⟩
                    · replace c15 := Bool.eq_false_iff.mpr c15
                      subst c15
                      have H1 : (prog_Section.l0 k1 a1 x5_1 x6_1 false t179 (t179.length : Int) (wrap64 (x13_1 + 1))) = some r := by rw [if_neg (show ¬ (false = true) by decide)] at H; exact H
                      clear H
                      have H := H1
                      clear H1
                      have H' := Aside0.mk H
                      clear H
                      have p182 : 0 ≤ (x13_1 : Int) := of_decide_eq_true (by first | (with_reducible assumption) | assumption)
                      have q182 : x13_1 < (t179.length : Int) := of_decide_eq_true (by first | (with_reducible assumption) | assumption)
                      obtain ⟨ad182, A182_4, c182_4, e182, hx182_0, hx182_1, hx182_2, hx182_3, hx182_4, hl182_4, hi182_4⟩ := at_T86 (Kd.N_reads' HO_11.out).2.2 x13_1 p182 q182
                      cases e182
                      obtain ⟨ce182, hce182, hMe182, hcc182⟩ := Kd.N_get HO_11.out z86 x13_1 p182 (by first | exact q182 | exact of_decide_eq_true (by first | (with_reducible assumption) | assumption) | (have e_ := (Kd.N_reads' HO_11.out).1; omega))
                      obtain ⟨ua182_4, uc182_4, rfl, ul182_4, ge182_4⟩ := k86_openF hMe182
                      have hv182_4 := hcc182 4 _ rfl
                      rw [add_field _ _ 4 (by omega)] at hv182_4
                      replace hv182_4 := Option.some.inj (hv182_4.symm.trans hx182_4)
                      injection hv182_4 with hva_ hvn_ hvc_
                      rw [hva_] at ge182_4
                      rw [hvc_] at ul182_4
                      have HL182_4 := Aside0.mk (show Kd.V k122 122 _ w.heap.size _ _ ((rd_T86 t179 x13_1).f4) from Kd.V_mk ul182_4 ge182_4)
                      clear hva_ hvn_ hvc_ ge182_4 ul182_4
                      clear hcc182 hce182
                      have HR182_4 := Aside0.mk hi182_4
                      have HC182_4 := Aside0.mk hl182_4
                      clear hi182_4 hl182_4
                      replace p182 := eq_true p182
                      replace q182 := eq_true q182
                      go_wp2_with (first | ((with_reducible refine gate_dst (N := 9) rfl ?_); refine box_event ?hg (N := 9) ?hd (cs := #[.int .i64 0, .int .i64 0, .int .i64 0, .int .i64 0, .slice none 0 0]) (t := 86) ?hr ?_; (case hd => rfl); (case hg => rfl); (case hr => first | (go_simp; done) | (go_simp; rfl)); intro gb183 hg w19 hbox hb; have n0_ := Aside0.mk (Kd.N_below (Kd.N_elderB (by (with_reducible repeat (first | apply Kd.N_alloc | apply Kd.N_drewN | apply Kd.N_drew)); exact HO_11.out) gb183 (Nat.le_of_eq hg.symm)) hb); have n1_ := Aside0.mk (Kd.V_below (Kd.V_elderB (by (with_reducible repeat (first | apply Kd.V_alloc | apply Kd.V_drewN | apply Kd.V_drew)); exact HL182_4.out) gb183 (Nat.le_of_eq hg.symm)) hb); have n2_ := Aside0.mk (Kd.C_below (by repeat (first | (with_reducible exact HR182_4.out) | (with_reducible refine Kd.C_alloc ?_ _) | (with_reducible refine Kd.C_drewN ?_ _) | (with_reducible refine Kd.C_drew ?_) | exact HR182_4.out)) hb); have n3_ := Aside0.mk (below_step (by repeat (first | (with_reducible first | exact HB.out | apply below_alloc | apply pw_below_drewN | apply below_drew1) | exact HB.out)) hb); have n4_ := Aside0.mk (hbox); have n5_ := Aside0.mk ((by rw [hg]; exact (below_size (by repeat (first | (with_reducible first | exact HB.out | apply below_alloc | apply pw_below_drewN | apply below_drew1) | exact HB.out))) : w.heap.size ≤ gb183)); have n6_ := Aside0.mk ((by rw [hg]; exact (below_size (by repeat (first | (with_reducible first | exact HB.out | apply below_alloc | apply pw_below_drewN | apply below_drew1) | exact HB.out))) : w.heap.size ≤ gb183)); clear HO_11; clear HL182_4; clear HR182_4; clear HB; have HO_11 := n0_; have HL182_4 := n1_; have HR182_4 := n2_; have HB := n3_; have BK183 := n4_; have GW183 := n5_; have GE183 := n6_; clear n0_ n1_ n2_ n3_ n4_ n5_ n6_; clear hb hbox hg; have hcz20_0 : w19.cell? ⟨gb183, 0, none⟩ = some (.int .i64 0) := (blk_cell BK183.out 0).trans rfl; have hcz20_1 : w19.cell? ⟨gb183, 1, none⟩ = some (.int .i64 0) := (blk_cell BK183.out 1).trans rfl; have hcz20_2 : w19.cell? ⟨gb183, 2, none⟩ = some (.int .i64 0) := (blk_cell BK183.out 2).trans rfl; have hcz20_3 : w19.cell? ⟨gb183, 3, none⟩ = some (.int .i64 0) := (blk_cell BK183.out 3).trans rfl; have hcz20_4 : w19.cell? ⟨gb183, 4, none⟩ = some (.slice none 0 0) := (blk_cell BK183.out 4).trans rfl; have hfz20_0 := blk_frozen BK183.out 0; have hfz20_1 := blk_frozen BK183.out 1; have hfz20_2 := blk_frozen BK183.out 2; have hfz20_3 := blk_frozen BK183.out 3; have hfz20_4 := blk_frozen BK183.out 4))
                      go_roundg k1
                      case measure => have := HK1.out; omega
                      case rel => exact ⟨(x5_1), (x6_1), (false), (wrap64 (x13_1 + 1)), (by first | rfl | (simp; done) | (simp [*]; done) | (simp [Int.tdiv_eq_ediv_of_nonneg]; done)), (by first | rfl | (simp; done) | (simp [*]; done) | (simp [Int.tdiv_eq_ediv_of_nonneg]; done)), (by first | rfl | (simp; done) | (simp [*]; done) | (simp [Int.tdiv_eq_ediv_of_nonneg]; done)), (by first | rfl | (simp; done) | (simp [*]; done) | (simp [Int.tdiv_eq_ediv_of_nonneg]; done)), H', ⟨by have := HK1.out; omega⟩, ⟨by (with_reducible repeat (first | apply Kd.N_alloc | apply Kd.N_drewN | apply Kd.N_drew)); exact Kd.N_mono (Kd.N_far (p := ⟨gb183, 4, none⟩) (Kd.N_far (p := ⟨gb183, 3, none⟩) (Kd.N_far (p := ⟨gb183, 2, none⟩) (Kd.N_far (p := ⟨gb183, 1, none⟩) (Kd.N_far (p := ⟨gb183, 0, none⟩) (Kd.N_mono HO_11.out (fun k_ hk => (⟨hk, hk.2⟩ : _ ∧ k_ ≠ gb183))) (fun _ hk => hk.2) (.int .i64 ((rd_T86 t179 x13_1).f0))) (fun _ hk => hk.2) (.int .i64 ((rd_T86 t179 x13_1).f1))) (fun _ hk => hk.2) (.int .i64 ((rd_T86 t179 x13_1).f2))) (fun _ hk => hk.2) (.int .i64 ((rd_T86 t179 x13_1).f3))) (fun _ hk => hk.2) (.slice A182_4 ((rd_T86 t179 x13_1).f4).length c182_4)) (fun _ hk => trivial)⟩, ⟨by repeat (first | (with_reducible first | exact HB.out | apply below_alloc | apply pw_below_drewN | apply below_drew1 | refine below_set ?_ GE183.out) | exact HB.out)⟩⟩
                  · rw [if_neg c14] at H
                    have c14b0 : (((rd_T86 t179 x13_1).f0) == 1) = false := beq_eq_false_iff_ne.mpr c14
                    have c14b1 : (((rd_T86 t179 x13_1).f0) != 1) = true := bne_iff_ne.mpr c14
                    have H' := Aside0.mk H
                    clear H
                    have p182 : 0 ≤ (x13_1 : Int) := of_decide_eq_true (by first | (with_reducible assumption) | assumption)
                    have q182 : x13_1 < (t179.length : Int) := of_decide_eq_true (by first | (with_reducible assumption) | assumption)
                    obtain ⟨ad182, A182_4, c182_4, e182, hx182_0, hx182_1, hx182_2, hx182_3, hx182_4, hl182_4, hi182_4⟩ := at_T86 (Kd.N_reads' HO_11.out).2.2 x13_1 p182 q182
                    cases e182
                    obtain ⟨ce182, hce182, hMe182, hcc182⟩ := Kd.N_get HO_11.out z86 x13_1 p182 (by first | exact q182 | exact of_decide_eq_true (by first | (with_reducible assumption) | assumption) | (have e_ := (Kd.N_reads' HO_11.out).1; omega))
                    obtain ⟨ua182_4, uc182_4, rfl, ul182_4, ge182_4⟩ := k86_openF hMe182
                    have hv182_4 := hcc182 4 _ rfl
                    rw [add_field _ _ 4 (by omega)] at hv182_4
                    replace hv182_4 := Option.some.inj (hv182_4.symm.trans hx182_4)
                    injection hv182_4 with hva_ hvn_ hvc_
                    rw [hva_] at ge182_4
                    rw [hvc_] at ul182_4
                    have HL182_4 := Aside0.mk (show Kd.V k122 122 _ w.heap.size _ _ ((rd_T86 t179 x13_1).f4) from Kd.V_mk ul182_4 ge182_4)
                    clear hva_ hvn_ hvc_ ge182_4 ul182_4
                    clear hcc182 hce182
                    have HR182_4 := Aside0.mk hi182_4
                    have HC182_4 := Aside0.mk hl182_4
                    clear hi182_4 hl182_4
                    replace p182 := eq_true p182
                    replace q182 := eq_true q182
                    go_wp2_with (first | ((with_reducible refine gate_dst (N := 9) rfl ?_); refine box_event ?hg (N := 9) ?hd (cs := #[.int .i64 0, .int .i64 0, .int .i64 0, .int .i64 0, .slice none 0 0]) (t := 86) ?hr ?_; (case hd => rfl); (case hg => rfl); (case hr => first | (go_simp; done) | (go_simp; rfl)); intro gb183 hg w21 hbox hb; have n0_ := Aside0.mk (Kd.N_below (Kd.N_elderB (by (with_reducible repeat (first | apply Kd.N_alloc | apply Kd.N_drewN | apply Kd.N_drew)); exact HO_11.out) gb183 (Nat.le_of_eq hg.symm)) hb); have n1_ := Aside0.mk (Kd.V_below (Kd.V_elderB (by (with_reducible repeat (first | apply Kd.V_alloc | apply Kd.V_drewN | apply Kd.V_drew)); exact HL182_4.out) gb183 (Nat.le_of_eq hg.symm)) hb); have n2_ := Aside0.mk (Kd.C_below (by repeat (first | (with_reducible exact HR182_4.out) | (with_reducible refine Kd.C_alloc ?_ _) | (with_reducible refine Kd.C_drewN ?_ _) | (with_reducible refine Kd.C_drew ?_) | exact HR182_4.out)) hb); have n3_ := Aside0.mk (below_step (by repeat (first | (with_reducible first | exact HB.out | apply below_alloc | apply pw_below_drewN | apply below_drew1) | exact HB.out)) hb); have n4_ := Aside0.mk (hbox); have n5_ := Aside0.mk ((by rw [hg]; exact (below_size (by repeat (first | (with_reducible first | exact HB.out | apply below_alloc | apply pw_below_drewN | apply below_drew1) | exact HB.out))) : w.heap.size ≤ gb183)); have n6_ := Aside0.mk ((by rw [hg]; exact (below_size (by repeat (first | (with_reducible first | exact HB.out | apply below_alloc | apply pw_below_drewN | apply below_drew1) | exact HB.out))) : w.heap.size ≤ gb183)); clear HO_11; clear HL182_4; clear HR182_4; clear HB; have HO_11 := n0_; have HL182_4 := n1_; have HR182_4 := n2_; have HB := n3_; have BK183 := n4_; have GW183 := n5_; have GE183 := n6_; clear n0_ n1_ n2_ n3_ n4_ n5_ n6_; clear hb hbox hg; have hcz22_0 : w21.cell? ⟨gb183, 0, none⟩ = some (.int .i64 0) := (blk_cell BK183.out 0).trans rfl; have hcz22_1 : w21.cell? ⟨gb183, 1, none⟩ = some (.int .i64 0) := (blk_cell BK183.out 1).trans rfl; have hcz22_2 : w21.cell? ⟨gb183, 2, none⟩ = some (.int .i64 0) := (blk_cell BK183.out 2).trans rfl; have hcz22_3 : w21.cell? ⟨gb183, 3, none⟩ = some (.int .i64 0) := (blk_cell BK183.out 3).trans rfl; have hcz22_4 : w21.cell? ⟨gb183, 4, none⟩ = some (.slice none 0 0) := (blk_cell BK183.out 4).trans rfl; have hfz22_0 := blk_frozen BK183.out 0; have hfz22_1 := blk_frozen BK183.out 1; have hfz22_2 := blk_frozen BK183.out 2; have hfz22_3 := blk_frozen BK183.out 3; have hfz22_4 := blk_frozen BK183.out 4))
                    go_roundg k1
                    case measure => have := HK1.out; omega
                    case rel => exact ⟨(x5_1), (x6_1), (x7_1), (wrap64 (x13_1 + 1)), (by first | rfl | (simp; done) | (simp [*]; done) | (simp [Int.tdiv_eq_ediv_of_nonneg]; done)), (by first | rfl | (simp; done) | (simp [*]; done) | (simp [Int.tdiv_eq_ediv_of_nonneg]; done)), (by first | rfl | (simp; done) | (simp [*]; done) | (simp [Int.tdiv_eq_ediv_of_nonneg]; done)), (by first | rfl | (simp; done) | (simp [*]; done) | (simp [Int.tdiv_eq_ediv_of_nonneg]; done)), H', ⟨by have := HK1.out; omega⟩, ⟨by (with_reducible repeat (first | apply Kd.N_alloc | apply Kd.N_drewN | apply Kd.N_drew)); exact Kd.N_mono (Kd.N_far (p := ⟨gb183, 4, none⟩) (Kd.N_far (p := ⟨gb183, 3, none⟩) (Kd.N_far (p := ⟨gb183, 2, none⟩) (Kd.N_far (p := ⟨gb183, 1, none⟩) (Kd.N_far (p := ⟨gb183, 0, none⟩) (Kd.N_mono HO_11.out (fun k_ hk => (⟨hk, hk.2⟩ : _ ∧ k_ ≠ gb183))) (fun _ hk => hk.2) (.int .i64 ((rd_T86 t179 x13_1).f0))) (fun _ hk => hk.2) (.int .i64 ((rd_T86 t179 x13_1).f1))) (fun _ hk => hk.2) (.int .i64 ((rd_T86 t179 x13_1).f2))) (fun _ hk => hk.2) (.int .i64 ((rd_T86 t179 x13_1).f3))) (fun _ hk => hk.2) (.slice A182_4 ((rd_T86 t179 x13_1).f4).length c182_4)) (fun _ hk => trivial)⟩, ⟨by repeat (first | (with_reducible first | exact HB.out | apply below_alloc | apply pw_below_drewN | apply below_drew1 | refine below_set ?_ GE183.out) | exact HB.out)⟩⟩
                · rw [if_neg c13] at H
                  have c13b0 : (((rd_T86 t179 x13_1).f0) == 3) = false := beq_eq_false_iff_ne.mpr c13
                  have c13b1 : (((rd_T86 t179 x13_1).f0) != 3) = true := bne_iff_ne.mpr c13
                  by_cases c23 : ((rd_T86 t179 x13_1).f0) = 1
                  · rw [if_pos c23] at H
                    have c23b0 : (((rd_T86 t179 x13_1).f0) == 1) = true := beq_iff_eq.mpr c23
                    have c23b1 : (((rd_T86 t179 x13_1).f0) != 1) = false := bne_eq_false_iff_eq.mpr c23
                    clear c23
                    by_cases c24 : x7_1 = true
                    · subst c24
                      have H1 : (prog_Section.l0 k1 a1 (mx x5_1 (wrap64 (x6_1 + ((rd_T86 t179 x13_1).f1)))) (wrap64 (x6_1 + ((rd_T86 t179 x13_1).f1))) true t179 (t179.length : Int) (wrap64 (x13_1 + 1))) = some r := by rw [if_pos rfl] at H; exact H
                      clear H
                      have H := H1
                      clear H1
                      obtain ⟨ji25, hji25⟩ : ∃ j_ : Int, (mx x5_1 (wrap64 (x6_1 + ((rd_T86 t179 x13_1).f1)))) = j_ := ⟨_, rfl⟩
                      replace H : (prog_Section.l0 k1 a1 ji25 (wrap64 (x6_1 + ((rd_T86 t179 x13_1).f1))) true t179 (t179.length : Int) (wrap64 (x13_1 + 1))) = some r := by first | (rw [hji25] at H; exact H) | (simp only [hji25] at H ⊢; exact H)
                      have hji25_ : (if x5_1 < (wrap64 (x6_1 + ((rd_T86 t179 x13_1).f1))) then (wrap64 (x6_1 + ((rd_T86 t179 x13_1).f1))) else x5_1) = ji25 := hji25
                      have H' := Aside0.mk H
                      clear H
                      have p182 : 0 ≤ (x13_1 : Int) := of_decide_eq_true (by first | (with_reducible assumption) | assumption)
                      have q182 : x13_1 < (t179.length : Int) := of_decide_eq_true (by first | (with_reducible assumption) | assumption)
                      obtain ⟨ad182, A182_4, c182_4, e182, hx182_0, hx182_1, hx182_2, hx182_3, hx182_4, hl182_4, hi182_4⟩ := at_T86 (Kd.N_reads' HO_11.out).2.2 x13_1 p182 q182
                      cases e182
                      obtain ⟨ce182, hce182, hMe182, hcc182⟩ := Kd.N_get HO_11.out z86 x13_1 p182 (by first | exact q182 | exact of_decide_eq_true (by first | (with_reducible assumption) | assumption) | (have e_ := (Kd.N_reads' HO_11.out).1; omega))
                      obtain ⟨ua182_4, uc182_4, rfl, ul182_4, ge182_4⟩ := k86_openF hMe182
                      have hv182_4 := hcc182 4 _ rfl
                      rw [add_field _ _ 4 (by omega)] at hv182_4
                      replace hv182_4 := Option.some.inj (hv182_4.symm.trans hx182_4)
                      injection hv182_4 with hva_ hvn_ hvc_
                      rw [hva_] at ge182_4
                      rw [hvc_] at ul182_4
                      have HL182_4 := Aside0.mk (show Kd.V k122 122 _ w.heap.size _ _ ((rd_T86 t179 x13_1).f4) from Kd.V_mk ul182_4 ge182_4)
                      clear hva_ hvn_ hvc_ ge182_4 ul182_4
                      clear hcc182 hce182
                      have HR182_4 := Aside0.mk hi182_4
                      have HC182_4 := Aside0.mk hl182_4
                      clear hi182_4 hl182_4
                      replace p182 := eq_true p182
                      replace q182 := eq_true q182
                      go_wp2_with (first | ((with_reducible refine gate_dst (N := 9) rfl ?_); refine box_event ?hg (N := 9) ?hd (cs := #[.int .i64 0, .int .i64 0, .int .i64 0, .int .i64 0, .slice none 0 0]) (t := 86) ?hr ?_; (case hd => rfl); (case hg => rfl); (case hr => first | (go_simp; done) | (go_simp; rfl)); intro gb183 hg w26 hbox hb; have n0_ := Aside0.mk (Kd.N_below (Kd.N_elderB (by (with_reducible repeat (first | apply Kd.N_alloc | apply Kd.N_drewN | apply Kd.N_drew)); exact HO_11.out) gb183 (Nat.le_of_eq hg.symm)) hb); have n1_ := Aside0.mk (Kd.V_below (Kd.V_elderB (by (with_reducible repeat (first | apply Kd.V_alloc | apply Kd.V_drewN | apply Kd.V_drew)); exact HL182_4.out) gb183 (Nat.le_of_eq hg.symm)) hb); have n2_ := Aside0.mk (Kd.C_below (by repeat (first | (with_reducible exact HR182_4.out) | (with_reducible refine Kd.C_alloc ?_ _) | (with_reducible refine Kd.C_drewN ?_ _) | (with_reducible refine Kd.C_drew ?_) | exact HR182_4.out)) hb); have n3_ := Aside0.mk (below_step (by repeat (first | (with_reducible first | exact HB.out | apply below_alloc | apply pw_below_drewN | apply below_drew1) | exact HB.out)) hb); have n4_ := Aside0.mk (hbox); have n5_ := Aside0.mk ((by rw [hg]; exact (below_size (by repeat (first | (with_reducible first | exact HB.out | apply below_alloc | apply pw_below_drewN | apply below_drew1) | exact HB.out))) : w.heap.size ≤ gb183)); have n6_ := Aside0.mk ((by rw [hg]; exact (below_size (by repeat (first | (with_reducible first | exact HB.out | apply below_alloc | apply pw_below_drewN | apply below_drew1) | exact HB.out))) : w.heap.size ≤ gb183)); clear HO_11; clear HL182_4; clear HR182_4; clear HB; have HO_11 := n0_; have HL182_4 := n1_; have HR182_4 := n2_; have HB := n3_; have BK183 := n4_; have GW183 := n5_; have GE183 := n6_; clear n0_ n1_ n2_ n3_ n4_ n5_ n6_; clear hb hbox hg; have hcz27_0 : w26.cell? ⟨gb183, 0, none⟩ = some (.int .i64 0) := (blk_cell BK183.out 0).trans rfl; have hcz27_1 : w26.cell? ⟨gb183, 1, none⟩ = some (.int .i64 0) := (blk_cell BK183.out 1).trans rfl; have hcz27_2 : w26.cell? ⟨gb183, 2, none⟩ = some (.int .i64 0) := (blk_cell BK183.out 2).trans rfl; have hcz27_3 : w26.cell? ⟨gb183, 3, none⟩ = some (.int .i64 0) := (blk_cell BK183.out 3).trans rfl; have hcz27_4 : w26.cell? ⟨gb183, 4, none⟩ = some (.slice none 0 0) := (blk_cell BK183.out 4).trans rfl; have hfz27_0 := blk_frozen BK183.out 0; have hfz27_1 := blk_frozen BK183.out 1; have hfz27_2 := blk_frozen BK183.out 2; have hfz27_3 := blk_frozen BK183.out 3; have hfz27_4 := blk_frozen BK183.out 4))
                      go_roundg k1
                      case measure => have := HK1.out; omega
                      case rel => exact ⟨(ji25), (wrap64 (x6_1 + ((rd_T86 t179 x13_1).f1))), (true), (wrap64 (x13_1 + 1)), (by first | rfl | (simp; done) | (simp only [← hji25] <;> (first | rfl | simp)) | (simp [*]; done) | (simp [Int.tdiv_eq_ediv_of_nonneg]; done)), (by first | rfl | (simp; done) | (simp [*]; done) | (simp [Int.tdiv_eq_ediv_of_nonneg]; done)), (by first | rfl | (simp; done) | (simp [*]; done) | (simp [Int.tdiv_eq_ediv_of_nonneg]; done)), (by first | rfl | (simp; done) | (simp [*]; done) | (simp [Int.tdiv_eq_ediv_of_nonneg]; done)), H', ⟨by have := HK1.out; omega⟩, ⟨by (with_reducible repeat (first | apply Kd.N_alloc | apply Kd.N_drewN | apply Kd.N_drew)); exact Kd.N_mono (Kd.N_far (p := ⟨gb183, 4, none⟩) (Kd.N_far (p := ⟨gb183, 3, none⟩) (Kd.N_far (p := ⟨gb183, 2, none⟩) (Kd.N_far (p := ⟨gb183, 1, none⟩) (Kd.N_far (p := ⟨gb183, 0, none⟩) (Kd.N_mono HO_11.out (fun k_ hk => (⟨hk, hk.2⟩ : _ ∧ k_ ≠ gb183))) (fun _ hk => hk.2) (.int .i64 ((rd_T86 t179 x13_1).f0))) (fun _ hk => hk.2) (.int .i64 ((rd_T86 t179 x13_1).f1))) (fun _ hk => hk.2) (.int .i64 ((rd_T86 t179 x13_1).f2))) (fun _ hk => hk.2) (.int .i64 ((rd_T86 t179 x13_1).f3))) (fun _ hk => hk.2) (.slice A182_4 ((rd_T86 t179 x13_1).f4).length c182_4)) (fun _ hk => trivial)⟩, ⟨by repeat (first | (with_reducible first | exact HB.out | apply below_alloc | apply pw_below_drewN | apply below_drew1 | refine below_set ?_ GE183.out) | exact HB.out)⟩⟩
                    · replace c24 := Bool.eq_false_iff.mpr c24
                      subst c24
                      have H1 : (prog_Section.l0 k1 a1 x5_1 x6_1 false t179 (t179.length : Int) (wrap64 (x13_1 + 1))) = some r := by rw [if_neg (show ¬ (false = true) by decide)] at H; exact H
                      clear H
                      have H := H1
                      clear H1
                      have H' := Aside0.mk H
                      clear H
                      have p182 : 0 ≤ (x13_1 : Int) := of_decide_eq_true (by first | (with_reducible assumption) | assumption)
                      have q182 : x13_1 < (t179.length : Int) := of_decide_eq_true (by first | (with_reducible assumption) | assumption)
                      obtain ⟨ad182, A182_4, c182_4, e182, hx182_0, hx182_1, hx182_2, hx182_3, hx182_4, hl182_4, hi182_4⟩ := at_T86 (Kd.N_reads' HO_11.out).2.2 x13_1 p182 q182
                      cases e182
                      obtain ⟨ce182, hce182, hMe182, hcc182⟩ := Kd.N_get HO_11.out z86 x13_1 p182 (by first | exact q182 | exact of_decide_eq_true (by first | (with_reducible assumption) | assumption) | (have e_ := (Kd.N_reads' HO_11.out).1; omega))
                      obtain ⟨ua182_4, uc182_4, rfl, ul182_4, ge182_4⟩ := k86_openF hMe182
                      have hv182_4 := hcc182 4 _ rfl
                      rw [add_field _ _ 4 (by omega)] at hv182_4
                      replace hv182_4 := Option.some.inj (hv182_4.symm.trans hx182_4)
                      injection hv182_4 with hva_ hvn_ hvc_
                      rw [hva_] at ge182_4
                      rw [hvc_] at ul182_4
                      have HL182_4 := Aside0.mk (show Kd.V k122 122 _ w.heap.size _ _ ((rd_T86 t179 x13_1).f4) from Kd.V_mk ul182_4 ge182_4)
                      clear hva_ hvn_ hvc_ ge182_4 ul182_4
                      clear hcc182 hce182
                      have HR182_4 := Aside0.mk hi182_4
                      have HC182_4 := Aside0.mk hl182_4
                      clear hi182_4 hl182_4
                      replace p182 := eq_true p182
                      replace q182 := eq_true q182
                      go_wp2_with (first | ((with_reducible refine gate_dst (N := 9) rfl ?_); refine box_event ?hg (N := 9) ?hd (cs := #[.int .i64 0, .int .i64 0, .int .i64 0, .int .i64 0, .slice none 0 0]) (t := 86) ?hr ?_; (case hd => rfl); (case hg => rfl); (case hr => first | (go_simp; done) | (go_simp; rfl)); intro gb183 hg w28 hbox hb; have n0_ := Aside0.mk (Kd.N_below (Kd.N_elderB (by (with_reducible repeat (first | apply Kd.N_alloc | apply Kd.N_drewN | apply Kd.N_drew)); exact HO_11.out) gb183 (Nat.le_of_eq hg.symm)) hb); have n1_ := Aside0.mk (Kd.V_below (Kd.V_elderB (by (with_reducible repeat (first | apply Kd.V_alloc | apply Kd.V_drewN | apply Kd.V_drew)); exact HL182_4.out) gb183 (Nat.le_of_eq hg.symm)) hb); have n2_ := Aside0.mk (Kd.C_below (by repeat (first | (with_reducible exact HR182_4.out) | (with_reducible refine Kd.C_alloc ?_ _) | (with_reducible refine Kd.C_drewN ?_ _) | (with_reducible refine Kd.C_drew ?_) | exact HR182_4.out)) hb); have n3_ := Aside0.mk (below_step (by repeat (first | (with_reducible first | exact HB.out | apply below_alloc | apply pw_below_drewN | apply below_drew1) | exact HB.out)) hb); have n4_ := Aside0.mk (hbox); have n5_ := Aside0.mk ((by rw [hg]; exact (below_size (by repeat (first | (with_reducible first | exact HB.out | apply below_alloc | apply pw_below_drewN | apply below_drew1) | exact HB.out))) : w.heap.size ≤ gb183)); have n6_ := Aside0.mk ((by rw [hg]; exact (below_size (by repeat (first | (with_reducible first | exact HB.out | apply below_alloc | apply pw_below_drewN | apply below_drew1) | exact HB.out))) : w.heap.size ≤ gb183)); clear HO_11; clear HL182_4; clear HR182_4; clear HB; have HO_11 := n0_; have HL182_4 := n1_; have HR182_4 := n2_; have HB := n3_; have BK183 := n4_; have GW183 := n5_; have GE183 := n6_; clear n0_ n1_ n2_ n3_ n4_ n5_ n6_; clear hb hbox hg; have hcz29_0 : w28.cell? ⟨gb183, 0, none⟩ = some (.int .i64 0) := (blk_cell BK183.out 0).trans rfl; have hcz29_1 : w28.cell? ⟨gb183, 1, none⟩ = some (.int .i64 0) := (blk_cell BK183.out 1).trans rfl; have hcz29_2 : w28.cell? ⟨gb183, 2, none⟩ = some (.int .i64 0) := (blk_cell BK183.out 2).trans rfl; have hcz29_3 : w28.cell? ⟨gb183, 3, none⟩ = some (.int .i64 0) := (blk_cell BK183.out 3).trans rfl; have hcz29_4 : w28.cell? ⟨gb183, 4, none⟩ = some (.slice none 0 0) := (blk_cell BK183.out 4).trans rfl; have hfz29_0 := blk_frozen BK183.out 0; have hfz29_1 := blk_frozen BK183.out 1; have hfz29_2 := blk_frozen BK183.out 2; have hfz29_3 := blk_frozen BK183.out 3; have hfz29_4 := blk_frozen BK183.out 4))
                      go_roundg k1
                      case measure => have := HK1.out; omega
                      case rel => exact ⟨(x5_1), (x6_1), (false), (wrap64 (x13_1 + 1)), (by first | rfl | (simp; done) | (simp [*]; done) | (simp [Int.tdiv_eq_ediv_of_nonneg]; done)), (by first | rfl | (simp; done) | (simp [*]; done) | (simp [Int.tdiv_eq_ediv_of_nonneg]; done)), (by first | rfl | (simp; done) | (simp [*]; done) | (simp [Int.tdiv_eq_ediv_of_nonneg]; done)), (by first | rfl | (simp; done) | (simp [*]; done) | (simp [Int.tdiv_eq_ediv_of_nonneg]; done)), H', ⟨by have := HK1.out; omega⟩, ⟨by (with_reducible repeat (first | apply Kd.N_alloc | apply Kd.N_drewN | apply Kd.N_drew)); exact Kd.N_mono (Kd.N_far (p := ⟨gb183, 4, none⟩) (Kd.N_far (p := ⟨gb183, 3, none⟩) (Kd.N_far (p := ⟨gb183, 2, none⟩) (Kd.N_far (p := ⟨gb183, 1, none⟩) (Kd.N_far (p := ⟨gb183, 0, none⟩) (Kd.N_mono HO_11.out (fun k_ hk => (⟨hk, hk.2⟩ : _ ∧ k_ ≠ gb183))) (fun _ hk => hk.2) (.int .i64 ((rd_T86 t179 x13_1).f0))) (fun _ hk => hk.2) (.int .i64 ((rd_T86 t179 x13_1).f1))) (fun _ hk => hk.2) (.int .i64 ((rd_T86 t179 x13_1).f2))) (fun _ hk => hk.2) (.int .i64 ((rd_T86 t179 x13_1).f3))) (fun _ hk => hk.2) (.slice A182_4 ((rd_T86 t179 x13_1).f4).length c182_4)) (fun _ hk => trivial)⟩, ⟨by repeat (first | (with_reducible first | exact HB.out | apply below_alloc | apply pw_below_drewN | apply below_drew1 | refine below_set ?_ GE183.out) | exact HB.out)⟩⟩
                  · rw [if_neg c23] at H
                    have c23b0 : (((rd_T86 t179 x13_1).f0) == 1) = false := beq_eq_false_iff_ne.mpr c23
                    have c23b1 : (((rd_T86 t179 x13_1).f0) != 1) = true := bne_iff_ne.mpr c23
                    have H' := Aside0.mk H
                    clear H
                    have p182 : 0 ≤ (x13_1 : Int) := of_decide_eq_true (by first | (with_reducible assumption) | assumption)
                    have q182 : x13_1 < (t179.length : Int) := of_decide_eq_true (by first | (with_reducible assumption) | assumption)
                    obtain ⟨ad182, A182_4, c182_4, e182, hx182_0, hx182_1, hx182_2, hx182_3, hx182_4, hl182_4, hi182_4⟩ := at_T86 (Kd.N_reads' HO_11.out).2.2 x13_1 p182 q182
                    cases e182
                    obtain ⟨ce182, hce182, hMe182, hcc182⟩ := Kd.N_get HO_11.out z86 x13_1 p182 (by first | exact q182 | exact of_decide_eq_true (by first | (with_reducible assumption) | assumption) | (have e_ := (Kd.N_reads' HO_11.out).1; omega))
                    obtain ⟨ua182_4, uc182_4, rfl, ul182_4, ge182_4⟩ := k86_openF hMe182
                    have hv182_4 := hcc182 4 _ rfl
                    rw [add_field _ _ 4 (by omega)] at hv182_4
                    replace hv182_4 := Option.some.inj (hv182_4.symm.trans hx182_4)
                    injection hv182_4 with hva_ hvn_ hvc_
                    rw [hva_] at ge182_4
                    rw [hvc_] at ul182_4
                    have HL182_4 := Aside0.mk (show Kd.V k122 122 _ w.heap.size _ _ ((rd_T86 t179 x13_1).f4) from Kd.V_mk ul182_4 ge182_4)
                    clear hva_ hvn_ hvc_ ge182_4 ul182_4
                    clear hcc182 hce182
                    have HR182_4 := Aside0.mk hi182_4
                    have HC182_4 := Aside0.mk hl182_4
                    clear hi182_4 hl182_4
                    replace p182 := eq_true p182
                    replace q182 := eq_true q182
                    go_wp2_with (first | ((with_reducible refine gate_dst (N := 9) rfl ?_); refine box_event ?hg (N := 9) ?hd (cs := #[.int .i64 0, .int .i64 0, .int .i64 0, .int .i64 0, .slice none 0 0]) (t := 86) ?hr ?_; (case hd => rfl); (case hg => rfl); (case hr => first | (go_simp; done) | (go_simp; rfl)); intro gb183 hg w30 hbox hb; have n0_ := Aside0.mk (Kd.N_below (Kd.N_elderB (by (with_reducible repeat (first | apply Kd.N_alloc | apply Kd.N_drewN | apply Kd.N_drew)); exact HO_11.out) gb183 (Nat.le_of_eq hg.symm)) hb); have n1_ := Aside0.mk (Kd.V_below (Kd.V_elderB (by (with_reducible repeat (first | apply Kd.V_alloc | apply Kd.V_drewN | apply Kd.V_drew)); exact HL182_4.out) gb183 (Nat.le_of_eq hg.symm)) hb); have n2_ := Aside0.mk (Kd.C_below (by repeat (first | (with_reducible exact HR182_4.out) | (with_reducible refine Kd.C_alloc ?_ _) | (with_reducible refine Kd.C_drewN ?_ _) | (with_reducible refine Kd.C_drew ?_) | exact HR182_4.out)) hb); have n3_ := Aside0.mk (below_step (by repeat (first | (with_reducible first | exact HB.out | apply below_alloc | apply pw_below_drewN | apply below_drew1) | exact HB.out)) hb); have n4_ := Aside0.mk (hbox); have n5_ := Aside0.mk ((by rw [hg]; exact (below_size (by repeat (first | (with_reducible first | exact HB.out | apply below_alloc | apply pw_below_drewN | apply below_drew1) | exact HB.out))) : w.heap.size ≤ gb183)); have n6_ := Aside0.mk ((by rw [hg]; exact (below_size (by repeat (first | (with_reducible first | exact HB.out | apply below_alloc | apply pw_below_drewN | apply below_drew1) | exact HB.out))) : w.heap.size ≤ gb183)); clear HO_11; clear HL182_4; clear HR182_4; clear HB; have HO_11 := n0_; have HL182_4 := n1_; have HR182_4 := n2_; have HB := n3_; have BK183 := n4_; have GW183 := n5_; have GE183 := n6_; clear n0_ n1_ n2_ n3_ n4_ n5_ n6_; clear hb hbox hg; have hcz31_0 : w30.cell? ⟨gb183, 0, none⟩ = some (.int .i64 0) := (blk_cell BK183.out 0).trans rfl; have hcz31_1 : w30.cell? ⟨gb183, 1, none⟩ = some (.int .i64 0) := (blk_cell BK183.out 1).trans rfl; have hcz31_2 : w30.cell? ⟨gb183, 2, none⟩ = some (.int .i64 0) := (blk_cell BK183.out 2).trans rfl; have hcz31_3 : w30.cell? ⟨gb183, 3, none⟩ = some (.int .i64 0) := (blk_cell BK183.out 3).trans rfl; have hcz31_4 : w30.cell? ⟨gb183, 4, none⟩ = some (.slice none 0 0) := (blk_cell BK183.out 4).trans rfl; have hfz31_0 := blk_frozen BK183.out 0; have hfz31_1 := blk_frozen BK183.out 1; have hfz31_2 := blk_frozen BK183.out 2; have hfz31_3 := blk_frozen BK183.out 3; have hfz31_4 := blk_frozen BK183.out 4))
                    go_roundg k1
                    case measure => have := HK1.out; omega
                    case rel => exact ⟨(x5_1), (x6_1), (x7_1), (wrap64 (x13_1 + 1)), (by first | rfl | (simp; done) | (simp [*]; done) | (simp [Int.tdiv_eq_ediv_of_nonneg]; done)), (by first | rfl | (simp; done) | (simp [*]; done) | (simp [Int.tdiv_eq_ediv_of_nonneg]; done)), (by first | rfl | (simp; done) | (simp [*]; done) | (simp [Int.tdiv_eq_ediv_of_nonneg]; done)), (by first | rfl | (simp; done) | (simp [*]; done) | (simp [Int.tdiv_eq_ediv_of_nonneg]; done)), H', ⟨by have := HK1.out; omega⟩, ⟨by (with_reducible repeat (first | apply Kd.N_alloc | apply Kd.N_drewN | apply Kd.N_drew)); exact Kd.N_mono (Kd.N_far (p := ⟨gb183, 4, none⟩) (Kd.N_far (p := ⟨gb183, 3, none⟩) (Kd.N_far (p := ⟨gb183, 2, none⟩) (Kd.N_far (p := ⟨gb183, 1, none⟩) (Kd.N_far (p := ⟨gb183, 0, none⟩) (Kd.N_mono HO_11.out (fun k_ hk => (⟨hk, hk.2⟩ : _ ∧ k_ ≠ gb183))) (fun _ hk => hk.2) (.int .i64 ((rd_T86 t179 x13_1).f0))) (fun _ hk => hk.2) (.int .i64 ((rd_T86 t179 x13_1).f1))) (fun _ hk => hk.2) (.int .i64 ((rd_T86 t179 x13_1).f2))) (fun _ hk => hk.2) (.int .i64 ((rd_T86 t179 x13_1).f3))) (fun _ hk => hk.2) (.slice A182_4 ((rd_T86 t179 x13_1).f4).length c182_4)) (fun _ hk => trivial)⟩, ⟨by repeat (first | (with_reducible first | exact HB.out | apply below_alloc | apply pw_below_drewN | apply below_drew1 | refine below_set ?_ GE183.out) | exact HB.out)⟩⟩
            · rw [if_neg c9] at H
              have c9b0 : (((rd_T86 t179 x13_1).f0) == 2) = false := beq_eq_false_iff_ne.mpr c9
              have c9b1 : (((rd_T86 t179 x13_1).f0) != 2) = true := bne_iff_ne.mpr c9
              by_cases c32 : ((rd_T86 t179 x13_1).f0) = 3
              · rw [if_pos c32] at H
                have c32b0 : (((rd_T86 t179 x13_1).f0) == 3) = true := beq_iff_eq.mpr c32
                have c32b1 : (((rd_T86 t179 x13_1).f0) != 3) = false := bne_eq_false_iff_eq.mpr c32
                clear c32
                by_cases c33 : ((rd_T86 t179 x13_1).f1) = a1
                · rw [if_pos c33] at H
                  have c33b0 : (((rd_T86 t179 x13_1).f1) == a1) = true := beq_iff_eq.mpr c33
                  have c33b1 : (((rd_T86 t179 x13_1).f1) != a1) = false := bne_eq_false_iff_eq.mpr c33
                  clear c33
                  have H' := Aside0.mk H
                  clear H
                  have p182 : 0 ≤ (x13_1 : Int) := of_decide_eq_true (by first | (with_reducible assumption) | assumption)
                  have q182 : x13_1 < (t179.length : Int) := of_decide_eq_true (by first | (with_reducible assumption) | assumption)
                  obtain ⟨ad182, A182_4, c182_4, e182, hx182_0, hx182_1, hx182_2, hx182_3, hx182_4, hl182_4, hi182_4⟩ := at_T86 (Kd.N_reads' HO_11.out).2.2 x13_1 p182 q182
                  cases e182
                  obtain ⟨ce182, hce182, hMe182, hcc182⟩ := Kd.N_get HO_11.out z86 x13_1 p182 (by first | exact q182 | exact of_decide_eq_true (by first | (with_reducible assumption) | assumption) | (have e_ := (Kd.N_reads' HO_11.out).1; omega))
                  obtain ⟨ua182_4, uc182_4, rfl, ul182_4, ge182_4⟩ := k86_openF hMe182
                  have hv182_4 := hcc182 4 _ rfl
                  rw [add_field _ _ 4 (by omega)] at hv182_4
                  replace hv182_4 := Option.some.inj (hv182_4.symm.trans hx182_4)
                  injection hv182_4 with hva_ hvn_ hvc_
                  rw [hva_] at ge182_4
                  rw [hvc_] at ul182_4
                  have HL182_4 := Aside0.mk (show Kd.V k122 122 _ w.heap.size _ _ ((rd_T86 t179 x13_1).f4) from Kd.V_mk ul182_4 ge182_4)
                  clear hva_ hvn_ hvc_ ge182_4 ul182_4
                  clear hcc182 hce182
                  have HR182_4 := Aside0.mk hi182_4
                  have HC182_4 := Aside0.mk hl182_4
                  clear hi182_4 hl182_4
                  replace p182 := eq_true p182
                  replace q182 := eq_true q182
                  go_wp2_with (first | ((with_reducible refine gate_dst (N := 9) rfl ?_); refine box_event ?hg (N := 9) ?hd (cs := #[.int .i64 0, .int .i64 0, .int .i64 0, .int .i64 0, .slice none 0 0]) (t := 86) ?hr ?_; (case hd => rfl); (case hg => rfl); (case hr => first | (go_simp; done) | (go_simp; rfl)); intro gb183 hg w34 hbox hb; have n0_ := Aside0.mk (Kd.N_below (Kd.N_elderB (by (with_reducible repeat (first | apply Kd.N_alloc | apply Kd.N_drewN | apply Kd.N_drew)); exact HO_11.out) gb183 (Nat.le_of_eq hg.symm)) hb); have n1_ := Aside0.mk (Kd.V_below (Kd.V_elderB (by (with_reducible repeat (first | apply Kd.V_alloc | apply Kd.V_drewN | apply Kd.V_drew)); exact HL182_4.out) gb183 (Nat.le_of_eq hg.symm)) hb); have n2_ := Aside0.mk (Kd.C_below (by repeat (first | (with_reducible exact HR182_4.out) | (with_reducible refine Kd.C_alloc ?_ _) | (with_reducible refine Kd.C_drewN ?_ _) | (with_reducible refine Kd.C_drew ?_) | exact HR182_4.out)) hb); have n3_ := Aside0.mk (below_step (by repeat (first | (with_reducible first | exact HB.out | apply below_alloc | apply pw_below_drewN | apply below_drew1) | exact HB.out)) hb); have n4_ := Aside0.mk (hbox); have n5_ := Aside0.mk ((by rw [hg]; exact (below_size (by repeat (first | (with_reducible first | exact HB.out | apply below_alloc | apply pw_below_drewN | apply below_drew1) | exact HB.out))) : w.heap.size ≤ gb183)); have n6_ := Aside0.mk ((by rw [hg]; exact (below_size (by repeat (first | (with_reducible first | exact HB.out | apply below_alloc | apply pw_below_drewN | apply below_drew1) | exact HB.out))) : w.heap.size ≤ gb183)); clear HO_11; clear HL182_4; clear HR182_4; clear HB; have HO_11 := n0_; have HL182_4 := n1_; have HR182_4 := n2_; have HB := n3_; have BK183 := n4_; have GW183 := n5_; have GE183 := n6_; clear n0_ n1_ n2_ n3_ n4_ n5_ n6_; clear hb hbox hg; have hcz35_0 : w34.cell? ⟨gb183, 0, none⟩ = some (.int .i64 0) := (blk_cell BK183.out 0).trans rfl; have hcz35_1 : w34.cell? ⟨gb183, 1, none⟩ = some (.int .i64 0) := (blk_cell BK183.out 1).trans rfl; have hcz35_2 : w34.cell? ⟨gb183, 2, none⟩ = some (.int .i64 0) := (blk_cell BK183.out 2).trans rfl; have hcz35_3 : w34.cell? ⟨gb183, 3, none⟩ = some (.int .i64 0) := (blk_cell BK183.out 3).trans rfl; have hcz35_4 : w34.cell? ⟨gb183, 4, none⟩ = some (.slice none 0 0) := (blk_cell BK183.out 4).trans rfl; have hfz35_0 := blk_frozen BK183.out 0; have hfz35_1 := blk_frozen BK183.out 1; have hfz35_2 := blk_frozen BK183.out 2; have hfz35_3 := blk_frozen BK183.out 3; have hfz35_4 := blk_frozen BK183.out 4))
                  go_roundg k1
                  case measure => have := HK1.out; omega
                  case rel => exact ⟨(x5_1), (x6_1), (false), (wrap64 (x13_1 + 1)), (by first | rfl | (simp; done) | (simp [*]; done) | (simp [Int.tdiv_eq_ediv_of_nonneg]; done)), (by first | rfl | (simp; done) | (simp [*]; done) | (simp [Int.tdiv_eq_ediv_of_nonneg]; done)), (by first | rfl | (simp; done) | (simp [*]; done) | (simp [Int.tdiv_eq_ediv_of_nonneg]; done)), (by first | rfl | (simp; done) | (simp [*]; done) | (simp [Int.tdiv_eq_ediv_of_nonneg]; done)), H', ⟨by have := HK1.out; omega⟩, ⟨by (with_reducible repeat (first | apply Kd.N_alloc | apply Kd.N_drewN | apply Kd.N_drew)); exact Kd.N_mono (Kd.N_far (p := ⟨gb183, 4, none⟩) (Kd.N_far (p := ⟨gb183, 3, none⟩) (Kd.N_far (p := ⟨gb183, 2, none⟩) (Kd.N_far (p := ⟨gb183, 1, none⟩) (Kd.N_far (p := ⟨gb183, 0, none⟩) (Kd.N_mono HO_11.out (fun k_ hk => (⟨hk, hk.2⟩ : _ ∧ k_ ≠ gb183))) (fun _ hk => hk.2) (.int .i64 ((rd_T86 t179 x13_1).f0))) (fun _ hk => hk.2) (.int .i64 ((rd_T86 t179 x13_1).f1))) (fun _ hk => hk.2) (.int .i64 ((rd_T86 t179 x13_1).f2))) (fun _ hk => hk.2) (.int .i64 ((rd_T86 t179 x13_1).f3))) (fun _ hk => hk.2) (.slice A182_4 ((rd_T86 t179 x13_1).f4).length c182_4)) (fun _ hk => trivial)⟩, ⟨by repeat (first | (with_reducible first | exact HB.out | apply below_alloc | apply pw_below_drewN | apply below_drew1 | refine below_set ?_ GE183.out) | exact HB.out)⟩⟩
                · rw [if_neg c33] at H
                  have c33b0 : (((rd_T86 t179 x13_1).f1) == a1) = false := beq_eq_false_iff_ne.mpr c33
                  have c33b1 : (((rd_T86 t179 x13_1).f1) != a1) = true := bne_iff_ne.mpr c33
                  by_cases c36 : ((rd_T86 t179 x13_1).f0) = 1
                  · rw [if_pos c36] at H
                    have c36b0 : (((rd_T86 t179 x13_1).f0) == 1) = true := beq_iff_eq.mpr c36
                    have c36b1 : (((rd_T86 t179 x13_1).f0) != 1) = false := bne_eq_false_iff_eq.mpr c36
                    clear c36
                    by_cases c37 : x7_1 = true
                    · subst c37
                      have H1 : (prog_Section.l0 k1 a1 (mx x5_1 (wrap64 (x6_1 + ((rd_T86 t179 x13_1).f1)))) (wrap64 (x6_1 + ((rd_T86 t179 x13_1).f1))) true t179 (t179.length : Int) (wrap64 (x13_1 + 1))) = some r := by rw [if_pos rfl] at H; exact H
                      clear H
                      have H := H1
                      clear H1
                      obtain ⟨ji38, hji38⟩ : ∃ j_ : Int, (mx x5_1 (wrap64 (x6_1 + ((rd_T86 t179 x13_1).f1)))) = j_ := ⟨_, rfl⟩
                      replace H : (prog_Section.l0 k1 a1 ji38 (wrap64 (x6_1 + ((rd_T86 t179 x13_1).f1))) true t179 (t179.length : Int) (wrap64 (x13_1 + 1))) = some r := by first | (rw [hji38] at H; exact H) | (simp only [hji38] at H ⊢; exact H)
                      have hji38_ : (if x5_1 < (wrap64 (x6_1 + ((rd_T86 t179 x13_1).f1))) then (wrap64 (x6_1 + ((rd_T86 t179 x13_1).f1))) else x5_1) = ji38 := hji38
                      have H' := Aside0.mk H
                      clear H
                      have p182 : 0 ≤ (x13_1 : Int) := of_decide_eq_true (by first | (with_reducible assumption) | assumption)
                      have q182 : x13_1 < (t179.length : Int) := of_decide_eq_true (by first | (with_reducible assumption) | assumption)
                      obtain ⟨ad182, A182_4, c182_4, e182, hx182_0, hx182_1, hx182_2, hx182_3, hx182_4, hl182_4, hi182_4⟩ := at_T86 (Kd.N_reads' HO_11.out).2.2 x13_1 p182 q182
                      cases e182
                      obtain ⟨ce182, hce182, hMe182, hcc182⟩ := Kd.N_get HO_11.out z86 x13_1 p182 (by first | exact q182 | exact of_decide_eq_true (by first | (with_reducible assumption) | assumption) | (have e_ := (Kd.N_reads' HO_11.out).1; omega))
                      obtain ⟨ua182_4, uc182_4, rfl, ul182_4, ge182_4⟩ := k86_openF hMe182
                      have hv182_4 := hcc182 4 _ rfl
                      rw [add_field _ _ 4 (by omega)] at hv182_4
                      replace hv182_4 := Option.some.inj (hv182_4.symm.trans hx182_4)
                      injection hv182_4 with hva_ hvn_ hvc_
                      rw [hva_] at ge182_4
                      rw [hvc_] at ul182_4
                      have HL182_4 := Aside0.mk (show Kd.V k122 122 _ w.heap.size _ _ ((rd_T86 t179 x13_1).f4) from Kd.V_mk ul182_4 ge182_4)
                      clear hva_ hvn_ hvc_ ge182_4 ul182_4
                      clear hcc182 hce182
                      have HR182_4 := Aside0.mk hi182_4
                      have HC182_4 := Aside0.mk hl182_4
                      clear hi182_4 hl182_4
                      replace p182 := eq_true p182
                      replace q182 := eq_true q182
                      go_wp2_with (first | ((with_reducible refine gate_dst (N := 9) rfl ?_); refine box_event ?hg (N := 9) ?hd (cs := #[.int .i64 0, .int .i64 0, .int .i64 0, .int .i64 0, .slice none 0 0]) (t := 86) ?hr ?_; (case hd => rfl); (case hg => rfl); (case hr => first | (go_simp; done) | (go_simp; rfl)); intro gb183 hg w39 hbox hb; have n0_ := Aside0.mk (Kd.N_below (Kd.N_elderB (by (with_reducible repeat (first | apply Kd.N_alloc | apply Kd.N_drewN | apply Kd.N_drew)); exact HO_11.out) gb183 (Nat.le_of_eq hg.symm)) hb); have n1_ := Aside0.mk (Kd.V_below (Kd.V_elderB (by (with_reducible repeat (first | apply Kd.V_alloc | apply Kd.V_drewN | apply Kd.V_drew)); exact HL182_4.out) gb183 (Nat.le_of_eq hg.symm)) hb); have n2_ := Aside0.mk (Kd.C_below (by repeat (first | (with_reducible exact HR182_4.out) | (with_reducible refine Kd.C_alloc ?_ _) | (with_reducible refine Kd.C_drewN ?_ _) | (with_reducible refine Kd.C_drew ?_) | exact HR182_4.out)) hb); have n3_ := Aside0.mk (below_step (by repeat (first | (with_reducible first | exact HB.out | apply below_alloc | apply pw_below_drewN | apply below_drew1) | exact HB.out)) hb); have n4_ := Aside0.mk (hbox); have n5_ := Aside0.mk ((by rw [hg]; exact (below_size (by repeat (first | (with_reducible first | exact HB.out | apply below_alloc | apply pw_below_drewN | apply below_drew1) | exact HB.out))) : w.heap.size ≤ gb183)); have n6_ := Aside0.mk ((by rw [hg]; exact (below_size (by repeat (first | (with_reducible first | exact HB.out | apply below_alloc | apply pw_below_drewN | apply below_drew1) | exact HB.out))) : w.heap.size ≤ gb183)); clear HO_11; clear HL182_4; clear HR182_4; clear HB; have HO_11 := n0_; have HL182_4 := n1_; have HR182_4 := n2_; have HB := n3_; have BK183 := n4_; have GW183 := n5_; have GE183 := n6_; clear n0_ n1_ n2_ n3_ n4_ n5_ n6_; clear hb hbox hg; have hcz40_0 : w39.cell? ⟨gb183, 0, none⟩ = some (.int .i64 0) := (blk_cell BK183.out 0).trans rfl; have hcz40_1 : w39.cell? ⟨gb183, 1, none⟩ = some (.int .i64 0) := (blk_cell BK183.out 1).trans rfl; have hcz40_2 : w39.cell? ⟨gb183, 2, none⟩ = some (.int .i64 0) := (blk_cell BK183.out 2).trans rfl; have hcz40_3 : w39.cell? ⟨gb183, 3, none⟩ = some (.int .i64 0) := (blk_cell BK183.out 3).trans rfl; have hcz40_4 : w39.cell? ⟨gb183, 4, none⟩ = some (.slice none 0 0) := (blk_cell BK183.out 4).trans rfl; have hfz40_0 := blk_frozen BK183.out 0; have hfz40_1 := blk_frozen BK183.out 1; have hfz40_2 := blk_frozen BK183.out 2; have hfz40_3 := blk_frozen BK183.out 3; have hfz40_4 := blk_frozen BK183.out 4))
                      go_roundg k1
                      case measure => have := HK1.out; omega
                      case rel => exact ⟨(ji38), (wrap64 (x6_1 + ((rd_T86 t179 x13_1).f1))), (true), (wrap64 (x13_1 + 1)), (by first | rfl | (simp; done) | (simp only [← hji38] <;> (first | rfl | simp)) | (simp [*]; done) | (simp [Int.tdiv_eq_ediv_of_nonneg]; done)), (by first | rfl | (simp; done) | (simp [*]; done) | (simp [Int.tdiv_eq_ediv_of_nonneg]; done)), (by first | rfl | (simp; done) | (simp [*]; done) | (simp [Int.tdiv_eq_ediv_of_nonneg]; done)), (by first | rfl | (simp; done) | (simp [*]; done) | (simp [Int.tdiv_eq_ediv_of_nonneg]; done)), H', ⟨by have := HK1.out; omega⟩, ⟨by (with_reducible repeat (first | apply Kd.N_alloc | apply Kd.N_drewN | apply Kd.N_drew)); exact Kd.N_mono (Kd.N_far (p := ⟨gb183, 4, none⟩) (Kd.N_far (p := ⟨gb183, 3, none⟩) (Kd.N_far (p := ⟨gb183, 2, none⟩) (Kd.N_far (p := ⟨gb183, 1, none⟩) (Kd.N_far (p := ⟨gb183, 0, none⟩) (Kd.N_mono HO_11.out (fun k_ hk => (⟨hk, hk.2⟩ : _ ∧ k_ ≠ gb183))) (fun _ hk => hk.2) (.int .i64 ((rd_T86 t179 x13_1).f0))) (fun _ hk => hk.2) (.int .i64 ((rd_T86 t179 x13_1).f1))) (fun _ hk => hk.2) (.int .i64 ((rd_T86 t179 x13_1).f2))) (fun _ hk => hk.2) (.int .i64 ((rd_T86 t179 x13_1).f3))) (fun _ hk => hk.2) (.slice A182_4 ((rd_T86 t179 x13_1).f4).length c182_4)) (fun _ hk => trivial)⟩, ⟨by repeat (first | (with_reducible first | exact HB.out | apply below_alloc | apply pw_below_drewN | apply below_drew1 | refine below_set ?_ GE183.out) | exact HB.out)⟩⟩
                    · replace c37 := Bool.eq_false_iff.mpr c37
                      subst c37
                      have H1 : (prog_Section.l0 k1 a1 x5_1 x6_1 false t179 (t179.length : Int) (wrap64 (x13_1 + 1))) = some r := by rw [if_neg (show ¬ (false = true) by decide)] at H; exact H
                      clear H
                      have H := H1
                      clear H1
                      have H' := Aside0.mk H
                      clear H
                      have p182 : 0 ≤ (x13_1 : Int) := of_decide_eq_true (by first | (with_reducible assumption) | assumption)
                      have q182 : x13_1 < (t179.length : Int) := of_decide_eq_true (by first | (with_reducible assumption) | assumption)
                      obtain ⟨ad182, A182_4, c182_4, e182, hx182_0, hx182_1, hx182_2, hx182_3, hx182_4, hl182_4, hi182_4⟩ := at_T86 (Kd.N_reads' HO_11.out).2.2 x13_1 p182 q182
                      cases e182
                      obtain ⟨ce182, hce182, hMe182, hcc182⟩ := Kd.N_get HO_11.out z86 x13_1 p182 (by first | exact q182 | exact of_decide_eq_true (by first | (with_reducible assumption) | assumption) | (have e_ := (Kd.N_reads' HO_11.out).1; omega))
                      obtain ⟨ua182_4, uc182_4, rfl, ul182_4, ge182_4⟩ := k86_openF hMe182
                      have hv182_4 := hcc182 4 _ rfl
                      rw [add_field _ _ 4 (by omega)] at hv182_4
                      replace hv182_4 := Option.some.inj (hv182_4.symm.trans hx182_4)
                      injection hv182_4 with hva_ hvn_ hvc_
                      rw [hva_] at ge182_4
                      rw [hvc_] at ul182_4
                      have HL182_4 := Aside0.mk (show Kd.V k122 122 _ w.heap.size _ _ ((rd_T86 t179 x13_1).f4) from Kd.V_mk ul182_4 ge182_4)
                      clear hva_ hvn_ hvc_ ge182_4 ul182_4
                      clear hcc182 hce182
                      have HR182_4 := Aside0.mk hi182_4
                      have HC182_4 := Aside0.mk hl182_4
                      clear hi182_4 hl182_4
                      replace p182 := eq_true p182
                      replace q182 := eq_true q182
                      go_wp2_with (first | ((with_reducible refine gate_dst (N := 9) rfl ?_); refine box_event ?hg (N := 9) ?hd (cs := #[.int .i64 0, .int .i64 0, .int .i64 0, .int .i64 0, .slice none 0 0]) (t := 86) ?hr ?_; (case hd => rfl); (case hg => rfl); (case hr => first | (go_simp; done) | (go_simp; rfl)); intro gb183 hg w41 hbox hb; have n0_ := Aside0.mk (Kd.N_below (Kd.N_elderB (by (with_reducible repeat (first | apply Kd.N_alloc | apply Kd.N_drewN | apply Kd.N_drew)); exact HO_11.out) gb183 (Nat.le_of_eq hg.symm)) hb); have n1_ := Aside0.mk (Kd.V_below (Kd.V_elderB (by (with_reducible repeat (first | apply Kd.V_alloc | apply Kd.V_drewN | apply Kd.V_drew)); exact HL182_4.out) gb183 (Nat.le_of_eq hg.symm)) hb); have n2_ := Aside0.mk (Kd.C_below (by repeat (first | (with_reducible exact HR182_4.out) | (with_reducible refine Kd.C_alloc ?_ _) | (with_reducible refine Kd.C_drewN ?_ _) | (with_reducible refine Kd.C_drew ?_) | exact HR182_4.out)) hb); have n3_ := Aside0.mk (below_step (by repeat (first | (with_reducible first | exact HB.out | apply below_alloc | apply pw_below_drewN | apply below_drew1) | exact HB.out)) hb); have n4_ := Aside0.mk (hbox); have n5_ := Aside0.mk ((by rw [hg]; exact (below_size (by repeat (first | (with_reducible first | exact HB.out | apply below_alloc | apply pw_below_drewN | apply below_drew1) | exact HB.out))) : w.heap.size ≤ gb183)); have n6_ := Aside0.mk ((by rw [hg]; exact (below_size (by repeat (first | (with_reducible first | exact HB.out | apply below_alloc | apply pw_below_drewN | apply below_drew1) | exact HB.out))) : w.heap.size ≤ gb183)); clear HO_11; clear HL182_4; clear HR182_4; clear HB; have HO_11 := n0_; have HL182_4 := n1_; have HR182_4 := n2_; have HB := n3_; have BK183 := n4_; have GW183 := n5_; have GE183 := n6_; clear n0_ n1_ n2_ n3_ n4_ n5_ n6_; clear hb hbox hg; have hcz42_0 : w41.cell? ⟨gb183, 0, none⟩ = some (.int .i64 0) := (blk_cell BK183.out 0).trans rfl; have hcz42_1 : w41.cell? ⟨gb183, 1, none⟩ = some (.int .i64 0) := (blk_cell BK183.out 1).trans rfl; have hcz42_2 : w41.cell? ⟨gb183, 2, none⟩ = some (.int .i64 0) := (blk_cell BK183.out 2).trans rfl; have hcz42_3 : w41.cell? ⟨gb183, 3, none⟩ = some (.int .i64 0) := (blk_cell BK183.out 3).trans rfl; have hcz42_4 : w41.cell? ⟨gb183, 4, none⟩ = some (.slice none 0 0) := (blk_cell BK183.out 4).trans rfl; have hfz42_0 := blk_frozen BK183.out 0; have hfz42_1 := blk_frozen BK183.out 1; have hfz42_2 := blk_frozen BK183.out 2; have hfz42_3 := blk_frozen BK183.out 3; have hfz42_4 := blk_frozen BK183.out 4))
                      go_roundg k1
                      case measure => have := HK1.out; omega
                      case rel => exact ⟨(x5_1), (x6_1), (false), (wrap64 (x13_1 + 1)), (by first | rfl | (simp; done) | (simp [*]; done) | (simp [Int.tdiv_eq_ediv_of_nonneg]; done)), (by first | rfl | (simp; done) | (simp [*]; done) | (simp [Int.tdiv_eq_ediv_of_nonneg]; done)), (by first | rfl | (simp; done) | (simp [*]; done) | (simp [Int.tdiv_eq_ediv_of_nonneg]; done)), (by first | rfl | (simp; done) | (simp [*]; done) | (simp [Int.tdiv_eq_ediv_of_nonneg]; done)), H', ⟨by have := HK1.out; omega⟩, ⟨by (with_reducible repeat (first | apply Kd.N_alloc | apply Kd.N_drewN | apply Kd.N_drew)); exact Kd.N_mono (Kd.N_far (p := ⟨gb183, 4, none⟩) (Kd.N_far (p := ⟨gb183, 3, none⟩) (Kd.N_far (p := ⟨gb183, 2, none⟩) (Kd.N_far (p := ⟨gb183, 1, none⟩) (Kd.N_far (p := ⟨gb183, 0, none⟩) (Kd.N_mono HO_11.out (fun k_ hk => (⟨hk, hk.2⟩ : _ ∧ k_ ≠ gb183))) (fun _ hk => hk.2) (.int .i64 ((rd_T86 t179 x13_1).f0))) (fun _ hk => hk.2) (.int .i64 ((rd_T86 t179 x13_1).f1))) (fun _ hk => hk.2) (.int .i64 ((rd_T86 t179 x13_1).f2))) (fun _ hk => hk.2) (.int .i64 ((rd_T86 t179 x13_1).f3))) (fun _ hk => hk.2) (.slice A182_4 ((rd_T86 t179 x13_1).f4).length c182_4)) (fun _ hk => trivial)⟩, ⟨by repeat (first | (with_reducible first | exact HB.out | apply below_alloc | apply pw_below_drewN | apply below_drew1 | refine below_set ?_ GE183.out) | exact HB.out)⟩⟩
                  · rw [if_neg c36] at H
                    have c36b0 : (((rd_T86 t179 x13_1).f0) == 1) = false := beq_eq_false_iff_ne.mpr c36
                    have c36b1 : (((rd_T86 t179 x13_1).f0) != 1) = true := bne_iff_ne.mpr c36
                    have H' := Aside0.mk H
                    clear H
                    have p182 : 0 ≤ (x13_1 : Int) := of_decide_eq_true (by first | (with_reducible assumption) | assumption)
                    have q182 : x13_1 < (t179.length : Int) := of_decide_eq_true (by first | (with_reducible assumption) | assumption)
                    obtain ⟨ad182, A182_4, c182_4, e182, hx182_0, hx182_1, hx182_2, hx182_3, hx182_4, hl182_4, hi182_4⟩ := at_T86 (Kd.N_reads' HO_11.out).2.2 x13_1 p182 q182
                    cases e182
                    obtain ⟨ce182, hce182, hMe182, hcc182⟩ := Kd.N_get HO_11.out z86 x13_1 p182 (by first | exact q182 | exact of_decide_eq_true (by first | (with_reducible assumption) | assumption) | (have e_ := (Kd.N_reads' HO_11.out).1; omega))
                    obtain ⟨ua182_4, uc182_4, rfl, ul182_4, ge182_4⟩ := k86_openF hMe182
                    have hv182_4 := hcc182 4 _ rfl
                    rw [add_field _ _ 4 (by omega)] at hv182_4
                    replace hv182_4 := Option.some.inj (hv182_4.symm.trans hx182_4)
                    injection hv182_4 with hva_ hvn_ hvc_
                    rw [hva_] at ge182_4
                    rw [hvc_] at ul182_4
                    have HL182_4 := Aside0.mk (show Kd.V k122 122 _ w.heap.size _ _ ((rd_T86 t179 x13_1).f4) from Kd.V_mk ul182_4 ge182_4)
                    clear hva_ hvn_ hvc_ ge182_4 ul182_4
                    clear hcc182 hce182
                    have HR182_4 := Aside0.mk hi182_4
                    have HC182_4 := Aside0.mk hl182_4
                    clear hi182_4 hl182_4
                    replace p182 := eq_true p182
                    replace q182 := eq_true q182
                    go_wp2_with (first | ((with_reducible refine gate_dst (N := 9) rfl ?_); refine box_event ?hg (N := 9) ?hd (cs := #[.int .i64 0, .int .i64 0, .int .i64 0, .int .i64 0, .slice none 0 0]) (t := 86) ?hr ?_; (case hd => rfl); (case hg => rfl); (case hr => first | (go_simp; done) | (go_simp; rfl)); intro gb183 hg w43 hbox hb; have n0_ := Aside0.mk (Kd.N_below (Kd.N_elderB (by (with_reducible repeat (first | apply Kd.N_alloc | apply Kd.N_drewN | apply Kd.N_drew)); exact HO_11.out) gb183 (Nat.le_of_eq hg.symm)) hb); have n1_ := Aside0.mk (Kd.V_below (Kd.V_elderB (by (with_reducible repeat (first | apply Kd.V_alloc | apply Kd.V_drewN | apply Kd.V_drew)); exact HL182_4.out) gb183 (Nat.le_of_eq hg.symm)) hb); have n2_ := Aside0.mk (Kd.C_below (by repeat (first | (with_reducible exact HR182_4.out) | (with_reducible refine Kd.C_alloc ?_ _) | (with_reducible refine Kd.C_drewN ?_ _) | (with_reducible refine Kd.C_drew ?_) | exact HR182_4.out)) hb); have n3_ := Aside0.mk (below_step (by repeat (first | (with_reducible first | exact HB.out | apply below_alloc | apply pw_below_drewN | apply below_drew1) | exact HB.out)) hb); have n4_ := Aside0.mk (hbox); have n5_ := Aside0.mk ((by rw [hg]; exact (below_size (by repeat (first | (with_reducible first | exact HB.out | apply below_alloc | apply pw_below_drewN | apply below_drew1) | exact HB.out))) : w.heap.size ≤ gb183)); have n6_ := Aside0.mk ((by rw [hg]; exact (below_size (by repeat (first | (with_reducible first | exact HB.out | apply below_alloc | apply pw_below_drewN | apply below_drew1) | exact HB.out))) : w.heap.size ≤ gb183)); clear HO_11; clear HL182_4; clear HR182_4; clear HB; have HO_11 := n0_; have HL182_4 := n1_; have HR182_4 := n2_; have HB := n3_; have BK183 := n4_; have GW183 := n5_; have GE183 := n6_; clear n0_ n1_ n2_ n3_ n4_ n5_ n6_; clear hb hbox hg; have hcz44_0 : w43.cell? ⟨gb183, 0, none⟩ = some (.int .i64 0) := (blk_cell BK183.out 0).trans rfl; have hcz44_1 : w43.cell? ⟨gb183, 1, none⟩ = some (.int .i64 0) := (blk_cell BK183.out 1).trans rfl; have hcz44_2 : w43.cell? ⟨gb183, 2, none⟩ = some (.int .i64 0) := (blk_cell BK183.out 2).trans rfl; have hcz44_3 : w43.cell? ⟨gb183, 3, none⟩ = some (.int .i64 0) := (blk_cell BK183.out 3).trans rfl; have hcz44_4 : w43.cell? ⟨gb183, 4, none⟩ = some (.slice none 0 0) := (blk_cell BK183.out 4).trans rfl; have hfz44_0 := blk_frozen BK183.out 0; have hfz44_1 := blk_frozen BK183.out 1; have hfz44_2 := blk_frozen BK183.out 2; have hfz44_3 := blk_frozen BK183.out 3; have hfz44_4 := blk_frozen BK183.out 4))
                    go_roundg k1
                    case measure => have := HK1.out; omega
                    case rel => exact ⟨(x5_1), (x6_1), (x7_1), (wrap64 (x13_1 + 1)), (by first | rfl | (simp; done) | (simp [*]; done) | (simp [Int.tdiv_eq_ediv_of_nonneg]; done)), (by first | rfl | (simp; done) | (simp [*]; done) | (simp [Int.tdiv_eq_ediv_of_nonneg]; done)), (by first | rfl | (simp; done) | (simp [*]; done) | (simp [Int.tdiv_eq_ediv_of_nonneg]; done)), (by first | rfl | (simp; done) | (simp [*]; done) | (simp [Int.tdiv_eq_ediv_of_nonneg]; done)), H', ⟨by have := HK1.out; omega⟩, ⟨by (with_reducible repeat (first | apply Kd.N_alloc | apply Kd.N_drewN | apply Kd.N_drew)); exact Kd.N_mono (Kd.N_far (p := ⟨gb183, 4, none⟩) (Kd.N_far (p := ⟨gb183, 3, none⟩) (Kd.N_far (p := ⟨gb183, 2, none⟩) (Kd.N_far (p := ⟨gb183, 1, none⟩) (Kd.N_far (p := ⟨gb183, 0, none⟩) (Kd.N_mono HO_11.out (fun k_ hk => (⟨hk, hk.2⟩ : _ ∧ k_ ≠ gb183))) (fun _ hk => hk.2) (.int .i64 ((rd_T86 t179 x13_1).f0))) (fun _ hk => hk.2) (.int .i64 ((rd_T86 t179 x13_1).f1))) (fun _ hk => hk.2) (.int .i64 ((rd_T86 t179 x13_1).f2))) (fun _ hk => hk.2) (.int .i64 ((rd_T86 t179 x13_1).f3))) (fun _ hk => hk.2) (.slice A182_4 ((rd_T86 t179 x13_1).f4).length c182_4)) (fun _ hk => trivial)⟩, ⟨by repeat (first | (with_reducible first | exact HB.out | apply below_alloc | apply pw_below_drewN | apply below_drew1 | refine below_set ?_ GE183.out) | exact HB.out)⟩⟩
              · rw [if_neg c32] at H
                have c32b0 : (((rd_T86 t179 x13_1).f0) == 3) = false := beq_eq_false_iff_ne.mpr c32
                have c32b1 : (((rd_T86 t179 x13_1).f0) != 3) = true := bne_iff_ne.mpr c32
                by_cases c45 : ((rd_T86 t179 x13_1).f0) = 1
                · rw [if_pos c45] at H
                  have c45b0 : (((rd_T86 t179 x13_1).f0) == 1) = true := beq_iff_eq.mpr c45
                  have c45b1 : (((rd_T86 t179 x13_1).f0) != 1) = false := bne_eq_false_iff_eq.mpr c45
                  clear c45
                  by_cases c46 : x7_1 = true
                  · subst c46
                    have H1 : (prog_Section.l0 k1 a1 (mx x5_1 (wrap64 (x6_1 + ((rd_T86 t179 x13_1).f1)))) (wrap64 (x6_1 + ((rd_T86 t179 x13_1).f1))) true t179 (t179.length : Int) (wrap64 (x13_1 + 1))) = some r := by rw [if_pos rfl] at H; exact H
                    clear H
                    have H := H1
                    clear H1
                    obtain ⟨ji47, hji47⟩ : ∃ j_ : Int, (mx x5_1 (wrap64 (x6_1 + ((rd_T86 t179 x13_1).f1)))) = j_ := ⟨_, rfl⟩
                    replace H : (prog_Section.l0 k1 a1 ji47 (wrap64 (x6_1 + ((rd_T86 t179 x13_1).f1))) true t179 (t179.length : Int) (wrap64 (x13_1 + 1))) = some r := by first | (rw [hji47] at H; exact H) | (simp only [hji47] at H ⊢; exact H)
                    have hji47_ : (if x5_1 < (wrap64 (x6_1 + ((rd_T86 t179 x13_1).f1))) then (wrap64 (x6_1 + ((rd_T86 t179 x13_1).f1))) else x5_1) = ji47 := hji47
                    have H' := Aside0.mk H
                    clear H
                    have p182 : 0 ≤ (x13_1 : Int) := of_decide_eq_true (by first | (with_reducible assumption) | assumption)
                    have q182 : x13_1 < (t179.length : Int) := of_decide_eq_true (by first | (with_reducible assumption) | assumption)
                    obtain ⟨ad182, A182_4, c182_4, e182, hx182_0, hx182_1, hx182_2, hx182_3, hx182_4, hl182_4, hi182_4⟩ := at_T86 (Kd.N_reads' HO_11.out).2.2 x13_1 p182 q182
                    cases e182
                    obtain ⟨ce182, hce182, hMe182, hcc182⟩ := Kd.N_get HO_11.out z86 x13_1 p182 (by first | exact q182 | exact of_decide_eq_true (by first | (with_reducible assumption) | assumption) | (have e_ := (Kd.N_reads' HO_11.out).1; omega))
                    obtain ⟨ua182_4, uc182_4, rfl, ul182_4, ge182_4⟩ := k86_openF hMe182
                    have hv182_4 := hcc182 4 _ rfl
                    rw [add_field _ _ 4 (by omega)] at hv182_4
                    replace hv182_4 := Option.some.inj (hv182_4.symm.trans hx182_4)
                    injection hv182_4 with hva_ hvn_ hvc_
                    rw [hva_] at ge182_4
                    rw [hvc_] at ul182_4
                    have HL182_4 := Aside0.mk (show Kd.V k122 122 _ w.heap.size _ _ ((rd_T86 t179 x13_1).f4) from Kd.V_mk ul182_4 ge182_4)
                    clear hva_ hvn_ hvc_ ge182_4 ul182_4
                    clear hcc182 hce182
                    have HR182_4 := Aside0.mk hi182_4
                    have HC182_4 := Aside0.mk hl182_4
                    clear hi182_4 hl182_4
                    replace p182 := eq_true p182
                    replace q182 := eq_true q182
                    go_wp2_with (first | ((with_reducible refine gate_dst (N := 9) rfl ?_); refine box_event ?hg (N := 9) ?hd (cs := #[.int .i64 0, .int .i64 0, .int .i64 0, .int .i64 0, .slice none 0 0]) (t := 86) ?hr ?_; (case hd => rfl); (case hg => rfl); (case hr => first | (go_simp; done) | (go_simp; rfl)); intro gb183 hg w48 hbox hb; have n0_ := Aside0.mk (Kd.N_below (Kd.N_elderB (by (with_reducible repeat (first | apply Kd.N_alloc | apply Kd.N_drewN | apply Kd.N_drew)); exact HO_11.out) gb183 (Nat.le_of_eq hg.symm)) hb); have n1_ := Aside0.mk (Kd.V_below (Kd.V_elderB (by (with_reducible repeat (first | apply Kd.V_alloc | apply Kd.V_drewN | apply Kd.V_drew)); exact HL182_4.out) gb183 (Nat.le_of_eq hg.symm)) hb); have n2_ := Aside0.mk (Kd.C_below (by repeat (first | (with_reducible exact HR182_4.out) | (with_reducible refine Kd.C_alloc ?_ _) | (with_reducible refine Kd.C_drewN ?_ _) | (with_reducible refine Kd.C_drew ?_) | exact HR182_4.out)) hb); have n3_ := Aside0.mk (below_step (by repeat (first | (with_reducible first | exact HB.out | apply below_alloc | apply pw_below_drewN | apply below_drew1) | exact HB.out)) hb); have n4_ := Aside0.mk (hbox); have n5_ := Aside0.mk ((by rw [hg]; exact (below_size (by repeat (first | (with_reducible first | exact HB.out | apply below_alloc | apply pw_below_drewN | apply below_drew1) | exact HB.out))) : w.heap.size ≤ gb183)); have n6_ := Aside0.mk ((by rw [hg]; exact (below_size (by repeat (first | (with_reducible first | exact HB.out | apply below_alloc | apply pw_below_drewN | apply below_drew1) | exact HB.out))) : w.heap.size ≤ gb183)); clear HO_11; clear HL182_4; clear HR182_4; clear HB; have HO_11 := n0_; have HL182_4 := n1_; have HR182_4 := n2_; have HB := n3_; have BK183 := n4_; have GW183 := n5_; have GE183 := n6_; clear n0_ n1_ n2_ n3_ n4_ n5_ n6_; clear hb hbox hg; have hcz49_0 : w48.cell? ⟨gb183, 0, none⟩ = some (.int .i64 0) := (blk_cell BK183.out 0).trans rfl; have hcz49_1 : w48.cell? ⟨gb183, 1, none⟩ = some (.int .i64 0) := (blk_cell BK183.out 1).trans rfl; have hcz49_2 : w48.cell? ⟨gb183, 2, none⟩ = some (.int .i64 0) := (blk_cell BK183.out 2).trans rfl; have hcz49_3 : w48.cell? ⟨gb183, 3, none⟩ = some (.int .i64 0) := (blk_cell BK183.out 3).trans rfl; have hcz49_4 : w48.cell? ⟨gb183, 4, none⟩ = some (.slice none 0 0) := (blk_cell BK183.out 4).trans rfl; have hfz49_0 := blk_frozen BK183.out 0; have hfz49_1 := blk_frozen BK183.out 1; have hfz49_2 := blk_frozen BK183.out 2; have hfz49_3 := blk_frozen BK183.out 3; have hfz49_4 := blk_frozen BK183.out 4))
                    go_roundg k1
                    case measure => have := HK1.out; omega
                    case rel => exact ⟨(ji47), (wrap64 (x6_1 + ((rd_T86 t179 x13_1).f1))), (true), (wrap64 (x13_1 + 1)), (by first | rfl | (simp; done) | (simp only [← hji47] <;> (first | rfl | simp)) | (simp [*]; done) | (simp [Int.tdiv_eq_ediv_of_nonneg]; done)), (by first | rfl | (simp; done) | (simp [*]; done) | (simp [Int.tdiv_eq_ediv_of_nonneg]; done)), (by first | rfl | (simp; done) | (simp [*]; done) | (simp [Int.tdiv_eq_ediv_of_nonneg]; done)), (by first | rfl | (simp; done) | (simp [*]; done) | (simp [Int.tdiv_eq_ediv_of_nonneg]; done)), H', ⟨by have := HK1.out; omega⟩, ⟨by (with_reducible repeat (first | apply Kd.N_alloc | apply Kd.N_drewN | apply Kd.N_drew)); exact Kd.N_mono (Kd.N_far (p := ⟨gb183, 4, none⟩) (Kd.N_far (p := ⟨gb183, 3, none⟩) (Kd.N_far (p := ⟨gb183, 2, none⟩) (Kd.N_far (p := ⟨gb183, 1, none⟩) (Kd.N_far (p := ⟨gb183, 0, none⟩) (Kd.N_mono HO_11.out (fun k_ hk => (⟨hk, hk.2⟩ : _ ∧ k_ ≠ gb183))) (fun _ hk => hk.2) (.int .i64 ((rd_T86 t179 x13_1).f0))) (fun _ hk => hk.2) (.int .i64 ((rd_T86 t179 x13_1).f1))) (fun _ hk => hk.2) (.int .i64 ((rd_T86 t179 x13_1).f2))) (fun _ hk => hk.2) (.int .i64 ((rd_T86 t179 x13_1).f3))) (fun _ hk => hk.2) (.slice A182_4 ((rd_T86 t179 x13_1).f4).length c182_4)) (fun _ hk => trivial)⟩, ⟨by repeat (first | (with_reducible first | exact HB.out | apply below_alloc | apply pw_below_drewN | apply below_drew1 | refine below_set ?_ GE183.out) | exact HB.out)⟩⟩
                  · replace c46 := Bool.eq_false_iff.mpr c46
                    subst c46
                    have H1 : (prog_Section.l0 k1 a1 x5_1 x6_1 false t179 (t179.length : Int) (wrap64 (x13_1 + 1))) = some r := by rw [if_neg (show ¬ (false = true) by decide)] at H; exact H
                    clear H
                    have H := H1
                    clear H1
                    have H' := Aside0.mk H
                    clear H
                    have p182 : 0 ≤ (x13_1 : Int) := of_decide_eq_true (by first | (with_reducible assumption) | assumption)
                    have q182 : x13_1 < (t179.length : Int) := of_decide_eq_true (by first | (with_reducible assumption) | assumption)
                    obtain ⟨ad182, A182_4, c182_4, e182, hx182_0, hx182_1, hx182_2, hx182_3, hx182_4, hl182_4, hi182_4⟩ := at_T86 (Kd.N_reads' HO_11.out).2.2 x13_1 p182 q182
                    cases e182
                    obtain ⟨ce182, hce182, hMe182, hcc182⟩ := Kd.N_get HO_11.out z86 x13_1 p182 (by first | exact q182 | exact of_decide_eq_true (by first | (with_reducible assumption) | assumption) | (have e_ := (Kd.N_reads' HO_11.out).1; omega))
                    obtain ⟨ua182_4, uc182_4, rfl, ul182_4, ge182_4⟩ := k86_openF hMe182
                    have hv182_4 := hcc182 4 _ rfl
                    rw [add_field _ _ 4 (by omega)] at hv182_4
                    replace hv182_4 := Option.some.inj (hv182_4.symm.trans hx182_4)
                    injection hv182_4 with hva_ hvn_ hvc_
                    rw [hva_] at ge182_4
                    rw [hvc_] at ul182_4
                    have HL182_4 := Aside0.mk (show Kd.V k122 122 _ w.heap.size _ _ ((rd_T86 t179 x13_1).f4) from Kd.V_mk ul182_4 ge182_4)
                    clear hva_ hvn_ hvc_ ge182_4 ul182_4
                    clear hcc182 hce182
                    have HR182_4 := Aside0.mk hi182_4
                    have HC182_4 := Aside0.mk hl182_4
                    clear hi182_4 hl182_4
                    replace p182 := eq_true p182
                    replace q182 := eq_true q182
                    go_wp2_with (first | ((with_reducible refine gate_dst (N := 9) rfl ?_); refine box_event ?hg (N := 9) ?hd (cs := #[.int .i64 0, .int .i64 0, .int .i64 0, .int .i64 0, .slice none 0 0]) (t := 86) ?hr ?_; (case hd => rfl); (case hg => rfl); (case hr => first | (go_simp; done) | (go_simp; rfl)); intro gb183 hg w50 hbox hb; have n0_ := Aside0.mk (Kd.N_below (Kd.N_elderB (by (with_reducible repeat (first | apply Kd.N_alloc | apply Kd.N_drewN | apply Kd.N_drew)); exact HO_11.out) gb183 (Nat.le_of_eq hg.symm)) hb); have n1_ := Aside0.mk (Kd.V_below (Kd.V_elderB (by (with_reducible repeat (first | apply Kd.V_alloc | apply Kd.V_drewN | apply Kd.V_drew)); exact HL182_4.out) gb183 (Nat.le_of_eq hg.symm)) hb); have n2_ := Aside0.mk (Kd.C_below (by repeat (first | (with_reducible exact HR182_4.out) | (with_reducible refine Kd.C_alloc ?_ _) | (with_reducible refine Kd.C_drewN ?_ _) | (with_reducible refine Kd.C_drew ?_) | exact HR182_4.out)) hb); have n3_ := Aside0.mk (below_step (by repeat (first | (with_reducible first | exact HB.out | apply below_alloc | apply pw_below_drewN | apply below_drew1) | exact HB.out)) hb); have n4_ := Aside0.mk (hbox); have n5_ := Aside0.mk ((by rw [hg]; exact (below_size (by repeat (first | (with_reducible first | exact HB.out | apply below_alloc | apply pw_below_drewN | apply below_drew1) | exact HB.out))) : w.heap.size ≤ gb183)); have n6_ := Aside0.mk ((by rw [hg]; exact (below_size (by repeat (first | (with_reducible first | exact HB.out | apply below_alloc | apply pw_below_drewN | apply below_drew1) | exact HB.out))) : w.heap.size ≤ gb183)); clear HO_11; clear HL182_4; clear HR182_4; clear HB; have HO_11 := n0_; have HL182_4 := n1_; have HR182_4 := n2_; have HB := n3_; have BK183 := n4_; have GW183 := n5_; have GE183 := n6_; clear n0_ n1_ n2_ n3_ n4_ n5_ n6_; clear hb hbox hg; have hcz51_0 : w50.cell? ⟨gb183, 0, none⟩ = some (.int .i64 0) := (blk_cell BK183.out 0).trans rfl; have hcz51_1 : w50.cell? ⟨gb183, 1, none⟩ = some (.int .i64 0) := (blk_cell BK183.out 1).trans rfl; have hcz51_2 : w50.cell? ⟨gb183, 2, none⟩ = some (.int .i64 0) := (blk_cell BK183.out 2).trans rfl; have hcz51_3 : w50.cell? ⟨gb183, 3, none⟩ = some (.int .i64 0) := (blk_cell BK183.out 3).trans rfl; have hcz51_4 : w50.cell? ⟨gb183, 4, none⟩ = some (.slice none 0 0) := (blk_cell BK183.out 4).trans rfl; have hfz51_0 := blk_frozen BK183.out 0; have hfz51_1 := blk_frozen BK183.out 1; have hfz51_2 := blk_frozen BK183.out 2; have hfz51_3 := blk_frozen BK183.out 3; have hfz51_4 := blk_frozen BK183.out 4))
                    go_roundg k1
                    case measure => have := HK1.out; omega
                    case rel => exact ⟨(x5_1), (x6_1), (false), (wrap64 (x13_1 + 1)), (by first | rfl | (simp; done) | (simp [*]; done) | (simp [Int.tdiv_eq_ediv_of_nonneg]; done)), (by first | rfl | (simp; done) | (simp [*]; done) | (simp [Int.tdiv_eq_ediv_of_nonneg]; done)), (by first | rfl | (simp; done) | (simp [*]; done) | (simp [Int.tdiv_eq_ediv_of_nonneg]; done)), (by first | rfl | (simp; done) | (simp [*]; done) | (simp [Int.tdiv_eq_ediv_of_nonneg]; done)), H', ⟨by have := HK1.out; omega⟩, ⟨by (with_reducible repeat (first | apply Kd.N_alloc | apply Kd.N_drewN | apply Kd.N_drew)); exact Kd.N_mono (Kd.N_far (p := ⟨gb183, 4, none⟩) (Kd.N_far (p := ⟨gb183, 3, none⟩) (Kd.N_far (p := ⟨gb183, 2, none⟩) (Kd.N_far (p := ⟨gb183, 1, none⟩) (Kd.N_far (p := ⟨gb183, 0, none⟩) (Kd.N_mono HO_11.out (fun k_ hk => (⟨hk, hk.2⟩ : _ ∧ k_ ≠ gb183))) (fun _ hk => hk.2) (.int .i64 ((rd_T86 t179 x13_1).f0))) (fun _ hk => hk.2) (.int .i64 ((rd_T86 t179 x13_1).f1))) (fun _ hk => hk.2) (.int .i64 ((rd_T86 t179 x13_1).f2))) (fun _ hk => hk.2) (.int .i64 ((rd_T86 t179 x13_1).f3))) (fun _ hk => hk.2) (.slice A182_4 ((rd_T86 t179 x13_1).f4).length c182_4)) (fun _ hk => trivial)⟩, ⟨by repeat (first | (with_reducible first | exact HB.out | apply below_alloc | apply pw_below_drewN | apply below_drew1 | refine below_set ?_ GE183.out) | exact HB.out)⟩⟩
                · rw [if_neg c45] at H
                  have c45b0 : (((rd_T86 t179 x13_1).f0) == 1) = false := beq_eq_false_iff_ne.mpr c45
                  have c45b1 : (((rd_T86 t179 x13_1).f0) != 1) = true := bne_iff_ne.mpr c45
                  have H' := Aside0.mk H
                  clear H
                  have p182 : 0 ≤ (x13_1 : Int) := of_decide_eq_true (by first | (with_reducible assumption) | assumption)
                  have q182 : x13_1 < (t179.length : Int) := of_decide_eq_true (by first | (with_reducible assumption) | assumption)
                  obtain ⟨ad182, A182_4, c182_4, e182, hx182_0, hx182_1, hx182_2, hx182_3, hx182_4, hl182_4, hi182_4⟩ := at_T86 (Kd.N_reads' HO_11.out).2.2 x13_1 p182 q182
                  cases e182
                  obtain ⟨ce182, hce182, hMe182, hcc182⟩ := Kd.N_get HO_11.out z86 x13_1 p182 (by first | exact q182 | exact of_decide_eq_true (by first | (with_reducible assumption) | assumption) | (have e_ := (Kd.N_reads' HO_11.out).1; omega))
                  obtain ⟨ua182_4, uc182_4, rfl, ul182_4, ge182_4⟩ := k86_openF hMe182
                  have hv182_4 := hcc182 4 _ rfl
                  rw [add_field _ _ 4 (by omega)] at hv182_4
                  replace hv182_4 := Option.some.inj (hv182_4.symm.trans hx182_4)
                  injection hv182_4 with hva_ hvn_ hvc_
                  rw [hva_] at ge182_4
                  rw [hvc_] at ul182_4
                  have HL182_4 := Aside0.mk (show Kd.V k122 122 _ w.heap.size _ _ ((rd_T86 t179 x13_1).f4) from Kd.V_mk ul182_4 ge182_4)
                  clear hva_ hvn_ hvc_ ge182_4 ul182_4
                  clear hcc182 hce182
                  have HR182_4 := Aside0.mk hi182_4
                  have HC182_4 := Aside0.mk hl182_4
                  clear hi182_4 hl182_4
                  replace p182 := eq_true p182
                  replace q182 := eq_true q182
                  go_wp2_with (first | ((with_reducible refine gate_dst (N := 9) rfl ?_); refine box_event ?hg (N := 9) ?hd (cs := #[.int .i64 0, .int .i64 0, .int .i64 0, .int .i64 0, .slice none 0 0]) (t := 86) ?hr ?_; (case hd => rfl); (case hg => rfl); (case hr => first | (go_simp; done) | (go_simp; rfl)); intro gb183 hg w52 hbox hb; have n0_ := Aside0.mk (Kd.N_below (Kd.N_elderB (by (with_reducible repeat (first | apply Kd.N_alloc | apply Kd.N_drewN | apply Kd.N_drew)); exact HO_11.out) gb183 (Nat.le_of_eq hg.symm)) hb); have n1_ := Aside0.mk (Kd.V_below (Kd.V_elderB (by (with_reducible repeat (first | apply Kd.V_alloc | apply Kd.V_drewN | apply Kd.V_drew)); exact HL182_4.out) gb183 (Nat.le_of_eq hg.symm)) hb); have n2_ := Aside0.mk (Kd.C_below (by repeat (first | (with_reducible exact HR182_4.out) | (with_reducible refine Kd.C_alloc ?_ _) | (with_reducible refine Kd.C_drewN ?_ _) | (with_reducible refine Kd.C_drew ?_) | exact HR182_4.out)) hb); have n3_ := Aside0.mk (below_step (by repeat (first | (with_reducible first | exact HB.out | apply below_alloc | apply pw_below_drewN | apply below_drew1) | exact HB.out)) hb); have n4_ := Aside0.mk (hbox); have n5_ := Aside0.mk ((by rw [hg]; exact (below_size (by repeat (first | (with_reducible first | exact HB.out | apply below_alloc | apply pw_below_drewN | apply below_drew1) | exact HB.out))) : w.heap.size ≤ gb183)); have n6_ := Aside0.mk ((by rw [hg]; exact (below_size (by repeat (first | (with_reducible first | exact HB.out | apply below_alloc | apply pw_below_drewN | apply below_drew1) | exact HB.out))) : w.heap.size ≤ gb183)); clear HO_11; clear HL182_4; clear HR182_4; clear HB; have HO_11 := n0_; have HL182_4 := n1_; have HR182_4 := n2_; have HB := n3_; have BK183 := n4_; have GW183 := n5_; have GE183 := n6_; clear n0_ n1_ n2_ n3_ n4_ n5_ n6_; clear hb hbox hg; have hcz53_0 : w52.cell? ⟨gb183, 0, none⟩ = some (.int .i64 0) := (blk_cell BK183.out 0).trans rfl; have hcz53_1 : w52.cell? ⟨gb183, 1, none⟩ = some (.int .i64 0) := (blk_cell BK183.out 1).trans rfl; have hcz53_2 : w52.cell? ⟨gb183, 2, none⟩ = some (.int .i64 0) := (blk_cell BK183.out 2).trans rfl; have hcz53_3 : w52.cell? ⟨gb183, 3, none⟩ = some (.int .i64 0) := (blk_cell BK183.out 3).trans rfl; have hcz53_4 : w52.cell? ⟨gb183, 4, none⟩ = some (.slice none 0 0) := (blk_cell BK183.out 4).trans rfl; have hfz53_0 := blk_frozen BK183.out 0; have hfz53_1 := blk_frozen BK183.out 1; have hfz53_2 := blk_frozen BK183.out 2; have hfz53_3 := blk_frozen BK183.out 3; have hfz53_4 := blk_frozen BK183.out 4))
                  go_roundg k1
                  case measure => have := HK1.out; omega
                  case rel => exact ⟨(x5_1), (x6_1), (x7_1), (wrap64 (x13_1 + 1)), (by first | rfl | (simp; done) | (simp [*]; done) | (simp [Int.tdiv_eq_ediv_of_nonneg]; done)), (by first | rfl | (simp; done) | (simp [*]; done) | (simp [Int.tdiv_eq_ediv_of_nonneg]; done)), (by first | rfl | (simp; done) | (simp [*]; done) | (simp [Int.tdiv_eq_ediv_of_nonneg]; done)), (by first | rfl | (simp; done) | (simp [*]; done) | (simp [Int.tdiv_eq_ediv_of_nonneg]; done)), H', ⟨by have := HK1.out; omega⟩, ⟨by (with_reducible repeat (first | apply Kd.N_alloc | apply Kd.N_drewN | apply Kd.N_drew)); exact Kd.N_mono (Kd.N_far (p := ⟨gb183, 4, none⟩) (Kd.N_far (p := ⟨gb183, 3, none⟩) (Kd.N_far (p := ⟨gb183, 2, none⟩) (Kd.N_far (p := ⟨gb183, 1, none⟩) (Kd.N_far (p := ⟨gb183, 0, none⟩) (Kd.N_mono HO_11.out (fun k_ hk => (⟨hk, hk.2⟩ : _ ∧ k_ ≠ gb183))) (fun _ hk => hk.2) (.int .i64 ((rd_T86 t179 x13_1).f0))) (fun _ hk => hk.2) (.int .i64 ((rd_T86 t179 x13_1).f1))) (fun _ hk => hk.2) (.int .i64 ((rd_T86 t179 x13_1).f2))) (fun _ hk => hk.2) (.int .i64 ((rd_T86 t179 x13_1).f3))) (fun _ hk => hk.2) (.slice A182_4 ((rd_T86 t179 x13_1).f4).length c182_4)) (fun _ hk => trivial)⟩, ⟨by repeat (first | (with_reducible first | exact HB.out | apply below_alloc | apply pw_below_drewN | apply below_drew1 | refine below_set ?_ GE183.out) | exact HB.out)⟩⟩
          · rw [if_neg c8] at H
            exact absurd H (by simp)
        · rw [if_neg c7] at H
          exact absurd H (by simp)
      · rw [if_neg c6] at H
        have c6b0 : decide (x13_1 < (t179.length : Int)) = false := decide_eq_false c6
        clear c6
        obtain rfl := Option.some.inj H
        go_wp2
        go_ret
        exact ⟨by first | rfl | (simp [errW_none, errW_some] <;> rfl) | (simp [*, errW_none, errW_some] <;> rfl), by repeat (first | (with_reducible first | exact HB.out | apply below_alloc | apply pw_below_drewN | apply below_drew1) | exact HB.out)⟩

end Go.Proofs.Ytgeejlcnnldogaa.XA
