-- PRINTED by print.py (a twelfth state) out of the translation. Not trusted: Lean checks it.
import Derived.Test.YthdmomaephiodaaXAx0
import Derived.Test.YthdmomaephiodaaXAx3
namespace Go.Proofs.Ythdmomaephiodaa.XA
open Go.RowKit Go.Proofs.YthdmomaephiodaaW.PrintWords Go.Proofs.YthdmomaephiodaaW.PrintLast Go.Proofs.YthdmomaephiodaaW.PrintMore
attribute [local go_sem] max2_int min2_int max_two min_two max_three min_three max_four min_four   -- for this text's walks alone
set_option linter.unusedVariables false
set_option linter.unusedSimpArgs false

/-! ### watchbillref8_Flat: function 54 -/
mutual
def watchbillref8_Flat.l0 : Nat → List (S92) → List (S92) → Int → Option ((List (S92)))
  | 0, _, _, _ => none
  | k + 1, x0, x3, x4 => if x4 < (x0.length : Int) then (if 0 ≤ x4 then (if ((rd_T92 x0 x4).f0) = 8 then ((watchbillref8_Match.f k x0 x4).bind fun t164 => (if 0 ≤ (wrap64 (x4 + 1)) then (if (wrap64 (x4 + 1)) ≤ t164 then (if t164 ≤ (x0.length : Int) then ((watchbillref8_Flat.f k ((x0.take (t164 : Int).toNat).drop ((wrap64 (x4 + 1)) : Int).toNat)).bind fun t170 => (watchbillref8_Flat.l1 k x0 x3 x4 t164 t170 0)) else (none)) else (none)) else (none))) else (if ((rd_T92 x0 x4).f0) = 9 then (watchbillref8_Flat.l0 k x0 x3 (wrap64 (x4 + 1))) else (if x3.length < 2513169434916 then (watchbillref8_Flat.l0 k x0 (x3 ++ [(⟨(rd_T92 x0 x4).f0, (rd_T92 x0 x4).f1, (rd_T92 x0 x4).f2, (rd_T92 x0 x4).f3, (rd_T92 x0 x4).f4⟩ : S92)]) (wrap64 (x4 + 1))) else (none)))) else (none)) else (some x3)
def watchbillref8_Flat.l1 : Nat → List (S92) → List (S92) → Int → Int → List (S92) → Int → Option ((List (S92)))
  | 0, _, _, _, _, _, _ => none
  | k + 1, x0, x3, x4, x5, x6, x7 => if 0 ≤ x4 then (if x4 < (x0.length : Int) then (if x7 < ((rd_T92 x0 x4).f1) then (if x3.length + x6.length < 2513169434916 then (watchbillref8_Flat.l1 k x0 (x3 ++ x6) x4 x5 x6 (wrap64 (x7 + 1))) else (none)) else (watchbillref8_Flat.l0 k x0 x3 (wrap64 (x5 + 1)))) else (none)) else (none)
def watchbillref8_Flat.f : Nat → List (S92) → Option ((List (S92)))
  | 0, _ => none
  | k + 1, l0 => watchbillref8_Flat.l0 k l0 ([] : List (S92)) 0
end
theorem watchbillref8_Flat.mono_l : ∀ k, (∀ y0, LeO (watchbillref8_Flat.f k y0) (watchbillref8_Flat.f (k + 1) y0)) ∧ (∀ y0 y1 y2, LeO (watchbillref8_Flat.l0 k y0 y1 y2) (watchbillref8_Flat.l0 (k + 1) y0 y1 y2)) ∧ (∀ y0 y1 y2 y3 y4 y5, LeO (watchbillref8_Flat.l1 k y0 y1 y2 y3 y4 y5) (watchbillref8_Flat.l1 (k + 1) y0 y1 y2 y3 y4 y5))
  | 0 => ⟨fun _ r h => by simp [watchbillref8_Flat.f] at h, fun _ _ _ r h => by simp [watchbillref8_Flat.l0] at h, fun _ _ _ _ _ _ r h => by simp [watchbillref8_Flat.l1] at h⟩
  | k + 1 => by
    obtain ⟨ih0, ih1, ih2⟩ := watchbillref8_Flat.mono_l k
    refine ⟨?_, ?_, ?_⟩
    · intro y0
      unfold watchbillref8_Flat.f
      repeat' first
      | (with_reducible exact ih0 _)
      | (with_reducible exact ih1 _ _ _)
      | (with_reducible exact ih2 _ _ _ _ _ _)
      | (with_reducible exact watchbillref8_Match.mono _ _ _)
      | (with_reducible exact LeO.refl _)
      | (with_reducible exact LeO.none _)
      | (with_reducible refine LeO.ite ?_ ?_)
      | (with_reducible refine LeO.bind ?_ (fun _ => ?_))
      | exact ih0 _
      | exact ih1 _ _ _
      | exact ih2 _ _ _ _ _ _
      | exact watchbillref8_Match.mono _ _ _
      | exact LeO.none _
      | refine LeO.ite ?_ ?_
      | refine LeO.bind ?_ (fun _ => ?_)
    · intro y0 y1 y2
      unfold watchbillref8_Flat.l0
      repeat' first
      | (with_reducible exact ih0 _)
      | (with_reducible exact ih1 _ _ _)
      | (with_reducible exact ih2 _ _ _ _ _ _)
      | (with_reducible exact watchbillref8_Match.mono _ _ _)
      | (with_reducible exact LeO.refl _)
      | (with_reducible exact LeO.none _)
      | (with_reducible refine LeO.ite ?_ ?_)
      | (with_reducible refine LeO.bind ?_ (fun _ => ?_))
      | exact ih0 _
      | exact ih1 _ _ _
      | exact ih2 _ _ _ _ _ _
      | exact watchbillref8_Match.mono _ _ _
      | exact LeO.none _
      | refine LeO.ite ?_ ?_
      | refine LeO.bind ?_ (fun _ => ?_)
    · intro y0 y1 y2 y3 y4 y5
      unfold watchbillref8_Flat.l1
      repeat' first
      | (with_reducible exact ih0 _)
      | (with_reducible exact ih1 _ _ _)
      | (with_reducible exact ih2 _ _ _ _ _ _)
      | (with_reducible exact watchbillref8_Match.mono _ _ _)
      | (with_reducible exact LeO.refl _)
      | (with_reducible exact LeO.none _)
      | (with_reducible refine LeO.ite ?_ ?_)
      | (with_reducible refine LeO.bind ?_ (fun _ => ?_))
      | exact ih0 _
      | exact ih1 _ _ _
      | exact ih2 _ _ _ _ _ _
      | exact watchbillref8_Match.mono _ _ _
      | exact LeO.none _
      | refine LeO.ite ?_ ?_
      | refine LeO.bind ?_ (fun _ => ?_)
theorem watchbillref8_Flat.mono : ∀ a0 k, LeO (watchbillref8_Flat.f k a0) (watchbillref8_Flat.f (k + 1) a0) := by
  intro a0 k
  obtain ⟨ih0, ih1, ih2⟩ := watchbillref8_Flat.mono_l k
  exact ih0 a0
set_option maxHeartbeats 8000000 in
set_option maxRecDepth 100000 in
theorem watchbillref8_Flat.calls (k : Nat) : ∀ (P0_ : Nat → Prop) (A0 : Option Addr) (c0 : Nat) (l0 : List (S92)) (r : List (S92)) (w : World) (hs0 : Kd.V k92 92 w w.heap.size (fun k_ => P0_ k_) (.slice A0 l0.length c0) l0) (h : watchbillref8_Flat.f k l0 = some r),
    Calls Try.prog 54 #[.slice A0 l0.length c0] w fun e w' => ∃ v0_ : Value, e = .returned (v0_) ∧ Kd.N k92 92 w' w.heap.size (fun k_ => (P0_ k_ ∨ w.heap.size ≤ k_)) v0_ r ∧ Below w.heap.size w w' := by
  induction k using Nat.strongRecOn with
  | _ k ih =>
  intro P0_ A0 c0 l0 r w hs0 h
  cases k with
  | zero => exact absurd h (by simp [watchbillref8_Flat.f])
  | succ k =>
  simp only [watchbillref8_Flat.f] at h
  have hu92 := Try.underlying92
  have HO0 := Aside0.mk (show Kd.V k92 92 w w.heap.size (fun k_ => (P0_ k_ ∨ w.heap.size ≤ k_)) (.slice A0 l0.length c0) l0 from Kd.V_mono hs0 (fun k_ hk => .inl hk))
  have HB := Aside0.mk (Below.refl w.heap.size w)
  have H : (watchbillref8_Flat.l0 k l0 ([] : List (S92)) 0) = some r := h
  clear h
  have H' := Aside0.mk H
  clear H
  go_enter Try.func54, Try.ntmps54
  go_wp2
  go_loopg [3, 4] k (fun kq v3 v4 w' => ∃ (x3_1 : List (S92)) (x4_1 : Int), v4 = .int .i64 x4_1 ∧ Aside0 (watchbillref8_Flat.l0 kq l0 x3_1 x4_1 = some r) ∧ Aside0 (kq ≤ k) ∧ Aside0 (Kd.V k92 92 w' w.heap.size (fun k_ => (P0_ k_ ∨ w.heap.size ≤ k_) ∧ some k_ ≠ (v3 : Value).ownBlock) (.slice A0 l0.length c0) l0) ∧ Aside0 (Kd.N k92 92 w' w.heap.size (fun k_ => (P0_ k_ ∨ w.heap.size ≤ k_)) v3 x3_1) ∧ Aside0 (Below w.heap.size w w'))
  case atStart => exact ⟨(([] : List (S92))), (0), (by first | rfl | (simp; done) | (simp [*]; done) | (simp [Int.tdiv_eq_ediv_of_nonneg]; done)), H', ⟨Nat.le_refl _⟩, ⟨by (with_reducible repeat (first | apply Kd.V_alloc | apply Kd.V_drewN | apply Kd.V_drew)); exact Kd.V_mono HO0.out (fun _ hk => ⟨hk, (by simp [Value.ownBlock])⟩)⟩, ⟨by first | exact Kd.S_nil _ _ _ _ _ | exact Kd.N_nil _ _ _ _ _ | exact Kd.V_nil _ _ _ _ _ | exact Kd.Q_nil _ _ _ _ _ | exact Kd.R_nil _ _ _ _ _⟩, ⟨by repeat (first | (with_reducible first | exact HB.out | apply below_alloc | apply pw_below_drewN | apply below_drew1) | exact HB.out)⟩⟩
  case round =>
    clear H'
    (try clear HA)
    (try clear HK1)
    (try clear HO_0)
    (try clear HO_3)
    (try clear HB)
    obtain ⟨x3_1, x4_1, rfl, HA, HK1, HO_0, HO_3, HB⟩ := hrel
    cases gk with
    | zero => exact absurd HA.out (by simp [watchbillref8_Flat.l0])
    | succ k1 =>
      have H := HA.out
      clear HA
      simp only [watchbillref8_Flat.l0] at H
      by_cases c2 : x4_1 < (l0.length : Int)
      · rw [if_pos c2] at H
        have c2b0 : decide (x4_1 < (l0.length : Int)) = true := decide_eq_true c2
        clear c2
        by_cases c3 : 0 ≤ x4_1
        · rw [if_pos c3] at H
          have c3b0 : decide (0 ≤ x4_1) = true := decide_eq_true c3
          clear c3
          by_cases c4 : ((rd_T92 l0 x4_1).f0) = 8
          · rw [if_pos c4] at H
            have c4b0 : (((rd_T92 l0 x4_1).f0) == 8) = true := beq_iff_eq.mpr c4
            have c4b1 : (((rd_T92 l0 x4_1).f0) != 8) = false := bne_eq_false_iff_eq.mpr c4
            clear c4
            replace H := Option.bind_eq_some_iff.mp H
            obtain ⟨t164, A50, H⟩ := H
            replace H : (if 0 ≤ (wrap64 (x4_1 + 1)) then (if (wrap64 (x4_1 + 1)) ≤ t164 then (if t164 ≤ (l0.length : Int) then ((watchbillref8_Flat.f k1 ((l0.take (t164 : Int).toNat).drop ((wrap64 (x4_1 + 1)) : Int).toNat)).bind fun t170 => (watchbillref8_Flat.l1 k1 l0 x3_1 x4_1 t164 t170 0)) else (none)) else (none)) else (none)) = some r := H
            have A5 := Aside0.mk A50
            clear A50
            obtain ⟨ji6, hji6⟩ : ∃ j_ : Int, (wrap64 (x4_1 + 1)) = j_ := ⟨_, rfl⟩
            replace H : (if 0 ≤ (ji6) then (if (ji6) ≤ t164 then (if t164 ≤ (l0.length : Int) then ((watchbillref8_Flat.f k1 ((l0.take (t164 : Int).toNat).drop ((ji6) : Int).toNat)).bind fun t170 => (watchbillref8_Flat.l1 k1 l0 x3_1 x4_1 t164 t170 0)) else (none)) else (none)) else (none)) = some r := by first | (rw [hji6] at H; exact H) | (simp only [hji6] at H ⊢; exact H)
            (try rw [hji6] at A5)
            have hji6w : (IntKind.i64.wrap (x4_1 + 1)) = ji6 := (i64_w _).trans hji6
            by_cases c7 : 0 ≤ (ji6)
            · rw [if_pos c7] at H
              have c7b0 := eq_true c7
              have c7b1 : decide (0 ≤ (ji6)) = true := decide_eq_true c7
              clear c7
              by_cases c8 : (ji6) ≤ t164
              · rw [if_pos c8] at H
                have c8b0 := eq_true c8
                have c8b1 : decide ((ji6) ≤ t164) = true := decide_eq_true c8
                clear c8
                by_cases c9 : t164 ≤ (l0.length : Int)
                · rw [if_pos c9] at H
                  have c9b0 := eq_true c9
                  have c9b1 : decide (t164 ≤ (l0.length : Int)) = true := decide_eq_true c9
                  clear c9
                  obtain ⟨y165, hy165⟩ : ∃ y_ : List (S92), y_ = ((l0.take (t164 : Int).toNat).drop ((ji6) : Int).toNat) := ⟨_, rfl⟩
                  replace H : ((watchbillref8_Flat.f k1 y165).bind fun t170 => (watchbillref8_Flat.l1 k1 l0 x3_1 x4_1 t164 t170 0)) = some r := by first | (rw [hy165]; with_reducible exact H) | (have H2_ := (Option.bind_some _ _).symm.trans H; rw [hy165]; with_reducible exact H2_) | (have H2_ := (Option.bind_some _ _).symm.trans H; with_reducible exact H2_) | with_reducible exact H | (rw [hy165]; exact H) | exact H
                  have Ny165 := Aside0.mk hy165
                  clear hy165
                  replace H := Option.bind_eq_some_iff.mp H
                  obtain ⟨t170, A100, H⟩ := H
                  replace H : (watchbillref8_Flat.l1 k1 l0 x3_1 x4_1 t164 t170 0) = some r := H
                  have A10 := Aside0.mk A100
                  clear A100
                  have H' := Aside0.mk H
                  clear H
                  have p163 : 0 ≤ (x4_1 : Int) := of_decide_eq_true (by first | (with_reducible assumption) | assumption)
                  have q163 : x4_1 < (l0.length : Int) := of_decide_eq_true (by first | (with_reducible assumption) | assumption)
                  obtain ⟨ad163, A163_4, c163_4, e163, hx163_0, hx163_1, hx163_2, hx163_3, hx163_4, hl163_4, hi163_4⟩ := at_T92 (Kd.V_reads' HO_0.out).2.2 x4_1 p163 q163
                  cases e163
                  obtain ⟨ce163, hce163, hMe163, hcc163⟩ := Kd.V_get HO_0.out z92 x4_1 p163 (by first | exact q163 | exact of_decide_eq_true (by first | (with_reducible assumption) | assumption) | (have e_ := (Kd.V_reads' HO_0.out).1; omega))
                  obtain ⟨ua163_4, uc163_4, rfl, ul163_4, ge163_4⟩ := k92_openF hMe163
                  have hv163_4 := hcc163 4 _ rfl
                  rw [add_field _ _ 4 (by omega)] at hv163_4
                  replace hv163_4 := Option.some.inj (hv163_4.symm.trans hx163_4)
                  injection hv163_4 with hva_ hvn_ hvc_
                  rw [hva_] at ge163_4
                  rw [hvc_] at ul163_4
                  have HL163_4 := Aside0.mk (show Kd.V k109 109 _ w.heap.size _ _ ((rd_T92 l0 x4_1).f4) from Kd.V_mk ul163_4 ge163_4)
                  clear hva_ hvn_ hvc_ ge163_4 ul163_4
                  clear hcc163 hce163
                  have HR163_4 := Aside0.mk hi163_4
                  have HC163_4 := Aside0.mk hl163_4
                  clear hi163_4 hl163_4
                  replace p163 := eq_true p163
                  replace q163 := eq_true q163
                  go_wp2_with (first | ((with_reducible refine gate_callee (f := 61) rfl ?_); refine goesL_ (some 28) rfl rfl Try.func61 (by kernel_rfl) rfl #[.slice (some ad163) l0.length c0, .int .i64 x4_1] rfl (by (try simp only [List.map_toArray, List.map_cons, List.map_nil]); first | done | rfl | (simp only [List.length_drop, List.length_take]; rfl)) ?_; (with_reducible refine (watchbillref8_Match.calls k1 _ _ l0 x4_1 t164 _ ?side1 ?side2 A5.out).mono ?_); (case side1 => repeat (first | exact (Kd.V_reads' HO_0.out).2.2 | (with_reducible refine Kd.C_alloc ?_ _) | (with_reducible refine Kd.C_drewN ?_ _) | (with_reducible refine Kd.C_drew ?_))); (case side2 => exact (Kd.V_reads' HO_0.out).2.1); rintro e w' ⟨rfl, ⟨nd, rfl⟩⟩; refine ⟨_, rfl, ?_⟩; have q11 : (t164 : Int) ≤ ((l0.length : Int) : Int) := of_decide_eq_true (by first | (with_reducible assumption) | assumption); obtain ⟨i011, hi011, _, hsz11, _⟩ := info_parts info92; have hroom11 : l0.length ≤ c0 := (Kd.V_reads' HO_0.out).2.1; have hC11 : Kd.F k92 _ _ (some ad163) l0.length l0 := (Kd.V_at (base := w.heap.size) HO_0.out).2.2; have ql11 : ((ji6) : Int) ≤ (t164 : Int) := of_decide_eq_true (by first | (with_reducible assumption) | assumption); have q011 : (0 : Int) ≤ ((ji6) : Int) := of_decide_eq_true (by first | (with_reducible assumption) | assumption); have hcut11 := cut_mid (P := Try.prog) 58 92 .i64 .i64 Try.underlying58 hi011 5 hsz11 (some ad163) l0.length c0 (ji6) t164 q011 ql11 q11 hroom11; have hr11 := Kd.F_mid (lo := ((ji6) : Int).toNat) (hi := (t164 : Int).toNat) (c := c0) hC11 (by omega) (by omega) hroom11; obtain ⟨A11, hA11⟩ : ∃ A1, A1 = (if c0 = ((ji6) : Int).toNat then (some ad163) else ((some ad163) : Option Addr).map (·.add (((ji6) : Int).toNat * 5))) := ⟨_, rfl⟩; obtain ⟨c11, hc11⟩ : ∃ c1, c1 = c0 - ((ji6) : Int).toNat := ⟨_, rfl⟩; have hy11 : y165.length = (t164 : Int).toNat - ((ji6) : Int).toNat := (by rw [Ny165.out, List.length_drop, List.length_take] <;> omega); rw [show ((l0).take (t164 : Int).toNat).drop ((ji6) : Int).toNat = y165 from Ny165.out.symm] at hr11; replace hr11 : Kd.F k92 _ _ A11 y165.length y165 := (by rw [hA11]; exact hr11); rw [← hy11, ← hA11, ← hc11] at hcut11; have HO169 := Aside0.mk (show Kd.V k92 92 _ w.heap.size _ (.slice A11 y165.length c11) y165 from Kd.V_mk (by rw [hy11, hc11]; exact Nat.sub_le_sub_right (Nat.le_trans (by omega) hroom11) _) hr11); have HC169 := Aside0.mk (show y165.length ≤ c11 from by rw [hy11, hc11]; exact Nat.sub_le_sub_right (Nat.le_trans (by omega) hroom11) _); clear hr11 hC11 hroom11 hi011 hsz11 hc11; have KY11 := Aside0.mk hy11; have KA11 := Aside0.mk hA11; clear hy11 hA11; replace q11 := eq_true q11) | ((with_reducible refine gate_callee (f := 54) rfl ?_); refine goesL_ (some 34) rfl rfl Try.func54 (by kernel_rfl) rfl #[.slice A11 y165.length c11] rfl (by (try simp only [List.map_toArray, List.map_cons, List.map_nil]); first | done | rfl | (simp only [List.length_drop, List.length_take]; rfl)) ?_; (with_reducible refine (ih k1 (by have := HK1.out; omega) (fun k_ => ((P0_ k_ ∨ w.heap.size ≤ k_) ∧ some k_ ≠ (u3 : Value).ownBlock)) _ _ y165 t170 _ ?side1 A10.out).mono ?_); (case side1 => exact HO169.out); rintro e w12 ⟨v171, rfl, ho0, hb⟩; refine ⟨_, rfl, ?_⟩; have n0_ := Aside0.mk (Kd.V_elder' (by (with_reducible repeat (first | apply Kd.V_alloc | apply Kd.V_drewN | apply Kd.V_drew)); exact HO_0.out) (Kd.N_base ho0) hb); have n1_ := Aside0.mk (Kd.N_elder' (by (with_reducible repeat (first | apply Kd.N_alloc | apply Kd.N_drewN | apply Kd.N_drew)); exact HO_3.out) (Kd.N_base ho0) hb); have n2_ := Aside0.mk (Kd.V_elder' (by (with_reducible repeat (first | apply Kd.V_alloc | apply Kd.V_drewN | apply Kd.V_drew)); exact HL163_4.out) (Kd.N_base ho0) hb); have n3_ := Aside0.mk (Kd.V_elder' (by (with_reducible repeat (first | apply Kd.V_alloc | apply Kd.V_drewN | apply Kd.V_drew)); exact HO169.out) (Kd.N_base ho0) hb); have n4_ := Aside0.mk (Kd.N_lower (Kd.N_mono (ok' := fun k_ => (P0_ k_ ∨ w.heap.size ≤ k_) ∧ some k_ ≠ (u3 : Value).ownBlock) ho0 (fun k_ hk_ => ⟨Or.elim hk_ (fun hs_ => hs_.1) (fun hn_ => (.inr (Nat.le_trans (below_size (by repeat (first | (with_reducible first | exact HB.out | apply below_alloc | apply pw_below_drewN | apply below_drew1) | exact HB.out))) hn_))), Or.elim hk_ (fun hs_ => hs_.2) (fun hn_ => (Kd.fresh' (Kd.N_lt (by (with_reducible repeat (first | apply Kd.N_alloc | apply Kd.N_drewN | apply Kd.N_drew)); exact HO_3.out)) k_ hn_))⟩)) (below_size (by repeat (first | (with_reducible first | exact HB.out | apply below_alloc | apply pw_below_drewN | apply below_drew1) | exact HB.out)))); have n5_ := Aside0.mk (Kd.C_below (by repeat (first | (with_reducible exact HR163_4.out) | (with_reducible refine Kd.C_alloc ?_ _) | (with_reducible refine Kd.C_drewN ?_ _) | (with_reducible refine Kd.C_drew ?_) | exact HR163_4.out)) hb); have n6_ := Aside0.mk (below_step (by repeat (first | (with_reducible first | exact HB.out | apply below_alloc | apply pw_below_drewN | apply below_drew1) | exact HB.out)) hb); clear HO_0; clear HO_3; clear HL163_4; clear HO169; clear HR163_4; clear HB; have HO_0 := n0_; have HO_3 := n1_; have HL163_4 := n2_; have HO169 := n3_; have HO172 := n4_; have HR163_4 := n5_; have HB := n6_; clear n0_ n1_ n2_ n3_ n4_ n5_ n6_; (try clear hb); (try clear hb2); (try clear hk); (try clear hi); (try clear ho0)))
                  go_loopg [3, 7] k1 (fun kq v3 v7 w' => ∃ (x3_2 : List (S92)) (x7_2 : Int), v7 = .int .i64 x7_2 ∧ Aside0 (watchbillref8_Flat.l1 kq l0 x3_2 x4_1 t164 t170 x7_2 = some r) ∧ Aside0 (kq ≤ k1) ∧ Aside0 (Kd.V k92 92 w' w.heap.size (fun k_ => (P0_ k_ ∨ w.heap.size ≤ k_) ∧ some k_ ≠ (v3 : Value).ownBlock ∧ some k_ ≠ (v171 : Value).ownBlock) (.slice (some ad163) l0.length c0) l0) ∧ Aside0 (Kd.N k92 92 w' w.heap.size (fun k_ => (P0_ k_ ∨ w.heap.size ≤ k_)) v3 x3_2) ∧ Aside0 (Kd.N k92 92 w' w.heap.size (fun k_ => (P0_ k_ ∨ w.heap.size ≤ k_) ∧ some k_ ≠ (v3 : Value).ownBlock) v171 t170) ∧ Aside0 (Below w.heap.size w w'))
                  case atStart => exact ⟨(x3_1), (0), (by first | rfl | (simp; done) | (simp [*]; done) | (simp [Int.tdiv_eq_ediv_of_nonneg]; done)), H', ⟨Nat.le_refl _⟩, ⟨by (with_reducible repeat (first | apply Kd.V_alloc | apply Kd.V_drewN | apply Kd.V_drew)); exact Kd.V_mono HO_0.out (fun _ hk => ⟨hk.1.1, ⟨hk.1.2, hk.2⟩⟩)⟩, ⟨by (with_reducible repeat (first | apply Kd.N_alloc | apply Kd.N_drewN | apply Kd.N_drew)); exact Kd.N_mono HO_3.out (fun _ hk => hk.1)⟩, ⟨by (with_reducible repeat (first | apply Kd.N_alloc | apply Kd.N_drewN | apply Kd.N_drew)); exact HO172.out⟩, ⟨by repeat (first | (with_reducible first | exact HB.out | apply below_alloc | apply pw_below_drewN | apply below_drew1) | exact HB.out)⟩⟩
                  case round =>
                    clear H'
                    try clear c1
                    try clear p1
                    try clear q1
                    try clear hx1
                    try clear c2
                    try clear c2b0
                    try clear p2
                    try clear c3
                    try clear c3b0
                    try clear c4
                    try clear c4b0
                    try clear c4b1
                    try clear c5
                    try clear c6
                    try clear p6
                    try clear c7
                    try clear c7b0
                    try clear c7b1
                    try clear c8
                    try clear c8b0
                    try clear c8b1
                    try clear c9
                    try clear c9b0
                    try clear c9b1
                    try clear c11
                    try clear q11
                    try clear hx163_0
                    try clear hx163_1
                    try clear hx163_2
                    try clear hx163_3
                    try clear hx163_4
                    try clear p163
                    try clear q011
                    try clear q11
                    try clear q163
                    (try clear HA)
                    (try clear HK2)
                    (try clear HO_0)
                    (try clear HO_3)
                    (try clear HO_6)
                    (try clear HB)
                    obtain ⟨x3_2, x7_2, rfl, HA, HK2, HO_0, HO_3, HO_6, HB⟩ := hrel
                    cases gk with
                    | zero => exact absurd HA.out (by simp [watchbillref8_Flat.l1])
                    | succ k2 =>
                      have H := HA.out
                      clear HA
                      simp only [watchbillref8_Flat.l1] at H
                      by_cases c13 : 0 ≤ x4_1
                      · rw [if_pos c13] at H
                        have c13b0 : decide (0 ≤ x4_1) = true := decide_eq_true c13
                        clear c13
                        by_cases c14 : x4_1 < (l0.length : Int)
                        · rw [if_pos c14] at H
                          have c14b0 : decide (x4_1 < (l0.length : Int)) = true := decide_eq_true c14
                          clear c14
                          by_cases c15 : x7_2 < ((rd_T92 l0 x4_1).f1)
                          · rw [if_pos c15] at H
                            have c15b0 : decide (x7_2 < ((rd_T92 l0 x4_1).f1)) = true := decide_eq_true c15
                            clear c15
                            by_cases c16 : x3_2.length + t170.length < 2513169434916
                            · rw [if_pos c16] at H
                              have LMc16 := Aside0.mk c16
                              clear c16
                              obtain ⟨y174, hy174⟩ : ∃ y_ : List (S92), y_ = (x3_2 ++ t170) := ⟨_, rfl⟩
                              replace H : (watchbillref8_Flat.l1 k2 l0 y174 x4_1 t164 t170 (wrap64 (x7_2 + 1))) = some r := by first | (rw [hy174]; with_reducible exact H) | (have H2_ := (Option.bind_some _ _).symm.trans H; rw [hy174]; with_reducible exact H2_) | (have H2_ := (Option.bind_some _ _).symm.trans H; with_reducible exact H2_) | with_reducible exact H | (rw [hy174]; exact H) | exact H
                              have Ny174 := Aside0.mk hy174
                              clear hy174
                              have H' := Aside0.mk H
                              clear H
                              have p173 : 0 ≤ (x4_1 : Int) := of_decide_eq_true (by first | (with_reducible assumption) | assumption)
                              have q173 : x4_1 < (l0.length : Int) := of_decide_eq_true (by first | (with_reducible assumption) | assumption)
                              obtain ⟨ad173, A173_4, c173_4, e173, hx173_0, hx173_1, hx173_2, hx173_3, hx173_4, hl173_4, hi173_4⟩ := at_T92 (Kd.V_reads' HO_0.out).2.2 x4_1 p173 q173
                              obtain rfl : ad163 = ad173 := (by injection e173)
                              obtain ⟨ce173, hce173, hMe173, hcc173⟩ := Kd.V_get HO_0.out z92 x4_1 p173 (by first | exact q173 | exact of_decide_eq_true (by first | (with_reducible assumption) | assumption) | (have e_ := (Kd.V_reads' HO_0.out).1; omega))
                              obtain ⟨ua173_4, uc173_4, rfl, ul173_4, ge173_4⟩ := k92_openF hMe173
                              have hv173_4 := hcc173 4 _ rfl
                              rw [add_field _ _ 4 (by omega)] at hv173_4
                              replace hv173_4 := Option.some.inj (hv173_4.symm.trans hx173_4)
                              injection hv173_4 with hva_ hvn_ hvc_
                              rw [hva_] at ge173_4
                              rw [hvc_] at ul173_4
                              have HL173_4 := Aside0.mk (show Kd.V k109 109 _ w.heap.size _ _ ((rd_T92 l0 x4_1).f4) from Kd.V_mk ul173_4 ge173_4)
                              clear hva_ hvn_ hvc_ ge173_4 ul173_4
                              clear hcc173 hce173
                              have HR173_4 := Aside0.mk hi173_4
                              have HC173_4 := Aside0.mk hl173_4
                              clear hi173_4 hl173_4
                              replace p173 := eq_true p173
                              replace q173 := eq_true q173
                              obtain ⟨Ao18, co18, eo18⟩ := Kd.N_slice HO_6.out
                              subst eo18
                              go_wp2_with (first | ((with_reducible refine gate_builtin (b := .append) (xs := #[.tmp 44, .tmp 45]) rfl ?_); at_builtin; refine Kd.N_append_rows k92 (w0 := w) w.heap.size rfl (.tmp 44) (.tmp 45) 58 92 (.agg #[(.int .i64 0), (.int .i64 0), (.int .i64 0), (.int .i64 0), (.slice none 0 0)]) 56 rfl Try.underlying58 info92 rfl (by decide) (by omega) u3 x3_2 t170 _ _ _ (fun k_ => (P0_ k_ ∨ w.heap.size ≤ k_)) (fun k_ => ((fun k_ => (P0_ k_ ∨ w.heap.size ≤ k_))) k_ ∧ some k_ ≠ (u3 : Value).ownBlock) rfl rfl ?aO ?aR (fun _ hk => hk) ?aF ?aB ?aS ?aL ?_; (case aR => exact (by skip; exact Kd.N_F (Kd.N_mono (ok' := (fun k_ => ((fun k_ => (P0_ k_ ∨ w.heap.size ≤ k_))) k_ ∧ some k_ ≠ (u3 : Value).ownBlock)) (HO_6.out) (fun k_ hk => ⟨hk.1, hk.2⟩)))); (case aB => exact (by repeat (first | (with_reducible first | exact HB.out | apply below_alloc | apply pw_below_drewN | apply below_drew1) | exact HB.out))); (case aF => exact (fun k_ hk => (.inr (Nat.le_trans (below_size (by repeat (first | (with_reducible first | exact HB.out | apply below_alloc | apply pw_below_drewN | apply below_drew1) | exact HB.out))) hk)))); (case aO => exact (by (with_reducible repeat (first | apply Kd.N_alloc | apply Kd.N_drewN | apply Kd.N_drew)); exact HO_3.out)); (case aS => exact (below_size (by repeat (first | (with_reducible first | exact HB.out | apply below_alloc | apply pw_below_drewN | apply below_drew1) | exact HB.out)))); (case aL => have := LMc16.out; omega); intro v175 w17 ho hb hg hat; rw [← Ny174.out] at ho; have n0_ := Aside0.mk (Kd.V_afterv (ok := (fun k_ => (P0_ k_ ∨ w.heap.size ≤ k_) ∧ some k_ ≠ (.slice Ao18 t170.length co18 : Value).ownBlock)) (by (with_reducible repeat (first | apply Kd.V_alloc | apply Kd.V_drewN | apply Kd.V_drew)); exact Kd.V_mono HO_0.out (fun _ hk => ⟨⟨hk.1, hk.2.2⟩, hk.2.1⟩)) hg hat); have n1_ := Aside0.mk (Kd.N_afterv (ok := (fun k_ => (P0_ k_ ∨ w.heap.size ≤ k_))) (by (with_reducible repeat (first | apply Kd.N_alloc | apply Kd.N_drewN | apply Kd.N_drew)); exact HO_6.out) hg hat); have n2_ := Aside0.mk (Kd.V_afterv (ok := (fun k_ => (P0_ k_ ∨ w.heap.size ≤ k_) ∧ some k_ ≠ (.slice Ao18 t170.length co18 : Value).ownBlock)) (by (with_reducible repeat (first | apply Kd.V_alloc | apply Kd.V_drewN | apply Kd.V_drew)); exact Kd.V_mono HL173_4.out (fun _ hk => ⟨⟨hk.1, hk.2.2⟩, hk.2.1⟩)) hg hat); have n3_ := Aside0.mk (hb); have n4_ := Aside0.mk (ho); clear HO_0; clear HO_6; clear HL173_4; clear HB; clear HO_3; have HO_0 := n0_; have HO_6 := n1_; have HL173_4 := n2_; have HB := n3_; have HO176 := n4_; clear n0_ n1_ n2_ n3_ n4_; clear ho hb hg hat))
                              go_roundg k2
                              case measure => have := HK1.out; have := HK2.out; omega
                              case rel => exact ⟨(y174), (wrap64 (x7_2 + 1)), (by first | rfl | (simp; done) | (simp [*]; done) | (simp [Int.tdiv_eq_ediv_of_nonneg]; done)), H', ⟨by have := HK1.out; have := HK2.out; omega⟩, ⟨by (with_reducible repeat (first | apply Kd.V_alloc | apply Kd.V_drewN | apply Kd.V_drew)); exact Kd.V_mono HO_0.out (fun _ hk => ⟨hk.1.1, ⟨hk.2, hk.1.2⟩⟩)⟩, ⟨by (with_reducible repeat (first | apply Kd.N_alloc | apply Kd.N_drewN | apply Kd.N_drew)); exact HO176.out⟩, ⟨by (with_reducible repeat (first | apply Kd.N_alloc | apply Kd.N_drewN | apply Kd.N_drew)); exact HO_6.out⟩, ⟨by repeat (first | (with_reducible first | exact HB.out | apply below_alloc | apply pw_below_drewN | apply below_drew1) | exact HB.out)⟩⟩
                            · rw [if_neg c16] at H
                              exact absurd H (by simp)
                          · rw [if_neg c15] at H
                            have c15b0 : decide (x7_2 < ((rd_T92 l0 x4_1).f1)) = false := decide_eq_false c15
                            clear c15
                            have H' := Aside0.mk H
                            clear H
                            have p173 : 0 ≤ (x4_1 : Int) := of_decide_eq_true (by first | (with_reducible assumption) | assumption)
                            have q173 : x4_1 < (l0.length : Int) := of_decide_eq_true (by first | (with_reducible assumption) | assumption)
                            obtain ⟨ad173, A173_4, c173_4, e173, hx173_0, hx173_1, hx173_2, hx173_3, hx173_4, hl173_4, hi173_4⟩ := at_T92 (Kd.V_reads' HO_0.out).2.2 x4_1 p173 q173
                            obtain rfl : ad163 = ad173 := (by injection e173)
                            obtain ⟨ce173, hce173, hMe173, hcc173⟩ := Kd.V_get HO_0.out z92 x4_1 p173 (by first | exact q173 | exact of_decide_eq_true (by first | (with_reducible assumption) | assumption) | (have e_ := (Kd.V_reads' HO_0.out).1; omega))
                            obtain ⟨ua173_4, uc173_4, rfl, ul173_4, ge173_4⟩ := k92_openF hMe173
                            have hv173_4 := hcc173 4 _ rfl
                            rw [add_field _ _ 4 (by omega)] at hv173_4
                            replace hv173_4 := Option.some.inj (hv173_4.symm.trans hx173_4)
                            injection hv173_4 with hva_ hvn_ hvc_
                            rw [hva_] at ge173_4
                            rw [hvc_] at ul173_4
                            have HL173_4 := Aside0.mk (show Kd.V k109 109 _ w.heap.size _ _ ((rd_T92 l0 x4_1).f4) from Kd.V_mk ul173_4 ge173_4)
                            clear hva_ hvn_ hvc_ ge173_4 ul173_4
                            clear hcc173 hce173
                            have HR173_4 := Aside0.mk hi173_4
                            have HC173_4 := Aside0.mk hl173_4
                            clear hi173_4 hl173_4
                            replace p173 := eq_true p173
                            replace q173 := eq_true q173
                            go_wp2
                            go_roundg k2
                            case measure => have := HK1.out; have := HK2.out; omega
                            case rel => exact ⟨(x3_2), (wrap64 (t164 + 1)), (by first | rfl | (simp; done) | (simp [*]; done) | (simp [Int.tdiv_eq_ediv_of_nonneg]; done)), H', ⟨by have := HK1.out; have := HK2.out; omega⟩, ⟨by (with_reducible repeat (first | apply Kd.V_alloc | apply Kd.V_drewN | apply Kd.V_drew)); exact Kd.V_mono HO_0.out (fun _ hk => ⟨hk.1, hk.2.1⟩)⟩, ⟨by (with_reducible repeat (first | apply Kd.N_alloc | apply Kd.N_drewN | apply Kd.N_drew)); exact HO_3.out⟩, ⟨by repeat (first | (with_reducible first | exact HB.out | apply below_alloc | apply pw_below_drewN | apply below_drew1) | exact HB.out)⟩⟩
                        · rw [if_neg c14] at H
                          exact absurd H (by simp)
                      · rw [if_neg c13] at H
                        exact absurd H (by simp)
                · rw [if_neg c9] at H
                  exact absurd H (by simp)
              · rw [if_neg c8] at H
                exact absurd H (by simp)
            · rw [if_neg c7] at H
              exact absurd H (by simp)
          · rw [if_neg c4] at H
            have c4b0 : (((rd_T92 l0 x4_1).f0) == 8) = false := beq_eq_false_iff_ne.mpr c4
            have c4b1 : (((rd_T92 l0 x4_1).f0) != 8) = true := bne_iff_ne.mpr c4
            by_cases c19 : ((rd_T92 l0 x4_1).f0) = 9
            · rw [if_pos c19] at H
              have c19b0 : (((rd_T92 l0 x4_1).f0) == 9) = true := beq_iff_eq.mpr c19
              have c19b1 : (((rd_T92 l0 x4_1).f0) != 9) = false := bne_eq_false_iff_eq.mpr c19
              clear c19
              have H' := Aside0.mk H
              clear H
              have p163 : 0 ≤ (x4_1 : Int) := of_decide_eq_true (by first | (with_reducible assumption) | assumption)
              have q163 : x4_1 < (l0.length : Int) := of_decide_eq_true (by first | (with_reducible assumption) | assumption)
              obtain ⟨ad163, A163_4, c163_4, e163, hx163_0, hx163_1, hx163_2, hx163_3, hx163_4, hl163_4, hi163_4⟩ := at_T92 (Kd.V_reads' HO_0.out).2.2 x4_1 p163 q163
              cases e163
              obtain ⟨ce163, hce163, hMe163, hcc163⟩ := Kd.V_get HO_0.out z92 x4_1 p163 (by first | exact q163 | exact of_decide_eq_true (by first | (with_reducible assumption) | assumption) | (have e_ := (Kd.V_reads' HO_0.out).1; omega))
              obtain ⟨ua163_4, uc163_4, rfl, ul163_4, ge163_4⟩ := k92_openF hMe163
              have hv163_4 := hcc163 4 _ rfl
              rw [add_field _ _ 4 (by omega)] at hv163_4
              replace hv163_4 := Option.some.inj (hv163_4.symm.trans hx163_4)
              injection hv163_4 with hva_ hvn_ hvc_
              rw [hva_] at ge163_4
              rw [hvc_] at ul163_4
              have HL163_4 := Aside0.mk (show Kd.V k109 109 _ w.heap.size _ _ ((rd_T92 l0 x4_1).f4) from Kd.V_mk ul163_4 ge163_4)
              clear hva_ hvn_ hvc_ ge163_4 ul163_4
              clear hcc163 hce163
              have HR163_4 := Aside0.mk hi163_4
              have HC163_4 := Aside0.mk hl163_4
              clear hi163_4 hl163_4
              replace p163 := eq_true p163
              replace q163 := eq_true q163
              go_wp2
              go_roundg k1
              case measure => have := HK1.out; omega
              case rel => exact ⟨(x3_1), (wrap64 (x4_1 + 1)), (by first | rfl | (simp; done) | (simp [*]; done) | (simp [Int.tdiv_eq_ediv_of_nonneg]; done)), H', ⟨by have := HK1.out; omega⟩, ⟨by (with_reducible repeat (first | apply Kd.V_alloc | apply Kd.V_drewN | apply Kd.V_drew)); exact HO_0.out⟩, ⟨by (with_reducible repeat (first | apply Kd.N_alloc | apply Kd.N_drewN | apply Kd.N_drew)); exact HO_3.out⟩, ⟨by repeat (first | (with_reducible first | exact HB.out | apply below_alloc | apply pw_below_drewN | apply below_drew1) | exact HB.out)⟩⟩
            · rw [if_neg c19] at H
              have c19b0 : (((rd_T92 l0 x4_1).f0) == 9) = false := beq_eq_false_iff_ne.mpr c19
              have c19b1 : (((rd_T92 l0 x4_1).f0) != 9) = true := bne_iff_ne.mpr c19
              by_cases c20 : x3_1.length < 2513169434916
              · rw [if_pos c20] at H
                have LMc20 := Aside0.mk c20
                clear c20
                obtain ⟨y178, hy178⟩ : ∃ y_ : List (S92), y_ = (x3_1 ++ [(⟨(rd_T92 l0 x4_1).f0, (rd_T92 l0 x4_1).f1, (rd_T92 l0 x4_1).f2, (rd_T92 l0 x4_1).f3, (rd_T92 l0 x4_1).f4⟩ : S92)]) := ⟨_, rfl⟩
                replace H : (watchbillref8_Flat.l0 k1 l0 y178 (wrap64 (x4_1 + 1))) = some r := by first | (rw [hy178]; with_reducible exact H) | (have H2_ := (Option.bind_some _ _).symm.trans H; rw [hy178]; with_reducible exact H2_) | (have H2_ := (Option.bind_some _ _).symm.trans H; with_reducible exact H2_) | with_reducible exact H | (rw [hy178]; exact H) | exact H
                have Ny178 := Aside0.mk hy178
                clear hy178
                have H' := Aside0.mk H
                clear H
                have p163 : 0 ≤ (x4_1 : Int) := of_decide_eq_true (by first | (with_reducible assumption) | assumption)
                have q163 : x4_1 < (l0.length : Int) := of_decide_eq_true (by first | (with_reducible assumption) | assumption)
                obtain ⟨ad163, A163_4, c163_4, e163, hx163_0, hx163_1, hx163_2, hx163_3, hx163_4, hl163_4, hi163_4⟩ := at_T92 (Kd.V_reads' HO_0.out).2.2 x4_1 p163 q163
                cases e163
                obtain ⟨ce163, hce163, hMe163, hcc163⟩ := Kd.V_get HO_0.out z92 x4_1 p163 (by first | exact q163 | exact of_decide_eq_true (by first | (with_reducible assumption) | assumption) | (have e_ := (Kd.V_reads' HO_0.out).1; omega))
                obtain ⟨ua163_4, uc163_4, rfl, ul163_4, ge163_4⟩ := k92_openF hMe163
                have hv163_4 := hcc163 4 _ rfl
                rw [add_field _ _ 4 (by omega)] at hv163_4
                replace hv163_4 := Option.some.inj (hv163_4.symm.trans hx163_4)
                injection hv163_4 with hva_ hvn_ hvc_
                rw [hva_] at ge163_4
                rw [hvc_] at ul163_4
                have HL163_4 := Aside0.mk (show Kd.V k109 109 _ w.heap.size _ _ ((rd_T92 l0 x4_1).f4) from Kd.V_mk ul163_4 ge163_4)
                clear hva_ hvn_ hvc_ ge163_4 ul163_4
                clear hcc163 hce163
                have HR163_4 := Aside0.mk hi163_4
                have HC163_4 := Aside0.mk hl163_4
                clear hi163_4 hl163_4
                replace p163 := eq_true p163
                replace q163 := eq_true q163
                have p177 : 0 ≤ (x4_1 : Int) := of_decide_eq_true (by first | (with_reducible assumption) | assumption)
                have q177 : x4_1 < (l0.length : Int) := of_decide_eq_true (by first | (with_reducible assumption) | assumption)
                obtain ⟨ad177, A177_4, c177_4, e177, hx177_0, hx177_1, hx177_2, hx177_3, hx177_4, hl177_4, hi177_4⟩ := at_T92 (Kd.V_reads' HO_0.out).2.2 x4_1 p177 q177
                obtain rfl : ad163 = ad177 := (by injection e177)
                obtain ⟨ce177, hce177, hMe177, hcc177⟩ := Kd.V_get HO_0.out z92 x4_1 p177 (by first | exact q177 | exact of_decide_eq_true (by first | (with_reducible assumption) | assumption) | (have e_ := (Kd.V_reads' HO_0.out).1; omega))
                obtain ⟨ua177_4, uc177_4, rfl, ul177_4, ge177_4⟩ := k92_openF hMe177
                have hv177_4 := hcc177 4 _ rfl
                rw [add_field _ _ 4 (by omega)] at hv177_4
                replace hv177_4 := Option.some.inj (hv177_4.symm.trans hx177_4)
                injection hv177_4 with hva_ hvn_ hvc_
                rw [hva_] at ge177_4
                rw [hvc_] at ul177_4
                have HL177_4 := Aside0.mk (show Kd.V k109 109 _ w.heap.size _ _ ((rd_T92 l0 x4_1).f4) from Kd.V_mk ul177_4 ge177_4)
                clear hva_ hvn_ hvc_ ge177_4 ul177_4
                clear hcc177 hce177
                have HR177_4 := Aside0.mk hi177_4
                have HC177_4 := Aside0.mk hl177_4
                clear hi177_4 hl177_4
                replace p177 := eq_true p177
                replace q177 := eq_true q177
                have ea_ := Option.some.inj (hx163_4.symm.trans hx177_4)
                injection ea_ with ea_ en_ ec_
                subst ea_
                subst ec_
                clear en_
                go_wp2_with (first | ((with_reducible refine gate_builtin (b := .append) (xs := #[.tmp 17, .tmp 22]) rfl ?_); at_builtin; refine Kd.N_append k92 (w0 := w) w.heap.size rfl (.tmp 17) (.tmp 22) 58 92 (.agg #[(.int .i64 0), (.int .i64 0), (.int .i64 0), (.int .i64 0), (.slice none 0 0)]) 56 rfl Try.underlying58 info92 rfl (by decide) (by omega) u3 x3_1 (⟨(rd_T92 l0 x4_1).f0, (rd_T92 l0 x4_1).f1, (rd_T92 l0 x4_1).f2, (rd_T92 l0 x4_1).f3, (rd_T92 l0 x4_1).f4⟩ : S92) [.int .i64 ((rd_T92 l0 x4_1).f0), .int .i64 ((rd_T92 l0 x4_1).f1), .int .i64 ((rd_T92 l0 x4_1).f2), .int .i64 ((rd_T92 l0 x4_1).f3), .slice A163_4 ((rd_T92 l0 x4_1).f4).length c163_4] (fun k_ => (P0_ k_ ∨ w.heap.size ≤ k_)) (fun k_ => ((fun k_ => (P0_ k_ ∨ w.heap.size ≤ k_))) k_ ∧ some k_ ≠ (u3 : Value).ownBlock) rfl rfl ?aP (fun _ hk => hk) ?aF ?aO ?aB ?aS ?aL ?_; (case aP => exact (k92_mkF _ _ (⟨(rd_T92 l0 x4_1).f0, (rd_T92 l0 x4_1).f1, (rd_T92 l0 x4_1).f2, (rd_T92 l0 x4_1).f3, (rd_T92 l0 x4_1).f4⟩ : S92) (Kd.V_reads' (Kd.V_mono (ok' := (fun k_ => ((fun k_ => (P0_ k_ ∨ w.heap.size ≤ k_))) k_ ∧ some k_ ≠ (u3 : Value).ownBlock)) (HL177_4.out) (fun k_ hk => ⟨hk.1, hk.2⟩))).2.1 (Kd.V_F (Kd.V_mono (ok' := (fun k_ => ((fun k_ => (P0_ k_ ∨ w.heap.size ≤ k_))) k_ ∧ some k_ ≠ (u3 : Value).ownBlock)) (HL177_4.out) (fun k_ hk => ⟨hk.1, hk.2⟩))))); (case aB => exact (by repeat (first | (with_reducible first | exact HB.out | apply below_alloc | apply pw_below_drewN | apply below_drew1) | exact HB.out))); (case aF => exact (fun k_ hk => (.inr (Nat.le_trans (below_size (by repeat (first | (with_reducible first | exact HB.out | apply below_alloc | apply pw_below_drewN | apply below_drew1) | exact HB.out))) hk)))); (case aO => exact (by (with_reducible repeat (first | apply Kd.N_alloc | apply Kd.N_drewN | apply Kd.N_drew)); exact HO_3.out)); (case aS => exact (below_size (by repeat (first | (with_reducible first | exact HB.out | apply below_alloc | apply pw_below_drewN | apply below_drew1) | exact HB.out)))); (case aL => have := LMc20.out; omega); intro v179 w21 ho hb hg hat; rw [← Ny178.out] at ho; have n0_ := Aside0.mk (Kd.V_afterv (ok := (fun k_ => (P0_ k_ ∨ w.heap.size ≤ k_))) (by (with_reducible repeat (first | apply Kd.V_alloc | apply Kd.V_drewN | apply Kd.V_drew)); exact HO_0.out) hg hat); have n1_ := Aside0.mk (Kd.V_afterv (ok := (fun k_ => (P0_ k_ ∨ w.heap.size ≤ k_))) (by (with_reducible repeat (first | apply Kd.V_alloc | apply Kd.V_drewN | apply Kd.V_drew)); exact HL163_4.out) hg hat); have n2_ := Aside0.mk (Kd.V_afterv (ok := (fun k_ => (P0_ k_ ∨ w.heap.size ≤ k_))) (by (with_reducible repeat (first | apply Kd.V_alloc | apply Kd.V_drewN | apply Kd.V_drew)); exact HL177_4.out) hg hat); have n3_ := Aside0.mk (hb); have n4_ := Aside0.mk (ho); clear HO_0; clear HL163_4; clear HL177_4; clear HB; clear HO_3; have HO_0 := n0_; have HL163_4 := n1_; have HL177_4 := n2_; have HB := n3_; have HO180 := n4_; clear n0_ n1_ n2_ n3_ n4_; clear ho hb hg hat))
                go_roundg k1
                case measure => have := HK1.out; omega
                case rel => exact ⟨(y178), (wrap64 (x4_1 + 1)), (by first | rfl | (simp; done) | (simp [*]; done) | (simp [Int.tdiv_eq_ediv_of_nonneg]; done)), H', ⟨by have := HK1.out; omega⟩, ⟨by (with_reducible repeat (first | apply Kd.V_alloc | apply Kd.V_drewN | apply Kd.V_drew)); exact HO_0.out⟩, ⟨by (with_reducible repeat (first | apply Kd.N_alloc | apply Kd.N_drewN | apply Kd.N_drew)); exact HO180.out⟩, ⟨by repeat (first | (with_reducible first | exact HB.out | apply below_alloc | apply pw_below_drewN | apply below_drew1) | exact HB.out)⟩⟩
              · rw [if_neg c20] at H
                exact absurd H (by simp)
        · rw [if_neg c3] at H
          exact absurd H (by simp)
      · rw [if_neg c2] at H
        have c2b0 : decide (x4_1 < (l0.length : Int)) = false := decide_eq_false c2
        clear c2
        obtain rfl := Option.some.inj H
        go_wp2
        go_ret
        exact ⟨_, by first | rfl | (simp [errW_none, errW_some] <;> rfl) | (simp [*, errW_none, errW_some] <;> rfl), by (with_reducible repeat (first | apply Kd.N_alloc | apply Kd.N_drewN | apply Kd.N_drew)); exact HO_3.out, by repeat (first | (with_reducible first | exact HB.out | apply below_alloc | apply pw_below_drewN | apply below_drew1) | exact HB.out)⟩

/-! ### watchbillref8_Cost: function 39 -/
def watchbillref8_Cost.l0 : Nat → List (S92) → Int → Int → Option (Int)
  | 0, _, _, _ => none
  | k + 1, x3, x4, x5 => if x5 < (x3.length : Int) then (if 0 ≤ x5 then (if ((rd_T92 x3 x5).f0) = 1 then (watchbillref8_Cost.l0 k x3 (wrap64 (x4 + ((rd_T92 x3 x5).f1))) (wrap64 (x5 + 1))) else (watchbillref8_Cost.l0 k x3 x4 (wrap64 (x5 + 1)))) else (none)) else (some x4)
def watchbillref8_Cost.f (k : Nat) (l0 : List (S92)) : Option (Int) := (watchbillref8_Flat.f k l0).bind fun t181 => (watchbillref8_Cost.l0 k t181 0 0)
theorem watchbillref8_Cost.mono_l : ∀ k, (∀ y0 y1 y2, LeO (watchbillref8_Cost.l0 k y0 y1 y2) (watchbillref8_Cost.l0 (k + 1) y0 y1 y2))
  | 0 => fun _ _ _ r h => by simp [watchbillref8_Cost.l0] at h
  | k + 1 => by
    have ih0 := watchbillref8_Cost.mono_l k
    · intro y0 y1 y2
      unfold watchbillref8_Cost.l0
      repeat' first
      | (with_reducible exact ih0 _ _ _)
      | (with_reducible exact watchbillref8_Flat.mono _ _)
      | (with_reducible exact LeO.refl _)
      | (with_reducible exact LeO.none _)
      | (with_reducible refine LeO.ite ?_ ?_)
      | (with_reducible refine LeO.bind ?_ (fun _ => ?_))
      | exact ih0 _ _ _
      | exact watchbillref8_Flat.mono _ _
      | exact LeO.none _
      | refine LeO.ite ?_ ?_
      | refine LeO.bind ?_ (fun _ => ?_)
theorem watchbillref8_Cost.mono : ∀ a0 k, LeO (watchbillref8_Cost.f k a0) (watchbillref8_Cost.f (k + 1) a0) := by
  intro a0 k
  have ih0 := watchbillref8_Cost.mono_l k
  unfold watchbillref8_Cost.f
  repeat' first
      | (with_reducible exact ih0 _ _ _)
      | (with_reducible exact watchbillref8_Flat.mono _ _)
      | (with_reducible exact LeO.refl _)
      | (with_reducible exact LeO.none _)
      | (with_reducible refine LeO.ite ?_ ?_)
      | (with_reducible refine LeO.bind ?_ (fun _ => ?_))
      | exact ih0 _ _ _
      | exact watchbillref8_Flat.mono _ _
      | exact LeO.none _
      | refine LeO.ite ?_ ?_
      | refine LeO.bind ?_ (fun _ => ?_)
set_option maxHeartbeats 8000000 in
set_option maxRecDepth 100000 in
theorem watchbillref8_Cost.calls (k : Nat) (A0 : Option Addr) (c0 : Nat) (l0 : List (S92)) (r : Int) (w : World) (hr0 : Kd.C k92 w A0 l0.length l0) (hc0 : l0.length ≤ c0) (h : watchbillref8_Cost.f k l0 = some r) :
    Calls Try.prog 39 #[.slice A0 l0.length c0] w fun e w' => e = .returned (.int .i64 r) ∧ Below w.heap.size w w' := by
  have HR0 := Aside0.mk hr0
  have HC0 := Aside0.mk hc0
  clear hr0 hc0
  have HB := Aside0.mk (Below.refl w.heap.size w)
  have H : ((watchbillref8_Flat.f k l0).bind fun t181 => (watchbillref8_Cost.l0 k t181 0 0)) = some r := h
  clear h
  replace H := Option.bind_eq_some_iff.mp H
  obtain ⟨t181, A20, H⟩ := H
  replace H : (watchbillref8_Cost.l0 k t181 0 0) = some r := H
  have A2 := Aside0.mk A20
  clear A20
  have H' := Aside0.mk H
  clear H
  go_enter Try.func39, Try.ntmps39
  go_wp2_with (first | ((with_reducible refine gate_callee (f := 54) rfl ?_); refine goesL_ (some 7) rfl rfl Try.func54 (by kernel_rfl) rfl #[.slice A0 l0.length c0] rfl (by (try simp only [List.map_toArray, List.map_cons, List.map_nil]); first | done | rfl | (simp only [List.length_drop, List.length_take]; rfl)) ?_; (with_reducible refine (watchbillref8_Flat.calls k (fun k_ => k_ < w.heap.size) _ _ l0 t181 _ ?side1 A2.out).mono ?_); (case side1 => exact Kd.V_mk HC0.out (Kd.F_below (Kd.C_F k92_heap HR0.out) (by repeat (first | (with_reducible first | exact HB.out | apply below_alloc | apply pw_below_drewN | apply below_drew1) | exact HB.out)))); rintro e w3 ⟨v182, rfl, ho0, hb⟩; refine ⟨_, rfl, ?_⟩; have n0_ := Aside0.mk (Kd.N_lower (Kd.N_mono (ok' := fun k_ => True) ho0 (fun k_ hk_ => trivial)) (below_size (by repeat (first | (with_reducible first | exact HB.out | apply below_alloc | apply pw_below_drewN | apply below_drew1) | exact HB.out)))); have n1_ := Aside0.mk (below_step (by repeat (first | (with_reducible first | exact HB.out | apply below_alloc | apply pw_below_drewN | apply below_drew1) | exact HB.out)) hb); clear HB; have HO183 := n0_; have HB := n1_; clear n0_ n1_; (try clear hb); (try clear hb2); (try clear hk); (try clear hi); (try clear ho0)))
  go_loopg [4, 5] k (fun kq v4 v5 w' => ∃ (x4_1 : Int) (x5_1 : Int), v4 = .int .i64 x4_1 ∧ v5 = .int .i64 x5_1 ∧ Aside0 (watchbillref8_Cost.l0 kq t181 x4_1 x5_1 = some r) ∧ Aside0 (kq ≤ k) ∧ Aside0 (Kd.N k92 92 w' w.heap.size (fun _ => True) v182 t181) ∧ Aside0 (Below w.heap.size w w'))
  case atStart => exact ⟨(0), (0), (by first | rfl | (simp; done) | (simp [*]; done) | (simp [Int.tdiv_eq_ediv_of_nonneg]; done)), (by first | rfl | (simp; done) | (simp [*]; done) | (simp [Int.tdiv_eq_ediv_of_nonneg]; done)), H', ⟨Nat.le_refl _⟩, ⟨by (with_reducible repeat (first | apply Kd.N_alloc | apply Kd.N_drewN | apply Kd.N_drew)); exact HO183.out⟩, ⟨by repeat (first | (with_reducible first | exact HB.out | apply below_alloc | apply pw_below_drewN | apply below_drew1) | exact HB.out)⟩⟩
  case round =>
    clear H'
    try clear p2
    try clear c3
    obtain ⟨x4_1, x5_1, rfl, rfl, HA, HK1, HO_3, HB⟩ := hrel
    cases gk with
    | zero => exact absurd HA.out (by simp [watchbillref8_Cost.l0])
    | succ k1 =>
      have H := HA.out
      clear HA
      simp only [watchbillref8_Cost.l0] at H
      by_cases c4 : x5_1 < (t181.length : Int)
      · rw [if_pos c4] at H
        have c4b0 : decide (x5_1 < (t181.length : Int)) = true := decide_eq_true c4
        clear c4
        by_cases c5 : 0 ≤ x5_1
        · rw [if_pos c5] at H
          have c5b0 : decide (0 ≤ x5_1) = true := decide_eq_true c5
          clear c5
          by_cases c6 : ((rd_T92 t181 x5_1).f0) = 1
          · rw [if_pos c6] at H
            have c6b0 : (((rd_T92 t181 x5_1).f0) == 1) = true := beq_iff_eq.mpr c6
            have c6b1 : (((rd_T92 t181 x5_1).f0) != 1) = false := bne_eq_false_iff_eq.mpr c6
            clear c6
            have H' := Aside0.mk H
            clear H
            obtain ⟨Ao7, co7, eo7⟩ := Kd.N_slice HO_3.out
            subst eo7
            have p184 : 0 ≤ (x5_1 : Int) := of_decide_eq_true (by first | (with_reducible assumption) | assumption)
            have q184 : x5_1 < (t181.length : Int) := of_decide_eq_true (by first | (with_reducible assumption) | assumption)
            obtain ⟨ad184, A184_4, c184_4, e184, hx184_0, hx184_1, hx184_2, hx184_3, hx184_4, hl184_4, hi184_4⟩ := at_T92 (Kd.N_reads' HO_3.out).2.2 x5_1 p184 q184
            cases e184
            obtain ⟨ce184, hce184, hMe184, hcc184⟩ := Kd.N_get HO_3.out z92 x5_1 p184 (by first | exact q184 | exact of_decide_eq_true (by first | (with_reducible assumption) | assumption) | (have e_ := (Kd.N_reads' HO_3.out).1; omega))
            obtain ⟨ua184_4, uc184_4, rfl, ul184_4, ge184_4⟩ := k92_openF hMe184
            have hv184_4 := hcc184 4 _ rfl
            rw [add_field _ _ 4 (by omega)] at hv184_4
            replace hv184_4 := Option.some.inj (hv184_4.symm.trans hx184_4)
            injection hv184_4 with hva_ hvn_ hvc_
            rw [hva_] at ge184_4
            rw [hvc_] at ul184_4
            have HL184_4 := Aside0.mk (show Kd.V k109 109 _ w.heap.size _ _ ((rd_T92 t181 x5_1).f4) from Kd.V_mk ul184_4 ge184_4)
            clear hva_ hvn_ hvc_ ge184_4 ul184_4
            clear hcc184 hce184
            have HR184_4 := Aside0.mk hi184_4
            have HC184_4 := Aside0.mk hl184_4
            clear hi184_4 hl184_4
            replace p184 := eq_true p184
            replace q184 := eq_true q184
            have p185 : 0 ≤ (x5_1 : Int) := of_decide_eq_true (by first | (with_reducible assumption) | assumption)
            have q185 : x5_1 < (t181.length : Int) := of_decide_eq_true (by first | (with_reducible assumption) | assumption)
            obtain ⟨ad185, A185_4, c185_4, e185, hx185_0, hx185_1, hx185_2, hx185_3, hx185_4, hl185_4, hi185_4⟩ := at_T92 (Kd.N_reads' HO_3.out).2.2 x5_1 p185 q185
            obtain rfl : ad184 = ad185 := (by injection e185)
            obtain ⟨ce185, hce185, hMe185, hcc185⟩ := Kd.N_get HO_3.out z92 x5_1 p185 (by first | exact q185 | exact of_decide_eq_true (by first | (with_reducible assumption) | assumption) | (have e_ := (Kd.N_reads' HO_3.out).1; omega))
            obtain ⟨ua185_4, uc185_4, rfl, ul185_4, ge185_4⟩ := k92_openF hMe185
            have hv185_4 := hcc185 4 _ rfl
            rw [add_field _ _ 4 (by omega)] at hv185_4
            replace hv185_4 := Option.some.inj (hv185_4.symm.trans hx185_4)
            injection hv185_4 with hva_ hvn_ hvc_
            rw [hva_] at ge185_4
            rw [hvc_] at ul185_4
            have HL185_4 := Aside0.mk (show Kd.V k109 109 _ w.heap.size _ _ ((rd_T92 t181 x5_1).f4) from Kd.V_mk ul185_4 ge185_4)
            clear hva_ hvn_ hvc_ ge185_4 ul185_4
            clear hcc185 hce185
            have HR185_4 := Aside0.mk hi185_4
            have HC185_4 := Aside0.mk hl185_4
            clear hi185_4 hl185_4
            replace p185 := eq_true p185
            replace q185 := eq_true q185
            have ea_ := Option.some.inj (hx184_4.symm.trans hx185_4)
            injection ea_ with ea_ en_ ec_
            subst ea_
            subst ec_
            clear en_
            go_wp2
            go_roundg k1
            case measure => have := HK1.out; omega
            case rel => exact ⟨(wrap64 (x4_1 + ((rd_T92 t181 x5_1).f1))), (wrap64 (x5_1 + 1)), (by first | rfl | (simp; done) | (simp [*]; done) | (simp [Int.tdiv_eq_ediv_of_nonneg]; done)), (by first | rfl | (simp; done) | (simp [*]; done) | (simp [Int.tdiv_eq_ediv_of_nonneg]; done)), H', ⟨by have := HK1.out; omega⟩, ⟨by (with_reducible repeat (first | apply Kd.N_alloc | apply Kd.N_drewN | apply Kd.N_drew)); exact HO_3.out⟩, ⟨by repeat (first | (with_reducible first | exact HB.out | apply below_alloc | apply pw_below_drewN | apply below_drew1) | exact HB.out)⟩⟩
          · rw [if_neg c6] at H
            have c6b0 : (((rd_T92 t181 x5_1).f0) == 1) = false := beq_eq_false_iff_ne.mpr c6
            have c6b1 : (((rd_T92 t181 x5_1).f0) != 1) = true := bne_iff_ne.mpr c6
            have H' := Aside0.mk H
            clear H
            obtain ⟨Ao8, co8, eo8⟩ := Kd.N_slice HO_3.out
            subst eo8
            have p184 : 0 ≤ (x5_1 : Int) := of_decide_eq_true (by first | (with_reducible assumption) | assumption)
            have q184 : x5_1 < (t181.length : Int) := of_decide_eq_true (by first | (with_reducible assumption) | assumption)
            obtain ⟨ad184, A184_4, c184_4, e184, hx184_0, hx184_1, hx184_2, hx184_3, hx184_4, hl184_4, hi184_4⟩ := at_T92 (Kd.N_reads' HO_3.out).2.2 x5_1 p184 q184
            cases e184
            obtain ⟨ce184, hce184, hMe184, hcc184⟩ := Kd.N_get HO_3.out z92 x5_1 p184 (by first | exact q184 | exact of_decide_eq_true (by first | (with_reducible assumption) | assumption) | (have e_ := (Kd.N_reads' HO_3.out).1; omega))
            obtain ⟨ua184_4, uc184_4, rfl, ul184_4, ge184_4⟩ := k92_openF hMe184
            have hv184_4 := hcc184 4 _ rfl
            rw [add_field _ _ 4 (by omega)] at hv184_4
            replace hv184_4 := Option.some.inj (hv184_4.symm.trans hx184_4)
            injection hv184_4 with hva_ hvn_ hvc_
            rw [hva_] at ge184_4
            rw [hvc_] at ul184_4
            have HL184_4 := Aside0.mk (show Kd.V k109 109 _ w.heap.size _ _ ((rd_T92 t181 x5_1).f4) from Kd.V_mk ul184_4 ge184_4)
            clear hva_ hvn_ hvc_ ge184_4 ul184_4
            clear hcc184 hce184
            have HR184_4 := Aside0.mk hi184_4
            have HC184_4 := Aside0.mk hl184_4
            clear hi184_4 hl184_4
            replace p184 := eq_true p184
            replace q184 := eq_true q184
            go_wp2
            go_roundg k1
            case measure => have := HK1.out; omega
            case rel => exact ⟨(x4_1), (wrap64 (x5_1 + 1)), (by first | rfl | (simp; done) | (simp [*]; done) | (simp [Int.tdiv_eq_ediv_of_nonneg]; done)), (by first | rfl | (simp; done) | (simp [*]; done) | (simp [Int.tdiv_eq_ediv_of_nonneg]; done)), H', ⟨by have := HK1.out; omega⟩, ⟨by (with_reducible repeat (first | apply Kd.N_alloc | apply Kd.N_drewN | apply Kd.N_drew)); exact HO_3.out⟩, ⟨by repeat (first | (with_reducible first | exact HB.out | apply below_alloc | apply pw_below_drewN | apply below_drew1) | exact HB.out)⟩⟩
        · rw [if_neg c5] at H
          exact absurd H (by simp)
      · rw [if_neg c4] at H
        have c4b0 : decide (x5_1 < (t181.length : Int)) = false := decide_eq_false c4
        clear c4
        obtain rfl := Option.some.inj H
        obtain ⟨Ao9, co9, eo9⟩ := Kd.N_slice HO_3.out
        subst eo9
        go_wp2
        go_ret
        exact ⟨by first | rfl | (simp [errW_none, errW_some] <;> rfl) | (simp [*, errW_none, errW_some] <;> rfl), by repeat (first | (with_reducible first | exact HB.out | apply below_alloc | apply pw_below_drewN | apply below_drew1) | exact HB.out)⟩

end Go.Proofs.Ythdmomaephiodaa.XA
