-- PRINTED by print.py (a twelfth state) out of the translation. Not trusted: Lean checks it.
import Derived.Test.YtjnhahdelipebaaXAx0
import Derived.Test.YtjnhahdelipebaaXAx11
namespace Go.Proofs.Ytjnhahdelipebaa.XA
open Go.RowKit Go.Proofs.YtjnhahdelipebaaW.PrintWords Go.Proofs.YtjnhahdelipebaaW.PrintLast Go.Proofs.YtjnhahdelipebaaW.PrintMore
attribute [local go_sem] max2_int min2_int max_two min_two max_three min_three max_four min_four   -- for this text's walks alone
set_option linter.unusedVariables false
set_option linter.unusedSimpArgs false

/-! ### watchbillref8_Flat: function 14 -/
mutual
def watchbillref8_Flat.l0 : Nat → List (S62) → List (S62) → Int → Option ((List (S62)))
  | 0, _, _, _ => none
  | k + 1, x0, x3, x4 => if x4 < (x0.length : Int) then (if 0 ≤ x4 then (if ((rd_T62 x0 x4).f0) = 8 then ((watchbillref8_Match.f k x0 x4).bind fun t297 => (if 0 ≤ (wrap64 (x4 + 1)) then (if (wrap64 (x4 + 1)) ≤ t297 then (if t297 ≤ (x0.length : Int) then ((watchbillref8_Flat.f k ((x0.take (t297 : Int).toNat).drop ((wrap64 (x4 + 1)) : Int).toNat)).bind fun t303 => (watchbillref8_Flat.l1 k x0 x3 x4 t297 t303 0)) else (none)) else (none)) else (none))) else (if ((rd_T62 x0 x4).f0) = 9 then (watchbillref8_Flat.l0 k x0 x3 (wrap64 (x4 + 1))) else (if x3.length < 2513169434916 then (watchbillref8_Flat.l0 k x0 (x3 ++ [(⟨(rd_T62 x0 x4).f0, (rd_T62 x0 x4).f1, (rd_T62 x0 x4).f2, (rd_T62 x0 x4).f3, (rd_T62 x0 x4).f4⟩ : S62)]) (wrap64 (x4 + 1))) else (none)))) else (none)) else (some x3)
def watchbillref8_Flat.l1 : Nat → List (S62) → List (S62) → Int → Int → List (S62) → Int → Option ((List (S62)))
  | 0, _, _, _, _, _, _ => none
  | k + 1, x0, x3, x4, x5, x6, x7 => if 0 ≤ x4 then (if x4 < (x0.length : Int) then (if x7 < ((rd_T62 x0 x4).f1) then (if x3.length + x6.length < 2513169434916 then (watchbillref8_Flat.l1 k x0 (x3 ++ x6) x4 x5 x6 (wrap64 (x7 + 1))) else (none)) else (watchbillref8_Flat.l0 k x0 x3 (wrap64 (x5 + 1)))) else (none)) else (none)
def watchbillref8_Flat.f : Nat → List (S62) → Option ((List (S62)))
  | 0, _ => none
  | k + 1, l0 => watchbillref8_Flat.l0 k l0 ([] : List (S62)) 0
end
theorem watchbillref8_Flat.mono_l : ∀ k, (∀ y0, LeO (watchbillref8_Flat.f k y0) (watchbillref8_Flat.f (k + 1) y0)) ∧ (∀ y0 y1 y2, LeO (watchbillref8_Flat.l0 k y0 y1 y2) (watchbillref8_Flat.l0 (k + 1) y0 y1 y2)) ∧ (∀ y0 y1 y2 y3 y4 y5, LeO (watchbillref8_Flat.l1 k y0 y1 y2 y3 y4 y5) (watchbillref8_Flat.l1 (k + 1) y0 y1 y2 y3 y4 y5))
  | 0 => ⟨fun _ r h => by simp [watchbillref8_Flat.f] at h, fun _ _ _ r h => by simp [watchbillref8_Flat.l0] at h, fun _ _ _ _ _ _ r h => by simp [watchbillref8_Flat.l1] at h⟩
  | k + 1 => by
    obtain ⟨ih0, ih1, ih2⟩ := watchbillref8_Flat.mono_l k
    refine ⟨?_, ?_, ?_⟩
    · intro y0
      unfold watchbillref8_Flat.f
      repeat' first
      | (with_reducible exact ih0 _)
      | (with_reducible exact ih1 _ _ _)
      | (with_reducible exact ih2 _ _ _ _ _ _)
      | (with_reducible exact watchbillref8_Match.mono _ _ _)
      | (with_reducible exact LeO.refl _)
      | (with_reducible exact LeO.none _)
      | (with_reducible refine LeO.ite ?_ ?_)
      | (with_reducible refine LeO.bind ?_ (fun _ => ?_))
      | exact ih0 _
      | exact ih1 _ _ _
      | exact ih2 _ _ _ _ _ _
      | exact watchbillref8_Match.mono _ _ _
      | exact LeO.none _
      | refine LeO.ite ?_ ?_
      | refine LeO.bind ?_ (fun _ => ?_)
    · intro y0 y1 y2
      unfold watchbillref8_Flat.l0
      repeat' first
      | (with_reducible exact ih0 _)
      | (with_reducible exact ih1 _ _ _)
      | (with_reducible exact ih2 _ _ _ _ _ _)
      | (with_reducible exact watchbillref8_Match.mono _ _ _)
      | (with_reducible exact LeO.refl _)
      | (with_reducible exact LeO.none _)
      | (with_reducible refine LeO.ite ?_ ?_)
      | (with_reducible refine LeO.bind ?_ (fun _ => ?_))
      | exact ih0 _
      | exact ih1 _ _ _
      | exact ih2 _ _ _ _ _ _
      | exact watchbillref8_Match.mono _ _ _
      | exact LeO.none _
      | refine LeO.ite ?_ ?_
      | refine LeO.bind ?_ (fun _ => ?_)
    · intro y0 y1 y2 y3 y4 y5
      unfold watchbillref8_Flat.l1
      repeat' first
      | (with_reducible exact ih0 _)
      | (with_reducible exact ih1 _ _ _)
      | (with_reducible exact ih2 _ _ _ _ _ _)
      | (with_reducible exact watchbillref8_Match.mono _ _ _)
      | (with_reducible exact LeO.refl _)
      | (with_reducible exact LeO.none _)
      | (with_reducible refine LeO.ite ?_ ?_)
      | (with_reducible refine LeO.bind ?_ (fun _ => ?_))
      | exact ih0 _
      | exact ih1 _ _ _
      | exact ih2 _ _ _ _ _ _
      | exact watchbillref8_Match.mono _ _ _
      | exact LeO.none _
      | refine LeO.ite ?_ ?_
      | refine LeO.bind ?_ (fun _ => ?_)
theorem watchbillref8_Flat.mono : ∀ a0 k, LeO (watchbillref8_Flat.f k a0) (watchbillref8_Flat.f (k + 1) a0) := by
  intro a0 k
  obtain ⟨ih0, ih1, ih2⟩ := watchbillref8_Flat.mono_l k
  exact ih0 a0
set_option maxHeartbeats 8000000 in
set_option maxRecDepth 100000 in
theorem watchbillref8_Flat.calls (k : Nat) : ∀ (P0_ : Nat → Prop) (A0 : Option Addr) (c0 : Nat) (l0 : List (S62)) (r : List (S62)) (w : World) (hs0 : Kd.V k62 62 w w.heap.size (fun k_ => P0_ k_) (.slice A0 l0.length c0) l0) (h : watchbillref8_Flat.f k l0 = some r),
    Calls Try.prog 14 #[.slice A0 l0.length c0] w fun e w' => ∃ v0_ : Value, e = .returned (v0_) ∧ Kd.N k62 62 w' w.heap.size (fun k_ => (P0_ k_ ∨ w.heap.size ≤ k_)) v0_ r ∧ Below w.heap.size w w' := by
  induction k using Nat.strongRecOn with
  | _ k ih =>
  intro P0_ A0 c0 l0 r w hs0 h
  cases k with
  | zero => exact absurd h (by simp [watchbillref8_Flat.f])
  | succ k =>
  simp only [watchbillref8_Flat.f] at h
  have hu62 := Try.underlying62
  have HO0 := Aside0.mk (show Kd.V k62 62 w w.heap.size (fun k_ => (P0_ k_ ∨ w.heap.size ≤ k_)) (.slice A0 l0.length c0) l0 from Kd.V_mono hs0 (fun k_ hk => .inl hk))
  have HB := Aside0.mk (Below.refl w.heap.size w)
  have H : (watchbillref8_Flat.l0 k l0 ([] : List (S62)) 0) = some r := h
  clear h
  have H' := Aside0.mk H
  clear H
  go_enter Try.func14, Try.ntmps14
  go_wp2
  go_loopg [3, 4] k (fun kq v3 v4 w' => ∃ (x3_1 : List (S62)) (x4_1 : Int), v4 = .int .i64 x4_1 ∧ Aside0 (watchbillref8_Flat.l0 kq l0 x3_1 x4_1 = some r) ∧ Aside0 (kq ≤ k) ∧ Aside0 (Kd.V k62 62 w' w.heap.size (fun k_ => (P0_ k_ ∨ w.heap.size ≤ k_) ∧ some k_ ≠ (v3 : Value).ownBlock) (.slice A0 l0.length c0) l0) ∧ Aside0 (Kd.N k62 62 w' w.heap.size (fun k_ => (P0_ k_ ∨ w.heap.size ≤ k_)) v3 x3_1) ∧ Aside0 (Below w.heap.size w w'))
  case atStart => exact ⟨(([] : List (S62))), (0), (by first | rfl | (simp; done) | (simp [*]; done) | (simp [Int.tdiv_eq_ediv_of_nonneg]; done)), H', ⟨Nat.le_refl _⟩, ⟨by (with_reducible repeat (first | apply Kd.V_alloc | apply Kd.V_drewN | apply Kd.V_drew)); exact Kd.V_mono HO0.out (fun _ hk => ⟨hk, (by simp [Value.ownBlock])⟩)⟩, ⟨by first | exact Kd.S_nil _ _ _ _ _ | exact Kd.N_nil _ _ _ _ _ | exact Kd.V_nil _ _ _ _ _ | exact Kd.Q_nil _ _ _ _ _ | exact Kd.R_nil _ _ _ _ _⟩, ⟨by repeat (first | (with_reducible first | exact HB.out | apply below_alloc | apply pw_below_drewN | apply below_drew1) | exact HB.out)⟩⟩
  case round =>
    clear H'
    try clear c1
    (try clear HA)
    (try clear HK1)
    (try clear HO_0)
    (try clear HO_3)
    (try clear HB)
    obtain ⟨x3_1, x4_1, rfl, HA, HK1, HO_0, HO_3, HB⟩ := hrel
    cases gk with
    | zero => exact absurd HA.out (by simp [watchbillref8_Flat.l0])
    | succ k1 =>
      have H := HA.out
      clear HA
      simp only [watchbillref8_Flat.l0] at H
      by_cases c2 : x4_1 < (l0.length : Int)
      · rw [if_pos c2] at H
        have c2b0 : decide (x4_1 < (l0.length : Int)) = true := decide_eq_true c2
        clear c2
        by_cases c3 : 0 ≤ x4_1
        · rw [if_pos c3] at H
          have c3b0 : decide (0 ≤ x4_1) = true := decide_eq_true c3
          clear c3
          by_cases c4 : ((rd_T62 l0 x4_1).f0) = 8
          · rw [if_pos c4] at H
            have c4b0 : (((rd_T62 l0 x4_1).f0) == 8) = true := beq_iff_eq.mpr c4
            have c4b1 : (((rd_T62 l0 x4_1).f0) != 8) = false := bne_eq_false_iff_eq.mpr c4
            clear c4
            replace H := Option.bind_eq_some_iff.mp H
            obtain ⟨t297, A50, H⟩ := H
            replace H : (if 0 ≤ (wrap64 (x4_1 + 1)) then (if (wrap64 (x4_1 + 1)) ≤ t297 then (if t297 ≤ (l0.length : Int) then ((watchbillref8_Flat.f k1 ((l0.take (t297 : Int).toNat).drop ((wrap64 (x4_1 + 1)) : Int).toNat)).bind fun t303 => (watchbillref8_Flat.l1 k1 l0 x3_1 x4_1 t297 t303 0)) else (none)) else (none)) else (none)) = some r := H
            have A5 := Aside0.mk A50
            clear A50
            obtain ⟨ji6, hji6⟩ : ∃ j_ : Int, (wrap64 (x4_1 + 1)) = j_ := ⟨_, rfl⟩
            replace H : (if 0 ≤ (ji6) then (if (ji6) ≤ t297 then (if t297 ≤ (l0.length : Int) then ((watchbillref8_Flat.f k1 ((l0.take (t297 : Int).toNat).drop ((ji6) : Int).toNat)).bind fun t303 => (watchbillref8_Flat.l1 k1 l0 x3_1 x4_1 t297 t303 0)) else (none)) else (none)) else (none)) = some r := by first | (rw [hji6] at H; exact H) | (simp only [hji6] at H ⊢; exact H)
            (try rw [hji6] at A5)
            have hji6w : (IntKind.i64.wrap (x4_1 + 1)) = ji6 := (i64_w _).trans hji6
            by_cases c7 : 0 ≤ (ji6)
            · rw [if_pos c7] at H
              have c7b0 := eq_true c7
              have c7b1 : decide (0 ≤ (ji6)) = true := decide_eq_true c7
              clear c7
              by_cases c8 : (ji6) ≤ t297
              · rw [if_pos c8] at H
                have c8b0 := eq_true c8
                have c8b1 : decide ((ji6) ≤ t297) = true := decide_eq_true c8
                clear c8
                by_cases c9 : t297 ≤ (l0.length : Int)
                · rw [if_pos c9] at H
                  have c9b0 := eq_true c9
                  have c9b1 : decide (t297 ≤ (l0.length : Int)) = true := decide_eq_true c9
                  clear c9
                  obtain ⟨y298, hy298⟩ : ∃ y_ : List (S62), y_ = ((l0.take (t297 : Int).toNat).drop ((ji6) : Int).toNat) := ⟨_, rfl⟩
                  replace H : ((watchbillref8_Flat.f k1 y298).bind fun t303 => (watchbillref8_Flat.l1 k1 l0 x3_1 x4_1 t297 t303 0)) = some r := by first | (rw [hy298]; with_reducible exact H) | (have H2_ := (Option.bind_some _ _).symm.trans H; rw [hy298]; with_reducible exact H2_) | (have H2_ := (Option.bind_some _ _).symm.trans H; with_reducible exact H2_) | with_reducible exact H | (rw [hy298]; exact H) | exact H
                  have Ny298 := Aside0.mk hy298
                  clear hy298
                  replace H := Option.bind_eq_some_iff.mp H
                  obtain ⟨t303, A100, H⟩ := H
                  replace H : (watchbillref8_Flat.l1 k1 l0 x3_1 x4_1 t297 t303 0) = some r := H
                  have A10 := Aside0.mk A100
                  clear A100
                  have H' := Aside0.mk H
                  clear H
                  have p296 : 0 ≤ (x4_1 : Int) := of_decide_eq_true (by first | (with_reducible assumption) | assumption)
                  have q296 : x4_1 < (l0.length : Int) := of_decide_eq_true (by first | (with_reducible assumption) | assumption)
                  obtain ⟨ad296, A296_4, c296_4, e296, hx296_0, hx296_1, hx296_2, hx296_3, hx296_4, hl296_4, hi296_4⟩ := at_T62 (Kd.V_reads' HO_0.out).2.2 x4_1 p296 q296
                  cases e296
                  obtain ⟨ce296, hce296, hMe296, hcc296⟩ := Kd.V_get HO_0.out z62 x4_1 p296 (by first | exact q296 | exact of_decide_eq_true (by first | (with_reducible assumption) | assumption) | (have e_ := (Kd.V_reads' HO_0.out).1; omega))
                  obtain ⟨ua296_4, uc296_4, rfl, ul296_4, ge296_4⟩ := k62_openF hMe296
                  have hv296_4 := hcc296 4 _ rfl
                  rw [add_field _ _ 4 (by omega)] at hv296_4
                  replace hv296_4 := Option.some.inj (hv296_4.symm.trans hx296_4)
                  injection hv296_4 with hva_ hvn_ hvc_
                  rw [hva_] at ge296_4
                  rw [hvc_] at ul296_4
                  have HL296_4 := Aside0.mk (show Kd.V k85 85 _ w.heap.size _ _ ((rd_T62 l0 x4_1).f4) from Kd.V_mk ul296_4 ge296_4)
                  clear hva_ hvn_ hvc_ ge296_4 ul296_4
                  clear hcc296 hce296
                  have HR296_4 := Aside0.mk hi296_4
                  have HC296_4 := Aside0.mk hl296_4
                  clear hi296_4 hl296_4
                  replace p296 := eq_true p296
                  replace q296 := eq_true q296
                  go_wp2_with (first | ((with_reducible refine gate_callee (f := 16) rfl ?_); refine goesL_ (some 28) rfl rfl Try.func16 (by kernel_rfl) rfl #[.slice (some ad296) l0.length c0, .int .i64 x4_1] rfl (by (try simp only [List.map_toArray, List.map_cons, List.map_nil]); first | done | rfl | (simp only [List.length_drop, List.length_take]; rfl)) ?_; (with_reducible refine (watchbillref8_Match.calls k1 _ _ l0 x4_1 t297 _ ?side1 ?side2 A5.out).mono ?_); (case side1 => repeat (first | exact (Kd.V_reads' HO_0.out).2.2 | (with_reducible refine Kd.C_alloc ?_ _) | (with_reducible refine Kd.C_drewN ?_ _) | (with_reducible refine Kd.C_drew ?_))); (case side2 => exact (Kd.V_reads' HO_0.out).2.1); rintro e w' ⟨rfl, ⟨nd, rfl⟩⟩; refine ⟨_, rfl, ?_⟩; have q11 : (t297 : Int) ≤ ((l0.length : Int) : Int) := of_decide_eq_true (by first | (with_reducible assumption) | assumption); obtain ⟨i011, hi011, _, hsz11, _⟩ := info_parts info62; have hroom11 : l0.length ≤ c0 := (Kd.V_reads' HO_0.out).2.1; have hC11 : Kd.F k62 _ _ (some ad296) l0.length l0 := (Kd.V_at (base := w.heap.size) HO_0.out).2.2; have ql11 : ((ji6) : Int) ≤ (t297 : Int) := of_decide_eq_true (by first | (with_reducible assumption) | assumption); have q011 : (0 : Int) ≤ ((ji6) : Int) := of_decide_eq_true (by first | (with_reducible assumption) | assumption); have hcut11 := cut_mid (P := Try.prog) 22 62 .i64 .i64 Try.underlying22 hi011 5 hsz11 (some ad296) l0.length c0 (ji6) t297 q011 ql11 q11 hroom11; have hr11 := Kd.F_mid (lo := ((ji6) : Int).toNat) (hi := (t297 : Int).toNat) (c := c0) hC11 (by omega) (by omega) hroom11; obtain ⟨A11, hA11⟩ : ∃ A1, A1 = (if c0 = ((ji6) : Int).toNat then (some ad296) else ((some ad296) : Option Addr).map (·.add (((ji6) : Int).toNat * 5))) := ⟨_, rfl⟩; obtain ⟨c11, hc11⟩ : ∃ c1, c1 = c0 - ((ji6) : Int).toNat := ⟨_, rfl⟩; have hy11 : y298.length = (t297 : Int).toNat - ((ji6) : Int).toNat := (by rw [Ny298.out, List.length_drop, List.length_take] <;> omega); rw [show ((l0).take (t297 : Int).toNat).drop ((ji6) : Int).toNat = y298 from Ny298.out.symm] at hr11; replace hr11 : Kd.F k62 _ _ A11 y298.length y298 := (by rw [hA11]; exact hr11); rw [← hy11, ← hA11, ← hc11] at hcut11; have HO302 := Aside0.mk (show Kd.V k62 62 _ w.heap.size _ (.slice A11 y298.length c11) y298 from Kd.V_mk (by rw [hy11, hc11]; exact Nat.sub_le_sub_right (Nat.le_trans (by omega) hroom11) _) hr11); have HC302 := Aside0.mk (show y298.length ≤ c11 from by rw [hy11, hc11]; exact Nat.sub_le_sub_right (Nat.le_trans (by omega) hroom11) _); clear hr11 hC11 hroom11 hi011 hsz11 hc11; have KY11 := Aside0.mk hy11; have KA11 := Aside0.mk hA11; clear hy11 hA11; replace q11 := eq_true q11) | ((with_reducible refine gate_callee (f := 14) rfl ?_); refine goesL_ (some 34) rfl rfl Try.func14 (by kernel_rfl) rfl #[.slice A11 y298.length c11] rfl (by (try simp only [List.map_toArray, List.map_cons, List.map_nil]); first | done | rfl | (simp only [List.length_drop, List.length_take]; rfl)) ?_; (with_reducible refine (ih k1 (by have := HK1.out; omega) (fun k_ => ((P0_ k_ ∨ w.heap.size ≤ k_) ∧ some k_ ≠ (u3 : Value).ownBlock)) _ _ y298 t303 _ ?side1 A10.out).mono ?_); (case side1 => exact HO302.out); rintro e w12 ⟨v304, rfl, ho0, hb⟩; refine ⟨_, rfl, ?_⟩; have n0_ := Aside0.mk (Kd.V_elder' (by (with_reducible repeat (first | apply Kd.V_alloc | apply Kd.V_drewN | apply Kd.V_drew)); exact HO_0.out) (Kd.N_base ho0) hb); have n1_ := Aside0.mk (Kd.N_elder' (by (with_reducible repeat (first | apply Kd.N_alloc | apply Kd.N_drewN | apply Kd.N_drew)); exact HO_3.out) (Kd.N_base ho0) hb); have n2_ := Aside0.mk (Kd.V_elder' (by (with_reducible repeat (first | apply Kd.V_alloc | apply Kd.V_drewN | apply Kd.V_drew)); exact HL296_4.out) (Kd.N_base ho0) hb); have n3_ := Aside0.mk (Kd.V_elder' (by (with_reducible repeat (first | apply Kd.V_alloc | apply Kd.V_drewN | apply Kd.V_drew)); exact HO302.out) (Kd.N_base ho0) hb); have n4_ := Aside0.mk (Kd.N_lower (Kd.N_mono (ok' := fun k_ => (P0_ k_ ∨ w.heap.size ≤ k_) ∧ some k_ ≠ (u3 : Value).ownBlock) ho0 (fun k_ hk_ => ⟨Or.elim hk_ (fun hs_ => hs_.1) (fun hn_ => (.inr (Nat.le_trans (below_size (by repeat (first | (with_reducible first | exact HB.out | apply below_alloc | apply pw_below_drewN | apply below_drew1) | exact HB.out))) hn_))), Or.elim hk_ (fun hs_ => hs_.2) (fun hn_ => (Kd.fresh' (Kd.N_lt (by (with_reducible repeat (first | apply Kd.N_alloc | apply Kd.N_drewN | apply Kd.N_drew)); exact HO_3.out)) k_ hn_))⟩)) (below_size (by repeat (first | (with_reducible first | exact HB.out | apply below_alloc | apply pw_below_drewN | apply below_drew1) | exact HB.out)))); have n5_ := Aside0.mk (Kd.C_below (by repeat (first | (with_reducible exact HR296_4.out) | (with_reducible refine Kd.C_alloc ?_ _) | (with_reducible refine Kd.C_drewN ?_ _) | (with_reducible refine Kd.C_drew ?_) | exact HR296_4.out)) hb); have n6_ := Aside0.mk (below_step (by repeat (first | (with_reducible first | exact HB.out | apply below_alloc | apply pw_below_drewN | apply below_drew1) | exact HB.out)) hb); clear HO_0; clear HO_3; clear HL296_4; clear HO302; clear HR296_4; clear HB; have HO_0 := n0_; have HO_3 := n1_; have HL296_4 := n2_; have HO302 := n3_; have HO305 := n4_; have HR296_4 := n5_; have HB := n6_; clear n0_ n1_ n2_ n3_ n4_ n5_ n6_; (try clear hb); (try clear hb2); (try clear hk); (try clear hi); (try clear ho0)))
                  go_loopg [3, 7] k1 (fun kq v3 v7 w' => ∃ (x3_2 : List (S62)) (x7_2 : Int), v7 = .int .i64 x7_2 ∧ Aside0 (watchbillref8_Flat.l1 kq l0 x3_2 x4_1 t297 t303 x7_2 = some r) ∧ Aside0 (kq ≤ k1) ∧ Aside0 (Kd.V k62 62 w' w.heap.size (fun k_ => (P0_ k_ ∨ w.heap.size ≤ k_) ∧ some k_ ≠ (v3 : Value).ownBlock ∧ some k_ ≠ (v304 : Value).ownBlock) (.slice (some ad296) l0.length c0) l0) ∧ Aside0 (Kd.N k62 62 w' w.heap.size (fun k_ => (P0_ k_ ∨ w.heap.size ≤ k_)) v3 x3_2) ∧ Aside0 (Kd.N k62 62 w' w.heap.size (fun k_ => (P0_ k_ ∨ w.heap.size ≤ k_) ∧ some k_ ≠ (v3 : Value).ownBlock) v304 t303) ∧ Aside0 (Below w.heap.size w w'))
                  case atStart => exact ⟨(x3_1), (0), (by first | rfl | (simp; done) | (simp [*]; done) | (simp [Int.tdiv_eq_ediv_of_nonneg]; done)), H', ⟨Nat.le_refl _⟩, ⟨by (with_reducible repeat (first | apply Kd.V_alloc | apply Kd.V_drewN | apply Kd.V_drew)); exact Kd.V_mono HO_0.out (fun _ hk => ⟨hk.1.1, ⟨hk.1.2, hk.2⟩⟩)⟩, ⟨by (with_reducible repeat (first | apply Kd.N_alloc | apply Kd.N_drewN | apply Kd.N_drew)); exact Kd.N_mono HO_3.out (fun _ hk => hk.1)⟩, ⟨by (with_reducible repeat (first | apply Kd.N_alloc | apply Kd.N_drewN | apply Kd.N_drew)); exact HO305.out⟩, ⟨by repeat (first | (with_reducible first | exact HB.out | apply below_alloc | apply pw_below_drewN | apply below_drew1) | exact HB.out)⟩⟩
                  case round =>
                    clear H'
                    try clear c1
                    try clear q1
                    try clear c2
                    try clear c2b0
                    try clear p2
                    try clear q2
                    try clear hx2
                    try clear c3
                    try clear c3b0
                    try clear c4
                    try clear c4b0
                    try clear c4b1
                    try clear p6
                    try clear c7
                    try clear c7b0
                    try clear c7b1
                    try clear c8
                    try clear c8b0
                    try clear c8b1
                    try clear c9
                    try clear c9b0
                    try clear c9b1
                    try clear c11
                    try clear q11
                    try clear hx296_0
                    try clear hx296_1
                    try clear hx296_2
                    try clear hx296_3
                    try clear hx296_4
                    try clear p296
                    try clear q011
                    try clear q11
                    try clear q296
                    (try clear HA)
                    (try clear HK2)
                    (try clear HO_0)
                    (try clear HO_3)
                    (try clear HO_6)
                    (try clear HB)
                    obtain ⟨x3_2, x7_2, rfl, HA, HK2, HO_0, HO_3, HO_6, HB⟩ := hrel
                    cases gk with
                    | zero => exact absurd HA.out (by simp [watchbillref8_Flat.l1])
                    | succ k2 =>
                      have H := HA.out
                      clear HA
                      simp only [watchbillref8_Flat.l1] at H
                      by_cases c13 : 0 ≤ x4_1
                      · rw [if_pos c13] at H
                        have c13b0 : decide (0 ≤ x4_1) = true := decide_eq_true c13
                        clear c13
                        by_cases c14 : x4_1 < (l0.length : Int)
                        · rw [if_pos c14] at H
                          have c14b0 : decide (x4_1 < (l0.length : Int)) = true := decide_eq_true c14
                          clear c14
                          by_cases c15 : x7_2 < ((rd_T62 l0 x4_1).f1)
                          · rw [if_pos c15] at H
                            have c15b0 : decide (x7_2 < ((rd_T62 l0 x4_1).f1)) = true := decide_eq_true c15
                            clear c15
                            by_cases c16 : x3_2.length + t303.length < 2513169434916
                            · rw [if_pos c16] at H
                              have LMc16 := Aside0.mk c16
                              clear c16
                              obtain ⟨y307, hy307⟩ : ∃ y_ : List (S62), y_ = (x3_2 ++ t303) := ⟨_, rfl⟩
                              replace H : (watchbillref8_Flat.l1 k2 l0 y307 x4_1 t297 t303 (wrap64 (x7_2 + 1))) = some r := by first | (rw [hy307]; with_reducible exact H) | (have H2_ := (Option.bind_some _ _).symm.trans H; rw [hy307]; with_reducible exact H2_) | (have H2_ := (Option.bind_some _ _).symm.trans H; with_reducible exact H2_) | with_reducible exact H | (rw [hy307]; exact H) | exact H
                              have Ny307 := Aside0.mk hy307
                              clear hy307
                              have H' := Aside0.mk H
                              clear H
                              have p306 : 0 ≤ (x4_1 : Int) := of_decide_eq_true (by first | (with_reducible assumption) | assumption)
                              have q306 : x4_1 < (l0.length : Int) := of_decide_eq_true (by first | (with_reducible assumption) | assumption)
                              obtain ⟨ad306, A306_4, c306_4, e306, hx306_0, hx306_1, hx306_2, hx306_3, hx306_4, hl306_4, hi306_4⟩ := at_T62 (Kd.V_reads' HO_0.out).2.2 x4_1 p306 q306
                              obtain rfl : ad296 = ad306 := (by injection e306)
                              obtain ⟨ce306, hce306, hMe306, hcc306⟩ := Kd.V_get HO_0.out z62 x4_1 p306 (by first | exact q306 | exact of_decide_eq_true (by first | (with_reducible assumption) | assumption) | (have e_ := (Kd.V_reads' HO_0.out).1; omega))
                              obtain ⟨ua306_4, uc306_4, rfl, ul306_4, ge306_4⟩ := k62_openF hMe306
                              have hv306_4 := hcc306 4 _ rfl
                              rw [add_field _ _ 4 (by omega)] at hv306_4
                              replace hv306_4 := Option.some.inj (hv306_4.symm.trans hx306_4)
                              injection hv306_4 with hva_ hvn_ hvc_
                              rw [hva_] at ge306_4
                              rw [hvc_] at ul306_4
                              have HL306_4 := Aside0.mk (show Kd.V k85 85 _ w.heap.size _ _ ((rd_T62 l0 x4_1).f4) from Kd.V_mk ul306_4 ge306_4)
                              clear hva_ hvn_ hvc_ ge306_4 ul306_4
                              clear hcc306 hce306
                              have HR306_4 := Aside0.mk hi306_4
                              have HC306_4 := Aside0.mk hl306_4
                              clear hi306_4 hl306_4
                              replace p306 := eq_true p306
                              replace q306 := eq_true q306
                              obtain ⟨Ao18, co18, eo18⟩ := Kd.N_slice HO_6.out
                              subst eo18
                              go_wp2_with (first | ((with_reducible refine gate_builtin (b := .append) (xs := #[.tmp 44, .tmp 45]) rfl ?_); at_builtin; refine Kd.N_append_rows k62 (w0 := w) w.heap.size rfl (.tmp 44) (.tmp 45) 22 62 (.agg #[(.int .i64 0), (.int .i64 0), (.int .i64 0), (.int .i64 0), (.slice none 0 0)]) 56 rfl Try.underlying22 info62 rfl (by decide) (by omega) u3 x3_2 t303 _ _ _ (fun k_ => (P0_ k_ ∨ w.heap.size ≤ k_)) (fun k_ => ((fun k_ => (P0_ k_ ∨ w.heap.size ≤ k_))) k_ ∧ some k_ ≠ (u3 : Value).ownBlock) rfl rfl ?aO ?aR (fun _ hk => hk) ?aF ?aB ?aS ?aL ?_; (case aR => exact (by skip; exact Kd.N_F (Kd.N_mono (ok' := (fun k_ => ((fun k_ => (P0_ k_ ∨ w.heap.size ≤ k_))) k_ ∧ some k_ ≠ (u3 : Value).ownBlock)) (HO_6.out) (fun k_ hk => ⟨hk.1, hk.2⟩)))); (case aB => exact (by repeat (first | (with_reducible first | exact HB.out | apply below_alloc | apply pw_below_drewN | apply below_drew1) | exact HB.out))); (case aF => exact (fun k_ hk => (.inr (Nat.le_trans (below_size (by repeat (first | (with_reducible first | exact HB.out | apply below_alloc | apply pw_below_drewN | apply below_drew1) | exact HB.out))) hk)))); (case aO => exact (by (with_reducible repeat (first | apply Kd.N_alloc | apply Kd.N_drewN | apply Kd.N_drew)); exact HO_3.out)); (case aS => exact (below_size (by repeat (first | (with_reducible first | exact HB.out | apply below_alloc | apply pw_below_drewN | apply below_drew1) | exact HB.out)))); (case aL => have := LMc16.out; omega); intro v308 w17 ho hb hg hat; rw [← Ny307.out] at ho; have n0_ := Aside0.mk (Kd.V_afterv (ok := (fun k_ => (P0_ k_ ∨ w.heap.size ≤ k_) ∧ some k_ ≠ (.slice Ao18 t303.length co18 : Value).ownBlock)) (by (with_reducible repeat (first | apply Kd.V_alloc | apply Kd.V_drewN | apply Kd.V_drew)); exact Kd.V_mono HO_0.out (fun _ hk => ⟨⟨hk.1, hk.2.2⟩, hk.2.1⟩)) hg hat); have n1_ := Aside0.mk (Kd.N_afterv (ok := (fun k_ => (P0_ k_ ∨ w.heap.size ≤ k_))) (by (with_reducible repeat (first | apply Kd.N_alloc | apply Kd.N_drewN | apply Kd.N_drew)); exact HO_6.out) hg hat); have n2_ := Aside0.mk (Kd.V_afterv (ok := (fun k_ => (P0_ k_ ∨ w.heap.size ≤ k_) ∧ some k_ ≠ (.slice Ao18 t303.length co18 : Value).ownBlock)) (by (with_reducible repeat (first | apply Kd.V_alloc | apply Kd.V_drewN | apply Kd.V_drew)); exact Kd.V_mono HL306_4.out (fun _ hk => ⟨⟨hk.1, hk.2.2⟩, hk.2.1⟩)) hg hat); have n3_ := Aside0.mk (hb); have n4_ := Aside0.mk (ho); clear HO_0; clear HO_6; clear HL306_4; clear HB; clear HO_3; have HO_0 := n0_; have HO_6 := n1_; have HL306_4 := n2_; have HB := n3_; have HO309 := n4_; clear n0_ n1_ n2_ n3_ n4_; clear ho hb hg hat))
                              go_roundg k2
                              case measure => have := HK1.out; have := HK2.out; omega
                              case rel => exact ⟨(y307), (wrap64 (x7_2 + 1)), (by first | rfl | (simp; done) | (simp [*]; done) | (simp [Int.tdiv_eq_ediv_of_nonneg]; done)), H', ⟨by have := HK1.out; have := HK2.out; omega⟩, ⟨by (with_reducible repeat (first | apply Kd.V_alloc | apply Kd.V_drewN | apply Kd.V_drew)); exact Kd.V_mono HO_0.out (fun _ hk => ⟨hk.1.1, ⟨hk.2, hk.1.2⟩⟩)⟩, ⟨by (with_reducible repeat (first | apply Kd.N_alloc | apply Kd.N_drewN | apply Kd.N_drew)); exact HO309.out⟩, ⟨by (with_reducible repeat (first | apply Kd.N_alloc | apply Kd.N_drewN | apply Kd.N_drew)); exact HO_6.out⟩, ⟨by repeat (first | (with_reducible first | exact HB.out | apply below_alloc | apply pw_below_drewN | apply below_drew1) | exact HB.out)⟩⟩
                            · rw [if_neg c16] at H
                              exact absurd H (by simp)
                          · rw [if_neg c15] at H
                            have c15b0 : decide (x7_2 < ((rd_T62 l0 x4_1).f1)) = false := decide_eq_false c15
                            clear c15
                            have H' := Aside0.mk H
                            clear H
                            have p306 : 0 ≤ (x4_1 : Int) := of_decide_eq_true (by first | (with_reducible assumption) | assumption)
                            have q306 : x4_1 < (l0.length : Int) := of_decide_eq_true (by first | (with_reducible assumption) | assumption)
                            obtain ⟨ad306, A306_4, c306_4, e306, hx306_0, hx306_1, hx306_2, hx306_3, hx306_4, hl306_4, hi306_4⟩ := at_T62 (Kd.V_reads' HO_0.out).2.2 x4_1 p306 q306
                            obtain rfl : ad296 = ad306 := (by injection e306)
                            obtain ⟨ce306, hce306, hMe306, hcc306⟩ := Kd.V_get HO_0.out z62 x4_1 p306 (by first | exact q306 | exact of_decide_eq_true (by first | (with_reducible assumption) | assumption) | (have e_ := (Kd.V_reads' HO_0.out).1; omega))
                            obtain ⟨ua306_4, uc306_4, rfl, ul306_4, ge306_4⟩ := k62_openF hMe306
                            have hv306_4 := hcc306 4 _ rfl
                            rw [add_field _ _ 4 (by omega)] at hv306_4
                            replace hv306_4 := Option.some.inj (hv306_4.symm.trans hx306_4)
                            injection hv306_4 with hva_ hvn_ hvc_
                            rw [hva_] at ge306_4
                            rw [hvc_] at ul306_4
                            have HL306_4 := Aside0.mk (show Kd.V k85 85 _ w.heap.size _ _ ((rd_T62 l0 x4_1).f4) from Kd.V_mk ul306_4 ge306_4)
                            clear hva_ hvn_ hvc_ ge306_4 ul306_4
                            clear hcc306 hce306
                            have HR306_4 := Aside0.mk hi306_4
                            have HC306_4 := Aside0.mk hl306_4
                            clear hi306_4 hl306_4
                            replace p306 := eq_true p306
                            replace q306 := eq_true q306
                            go_wp2
                            go_roundg k2
                            case measure => have := HK1.out; have := HK2.out; omega
                            case rel => exact ⟨(x3_2), (wrap64 (t297 + 1)), (by first | rfl | (simp; done) | (simp [*]; done) | (simp [Int.tdiv_eq_ediv_of_nonneg]; done)), H', ⟨by have := HK1.out; have := HK2.out; omega⟩, ⟨by (with_reducible repeat (first | apply Kd.V_alloc | apply Kd.V_drewN | apply Kd.V_drew)); exact Kd.V_mono HO_0.out (fun _ hk => ⟨hk.1, hk.2.1⟩)⟩, ⟨by (with_reducible repeat (first | apply Kd.N_alloc | apply Kd.N_drewN | apply Kd.N_drew)); exact HO_3.out⟩, ⟨by repeat (first | (with_reducible first | exact HB.out | apply below_alloc | apply pw_below_drewN | apply below_drew1) | exact HB.out)⟩⟩
                        · rw [if_neg c14] at H
                          exact absurd H (by simp)
                      · rw [if_neg c13] at H
                        exact absurd H (by simp)
                · rw [if_neg c9] at H
                  exact absurd H (by simp)
              · rw [if_neg c8] at H
                exact absurd H (by simp)
            · rw [if_neg c7] at H
              exact absurd H (by simp)
          · rw [if_neg c4] at H
            have c4b0 : (((rd_T62 l0 x4_1).f0) == 8) = false := beq_eq_false_iff_ne.mpr c4
            have c4b1 : (((rd_T62 l0 x4_1).f0) != 8) = true := bne_iff_ne.mpr c4
            by_cases c19 : ((rd_T62 l0 x4_1).f0) = 9
            · rw [if_pos c19] at H
              have c19b0 : (((rd_T62 l0 x4_1).f0) == 9) = true := beq_iff_eq.mpr c19
              have c19b1 : (((rd_T62 l0 x4_1).f0) != 9) = false := bne_eq_false_iff_eq.mpr c19
              clear c19
              have H' := Aside0.mk H
              clear H
              have p296 : 0 ≤ (x4_1 : Int) := of_decide_eq_true (by first | (with_reducible assumption) | assumption)
              have q296 : x4_1 < (l0.length : Int) := of_decide_eq_true (by first | (with_reducible assumption) | assumption)
              obtain ⟨ad296, A296_4, c296_4, e296, hx296_0, hx296_1, hx296_2, hx296_3, hx296_4, hl296_4, hi296_4⟩ := at_T62 (Kd.V_reads' HO_0.out).2.2 x4_1 p296 q296
              cases e296
              obtain ⟨ce296, hce296, hMe296, hcc296⟩ := Kd.V_get HO_0.out z62 x4_1 p296 (by first | exact q296 | exact of_decide_eq_true (by first | (with_reducible assumption) | assumption) | (have e_ := (Kd.V_reads' HO_0.out).1; omega))
              obtain ⟨ua296_4, uc296_4, rfl, ul296_4, ge296_4⟩ := k62_openF hMe296
              have hv296_4 := hcc296 4 _ rfl
              rw [add_field _ _ 4 (by omega)] at hv296_4
              replace hv296_4 := Option.some.inj (hv296_4.symm.trans hx296_4)
              injection hv296_4 with hva_ hvn_ hvc_
              rw [hva_] at ge296_4
              rw [hvc_] at ul296_4
              have HL296_4 := Aside0.mk (show Kd.V k85 85 _ w.heap.size _ _ ((rd_T62 l0 x4_1).f4) from Kd.V_mk ul296_4 ge296_4)
              clear hva_ hvn_ hvc_ ge296_4 ul296_4
              clear hcc296 hce296
              have HR296_4 := Aside0.mk hi296_4
              have HC296_4 := Aside0.mk hl296_4
              clear hi296_4 hl296_4
              replace p296 := eq_true p296
              replace q296 := eq_true q296
              go_wp2
              go_roundg k1
              case measure => have := HK1.out; omega
              case rel => exact ⟨(x3_1), (wrap64 (x4_1 + 1)), (by first | rfl | (simp; done) | (simp [*]; done) | (simp [Int.tdiv_eq_ediv_of_nonneg]; done)), H', ⟨by have := HK1.out; omega⟩, ⟨by (with_reducible repeat (first | apply Kd.V_alloc | apply Kd.V_drewN | apply Kd.V_drew)); exact HO_0.out⟩, ⟨by (with_reducible repeat (first | apply Kd.N_alloc | apply Kd.N_drewN | apply Kd.N_drew)); exact HO_3.out⟩, ⟨by repeat (first | (with_reducible first | exact HB.out | apply below_alloc | apply pw_below_drewN | apply below_drew1) | exact HB.out)⟩⟩
            · rw [if_neg c19] at H
              have c19b0 : (((rd_T62 l0 x4_1).f0) == 9) = false := beq_eq_false_iff_ne.mpr c19
              have c19b1 : (((rd_T62 l0 x4_1).f0) != 9) = true := bne_iff_ne.mpr c19
              by_cases c20 : x3_1.length < 2513169434916
              · rw [if_pos c20] at H
                have LMc20 := Aside0.mk c20
                clear c20
                obtain ⟨y311, hy311⟩ : ∃ y_ : List (S62), y_ = (x3_1 ++ [(⟨(rd_T62 l0 x4_1).f0, (rd_T62 l0 x4_1).f1, (rd_T62 l0 x4_1).f2, (rd_T62 l0 x4_1).f3, (rd_T62 l0 x4_1).f4⟩ : S62)]) := ⟨_, rfl⟩
                replace H : (watchbillref8_Flat.l0 k1 l0 y311 (wrap64 (x4_1 + 1))) = some r := by first | (rw [hy311]; with_reducible exact H) | (have H2_ := (Option.bind_some _ _).symm.trans H; rw [hy311]; with_reducible exact H2_) | (have H2_ := (Option.bind_some _ _).symm.trans H; with_reducible exact H2_) | with_reducible exact H | (rw [hy311]; exact H) | exact H
                have Ny311 := Aside0.mk hy311
                clear hy311
                have H' := Aside0.mk H
                clear H
                have p296 : 0 ≤ (x4_1 : Int) := of_decide_eq_true (by first | (with_reducible assumption) | assumption)
                have q296 : x4_1 < (l0.length : Int) := of_decide_eq_true (by first | (with_reducible assumption) | assumption)
                obtain ⟨ad296, A296_4, c296_4, e296, hx296_0, hx296_1, hx296_2, hx296_3, hx296_4, hl296_4, hi296_4⟩ := at_T62 (Kd.V_reads' HO_0.out).2.2 x4_1 p296 q296
                cases e296
                obtain ⟨ce296, hce296, hMe296, hcc296⟩ := Kd.V_get HO_0.out z62 x4_1 p296 (by first | exact q296 | exact of_decide_eq_true (by first | (with_reducible assumption) | assumption) | (have e_ := (Kd.V_reads' HO_0.out).1; omega))
                obtain ⟨ua296_4, uc296_4, rfl, ul296_4, ge296_4⟩ := k62_openF hMe296
                have hv296_4 := hcc296 4 _ rfl
                rw [add_field _ _ 4 (by omega)] at hv296_4
                replace hv296_4 := Option.some.inj (hv296_4.symm.trans hx296_4)
                injection hv296_4 with hva_ hvn_ hvc_
                rw [hva_] at ge296_4
                rw [hvc_] at ul296_4
                have HL296_4 := Aside0.mk (show Kd.V k85 85 _ w.heap.size _ _ ((rd_T62 l0 x4_1).f4) from Kd.V_mk ul296_4 ge296_4)
                clear hva_ hvn_ hvc_ ge296_4 ul296_4
                clear hcc296 hce296
                have HR296_4 := Aside0.mk hi296_4
                have HC296_4 := Aside0.mk hl296_4
                clear hi296_4 hl296_4
                replace p296 := eq_true p296
                replace q296 := eq_true q296
                have p310 : 0 ≤ (x4_1 : Int) := of_decide_eq_true (by first | (with_reducible assumption) | assumption)
                have q310 : x4_1 < (l0.length : Int) := of_decide_eq_true (by first | (with_reducible assumption) | assumption)
                obtain ⟨ad310, A310_4, c310_4, e310, hx310_0, hx310_1, hx310_2, hx310_3, hx310_4, hl310_4, hi310_4⟩ := at_T62 (Kd.V_reads' HO_0.out).2.2 x4_1 p310 q310
                obtain rfl : ad296 = ad310 := (by injection e310)
                obtain ⟨ce310, hce310, hMe310, hcc310⟩ := Kd.V_get HO_0.out z62 x4_1 p310 (by first | exact q310 | exact of_decide_eq_true (by first | (with_reducible assumption) | assumption) | (have e_ := (Kd.V_reads' HO_0.out).1; omega))
                obtain ⟨ua310_4, uc310_4, rfl, ul310_4, ge310_4⟩ := k62_openF hMe310
                have hv310_4 := hcc310 4 _ rfl
                rw [add_field _ _ 4 (by omega)] at hv310_4
                replace hv310_4 := Option.some.inj (hv310_4.symm.trans hx310_4)
                injection hv310_4 with hva_ hvn_ hvc_
                rw [hva_] at ge310_4
                rw [hvc_] at ul310_4
                have HL310_4 := Aside0.mk (show Kd.V k85 85 _ w.heap.size _ _ ((rd_T62 l0 x4_1).f4) from Kd.V_mk ul310_4 ge310_4)
                clear hva_ hvn_ hvc_ ge310_4 ul310_4
                clear hcc310 hce310
                have HR310_4 := Aside0.mk hi310_4
                have HC310_4 := Aside0.mk hl310_4
                clear hi310_4 hl310_4
                replace p310 := eq_true p310
                replace q310 := eq_true q310
                have ea_ := Option.some.inj (hx296_4.symm.trans hx310_4)
                injection ea_ with ea_ en_ ec_
                subst ea_
                subst ec_
                clear en_
                go_wp2_with (first | ((with_reducible refine gate_builtin (b := .append) (xs := #[.tmp 17, .tmp 22]) rfl ?_); at_builtin; refine Kd.N_append k62 (w0 := w) w.heap.size rfl (.tmp 17) (.tmp 22) 22 62 (.agg #[(.int .i64 0), (.int .i64 0), (.int .i64 0), (.int .i64 0), (.slice none 0 0)]) 56 rfl Try.underlying22 info62 rfl (by decide) (by omega) u3 x3_1 (⟨(rd_T62 l0 x4_1).f0, (rd_T62 l0 x4_1).f1, (rd_T62 l0 x4_1).f2, (rd_T62 l0 x4_1).f3, (rd_T62 l0 x4_1).f4⟩ : S62) [.int .i64 ((rd_T62 l0 x4_1).f0), .int .i64 ((rd_T62 l0 x4_1).f1), .int .i64 ((rd_T62 l0 x4_1).f2), .int .i64 ((rd_T62 l0 x4_1).f3), .slice A296_4 ((rd_T62 l0 x4_1).f4).length c296_4] (fun k_ => (P0_ k_ ∨ w.heap.size ≤ k_)) (fun k_ => ((fun k_ => (P0_ k_ ∨ w.heap.size ≤ k_))) k_ ∧ some k_ ≠ (u3 : Value).ownBlock) rfl rfl ?aP (fun _ hk => hk) ?aF ?aO ?aB ?aS ?aL ?_; (case aP => exact (k62_mkF _ _ (⟨(rd_T62 l0 x4_1).f0, (rd_T62 l0 x4_1).f1, (rd_T62 l0 x4_1).f2, (rd_T62 l0 x4_1).f3, (rd_T62 l0 x4_1).f4⟩ : S62) (Kd.V_reads' (Kd.V_mono (ok' := (fun k_ => ((fun k_ => (P0_ k_ ∨ w.heap.size ≤ k_))) k_ ∧ some k_ ≠ (u3 : Value).ownBlock)) (HL310_4.out) (fun k_ hk => ⟨hk.1, hk.2⟩))).2.1 (Kd.V_F (Kd.V_mono (ok' := (fun k_ => ((fun k_ => (P0_ k_ ∨ w.heap.size ≤ k_))) k_ ∧ some k_ ≠ (u3 : Value).ownBlock)) (HL310_4.out) (fun k_ hk => ⟨hk.1, hk.2⟩))))); (case aB => exact (by repeat (first | (with_reducible first | exact HB.out | apply below_alloc | apply pw_below_drewN | apply below_drew1) | exact HB.out))); (case aF => exact (fun k_ hk => (.inr (Nat.le_trans (below_size (by repeat (first | (with_reducible first | exact HB.out | apply below_alloc | apply pw_below_drewN | apply below_drew1) | exact HB.out))) hk)))); (case aO => exact (by (with_reducible repeat (first | apply Kd.N_alloc | apply Kd.N_drewN | apply Kd.N_drew)); exact HO_3.out)); (case aS => exact (below_size (by repeat (first | (with_reducible first | exact HB.out | apply below_alloc | apply pw_below_drewN | apply below_drew1) | exact HB.out)))); (case aL => have := LMc20.out; omega); intro v312 w21 ho hb hg hat; rw [← Ny311.out] at ho; have n0_ := Aside0.mk (Kd.V_afterv (ok := (fun k_ => (P0_ k_ ∨ w.heap.size ≤ k_))) (by (with_reducible repeat (first | apply Kd.V_alloc | apply Kd.V_drewN | apply Kd.V_drew)); exact HO_0.out) hg hat); have n1_ := Aside0.mk (Kd.V_afterv (ok := (fun k_ => (P0_ k_ ∨ w.heap.size ≤ k_))) (by (with_reducible repeat (first | apply Kd.V_alloc | apply Kd.V_drewN | apply Kd.V_drew)); exact HL296_4.out) hg hat); have n2_ := Aside0.mk (Kd.V_afterv (ok := (fun k_ => (P0_ k_ ∨ w.heap.size ≤ k_))) (by (with_reducible repeat (first | apply Kd.V_alloc | apply Kd.V_drewN | apply Kd.V_drew)); exact HL310_4.out) hg hat); have n3_ := Aside0.mk (hb); have n4_ := Aside0.mk (ho); clear HO_0; clear HL296_4; clear HL310_4; clear HB; clear HO_3; have HO_0 := n0_; have HL296_4 := n1_; have HL310_4 := n2_; have HB := n3_; have HO313 := n4_; clear n0_ n1_ n2_ n3_ n4_; clear ho hb hg hat))
                go_roundg k1
                case measure => have := HK1.out; omega
                case rel => exact ⟨(y311), (wrap64 (x4_1 + 1)), (by first | rfl | (simp; done) | (simp [*]; done) | (simp [Int.tdiv_eq_ediv_of_nonneg]; done)), H', ⟨by have := HK1.out; omega⟩, ⟨by (with_reducible repeat (first | apply Kd.V_alloc | apply Kd.V_drewN | apply Kd.V_drew)); exact HO_0.out⟩, ⟨by (with_reducible repeat (first | apply Kd.N_alloc | apply Kd.N_drewN | apply Kd.N_drew)); exact HO313.out⟩, ⟨by repeat (first | (with_reducible first | exact HB.out | apply below_alloc | apply pw_below_drewN | apply below_drew1) | exact HB.out)⟩⟩
              · rw [if_neg c20] at H
                exact absurd H (by simp)
        · rw [if_neg c3] at H
          exact absurd H (by simp)
      · rw [if_neg c2] at H
        have c2b0 : decide (x4_1 < (l0.length : Int)) = false := decide_eq_false c2
        clear c2
        obtain rfl := Option.some.inj H
        go_wp2
        go_ret
        exact ⟨_, by first | rfl | (simp [errW_none, errW_some] <;> rfl) | (simp [*, errW_none, errW_some] <;> rfl), by (with_reducible repeat (first | apply Kd.N_alloc | apply Kd.N_drewN | apply Kd.N_drew)); exact HO_3.out, by repeat (first | (with_reducible first | exact HB.out | apply below_alloc | apply pw_below_drewN | apply below_drew1) | exact HB.out)⟩

-- NOT PRINTED: function 5 (watchbilllaw6_ProgFlat)

end Go.Proofs.Ytjnhahdelipebaa.XA
