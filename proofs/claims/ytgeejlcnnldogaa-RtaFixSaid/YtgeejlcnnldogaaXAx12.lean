-- PRINTED by print.py (a twelfth state) out of the translation. Not trusted: Lean checks it.
import Derived.Test.YtgeejlcnnldogaaXAx0
import Derived.Test.YtgeejlcnnldogaaXAx1
import Derived.Test.YtgeejlcnnldogaaXAx10
import Derived.Test.YtgeejlcnnldogaaXAx11
namespace Go.Proofs.Ytgeejlcnnldogaa.XA
open Go.RowKit Go.Proofs.YtgeejlcnnldogaaW.PrintWords Go.Proofs.YtgeejlcnnldogaaW.PrintLast Go.Proofs.YtgeejlcnnldogaaW.PrintMore
attribute [local go_sem] max2_int min2_int max_two min_two max_three min_three max_four min_four   -- for this text's walks alone
set_option linter.unusedVariables false
set_option linter.unusedSimpArgs false

/-! ### watchbilllaw12_RtaFix: function 4 -/
mutual
def watchbilllaw12_RtaFix.j0 : Nat → Int → List (S58) → Int → Int → Int → Int → Bool → Option (Bool)
  | 0, _, _, _, _, _, _, _ => none
  | k + 1, x0, x1, x2, x7, x8, x12, x52 => if x52 = true then (some false) else (if x12 = 0 then ((rta_Next.f k x7 x0 x1).bind fun bt274 => (if bt274.2 = 0 then (if bt274.1 = x7 then (if x7 > x2 then (watchbilllaw12_RtaFix.j1 k x0 x1 x7 true) else (if x8 < 1 then (watchbilllaw12_RtaFix.j1 k x0 x1 x7 true) else (watchbilllaw12_RtaFix.j1 k x0 x1 x7 (decide (x8 > 1000))))) else (watchbilllaw12_RtaFix.j1 k x0 x1 x7 true)) else (watchbilllaw12_RtaFix.j1 k x0 x1 x7 true))) else (if x7 = 0 then (some (x8 == 0)) else (some false)))
def watchbilllaw12_RtaFix.j1 : Nat → Int → List (S58) → Int → Bool → Option (Bool)
  | 0, _, _, _, _ => none
  | k + 1, x0, x1, x7, x87 => if x87 = true then (some false) else (watchbilllaw12_RtaFix.l0 k x0 x1 x7 (mx 0 (wrap64 (x7 - 50))))
def watchbilllaw12_RtaFix.l0 : Nat → Int → List (S58) → Int → Int → Option (Bool)
  | 0, _, _, _, _ => none
  | k + 1, x0, x1, x7, x15 => if x15 < x7 then ((rta_Next.f k x15 x0 x1).bind fun bt276 => (if bt276.2 = 0 then (if bt276.1 ≤ x15 then (some false) else (watchbilllaw12_RtaFix.l0 k x0 x1 x7 (wrap64 (x15 + 1)))) else (some false))) else (some true)
end
def watchbilllaw12_RtaFix.f (k : Nat) (a0 : Int) (l1 : List (S58)) (a2 : Int) : Option (Bool) := (watchbilllaw12_known.f).bind fun t264 => (if t264 = true then (if (l1.length : Int) > 30 then (some true) else ((rta_Fix.f k a0 l1 a2).bind fun bt265 => ((watchbilllaw12_Loads.f k l1).bind fun t268 => ((watchbillref13_Fix.f k a0 t268 a2).bind fun bt271 => (if bt265.1 = bt271.1 then (if bt265.2.1 = bt271.2.1 then (watchbilllaw12_RtaFix.j0 k a0 l1 a2 bt265.1 bt265.2.1 bt271.2.2 (bt265.2.2 != bt271.2.2)) else (watchbilllaw12_RtaFix.j0 k a0 l1 a2 bt265.1 bt265.2.1 bt271.2.2 true)) else (watchbilllaw12_RtaFix.j0 k a0 l1 a2 bt265.1 bt265.2.1 bt271.2.2 true)))))) else (some false))
theorem watchbilllaw12_RtaFix.mono_l : ∀ k, (∀ y0 y1 y2 y3 y4 y5 y6, LeO (watchbilllaw12_RtaFix.j0 k y0 y1 y2 y3 y4 y5 y6) (watchbilllaw12_RtaFix.j0 (k + 1) y0 y1 y2 y3 y4 y5 y6)) ∧ (∀ y0 y1 y2 y3, LeO (watchbilllaw12_RtaFix.j1 k y0 y1 y2 y3) (watchbilllaw12_RtaFix.j1 (k + 1) y0 y1 y2 y3)) ∧ (∀ y0 y1 y2 y3, LeO (watchbilllaw12_RtaFix.l0 k y0 y1 y2 y3) (watchbilllaw12_RtaFix.l0 (k + 1) y0 y1 y2 y3))
  | 0 => ⟨fun _ _ _ _ _ _ _ r h => by simp [watchbilllaw12_RtaFix.j0] at h, fun _ _ _ _ r h => by simp [watchbilllaw12_RtaFix.j1] at h, fun _ _ _ _ r h => by simp [watchbilllaw12_RtaFix.l0] at h⟩
  | k + 1 => by
    obtain ⟨ih0, ih1, ih2⟩ := watchbilllaw12_RtaFix.mono_l k
    refine ⟨?_, ?_, ?_⟩
    · intro y0 y1 y2 y3 y4 y5 y6
      unfold watchbilllaw12_RtaFix.j0
      repeat' first
      | (with_reducible exact ih0 _ _ _ _ _ _ _)
      | (with_reducible exact ih1 _ _ _ _)
      | (with_reducible exact ih2 _ _ _ _)
      | (with_reducible exact rta_Fix.mono _ _ _ _)
      | (with_reducible exact rta_Next.mono _ _ _ _)
      | (with_reducible exact watchbilllaw12_Loads.mono _ _)
      | (with_reducible exact watchbillref13_Fix.mono _ _ _ _)
      | (with_reducible exact LeO.refl _)
      | (with_reducible exact LeO.none _)
      | (with_reducible refine LeO.ite ?_ ?_)
      | (with_reducible refine LeO.bind ?_ (fun _ => ?_))
      | exact ih0 _ _ _ _ _ _ _
      | exact ih1 _ _ _ _
      | exact ih2 _ _ _ _
      | exact rta_Fix.mono _ _ _ _
      | exact rta_Next.mono _ _ _ _
      | exact watchbilllaw12_Loads.mono _ _
      | exact watchbillref13_Fix.mono _ _ _ _
      | exact LeO.none _
      | refine LeO.ite ?_ ?_
      | refine LeO.bind ?_ (fun _ => ?_)
    · intro y0 y1 y2 y3
      unfold watchbilllaw12_RtaFix.j1
      repeat' first
      | (with_reducible exact ih0 _ _ _ _ _ _ _)
      | (with_reducible exact ih1 _ _ _ _)
      | (with_reducible exact ih2 _ _ _ _)
      | (with_reducible exact rta_Fix.mono _ _ _ _)
      | (with_reducible exact rta_Next.mono _ _ _ _)
      | (with_reducible exact watchbilllaw12_Loads.mono _ _)
      | (with_reducible exact watchbillref13_Fix.mono _ _ _ _)
      | (with_reducible exact LeO.refl _)
      | (with_reducible exact LeO.none _)
      | (with_reducible refine LeO.ite ?_ ?_)
      | (with_reducible refine LeO.bind ?_ (fun _ => ?_))
      | exact ih0 _ _ _ _ _ _ _
      | exact ih1 _ _ _ _
      | exact ih2 _ _ _ _
      | exact rta_Fix.mono _ _ _ _
      | exact rta_Next.mono _ _ _ _
      | exact watchbilllaw12_Loads.mono _ _
      | exact watchbillref13_Fix.mono _ _ _ _
      | exact LeO.none _
      | refine LeO.ite ?_ ?_
      | refine LeO.bind ?_ (fun _ => ?_)
    · intro y0 y1 y2 y3
      unfold watchbilllaw12_RtaFix.l0
      repeat' first
      | (with_reducible exact ih0 _ _ _ _ _ _ _)
      | (with_reducible exact ih1 _ _ _ _)
      | (with_reducible exact ih2 _ _ _ _)
      | (with_reducible exact rta_Fix.mono _ _ _ _)
      | (with_reducible exact rta_Next.mono _ _ _ _)
      | (with_reducible exact watchbilllaw12_Loads.mono _ _)
      | (with_reducible exact watchbillref13_Fix.mono _ _ _ _)
      | (with_reducible exact LeO.refl _)
      | (with_reducible exact LeO.none _)
      | (with_reducible refine LeO.ite ?_ ?_)
      | (with_reducible refine LeO.bind ?_ (fun _ => ?_))
      | exact ih0 _ _ _ _ _ _ _
      | exact ih1 _ _ _ _
      | exact ih2 _ _ _ _
      | exact rta_Fix.mono _ _ _ _
      | exact rta_Next.mono _ _ _ _
      | exact watchbilllaw12_Loads.mono _ _
      | exact watchbillref13_Fix.mono _ _ _ _
      | exact LeO.none _
      | refine LeO.ite ?_ ?_
      | refine LeO.bind ?_ (fun _ => ?_)
theorem watchbilllaw12_RtaFix.mono : ∀ a0 a1 a2 k, LeO (watchbilllaw12_RtaFix.f k a0 a1 a2) (watchbilllaw12_RtaFix.f (k + 1) a0 a1 a2) := by
  intro a0 a1 a2 k
  obtain ⟨ih0, ih1, ih2⟩ := watchbilllaw12_RtaFix.mono_l k
  unfold watchbilllaw12_RtaFix.f
  repeat' first
      | (with_reducible exact ih0 _ _ _ _ _ _ _)
      | (with_reducible exact ih1 _ _ _ _)
      | (with_reducible exact ih2 _ _ _ _)
      | (with_reducible exact rta_Fix.mono _ _ _ _)
      | (with_reducible exact rta_Next.mono _ _ _ _)
      | (with_reducible exact watchbilllaw12_Loads.mono _ _)
      | (with_reducible exact watchbillref13_Fix.mono _ _ _ _)
      | (with_reducible exact LeO.refl _)
      | (with_reducible exact LeO.none _)
      | (with_reducible refine LeO.ite ?_ ?_)
      | (with_reducible refine LeO.bind ?_ (fun _ => ?_))
      | exact ih0 _ _ _ _ _ _ _
      | exact ih1 _ _ _ _
      | exact ih2 _ _ _ _
      | exact rta_Fix.mono _ _ _ _
      | exact rta_Next.mono _ _ _ _
      | exact watchbilllaw12_Loads.mono _ _
      | exact watchbillref13_Fix.mono _ _ _ _
      | exact LeO.none _
      | refine LeO.ite ?_ ?_
      | refine LeO.bind ?_ (fun _ => ?_)
set_option maxHeartbeats 8000000 in
set_option maxRecDepth 100000 in
theorem watchbilllaw12_RtaFix.calls (k : Nat) (a0 : Int) (A1 : Option Addr) (c1 : Nat) (l1 : List (S58)) (a2 : Int) (r : Bool) (w : World) (hr1 : Kd.C k58 w A1 l1.length l1) (hc1 : l1.length ≤ c1) (h : watchbilllaw12_RtaFix.f k a0 l1 a2 = some r) :
    Calls Try.prog 4 #[.int .i64 a0, .slice A1 l1.length c1, .int .i64 a2] w fun e w' => e = .returned (.bool r) ∧ Below w.heap.size w w' := by
  have HR1 := Aside0.mk hr1
  have HC1 := Aside0.mk hc1
  clear hr1 hc1
  have HB := Aside0.mk (Below.refl w.heap.size w)
  have H : ((watchbilllaw12_known.f).bind fun t264 => (if t264 = true then (if (l1.length : Int) > 30 then (some true) else ((rta_Fix.f k a0 l1 a2).bind fun bt265 => ((watchbilllaw12_Loads.f k l1).bind fun t268 => ((watchbillref13_Fix.f k a0 t268 a2).bind fun bt271 => (if bt265.1 = bt271.1 then (if bt265.2.1 = bt271.2.1 then (watchbilllaw12_RtaFix.j0 k a0 l1 a2 bt265.1 bt265.2.1 bt271.2.2 (bt265.2.2 != bt271.2.2)) else (watchbilllaw12_RtaFix.j0 k a0 l1 a2 bt265.1 bt265.2.1 bt271.2.2 true)) else (watchbilllaw12_RtaFix.j0 k a0 l1 a2 bt265.1 bt265.2.1 bt271.2.2 true)))))) else (some false))) = some r := h
  clear h
  replace H := Option.bind_eq_some_iff.mp H
  obtain ⟨t264, A40, H⟩ := H
  replace H : (if t264 = true then (if (l1.length : Int) > 30 then (some true) else ((rta_Fix.f k a0 l1 a2).bind fun bt265 => ((watchbilllaw12_Loads.f k l1).bind fun t268 => ((watchbillref13_Fix.f k a0 t268 a2).bind fun bt271 => (if bt265.1 = bt271.1 then (if bt265.2.1 = bt271.2.1 then (watchbilllaw12_RtaFix.j0 k a0 l1 a2 bt265.1 bt265.2.1 bt271.2.2 (bt265.2.2 != bt271.2.2)) else (watchbilllaw12_RtaFix.j0 k a0 l1 a2 bt265.1 bt265.2.1 bt271.2.2 true)) else (watchbilllaw12_RtaFix.j0 k a0 l1 a2 bt265.1 bt265.2.1 bt271.2.2 true)))))) else (some false)) = some r := H
  have A4 := Aside0.mk A40
  clear A40
  by_cases c5 : t264 = true
  · subst c5
    have H1 : (if (l1.length : Int) > 30 then (some true) else ((rta_Fix.f k a0 l1 a2).bind fun bt265 => ((watchbilllaw12_Loads.f k l1).bind fun t268 => ((watchbillref13_Fix.f k a0 t268 a2).bind fun bt271 => (if bt265.1 = bt271.1 then (if bt265.2.1 = bt271.2.1 then (watchbilllaw12_RtaFix.j0 k a0 l1 a2 bt265.1 bt265.2.1 bt271.2.2 (bt265.2.2 != bt271.2.2)) else (watchbilllaw12_RtaFix.j0 k a0 l1 a2 bt265.1 bt265.2.1 bt271.2.2 true)) else (watchbilllaw12_RtaFix.j0 k a0 l1 a2 bt265.1 bt265.2.1 bt271.2.2 true)))))) = some r := by rw [if_pos rfl] at H; exact H
    clear H
    have H := H1
    clear H1
    by_cases c6 : (l1.length : Int) > 30
    · rw [if_pos c6] at H
      have c6b0 : decide (30 < (l1.length : Int)) = true := decide_eq_true c6
      have c6b1 : decide (30 < l1.length) = true := decide_eq_true (by omega)
      clear c6
      obtain rfl := Option.some.inj H
      go_enter Try.func4, Try.ntmps4
      go_wp2_with (first | ((with_reducible refine gate_callee (f := 9) rfl ?_); refine goesL_ (some 18) rfl rfl Try.func9 (by kernel_rfl) rfl #[] rfl (by (try simp only [List.map_toArray, List.map_cons, List.map_nil]); first | done | rfl | (simp only [List.length_drop, List.length_take]; rfl)) ?_; (with_reducible refine (watchbilllaw12_known.calls  true _ A4.out).mono ?_); rintro e w7 ⟨rfl, hb⟩; refine ⟨_, rfl, ?_⟩; have n0_ := Aside0.mk (below_step (by repeat (first | (with_reducible first | exact HB.out | apply below_alloc | apply pw_below_drewN | apply below_drew1) | exact HB.out)) hb); clear HB; have HB := n0_; clear n0_; (try clear hb); (try clear hb2); (try clear hk); (try clear hi)))
      go_ret
      exact ⟨by first | rfl | (simp [errW_none, errW_some] <;> rfl) | (simp [*, errW_none, errW_some] <;> rfl), by repeat (first | (with_reducible first | exact HB.out | apply below_alloc | apply pw_below_drewN | apply below_drew1) | exact HB.out)⟩
    · rw [if_neg c6] at H
      have c6b0 : decide (30 < (l1.length : Int)) = false := decide_eq_false c6
      have c6b1 : decide (30 < l1.length) = false := decide_eq_false (by omega)
      clear c6
      replace H := Option.bind_eq_some_iff.mp H
      obtain ⟨⟨t265, t266, t267⟩, A80, H⟩ := H
      replace H : ((watchbilllaw12_Loads.f k l1).bind fun t268 => ((watchbillref13_Fix.f k a0 t268 a2).bind fun bt271 => (if t265 = bt271.1 then (if t266 = bt271.2.1 then (watchbilllaw12_RtaFix.j0 k a0 l1 a2 t265 t266 bt271.2.2 (t267 != bt271.2.2)) else (watchbilllaw12_RtaFix.j0 k a0 l1 a2 t265 t266 bt271.2.2 true)) else (watchbilllaw12_RtaFix.j0 k a0 l1 a2 t265 t266 bt271.2.2 true)))) = some r := H
      have A8 := Aside0.mk A80
      clear A80
      replace H := Option.bind_eq_some_iff.mp H
      obtain ⟨t268, A90, H⟩ := H
      replace H : ((watchbillref13_Fix.f k a0 t268 a2).bind fun bt271 => (if t265 = bt271.1 then (if t266 = bt271.2.1 then (watchbilllaw12_RtaFix.j0 k a0 l1 a2 t265 t266 bt271.2.2 (t267 != bt271.2.2)) else (watchbilllaw12_RtaFix.j0 k a0 l1 a2 t265 t266 bt271.2.2 true)) else (watchbilllaw12_RtaFix.j0 k a0 l1 a2 t265 t266 bt271.2.2 true))) = some r := H
      have A9 := Aside0.mk A90
      clear A90
      replace H := Option.bind_eq_some_iff.mp H
      obtain ⟨⟨t271, t272, t273⟩, A100, H⟩ := H
      replace H : (if t265 = t271 then (if t266 = t272 then (watchbilllaw12_RtaFix.j0 k a0 l1 a2 t265 t266 t273 (t267 != t273)) else (watchbilllaw12_RtaFix.j0 k a0 l1 a2 t265 t266 t273 true)) else (watchbilllaw12_RtaFix.j0 k a0 l1 a2 t265 t266 t273 true)) = some r := H
      have A10 := Aside0.mk A100
      clear A100
      have HC11 := Aside0.mk H
      clear H
      go_enter Try.func4, Try.ntmps4
      go_upto_region 7 with (first | ((with_reducible refine gate_callee (f := 9) rfl ?_); refine goesL_ (some 18) rfl rfl Try.func9 (by kernel_rfl) rfl #[] rfl (by (try simp only [List.map_toArray, List.map_cons, List.map_nil]); first | done | rfl | (simp only [List.length_drop, List.length_take]; rfl)) ?_; (with_reducible refine (watchbilllaw12_known.calls  true _ A4.out).mono ?_); rintro e w12 ⟨rfl, hb⟩; refine ⟨_, rfl, ?_⟩; have n0_ := Aside0.mk (below_step (by repeat (first | (with_reducible first | exact HB.out | apply below_alloc | apply pw_below_drewN | apply below_drew1) | exact HB.out)) hb); clear HB; have HB := n0_; clear n0_; (try clear hb); (try clear hb2); (try clear hk); (try clear hi)) | ((with_reducible refine gate_callee (f := 13) rfl ?_); refine goesL_ (some 27) rfl rfl Try.func13 (by kernel_rfl) rfl #[.int .i64 a0, .slice A1 l1.length c1, .int .i64 a2] rfl (by (try simp only [List.map_toArray, List.map_cons, List.map_nil]); first | done | rfl | (simp only [List.length_drop, List.length_take]; rfl)) ?_; (with_reducible refine (rta_Fix.calls k a0 _ _ l1 a2 t265 t266 t267 _ ?side1 ?side2 A8.out).mono ?_); (case side1 => repeat (first | exact (Kd.C_below HR1.out HB.out) | (with_reducible refine Kd.C_alloc ?_ _) | (with_reducible refine Kd.C_drewN ?_ _) | (with_reducible refine Kd.C_drew ?_))); (case side2 => exact HC1.out); rintro e w13 ⟨rfl, hb⟩; refine ⟨_, rfl, ?_⟩; have n0_ := Aside0.mk (below_step (by repeat (first | (with_reducible first | exact HB.out | apply below_alloc | apply pw_below_drewN | apply below_drew1) | exact HB.out)) hb); clear HB; have HB := n0_; clear n0_; (try clear hb); (try clear hb2); (try clear hk); (try clear hi)) | ((with_reducible refine gate_callee (f := 12) rfl ?_); refine goesL_ (some 34) rfl rfl Try.func12 (by kernel_rfl) rfl #[.slice A1 l1.length c1] rfl (by (try simp only [List.map_toArray, List.map_cons, List.map_nil]); first | done | rfl | (simp only [List.length_drop, List.length_take]; rfl)) ?_; (with_reducible refine (watchbilllaw12_Loads.calls k _ _ l1 t268 _ ?side1 ?side2 A9.out).mono ?_); (case side1 => repeat (first | exact (Kd.C_below HR1.out HB.out) | (with_reducible refine Kd.C_alloc ?_ _) | (with_reducible refine Kd.C_drewN ?_ _) | (with_reducible refine Kd.C_drew ?_))); (case side2 => exact HC1.out); rintro e w14 ⟨v269, rfl, ho0, hb⟩; refine ⟨_, rfl, ?_⟩; have n0_ := Aside0.mk (Kd.R_lower ho0 (below_size (by repeat (first | (with_reducible first | exact HB.out | apply below_alloc | apply pw_below_drewN | apply below_drew1) | exact HB.out)))); have n1_ := Aside0.mk (below_step (by repeat (first | (with_reducible first | exact HB.out | apply below_alloc | apply pw_below_drewN | apply below_drew1) | exact HB.out)) hb); clear HB; have HO270 := n0_; have HB := n1_; clear n0_ n1_; (try clear hb); (try clear hb2); (try clear hk); (try clear hi); (try clear ho0); obtain ⟨Ao15, co15, eo15⟩ := Kd.R_slice HO270.out; subst eo15) | ((with_reducible refine gate_callee (f := 14) rfl ?_); refine goesL_ (some 36) rfl rfl Try.func14 (by kernel_rfl) rfl #[.int .i64 a0, .slice Ao15 t268.length co15, .int .i64 a2] rfl (by (try simp only [List.map_toArray, List.map_cons, List.map_nil]); first | done | rfl | (simp only [List.length_drop, List.length_take]; rfl)) ?_; (with_reducible refine (watchbillref13_Fix.calls k a0 _ _ t268 a2 t271 t272 t273 _ ?side1 ?side2 A10.out).mono ?_); (case side1 => repeat (first | exact (Kd.R_reads' HO270.out).2.2 | (with_reducible refine Kd.C_alloc ?_ _) | (with_reducible refine Kd.C_drewN ?_ _) | (with_reducible refine Kd.C_drew ?_))); (case side2 => exact (Kd.R_reads' HO270.out).2.1); rintro e w' ⟨rfl, ⟨nd, rfl⟩⟩; refine ⟨_, rfl, ?_⟩))
      (try simp only [Act.put, List.setIfInBounds_toArray, List.set_cons_zero, List.set_cons_succ])
      go_cut [52] (fun v52 wc => ∃ (kq : Nat) (x52_10 : Bool), v52 = .bool x52_10 ∧ Aside0 (watchbilllaw12_RtaFix.j0 kq a0 l1 a2 t265 t266 t273 x52_10 = some r) ∧ Aside0 (kq ≤ k) ∧ Aside0 (Below w.heap.size w wc))
      case first =>
        have H := HC11.out
        clear HC11
        by_cases c16 : t265 = t271
        · rw [if_pos c16] at H
          have c16b0 : (t265 == t271) = true := beq_iff_eq.mpr c16
          have c16b1 : (t265 != t271) = false := bne_eq_false_iff_eq.mpr c16
          clear c16
          (first | rw [c16b0] | (simp only [i64_w, i32_w]; rw [c16b0]) | skip)
          by_cases c17 : t266 = t272
          · rw [if_pos c17] at H
            have c17b0 : (t266 == t272) = true := beq_iff_eq.mpr c17
            have c17b1 : (t266 != t272) = false := bne_eq_false_iff_eq.mpr c17
            clear c17
            have H' := Aside0.mk H
            clear H
            go_wp2
            go_meet
            case rel => exact ⟨_, ((t267 != t273)), (by first | rfl | (simp; done) | (simp [*]; done) | (simp [Int.tdiv_eq_ediv_of_nonneg]; done)), H', ⟨by first | omega | exact Nat.le_refl _⟩, ⟨by repeat (first | (with_reducible first | exact HB.out | apply below_alloc | apply pw_below_drewN | apply below_drew1) | exact HB.out)⟩⟩
          · rw [if_neg c17] at H
            have c17b0 : (t266 == t272) = false := beq_eq_false_iff_ne.mpr c17
            have c17b1 : (t266 != t272) = true := bne_iff_ne.mpr c17
            have H' := Aside0.mk H
            clear H
            go_wp2
            go_meet
            case rel => exact ⟨_, (true), (by first | rfl | (simp; done) | (simp [*]; done) | (simp [Int.tdiv_eq_ediv_of_nonneg]; done)), H', ⟨by first | omega | exact Nat.le_refl _⟩, ⟨by repeat (first | (with_reducible first | exact HB.out | apply below_alloc | apply pw_below_drewN | apply below_drew1) | exact HB.out)⟩⟩
        · rw [if_neg c16] at H
          have c16b0 : (t265 == t271) = false := beq_eq_false_iff_ne.mpr c16
          have c16b1 : (t265 != t271) = true := bne_iff_ne.mpr c16
          (first | rw [c16b0] | (simp only [i64_w, i32_w]; rw [c16b0]) | skip)
          have H' := Aside0.mk H
          clear H
          go_wp2
          go_meet
          case rel => exact ⟨_, (true), (by first | rfl | (simp; done) | (simp [*]; done) | (simp [Int.tdiv_eq_ediv_of_nonneg]; done)), H', ⟨by first | omega | exact Nat.le_refl _⟩, ⟨by repeat (first | (with_reducible first | exact HB.out | apply below_alloc | apply pw_below_drewN | apply below_drew1) | exact HB.out)⟩⟩
      case rest =>
        clear HC11
        try clear c1
        try clear p2
        try clear c4
        try clear c5
        try clear c6
        try clear c6b0
        try clear c6b1
        try clear c9
        try clear c12
        try clear c13
        try clear c14
        try clear c16
        try clear c16b0
        try clear c16b1
        try clear c17
        try clear c17b0
        try clear c17b1
        obtain ⟨kq, x52_10, rfl, HA, HJ10, HB⟩ := hcut
        cases kq with
        | zero => exact absurd HA.out (by simp [watchbilllaw12_RtaFix.j0])
        | succ kj10 =>
          have H := HA.out
          clear HA
          simp only [watchbilllaw12_RtaFix.j0] at H
          by_cases c18 : x52_10 = true
          · subst c18
            have H1 : (some false) = some r := by rw [if_pos rfl] at H; exact H
            clear H
            have H := H1
            clear H1
            obtain rfl := Option.some.inj H
            go_wp2
            go_ret
            exact ⟨by first | rfl | (simp [errW_none, errW_some] <;> rfl) | (simp [*, errW_none, errW_some] <;> rfl), by repeat (first | (with_reducible first | exact HB.out | apply below_alloc | apply pw_below_drewN | apply below_drew1) | exact HB.out)⟩
          · replace c18 := Bool.eq_false_iff.mpr c18
            subst c18
            have H1 : (if t273 = 0 then ((rta_Next.f kj10 t265 a0 l1).bind fun bt274 => (if bt274.2 = 0 then (if bt274.1 = t265 then (if t265 > a2 then (watchbilllaw12_RtaFix.j1 kj10 a0 l1 t265 true) else (if t266 < 1 then (watchbilllaw12_RtaFix.j1 kj10 a0 l1 t265 true) else (watchbilllaw12_RtaFix.j1 kj10 a0 l1 t265 (decide (t266 > 1000))))) else (watchbilllaw12_RtaFix.j1 kj10 a0 l1 t265 true)) else (watchbilllaw12_RtaFix.j1 kj10 a0 l1 t265 true))) else (if t265 = 0 then (some (t266 == 0)) else (some false))) = some r := by rw [if_neg (show ¬ (false = true) by decide)] at H; exact H
            clear H
            have H := H1
            clear H1
            by_cases c19 : t273 = 0
            · rw [if_pos c19] at H
              have c19b0 : (t273 == 0) = true := beq_iff_eq.mpr c19
              have c19b1 : (t273 != 0) = false := bne_eq_false_iff_eq.mpr c19
              clear c19
              replace H := Option.bind_eq_some_iff.mp H
              obtain ⟨⟨t274, t275⟩, A200, H⟩ := H
              replace H : (if t275 = 0 then (if t274 = t265 then (if t265 > a2 then (watchbilllaw12_RtaFix.j1 kj10 a0 l1 t265 true) else (if t266 < 1 then (watchbilllaw12_RtaFix.j1 kj10 a0 l1 t265 true) else (watchbilllaw12_RtaFix.j1 kj10 a0 l1 t265 (decide (t266 > 1000))))) else (watchbilllaw12_RtaFix.j1 kj10 a0 l1 t265 true)) else (watchbilllaw12_RtaFix.j1 kj10 a0 l1 t265 true)) = some r := H
              have A20 := Aside0.mk A200
              clear A200
              have HC21 := Aside0.mk H
              clear H
              go_upto_region 12 with (first | ((with_reducible refine gate_callee (f := 10) rfl ?_); refine goesL_ (some 65) rfl rfl Try.func10 (by kernel_rfl) rfl #[.int .i64 t265, .int .i64 a0, .slice A1 l1.length c1] rfl (by (try simp only [List.map_toArray, List.map_cons, List.map_nil]); first | done | rfl | (simp only [List.length_drop, List.length_take]; rfl)) ?_; (with_reducible refine (rta_Next.calls kj10 t265 a0 _ _ l1 t274 t275 _ ?side1 ?side2 A20.out).mono ?_); (case side1 => repeat (first | exact (Kd.C_below HR1.out HB.out) | (with_reducible refine Kd.C_alloc ?_ _) | (with_reducible refine Kd.C_drewN ?_ _) | (with_reducible refine Kd.C_drew ?_))); (case side2 => exact HC1.out); rintro e w22 ⟨rfl, hb⟩; refine ⟨_, rfl, ?_⟩; have n0_ := Aside0.mk (below_step (by repeat (first | (with_reducible first | exact HB.out | apply below_alloc | apply pw_below_drewN | apply below_drew1) | exact HB.out)) hb); clear HB; have HB := n0_; clear n0_; (try clear hb); (try clear hb2); (try clear hk); (try clear hi)))
              (try simp only [Act.put, List.setIfInBounds_toArray, List.set_cons_zero, List.set_cons_succ])
              go_cut [87] (fun v87 wc => ∃ (kq : Nat) (x87_20 : Bool), v87 = .bool x87_20 ∧ Aside0 (watchbilllaw12_RtaFix.j1 kq a0 l1 t265 x87_20 = some r) ∧ Aside0 (kq ≤ kj10) ∧ Aside0 (Below w.heap.size w wc))
              case first =>
                have H := HC21.out
                clear HC21
                by_cases c23 : t275 = 0
                · rw [if_pos c23] at H
                  have c23b0 : (t275 == 0) = true := beq_iff_eq.mpr c23
                  have c23b1 : (t275 != 0) = false := bne_eq_false_iff_eq.mpr c23
                  clear c23
                  (first | rw [c23b0] | (simp only [i64_w, i32_w]; rw [c23b0]) | skip)
                  by_cases c24 : t274 = t265
                  · rw [if_pos c24] at H
                    have c24b0 : (t274 == t265) = true := beq_iff_eq.mpr c24
                    have c24b1 : (t274 != t265) = false := bne_eq_false_iff_eq.mpr c24
                    clear c24
                    by_cases c25 : t265 > a2
                    · rw [if_pos c25] at H
                      have c25b0 : decide (a2 < t265) = true := decide_eq_true c25
                      clear c25
                      have H' := Aside0.mk H
                      clear H
                      go_wp2
                      go_meet
                      case rel => exact ⟨_, (true), (by first | rfl | (simp; done) | (simp [*]; done) | (simp [Int.tdiv_eq_ediv_of_nonneg]; done)), H', ⟨by have := HJ10.out; first | omega | exact Nat.le_refl _⟩, ⟨by repeat (first | (with_reducible first | exact HB.out | apply below_alloc | apply pw_below_drewN | apply below_drew1) | exact HB.out)⟩⟩
                    · rw [if_neg c25] at H
                      have c25b0 : decide (a2 < t265) = false := decide_eq_false c25
                      clear c25
                      by_cases c26 : t266 < 1
                      · rw [if_pos c26] at H
                        have c26b0 : decide (t266 < 1) = true := decide_eq_true c26
                        clear c26
                        have H' := Aside0.mk H
                        clear H
                        go_wp2
                        go_meet
                        case rel => exact ⟨_, (true), (by first | rfl | (simp; done) | (simp [*]; done) | (simp [Int.tdiv_eq_ediv_of_nonneg]; done)), H', ⟨by have := HJ10.out; first | omega | exact Nat.le_refl _⟩, ⟨by repeat (first | (with_reducible first | exact HB.out | apply below_alloc | apply pw_below_drewN | apply below_drew1) | exact HB.out)⟩⟩
                      · rw [if_neg c26] at H
                        have c26b0 : decide (t266 < 1) = false := decide_eq_false c26
                        clear c26
                        have H' := Aside0.mk H
                        clear H
                        go_wp2
                        go_meet
                        case rel => exact ⟨_, (decide (t266 > 1000)), (by first | rfl | (simp; done) | (simp [*]; done) | (simp [Int.tdiv_eq_ediv_of_nonneg]; done)), H', ⟨by have := HJ10.out; first | omega | exact Nat.le_refl _⟩, ⟨by repeat (first | (with_reducible first | exact HB.out | apply below_alloc | apply pw_below_drewN | apply below_drew1) | exact HB.out)⟩⟩
                  · rw [if_neg c24] at H
                    have c24b0 : (t274 == t265) = false := beq_eq_false_iff_ne.mpr c24
                    have c24b1 : (t274 != t265) = true := bne_iff_ne.mpr c24
                    have H' := Aside0.mk H
                    clear H
                    go_wp2
                    go_meet
                    case rel => exact ⟨_, (true), (by first | rfl | (simp; done) | (simp [*]; done) | (simp [Int.tdiv_eq_ediv_of_nonneg]; done)), H', ⟨by have := HJ10.out; first | omega | exact Nat.le_refl _⟩, ⟨by repeat (first | (with_reducible first | exact HB.out | apply below_alloc | apply pw_below_drewN | apply below_drew1) | exact HB.out)⟩⟩
                · rw [if_neg c23] at H
                  have c23b0 : (t275 == 0) = false := beq_eq_false_iff_ne.mpr c23
                  have c23b1 : (t275 != 0) = true := bne_iff_ne.mpr c23
                  (first | rw [c23b0] | (simp only [i64_w, i32_w]; rw [c23b0]) | skip)
                  have H' := Aside0.mk H
                  clear H
                  go_wp2
                  go_meet
                  case rel => exact ⟨_, (true), (by first | rfl | (simp; done) | (simp [*]; done) | (simp [Int.tdiv_eq_ediv_of_nonneg]; done)), H', ⟨by have := HJ10.out; first | omega | exact Nat.le_refl _⟩, ⟨by repeat (first | (with_reducible first | exact HB.out | apply below_alloc | apply pw_below_drewN | apply below_drew1) | exact HB.out)⟩⟩
              case rest =>
                clear HC21
                try clear c1
                try clear c2
                try clear p2
                try clear c4
                try clear c5
                try clear c6
                try clear c6b0
                try clear c6b1
                try clear c9
                try clear c10
                try clear c12
                try clear c13
                try clear c14
                try clear c16
                try clear c16b0
                try clear c16b1
                try clear c17
                try clear c17b0
                try clear c17b1
                try clear c18
                try clear c19
                try clear c19b0
                try clear c19b1
                try clear c23
                try clear c23b0
                try clear c23b1
                try clear c24
                try clear c24b0
                try clear c24b1
                try clear c25
                try clear c25b0
                try clear c26
                try clear c26b0
                try clear p2
                obtain ⟨kq, x87_20, rfl, HA, HJ20, HB⟩ := hcut
                cases kq with
                | zero => exact absurd HA.out (by simp [watchbilllaw12_RtaFix.j1])
                | succ kj20 =>
                  have H := HA.out
                  clear HA
                  simp only [watchbilllaw12_RtaFix.j1] at H
                  by_cases c27 : x87_20 = true
                  · subst c27
                    have H1 : (some false) = some r := by rw [if_pos rfl] at H; exact H
                    clear H
                    have H := H1
                    clear H1
                    obtain rfl := Option.some.inj H
                    go_wp2
                    go_ret
                    exact ⟨by first | rfl | (simp [errW_none, errW_some] <;> rfl) | (simp [*, errW_none, errW_some] <;> rfl), by repeat (first | (with_reducible first | exact HB.out | apply below_alloc | apply pw_below_drewN | apply below_drew1) | exact HB.out)⟩
                  · replace c27 := Bool.eq_false_iff.mpr c27
                    subst c27
                    have H1 : (watchbilllaw12_RtaFix.l0 kj20 a0 l1 t265 (mx 0 (wrap64 (t265 - 50)))) = some r := by rw [if_neg (show ¬ (false = true) by decide)] at H; exact H
                    clear H
                    have H := H1
                    clear H1
                    obtain ⟨ji28, hji28⟩ : ∃ j_ : Int, (mx 0 (wrap64 (t265 - 50))) = j_ := ⟨_, rfl⟩
                    replace H : (watchbilllaw12_RtaFix.l0 kj20 a0 l1 t265 ji28) = some r := by first | (rw [hji28] at H; exact H) | (simp only [hji28] at H ⊢; exact H)
                    have hji28_ : (if 0 < (wrap64 (t265 - 50)) then (wrap64 (t265 - 50)) else 0) = ji28 := hji28
                    have H' := Aside0.mk H
                    clear H
                    go_wp2
                    go_loopg [15] kj20 (fun kq v15 w' => ∃ (x15_3 : Int), v15 = .int .i64 x15_3 ∧ Aside0 (watchbilllaw12_RtaFix.l0 kq a0 l1 t265 x15_3 = some r) ∧ Aside0 (kq ≤ kj20) ∧ Aside0 (Below w.heap.size w w'))
                    case atStart => exact ⟨(ji28), (by first | rfl | (simp; done) | (simp only [← hji28] <;> (first | rfl | simp)) | (simp [*]; done) | (simp [Int.tdiv_eq_ediv_of_nonneg]; done)), H', ⟨Nat.le_refl _⟩, ⟨by repeat (first | (with_reducible first | exact HB.out | apply below_alloc | apply pw_below_drewN | apply below_drew1) | exact HB.out)⟩⟩
                    case round =>
                      clear H'
                      try clear c1
                      try clear c2
                      try clear p2
                      try clear c4
                      try clear c5
                      try clear c6
                      try clear c6b0
                      try clear c6b1
                      try clear p6
                      try clear c9
                      try clear c10
                      try clear c12
                      try clear c13
                      try clear c14
                      try clear c16
                      try clear c16b0
                      try clear c16b1
                      try clear c17
                      try clear c17b0
                      try clear c17b1
                      try clear c18
                      try clear c19
                      try clear c19b0
                      try clear c19b1
                      try clear c23
                      try clear c23b0
                      try clear c23b1
                      try clear c24
                      try clear c24b0
                      try clear c24b1
                      try clear c25
                      try clear c25b0
                      try clear c26
                      try clear c26b0
                      try clear c27
                      try clear p2
                      obtain ⟨x15_3, rfl, HA, HK3, HB⟩ := hrel
                      cases gk with
                      | zero => exact absurd HA.out (by simp [watchbilllaw12_RtaFix.l0])
                      | succ k3 =>
                        have H := HA.out
                        clear HA
                        simp only [watchbilllaw12_RtaFix.l0] at H
                        by_cases c29 : x15_3 < t265
                        · rw [if_pos c29] at H
                          have c29b0 : decide (x15_3 < t265) = true := decide_eq_true c29
                          clear c29
                          replace H := Option.bind_eq_some_iff.mp H
                          obtain ⟨⟨t276, t277⟩, A300, H⟩ := H
                          replace H : (if t277 = 0 then (if t276 ≤ x15_3 then (some false) else (watchbilllaw12_RtaFix.l0 k3 a0 l1 t265 (wrap64 (x15_3 + 1)))) else (some false)) = some r := H
                          have A30 := Aside0.mk A300
                          clear A300
                          by_cases c31 : t277 = 0
                          · rw [if_pos c31] at H
                            have c31b0 : (t277 == 0) = true := beq_iff_eq.mpr c31
                            have c31b1 : (t277 != 0) = false := bne_eq_false_iff_eq.mpr c31
                            clear c31
                            by_cases c32 : t276 ≤ x15_3
                            · rw [if_pos c32] at H
                              have c32b0 : decide (t276 ≤ x15_3) = true := decide_eq_true c32
                              clear c32
                              obtain rfl := Option.some.inj H
                              go_wp2_with (first | ((with_reducible refine gate_callee (f := 10) rfl ?_); refine goesL_ (some 100) rfl rfl Try.func10 (by kernel_rfl) rfl #[.int .i64 x15_3, .int .i64 a0, .slice A1 l1.length c1] rfl (by (try simp only [List.map_toArray, List.map_cons, List.map_nil]); first | done | rfl | (simp only [List.length_drop, List.length_take]; rfl)) ?_; (with_reducible refine (rta_Next.calls k3 x15_3 a0 _ _ l1 t276 t277 _ ?side1 ?side2 A30.out).mono ?_); (case side1 => repeat (first | exact (Kd.C_below HR1.out HB.out) | (with_reducible refine Kd.C_alloc ?_ _) | (with_reducible refine Kd.C_drewN ?_ _) | (with_reducible refine Kd.C_drew ?_))); (case side2 => exact HC1.out); rintro e w33 ⟨rfl, hb⟩; refine ⟨_, rfl, ?_⟩; have n0_ := Aside0.mk (below_step (by repeat (first | (with_reducible first | exact HB.out | apply below_alloc | apply pw_below_drewN | apply below_drew1) | exact HB.out)) hb); clear HB; have HB := n0_; clear n0_; (try clear hb); (try clear hb2); (try clear hk); (try clear hi)))
                              go_ret
                              exact ⟨by first | rfl | (simp [errW_none, errW_some] <;> rfl) | (simp only [← hji28]; first | rfl | (simp [errW_none, errW_some] <;> rfl)) | (simp [*, errW_none, errW_some] <;> rfl), by repeat (first | (with_reducible first | exact HB.out | apply below_alloc | apply pw_below_drewN | apply below_drew1) | exact HB.out)⟩
                            · rw [if_neg c32] at H
                              have c32b0 : decide (t276 ≤ x15_3) = false := decide_eq_false c32
                              clear c32
                              have H' := Aside0.mk H
                              clear H
                              go_wp2_with (first | ((with_reducible refine gate_callee (f := 10) rfl ?_); refine goesL_ (some 100) rfl rfl Try.func10 (by kernel_rfl) rfl #[.int .i64 x15_3, .int .i64 a0, .slice A1 l1.length c1] rfl (by (try simp only [List.map_toArray, List.map_cons, List.map_nil]); first | done | rfl | (simp only [List.length_drop, List.length_take]; rfl)) ?_; (with_reducible refine (rta_Next.calls k3 x15_3 a0 _ _ l1 t276 t277 _ ?side1 ?side2 A30.out).mono ?_); (case side1 => repeat (first | exact (Kd.C_below HR1.out HB.out) | (with_reducible refine Kd.C_alloc ?_ _) | (with_reducible refine Kd.C_drewN ?_ _) | (with_reducible refine Kd.C_drew ?_))); (case side2 => exact HC1.out); rintro e w34 ⟨rfl, hb⟩; refine ⟨_, rfl, ?_⟩; have n0_ := Aside0.mk (below_step (by repeat (first | (with_reducible first | exact HB.out | apply below_alloc | apply pw_below_drewN | apply below_drew1) | exact HB.out)) hb); clear HB; have HB := n0_; clear n0_; (try clear hb); (try clear hb2); (try clear hk); (try clear hi)))
                              go_roundg k3
                              case measure => have := HJ10.out; have := HJ20.out; have := HK3.out; omega
                              case rel => exact ⟨(wrap64 (x15_3 + 1)), (by first | rfl | (simp; done) | (simp [*]; done) | (simp [Int.tdiv_eq_ediv_of_nonneg]; done)), H', ⟨by have := HJ10.out; have := HJ20.out; have := HK3.out; omega⟩, ⟨by repeat (first | (with_reducible first | exact HB.out | apply below_alloc | apply pw_below_drewN | apply below_drew1) | exact HB.out)⟩⟩
                          · rw [if_neg c31] at H
                            have c31b0 : (t277 == 0) = false := beq_eq_false_iff_ne.mpr c31
                            have c31b1 : (t277 != 0) = true := bne_iff_ne.mpr c31
                            obtain rfl := Option.some.inj H
                            go_wp2_with (first | ((with_reducible refine gate_callee (f := 10) rfl ?_); refine goesL_ (some 100) rfl rfl Try.func10 (by kernel_rfl) rfl #[.int .i64 x15_3, .int .i64 a0, .slice A1 l1.length c1] rfl (by (try simp only [List.map_toArray, List.map_cons, List.map_nil]); first | done | rfl | (simp only [List.length_drop, List.length_take]; rfl)) ?_; (with_reducible refine (rta_Next.calls k3 x15_3 a0 _ _ l1 t276 t277 _ ?side1 ?side2 A30.out).mono ?_); (case side1 => repeat (first | exact (Kd.C_below HR1.out HB.out) | (with_reducible refine Kd.C_alloc ?_ _) | (with_reducible refine Kd.C_drewN ?_ _) | (with_reducible refine Kd.C_drew ?_))); (case side2 => exact HC1.out); rintro e w35 ⟨rfl, hb⟩; refine ⟨_, rfl, ?_⟩; have n0_ := Aside0.mk (below_step (by repeat (first | (with_reducible first | exact HB.out | apply below_alloc | apply pw_below_drewN | apply below_drew1) | exact HB.out)) hb); clear HB; have HB := n0_; clear n0_; (try clear hb); (try clear hb2); (try clear hk); (try clear hi)))
                            go_ret
                            exact ⟨by first | rfl | (simp [errW_none, errW_some] <;> rfl) | (simp only [← hji28]; first | rfl | (simp [errW_none, errW_some] <;> rfl)) | (simp [*, errW_none, errW_some] <;> rfl), by repeat (first | (with_reducible first | exact HB.out | apply below_alloc | apply pw_below_drewN | apply below_drew1) | exact HB.out)⟩
                        · rw [if_neg c29] at H
                          have c29b0 : decide (x15_3 < t265) = false := decide_eq_false c29
                          clear c29
                          obtain rfl := Option.some.inj H
                          go_wp2
                          go_ret
                          exact ⟨by first | rfl | (simp [errW_none, errW_some] <;> rfl) | (simp only [← hji28]; first | rfl | (simp [errW_none, errW_some] <;> rfl)) | (simp [*, errW_none, errW_some] <;> rfl), by repeat (first | (with_reducible first | exact HB.out | apply below_alloc | apply pw_below_drewN | apply below_drew1) | exact HB.out)⟩
            · rw [if_neg c19] at H
              have c19b0 : (t273 == 0) = false := beq_eq_false_iff_ne.mpr c19
              have c19b1 : (t273 != 0) = true := bne_iff_ne.mpr c19
              by_cases c36 : t265 = 0
              · rw [if_pos c36] at H
                have c36b0 : (t265 == 0) = true := beq_iff_eq.mpr c36
                have c36b1 : (t265 != 0) = false := bne_eq_false_iff_eq.mpr c36
                clear c36
                obtain rfl := Option.some.inj H
                go_wp2
                go_ret
                exact ⟨by first | rfl | (simp [errW_none, errW_some] <;> rfl) | (simp [*, errW_none, errW_some] <;> rfl), by repeat (first | (with_reducible first | exact HB.out | apply below_alloc | apply pw_below_drewN | apply below_drew1) | exact HB.out)⟩
              · rw [if_neg c36] at H
                have c36b0 : (t265 == 0) = false := beq_eq_false_iff_ne.mpr c36
                have c36b1 : (t265 != 0) = true := bne_iff_ne.mpr c36
                obtain rfl := Option.some.inj H
                go_wp2
                go_ret
                exact ⟨by first | rfl | (simp [errW_none, errW_some] <;> rfl) | (simp [*, errW_none, errW_some] <;> rfl), by repeat (first | (with_reducible first | exact HB.out | apply below_alloc | apply pw_below_drewN | apply below_drew1) | exact HB.out)⟩
  · replace c5 := Bool.eq_false_iff.mpr c5
    subst c5
    have H1 : (some false) = some r := by rw [if_neg (show ¬ (false = true) by decide)] at H; exact H
    clear H
    have H := H1
    clear H1
    obtain rfl := Option.some.inj H
    go_enter Try.func4, Try.ntmps4
    go_wp2_with (first | ((with_reducible refine gate_callee (f := 9) rfl ?_); refine goesL_ (some 18) rfl rfl Try.func9 (by kernel_rfl) rfl #[] rfl (by (try simp only [List.map_toArray, List.map_cons, List.map_nil]); first | done | rfl | (simp only [List.length_drop, List.length_take]; rfl)) ?_; (with_reducible refine (watchbilllaw12_known.calls  false _ A4.out).mono ?_); rintro e w37 ⟨rfl, hb⟩; refine ⟨_, rfl, ?_⟩; have n0_ := Aside0.mk (below_step (by repeat (first | (with_reducible first | exact HB.out | apply below_alloc | apply pw_below_drewN | apply below_drew1) | exact HB.out)) hb); clear HB; have HB := n0_; clear n0_; (try clear hb); (try clear hb2); (try clear hk); (try clear hi)))
    go_ret
    exact ⟨by first | rfl | (simp [errW_none, errW_some] <;> rfl) | (simp [*, errW_none, errW_some] <;> rfl), by repeat (first | (with_reducible first | exact HB.out | apply below_alloc | apply pw_below_drewN | apply below_drew1) | exact HB.out)⟩

end Go.Proofs.Ytgeejlcnnldogaa.XA
