-- PRINTED by print.py (a twelfth state) out of the translation. Not trusted: Lean checks it.
import Derived.Test.YtjnhahdelipebaaXAx0
namespace Go.Proofs.Ytjnhahdelipebaa.XA
open Go.RowKit Go.Proofs.YtjnhahdelipebaaW.PrintWords Go.Proofs.YtjnhahdelipebaaW.PrintLast Go.Proofs.YtjnhahdelipebaaW.PrintMore
attribute [local go_sem] max2_int min2_int max_two min_two max_three min_three max_four min_four   -- for this text's walks alone
set_option linter.unusedVariables false
set_option linter.unusedSimpArgs false

/-! ### watchbillref8_Match: function 16 -/
mutual
def watchbillref8_Match.j0 : Nat → List (S62) → Int → Bool → Option (Int)
  | 0, _, _, _ => none
  | k + 1, x0, x1, x15 => if x15 = true then (some (-1)) else (if 0 ≤ x1 then (if x1 < (x0.length : Int) then (if ((rd_T62 x0 x1).f0) = 8 then (watchbillref8_Match.l0 k x0 0 x1) else (if ((rd_T62 x0 x1).f0) = 9 then (watchbillref8_Match.l1 k x0 0 x1) else (some (-1)))) else (none)) else (none))
def watchbillref8_Match.l0 : Nat → List (S62) → Int → Int → Option (Int)
  | 0, _, _, _ => none
  | k + 1, x0, x5, x6 => if x6 < (x0.length : Int) then (if 0 ≤ x6 then (if ((rd_T62 x0 x6).f0) = 8 then (watchbillref8_Match.j2 k x0 (wrap64 (x5 + 1)) x6) else (watchbillref8_Match.j2 k x0 x5 x6)) else (none)) else (some (-1))
def watchbillref8_Match.j2 : Nat → List (S62) → Int → Int → Option (Int)
  | 0, _, _, _ => none
  | k + 1, x0, x5, x6 => if 0 ≤ x6 then (if x6 < (x0.length : Int) then (if ((rd_T62 x0 x6).f0) = 9 then (if (wrap64 (x5 - 1)) = 0 then (some x6) else (watchbillref8_Match.l0 k x0 (wrap64 (x5 - 1)) (wrap64 (x6 + 1)))) else (watchbillref8_Match.l0 k x0 x5 (wrap64 (x6 + 1)))) else (none)) else (none)
def watchbillref8_Match.l1 : Nat → List (S62) → Int → Int → Option (Int)
  | 0, _, _, _ => none
  | k + 1, x0, x5, x7 => if x7 ≥ 0 then (if 0 ≤ x7 then (if x7 < (x0.length : Int) then (if ((rd_T62 x0 x7).f0) = 9 then (watchbillref8_Match.j4 k x0 (wrap64 (x5 + 1)) x7) else (watchbillref8_Match.j4 k x0 x5 x7)) else (none)) else (none)) else (some (-1))
def watchbillref8_Match.j4 : Nat → List (S62) → Int → Int → Option (Int)
  | 0, _, _, _ => none
  | k + 1, x0, x5, x7 => if 0 ≤ x7 then (if x7 < (x0.length : Int) then (if ((rd_T62 x0 x7).f0) = 8 then (if (wrap64 (x5 - 1)) = 0 then (some x7) else (watchbillref8_Match.l1 k x0 (wrap64 (x5 - 1)) (wrap64 (x7 - 1)))) else (watchbillref8_Match.l1 k x0 x5 (wrap64 (x7 - 1)))) else (none)) else (none)
end
def watchbillref8_Match.f (k : Nat) (l0 : List (S62)) (a1 : Int) : Option (Int) := if a1 < 0 then (watchbillref8_Match.j0 k l0 a1 true) else (watchbillref8_Match.j0 k l0 a1 (decide (a1 ≥ (l0.length : Int))))
theorem watchbillref8_Match.mono_l : ∀ k, (∀ y0 y1 y2, LeO (watchbillref8_Match.j0 k y0 y1 y2) (watchbillref8_Match.j0 (k + 1) y0 y1 y2)) ∧ (∀ y0 y1 y2, LeO (watchbillref8_Match.l0 k y0 y1 y2) (watchbillref8_Match.l0 (k + 1) y0 y1 y2)) ∧ (∀ y0 y1 y2, LeO (watchbillref8_Match.j2 k y0 y1 y2) (watchbillref8_Match.j2 (k + 1) y0 y1 y2)) ∧ (∀ y0 y1 y2, LeO (watchbillref8_Match.l1 k y0 y1 y2) (watchbillref8_Match.l1 (k + 1) y0 y1 y2)) ∧ (∀ y0 y1 y2, LeO (watchbillref8_Match.j4 k y0 y1 y2) (watchbillref8_Match.j4 (k + 1) y0 y1 y2))
  | 0 => ⟨fun _ _ _ r h => by simp [watchbillref8_Match.j0] at h, fun _ _ _ r h => by simp [watchbillref8_Match.l0] at h, fun _ _ _ r h => by simp [watchbillref8_Match.j2] at h, fun _ _ _ r h => by simp [watchbillref8_Match.l1] at h, fun _ _ _ r h => by simp [watchbillref8_Match.j4] at h⟩
  | k + 1 => by
    obtain ⟨ih0, ih1, ih2, ih3, ih4⟩ := watchbillref8_Match.mono_l k
    refine ⟨?_, ?_, ?_, ?_, ?_⟩
    · intro y0 y1 y2
      unfold watchbillref8_Match.j0
      repeat' first
      | (with_reducible exact ih0 _ _ _)
      | (with_reducible exact ih1 _ _ _)
      | (with_reducible exact ih2 _ _ _)
      | (with_reducible exact ih3 _ _ _)
      | (with_reducible exact ih4 _ _ _)
      | (with_reducible exact LeO.refl _)
      | (with_reducible exact LeO.none _)
      | (with_reducible refine LeO.ite ?_ ?_)
      | (with_reducible refine LeO.bind ?_ (fun _ => ?_))
      | exact ih0 _ _ _
      | exact ih1 _ _ _
      | exact ih2 _ _ _
      | exact ih3 _ _ _
      | exact ih4 _ _ _
      | exact LeO.none _
      | refine LeO.ite ?_ ?_
      | refine LeO.bind ?_ (fun _ => ?_)
    · intro y0 y1 y2
      unfold watchbillref8_Match.l0
      repeat' first
      | (with_reducible exact ih0 _ _ _)
      | (with_reducible exact ih1 _ _ _)
      | (with_reducible exact ih2 _ _ _)
      | (with_reducible exact ih3 _ _ _)
      | (with_reducible exact ih4 _ _ _)
      | (with_reducible exact LeO.refl _)
      | (with_reducible exact LeO.none _)
      | (with_reducible refine LeO.ite ?_ ?_)
      | (with_reducible refine LeO.bind ?_ (fun _ => ?_))
      | exact ih0 _ _ _
      | exact ih1 _ _ _
      | exact ih2 _ _ _
      | exact ih3 _ _ _
      | exact ih4 _ _ _
      | exact LeO.none _
      | refine LeO.ite ?_ ?_
      | refine LeO.bind ?_ (fun _ => ?_)
    · intro y0 y1 y2
      unfold watchbillref8_Match.j2
      repeat' first
      | (with_reducible exact ih0 _ _ _)
      | (with_reducible exact ih1 _ _ _)
      | (with_reducible exact ih2 _ _ _)
      | (with_reducible exact ih3 _ _ _)
      | (with_reducible exact ih4 _ _ _)
      | (with_reducible exact LeO.refl _)
      | (with_reducible exact LeO.none _)
      | (with_reducible refine LeO.ite ?_ ?_)
      | (with_reducible refine LeO.bind ?_ (fun _ => ?_))
      | exact ih0 _ _ _
      | exact ih1 _ _ _
      | exact ih2 _ _ _
      | exact ih3 _ _ _
      | exact ih4 _ _ _
      | exact LeO.none _
      | refine LeO.ite ?_ ?_
      | refine LeO.bind ?_ (fun _ => ?_)
    · intro y0 y1 y2
      unfold watchbillref8_Match.l1
      repeat' first
      | (with_reducible exact ih0 _ _ _)
      | (with_reducible exact ih1 _ _ _)
      | (with_reducible exact ih2 _ _ _)
      | (with_reducible exact ih3 _ _ _)
      | (with_reducible exact ih4 _ _ _)
      | (with_reducible exact LeO.refl _)
      | (with_reducible exact LeO.none _)
      | (with_reducible refine LeO.ite ?_ ?_)
      | (with_reducible refine LeO.bind ?_ (fun _ => ?_))
      | exact ih0 _ _ _
      | exact ih1 _ _ _
      | exact ih2 _ _ _
      | exact ih3 _ _ _
      | exact ih4 _ _ _
      | exact LeO.none _
      | refine LeO.ite ?_ ?_
      | refine LeO.bind ?_ (fun _ => ?_)
    · intro y0 y1 y2
      unfold watchbillref8_Match.j4
      repeat' first
      | (with_reducible exact ih0 _ _ _)
      | (with_reducible exact ih1 _ _ _)
      | (with_reducible exact ih2 _ _ _)
      | (with_reducible exact ih3 _ _ _)
      | (with_reducible exact ih4 _ _ _)
      | (with_reducible exact LeO.refl _)
      | (with_reducible exact LeO.none _)
      | (with_reducible refine LeO.ite ?_ ?_)
      | (with_reducible refine LeO.bind ?_ (fun _ => ?_))
      | exact ih0 _ _ _
      | exact ih1 _ _ _
      | exact ih2 _ _ _
      | exact ih3 _ _ _
      | exact ih4 _ _ _
      | exact LeO.none _
      | refine LeO.ite ?_ ?_
      | refine LeO.bind ?_ (fun _ => ?_)
theorem watchbillref8_Match.mono : ∀ a0 a1 k, LeO (watchbillref8_Match.f k a0 a1) (watchbillref8_Match.f (k + 1) a0 a1) := by
  intro a0 a1 k
  obtain ⟨ih0, ih1, ih2, ih3, ih4⟩ := watchbillref8_Match.mono_l k
  unfold watchbillref8_Match.f
  repeat' first
      | (with_reducible exact ih0 _ _ _)
      | (with_reducible exact ih1 _ _ _)
      | (with_reducible exact ih2 _ _ _)
      | (with_reducible exact ih3 _ _ _)
      | (with_reducible exact ih4 _ _ _)
      | (with_reducible exact LeO.refl _)
      | (with_reducible exact LeO.none _)
      | (with_reducible refine LeO.ite ?_ ?_)
      | (with_reducible refine LeO.bind ?_ (fun _ => ?_))
      | exact ih0 _ _ _
      | exact ih1 _ _ _
      | exact ih2 _ _ _
      | exact ih3 _ _ _
      | exact ih4 _ _ _
      | exact LeO.none _
      | refine LeO.ite ?_ ?_
      | refine LeO.bind ?_ (fun _ => ?_)
set_option maxHeartbeats 8000000 in
set_option maxRecDepth 100000 in
theorem watchbillref8_Match.calls (k : Nat) (A0 : Option Addr) (c0 : Nat) (l0 : List (S62)) (a1 : Int) (r : Int) (w : World) (hr0 : Kd.C k62 w A0 l0.length l0) (hc0 : l0.length ≤ c0) (h : watchbillref8_Match.f k l0 a1 = some r) :
    Calls Try.prog 16 #[.slice A0 l0.length c0, .int .i64 a1] w fun e w' => e = .returned (.int .i64 r) ∧ Drawn0 w w' := by
  have HR0 := Aside0.mk hr0
  have HC0 := Aside0.mk hc0
  clear hr0 hc0
  have H : (if a1 < 0 then (watchbillref8_Match.j0 k l0 a1 true) else (watchbillref8_Match.j0 k l0 a1 (decide (a1 ≥ (l0.length : Int))))) = some r := h
  clear h
  have HC3 := Aside0.mk H
  clear H
  go_enter Try.func16, Try.ntmps16
  go_upto_region 1 with (fail)
  go_cut [15] (fun v15 wc => ∃ (kq : Nat) (x15_2 : Bool), v15 = .bool x15_2 ∧ Aside0 (watchbillref8_Match.j0 kq l0 a1 x15_2 = some r) ∧ Aside0 (kq ≤ k) ∧ Drawn0 w wc)
  case first =>
    have H := HC3.out
    clear HC3
    by_cases c4 : a1 < 0
    · rw [if_pos c4] at H
      have c4b0 : decide (a1 < 0) = true := decide_eq_true c4
      clear c4
      (first | rw [c4b0] | (simp only [i64_w, i32_w]; rw [c4b0]) | skip)
      have H' := Aside0.mk H
      clear H
      go_wp2
      go_meet
      case rel => exact ⟨_, (true), (by first | rfl | (simp; done) | (simp [*]; done) | (simp [Int.tdiv_eq_ediv_of_nonneg]; done)), H', ⟨by first | omega | exact Nat.le_refl _⟩, by repeat (first | exact Drawn0.refl _ | apply Drawn0.step)⟩
    · rw [if_neg c4] at H
      have c4b0 : decide (a1 < 0) = false := decide_eq_false c4
      clear c4
      (first | rw [c4b0] | (simp only [i64_w, i32_w]; rw [c4b0]) | skip)
      have H' := Aside0.mk H
      clear H
      go_wp2
      go_meet
      case rel => exact ⟨_, (decide (a1 ≥ (l0.length : Int))), (by first | rfl | (simp; done) | (simp [*]; done) | (simp [Int.tdiv_eq_ediv_of_nonneg]; done)), H', ⟨by first | omega | exact Nat.le_refl _⟩, by repeat (first | exact Drawn0.refl _ | apply Drawn0.step)⟩
  case rest =>
    clear HC3
    try clear c1
    try clear p2
    try clear c4
    try clear c4b0
    obtain ⟨kq, x15_2, rfl, HA, HJ2, ⟨mc2, rfl⟩⟩ := hcut
    cases kq with
    | zero => exact absurd HA.out (by simp [watchbillref8_Match.j0])
    | succ kj2 =>
      have H := HA.out
      clear HA
      simp only [watchbillref8_Match.j0] at H
      by_cases c5 : x15_2 = true
      · subst c5
        have H1 : (some (-1)) = some r := by rw [if_pos rfl] at H; exact H
        clear H
        have H := H1
        clear H1
        obtain rfl := Option.some.inj H
        go_wp2
        go_ret
        exact ⟨by first | rfl | (simp; done) | (simp [*]; done) | (simp [Int.tdiv_eq_ediv_of_nonneg]; done), by repeat (first | exact Drawn0.refl _ | apply Drawn0.step)⟩
      · replace c5 := Bool.eq_false_iff.mpr c5
        subst c5
        have H1 : (if 0 ≤ a1 then (if a1 < (l0.length : Int) then (if ((rd_T62 l0 a1).f0) = 8 then (watchbillref8_Match.l0 kj2 l0 0 a1) else (if ((rd_T62 l0 a1).f0) = 9 then (watchbillref8_Match.l1 kj2 l0 0 a1) else (some (-1)))) else (none)) else (none)) = some r := by rw [if_neg (show ¬ (false = true) by decide)] at H; exact H
        clear H
        have H := H1
        clear H1
        by_cases c6 : 0 ≤ a1
        · rw [if_pos c6] at H
          have c6b0 : decide (0 ≤ a1) = true := decide_eq_true c6
          clear c6
          by_cases c7 : a1 < (l0.length : Int)
          · rw [if_pos c7] at H
            have c7b0 : decide (a1 < (l0.length : Int)) = true := decide_eq_true c7
            clear c7
            by_cases c8 : ((rd_T62 l0 a1).f0) = 8
            · rw [if_pos c8] at H
              have c8b0 : (((rd_T62 l0 a1).f0) == 8) = true := beq_iff_eq.mpr c8
              have c8b1 : (((rd_T62 l0 a1).f0) != 8) = false := bne_eq_false_iff_eq.mpr c8
              clear c8
              have H' := Aside0.mk H
              clear H
              have p291 : 0 ≤ (a1 : Int) := of_decide_eq_true (by first | (with_reducible assumption) | assumption)
              have q291 : a1 < (l0.length : Int) := of_decide_eq_true (by first | (with_reducible assumption) | assumption)
              obtain ⟨ad291, A291_4, c291_4, e291, hx291_0, hx291_1, hx291_2, hx291_3, hx291_4, hl291_4, hi291_4⟩ := at_T62 HR0.out a1 p291 q291
              cases e291
              have HR291_4 := Aside0.mk hi291_4
              have HC291_4 := Aside0.mk hl291_4
              clear hi291_4 hl291_4
              replace p291 := eq_true p291
              replace q291 := eq_true q291
              go_wp2
              go_loopg [5, 6] kj2 (fun kq v5 v6 w' => ∃ (x5_2 : Int) (x6_2 : Int), v5 = .int .i64 x5_2 ∧ v6 = .int .i64 x6_2 ∧ Aside0 (watchbillref8_Match.l0 kq l0 x5_2 x6_2 = some r) ∧ Aside0 (kq ≤ kj2) ∧ Drawn0 w w')
              case atStart => exact ⟨(0), (a1), (by first | rfl | (simp; done) | (simp [*]; done) | (simp [Int.tdiv_eq_ediv_of_nonneg]; done)), (by first | rfl | (simp; done) | (simp [*]; done) | (simp [Int.tdiv_eq_ediv_of_nonneg]; done)), H', ⟨Nat.le_refl _⟩, by repeat (first | exact Drawn0.refl _ | apply Drawn0.step)⟩
              case round =>
                clear H'
                try clear c1
                try clear c2
                try clear p2
                try clear q2
                try clear hx2
                try clear c4
                try clear c4b0
                try clear c5
                try clear c6
                try clear c6b0
                try clear c7
                try clear c7b0
                try clear c8
                try clear c8b0
                try clear c8b1
                try clear hx291_0
                try clear hx291_1
                try clear hx291_2
                try clear hx291_3
                try clear hx291_4
                try clear p2
                try clear p291
                try clear q291
                obtain ⟨x5_2, x6_2, rfl, rfl, HA, HK2, ⟨m2, rfl⟩⟩ := hrel
                cases gk with
                | zero => exact absurd HA.out (by simp [watchbillref8_Match.l0])
                | succ k2 =>
                  have H := HA.out
                  clear HA
                  simp only [watchbillref8_Match.l0] at H
                  by_cases c9 : x6_2 < (l0.length : Int)
                  · rw [if_pos c9] at H
                    have c9b0 : decide (x6_2 < (l0.length : Int)) = true := decide_eq_true c9
                    clear c9
                    by_cases c10 : 0 ≤ x6_2
                    · rw [if_pos c10] at H
                      have c10b0 : decide (0 ≤ x6_2) = true := decide_eq_true c10
                      clear c10
                      have HC11 := Aside0.mk H
                      clear H
                      have p292 : 0 ≤ (x6_2 : Int) := of_decide_eq_true (by first | (with_reducible assumption) | assumption)
                      have q292 : x6_2 < (l0.length : Int) := of_decide_eq_true (by first | (with_reducible assumption) | assumption)
                      obtain ⟨ad292, A292_4, c292_4, e292, hx292_0, hx292_1, hx292_2, hx292_3, hx292_4, hl292_4, hi292_4⟩ := at_T62 HR0.out x6_2 p292 q292
                      obtain rfl : ad291 = ad292 := (by injection e292)
                      have HR292_4 := Aside0.mk hi292_4
                      have HC292_4 := Aside0.mk hl292_4
                      clear hi292_4 hl292_4
                      replace p292 := eq_true p292
                      replace q292 := eq_true q292
                      go_upto_if 35 with (fail)
                      go_cut [5] (fun v5 wc => ∃ (kq : Nat) (x5_10 : Int), v5 = .int .i64 x5_10 ∧ Aside0 (watchbillref8_Match.j2 kq l0 x5_10 x6_2 = some r) ∧ Aside0 (kq ≤ k2) ∧ Drawn0 w wc)
                      case first =>
                        have H := HC11.out
                        clear HC11
                        by_cases c12 : ((rd_T62 l0 x6_2).f0) = 8
                        · rw [if_pos c12] at H
                          have c12b0 : (((rd_T62 l0 x6_2).f0) == 8) = true := beq_iff_eq.mpr c12
                          have c12b1 : (((rd_T62 l0 x6_2).f0) != 8) = false := bne_eq_false_iff_eq.mpr c12
                          clear c12
                          (first | rw [c12b0] | (simp only [i64_w, i32_w]; rw [c12b0]) | skip)
                          have H' := Aside0.mk H
                          clear H
                          go_wp2
                          go_meet
                          case rel => exact ⟨_, (wrap64 (x5_2 + 1)), (by first | rfl | (simp; done) | (simp [*]; done) | (simp [Int.tdiv_eq_ediv_of_nonneg]; done)), H', ⟨by have := HJ2.out; have := HK2.out; first | omega | exact Nat.le_refl _⟩, by repeat (first | exact Drawn0.refl _ | apply Drawn0.step)⟩
                        · rw [if_neg c12] at H
                          have c12b0 : (((rd_T62 l0 x6_2).f0) == 8) = false := beq_eq_false_iff_ne.mpr c12
                          have c12b1 : (((rd_T62 l0 x6_2).f0) != 8) = true := bne_iff_ne.mpr c12
                          (first | rw [c12b0] | (simp only [i64_w, i32_w]; rw [c12b0]) | skip)
                          have H' := Aside0.mk H
                          clear H
                          go_wp2
                          go_meet
                          case rel => exact ⟨_, (x5_2), (by first | rfl | (simp; done) | (simp [*]; done) | (simp [Int.tdiv_eq_ediv_of_nonneg]; done)), H', ⟨by have := HJ2.out; have := HK2.out; first | omega | exact Nat.le_refl _⟩, by repeat (first | exact Drawn0.refl _ | apply Drawn0.step)⟩
                      case rest =>
                        clear HC11
                        try clear c1
                        try clear c2
                        try clear p2
                        try clear q2
                        try clear hx2
                        try clear c4
                        try clear c4b0
                        try clear c5
                        try clear c6
                        try clear c6b0
                        try clear p6
                        try clear c7
                        try clear c7b0
                        try clear c8
                        try clear c8b0
                        try clear c8b1
                        try clear c9
                        try clear c9b0
                        try clear c10
                        try clear c10b0
                        try clear c12
                        try clear c12b0
                        try clear c12b1
                        try clear hx291_0
                        try clear hx291_1
                        try clear hx291_2
                        try clear hx291_3
                        try clear hx291_4
                        try clear hx292_0
                        try clear hx292_1
                        try clear hx292_2
                        try clear hx292_3
                        try clear hx292_4
                        try clear p2
                        try clear p291
                        try clear p292
                        try clear q2
                        try clear q291
                        try clear q292
                        obtain ⟨kq, x5_10, rfl, HA, HJ10, ⟨mc10, rfl⟩⟩ := hcut
                        cases kq with
                        | zero => exact absurd HA.out (by simp [watchbillref8_Match.j2])
                        | succ kj10 =>
                          have H := HA.out
                          clear HA
                          simp only [watchbillref8_Match.j2] at H
                          by_cases c13 : 0 ≤ x6_2
                          · rw [if_pos c13] at H
                            have c13b0 : decide (0 ≤ x6_2) = true := decide_eq_true c13
                            clear c13
                            by_cases c14 : x6_2 < (l0.length : Int)
                            · rw [if_pos c14] at H
                              have c14b0 : decide (x6_2 < (l0.length : Int)) = true := decide_eq_true c14
                              clear c14
                              by_cases c15 : ((rd_T62 l0 x6_2).f0) = 9
                              · rw [if_pos c15] at H
                                have c15b0 : (((rd_T62 l0 x6_2).f0) == 9) = true := beq_iff_eq.mpr c15
                                have c15b1 : (((rd_T62 l0 x6_2).f0) != 9) = false := bne_eq_false_iff_eq.mpr c15
                                clear c15
                                by_cases c16 : (wrap64 (x5_10 - 1)) = 0
                                · rw [if_pos c16] at H
                                  have c16b0 : ((wrap64 (x5_10 - 1)) == 0) = true := beq_iff_eq.mpr c16
                                  have c16b1 : ((wrap64 (x5_10 - 1)) != 0) = false := bne_eq_false_iff_eq.mpr c16
                                  clear c16
                                  obtain rfl := Option.some.inj H
                                  have p293 : 0 ≤ (x6_2 : Int) := of_decide_eq_true (by first | (with_reducible assumption) | assumption)
                                  have q293 : x6_2 < (l0.length : Int) := of_decide_eq_true (by first | (with_reducible assumption) | assumption)
                                  obtain ⟨ad293, A293_4, c293_4, e293, hx293_0, hx293_1, hx293_2, hx293_3, hx293_4, hl293_4, hi293_4⟩ := at_T62 HR0.out x6_2 p293 q293
                                  obtain rfl : ad291 = ad293 := (by injection e293)
                                  have HR293_4 := Aside0.mk hi293_4
                                  have HC293_4 := Aside0.mk hl293_4
                                  clear hi293_4 hl293_4
                                  replace p293 := eq_true p293
                                  replace q293 := eq_true q293
                                  go_wp2
                                  go_ret
                                  exact ⟨by first | rfl | (simp; done) | (simp [*]; done) | (simp [Int.tdiv_eq_ediv_of_nonneg]; done), by repeat (first | exact Drawn0.refl _ | apply Drawn0.step)⟩
                                · rw [if_neg c16] at H
                                  have c16b0 : ((wrap64 (x5_10 - 1)) == 0) = false := beq_eq_false_iff_ne.mpr c16
                                  have c16b1 : ((wrap64 (x5_10 - 1)) != 0) = true := bne_iff_ne.mpr c16
                                  have H' := Aside0.mk H
                                  clear H
                                  have p293 : 0 ≤ (x6_2 : Int) := of_decide_eq_true (by first | (with_reducible assumption) | assumption)
                                  have q293 : x6_2 < (l0.length : Int) := of_decide_eq_true (by first | (with_reducible assumption) | assumption)
                                  obtain ⟨ad293, A293_4, c293_4, e293, hx293_0, hx293_1, hx293_2, hx293_3, hx293_4, hl293_4, hi293_4⟩ := at_T62 HR0.out x6_2 p293 q293
                                  obtain rfl : ad291 = ad293 := (by injection e293)
                                  have HR293_4 := Aside0.mk hi293_4
                                  have HC293_4 := Aside0.mk hl293_4
                                  clear hi293_4 hl293_4
                                  replace p293 := eq_true p293
                                  replace q293 := eq_true q293
                                  go_wp2
                                  go_roundg kj10
                                  case measure => have := HJ2.out; have := HK2.out; have := HJ10.out; omega
                                  case rel => exact ⟨(wrap64 (x5_10 - 1)), (wrap64 (x6_2 + 1)), (by first | rfl | (simp; done) | (simp [*]; done) | (simp [Int.tdiv_eq_ediv_of_nonneg]; done)), (by first | rfl | (simp; done) | (simp [*]; done) | (simp [Int.tdiv_eq_ediv_of_nonneg]; done)), H', ⟨by have := HJ2.out; have := HK2.out; have := HJ10.out; omega⟩, by repeat (first | exact Drawn0.refl _ | apply Drawn0.step)⟩
                              · rw [if_neg c15] at H
                                have c15b0 : (((rd_T62 l0 x6_2).f0) == 9) = false := beq_eq_false_iff_ne.mpr c15
                                have c15b1 : (((rd_T62 l0 x6_2).f0) != 9) = true := bne_iff_ne.mpr c15
                                have H' := Aside0.mk H
                                clear H
                                have p293 : 0 ≤ (x6_2 : Int) := of_decide_eq_true (by first | (with_reducible assumption) | assumption)
                                have q293 : x6_2 < (l0.length : Int) := of_decide_eq_true (by first | (with_reducible assumption) | assumption)
                                obtain ⟨ad293, A293_4, c293_4, e293, hx293_0, hx293_1, hx293_2, hx293_3, hx293_4, hl293_4, hi293_4⟩ := at_T62 HR0.out x6_2 p293 q293
                                obtain rfl : ad291 = ad293 := (by injection e293)
                                have HR293_4 := Aside0.mk hi293_4
                                have HC293_4 := Aside0.mk hl293_4
                                clear hi293_4 hl293_4
                                replace p293 := eq_true p293
                                replace q293 := eq_true q293
                                go_wp2
                                go_roundg kj10
                                case measure => have := HJ2.out; have := HK2.out; have := HJ10.out; omega
                                case rel => exact ⟨(x5_10), (wrap64 (x6_2 + 1)), (by first | rfl | (simp; done) | (simp [*]; done) | (simp [Int.tdiv_eq_ediv_of_nonneg]; done)), (by first | rfl | (simp; done) | (simp [*]; done) | (simp [Int.tdiv_eq_ediv_of_nonneg]; done)), H', ⟨by have := HJ2.out; have := HK2.out; have := HJ10.out; omega⟩, by repeat (first | exact Drawn0.refl _ | apply Drawn0.step)⟩
                            · rw [if_neg c14] at H
                              exact absurd H (by simp)
                          · rw [if_neg c13] at H
                            exact absurd H (by simp)
                    · rw [if_neg c10] at H
                      exact absurd H (by simp)
                  · rw [if_neg c9] at H
                    have c9b0 : decide (x6_2 < (l0.length : Int)) = false := decide_eq_false c9
                    clear c9
                    obtain rfl := Option.some.inj H
                    go_wp2
                    go_ret
                    exact ⟨by first | rfl | (simp; done) | (simp [*]; done) | (simp [Int.tdiv_eq_ediv_of_nonneg]; done), by repeat (first | exact Drawn0.refl _ | apply Drawn0.step)⟩
            · rw [if_neg c8] at H
              have c8b0 : (((rd_T62 l0 a1).f0) == 8) = false := beq_eq_false_iff_ne.mpr c8
              have c8b1 : (((rd_T62 l0 a1).f0) != 8) = true := bne_iff_ne.mpr c8
              by_cases c17 : ((rd_T62 l0 a1).f0) = 9
              · rw [if_pos c17] at H
                have c17b0 : (((rd_T62 l0 a1).f0) == 9) = true := beq_iff_eq.mpr c17
                have c17b1 : (((rd_T62 l0 a1).f0) != 9) = false := bne_eq_false_iff_eq.mpr c17
                clear c17
                have H' := Aside0.mk H
                clear H
                have p291 : 0 ≤ (a1 : Int) := of_decide_eq_true (by first | (with_reducible assumption) | assumption)
                have q291 : a1 < (l0.length : Int) := of_decide_eq_true (by first | (with_reducible assumption) | assumption)
                obtain ⟨ad291, A291_4, c291_4, e291, hx291_0, hx291_1, hx291_2, hx291_3, hx291_4, hl291_4, hi291_4⟩ := at_T62 HR0.out a1 p291 q291
                cases e291
                have HR291_4 := Aside0.mk hi291_4
                have HC291_4 := Aside0.mk hl291_4
                clear hi291_4 hl291_4
                replace p291 := eq_true p291
                replace q291 := eq_true q291
                go_wp2
                go_loopg [5, 7] kj2 (fun kq v5 v7 w' => ∃ (x5_2 : Int) (x7_2 : Int), v5 = .int .i64 x5_2 ∧ v7 = .int .i64 x7_2 ∧ Aside0 (watchbillref8_Match.l1 kq l0 x5_2 x7_2 = some r) ∧ Aside0 (kq ≤ kj2) ∧ Drawn0 w w')
                case atStart => exact ⟨(0), (a1), (by first | rfl | (simp; done) | (simp [*]; done) | (simp [Int.tdiv_eq_ediv_of_nonneg]; done)), (by first | rfl | (simp; done) | (simp [*]; done) | (simp [Int.tdiv_eq_ediv_of_nonneg]; done)), H', ⟨Nat.le_refl _⟩, by repeat (first | exact Drawn0.refl _ | apply Drawn0.step)⟩
                case round =>
                  clear H'
                  try clear c1
                  try clear c2
                  try clear p2
                  try clear q2
                  try clear hx2
                  try clear c4
                  try clear c4b0
                  try clear c5
                  try clear c6
                  try clear c6b0
                  try clear p6
                  try clear c7
                  try clear c7b0
                  try clear c8
                  try clear c8b0
                  try clear c8b1
                  try clear c9
                  try clear c9b0
                  try clear c10
                  try clear c10b0
                  try clear c12
                  try clear c12b0
                  try clear c12b1
                  try clear c13
                  try clear c13b0
                  try clear c14
                  try clear c14b0
                  try clear c15
                  try clear c15b0
                  try clear c15b1
                  try clear c16
                  try clear c16b0
                  try clear c16b1
                  try clear c17
                  try clear c17b0
                  try clear c17b1
                  try clear hx291_0
                  try clear hx291_1
                  try clear hx291_2
                  try clear hx291_3
                  try clear hx291_4
                  try clear hx292_0
                  try clear hx292_1
                  try clear hx292_2
                  try clear hx292_3
                  try clear hx292_4
                  try clear hx293_0
                  try clear hx293_1
                  try clear hx293_2
                  try clear hx293_3
                  try clear hx293_4
                  try clear p2
                  try clear p291
                  try clear p292
                  try clear p293
                  try clear p6
                  try clear q2
                  try clear q291
                  try clear q292
                  try clear q293
                  obtain ⟨x5_2, x7_2, rfl, rfl, HA, HK2, ⟨m2, rfl⟩⟩ := hrel
                  cases gk with
                  | zero => exact absurd HA.out (by simp [watchbillref8_Match.l1])
                  | succ k2 =>
                    have H := HA.out
                    clear HA
                    simp only [watchbillref8_Match.l1] at H
                    by_cases c18 : x7_2 ≥ 0
                    · rw [if_pos c18] at H
                      have c18b0 : decide (0 ≤ x7_2) = true := decide_eq_true c18
                      clear c18
                      by_cases c19 : 0 ≤ x7_2
                      · rw [if_pos c19] at H
                        have c19b0 : decide (0 ≤ x7_2) = true := decide_eq_true c19
                        clear c19
                        by_cases c20 : x7_2 < (l0.length : Int)
                        · rw [if_pos c20] at H
                          have c20b0 : decide (x7_2 < (l0.length : Int)) = true := decide_eq_true c20
                          clear c20
                          have HC21 := Aside0.mk H
                          clear H
                          have p294 : 0 ≤ (x7_2 : Int) := of_decide_eq_true (by first | (with_reducible assumption) | assumption)
                          have q294 : x7_2 < (l0.length : Int) := of_decide_eq_true (by first | (with_reducible assumption) | assumption)
                          obtain ⟨ad294, A294_4, c294_4, e294, hx294_0, hx294_1, hx294_2, hx294_3, hx294_4, hl294_4, hi294_4⟩ := at_T62 HR0.out x7_2 p294 q294
                          obtain rfl : ad291 = ad294 := (by injection e294)
                          have HR294_4 := Aside0.mk hi294_4
                          have HC294_4 := Aside0.mk hl294_4
                          clear hi294_4 hl294_4
                          replace p294 := eq_true p294
                          replace q294 := eq_true q294
                          go_upto_if 61 with (fail)
                          go_cut [5] (fun v5 wc => ∃ (kq : Nat) (x5_20 : Int), v5 = .int .i64 x5_20 ∧ Aside0 (watchbillref8_Match.j4 kq l0 x5_20 x7_2 = some r) ∧ Aside0 (kq ≤ k2) ∧ Drawn0 w wc)
                          case first =>
                            have H := HC21.out
                            clear HC21
                            by_cases c22 : ((rd_T62 l0 x7_2).f0) = 9
                            · rw [if_pos c22] at H
                              have c22b0 : (((rd_T62 l0 x7_2).f0) == 9) = true := beq_iff_eq.mpr c22
                              have c22b1 : (((rd_T62 l0 x7_2).f0) != 9) = false := bne_eq_false_iff_eq.mpr c22
                              clear c22
                              (first | rw [c22b0] | (simp only [i64_w, i32_w]; rw [c22b0]) | skip)
                              have H' := Aside0.mk H
                              clear H
                              go_wp2
                              go_meet
                              case rel => exact ⟨_, (wrap64 (x5_2 + 1)), (by first | rfl | (simp; done) | (simp [*]; done) | (simp [Int.tdiv_eq_ediv_of_nonneg]; done)), H', ⟨by have := HJ2.out; have := HK2.out; first | omega | exact Nat.le_refl _⟩, by repeat (first | exact Drawn0.refl _ | apply Drawn0.step)⟩
                            · rw [if_neg c22] at H
                              have c22b0 : (((rd_T62 l0 x7_2).f0) == 9) = false := beq_eq_false_iff_ne.mpr c22
                              have c22b1 : (((rd_T62 l0 x7_2).f0) != 9) = true := bne_iff_ne.mpr c22
                              (first | rw [c22b0] | (simp only [i64_w, i32_w]; rw [c22b0]) | skip)
                              have H' := Aside0.mk H
                              clear H
                              go_wp2
                              go_meet
                              case rel => exact ⟨_, (x5_2), (by first | rfl | (simp; done) | (simp [*]; done) | (simp [Int.tdiv_eq_ediv_of_nonneg]; done)), H', ⟨by have := HJ2.out; have := HK2.out; first | omega | exact Nat.le_refl _⟩, by repeat (first | exact Drawn0.refl _ | apply Drawn0.step)⟩
                          case rest =>
                            clear HC21
                            try clear c1
                            try clear c2
                            try clear p2
                            try clear q2
                            try clear hx2
                            try clear c4
                            try clear c4b0
                            try clear c5
                            try clear c6
                            try clear c6b0
                            try clear p6
                            try clear c7
                            try clear c7b0
                            try clear c8
                            try clear c8b0
                            try clear c8b1
                            try clear c9
                            try clear c9b0
                            try clear c10
                            try clear c10b0
                            try clear c12
                            try clear c12b0
                            try clear c12b1
                            try clear c13
                            try clear c13b0
                            try clear c14
                            try clear c14b0
                            try clear c15
                            try clear c15b0
                            try clear c15b1
                            try clear c16
                            try clear c16b0
                            try clear c16b1
                            try clear c17
                            try clear c17b0
                            try clear c17b1
                            try clear c18
                            try clear c18b0
                            try clear c19
                            try clear c19b0
                            try clear c20
                            try clear c20b0
                            try clear c22
                            try clear c22b0
                            try clear c22b1
                            try clear hx291_0
                            try clear hx291_1
                            try clear hx291_2
                            try clear hx291_3
                            try clear hx291_4
                            try clear hx292_0
                            try clear hx292_1
                            try clear hx292_2
                            try clear hx292_3
                            try clear hx292_4
                            try clear hx293_0
                            try clear hx293_1
                            try clear hx293_2
                            try clear hx293_3
                            try clear hx293_4
                            try clear hx294_0
                            try clear hx294_1
                            try clear hx294_2
                            try clear hx294_3
                            try clear hx294_4
                            try clear p2
                            try clear p291
                            try clear p292
                            try clear p293
                            try clear p294
                            try clear p6
                            try clear q2
                            try clear q291
                            try clear q292
                            try clear q293
                            try clear q294
                            obtain ⟨kq, x5_20, rfl, HA, HJ20, ⟨mc20, rfl⟩⟩ := hcut
                            cases kq with
                            | zero => exact absurd HA.out (by simp [watchbillref8_Match.j4])
                            | succ kj20 =>
                              have H := HA.out
                              clear HA
                              simp only [watchbillref8_Match.j4] at H
                              by_cases c23 : 0 ≤ x7_2
                              · rw [if_pos c23] at H
                                have c23b0 : decide (0 ≤ x7_2) = true := decide_eq_true c23
                                clear c23
                                by_cases c24 : x7_2 < (l0.length : Int)
                                · rw [if_pos c24] at H
                                  have c24b0 : decide (x7_2 < (l0.length : Int)) = true := decide_eq_true c24
                                  clear c24
                                  by_cases c25 : ((rd_T62 l0 x7_2).f0) = 8
                                  · rw [if_pos c25] at H
                                    have c25b0 : (((rd_T62 l0 x7_2).f0) == 8) = true := beq_iff_eq.mpr c25
                                    have c25b1 : (((rd_T62 l0 x7_2).f0) != 8) = false := bne_eq_false_iff_eq.mpr c25
                                    clear c25
                                    by_cases c26 : (wrap64 (x5_20 - 1)) = 0
                                    · rw [if_pos c26] at H
                                      have c26b0 : ((wrap64 (x5_20 - 1)) == 0) = true := beq_iff_eq.mpr c26
                                      have c26b1 : ((wrap64 (x5_20 - 1)) != 0) = false := bne_eq_false_iff_eq.mpr c26
                                      clear c26
                                      obtain rfl := Option.some.inj H
                                      have p295 : 0 ≤ (x7_2 : Int) := of_decide_eq_true (by first | (with_reducible assumption) | assumption)
                                      have q295 : x7_2 < (l0.length : Int) := of_decide_eq_true (by first | (with_reducible assumption) | assumption)
                                      obtain ⟨ad295, A295_4, c295_4, e295, hx295_0, hx295_1, hx295_2, hx295_3, hx295_4, hl295_4, hi295_4⟩ := at_T62 HR0.out x7_2 p295 q295
                                      obtain rfl : ad291 = ad295 := (by injection e295)
                                      have HR295_4 := Aside0.mk hi295_4
                                      have HC295_4 := Aside0.mk hl295_4
                                      clear hi295_4 hl295_4
                                      replace p295 := eq_true p295
                                      replace q295 := eq_true q295
                                      go_wp2
                                      go_ret
                                      exact ⟨by first | rfl | (simp; done) | (simp [*]; done) | (simp [Int.tdiv_eq_ediv_of_nonneg]; done), by repeat (first | exact Drawn0.refl _ | apply Drawn0.step)⟩
                                    · rw [if_neg c26] at H
                                      have c26b0 : ((wrap64 (x5_20 - 1)) == 0) = false := beq_eq_false_iff_ne.mpr c26
                                      have c26b1 : ((wrap64 (x5_20 - 1)) != 0) = true := bne_iff_ne.mpr c26
                                      have H' := Aside0.mk H
                                      clear H
                                      have p295 : 0 ≤ (x7_2 : Int) := of_decide_eq_true (by first | (with_reducible assumption) | assumption)
                                      have q295 : x7_2 < (l0.length : Int) := of_decide_eq_true (by first | (with_reducible assumption) | assumption)
                                      obtain ⟨ad295, A295_4, c295_4, e295, hx295_0, hx295_1, hx295_2, hx295_3, hx295_4, hl295_4, hi295_4⟩ := at_T62 HR0.out x7_2 p295 q295
                                      obtain rfl : ad291 = ad295 := (by injection e295)
                                      have HR295_4 := Aside0.mk hi295_4
                                      have HC295_4 := Aside0.mk hl295_4
                                      clear hi295_4 hl295_4
                                      replace p295 := eq_true p295
                                      replace q295 := eq_true q295
                                      go_wp2
                                      go_roundg kj20
                                      case measure => have := HJ2.out; have := HK2.out; have := HJ20.out; omega
                                      case rel => exact ⟨(wrap64 (x5_20 - 1)), (wrap64 (x7_2 - 1)), (by first | rfl | (simp; done) | (simp [*]; done) | (simp [Int.tdiv_eq_ediv_of_nonneg]; done)), (by first | rfl | (simp; done) | (simp [*]; done) | (simp [Int.tdiv_eq_ediv_of_nonneg]; done)), H', ⟨by have := HJ2.out; have := HK2.out; have := HJ20.out; omega⟩, by repeat (first | exact Drawn0.refl _ | apply Drawn0.step)⟩
                                  · rw [if_neg c25] at H
                                    have c25b0 : (((rd_T62 l0 x7_2).f0) == 8) = false := beq_eq_false_iff_ne.mpr c25
                                    have c25b1 : (((rd_T62 l0 x7_2).f0) != 8) = true := bne_iff_ne.mpr c25
                                    have H' := Aside0.mk H
                                    clear H
                                    have p295 : 0 ≤ (x7_2 : Int) := of_decide_eq_true (by first | (with_reducible assumption) | assumption)
                                    have q295 : x7_2 < (l0.length : Int) := of_decide_eq_true (by first | (with_reducible assumption) | assumption)
                                    obtain ⟨ad295, A295_4, c295_4, e295, hx295_0, hx295_1, hx295_2, hx295_3, hx295_4, hl295_4, hi295_4⟩ := at_T62 HR0.out x7_2 p295 q295
                                    obtain rfl : ad291 = ad295 := (by injection e295)
                                    have HR295_4 := Aside0.mk hi295_4
                                    have HC295_4 := Aside0.mk hl295_4
                                    clear hi295_4 hl295_4
                                    replace p295 := eq_true p295
                                    replace q295 := eq_true q295
                                    go_wp2
                                    go_roundg kj20
                                    case measure => have := HJ2.out; have := HK2.out; have := HJ20.out; omega
                                    case rel => exact ⟨(x5_20), (wrap64 (x7_2 - 1)), (by first | rfl | (simp; done) | (simp [*]; done) | (simp [Int.tdiv_eq_ediv_of_nonneg]; done)), (by first | rfl | (simp; done) | (simp [*]; done) | (simp [Int.tdiv_eq_ediv_of_nonneg]; done)), H', ⟨by have := HJ2.out; have := HK2.out; have := HJ20.out; omega⟩, by repeat (first | exact Drawn0.refl _ | apply Drawn0.step)⟩
                                · rw [if_neg c24] at H
                                  exact absurd H (by simp)
                              · rw [if_neg c23] at H
                                exact absurd H (by simp)
                        · rw [if_neg c20] at H
                          exact absurd H (by simp)
                      · rw [if_neg c19] at H
                        exact absurd H (by simp)
                    · rw [if_neg c18] at H
                      have c18b0 : decide (0 ≤ x7_2) = false := decide_eq_false c18
                      clear c18
                      obtain rfl := Option.some.inj H
                      go_wp2
                      go_ret
                      exact ⟨by first | rfl | (simp; done) | (simp [*]; done) | (simp [Int.tdiv_eq_ediv_of_nonneg]; done), by repeat (first | exact Drawn0.refl _ | apply Drawn0.step)⟩
              · rw [if_neg c17] at H
                have c17b0 : (((rd_T62 l0 a1).f0) == 9) = false := beq_eq_false_iff_ne.mpr c17
                have c17b1 : (((rd_T62 l0 a1).f0) != 9) = true := bne_iff_ne.mpr c17
                obtain rfl := Option.some.inj H
                have p291 : 0 ≤ (a1 : Int) := of_decide_eq_true (by first | (with_reducible assumption) | assumption)
                have q291 : a1 < (l0.length : Int) := of_decide_eq_true (by first | (with_reducible assumption) | assumption)
                obtain ⟨ad291, A291_4, c291_4, e291, hx291_0, hx291_1, hx291_2, hx291_3, hx291_4, hl291_4, hi291_4⟩ := at_T62 HR0.out a1 p291 q291
                cases e291
                have HR291_4 := Aside0.mk hi291_4
                have HC291_4 := Aside0.mk hl291_4
                clear hi291_4 hl291_4
                replace p291 := eq_true p291
                replace q291 := eq_true q291
                go_wp2
                go_ret
                exact ⟨by first | rfl | (simp; done) | (simp [*]; done) | (simp [Int.tdiv_eq_ediv_of_nonneg]; done), by repeat (first | exact Drawn0.refl _ | apply Drawn0.step)⟩
          · rw [if_neg c7] at H
            exact absurd H (by simp)
        · rw [if_neg c6] at H
          exact absurd H (by simp)

end Go.Proofs.Ytjnhahdelipebaa.XA
