-- PRINTED by print.py (a twelfth state) out of the translation. Not trusted: Lean checks it.
import Derived.Test.YthdmomaephiodaaXAx0
import Derived.Test.YthdmomaephiodaaXAx6
namespace Go.Proofs.Ythdmomaephiodaa.XA
open Go.RowKit Go.Proofs.YthdmomaephiodaaW.PrintWords Go.Proofs.YthdmomaephiodaaW.PrintLast Go.Proofs.YthdmomaephiodaaW.PrintMore
attribute [local go_sem] max2_int min2_int max_two min_two max_three min_three max_four min_four   -- for this text's walks alone
set_option linter.unusedVariables false
set_option linter.unusedSimpArgs false

/-! ### watchbillref8_CheckSet: function 8 -/
mutual
def watchbillref8_CheckSet.j0 : Nat → Bool → Int → List (S63) → List (S60) → Option (Int × Int)
  | 0, _, _, _, _ => none
  | k + 1, x15, x200000, x200001, x200002 => if x15 = true then (some (0, 1)) else (if (x200001.length : Int) > 8 then (watchbillref8_CheckSet.j1 k true x200000 x200001 x200002) else (if (x200002.length : Int) < 1 then (watchbillref8_CheckSet.j1 k true x200000 x200001 x200002) else (watchbillref8_CheckSet.j1 k (decide ((x200002.length : Int) > 12)) x200000 x200001 x200002)))
def watchbillref8_CheckSet.j1 : Nat → Bool → Int → List (S63) → List (S60) → Option (Int × Int)
  | 0, _, _, _, _ => none
  | k + 1, x31, x200000, x200001, x200002 => if x31 = true then (some (0, 18)) else (watchbillref8_CheckSet.l0 k 0 x200000 x200001 x200002)
def watchbillref8_CheckSet.l0 : Nat → Int → Int → List (S63) → List (S60) → Option (Int × Int)
  | 0, _, _, _, _ => none
  | k + 1, x4, x200000, x200001, x200002 => if x4 < (x200001.length : Int) then (if 0 ≤ x4 then (if ((rd_T63 x200001 x4).f0) < 0 then (some (0, 1)) else (if ((rd_T63 x200001 x4).f0) > 16 then (some (0, 1)) else (if ((rd_T63 x200001 x4).f1) < (-1) then (some (0, 1)) else (if ((rd_T63 x200001 x4).f1) ≥ (x200002.length : Int) then (some (0, 1)) else (watchbillref8_CheckSet.l0 k (wrap64 (x4 + 1)) x200000 x200001 x200002))))) else (none)) else (watchbillref8_CheckSet.l1 k 0 x200000 x200001 x200002)
def watchbillref8_CheckSet.l1 : Nat → Int → Int → List (S63) → List (S60) → Option (Int × Int)
  | 0, _, _, _, _ => none
  | k + 1, x6, x200000, x200001, x200002 => if x6 < (x200002.length : Int) then ((watchbillref8_checkTask.f k x200000 x200001 x200002 x6).bind fun t202 => (if t202 = 0 then (watchbillref8_CheckSet.l1 k (wrap64 (x6 + 1)) x200000 x200001 x200002) else (some (x6, t202)))) else (some (0, 0))
end
def watchbillref8_CheckSet.f (k : Nat) (a0_0 : Int) (l0_1 : List (S63)) (l0_2 : List (S60)) : Option (Int × Int) := if a0_0 < 0 then (watchbillref8_CheckSet.j0 k true a0_0 l0_1 l0_2) else (watchbillref8_CheckSet.j0 k (decide (a0_0 > 8)) a0_0 l0_1 l0_2)
theorem watchbillref8_CheckSet.mono_l : ∀ k, (∀ y0 y1 y2 y3, LeO (watchbillref8_CheckSet.j0 k y0 y1 y2 y3) (watchbillref8_CheckSet.j0 (k + 1) y0 y1 y2 y3)) ∧ (∀ y0 y1 y2 y3, LeO (watchbillref8_CheckSet.j1 k y0 y1 y2 y3) (watchbillref8_CheckSet.j1 (k + 1) y0 y1 y2 y3)) ∧ (∀ y0 y1 y2 y3, LeO (watchbillref8_CheckSet.l0 k y0 y1 y2 y3) (watchbillref8_CheckSet.l0 (k + 1) y0 y1 y2 y3)) ∧ (∀ y0 y1 y2 y3, LeO (watchbillref8_CheckSet.l1 k y0 y1 y2 y3) (watchbillref8_CheckSet.l1 (k + 1) y0 y1 y2 y3))
  | 0 => ⟨fun _ _ _ _ r h => by simp [watchbillref8_CheckSet.j0] at h, fun _ _ _ _ r h => by simp [watchbillref8_CheckSet.j1] at h, fun _ _ _ _ r h => by simp [watchbillref8_CheckSet.l0] at h, fun _ _ _ _ r h => by simp [watchbillref8_CheckSet.l1] at h⟩
  | k + 1 => by
    obtain ⟨ih0, ih1, ih2, ih3⟩ := watchbillref8_CheckSet.mono_l k
    refine ⟨?_, ?_, ?_, ?_⟩
    · intro y0 y1 y2 y3
      unfold watchbillref8_CheckSet.j0
      repeat' first
      | (with_reducible exact ih0 _ _ _ _)
      | (with_reducible exact ih1 _ _ _ _)
      | (with_reducible exact ih2 _ _ _ _)
      | (with_reducible exact ih3 _ _ _ _)
      | (with_reducible exact watchbillref8_checkTask.mono _ _ _ _ _)
      | (with_reducible exact LeO.refl _)
      | (with_reducible exact LeO.none _)
      | (with_reducible refine LeO.ite ?_ ?_)
      | (with_reducible refine LeO.bind ?_ (fun _ => ?_))
      | exact ih0 _ _ _ _
      | exact ih1 _ _ _ _
      | exact ih2 _ _ _ _
      | exact ih3 _ _ _ _
      | exact watchbillref8_checkTask.mono _ _ _ _ _
      | exact LeO.none _
      | refine LeO.ite ?_ ?_
      | refine LeO.bind ?_ (fun _ => ?_)
    · intro y0 y1 y2 y3
      unfold watchbillref8_CheckSet.j1
      repeat' first
      | (with_reducible exact ih0 _ _ _ _)
      | (with_reducible exact ih1 _ _ _ _)
      | (with_reducible exact ih2 _ _ _ _)
      | (with_reducible exact ih3 _ _ _ _)
      | (with_reducible exact watchbillref8_checkTask.mono _ _ _ _ _)
      | (with_reducible exact LeO.refl _)
      | (with_reducible exact LeO.none _)
      | (with_reducible refine LeO.ite ?_ ?_)
      | (with_reducible refine LeO.bind ?_ (fun _ => ?_))
      | exact ih0 _ _ _ _
      | exact ih1 _ _ _ _
      | exact ih2 _ _ _ _
      | exact ih3 _ _ _ _
      | exact watchbillref8_checkTask.mono _ _ _ _ _
      | exact LeO.none _
      | refine LeO.ite ?_ ?_
      | refine LeO.bind ?_ (fun _ => ?_)
    · intro y0 y1 y2 y3
      unfold watchbillref8_CheckSet.l0
      repeat' first
      | (with_reducible exact ih0 _ _ _ _)
      | (with_reducible exact ih1 _ _ _ _)
      | (with_reducible exact ih2 _ _ _ _)
      | (with_reducible exact ih3 _ _ _ _)
      | (with_reducible exact watchbillref8_checkTask.mono _ _ _ _ _)
      | (with_reducible exact LeO.refl _)
      | (with_reducible exact LeO.none _)
      | (with_reducible refine LeO.ite ?_ ?_)
      | (with_reducible refine LeO.bind ?_ (fun _ => ?_))
      | exact ih0 _ _ _ _
      | exact ih1 _ _ _ _
      | exact ih2 _ _ _ _
      | exact ih3 _ _ _ _
      | exact watchbillref8_checkTask.mono _ _ _ _ _
      | exact LeO.none _
      | refine LeO.ite ?_ ?_
      | refine LeO.bind ?_ (fun _ => ?_)
    · intro y0 y1 y2 y3
      unfold watchbillref8_CheckSet.l1
      repeat' first
      | (with_reducible exact ih0 _ _ _ _)
      | (with_reducible exact ih1 _ _ _ _)
      | (with_reducible exact ih2 _ _ _ _)
      | (with_reducible exact ih3 _ _ _ _)
      | (with_reducible exact watchbillref8_checkTask.mono _ _ _ _ _)
      | (with_reducible exact LeO.refl _)
      | (with_reducible exact LeO.none _)
      | (with_reducible refine LeO.ite ?_ ?_)
      | (with_reducible refine LeO.bind ?_ (fun _ => ?_))
      | exact ih0 _ _ _ _
      | exact ih1 _ _ _ _
      | exact ih2 _ _ _ _
      | exact ih3 _ _ _ _
      | exact watchbillref8_checkTask.mono _ _ _ _ _
      | exact LeO.none _
      | refine LeO.ite ?_ ?_
      | refine LeO.bind ?_ (fun _ => ?_)
theorem watchbillref8_CheckSet.mono : ∀ a0 a1 a2 k, LeO (watchbillref8_CheckSet.f k a0 a1 a2) (watchbillref8_CheckSet.f (k + 1) a0 a1 a2) := by
  intro a0 a1 a2 k
  obtain ⟨ih0, ih1, ih2, ih3⟩ := watchbillref8_CheckSet.mono_l k
  unfold watchbillref8_CheckSet.f
  repeat' first
      | (with_reducible exact ih0 _ _ _ _)
      | (with_reducible exact ih1 _ _ _ _)
      | (with_reducible exact ih2 _ _ _ _)
      | (with_reducible exact ih3 _ _ _ _)
      | (with_reducible exact watchbillref8_checkTask.mono _ _ _ _ _)
      | (with_reducible exact LeO.refl _)
      | (with_reducible exact LeO.none _)
      | (with_reducible refine LeO.ite ?_ ?_)
      | (with_reducible refine LeO.bind ?_ (fun _ => ?_))
      | exact ih0 _ _ _ _
      | exact ih1 _ _ _ _
      | exact ih2 _ _ _ _
      | exact ih3 _ _ _ _
      | exact watchbillref8_checkTask.mono _ _ _ _ _
      | exact LeO.none _
      | refine LeO.ite ?_ ?_
      | refine LeO.bind ?_ (fun _ => ?_)
set_option maxHeartbeats 8000000 in
set_option maxRecDepth 100000 in
theorem watchbillref8_CheckSet.calls (k : Nat) (a0_0 : Int) (A0_1 : Option Addr) (c0_1 : Nat) (l0_1 : List (S63)) (A0_2 : Option Addr) (c0_2 : Nat) (l0_2 : List (S60)) (r1 : Int) (r2 : Int) (w : World) (hr0_1 : Kd.C k63 w A0_1 l0_1.length l0_1) (hc0_1 : l0_1.length ≤ c0_1) (hr0_2 : Kd.C k60 w A0_2 l0_2.length l0_2) (hc0_2 : l0_2.length ≤ c0_2) (h : watchbillref8_CheckSet.f k a0_0 l0_1 l0_2 = some (r1, r2)) :
    Calls Try.prog 8 #[.agg #[.int .i64 a0_0, .slice A0_1 l0_1.length c0_1, .slice A0_2 l0_2.length c0_2]] w fun e w' => e = .returned (.tuple #[.int .i64 r1, .int .i64 r2]) ∧ Below w.heap.size w w' := by
  have hu25 := Try.underlying25
  have hu63 := Try.underlying63
  have HR0_1 := Aside0.mk hr0_1
  have HC0_1 := Aside0.mk hc0_1
  clear hr0_1 hc0_1
  have HR0_2 := Aside0.mk hr0_2
  have HC0_2 := Aside0.mk hc0_2
  clear hr0_2 hc0_2
  have HB := Aside0.mk (Below.refl w.heap.size w)
  have H : (if a0_0 < 0 then (watchbillref8_CheckSet.j0 k true a0_0 l0_1 l0_2) else (watchbillref8_CheckSet.j0 k (decide (a0_0 > 8)) a0_0 l0_1 l0_2)) = some (r1, r2) := h
  clear h
  have HC2 := Aside0.mk H
  clear H
  go_enter Try.func8, Try.ntmps8
  go_upto_region 1 with (first | ((with_reducible refine gate_dst (N := 1) rfl ?_); (try (refine gate_guard (by rfl) ?_; dsimp only)); refine box_event ?hg (N := 1) ?hd (cs := #[.int .i64 a0_0, .slice A0_1 l0_1.length c0_1, .slice A0_2 l0_2.length c0_2]) (t := 25) ?hr ?_; (case hd => rfl); (case hg => rfl); (case hr => first | (go_simp; done) | (go_simp; rfl)); intro gb199 hg w3 hbox hb; have n0_ := Aside0.mk (below_step (by repeat (first | (with_reducible first | exact HB.out | apply below_alloc | apply pw_below_drewN | apply below_drew1) | exact HB.out)) hb); have n1_ := Aside0.mk (hbox); have n2_ := Aside0.mk ((by rw [hg]; exact (below_size (by repeat (first | (with_reducible first | exact HB.out | apply below_alloc | apply pw_below_drewN | apply below_drew1) | exact HB.out))) : w.heap.size ≤ gb199)); have n3_ := Aside0.mk ((by rw [hg]; exact (below_size (by repeat (first | (with_reducible first | exact HB.out | apply below_alloc | apply pw_below_drewN | apply below_drew1) | exact HB.out))) : w.heap.size ≤ gb199)); clear HB; have HB := n0_; have BK199 := n1_; have GW199 := n2_; have GE199 := n3_; clear n0_ n1_ n2_ n3_; clear hb hbox hg))
  (try simp only [Act.put, List.setIfInBounds_toArray, List.set_cons_zero, List.set_cons_succ])
  go_cut [15] (fun v15 wc => ∃ (kq : Nat) (x15_1 : Bool), v15 = .bool x15_1 ∧ Aside0 (watchbillref8_CheckSet.j0 kq x15_1 a0_0 l0_1 l0_2 = some (r1, r2)) ∧ Aside0 (kq ≤ k) ∧ Aside0 (wc.heap[gb199]? = some (.cells #[.int .i64 a0_0, (.slice A0_1 l0_1.length c0_1), (.slice A0_2 l0_2.length c0_2)] 25 (0, 0))) ∧ Aside0 (Below w.heap.size w wc))
  case first =>
    have H := HC2.out
    clear HC2
    by_cases c4 : a0_0 < 0
    · rw [if_pos c4] at H
      have c4b0 : decide (a0_0 < 0) = true := decide_eq_true c4
      clear c4
      (first | rw [c4b0] | (simp only [i64_w, i32_w]; rw [c4b0]) | skip)
      have H' := Aside0.mk H
      clear H
      have hcz5_0 : w3.cell? ⟨gb199, 0, none⟩ = some (.int .i64 a0_0) := (blk_cell BK199.out 0).trans rfl
      have hcz5_1 : w3.cell? ⟨gb199, 1, none⟩ = some (.slice A0_1 l0_1.length c0_1) := (blk_cell BK199.out 1).trans rfl
      have hcz5_2 : w3.cell? ⟨gb199, 2, none⟩ = some (.slice A0_2 l0_2.length c0_2) := (blk_cell BK199.out 2).trans rfl
      have hfz5_0 := blk_frozen BK199.out 0
      have hfz5_1 := blk_frozen BK199.out 1
      have hfz5_2 := blk_frozen BK199.out 2
      go_wp2
      go_meet
      case rel => exact ⟨_, (true), (by first | rfl | (simp; done) | (simp [*]; done) | (simp [Int.tdiv_eq_ediv_of_nonneg]; done)), H', ⟨by first | omega | exact Nat.le_refl _⟩, ⟨by (with_reducible repeat (first | refine blk_drewN ?_ _ | refine blk_drew ?_ | refine blk_alloc ?_ _)); exact BK199.out⟩, ⟨by repeat (first | (with_reducible first | exact HB.out | apply below_alloc | apply pw_below_drewN | apply below_drew1 | refine below_set ?_ GE199.out) | exact HB.out)⟩⟩
    · rw [if_neg c4] at H
      have c4b0 : decide (a0_0 < 0) = false := decide_eq_false c4
      clear c4
      (first | rw [c4b0] | (simp only [i64_w, i32_w]; rw [c4b0]) | skip)
      have H' := Aside0.mk H
      clear H
      have hcz6_0 : w3.cell? ⟨gb199, 0, none⟩ = some (.int .i64 a0_0) := (blk_cell BK199.out 0).trans rfl
      have hcz6_1 : w3.cell? ⟨gb199, 1, none⟩ = some (.slice A0_1 l0_1.length c0_1) := (blk_cell BK199.out 1).trans rfl
      have hcz6_2 : w3.cell? ⟨gb199, 2, none⟩ = some (.slice A0_2 l0_2.length c0_2) := (blk_cell BK199.out 2).trans rfl
      have hfz6_0 := blk_frozen BK199.out 0
      have hfz6_1 := blk_frozen BK199.out 1
      have hfz6_2 := blk_frozen BK199.out 2
      go_wp2
      go_meet
      case rel => exact ⟨_, (decide (a0_0 > 8)), (by first | rfl | (simp; done) | (simp [*]; done) | (simp [Int.tdiv_eq_ediv_of_nonneg]; done)), H', ⟨by first | omega | exact Nat.le_refl _⟩, ⟨by (with_reducible repeat (first | refine blk_drewN ?_ _ | refine blk_drew ?_ | refine blk_alloc ?_ _)); exact BK199.out⟩, ⟨by repeat (first | (with_reducible first | exact HB.out | apply below_alloc | apply pw_below_drewN | apply below_drew1 | refine below_set ?_ GE199.out) | exact HB.out)⟩⟩
  case rest =>
    clear HC2
    try clear p2
    try clear c4
    try clear c4b0
    try clear hcz5_0
    try clear hcz5_1
    try clear hcz5_2
    try clear hcz6_0
    try clear hcz6_1
    try clear hcz6_2
    try clear hfz5_0
    try clear hfz5_1
    try clear hfz5_2
    try clear hfz6_0
    try clear hfz6_1
    try clear hfz6_2
    obtain ⟨kq, x15_1, rfl, HA, HJ1, BK199, HB⟩ := hcut
    cases kq with
    | zero => exact absurd HA.out (by simp [watchbillref8_CheckSet.j0])
    | succ kj1 =>
      have H := HA.out
      clear HA
      simp only [watchbillref8_CheckSet.j0] at H
      by_cases c7 : x15_1 = true
      · subst c7
        have H1 : (some (0, 1)) = some (r1, r2) := by rw [if_pos rfl] at H; exact H
        clear H
        have H := H1
        clear H1
        simp only [Option.some.injEq, Prod.mk.injEq] at H
        obtain ⟨rfl, rfl⟩ := H
        go_wp2
        go_ret2
        exact ⟨by first | rfl | (simp [errW_none, errW_some] <;> rfl) | (simp [*, errW_none, errW_some] <;> rfl), by repeat (first | (with_reducible first | exact HB.out | apply below_alloc | apply pw_below_drewN | apply below_drew1 | refine below_set ?_ GE199.out) | exact HB.out)⟩
      · replace c7 := Bool.eq_false_iff.mpr c7
        subst c7
        have H1 : (if (l0_1.length : Int) > 8 then (watchbillref8_CheckSet.j1 kj1 true a0_0 l0_1 l0_2) else (if (l0_2.length : Int) < 1 then (watchbillref8_CheckSet.j1 kj1 true a0_0 l0_1 l0_2) else (watchbillref8_CheckSet.j1 kj1 (decide ((l0_2.length : Int) > 12)) a0_0 l0_1 l0_2))) = some (r1, r2) := by rw [if_neg (show ¬ (false = true) by decide)] at H; exact H
        clear H
        have H := H1
        clear H1
        have HC8 := Aside0.mk H
        clear H
        go_upto_region 3 with (fail)
        go_cut [31] (fun v31 wc => ∃ (kq : Nat) (x31_7 : Bool), v31 = .bool x31_7 ∧ Aside0 (watchbillref8_CheckSet.j1 kq x31_7 a0_0 l0_1 l0_2 = some (r1, r2)) ∧ Aside0 (kq ≤ kj1) ∧ Aside0 (wc.heap[gb199]? = some (.cells #[.int .i64 a0_0, (.slice A0_1 l0_1.length c0_1), (.slice A0_2 l0_2.length c0_2)] 25 (0, 0))) ∧ Aside0 (Below w.heap.size w wc))
        case first =>
          have H := HC8.out
          clear HC8
          by_cases c9 : (l0_1.length : Int) > 8
          · rw [if_pos c9] at H
            have c9b0 : decide (8 < (l0_1.length : Int)) = true := decide_eq_true c9
            have c9b1 : decide (8 < l0_1.length) = true := decide_eq_true (by omega)
            clear c9
            (first | rw [c9b0] | (simp only [i64_w, i32_w]; rw [c9b0]) | skip)
            have H' := Aside0.mk H
            clear H
            have hcz10_0 : wc.cell? ⟨gb199, 0, none⟩ = some (.int .i64 a0_0) := (blk_cell BK199.out 0).trans rfl
            have hcz10_1 : wc.cell? ⟨gb199, 1, none⟩ = some (.slice A0_1 l0_1.length c0_1) := (blk_cell BK199.out 1).trans rfl
            have hcz10_2 : wc.cell? ⟨gb199, 2, none⟩ = some (.slice A0_2 l0_2.length c0_2) := (blk_cell BK199.out 2).trans rfl
            have hfz10_0 := blk_frozen BK199.out 0
            have hfz10_1 := blk_frozen BK199.out 1
            have hfz10_2 := blk_frozen BK199.out 2
            go_wp2
            go_meet
            case rel => exact ⟨_, (true), (by first | rfl | (simp; done) | (simp [*]; done) | (simp [Int.tdiv_eq_ediv_of_nonneg]; done)), H', ⟨by have := HJ1.out; first | omega | exact Nat.le_refl _⟩, ⟨by (with_reducible repeat (first | refine blk_drewN ?_ _ | refine blk_drew ?_ | refine blk_alloc ?_ _)); exact BK199.out⟩, ⟨by repeat (first | (with_reducible first | exact HB.out | apply below_alloc | apply pw_below_drewN | apply below_drew1 | refine below_set ?_ GE199.out) | exact HB.out)⟩⟩
          · rw [if_neg c9] at H
            have c9b0 : decide (8 < (l0_1.length : Int)) = false := decide_eq_false c9
            have c9b1 : decide (8 < l0_1.length) = false := decide_eq_false (by omega)
            clear c9
            (first | rw [c9b0] | (simp only [i64_w, i32_w]; rw [c9b0]) | skip)
            by_cases c11 : (l0_2.length : Int) < 1
            · rw [if_pos c11] at H
              have c11b0 : decide ((l0_2.length : Int) < 1) = true := decide_eq_true c11
              have c11b1 : decide (l0_2.length < 1) = true := decide_eq_true (by omega)
              clear c11
              have H' := Aside0.mk H
              clear H
              have hcz12_0 : wc.cell? ⟨gb199, 0, none⟩ = some (.int .i64 a0_0) := (blk_cell BK199.out 0).trans rfl
              have hcz12_1 : wc.cell? ⟨gb199, 1, none⟩ = some (.slice A0_1 l0_1.length c0_1) := (blk_cell BK199.out 1).trans rfl
              have hcz12_2 : wc.cell? ⟨gb199, 2, none⟩ = some (.slice A0_2 l0_2.length c0_2) := (blk_cell BK199.out 2).trans rfl
              have hfz12_0 := blk_frozen BK199.out 0
              have hfz12_1 := blk_frozen BK199.out 1
              have hfz12_2 := blk_frozen BK199.out 2
              go_wp2
              go_meet
              case rel => exact ⟨_, (true), (by first | rfl | (simp; done) | (simp [*]; done) | (simp [Int.tdiv_eq_ediv_of_nonneg]; done)), H', ⟨by have := HJ1.out; first | omega | exact Nat.le_refl _⟩, ⟨by (with_reducible repeat (first | refine blk_drewN ?_ _ | refine blk_drew ?_ | refine blk_alloc ?_ _)); exact BK199.out⟩, ⟨by repeat (first | (with_reducible first | exact HB.out | apply below_alloc | apply pw_below_drewN | apply below_drew1 | refine below_set ?_ GE199.out) | exact HB.out)⟩⟩
            · rw [if_neg c11] at H
              have c11b0 : decide ((l0_2.length : Int) < 1) = false := decide_eq_false c11
              have c11b1 : decide (l0_2.length < 1) = false := decide_eq_false (by omega)
              clear c11
              have H' := Aside0.mk H
              clear H
              have hcz13_0 : wc.cell? ⟨gb199, 0, none⟩ = some (.int .i64 a0_0) := (blk_cell BK199.out 0).trans rfl
              have hcz13_1 : wc.cell? ⟨gb199, 1, none⟩ = some (.slice A0_1 l0_1.length c0_1) := (blk_cell BK199.out 1).trans rfl
              have hcz13_2 : wc.cell? ⟨gb199, 2, none⟩ = some (.slice A0_2 l0_2.length c0_2) := (blk_cell BK199.out 2).trans rfl
              have hfz13_0 := blk_frozen BK199.out 0
              have hfz13_1 := blk_frozen BK199.out 1
              have hfz13_2 := blk_frozen BK199.out 2
              go_wp2
              go_meet
              case rel => exact ⟨_, (decide ((l0_2.length : Int) > 12)), (by first | rfl | (simp; done) | (simp [*]; done) | (simp [Int.tdiv_eq_ediv_of_nonneg]; done)), H', ⟨by have := HJ1.out; first | omega | exact Nat.le_refl _⟩, ⟨by (with_reducible repeat (first | refine blk_drewN ?_ _ | refine blk_drew ?_ | refine blk_alloc ?_ _)); exact BK199.out⟩, ⟨by repeat (first | (with_reducible first | exact HB.out | apply below_alloc | apply pw_below_drewN | apply below_drew1 | refine below_set ?_ GE199.out) | exact HB.out)⟩⟩
        case rest =>
          clear HC8
          try clear c1
          try clear p2
          try clear c4
          try clear c4b0
          try clear c7
          try clear c8
          try clear c9
          try clear c9b0
          try clear c9b1
          try clear c11
          try clear c11b0
          try clear c11b1
          try clear hcz10_0
          try clear hcz10_1
          try clear hcz10_2
          try clear hcz12_0
          try clear hcz12_1
          try clear hcz12_2
          try clear hcz13_0
          try clear hcz13_1
          try clear hcz13_2
          try clear hcz5_0
          try clear hcz5_1
          try clear hcz5_2
          try clear hcz6_0
          try clear hcz6_1
          try clear hcz6_2
          try clear hfz10_0
          try clear hfz10_1
          try clear hfz10_2
          try clear hfz12_0
          try clear hfz12_1
          try clear hfz12_2
          try clear hfz13_0
          try clear hfz13_1
          try clear hfz13_2
          try clear hfz5_0
          try clear hfz5_1
          try clear hfz5_2
          try clear hfz6_0
          try clear hfz6_1
          try clear hfz6_2
          try clear p2
          obtain ⟨kq, x31_7, rfl, HA, HJ7, BK199, HB⟩ := hcut
          cases kq with
          | zero => exact absurd HA.out (by simp [watchbillref8_CheckSet.j1])
          | succ kj7 =>
            have H := HA.out
            clear HA
            simp only [watchbillref8_CheckSet.j1] at H
            by_cases c14 : x31_7 = true
            · subst c14
              have H1 : (some (0, 18)) = some (r1, r2) := by rw [if_pos rfl] at H; exact H
              clear H
              have H := H1
              clear H1
              simp only [Option.some.injEq, Prod.mk.injEq] at H
              obtain ⟨rfl, rfl⟩ := H
              go_wp2
              go_ret2
              exact ⟨by first | rfl | (simp [errW_none, errW_some] <;> rfl) | (simp [*, errW_none, errW_some] <;> rfl), by repeat (first | (with_reducible first | exact HB.out | apply below_alloc | apply pw_below_drewN | apply below_drew1 | refine below_set ?_ GE199.out) | exact HB.out)⟩
            · replace c14 := Bool.eq_false_iff.mpr c14
              subst c14
              have H1 : (watchbillref8_CheckSet.l0 kj7 0 a0_0 l0_1 l0_2) = some (r1, r2) := by rw [if_neg (show ¬ (false = true) by decide)] at H; exact H
              clear H
              have H := H1
              clear H1
              have H' := Aside0.mk H
              clear H
              go_wp2
              go_loopg [4] kj7 (fun kq v4 w' => ∃ (x4_3 : Int), v4 = .int .i64 x4_3 ∧ Aside0 (watchbillref8_CheckSet.l0 kq x4_3 a0_0 l0_1 l0_2 = some (r1, r2)) ∧ Aside0 (kq ≤ kj7) ∧ Aside0 (w'.heap[gb199]? = some (.cells #[.int .i64 a0_0, (.slice A0_1 l0_1.length c0_1), (.slice A0_2 l0_2.length c0_2)] 25 (0, 0))) ∧ Aside0 (Below w.heap.size w w'))
              case atStart => exact ⟨(0), (by first | rfl | (simp; done) | (simp [*]; done) | (simp [Int.tdiv_eq_ediv_of_nonneg]; done)), H', ⟨Nat.le_refl _⟩, ⟨by (with_reducible repeat (first | refine blk_drewN ?_ _ | refine blk_drew ?_ | refine blk_alloc ?_ _)); exact BK199.out⟩, ⟨by repeat (first | (with_reducible first | exact HB.out | apply below_alloc | apply pw_below_drewN | apply below_drew1 | refine below_set ?_ GE199.out) | exact HB.out)⟩⟩
              case round =>
                clear H'
                try clear c1
                try clear p2
                try clear c4
                try clear c4b0
                try clear c7
                try clear c8
                try clear c9
                try clear c9b0
                try clear c9b1
                try clear c11
                try clear c11b0
                try clear c11b1
                try clear c14
                try clear hcz10_0
                try clear hcz10_1
                try clear hcz10_2
                try clear hcz12_0
                try clear hcz12_1
                try clear hcz12_2
                try clear hcz13_0
                try clear hcz13_1
                try clear hcz13_2
                try clear hcz5_0
                try clear hcz5_1
                try clear hcz5_2
                try clear hcz6_0
                try clear hcz6_1
                try clear hcz6_2
                try clear hfz10_0
                try clear hfz10_1
                try clear hfz10_2
                try clear hfz12_0
                try clear hfz12_1
                try clear hfz12_2
                try clear hfz13_0
                try clear hfz13_1
                try clear hfz13_2
                try clear hfz5_0
                try clear hfz5_1
                try clear hfz5_2
                try clear hfz6_0
                try clear hfz6_1
                try clear hfz6_2
                try clear p2
                obtain ⟨x4_3, rfl, HA, HK3, BK199, HB⟩ := hrel
                cases gk with
                | zero => exact absurd HA.out (by simp [watchbillref8_CheckSet.l0])
                | succ k3 =>
                  have H := HA.out
                  clear HA
                  simp only [watchbillref8_CheckSet.l0] at H
                  by_cases c15 : x4_3 < (l0_1.length : Int)
                  · rw [if_pos c15] at H
                    have c15b0 : decide (x4_3 < (l0_1.length : Int)) = true := decide_eq_true c15
                    clear c15
                    by_cases c16 : 0 ≤ x4_3
                    · rw [if_pos c16] at H
                      have c16b0 : decide (0 ≤ x4_3) = true := decide_eq_true c16
                      clear c16
                      by_cases c17 : ((rd_T63 l0_1 x4_3).f0) < 0
                      · rw [if_pos c17] at H
                        have c17b0 : decide (((rd_T63 l0_1 x4_3).f0) < 0) = true := decide_eq_true c17
                        clear c17
                        simp only [Option.some.injEq, Prod.mk.injEq] at H
                        obtain ⟨rfl, rfl⟩ := H
                        have hcz18_0 : wr.cell? ⟨gb199, 0, none⟩ = some (.int .i64 a0_0) := (blk_cell BK199.out 0).trans rfl
                        have hcz18_1 : wr.cell? ⟨gb199, 1, none⟩ = some (.slice A0_1 l0_1.length c0_1) := (blk_cell BK199.out 1).trans rfl
                        have hcz18_2 : wr.cell? ⟨gb199, 2, none⟩ = some (.slice A0_2 l0_2.length c0_2) := (blk_cell BK199.out 2).trans rfl
                        have hfz18_0 := blk_frozen BK199.out 0
                        have hfz18_1 := blk_frozen BK199.out 1
                        have hfz18_2 := blk_frozen BK199.out 2
                        have p200 : 0 ≤ (x4_3 : Int) := of_decide_eq_true (by first | (with_reducible assumption) | assumption)
                        have q200 : x4_3 < (l0_1.length : Int) := of_decide_eq_true (by first | (with_reducible assumption) | assumption)
                        obtain ⟨ad200, e200, hx200_0, hx200_1⟩ := at_T63 HR0_1.out x4_3 p200 q200
                        cases e200
                        replace hx200_0 := (HB.out.cell (World.block_lt_of_cell? w _ hx200_0)).trans hx200_0
                        replace hx200_1 := (HB.out.cell (World.block_lt_of_cell? w _ hx200_1)).trans hx200_1
                        replace p200 := eq_true p200
                        replace q200 := eq_true q200
                        go_wp2_with (first | ((with_reducible refine gate_dst (N := 5) rfl ?_); (try (refine gate_guard (by rfl) ?_; dsimp only)); refine box_event ?hg (N := 5) ?hd (cs := #[.int .i64 0, .int .i64 0]) (t := 63) ?hr ?_; (case hd => rfl); (case hg => rfl); (case hr => first | (go_simp; done) | (go_simp; rfl)); intro gb201 hg w19 hbox hb; have n0_ := Aside0.mk (blk_below (g := gb199) (o := .cells #[.int .i64 a0_0, .slice (some ad200) l0_1.length c0_1, .slice A0_2 l0_2.length c0_2] 25 (0, 0)) (by (with_reducible repeat (first | refine blk_drewN ?_ _ | refine blk_drew ?_ | refine blk_alloc ?_ _)); exact BK199.out) hb); have n1_ := Aside0.mk (below_step (by repeat (first | (with_reducible first | exact HB.out | apply below_alloc | apply pw_below_drewN | apply below_drew1 | refine below_set ?_ GE199.out) | exact HB.out)) hb); have n2_ := Aside0.mk (hbox); have n3_ := Aside0.mk ((by rw [hg]; exact (below_size (by repeat (first | (with_reducible first | exact HB.out | apply below_alloc | apply pw_below_drewN | apply below_drew1 | refine below_set ?_ GE199.out) | exact HB.out))) : w.heap.size ≤ gb201)); have n4_ := Aside0.mk ((by rw [hg]; exact (below_size (by repeat (first | (with_reducible first | exact HB.out | apply below_alloc | apply pw_below_drewN | apply below_drew1 | refine below_set ?_ GE199.out) | exact HB.out))) : w.heap.size ≤ gb201)); have n5_ := Aside0.mk ((by rw [hg]; exact Nat.ne_of_lt (blk_lt (g := gb199) (o := .cells #[.int .i64 a0_0, .slice (some ad200) l0_1.length c0_1, .slice A0_2 l0_2.length c0_2] 25 (0, 0)) (by (with_reducible repeat (first | refine blk_drewN ?_ _ | refine blk_drew ?_ | refine blk_alloc ?_ _)); exact BK199.out)) : gb199 ≠ gb201)); have n6_ := Aside0.mk ((by rw [hg]; exact Nat.ne_of_gt (blk_lt (g := gb199) (o := .cells #[.int .i64 a0_0, .slice (some ad200) l0_1.length c0_1, .slice A0_2 l0_2.length c0_2] 25 (0, 0)) (by (with_reducible repeat (first | refine blk_drewN ?_ _ | refine blk_drew ?_ | refine blk_alloc ?_ _)); exact BK199.out)) : gb201 ≠ gb199)); clear BK199; clear HB; have BK199 := n0_; have HB := n1_; have BK201 := n2_; have GW201 := n3_; have GE201 := n4_; have NB199_201 := n5_; have NB201_199 := n6_; clear n0_ n1_ n2_ n3_ n4_ n5_ n6_; clear hb hbox hg; have hnb20 := NB201_199.out; have hnc20 := NB199_201.out; have hcz21_0 : w19.cell? ⟨gb201, 0, none⟩ = some (.int .i64 0) := (blk_cell BK201.out 0).trans rfl; have hcz21_1 : w19.cell? ⟨gb201, 1, none⟩ = some (.int .i64 0) := (blk_cell BK201.out 1).trans rfl; have hfz21_0 := blk_frozen BK201.out 0; have hfz21_1 := blk_frozen BK201.out 1))
                        go_ret2
                        exact ⟨by first | rfl | (simp [errW_none, errW_some] <;> rfl) | (simp [*, errW_none, errW_some] <;> rfl), by repeat (first | (with_reducible first | exact HB.out | apply below_alloc | apply pw_below_drewN | apply below_drew1 | refine below_set ?_ GE199.out | refine below_set ?_ GE201.out) | exact HB.out)⟩
                      · rw [if_neg c17] at H
                        have c17b0 : decide (((rd_T63 l0_1 x4_3).f0) < 0) = false := decide_eq_false c17
                        clear c17
                        by_cases c22 : ((rd_T63 l0_1 x4_3).f0) > 16
                        · rw [if_pos c22] at H
                          have c22b0 : decide (16 < ((rd_T63 l0_1 x4_3).f0)) = true := decide_eq_true c22
                          clear c22
                          simp only [Option.some.injEq, Prod.mk.injEq] at H
                          obtain ⟨rfl, rfl⟩ := H
                          have hcz23_0 : wr.cell? ⟨gb199, 0, none⟩ = some (.int .i64 a0_0) := (blk_cell BK199.out 0).trans rfl
                          have hcz23_1 : wr.cell? ⟨gb199, 1, none⟩ = some (.slice A0_1 l0_1.length c0_1) := (blk_cell BK199.out 1).trans rfl
                          have hcz23_2 : wr.cell? ⟨gb199, 2, none⟩ = some (.slice A0_2 l0_2.length c0_2) := (blk_cell BK199.out 2).trans rfl
                          have hfz23_0 := blk_frozen BK199.out 0
                          have hfz23_1 := blk_frozen BK199.out 1
                          have hfz23_2 := blk_frozen BK199.out 2
                          have p200 : 0 ≤ (x4_3 : Int) := of_decide_eq_true (by first | (with_reducible assumption) | assumption)
                          have q200 : x4_3 < (l0_1.length : Int) := of_decide_eq_true (by first | (with_reducible assumption) | assumption)
                          obtain ⟨ad200, e200, hx200_0, hx200_1⟩ := at_T63 HR0_1.out x4_3 p200 q200
                          cases e200
                          replace hx200_0 := (HB.out.cell (World.block_lt_of_cell? w _ hx200_0)).trans hx200_0
                          replace hx200_1 := (HB.out.cell (World.block_lt_of_cell? w _ hx200_1)).trans hx200_1
                          replace p200 := eq_true p200
                          replace q200 := eq_true q200
                          go_wp2_with (first | ((with_reducible refine gate_dst (N := 5) rfl ?_); (try (refine gate_guard (by rfl) ?_; dsimp only)); refine box_event ?hg (N := 5) ?hd (cs := #[.int .i64 0, .int .i64 0]) (t := 63) ?hr ?_; (case hd => rfl); (case hg => rfl); (case hr => first | (go_simp; done) | (go_simp; rfl)); intro gb201 hg w24 hbox hb; have n0_ := Aside0.mk (blk_below (g := gb199) (o := .cells #[.int .i64 a0_0, .slice (some ad200) l0_1.length c0_1, .slice A0_2 l0_2.length c0_2] 25 (0, 0)) (by (with_reducible repeat (first | refine blk_drewN ?_ _ | refine blk_drew ?_ | refine blk_alloc ?_ _)); exact BK199.out) hb); have n1_ := Aside0.mk (below_step (by repeat (first | (with_reducible first | exact HB.out | apply below_alloc | apply pw_below_drewN | apply below_drew1 | refine below_set ?_ GE199.out) | exact HB.out)) hb); have n2_ := Aside0.mk (hbox); have n3_ := Aside0.mk ((by rw [hg]; exact (below_size (by repeat (first | (with_reducible first | exact HB.out | apply below_alloc | apply pw_below_drewN | apply below_drew1 | refine below_set ?_ GE199.out) | exact HB.out))) : w.heap.size ≤ gb201)); have n4_ := Aside0.mk ((by rw [hg]; exact (below_size (by repeat (first | (with_reducible first | exact HB.out | apply below_alloc | apply pw_below_drewN | apply below_drew1 | refine below_set ?_ GE199.out) | exact HB.out))) : w.heap.size ≤ gb201)); have n5_ := Aside0.mk ((by rw [hg]; exact Nat.ne_of_lt (blk_lt (g := gb199) (o := .cells #[.int .i64 a0_0, .slice (some ad200) l0_1.length c0_1, .slice A0_2 l0_2.length c0_2] 25 (0, 0)) (by (with_reducible repeat (first | refine blk_drewN ?_ _ | refine blk_drew ?_ | refine blk_alloc ?_ _)); exact BK199.out)) : gb199 ≠ gb201)); have n6_ := Aside0.mk ((by rw [hg]; exact Nat.ne_of_gt (blk_lt (g := gb199) (o := .cells #[.int .i64 a0_0, .slice (some ad200) l0_1.length c0_1, .slice A0_2 l0_2.length c0_2] 25 (0, 0)) (by (with_reducible repeat (first | refine blk_drewN ?_ _ | refine blk_drew ?_ | refine blk_alloc ?_ _)); exact BK199.out)) : gb201 ≠ gb199)); clear BK199; clear HB; have BK199 := n0_; have HB := n1_; have BK201 := n2_; have GW201 := n3_; have GE201 := n4_; have NB199_201 := n5_; have NB201_199 := n6_; clear n0_ n1_ n2_ n3_ n4_ n5_ n6_; clear hb hbox hg; have hnb25 := NB201_199.out; have hnc25 := NB199_201.out; have hcz26_0 : w24.cell? ⟨gb201, 0, none⟩ = some (.int .i64 0) := (blk_cell BK201.out 0).trans rfl; have hcz26_1 : w24.cell? ⟨gb201, 1, none⟩ = some (.int .i64 0) := (blk_cell BK201.out 1).trans rfl; have hfz26_0 := blk_frozen BK201.out 0; have hfz26_1 := blk_frozen BK201.out 1))
                          go_ret2
                          exact ⟨by first | rfl | (simp [errW_none, errW_some] <;> rfl) | (simp [*, errW_none, errW_some] <;> rfl), by repeat (first | (with_reducible first | exact HB.out | apply below_alloc | apply pw_below_drewN | apply below_drew1 | refine below_set ?_ GE199.out | refine below_set ?_ GE201.out) | exact HB.out)⟩
                        · rw [if_neg c22] at H
                          have c22b0 : decide (16 < ((rd_T63 l0_1 x4_3).f0)) = false := decide_eq_false c22
                          clear c22
                          by_cases c27 : ((rd_T63 l0_1 x4_3).f1) < (-1)
                          · rw [if_pos c27] at H
                            have c27b0 : decide (((rd_T63 l0_1 x4_3).f1) < (-1)) = true := decide_eq_true c27
                            clear c27
                            simp only [Option.some.injEq, Prod.mk.injEq] at H
                            obtain ⟨rfl, rfl⟩ := H
                            have hcz28_0 : wr.cell? ⟨gb199, 0, none⟩ = some (.int .i64 a0_0) := (blk_cell BK199.out 0).trans rfl
                            have hcz28_1 : wr.cell? ⟨gb199, 1, none⟩ = some (.slice A0_1 l0_1.length c0_1) := (blk_cell BK199.out 1).trans rfl
                            have hcz28_2 : wr.cell? ⟨gb199, 2, none⟩ = some (.slice A0_2 l0_2.length c0_2) := (blk_cell BK199.out 2).trans rfl
                            have hfz28_0 := blk_frozen BK199.out 0
                            have hfz28_1 := blk_frozen BK199.out 1
                            have hfz28_2 := blk_frozen BK199.out 2
                            have p200 : 0 ≤ (x4_3 : Int) := of_decide_eq_true (by first | (with_reducible assumption) | assumption)
                            have q200 : x4_3 < (l0_1.length : Int) := of_decide_eq_true (by first | (with_reducible assumption) | assumption)
                            obtain ⟨ad200, e200, hx200_0, hx200_1⟩ := at_T63 HR0_1.out x4_3 p200 q200
                            cases e200
                            replace hx200_0 := (HB.out.cell (World.block_lt_of_cell? w _ hx200_0)).trans hx200_0
                            replace hx200_1 := (HB.out.cell (World.block_lt_of_cell? w _ hx200_1)).trans hx200_1
                            replace p200 := eq_true p200
                            replace q200 := eq_true q200
                            go_wp2_with (first | ((with_reducible refine gate_dst (N := 5) rfl ?_); (try (refine gate_guard (by rfl) ?_; dsimp only)); refine box_event ?hg (N := 5) ?hd (cs := #[.int .i64 0, .int .i64 0]) (t := 63) ?hr ?_; (case hd => rfl); (case hg => rfl); (case hr => first | (go_simp; done) | (go_simp; rfl)); intro gb201 hg w29 hbox hb; have n0_ := Aside0.mk (blk_below (g := gb199) (o := .cells #[.int .i64 a0_0, .slice (some ad200) l0_1.length c0_1, .slice A0_2 l0_2.length c0_2] 25 (0, 0)) (by (with_reducible repeat (first | refine blk_drewN ?_ _ | refine blk_drew ?_ | refine blk_alloc ?_ _)); exact BK199.out) hb); have n1_ := Aside0.mk (below_step (by repeat (first | (with_reducible first | exact HB.out | apply below_alloc | apply pw_below_drewN | apply below_drew1 | refine below_set ?_ GE199.out) | exact HB.out)) hb); have n2_ := Aside0.mk (hbox); have n3_ := Aside0.mk ((by rw [hg]; exact (below_size (by repeat (first | (with_reducible first | exact HB.out | apply below_alloc | apply pw_below_drewN | apply below_drew1 | refine below_set ?_ GE199.out) | exact HB.out))) : w.heap.size ≤ gb201)); have n4_ := Aside0.mk ((by rw [hg]; exact (below_size (by repeat (first | (with_reducible first | exact HB.out | apply below_alloc | apply pw_below_drewN | apply below_drew1 | refine below_set ?_ GE199.out) | exact HB.out))) : w.heap.size ≤ gb201)); have n5_ := Aside0.mk ((by rw [hg]; exact Nat.ne_of_lt (blk_lt (g := gb199) (o := .cells #[.int .i64 a0_0, .slice (some ad200) l0_1.length c0_1, .slice A0_2 l0_2.length c0_2] 25 (0, 0)) (by (with_reducible repeat (first | refine blk_drewN ?_ _ | refine blk_drew ?_ | refine blk_alloc ?_ _)); exact BK199.out)) : gb199 ≠ gb201)); have n6_ := Aside0.mk ((by rw [hg]; exact Nat.ne_of_gt (blk_lt (g := gb199) (o := .cells #[.int .i64 a0_0, .slice (some ad200) l0_1.length c0_1, .slice A0_2 l0_2.length c0_2] 25 (0, 0)) (by (with_reducible repeat (first | refine blk_drewN ?_ _ | refine blk_drew ?_ | refine blk_alloc ?_ _)); exact BK199.out)) : gb201 ≠ gb199)); clear BK199; clear HB; have BK199 := n0_; have HB := n1_; have BK201 := n2_; have GW201 := n3_; have GE201 := n4_; have NB199_201 := n5_; have NB201_199 := n6_; clear n0_ n1_ n2_ n3_ n4_ n5_ n6_; clear hb hbox hg; have hnb30 := NB201_199.out; have hnc30 := NB199_201.out; have hcz31_0 : w29.cell? ⟨gb201, 0, none⟩ = some (.int .i64 0) := (blk_cell BK201.out 0).trans rfl; have hcz31_1 : w29.cell? ⟨gb201, 1, none⟩ = some (.int .i64 0) := (blk_cell BK201.out 1).trans rfl; have hfz31_0 := blk_frozen BK201.out 0; have hfz31_1 := blk_frozen BK201.out 1))
                            go_ret2
                            exact ⟨by first | rfl | (simp [errW_none, errW_some] <;> rfl) | (simp [*, errW_none, errW_some] <;> rfl), by repeat (first | (with_reducible first | exact HB.out | apply below_alloc | apply pw_below_drewN | apply below_drew1 | refine below_set ?_ GE199.out | refine below_set ?_ GE201.out) | exact HB.out)⟩
                          · rw [if_neg c27] at H
                            have c27b0 : decide (((rd_T63 l0_1 x4_3).f1) < (-1)) = false := decide_eq_false c27
                            clear c27
                            by_cases c32 : ((rd_T63 l0_1 x4_3).f1) ≥ (l0_2.length : Int)
                            · rw [if_pos c32] at H
                              have c32b0 : decide ((l0_2.length : Int) ≤ ((rd_T63 l0_1 x4_3).f1)) = true := decide_eq_true c32
                              clear c32
                              simp only [Option.some.injEq, Prod.mk.injEq] at H
                              obtain ⟨rfl, rfl⟩ := H
                              have hcz33_0 : wr.cell? ⟨gb199, 0, none⟩ = some (.int .i64 a0_0) := (blk_cell BK199.out 0).trans rfl
                              have hcz33_1 : wr.cell? ⟨gb199, 1, none⟩ = some (.slice A0_1 l0_1.length c0_1) := (blk_cell BK199.out 1).trans rfl
                              have hcz33_2 : wr.cell? ⟨gb199, 2, none⟩ = some (.slice A0_2 l0_2.length c0_2) := (blk_cell BK199.out 2).trans rfl
                              have hfz33_0 := blk_frozen BK199.out 0
                              have hfz33_1 := blk_frozen BK199.out 1
                              have hfz33_2 := blk_frozen BK199.out 2
                              have p200 : 0 ≤ (x4_3 : Int) := of_decide_eq_true (by first | (with_reducible assumption) | assumption)
                              have q200 : x4_3 < (l0_1.length : Int) := of_decide_eq_true (by first | (with_reducible assumption) | assumption)
                              obtain ⟨ad200, e200, hx200_0, hx200_1⟩ := at_T63 HR0_1.out x4_3 p200 q200
                              cases e200
                              replace hx200_0 := (HB.out.cell (World.block_lt_of_cell? w _ hx200_0)).trans hx200_0
                              replace hx200_1 := (HB.out.cell (World.block_lt_of_cell? w _ hx200_1)).trans hx200_1
                              replace p200 := eq_true p200
                              replace q200 := eq_true q200
                              go_wp2_with (first | ((with_reducible refine gate_dst (N := 5) rfl ?_); (try (refine gate_guard (by rfl) ?_; dsimp only)); refine box_event ?hg (N := 5) ?hd (cs := #[.int .i64 0, .int .i64 0]) (t := 63) ?hr ?_; (case hd => rfl); (case hg => rfl); (case hr => first | (go_simp; done) | (go_simp; rfl)); intro gb201 hg w34 hbox hb; have n0_ := Aside0.mk (blk_below (g := gb199) (o := .cells #[.int .i64 a0_0, .slice (some ad200) l0_1.length c0_1, .slice A0_2 l0_2.length c0_2] 25 (0, 0)) (by (with_reducible repeat (first | refine blk_drewN ?_ _ | refine blk_drew ?_ | refine blk_alloc ?_ _)); exact BK199.out) hb); have n1_ := Aside0.mk (below_step (by repeat (first | (with_reducible first | exact HB.out | apply below_alloc | apply pw_below_drewN | apply below_drew1 | refine below_set ?_ GE199.out) | exact HB.out)) hb); have n2_ := Aside0.mk (hbox); have n3_ := Aside0.mk ((by rw [hg]; exact (below_size (by repeat (first | (with_reducible first | exact HB.out | apply below_alloc | apply pw_below_drewN | apply below_drew1 | refine below_set ?_ GE199.out) | exact HB.out))) : w.heap.size ≤ gb201)); have n4_ := Aside0.mk ((by rw [hg]; exact (below_size (by repeat (first | (with_reducible first | exact HB.out | apply below_alloc | apply pw_below_drewN | apply below_drew1 | refine below_set ?_ GE199.out) | exact HB.out))) : w.heap.size ≤ gb201)); have n5_ := Aside0.mk ((by rw [hg]; exact Nat.ne_of_lt (blk_lt (g := gb199) (o := .cells #[.int .i64 a0_0, .slice (some ad200) l0_1.length c0_1, .slice A0_2 l0_2.length c0_2] 25 (0, 0)) (by (with_reducible repeat (first | refine blk_drewN ?_ _ | refine blk_drew ?_ | refine blk_alloc ?_ _)); exact BK199.out)) : gb199 ≠ gb201)); have n6_ := Aside0.mk ((by rw [hg]; exact Nat.ne_of_gt (blk_lt (g := gb199) (o := .cells #[.int .i64 a0_0, .slice (some ad200) l0_1.length c0_1, .slice A0_2 l0_2.length c0_2] 25 (0, 0)) (by (with_reducible repeat (first | refine blk_drewN ?_ _ | refine blk_drew ?_ | refine blk_alloc ?_ _)); exact BK199.out)) : gb201 ≠ gb199)); clear BK199; clear HB; have BK199 := n0_; have HB := n1_; have BK201 := n2_; have GW201 := n3_; have GE201 := n4_; have NB199_201 := n5_; have NB201_199 := n6_; clear n0_ n1_ n2_ n3_ n4_ n5_ n6_; clear hb hbox hg; have hnb35 := NB201_199.out; have hnc35 := NB199_201.out; have hcz36_0 : w34.cell? ⟨gb201, 0, none⟩ = some (.int .i64 0) := (blk_cell BK201.out 0).trans rfl; have hcz36_1 : w34.cell? ⟨gb201, 1, none⟩ = some (.int .i64 0) := (blk_cell BK201.out 1).trans rfl; have hfz36_0 := blk_frozen BK201.out 0; have hfz36_1 := blk_frozen BK201.out 1; have hcz37_0 : w34.cell? ⟨gb199, 0, none⟩ = some (.int .i64 a0_0) := (blk_cell BK199.out 0).trans rfl; have hcz37_1 : w34.cell? ⟨gb199, 1, none⟩ = some (.slice (some ad200) l0_1.length c0_1) := (blk_cell BK199.out 1).trans rfl; have hcz37_2 : w34.cell? ⟨gb199, 2, none⟩ = some (.slice A0_2 l0_2.length c0_2) := (blk_cell BK199.out 2).trans rfl; have hfz37_0 := blk_frozen BK199.out 0; have hfz37_1 := blk_frozen BK199.out 1; have hfz37_2 := blk_frozen BK199.out 2))
                              go_ret2
                              exact ⟨by first | rfl | (simp [errW_none, errW_some] <;> rfl) | (simp [*, errW_none, errW_some] <;> rfl), by repeat (first | (with_reducible first | exact HB.out | apply below_alloc | apply pw_below_drewN | apply below_drew1 | refine below_set ?_ GE199.out | refine below_set ?_ GE201.out) | exact HB.out)⟩
                            · rw [if_neg c32] at H
                              have c32b0 : decide ((l0_2.length : Int) ≤ ((rd_T63 l0_1 x4_3).f1)) = false := decide_eq_false c32
                              clear c32
                              have H' := Aside0.mk H
                              clear H
                              have hcz38_0 : wr.cell? ⟨gb199, 0, none⟩ = some (.int .i64 a0_0) := (blk_cell BK199.out 0).trans rfl
                              have hcz38_1 : wr.cell? ⟨gb199, 1, none⟩ = some (.slice A0_1 l0_1.length c0_1) := (blk_cell BK199.out 1).trans rfl
                              have hcz38_2 : wr.cell? ⟨gb199, 2, none⟩ = some (.slice A0_2 l0_2.length c0_2) := (blk_cell BK199.out 2).trans rfl
                              have hfz38_0 := blk_frozen BK199.out 0
                              have hfz38_1 := blk_frozen BK199.out 1
                              have hfz38_2 := blk_frozen BK199.out 2
                              have p200 : 0 ≤ (x4_3 : Int) := of_decide_eq_true (by first | (with_reducible assumption) | assumption)
                              have q200 : x4_3 < (l0_1.length : Int) := of_decide_eq_true (by first | (with_reducible assumption) | assumption)
                              obtain ⟨ad200, e200, hx200_0, hx200_1⟩ := at_T63 HR0_1.out x4_3 p200 q200
                              cases e200
                              replace hx200_0 := (HB.out.cell (World.block_lt_of_cell? w _ hx200_0)).trans hx200_0
                              replace hx200_1 := (HB.out.cell (World.block_lt_of_cell? w _ hx200_1)).trans hx200_1
                              replace p200 := eq_true p200
                              replace q200 := eq_true q200
                              go_wp2_with (first | ((with_reducible refine gate_dst (N := 5) rfl ?_); (try (refine gate_guard (by rfl) ?_; dsimp only)); refine box_event ?hg (N := 5) ?hd (cs := #[.int .i64 0, .int .i64 0]) (t := 63) ?hr ?_; (case hd => rfl); (case hg => rfl); (case hr => first | (go_simp; done) | (go_simp; rfl)); intro gb201 hg w39 hbox hb; have n0_ := Aside0.mk (blk_below (g := gb199) (o := .cells #[.int .i64 a0_0, .slice (some ad200) l0_1.length c0_1, .slice A0_2 l0_2.length c0_2] 25 (0, 0)) (by (with_reducible repeat (first | refine blk_drewN ?_ _ | refine blk_drew ?_ | refine blk_alloc ?_ _)); exact BK199.out) hb); have n1_ := Aside0.mk (below_step (by repeat (first | (with_reducible first | exact HB.out | apply below_alloc | apply pw_below_drewN | apply below_drew1 | refine below_set ?_ GE199.out) | exact HB.out)) hb); have n2_ := Aside0.mk (hbox); have n3_ := Aside0.mk ((by rw [hg]; exact (below_size (by repeat (first | (with_reducible first | exact HB.out | apply below_alloc | apply pw_below_drewN | apply below_drew1 | refine below_set ?_ GE199.out) | exact HB.out))) : w.heap.size ≤ gb201)); have n4_ := Aside0.mk ((by rw [hg]; exact (below_size (by repeat (first | (with_reducible first | exact HB.out | apply below_alloc | apply pw_below_drewN | apply below_drew1 | refine below_set ?_ GE199.out) | exact HB.out))) : w.heap.size ≤ gb201)); have n5_ := Aside0.mk ((by rw [hg]; exact Nat.ne_of_lt (blk_lt (g := gb199) (o := .cells #[.int .i64 a0_0, .slice (some ad200) l0_1.length c0_1, .slice A0_2 l0_2.length c0_2] 25 (0, 0)) (by (with_reducible repeat (first | refine blk_drewN ?_ _ | refine blk_drew ?_ | refine blk_alloc ?_ _)); exact BK199.out)) : gb199 ≠ gb201)); have n6_ := Aside0.mk ((by rw [hg]; exact Nat.ne_of_gt (blk_lt (g := gb199) (o := .cells #[.int .i64 a0_0, .slice (some ad200) l0_1.length c0_1, .slice A0_2 l0_2.length c0_2] 25 (0, 0)) (by (with_reducible repeat (first | refine blk_drewN ?_ _ | refine blk_drew ?_ | refine blk_alloc ?_ _)); exact BK199.out)) : gb201 ≠ gb199)); clear BK199; clear HB; have BK199 := n0_; have HB := n1_; have BK201 := n2_; have GW201 := n3_; have GE201 := n4_; have NB199_201 := n5_; have NB201_199 := n6_; clear n0_ n1_ n2_ n3_ n4_ n5_ n6_; clear hb hbox hg; have hnb40 := NB201_199.out; have hnc40 := NB199_201.out; have hcz41_0 : w39.cell? ⟨gb201, 0, none⟩ = some (.int .i64 0) := (blk_cell BK201.out 0).trans rfl; have hcz41_1 : w39.cell? ⟨gb201, 1, none⟩ = some (.int .i64 0) := (blk_cell BK201.out 1).trans rfl; have hfz41_0 := blk_frozen BK201.out 0; have hfz41_1 := blk_frozen BK201.out 1; have hcz42_0 : w39.cell? ⟨gb199, 0, none⟩ = some (.int .i64 a0_0) := (blk_cell BK199.out 0).trans rfl; have hcz42_1 : w39.cell? ⟨gb199, 1, none⟩ = some (.slice (some ad200) l0_1.length c0_1) := (blk_cell BK199.out 1).trans rfl; have hcz42_2 : w39.cell? ⟨gb199, 2, none⟩ = some (.slice A0_2 l0_2.length c0_2) := (blk_cell BK199.out 2).trans rfl; have hfz42_0 := blk_frozen BK199.out 0; have hfz42_1 := blk_frozen BK199.out 1; have hfz42_2 := blk_frozen BK199.out 2))
                              go_roundg k3
                              case measure => have := HJ1.out; have := HJ7.out; have := HK3.out; omega
                              case rel => exact ⟨(wrap64 (x4_3 + 1)), (by first | rfl | (simp; done) | (simp [*]; done) | (simp [Int.tdiv_eq_ediv_of_nonneg]; done)), H', ⟨by have := HJ1.out; have := HJ7.out; have := HK3.out; omega⟩, ⟨by (with_reducible repeat (first | refine blk_drewN ?_ _ | refine blk_drew ?_ | refine blk_alloc ?_ _)); refine blk_far ?_ NB199_201.out _; (with_reducible repeat (first | refine blk_drewN ?_ _ | refine blk_drew ?_ | refine blk_alloc ?_ _)); refine blk_far ?_ NB199_201.out _; (with_reducible repeat (first | refine blk_drewN ?_ _ | refine blk_drew ?_ | refine blk_alloc ?_ _)); exact BK199.out⟩, ⟨by repeat (first | (with_reducible first | exact HB.out | apply below_alloc | apply pw_below_drewN | apply below_drew1 | refine below_set ?_ GE199.out | refine below_set ?_ GE201.out) | exact HB.out)⟩⟩
                    · rw [if_neg c16] at H
                      exact absurd H (by simp)
                  · rw [if_neg c15] at H
                    have c15b0 : decide (x4_3 < (l0_1.length : Int)) = false := decide_eq_false c15
                    clear c15
                    have H' := Aside0.mk H
                    clear H
                    have hcz43_0 : wr.cell? ⟨gb199, 0, none⟩ = some (.int .i64 a0_0) := (blk_cell BK199.out 0).trans rfl
                    have hcz43_1 : wr.cell? ⟨gb199, 1, none⟩ = some (.slice A0_1 l0_1.length c0_1) := (blk_cell BK199.out 1).trans rfl
                    have hcz43_2 : wr.cell? ⟨gb199, 2, none⟩ = some (.slice A0_2 l0_2.length c0_2) := (blk_cell BK199.out 2).trans rfl
                    have hfz43_0 := blk_frozen BK199.out 0
                    have hfz43_1 := blk_frozen BK199.out 1
                    have hfz43_2 := blk_frozen BK199.out 2
                    go_wp2
                    go_loopg [6] k3 (fun kq v6 w' => ∃ (x6_4 : Int), v6 = .int .i64 x6_4 ∧ Aside0 (watchbillref8_CheckSet.l1 kq x6_4 a0_0 l0_1 l0_2 = some (r1, r2)) ∧ Aside0 (kq ≤ k3) ∧ Aside0 (w'.heap[gb199]? = some (.cells #[.int .i64 a0_0, (.slice A0_1 l0_1.length c0_1), (.slice A0_2 l0_2.length c0_2)] 25 (0, 0))) ∧ Aside0 (Below w.heap.size w w'))
                    case atStart => exact ⟨(0), (by first | rfl | (simp; done) | (simp [*]; done) | (simp [Int.tdiv_eq_ediv_of_nonneg]; done)), H', ⟨Nat.le_refl _⟩, ⟨by (with_reducible repeat (first | refine blk_drewN ?_ _ | refine blk_drew ?_ | refine blk_alloc ?_ _)); exact BK199.out⟩, ⟨by repeat (first | (with_reducible first | exact HB.out | apply below_alloc | apply pw_below_drewN | apply below_drew1 | refine below_set ?_ GE199.out) | exact HB.out)⟩⟩
                    case round =>
                      clear H'
                      try clear c1
                      try clear c2
                      try clear p2
                      try clear q2
                      try clear hx2
                      try clear c3
                      try clear c4
                      try clear c4b0
                      try clear p6
                      try clear c7
                      try clear c8
                      try clear c9
                      try clear c9b0
                      try clear c9b1
                      try clear c11
                      try clear c11b0
                      try clear c11b1
                      try clear c14
                      try clear c15
                      try clear c15b0
                      try clear c16
                      try clear c16b0
                      try clear c17
                      try clear c17b0
                      try clear c20
                      try clear p20
                      try clear q20
                      try clear hx20
                      try clear c22
                      try clear c22b0
                      try clear c25
                      try clear c27
                      try clear c27b0
                      try clear c30
                      try clear c32
                      try clear c32b0
                      try clear c35
                      try clear c40
                      try clear hcz10_0
                      try clear hcz10_1
                      try clear hcz10_2
                      try clear hcz12_0
                      try clear hcz12_1
                      try clear hcz12_2
                      try clear hcz13_0
                      try clear hcz13_1
                      try clear hcz13_2
                      try clear hcz18_0
                      try clear hcz18_1
                      try clear hcz18_2
                      try clear hcz21_0
                      try clear hcz21_1
                      try clear hcz23_0
                      try clear hcz23_1
                      try clear hcz23_2
                      try clear hcz26_0
                      try clear hcz26_1
                      try clear hcz28_0
                      try clear hcz28_1
                      try clear hcz28_2
                      try clear hcz31_0
                      try clear hcz31_1
                      try clear hcz33_0
                      try clear hcz33_1
                      try clear hcz33_2
                      try clear hcz36_0
                      try clear hcz36_1
                      try clear hcz37_0
                      try clear hcz37_1
                      try clear hcz37_2
                      try clear hcz38_0
                      try clear hcz38_1
                      try clear hcz38_2
                      try clear hcz41_0
                      try clear hcz41_1
                      try clear hcz42_0
                      try clear hcz42_1
                      try clear hcz42_2
                      try clear hcz43_0
                      try clear hcz43_1
                      try clear hcz43_2
                      try clear hcz5_0
                      try clear hcz5_1
                      try clear hcz5_2
                      try clear hcz6_0
                      try clear hcz6_1
                      try clear hcz6_2
                      try clear hfz10_0
                      try clear hfz10_1
                      try clear hfz10_2
                      try clear hfz12_0
                      try clear hfz12_1
                      try clear hfz12_2
                      try clear hfz13_0
                      try clear hfz13_1
                      try clear hfz13_2
                      try clear hfz18_0
                      try clear hfz18_1
                      try clear hfz18_2
                      try clear hfz21_0
                      try clear hfz21_1
                      try clear hfz23_0
                      try clear hfz23_1
                      try clear hfz23_2
                      try clear hfz26_0
                      try clear hfz26_1
                      try clear hfz28_0
                      try clear hfz28_1
                      try clear hfz28_2
                      try clear hfz31_0
                      try clear hfz31_1
                      try clear hfz33_0
                      try clear hfz33_1
                      try clear hfz33_2
                      try clear hfz36_0
                      try clear hfz36_1
                      try clear hfz37_0
                      try clear hfz37_1
                      try clear hfz37_2
                      try clear hfz38_0
                      try clear hfz38_1
                      try clear hfz38_2
                      try clear hfz41_0
                      try clear hfz41_1
                      try clear hfz42_0
                      try clear hfz42_1
                      try clear hfz42_2
                      try clear hfz43_0
                      try clear hfz43_1
                      try clear hfz43_2
                      try clear hfz5_0
                      try clear hfz5_1
                      try clear hfz5_2
                      try clear hfz6_0
                      try clear hfz6_1
                      try clear hfz6_2
                      try clear hx200_0
                      try clear hx200_1
                      try clear p2
                      try clear p200
                      try clear q200
                      obtain ⟨x6_4, rfl, HA, HK4, BK199, HB⟩ := hrel
                      cases gk with
                      | zero => exact absurd HA.out (by simp [watchbillref8_CheckSet.l1])
                      | succ k4 =>
                        have H := HA.out
                        clear HA
                        simp only [watchbillref8_CheckSet.l1] at H
                        by_cases c44 : x6_4 < (l0_2.length : Int)
                        · rw [if_pos c44] at H
                          have c44b0 : decide (x6_4 < (l0_2.length : Int)) = true := decide_eq_true c44
                          clear c44
                          replace H := Option.bind_eq_some_iff.mp H
                          obtain ⟨t202, A450, H⟩ := H
                          replace H : (if t202 = 0 then (watchbillref8_CheckSet.l1 k4 (wrap64 (x6_4 + 1)) a0_0 l0_1 l0_2) else (some (x6_4, t202))) = some (r1, r2) := H
                          have A45 := Aside0.mk A450
                          clear A450
                          by_cases c46 : t202 = 0
                          · rw [if_pos c46] at H
                            have c46b0 : (t202 == 0) = true := beq_iff_eq.mpr c46
                            have c46b1 : (t202 != 0) = false := bne_eq_false_iff_eq.mpr c46
                            clear c46
                            have H' := Aside0.mk H
                            clear H
                            have hcz47_0 : wr.cell? ⟨gb199, 0, none⟩ = some (.int .i64 a0_0) := (blk_cell BK199.out 0).trans rfl
                            have hcz47_1 : wr.cell? ⟨gb199, 1, none⟩ = some (.slice A0_1 l0_1.length c0_1) := (blk_cell BK199.out 1).trans rfl
                            have hcz47_2 : wr.cell? ⟨gb199, 2, none⟩ = some (.slice A0_2 l0_2.length c0_2) := (blk_cell BK199.out 2).trans rfl
                            have hfz47_0 := blk_frozen BK199.out 0
                            have hfz47_1 := blk_frozen BK199.out 1
                            have hfz47_2 := blk_frozen BK199.out 2
                            go_wp2_with (first | ((with_reducible refine gate_callee (f := 23) rfl ?_); refine goesL_ (some 74) rfl rfl Try.func23 (by kernel_rfl) rfl #[.agg #[.int .i64 a0_0, .slice A0_1 l0_1.length c0_1, .slice A0_2 l0_2.length c0_2], .int .i64 x6_4] rfl (by (try simp only [List.map_toArray, List.map_cons, List.map_nil]); first | done | rfl | (simp only [List.length_drop, List.length_take]; rfl)) ?_; (with_reducible refine (watchbillref8_checkTask.calls k4 a0_0 _ _ l0_1 _ _ l0_2 x6_4 t202 _ ?side1 ?side2 ?side3 ?side4 A45.out).mono ?_); (case side1 => repeat (first | exact (Kd.C_below HR0_1.out HB.out) | (with_reducible refine Kd.C_alloc ?_ _) | (with_reducible refine Kd.C_drewN ?_ _) | (with_reducible refine Kd.C_drew ?_))); (case side2 => exact HC0_1.out); (case side3 => repeat (first | exact (Kd.C_below HR0_2.out HB.out) | (with_reducible refine Kd.C_alloc ?_ _) | (with_reducible refine Kd.C_drewN ?_ _) | (with_reducible refine Kd.C_drew ?_))); (case side4 => exact HC0_2.out); rintro e w48 ⟨rfl, hb⟩; refine ⟨_, rfl, ?_⟩; have n0_ := Aside0.mk (blk_below (g := gb199) (o := .cells #[.int .i64 a0_0, .slice A0_1 l0_1.length c0_1, .slice A0_2 l0_2.length c0_2] 25 (0, 0)) (by (with_reducible repeat (first | refine blk_drewN ?_ _ | refine blk_drew ?_ | refine blk_alloc ?_ _)); exact BK199.out) hb); have n1_ := Aside0.mk (below_step (by repeat (first | (with_reducible first | exact HB.out | apply below_alloc | apply pw_below_drewN | apply below_drew1 | refine below_set ?_ GE199.out) | exact HB.out)) hb); clear BK199; clear HB; have BK199 := n0_; have HB := n1_; clear n0_ n1_; (try clear hb); (try clear hb2); (try clear hk); (try clear hi)))
                            go_roundg k4
                            case measure => have := HJ1.out; have := HJ7.out; have := HK3.out; have := HK4.out; omega
                            case rel => exact ⟨(wrap64 (x6_4 + 1)), (by first | rfl | (simp; done) | (simp [*]; done) | (simp [Int.tdiv_eq_ediv_of_nonneg]; done)), H', ⟨by have := HJ1.out; have := HJ7.out; have := HK3.out; have := HK4.out; omega⟩, ⟨by (with_reducible repeat (first | refine blk_drewN ?_ _ | refine blk_drew ?_ | refine blk_alloc ?_ _)); exact BK199.out⟩, ⟨by repeat (first | (with_reducible first | exact HB.out | apply below_alloc | apply pw_below_drewN | apply below_drew1 | refine below_set ?_ GE199.out) | exact HB.out)⟩⟩
                          · rw [if_neg c46] at H
                            have c46b0 : (t202 == 0) = false := beq_eq_false_iff_ne.mpr c46
                            have c46b1 : (t202 != 0) = true := bne_iff_ne.mpr c46
                            simp only [Option.some.injEq, Prod.mk.injEq] at H
                            obtain ⟨rfl, rfl⟩ := H
                            have hcz49_0 : wr.cell? ⟨gb199, 0, none⟩ = some (.int .i64 a0_0) := (blk_cell BK199.out 0).trans rfl
                            have hcz49_1 : wr.cell? ⟨gb199, 1, none⟩ = some (.slice A0_1 l0_1.length c0_1) := (blk_cell BK199.out 1).trans rfl
                            have hcz49_2 : wr.cell? ⟨gb199, 2, none⟩ = some (.slice A0_2 l0_2.length c0_2) := (blk_cell BK199.out 2).trans rfl
                            have hfz49_0 := blk_frozen BK199.out 0
                            have hfz49_1 := blk_frozen BK199.out 1
                            have hfz49_2 := blk_frozen BK199.out 2
                            go_wp2_with (first | ((with_reducible refine gate_callee (f := 23) rfl ?_); refine goesL_ (some 74) rfl rfl Try.func23 (by kernel_rfl) rfl #[.agg #[.int .i64 a0_0, .slice A0_1 l0_1.length c0_1, .slice A0_2 l0_2.length c0_2], .int .i64 x6_4] rfl (by (try simp only [List.map_toArray, List.map_cons, List.map_nil]); first | done | rfl | (simp only [List.length_drop, List.length_take]; rfl)) ?_; (with_reducible refine (watchbillref8_checkTask.calls k4 a0_0 _ _ l0_1 _ _ l0_2 x6_4 t202 _ ?side1 ?side2 ?side3 ?side4 A45.out).mono ?_); (case side1 => repeat (first | exact (Kd.C_below HR0_1.out HB.out) | (with_reducible refine Kd.C_alloc ?_ _) | (with_reducible refine Kd.C_drewN ?_ _) | (with_reducible refine Kd.C_drew ?_))); (case side2 => exact HC0_1.out); (case side3 => repeat (first | exact (Kd.C_below HR0_2.out HB.out) | (with_reducible refine Kd.C_alloc ?_ _) | (with_reducible refine Kd.C_drewN ?_ _) | (with_reducible refine Kd.C_drew ?_))); (case side4 => exact HC0_2.out); rintro e w50 ⟨rfl, hb⟩; refine ⟨_, rfl, ?_⟩; have n0_ := Aside0.mk (blk_below (g := gb199) (o := .cells #[.int .i64 a0_0, .slice A0_1 l0_1.length c0_1, .slice A0_2 l0_2.length c0_2] 25 (0, 0)) (by (with_reducible repeat (first | refine blk_drewN ?_ _ | refine blk_drew ?_ | refine blk_alloc ?_ _)); exact BK199.out) hb); have n1_ := Aside0.mk (below_step (by repeat (first | (with_reducible first | exact HB.out | apply below_alloc | apply pw_below_drewN | apply below_drew1 | refine below_set ?_ GE199.out) | exact HB.out)) hb); clear BK199; clear HB; have BK199 := n0_; have HB := n1_; clear n0_ n1_; (try clear hb); (try clear hb2); (try clear hk); (try clear hi)))
                            go_ret2
                            exact ⟨by first | rfl | (simp [errW_none, errW_some] <;> rfl) | (simp [*, errW_none, errW_some] <;> rfl), by repeat (first | (with_reducible first | exact HB.out | apply below_alloc | apply pw_below_drewN | apply below_drew1 | refine below_set ?_ GE199.out) | exact HB.out)⟩
                        · rw [if_neg c44] at H
                          have c44b0 : decide (x6_4 < (l0_2.length : Int)) = false := decide_eq_false c44
                          clear c44
                          simp only [Option.some.injEq, Prod.mk.injEq] at H
                          obtain ⟨rfl, rfl⟩ := H
                          have hcz51_0 : wr.cell? ⟨gb199, 0, none⟩ = some (.int .i64 a0_0) := (blk_cell BK199.out 0).trans rfl
                          have hcz51_1 : wr.cell? ⟨gb199, 1, none⟩ = some (.slice A0_1 l0_1.length c0_1) := (blk_cell BK199.out 1).trans rfl
                          have hcz51_2 : wr.cell? ⟨gb199, 2, none⟩ = some (.slice A0_2 l0_2.length c0_2) := (blk_cell BK199.out 2).trans rfl
                          have hfz51_0 := blk_frozen BK199.out 0
                          have hfz51_1 := blk_frozen BK199.out 1
                          have hfz51_2 := blk_frozen BK199.out 2
                          go_wp2
                          go_ret2
                          exact ⟨by first | rfl | (simp [errW_none, errW_some] <;> rfl) | (simp [*, errW_none, errW_some] <;> rfl), by repeat (first | (with_reducible first | exact HB.out | apply below_alloc | apply pw_below_drewN | apply below_drew1 | refine below_set ?_ GE199.out) | exact HB.out)⟩

/-! ### watchbilllaw5_Few: function 41 -/
def watchbilllaw5_Few.f (a0_0 : Int) (a0_1 : Int) (a0_2 : Int) (a0_3 : Int) (l0_4 : List (S109)) : Option (Bool) := some (decide ((l0_4.length : Int) ≤ 20))
set_option maxHeartbeats 8000000 in
set_option maxRecDepth 100000 in
theorem watchbilllaw5_Few.calls (a0_0 : Int) (a0_1 : Int) (a0_2 : Int) (a0_3 : Int) (A0_4 : Option Addr) (c0_4 : Nat) (l0_4 : List (S109)) (r : Bool) (w : World) (hr0_4 : Kd.C k109 w A0_4 l0_4.length l0_4) (hc0_4 : l0_4.length ≤ c0_4) (h : watchbilllaw5_Few.f a0_0 a0_1 a0_2 a0_3 l0_4 = some r) :
    Calls Try.prog 41 #[.agg #[.int .i64 a0_0, .int .i64 a0_1, .int .i64 a0_2, .int .i64 a0_3, .slice A0_4 l0_4.length c0_4]] w fun e w' => e = .returned (.bool r) ∧ Below w.heap.size w w' := by
  have hu92 := Try.underlying92
  have HR0_4 := Aside0.mk hr0_4
  have HC0_4 := Aside0.mk hc0_4
  clear hr0_4 hc0_4
  have HB := Aside0.mk (Below.refl w.heap.size w)
  have H : (some (decide ((l0_4.length : Int) ≤ 20))) = some r := h
  clear h
  obtain rfl := Option.some.inj H
  go_enter Try.func41, Try.ntmps41
  go_wp2_with (first | ((with_reducible refine gate_dst (N := 1) rfl ?_); refine box_event ?hg (N := 1) ?hd (cs := #[.int .i64 a0_0, .int .i64 a0_1, .int .i64 a0_2, .int .i64 a0_3, .slice A0_4 l0_4.length c0_4]) (t := 92) ?hr ?_; (case hd => rfl); (case hg => rfl); (case hr => first | (go_simp; done) | (go_simp; rfl)); intro gb203 hg w2 hbox hb; have n0_ := Aside0.mk (below_step (by repeat (first | (with_reducible first | exact HB.out | apply below_alloc | apply pw_below_drewN | apply below_drew1) | exact HB.out)) hb); have n1_ := Aside0.mk (hbox); have n2_ := Aside0.mk ((by rw [hg]; exact (below_size (by repeat (first | (with_reducible first | exact HB.out | apply below_alloc | apply pw_below_drewN | apply below_drew1) | exact HB.out))) : w.heap.size ≤ gb203)); have n3_ := Aside0.mk ((by rw [hg]; exact (below_size (by repeat (first | (with_reducible first | exact HB.out | apply below_alloc | apply pw_below_drewN | apply below_drew1) | exact HB.out))) : w.heap.size ≤ gb203)); clear HB; have HB := n0_; have BK203 := n1_; have GW203 := n2_; have GE203 := n3_; clear n0_ n1_ n2_ n3_; clear hb hbox hg; have hcz3_0 : w2.cell? ⟨gb203, 0, none⟩ = some (.int .i64 a0_0) := (blk_cell BK203.out 0).trans rfl; have hcz3_1 : w2.cell? ⟨gb203, 1, none⟩ = some (.int .i64 a0_1) := (blk_cell BK203.out 1).trans rfl; have hcz3_2 : w2.cell? ⟨gb203, 2, none⟩ = some (.int .i64 a0_2) := (blk_cell BK203.out 2).trans rfl; have hcz3_3 : w2.cell? ⟨gb203, 3, none⟩ = some (.int .i64 a0_3) := (blk_cell BK203.out 3).trans rfl; have hcz3_4 : w2.cell? ⟨gb203, 4, none⟩ = some (.slice A0_4 l0_4.length c0_4) := (blk_cell BK203.out 4).trans rfl; have hfz3_0 := blk_frozen BK203.out 0; have hfz3_1 := blk_frozen BK203.out 1; have hfz3_2 := blk_frozen BK203.out 2; have hfz3_3 := blk_frozen BK203.out 3; have hfz3_4 := blk_frozen BK203.out 4))
  go_ret
  exact ⟨by first | rfl | (simp [errW_none, errW_some] <;> rfl) | (simp [*, errW_none, errW_some] <;> rfl), by repeat (first | (with_reducible first | exact HB.out | apply below_alloc | apply pw_below_drewN | apply below_drew1 | refine below_set ?_ GE203.out) | exact HB.out)⟩

end Go.Proofs.Ythdmomaephiodaa.XA
