-- PRINTED by print.py (a twelfth state) out of the translation. Not trusted: Lean checks it.
import Derived.Test.YtniphoeoeekpbaaXAx0
import Derived.Test.YtniphoeoeekpbaaXAx2
import Derived.Test.YtniphoeoeekpbaaXAx5
namespace Go.Proofs.Ytniphoeoeekpbaa.XA
open Go.RowKit Go.Proofs.YtniphoeoeekpbaaW.PrintWords Go.Proofs.YtniphoeoeekpbaaW.PrintLast Go.Proofs.YtniphoeoeekpbaaW.PrintMore
attribute [local go_sem] max2_int min2_int max_two min_two max_three min_three max_four min_four   -- for this text's walks alone
set_option linter.unusedVariables false
set_option linter.unusedSimpArgs false

/-! ### watchbilllaw10_CeilUsers: function 4 -/
mutual
def watchbilllaw10_CeilUsers.j0 : Nat → List Int → Int → Int → Bool → Option (Bool)
  | 0, _, _, _, _ => none
  | k + 1, x0, x1, x2, x27 => if x27 = true then (some true) else (if 8 ≤ 35184372088832 then (watchbilllaw10_CeilUsers.l0 k x0 (wrap64 (1 + (wrap64 (Int.tmod x1 20)))) (wrap64 (1 + (wrap64 (Int.tmod x2 30)))) (List.replicate 8 0) 0 8 ([] : List (S56))) else (none))
def watchbilllaw10_CeilUsers.l0 : Nat → List Int → Int → Int → List Int → Int → Int → List (S56) → Option (Bool)
  | 0, _, _, _, _, _, _, _ => none
  | k + 1, x0, x7, x8, x10, x11, x193000, x193002 => if x11 < (x0.length : Int) then (watchbilllaw10_CeilUsers.l1 k x0 x7 x8 x10 x11 (([(⟨1, 1, 0, 0, ([] : List (S98))⟩ : S52)] : List (S52))) 0 x193000 x193002) else ((ceil_Of.f k x193000 ([] : List (S64)) x193002).bind fun t214 => ((watchbilllaw1_Ints.f k t214 x10).bind fun t217 => (if t217 = true then (watchbilllaw10_CeilUsers.l2 k x0 x7 x8 0 x193000 x193002) else (some false))))
def watchbilllaw10_CeilUsers.l1 : Nat → List Int → Int → Int → List Int → Int → List (S52) → Int → Int → List (S56) → Option (Bool)
  | 0, _, _, _, _, _, _, _, _, _ => none
  | k + 1, x0, x7, x8, x10, x11, x12, x13, x193000, x193002 => if x13 < 8 then (if 0 ≤ x11 then (if x11 < (x0.length : Int) then (if 0 ≤ (IntKind.u64.wrap (x13)) then (if (Go.bits .and .u8 (shr .u8 (rd x0 x11) (IntKind.u64.wrap (x13))) 1) = 0 then (watchbilllaw10_CeilUsers.l1 k x0 x7 x8 x10 x11 x12 (wrap64 (x13 + 1)) x193000 x193002) else ((some (([(⟨2, x13, 0, 0, ([] : List (S98))⟩ : S52), (⟨1, x7, 0, 0, ([] : List (S98))⟩ : S52), (⟨3, x13, 0, 0, ([] : List (S98))⟩ : S52)] : List (S52)) : List (S52))).bind fun y200 => (if x12.length + y200.length < 2513169434916 then (if 0 ≤ x13 then (if x13 < (x10.length : Int) then (watchbilllaw10_CeilUsers.l1 k x0 x7 x8 (x10.set (x13 : Int).toNat (mx (rd x10 x13) (wrap64 ((x0.length : Int) - x11)))) x11 (x12 ++ y200) (wrap64 (x13 + 1)) x193000 x193002) else (none)) else (none)) else (none)))) else (none)) else (none)) else (none)) else (if x193002.length < 2199023255552 then (watchbilllaw10_CeilUsers.l0 k x0 x7 x8 x10 (wrap64 (x11 + 1)) x193000 (x193002 ++ [(⟨strOfNums (([(wrap64 (97 + x11)) % 256] : List Int)), 900, wrap64 (100 + x11), x8, x12⟩ : S56)])) else (none))
def watchbilllaw10_CeilUsers.l2 : Nat → List Int → Int → Int → Int → Int → List (S56) → Option (Bool)
  | 0, _, _, _, _, _, _ => none
  | k + 1, x0, x7, x8, x14, x193000, x193002 => if x14 < 8 then ((ceil_Sections.f k x193000 ([] : List (S64)) x193002 x14).bind fun t218 => (if (t218.length : Int) = (x0.length : Int) then (watchbilllaw10_CeilUsers.l3 k x0 x7 x8 x14 t218 0 x193000 x193002) else (some false))) else (some true)
def watchbilllaw10_CeilUsers.l3 : Nat → List Int → Int → Int → Int → List Int → Int → Int → List (S56) → Option (Bool)
  | 0, _, _, _, _, _, _, _, _ => none
  | k + 1, x0, x7, x8, x14, x15, x16, x193000, x193002 => if x16 < (x0.length : Int) then (if 0 ≤ x16 then (if 0 ≤ (IntKind.u64.wrap (x14)) then (if (Go.bits .and .u8 (shr .u8 (rd x0 x16) (IntKind.u64.wrap (x14))) 1) = 1 then (if x16 < (x15.length : Int) then (if (rd x15 x16) = (mn x7 x8) then (watchbilllaw10_CeilUsers.l3 k x0 x7 x8 x14 x15 (wrap64 (x16 + 1)) x193000 x193002) else (some false)) else (none)) else (if x16 < (x15.length : Int) then (if (rd x15 x16) = 0 then (watchbilllaw10_CeilUsers.l3 k x0 x7 x8 x14 x15 (wrap64 (x16 + 1)) x193000 x193002) else (some false)) else (none))) else (none)) else (none)) else (watchbilllaw10_CeilUsers.l2 k x0 x7 x8 (wrap64 (x14 + 1)) x193000 x193002)
end
def watchbilllaw10_CeilUsers.f (k : Nat) (l0 : List Int) (a1 : Int) (a2 : Int) : Option (Bool) := (watchbilllaw10_known.f k).bind fun t191 => (if t191 = true then (if (l0.length : Int) < 1 then (watchbilllaw10_CeilUsers.j0 k l0 a1 a2 true) else (watchbilllaw10_CeilUsers.j0 k l0 a1 a2 (decide ((l0.length : Int) > 12)))) else (some false))
theorem watchbilllaw10_CeilUsers.mono_l : ∀ k, (∀ y0 y1 y2 y3, LeO (watchbilllaw10_CeilUsers.j0 k y0 y1 y2 y3) (watchbilllaw10_CeilUsers.j0 (k + 1) y0 y1 y2 y3)) ∧ (∀ y0 y1 y2 y3 y4 y5 y6, LeO (watchbilllaw10_CeilUsers.l0 k y0 y1 y2 y3 y4 y5 y6) (watchbilllaw10_CeilUsers.l0 (k + 1) y0 y1 y2 y3 y4 y5 y6)) ∧ (∀ y0 y1 y2 y3 y4 y5 y6 y7 y8, LeO (watchbilllaw10_CeilUsers.l1 k y0 y1 y2 y3 y4 y5 y6 y7 y8) (watchbilllaw10_CeilUsers.l1 (k + 1) y0 y1 y2 y3 y4 y5 y6 y7 y8)) ∧ (∀ y0 y1 y2 y3 y4 y5, LeO (watchbilllaw10_CeilUsers.l2 k y0 y1 y2 y3 y4 y5) (watchbilllaw10_CeilUsers.l2 (k + 1) y0 y1 y2 y3 y4 y5)) ∧ (∀ y0 y1 y2 y3 y4 y5 y6 y7, LeO (watchbilllaw10_CeilUsers.l3 k y0 y1 y2 y3 y4 y5 y6 y7) (watchbilllaw10_CeilUsers.l3 (k + 1) y0 y1 y2 y3 y4 y5 y6 y7))
  | 0 => ⟨fun _ _ _ _ r h => by simp [watchbilllaw10_CeilUsers.j0] at h, fun _ _ _ _ _ _ _ r h => by simp [watchbilllaw10_CeilUsers.l0] at h, fun _ _ _ _ _ _ _ _ _ r h => by simp [watchbilllaw10_CeilUsers.l1] at h, fun _ _ _ _ _ _ r h => by simp [watchbilllaw10_CeilUsers.l2] at h, fun _ _ _ _ _ _ _ _ r h => by simp [watchbilllaw10_CeilUsers.l3] at h⟩
  | k + 1 => by
    obtain ⟨ih0, ih1, ih2, ih3, ih4⟩ := watchbilllaw10_CeilUsers.mono_l k
    refine ⟨?_, ?_, ?_, ?_, ?_⟩
    · intro y0 y1 y2 y3
      unfold watchbilllaw10_CeilUsers.j0
      repeat' first
      | (with_reducible exact ih0 _ _ _ _)
      | (with_reducible exact ih1 _ _ _ _ _ _ _)
      | (with_reducible exact ih2 _ _ _ _ _ _ _ _ _)
      | (with_reducible exact ih3 _ _ _ _ _ _)
      | (with_reducible exact ih4 _ _ _ _ _ _ _ _)
      | (with_reducible exact ceil_Of.mono _ _ _ _)
      | (with_reducible exact ceil_Sections.mono _ _ _ _ _)
      | (with_reducible exact watchbilllaw10_known.mono _)
      | (with_reducible exact watchbilllaw1_Ints.mono _ _ _)
      | (with_reducible exact LeO.refl _)
      | (with_reducible exact LeO.none _)
      | (with_reducible refine LeO.ite ?_ ?_)
      | (with_reducible refine LeO.bind ?_ (fun _ => ?_))
      | exact ih0 _ _ _ _
      | exact ih1 _ _ _ _ _ _ _
      | exact ih2 _ _ _ _ _ _ _ _ _
      | exact ih3 _ _ _ _ _ _
      | exact ih4 _ _ _ _ _ _ _ _
      | exact ceil_Of.mono _ _ _ _
      | exact ceil_Sections.mono _ _ _ _ _
      | exact watchbilllaw10_known.mono _
      | exact watchbilllaw1_Ints.mono _ _ _
      | exact LeO.none _
      | refine LeO.ite ?_ ?_
      | refine LeO.bind ?_ (fun _ => ?_)
    · intro y0 y1 y2 y3 y4 y5 y6
      unfold watchbilllaw10_CeilUsers.l0
      repeat' first
      | (with_reducible exact ih0 _ _ _ _)
      | (with_reducible exact ih1 _ _ _ _ _ _ _)
      | (with_reducible exact ih2 _ _ _ _ _ _ _ _ _)
      | (with_reducible exact ih3 _ _ _ _ _ _)
      | (with_reducible exact ih4 _ _ _ _ _ _ _ _)
      | (with_reducible exact ceil_Of.mono _ _ _ _)
      | (with_reducible exact ceil_Sections.mono _ _ _ _ _)
      | (with_reducible exact watchbilllaw10_known.mono _)
      | (with_reducible exact watchbilllaw1_Ints.mono _ _ _)
      | (with_reducible exact LeO.refl _)
      | (with_reducible exact LeO.none _)
      | (with_reducible refine LeO.ite ?_ ?_)
      | (with_reducible refine LeO.bind ?_ (fun _ => ?_))
      | exact ih0 _ _ _ _
      | exact ih1 _ _ _ _ _ _ _
      | exact ih2 _ _ _ _ _ _ _ _ _
      | exact ih3 _ _ _ _ _ _
      | exact ih4 _ _ _ _ _ _ _ _
      | exact ceil_Of.mono _ _ _ _
      | exact ceil_Sections.mono _ _ _ _ _
      | exact watchbilllaw10_known.mono _
      | exact watchbilllaw1_Ints.mono _ _ _
      | exact LeO.none _
      | refine LeO.ite ?_ ?_
      | refine LeO.bind ?_ (fun _ => ?_)
    · intro y0 y1 y2 y3 y4 y5 y6 y7 y8
      unfold watchbilllaw10_CeilUsers.l1
      repeat' first
      | (with_reducible exact ih0 _ _ _ _)
      | (with_reducible exact ih1 _ _ _ _ _ _ _)
      | (with_reducible exact ih2 _ _ _ _ _ _ _ _ _)
      | (with_reducible exact ih3 _ _ _ _ _ _)
      | (with_reducible exact ih4 _ _ _ _ _ _ _ _)
      | (with_reducible exact ceil_Of.mono _ _ _ _)
      | (with_reducible exact ceil_Sections.mono _ _ _ _ _)
      | (with_reducible exact watchbilllaw10_known.mono _)
      | (with_reducible exact watchbilllaw1_Ints.mono _ _ _)
      | (with_reducible exact LeO.refl _)
      | (with_reducible exact LeO.none _)
      | (with_reducible refine LeO.ite ?_ ?_)
      | (with_reducible refine LeO.bind ?_ (fun _ => ?_))
      | exact ih0 _ _ _ _
      | exact ih1 _ _ _ _ _ _ _
      | exact ih2 _ _ _ _ _ _ _ _ _
      | exact ih3 _ _ _ _ _ _
      | exact ih4 _ _ _ _ _ _ _ _
      | exact ceil_Of.mono _ _ _ _
      | exact ceil_Sections.mono _ _ _ _ _
      | exact watchbilllaw10_known.mono _
      | exact watchbilllaw1_Ints.mono _ _ _
      | exact LeO.none _
      | refine LeO.ite ?_ ?_
      | refine LeO.bind ?_ (fun _ => ?_)
    · intro y0 y1 y2 y3 y4 y5
      unfold watchbilllaw10_CeilUsers.l2
      repeat' first
      | (with_reducible exact ih0 _ _ _ _)
      | (with_reducible exact ih1 _ _ _ _ _ _ _)
      | (with_reducible exact ih2 _ _ _ _ _ _ _ _ _)
      | (with_reducible exact ih3 _ _ _ _ _ _)
      | (with_reducible exact ih4 _ _ _ _ _ _ _ _)
      | (with_reducible exact ceil_Of.mono _ _ _ _)
      | (with_reducible exact ceil_Sections.mono _ _ _ _ _)
      | (with_reducible exact watchbilllaw10_known.mono _)
      | (with_reducible exact watchbilllaw1_Ints.mono _ _ _)
      | (with_reducible exact LeO.refl _)
      | (with_reducible exact LeO.none _)
      | (with_reducible refine LeO.ite ?_ ?_)
      | (with_reducible refine LeO.bind ?_ (fun _ => ?_))
      | exact ih0 _ _ _ _
      | exact ih1 _ _ _ _ _ _ _
      | exact ih2 _ _ _ _ _ _ _ _ _
      | exact ih3 _ _ _ _ _ _
      | exact ih4 _ _ _ _ _ _ _ _
      | exact ceil_Of.mono _ _ _ _
      | exact ceil_Sections.mono _ _ _ _ _
      | exact watchbilllaw10_known.mono _
      | exact watchbilllaw1_Ints.mono _ _ _
      | exact LeO.none _
      | refine LeO.ite ?_ ?_
      | refine LeO.bind ?_ (fun _ => ?_)
    · intro y0 y1 y2 y3 y4 y5 y6 y7
      unfold watchbilllaw10_CeilUsers.l3
      repeat' first
      | (with_reducible exact ih0 _ _ _ _)
      | (with_reducible exact ih1 _ _ _ _ _ _ _)
      | (with_reducible exact ih2 _ _ _ _ _ _ _ _ _)
      | (with_reducible exact ih3 _ _ _ _ _ _)
      | (with_reducible exact ih4 _ _ _ _ _ _ _ _)
      | (with_reducible exact ceil_Of.mono _ _ _ _)
      | (with_reducible exact ceil_Sections.mono _ _ _ _ _)
      | (with_reducible exact watchbilllaw10_known.mono _)
      | (with_reducible exact watchbilllaw1_Ints.mono _ _ _)
      | (with_reducible exact LeO.refl _)
      | (with_reducible exact LeO.none _)
      | (with_reducible refine LeO.ite ?_ ?_)
      | (with_reducible refine LeO.bind ?_ (fun _ => ?_))
      | exact ih0 _ _ _ _
      | exact ih1 _ _ _ _ _ _ _
      | exact ih2 _ _ _ _ _ _ _ _ _
      | exact ih3 _ _ _ _ _ _
      | exact ih4 _ _ _ _ _ _ _ _
      | exact ceil_Of.mono _ _ _ _
      | exact ceil_Sections.mono _ _ _ _ _
      | exact watchbilllaw10_known.mono _
      | exact watchbilllaw1_Ints.mono _ _ _
      | exact LeO.none _
      | refine LeO.ite ?_ ?_
      | refine LeO.bind ?_ (fun _ => ?_)
theorem watchbilllaw10_CeilUsers.mono : ∀ a0 a1 a2 k, LeO (watchbilllaw10_CeilUsers.f k a0 a1 a2) (watchbilllaw10_CeilUsers.f (k + 1) a0 a1 a2) := by
  intro a0 a1 a2 k
  obtain ⟨ih0, ih1, ih2, ih3, ih4⟩ := watchbilllaw10_CeilUsers.mono_l k
  unfold watchbilllaw10_CeilUsers.f
  repeat' first
      | (with_reducible exact ih0 _ _ _ _)
      | (with_reducible exact ih1 _ _ _ _ _ _ _)
      | (with_reducible exact ih2 _ _ _ _ _ _ _ _ _)
      | (with_reducible exact ih3 _ _ _ _ _ _)
      | (with_reducible exact ih4 _ _ _ _ _ _ _ _)
      | (with_reducible exact ceil_Of.mono _ _ _ _)
      | (with_reducible exact ceil_Sections.mono _ _ _ _ _)
      | (with_reducible exact watchbilllaw10_known.mono _)
      | (with_reducible exact watchbilllaw1_Ints.mono _ _ _)
      | (with_reducible exact LeO.refl _)
      | (with_reducible exact LeO.none _)
      | (with_reducible refine LeO.ite ?_ ?_)
      | (with_reducible refine LeO.bind ?_ (fun _ => ?_))
      | exact ih0 _ _ _ _
      | exact ih1 _ _ _ _ _ _ _
      | exact ih2 _ _ _ _ _ _ _ _ _
      | exact ih3 _ _ _ _ _ _
      | exact ih4 _ _ _ _ _ _ _ _
      | exact ceil_Of.mono _ _ _ _
      | exact ceil_Sections.mono _ _ _ _ _
      | exact watchbilllaw10_known.mono _
      | exact watchbilllaw1_Ints.mono _ _ _
      | exact LeO.none _
      | refine LeO.ite ?_ ?_
      | refine LeO.bind ?_ (fun _ => ?_)
set_option maxHeartbeats 8000000 in
set_option maxRecDepth 100000 in
theorem watchbilllaw10_CeilUsers.calls (k : Nat) (A0 : Option Addr) (c0 : Nat) (l0 : List Int) (a1 : Int) (a2 : Int) (r : Bool) (w : World) (hr0 : Kd.C (Kd.int .u8) w A0 l0.length l0) (hc0 : l0.length ≤ c0) (h : watchbilllaw10_CeilUsers.f k l0 a1 a2 = some r) :
    Calls Try.prog 4 #[.slice A0 l0.length c0, .int .u8 a1, .int .u8 a2] w fun e w' => e = .returned (.bool r) ∧ Below w.heap.size w w' := by
  have hu33 := Try.underlying33
  have hu52 := Try.underlying52
  have hu56 := Try.underlying56
  have HR0 := Aside0.mk hr0
  have HC0 := Aside0.mk hc0
  clear hr0 hc0
  have HB := Aside0.mk (Below.refl w.heap.size w)
  have H : ((watchbilllaw10_known.f k).bind fun t191 => (if t191 = true then (if (l0.length : Int) < 1 then (watchbilllaw10_CeilUsers.j0 k l0 a1 a2 true) else (watchbilllaw10_CeilUsers.j0 k l0 a1 a2 (decide ((l0.length : Int) > 12)))) else (some false))) = some r := h
  clear h
  replace H := Option.bind_eq_some_iff.mp H
  obtain ⟨t191, A40, H⟩ := H
  replace H : (if t191 = true then (if (l0.length : Int) < 1 then (watchbilllaw10_CeilUsers.j0 k l0 a1 a2 true) else (watchbilllaw10_CeilUsers.j0 k l0 a1 a2 (decide ((l0.length : Int) > 12)))) else (some false)) = some r := H
  have A4 := Aside0.mk A40
  clear A40
  by_cases c5 : t191 = true
  · subst c5
    have H1 : (if (l0.length : Int) < 1 then (watchbilllaw10_CeilUsers.j0 k l0 a1 a2 true) else (watchbilllaw10_CeilUsers.j0 k l0 a1 a2 (decide ((l0.length : Int) > 12)))) = some r := by rw [if_pos rfl] at H; exact H
    clear H
    have H := H1
    clear H1
    have HC6 := Aside0.mk H
    clear H
    go_enter Try.func4, Try.ntmps4
    go_upto_region 3 with (first | ((with_reducible refine gate_callee (f := 6) rfl ?_); refine goesL_ (some 18) rfl rfl Try.func6 (by kernel_rfl) rfl #[] rfl (by (try simp only [List.map_toArray, List.map_cons, List.map_nil]); first | done | rfl | (simp only [List.length_drop, List.length_take]; rfl)) ?_; (with_reducible refine (watchbilllaw10_known.calls k  true _ A4.out).mono ?_); rintro e w7 ⟨rfl, hb⟩; refine ⟨_, rfl, ?_⟩; have n0_ := Aside0.mk (below_step (by repeat (first | (with_reducible first | exact HB.out | apply below_alloc | apply pw_below_drewN | apply below_drew1) | exact HB.out)) hb); clear HB; have HB := n0_; clear n0_; (try clear hb); (try clear hb2); (try clear hk); (try clear hi)))
    (try simp only [Act.put, List.setIfInBounds_toArray, List.set_cons_zero, List.set_cons_succ])
    go_cut [27] (fun v27 wc => ∃ (kq : Nat) (x27_5 : Bool), v27 = .bool x27_5 ∧ Aside0 (watchbilllaw10_CeilUsers.j0 kq l0 a1 a2 x27_5 = some r) ∧ Aside0 (kq ≤ k) ∧ Aside0 (Below w.heap.size w wc))
    case first =>
      have H := HC6.out
      clear HC6
      by_cases c8 : (l0.length : Int) < 1
      · rw [if_pos c8] at H
        have c8b0 : decide ((l0.length : Int) < 1) = true := decide_eq_true c8
        have c8b1 : decide (l0.length < 1) = true := decide_eq_true (by omega)
        clear c8
        (first | rw [c8b0] | (simp only [i64_w, i32_w]; rw [c8b0]) | skip)
        have H' := Aside0.mk H
        clear H
        go_wp2
        go_meet
        case rel => exact ⟨_, (true), (by first | rfl | (simp; done) | (simp [*]; done) | (simp [Int.tdiv_eq_ediv_of_nonneg]; done)), H', ⟨by first | omega | exact Nat.le_refl _⟩, ⟨by repeat (first | (with_reducible first | exact HB.out | apply below_alloc | apply pw_below_drewN | apply below_drew1) | exact HB.out)⟩⟩
      · rw [if_neg c8] at H
        have c8b0 : decide ((l0.length : Int) < 1) = false := decide_eq_false c8
        have c8b1 : decide (l0.length < 1) = false := decide_eq_false (by omega)
        clear c8
        (first | rw [c8b0] | (simp only [i64_w, i32_w]; rw [c8b0]) | skip)
        have H' := Aside0.mk H
        clear H
        go_wp2
        go_meet
        case rel => exact ⟨_, (decide ((l0.length : Int) > 12)), (by first | rfl | (simp; done) | (simp [*]; done) | (simp [Int.tdiv_eq_ediv_of_nonneg]; done)), H', ⟨by first | omega | exact Nat.le_refl _⟩, ⟨by repeat (first | (with_reducible first | exact HB.out | apply below_alloc | apply pw_below_drewN | apply below_drew1) | exact HB.out)⟩⟩
    case rest =>
      clear HC6
      try clear p2
      try clear c4
      try clear c5
      try clear c6
      try clear c8
      try clear c8b0
      try clear c8b1
      obtain ⟨kq, x27_5, rfl, HA, HJ5, HB⟩ := hcut
      cases kq with
      | zero => exact absurd HA.out (by simp [watchbilllaw10_CeilUsers.j0])
      | succ kj5 =>
        have H := HA.out
        clear HA
        simp only [watchbilllaw10_CeilUsers.j0] at H
        by_cases c9 : x27_5 = true
        · subst c9
          have H1 : (some true) = some r := by rw [if_pos rfl] at H; exact H
          clear H
          have H := H1
          clear H1
          obtain rfl := Option.some.inj H
          go_wp2
          go_ret
          exact ⟨by first | rfl | (simp [errW_none, errW_some] <;> rfl) | (simp [*, errW_none, errW_some] <;> rfl), by repeat (first | (with_reducible first | exact HB.out | apply below_alloc | apply pw_below_drewN | apply below_drew1) | exact HB.out)⟩
        · replace c9 := Bool.eq_false_iff.mpr c9
          subst c9
          have H1 : (if 8 ≤ 35184372088832 then (watchbilllaw10_CeilUsers.l0 kj5 l0 (wrap64 (1 + (wrap64 (Int.tmod a1 20)))) (wrap64 (1 + (wrap64 (Int.tmod a2 30)))) (List.replicate 8 0) 0 8 ([] : List (S56))) else (none)) = some r := by rw [if_neg (show ¬ (false = true) by decide)] at H; exact H
          clear H
          have H := H1
          clear H1
          by_cases c10 : 8 ≤ 35184372088832
          · rw [if_pos c10] at H
            have c10b0 := eq_true c10
            have c10b1 : decide (8 ≤ 35184372088832) = true := decide_eq_true c10
            clear c10
            obtain ⟨y193, hy193⟩ : ∃ y_ : List Int, y_ = (List.replicate 8 0) := ⟨_, rfl⟩
            replace H : (watchbilllaw10_CeilUsers.l0 kj5 l0 (wrap64 (1 + (wrap64 (Int.tmod a1 20)))) (wrap64 (1 + (wrap64 (Int.tmod a2 30)))) y193 0 8 ([] : List (S56))) = some r := by first | (rw [hy193]; with_reducible exact H) | (have H2_ := (Option.bind_some _ _).symm.trans H; rw [hy193]; with_reducible exact H2_) | (have H2_ := (Option.bind_some _ _).symm.trans H; with_reducible exact H2_) | with_reducible exact H | (rw [hy193]; exact H) | exact H
            have Ny193 := Aside0.mk hy193
            clear hy193
            have H' := Aside0.mk H
            clear H
            go_wp2_with (first | ((with_reducible refine gate_dst (N := 9) rfl ?_); (try (refine gate_guard (by rfl) ?_; dsimp only)); refine box_event ?hg (N := 9) ?hd (cs := #[.int .i64 0, .slice none 0 0, .slice none 0 0]) (t := 33) ?hr ?_; (case hd => rfl); (case hg => rfl); (case hr => first | (go_simp; done) | (go_simp; rfl)); intro gb192 hg w11 hbox hb; have n0_ := Aside0.mk (below_step (by repeat (first | (with_reducible first | exact HB.out | apply below_alloc | apply pw_below_drewN | apply below_drew1) | exact HB.out)) hb); have n1_ := Aside0.mk (hbox); have n2_ := Aside0.mk ((by rw [hg]; exact (below_size (by repeat (first | (with_reducible first | exact HB.out | apply below_alloc | apply pw_below_drewN | apply below_drew1) | exact HB.out))) : w.heap.size ≤ gb192)); have n3_ := Aside0.mk ((by rw [hg]; exact (below_size (by repeat (first | (with_reducible first | exact HB.out | apply below_alloc | apply pw_below_drewN | apply below_drew1) | exact HB.out))) : w.heap.size ≤ gb192)); clear HB; have HB := n0_; have BK192 := n1_; have GW192 := n2_; have GE192 := n3_; clear n0_ n1_ n2_ n3_; clear hb hbox hg; have hcz12_0 : w11.cell? ⟨gb192, 0, none⟩ = some (.int .i64 0) := (blk_cell BK192.out 0).trans rfl; have hcz12_1 : w11.cell? ⟨gb192, 1, none⟩ = some (.slice none 0 0) := (blk_cell BK192.out 1).trans rfl; have hcz12_2 : w11.cell? ⟨gb192, 2, none⟩ = some (.slice none 0 0) := (blk_cell BK192.out 2).trans rfl; have hfz12_0 := blk_frozen BK192.out 0; have hfz12_1 := blk_frozen BK192.out 1; have hfz12_2 := blk_frozen BK192.out 2) | ((with_reducible refine gate_dst (N := 37) rfl ?_); (try (refine gate_guard (by rfl) ?_; dsimp only)); refine Kd.R_make (Kd.int .i64) _ 3 rfl (N := 37) rfl 35 _ _ rfl 8 rfl rfl Try.underlying35 (.int .i64 0) 8 info3 rfl (by decide) (by omega) 0 (ok := fun _ => True) (okp := fun _ => True) rfl (fun _ hk => hk) trivial (by omega) (by omega) (Below.refl _ _) (Nat.le_refl _) ?_; intro v194 w13 ho14 hb hg_ hnew_; clear hg_ hnew_; (first | rw [← Ny193.out] at ho14 | (simp only [Int.reduceToNat] at ho14; rw [← Ny193.out] at ho14)); have n0_ := Aside0.mk (Kd.R_lower ho14 (below_size (by repeat (first | (with_reducible first | exact HB.out | apply below_alloc | apply pw_below_drewN | apply below_drew1 | refine below_set ?_ GE192.out) | exact HB.out)))); have n1_ := Aside0.mk (blk_below (g := gb192) (o := .cells #[.int .i64 8, .slice none 0 0, .slice none 0 0] 33 (0, 0)) (by (with_reducible repeat (first | refine blk_drewN ?_ _ | refine blk_drew ?_ | refine blk_alloc ?_ _)); refine blk_put (cs := #[.int .i64 8, .slice none 0 0, .slice none 0 0]) ?_ 2 _ rfl; (with_reducible repeat (first | refine blk_drewN ?_ _ | refine blk_drew ?_ | refine blk_alloc ?_ _)); refine blk_put (cs := #[.int .i64 8, .slice none 0 0, .slice none 0 0]) ?_ 1 _ rfl; (with_reducible repeat (first | refine blk_drewN ?_ _ | refine blk_drew ?_ | refine blk_alloc ?_ _)); refine blk_put (cs := #[.int .i64 0, .slice none 0 0, .slice none 0 0]) ?_ 0 _ rfl; (with_reducible repeat (first | refine blk_drewN ?_ _ | refine blk_drew ?_ | refine blk_alloc ?_ _)); exact BK192.out) hb); have n2_ := Aside0.mk (below_step (by repeat (first | (with_reducible first | exact HB.out | apply below_alloc | apply pw_below_drewN | apply below_drew1 | refine below_set ?_ GE192.out) | exact HB.out)) hb); clear BK192; clear HB; have HO195 := n0_; have BK192 := n1_; have HB := n2_; clear n0_ n1_ n2_; clear hb ho14))
            go_loopg [11] kj5 (fun kq v11 w' => ∃ (x10_2 : List Int) (x11_2 : Int) (x193002_2 : List (S56)) (u193002 : Value), v11 = .int .i64 x11_2 ∧ Aside0 (watchbilllaw10_CeilUsers.l0 kq l0 (wrap64 (1 + (wrap64 (Int.tmod a1 20)))) (wrap64 (1 + (wrap64 (Int.tmod a2 30)))) x10_2 x11_2 8 x193002_2 = some r) ∧ Aside0 (kq ≤ kj5) ∧ Aside0 (Kd.R (Kd.int .i64) 3 w' w.heap.size (fun _ => True) v194 x10_2) ∧ Aside0 (Kd.N k56 56 w' w.heap.size (fun k_ => some k_ ≠ (v194 : Value).ownBlock ∧ k_ ≠ gb192) u193002 x193002_2) ∧ Aside0 (w'.heap[gb192]? = some (.cells #[.int .i64 8, (.slice none 0 0), u193002] 33 (0, 0))) ∧ Aside0 (Below w.heap.size w w'))
            case atStart => exact ⟨(y193), (0), (([] : List (S56))), (.slice none 0 0), (by first | rfl | (simp; done) | (simp [*]; done) | (simp [Int.tdiv_eq_ediv_of_nonneg]; done)), H', ⟨Nat.le_refl _⟩, ⟨by (with_reducible repeat (first | apply Kd.R_alloc | apply Kd.R_drewN | apply Kd.R_drew)); exact HO195.out⟩, ⟨by first | exact Kd.R_nil _ _ _ _ _ | exact Kd.N_nil _ _ _ _ _ | exact Kd.V_nil _ _ _ _ _ | exact Kd.Q_nil _ _ _ _ _ | exact Kd.S_nil _ _ _ _ _⟩, ⟨by (with_reducible repeat (first | refine blk_drewN ?_ _ | refine blk_drew ?_ | refine blk_alloc ?_ _)); exact BK192.out⟩, ⟨by repeat (first | (with_reducible first | exact HB.out | apply below_alloc | apply pw_below_drewN | apply below_drew1 | refine below_set ?_ GE192.out) | exact HB.out)⟩⟩
            case round =>
              clear H'
              try clear c1
              try clear p2
              try clear c4
              try clear c5
              try clear c6
              try clear p6
              try clear c8
              try clear c8b0
              try clear c8b1
              try clear c9
              try clear c10
              try clear c10b0
              try clear c10b1
              try clear hcz12_0
              try clear hcz12_1
              try clear hcz12_2
              try clear hfz12_0
              try clear hfz12_1
              try clear hfz12_2
              try clear p2
              obtain ⟨x10_2, x11_2, x193002_2, u193002, rfl, HA, HK2, HO_10, HO_193002, BK192, HB⟩ := hrel
              cases gk with
              | zero => exact absurd HA.out (by simp [watchbilllaw10_CeilUsers.l0])
              | succ k2 =>
                have H := HA.out
                clear HA
                simp only [watchbilllaw10_CeilUsers.l0] at H
                by_cases c15 : x11_2 < (l0.length : Int)
                · rw [if_pos c15] at H
                  have c15b0 : decide (x11_2 < (l0.length : Int)) = true := decide_eq_true c15
                  clear c15
                  obtain ⟨y196, hy196⟩ : ∃ y_ : List (S52), y_ = (([(⟨1, 1, 0, 0, ([] : List (S98))⟩ : S52)] : List (S52))) := ⟨_, rfl⟩
                  replace H : (watchbilllaw10_CeilUsers.l1 k2 l0 (wrap64 (1 + (wrap64 (Int.tmod a1 20)))) (wrap64 (1 + (wrap64 (Int.tmod a2 30)))) x10_2 x11_2 y196 0 8 x193002_2) = some r := by first | (rw [hy196]; with_reducible exact H) | (have H2_ := (Option.bind_some _ _).symm.trans H; rw [hy196]; with_reducible exact H2_) | (have H2_ := (Option.bind_some _ _).symm.trans H; with_reducible exact H2_) | with_reducible exact H | (rw [hy196]; exact H) | exact H
                  have Ny196 := Aside0.mk hy196
                  clear hy196
                  have H' := Aside0.mk H
                  clear H
                  go_wp2_with (first | ((with_reducible refine gate_dst (N := 45) rfl ?_); (try (refine gate_guard (by rfl) ?_; dsimp only)); refine Kd.N_lit k52 _ 52 ?hg (N' := 45) ?hd (xs := ([(⟨1, 1, 0, 0, ([] : List (S98))⟩ : S52)] : List (S52))) (inner := [.int .i64 1, .int .i64 1, .int .i64 0, .int .i64 0, .slice none 0 0]) (ok := (fun k_ => some k_ ≠ (v194 : Value).ownBlock ∧ some k_ ≠ (u193002 : Value).ownBlock ∧ k_ ≠ gb192)) (okp := (fun k_ => some k_ ≠ (v194 : Value).ownBlock ∧ some k_ ≠ (u193002 : Value).ownBlock ∧ k_ ≠ gb192)) ?hr ?hp (fun _ hk => hk) ((show ∀ k_, wr.heap.size ≤ k_ → (fun k_ => some k_ ≠ (v194 : Value).ownBlock ∧ some k_ ≠ (u193002 : Value).ownBlock ∧ k_ ≠ gb192) k_ from fun k_ hk => ⟨Kd.fresh' (Kd.R_lt (by (with_reducible repeat (first | apply Kd.R_alloc | apply Kd.R_drewN | apply Kd.R_drew)); exact HO_10.out)) k_ hk, Kd.fresh' (Kd.N_lt (by (with_reducible repeat (first | apply Kd.N_alloc | apply Kd.N_drewN | apply Kd.N_drew)); exact HO_193002.out)) k_ hk, Kd.freshB (g := gb192) (o := .cells #[.int .i64 8, .slice none 0 0, u193002] 33 (0, 0)) (by (with_reducible repeat (first | refine blk_drewN ?_ _ | refine blk_drew ?_ | refine blk_alloc ?_ _)); exact BK192.out) k_ hk⟩) _ (Nat.le_refl _)) (Below.refl _ _) (Nat.le_refl _) (by simp) ?_; (case hd => rfl); (case hg => rfl); (case hr => first | (go_simp; done) | (go_simp; rfl)); (case hp => exact (Reps.c5 (show Kd.FK k52 _ _ (⟨1, 1, 0, 0, ([] : List (S98))⟩ : S52) [.int .i64 1, .int .i64 1, .int .i64 0, .int .i64 0, .slice none 0 0] from (k52_mkF _ _ (⟨1, 1, 0, 0, ([] : List (S98))⟩ : S52) (Nat.le_refl _) (Kd.F_nil _ _ _))) (Reps.none _ _))); intro v197 w16 ho17 hb hg_ hnew_; clear hg_ hnew_; (first | rw [← Ny196.out] at ho17 | (simp only [Int.reduceToNat] at ho17; rw [← Ny196.out] at ho17)); have n0_ := Aside0.mk (Kd.R_below (by (with_reducible repeat (first | apply Kd.R_alloc | apply Kd.R_drewN | apply Kd.R_drew)); exact HO_10.out) hb); have n1_ := Aside0.mk (Kd.N_elder' (by (with_reducible repeat (first | apply Kd.N_alloc | apply Kd.N_drewN | apply Kd.N_drew)); exact HO_193002.out) (Kd.N_base ho17) hb); have n2_ := Aside0.mk (Kd.N_lower ho17 (below_size (by repeat (first | (with_reducible first | exact HB.out | apply below_alloc | apply pw_below_drewN | apply below_drew1 | refine below_set ?_ GE192.out) | exact HB.out)))); have n3_ := Aside0.mk (blk_below (g := gb192) (o := .cells #[.int .i64 8, .slice none 0 0, u193002] 33 (0, 0)) (by (with_reducible repeat (first | refine blk_drewN ?_ _ | refine blk_drew ?_ | refine blk_alloc ?_ _)); exact BK192.out) hb); have n4_ := Aside0.mk (below_step (by repeat (first | (with_reducible first | exact HB.out | apply below_alloc | apply pw_below_drewN | apply below_drew1 | refine below_set ?_ GE192.out) | exact HB.out)) hb); clear HO_10; clear HO_193002; clear BK192; clear HB; have HO_10 := n0_; have HO_193002 := n1_; have HO198 := n2_; have BK192 := n3_; have HB := n4_; clear n0_ n1_ n2_ n3_ n4_; clear hb ho17))
                  go_loopg [12, 13] k2 (fun kq v12 v13 w' => ∃ (x10_3 : List Int) (x12_3 : List (S52)) (x13_3 : Int), v13 = .int .i64 x13_3 ∧ Aside0 (watchbilllaw10_CeilUsers.l1 kq l0 (wrap64 (1 + (wrap64 (Int.tmod a1 20)))) (wrap64 (1 + (wrap64 (Int.tmod a2 30)))) x10_3 x11_2 x12_3 x13_3 8 x193002_2 = some r) ∧ Aside0 (kq ≤ k2) ∧ Aside0 (Kd.R (Kd.int .i64) 3 w' w.heap.size (fun _ => True) v194 x10_3) ∧ Aside0 (Kd.N k52 52 w' w.heap.size (fun k_ => some k_ ≠ (v194 : Value).ownBlock ∧ some k_ ≠ (u193002 : Value).ownBlock ∧ k_ ≠ gb192) v12 x12_3) ∧ Aside0 (Kd.N k56 56 w' w.heap.size (fun k_ => some k_ ≠ (v194 : Value).ownBlock ∧ some k_ ≠ (v12 : Value).ownBlock ∧ k_ ≠ gb192) u193002 x193002_2) ∧ Aside0 (w'.heap[gb192]? = some (.cells #[.int .i64 8, (.slice none 0 0), u193002] 33 (0, 0))) ∧ Aside0 (Below w.heap.size w w'))
                  case atStart => exact ⟨(x10_2), (y196), (0), (by first | rfl | (simp; done) | (simp [*]; done) | (simp [Int.tdiv_eq_ediv_of_nonneg]; done)), H', ⟨Nat.le_refl _⟩, ⟨by (with_reducible repeat (first | apply Kd.R_alloc | apply Kd.R_drewN | apply Kd.R_drew)); exact HO_10.out⟩, ⟨by (with_reducible repeat (first | apply Kd.N_alloc | apply Kd.N_drewN | apply Kd.N_drew)); exact HO198.out⟩, ⟨by (with_reducible repeat (first | apply Kd.N_alloc | apply Kd.N_drewN | apply Kd.N_drew)); exact Kd.N_mono HO_193002.out (fun _ hk => ⟨hk.1.1, ⟨hk.2, hk.1.2⟩⟩)⟩, ⟨by (with_reducible repeat (first | refine blk_drewN ?_ _ | refine blk_drew ?_ | refine blk_alloc ?_ _)); exact BK192.out⟩, ⟨by repeat (first | (with_reducible first | exact HB.out | apply below_alloc | apply pw_below_drewN | apply below_drew1 | refine below_set ?_ GE192.out) | exact HB.out)⟩⟩
                  case round =>
                    clear H'
                    try clear c1
                    try clear p2
                    try clear c4
                    try clear c5
                    try clear c6
                    try clear p6
                    try clear c8
                    try clear c8b0
                    try clear c8b1
                    try clear c9
                    try clear c10
                    try clear c10b0
                    try clear c10b1
                    try clear c15
                    try clear c15b0
                    try clear hcz12_0
                    try clear hcz12_1
                    try clear hcz12_2
                    try clear hfz12_0
                    try clear hfz12_1
                    try clear hfz12_2
                    try clear p2
                    try clear p6
                    obtain ⟨x10_3, x12_3, x13_3, rfl, HA, HK3, HO_10, HO_12, HO_193002, BK192, HB⟩ := hrel
                    cases gk with
                    | zero => exact absurd HA.out (by simp [watchbilllaw10_CeilUsers.l1])
                    | succ k3 =>
                      have H := HA.out
                      clear HA
                      simp only [watchbilllaw10_CeilUsers.l1] at H
                      by_cases c18 : x13_3 < 8
                      · rw [if_pos c18] at H
                        have c18b0 : decide (x13_3 < 8) = true := decide_eq_true c18
                        clear c18
                        by_cases c19 : 0 ≤ x11_2
                        · rw [if_pos c19] at H
                          have c19b0 : decide (0 ≤ x11_2) = true := decide_eq_true c19
                          clear c19
                          by_cases c20 : x11_2 < (l0.length : Int)
                          · rw [if_pos c20] at H
                            have c20b0 : decide (x11_2 < (l0.length : Int)) = true := decide_eq_true c20
                            clear c20
                            obtain ⟨ji21, hji21⟩ : ∃ j_ : Int, (IntKind.u64.wrap (x13_3)) = j_ := ⟨_, rfl⟩
                            replace H : (if 0 ≤ (ji21) then (if (Go.bits .and .u8 (shr .u8 (rd l0 x11_2) (ji21)) 1) = 0 then (watchbilllaw10_CeilUsers.l1 k3 l0 (wrap64 (1 + (wrap64 (Int.tmod a1 20)))) (wrap64 (1 + (wrap64 (Int.tmod a2 30)))) x10_3 x11_2 x12_3 (wrap64 (x13_3 + 1)) 8 x193002_2) else ((some (([(⟨2, x13_3, 0, 0, ([] : List (S98))⟩ : S52), (⟨1, (wrap64 (1 + (wrap64 (Int.tmod a1 20)))), 0, 0, ([] : List (S98))⟩ : S52), (⟨3, x13_3, 0, 0, ([] : List (S98))⟩ : S52)] : List (S52)) : List (S52))).bind fun y200 => (if x12_3.length + y200.length < 2513169434916 then (if 0 ≤ x13_3 then (if x13_3 < (x10_3.length : Int) then (watchbilllaw10_CeilUsers.l1 k3 l0 (wrap64 (1 + (wrap64 (Int.tmod a1 20)))) (wrap64 (1 + (wrap64 (Int.tmod a2 30)))) (x10_3.set (x13_3 : Int).toNat (mx (rd x10_3 x13_3) (wrap64 ((l0.length : Int) - x11_2)))) x11_2 (x12_3 ++ y200) (wrap64 (x13_3 + 1)) 8 x193002_2) else (none)) else (none)) else (none)))) else (none)) = some r := by first | (rw [hji21] at H; exact H) | (simp only [hji21] at H ⊢; exact H)
                            by_cases c22 : 0 ≤ (ji21)
                            · rw [if_pos c22] at H
                              have c22b0 := eq_true c22
                              have c22b1 : decide (0 ≤ (ji21)) = true := decide_eq_true c22
                              clear c22
                              obtain ⟨ji23, hji23⟩ : ∃ j_ : Int, (shr .u8 (rd l0 x11_2) (ji21)) = j_ := ⟨_, rfl⟩
                              replace H : (if (Go.bits .and .u8 (ji23) 1) = 0 then (watchbilllaw10_CeilUsers.l1 k3 l0 (wrap64 (1 + (wrap64 (Int.tmod a1 20)))) (wrap64 (1 + (wrap64 (Int.tmod a2 30)))) x10_3 x11_2 x12_3 (wrap64 (x13_3 + 1)) 8 x193002_2) else ((some (([(⟨2, x13_3, 0, 0, ([] : List (S98))⟩ : S52), (⟨1, (wrap64 (1 + (wrap64 (Int.tmod a1 20)))), 0, 0, ([] : List (S98))⟩ : S52), (⟨3, x13_3, 0, 0, ([] : List (S98))⟩ : S52)] : List (S52)) : List (S52))).bind fun y200 => (if x12_3.length + y200.length < 2513169434916 then (if 0 ≤ x13_3 then (if x13_3 < (x10_3.length : Int) then (watchbilllaw10_CeilUsers.l1 k3 l0 (wrap64 (1 + (wrap64 (Int.tmod a1 20)))) (wrap64 (1 + (wrap64 (Int.tmod a2 30)))) (x10_3.set (x13_3 : Int).toNat (mx (rd x10_3 x13_3) (wrap64 ((l0.length : Int) - x11_2)))) x11_2 (x12_3 ++ y200) (wrap64 (x13_3 + 1)) 8 x193002_2) else (none)) else (none)) else (none)))) = some r := by first | (rw [hji23] at H; exact H) | (simp only [hji23] at H ⊢; exact H)
                              have hji23_ : ((rd l0 x11_2) / 2 ^ min (ji21).toNat 8) = ji23 := hji23
                              have hji23z : (ji21) ≤ 8 → ((rd l0 x11_2) / 2 ^ (ji21).toNat) = ji23 := shr_small hji23
                              by_cases c24 : (Go.bits .and .u8 (ji23) 1) = 0
                              · rw [if_pos c24] at H
                                have c24b0 : ((Go.bits .and .u8 (ji23) 1) == 0) = true := beq_iff_eq.mpr c24
                                have c24b1 : ((Go.bits .and .u8 (ji23) 1) != 0) = false := bne_eq_false_iff_eq.mpr c24
                                clear c24
                                have H' := Aside0.mk H
                                clear H
                                have p199 : 0 ≤ (x11_2 : Int) := of_decide_eq_true (by first | (with_reducible assumption) | assumption)
                                have q199 : x11_2 < (l0.length : Int) := of_decide_eq_true (by first | (with_reducible assumption) | assumption)
                                obtain ⟨ad199, e199, hx199_0⟩ := Kd.at_int HR0.out x11_2 p199 q199
                                cases e199
                                replace hx199_0 := (HB.out.cell (World.block_lt_of_cell? w _ hx199_0)).trans hx199_0
                                replace p199 := eq_true p199
                                replace q199 := eq_true q199
                                go_wp2
                                go_roundg k3
                                case measure => have := HJ5.out; have := HK2.out; have := HK3.out; omega
                                case rel => exact ⟨(x10_3), (x12_3), (wrap64 (x13_3 + 1)), (by first | rfl | (simp; done) | (simp [*]; done) | (simp [Int.tdiv_eq_ediv_of_nonneg]; done)), H', ⟨by have := HJ5.out; have := HK2.out; have := HK3.out; omega⟩, ⟨by (with_reducible repeat (first | apply Kd.R_alloc | apply Kd.R_drewN | apply Kd.R_drew)); exact HO_10.out⟩, ⟨by (with_reducible repeat (first | apply Kd.N_alloc | apply Kd.N_drewN | apply Kd.N_drew)); exact HO_12.out⟩, ⟨by (with_reducible repeat (first | apply Kd.N_alloc | apply Kd.N_drewN | apply Kd.N_drew)); exact HO_193002.out⟩, ⟨by (with_reducible repeat (first | refine blk_drewN ?_ _ | refine blk_drew ?_ | refine blk_alloc ?_ _)); exact BK192.out⟩, ⟨by repeat (first | (with_reducible first | exact HB.out | apply below_alloc | apply pw_below_drewN | apply below_drew1 | refine below_set ?_ GE192.out) | exact HB.out)⟩⟩
                              · rw [if_neg c24] at H
                                have c24b0 : ((Go.bits .and .u8 (ji23) 1) == 0) = false := beq_eq_false_iff_ne.mpr c24
                                have c24b1 : ((Go.bits .and .u8 (ji23) 1) != 0) = true := bne_iff_ne.mpr c24
                                obtain ⟨y200, hy200⟩ : ∃ y_ : List (S52), y_ = (([(⟨2, x13_3, 0, 0, ([] : List (S98))⟩ : S52), (⟨1, (wrap64 (1 + (wrap64 (Int.tmod a1 20)))), 0, 0, ([] : List (S98))⟩ : S52), (⟨3, x13_3, 0, 0, ([] : List (S98))⟩ : S52)] : List (S52))) := ⟨_, rfl⟩
                                replace H : (if x12_3.length + y200.length < 2513169434916 then (if 0 ≤ x13_3 then (if x13_3 < (x10_3.length : Int) then (watchbilllaw10_CeilUsers.l1 k3 l0 (wrap64 (1 + (wrap64 (Int.tmod a1 20)))) (wrap64 (1 + (wrap64 (Int.tmod a2 30)))) (x10_3.set (x13_3 : Int).toNat (mx (rd x10_3 x13_3) (wrap64 ((l0.length : Int) - x11_2)))) x11_2 (x12_3 ++ y200) (wrap64 (x13_3 + 1)) 8 x193002_2) else (none)) else (none)) else (none)) = some r := by first | (rw [hy200]; with_reducible exact H) | (have H2_ := (Option.bind_some _ _).symm.trans H; rw [hy200]; with_reducible exact H2_) | (have H2_ := (Option.bind_some _ _).symm.trans H; with_reducible exact H2_) | with_reducible exact H | (rw [hy200]; exact H) | exact H
                                have Ny200 := Aside0.mk hy200
                                clear hy200
                                by_cases c25 : x12_3.length + y200.length < 2513169434916
                                · rw [if_pos c25] at H
                                  have LMc25 := Aside0.mk c25
                                  clear c25
                                  obtain ⟨y203, hy203⟩ : ∃ y_ : List (S52), y_ = (x12_3 ++ y200) := ⟨_, rfl⟩
                                  replace H : (if 0 ≤ x13_3 then (if x13_3 < (x10_3.length : Int) then (watchbilllaw10_CeilUsers.l1 k3 l0 (wrap64 (1 + (wrap64 (Int.tmod a1 20)))) (wrap64 (1 + (wrap64 (Int.tmod a2 30)))) (x10_3.set (x13_3 : Int).toNat (mx (rd x10_3 x13_3) (wrap64 ((l0.length : Int) - x11_2)))) x11_2 y203 (wrap64 (x13_3 + 1)) 8 x193002_2) else (none)) else (none)) = some r := by first | (rw [hy203]; with_reducible exact H) | (have H2_ := (Option.bind_some _ _).symm.trans H; rw [hy203]; with_reducible exact H2_) | (have H2_ := (Option.bind_some _ _).symm.trans H; with_reducible exact H2_) | with_reducible exact H | (rw [hy203]; exact H) | exact H
                                  have Ny203 := Aside0.mk hy203
                                  clear hy203
                                  by_cases c26 : 0 ≤ x13_3
                                  · rw [if_pos c26] at H
                                    have c26b0 : decide (0 ≤ x13_3) = true := decide_eq_true c26
                                    clear c26
                                    by_cases c27 : x13_3 < (x10_3.length : Int)
                                    · rw [if_pos c27] at H
                                      have c27b0 : decide (x13_3 < (x10_3.length : Int)) = true := decide_eq_true c27
                                      clear c27
                                      obtain ⟨ji28, hji28⟩ : ∃ j_ : Int, (mx (rd x10_3 x13_3) (wrap64 ((l0.length : Int) - x11_2))) = j_ := ⟨_, rfl⟩
                                      replace H : (watchbilllaw10_CeilUsers.l1 k3 l0 (wrap64 (1 + (wrap64 (Int.tmod a1 20)))) (wrap64 (1 + (wrap64 (Int.tmod a2 30)))) (x10_3.set (x13_3 : Int).toNat (ji28)) x11_2 y203 (wrap64 (x13_3 + 1)) 8 x193002_2) = some r := by first | (rw [hji28] at H; exact H) | (simp only [hji28] at H ⊢; exact H)
                                      have hji28_ : (if (rd x10_3 x13_3) < (wrap64 ((l0.length : Int) - x11_2)) then (wrap64 ((l0.length : Int) - x11_2)) else (rd x10_3 x13_3)) = ji28 := hji28
                                      obtain ⟨y207, hy207⟩ : ∃ y_ : List Int, y_ = (x10_3.set (x13_3 : Int).toNat (ji28)) := ⟨_, rfl⟩
                                      replace H : (watchbilllaw10_CeilUsers.l1 k3 l0 (wrap64 (1 + (wrap64 (Int.tmod a1 20)))) (wrap64 (1 + (wrap64 (Int.tmod a2 30)))) y207 x11_2 y203 (wrap64 (x13_3 + 1)) 8 x193002_2) = some r := by first | (rw [hy207]; with_reducible exact H) | (have H2_ := (Option.bind_some _ _).symm.trans H; rw [hy207]; with_reducible exact H2_) | (have H2_ := (Option.bind_some _ _).symm.trans H; with_reducible exact H2_) | with_reducible exact H | (rw [hy207]; exact H) | exact H
                                      have Ny207 := Aside0.mk hy207
                                      clear hy207
                                      have H' := Aside0.mk H
                                      clear H
                                      have p199 : 0 ≤ (x11_2 : Int) := of_decide_eq_true (by first | (with_reducible assumption) | assumption)
                                      have q199 : x11_2 < (l0.length : Int) := of_decide_eq_true (by first | (with_reducible assumption) | assumption)
                                      obtain ⟨ad199, e199, hx199_0⟩ := Kd.at_int HR0.out x11_2 p199 q199
                                      cases e199
                                      replace hx199_0 := (HB.out.cell (World.block_lt_of_cell? w _ hx199_0)).trans hx199_0
                                      replace p199 := eq_true p199
                                      replace q199 := eq_true q199
                                      go_wp2_with (first | ((with_reducible refine gate_dst (N := 66) rfl ?_); (try (refine gate_guard (by rfl) ?_; dsimp only)); refine Kd.N_lit k52 _ 52 ?hg (N' := 66) ?hd (xs := ([(⟨2, x13_3, 0, 0, ([] : List (S98))⟩ : S52), (⟨1, (wrap64 (1 + (wrap64 (Int.tmod a1 20)))), 0, 0, ([] : List (S98))⟩ : S52), (⟨3, x13_3, 0, 0, ([] : List (S98))⟩ : S52)] : List (S52))) (inner := [.int .i64 2, .int .i64 x13_3, .int .i64 0, .int .i64 0, .slice none 0 0, .int .i64 1, .int .i64 (wrap64 (1 + (wrap64 (Int.tmod a1 20)))), .int .i64 0, .int .i64 0, .slice none 0 0, .int .i64 3, .int .i64 x13_3, .int .i64 0, .int .i64 0, .slice none 0 0]) (ok := (fun k_ => some k_ ≠ (v194 : Value).ownBlock ∧ some k_ ≠ (u12 : Value).ownBlock ∧ some k_ ≠ (u193002 : Value).ownBlock ∧ k_ ≠ gb192)) (okp := (fun k_ => some k_ ≠ (v194 : Value).ownBlock ∧ some k_ ≠ (u12 : Value).ownBlock ∧ some k_ ≠ (u193002 : Value).ownBlock ∧ k_ ≠ gb192)) ?hr ?hp (fun _ hk => hk) ((show ∀ k_, wr.heap.size ≤ k_ → (fun k_ => some k_ ≠ (v194 : Value).ownBlock ∧ some k_ ≠ (u12 : Value).ownBlock ∧ some k_ ≠ (u193002 : Value).ownBlock ∧ k_ ≠ gb192) k_ from fun k_ hk => ⟨Kd.fresh' (Kd.R_lt (by (with_reducible repeat (first | apply Kd.R_alloc | apply Kd.R_drewN | apply Kd.R_drew)); exact HO_10.out)) k_ hk, Kd.fresh' (Kd.N_lt (by (with_reducible repeat (first | apply Kd.N_alloc | apply Kd.N_drewN | apply Kd.N_drew)); exact HO_12.out)) k_ hk, Kd.fresh' (Kd.N_lt (by (with_reducible repeat (first | apply Kd.N_alloc | apply Kd.N_drewN | apply Kd.N_drew)); exact HO_193002.out)) k_ hk, Kd.freshB (g := gb192) (o := .cells #[.int .i64 8, .slice none 0 0, u193002] 33 (0, 0)) (by (with_reducible repeat (first | refine blk_drewN ?_ _ | refine blk_drew ?_ | refine blk_alloc ?_ _)); exact BK192.out) k_ hk⟩) _ (Nat.le_refl _)) (Below.refl _ _) (Nat.le_refl _) (by simp) ?_; (case hd => rfl); (case hg => rfl); (case hr => first | (go_simp; done) | (go_simp; rfl)); (case hp => exact (Reps.c5 (show Kd.FK k52 _ _ (⟨2, x13_3, 0, 0, ([] : List (S98))⟩ : S52) [.int .i64 2, .int .i64 x13_3, .int .i64 0, .int .i64 0, .slice none 0 0] from (k52_mkF _ _ (⟨2, x13_3, 0, 0, ([] : List (S98))⟩ : S52) (Nat.le_refl _) (Kd.F_nil _ _ _))) (Reps.c5 (show Kd.FK k52 _ _ (⟨1, (wrap64 (1 + (wrap64 (Int.tmod a1 20)))), 0, 0, ([] : List (S98))⟩ : S52) [.int .i64 1, .int .i64 (wrap64 (1 + (wrap64 (Int.tmod a1 20)))), .int .i64 0, .int .i64 0, .slice none 0 0] from (k52_mkF _ _ (⟨1, (wrap64 (1 + (wrap64 (Int.tmod a1 20)))), 0, 0, ([] : List (S98))⟩ : S52) (Nat.le_refl _) (Kd.F_nil _ _ _))) (Reps.c5 (show Kd.FK k52 _ _ (⟨3, x13_3, 0, 0, ([] : List (S98))⟩ : S52) [.int .i64 3, .int .i64 x13_3, .int .i64 0, .int .i64 0, .slice none 0 0] from (k52_mkF _ _ (⟨3, x13_3, 0, 0, ([] : List (S98))⟩ : S52) (Nat.le_refl _) (Kd.F_nil _ _ _))) (Reps.none _ _))))); intro v201 w30 ho31 hb hg_ hnew_; clear hg_ hnew_; (first | rw [← Ny200.out] at ho31 | (simp only [Int.reduceToNat] at ho31; rw [← Ny200.out] at ho31)); have n0_ := Aside0.mk (Kd.R_below (by (with_reducible repeat (first | apply Kd.R_alloc | apply Kd.R_drewN | apply Kd.R_drew)); exact HO_10.out) hb); have n1_ := Aside0.mk (Kd.N_elder' (by (with_reducible repeat (first | apply Kd.N_alloc | apply Kd.N_drewN | apply Kd.N_drew)); exact HO_12.out) (Kd.N_base ho31) hb); have n2_ := Aside0.mk (Kd.N_elder' (by (with_reducible repeat (first | apply Kd.N_alloc | apply Kd.N_drewN | apply Kd.N_drew)); exact HO_193002.out) (Kd.N_base ho31) hb); have n3_ := Aside0.mk (Kd.N_lower ho31 (below_size (by repeat (first | (with_reducible first | exact HB.out | apply below_alloc | apply pw_below_drewN | apply below_drew1 | refine below_set ?_ GE192.out) | exact HB.out)))); have n4_ := Aside0.mk (blk_below (g := gb192) (o := .cells #[.int .i64 8, .slice none 0 0, u193002] 33 (0, 0)) (by (with_reducible repeat (first | refine blk_drewN ?_ _ | refine blk_drew ?_ | refine blk_alloc ?_ _)); exact BK192.out) hb); have n5_ := Aside0.mk (below_step (by repeat (first | (with_reducible first | exact HB.out | apply below_alloc | apply pw_below_drewN | apply below_drew1 | refine below_set ?_ GE192.out) | exact HB.out)) hb); clear HO_10; clear HO_12; clear HO_193002; clear BK192; clear HB; have HO_10 := n0_; have HO_12 := n1_; have HO_193002 := n2_; have HO202 := n3_; have BK192 := n4_; have HB := n5_; clear n0_ n1_ n2_ n3_ n4_ n5_; clear hb ho31; obtain ⟨Ao33, co33, eo33⟩ := Kd.N_slice HO202.out; subst eo33) | ((with_reducible refine gate_builtin (b := .append) (xs := #[.tmp 59, .tmp 66]) rfl ?_); (try (refine gate_guard (by rfl) ?_; dsimp only)); at_builtin; refine Kd.N_append_rows k52 (w0 := w) w.heap.size rfl (.tmp 59) (.tmp 66) 53 52 (.agg #[(.int .i64 0), (.int .i64 0), (.int .i64 0), (.int .i64 0), (.slice none 0 0)]) 56 rfl Try.underlying53 info52 rfl (by decide) (by omega) u12 x12_3 y200 _ _ _ (fun k_ => some k_ ≠ (v194 : Value).ownBlock ∧ some k_ ≠ (u193002 : Value).ownBlock ∧ k_ ≠ gb192) (fun k_ => ((fun k_ => some k_ ≠ (v194 : Value).ownBlock ∧ some k_ ≠ (u193002 : Value).ownBlock ∧ k_ ≠ gb192)) k_ ∧ some k_ ≠ (u12 : Value).ownBlock) rfl rfl ?aO ?aR (fun _ hk => hk) ?aF ?aB ?aS ?aL ?_; (case aR => exact (by skip; exact Kd.N_F (Kd.N_mono (ok' := (fun k_ => ((fun k_ => some k_ ≠ (v194 : Value).ownBlock ∧ some k_ ≠ (u193002 : Value).ownBlock ∧ k_ ≠ gb192)) k_ ∧ some k_ ≠ (u12 : Value).ownBlock)) (HO202.out) (fun k_ hk => ⟨⟨hk.1, ⟨hk.2.2.1, hk.2.2.2⟩⟩, hk.2.1⟩)))); (case aB => exact (by repeat (first | (with_reducible first | exact HB.out | apply below_alloc | apply pw_below_drewN | apply below_drew1 | refine below_set ?_ GE192.out) | exact HB.out))); (case aF => exact (fun k_ hk => ⟨Kd.fresh' (Kd.R_lt (by (with_reducible repeat (first | apply Kd.R_alloc | apply Kd.R_drewN | apply Kd.R_drew)); exact HO_10.out)) k_ hk, Kd.fresh' (Kd.N_lt (by (with_reducible repeat (first | apply Kd.N_alloc | apply Kd.N_drewN | apply Kd.N_drew)); exact HO_193002.out)) k_ hk, Kd.freshB (g := gb192) (o := .cells #[.int .i64 8, .slice none 0 0, u193002] 33 (0, 0)) (by (with_reducible repeat (first | refine blk_drewN ?_ _ | refine blk_drew ?_ | refine blk_alloc ?_ _)); exact BK192.out) k_ hk⟩)); (case aO => exact (by (with_reducible repeat (first | apply Kd.N_alloc | apply Kd.N_drewN | apply Kd.N_drew)); exact Kd.N_mono HO_12.out (fun _ hk => ⟨hk.1.1, ⟨hk.1.2.1, hk.1.2.2⟩⟩))); (case aS => exact (below_size (by repeat (first | (with_reducible first | exact HB.out | apply below_alloc | apply pw_below_drewN | apply below_drew1 | refine below_set ?_ GE192.out) | exact HB.out)))); (case aL => have := LMc25.out; omega); intro v204 w32 ho hb hg hat; rw [← Ny203.out] at ho; have n0_ := Aside0.mk (Kd.R_over' (by (with_reducible repeat (first | apply Kd.R_alloc | apply Kd.R_drewN | apply Kd.R_drew)); exact HO_10.out) (Kd.N_typed (by (with_reducible repeat (first | apply Kd.N_alloc | apply Kd.N_drewN | apply Kd.N_drew)); exact HO_12.out)) (by decide) hg); have n1_ := Aside0.mk (Kd.N_afterv (ok := (fun k_ => some k_ ≠ (v194 : Value).ownBlock ∧ some k_ ≠ (.slice Ao33 y200.length co33 : Value).ownBlock ∧ k_ ≠ gb192)) (by (with_reducible repeat (first | apply Kd.N_alloc | apply Kd.N_drewN | apply Kd.N_drew)); exact Kd.N_mono HO_193002.out (fun _ hk => ⟨⟨hk.1.1, ⟨hk.2, hk.1.2.2⟩⟩, hk.1.2.1⟩)) hg hat); have n2_ := Aside0.mk (blk_grown (g := gb192) (o := .cells #[.int .i64 8, .slice none 0 0, u193002] 33 (0, 0)) (by (with_reducible repeat (first | refine blk_drewN ?_ _ | refine blk_drew ?_ | refine blk_alloc ?_ _)); exact BK192.out) hg (Kd.N_ne HO_12.out BK192.out (by decide))); have n3_ := Aside0.mk (Kd.N_afterv (ok := (fun k_ => some k_ ≠ (v194 : Value).ownBlock ∧ some k_ ≠ (u193002 : Value).ownBlock ∧ k_ ≠ gb192)) (by (with_reducible repeat (first | apply Kd.N_alloc | apply Kd.N_drewN | apply Kd.N_drew)); exact Kd.N_mono HO202.out (fun _ hk => ⟨⟨hk.1, ⟨hk.2.2.1, hk.2.2.2⟩⟩, hk.2.1⟩)) hg hat); have n4_ := Aside0.mk (hb); have n5_ := Aside0.mk (ho); clear HO_10; clear HO_193002; clear BK192; clear HO202; clear HB; clear HO_12; have HO_10 := n0_; have HO_193002 := n1_; have BK192 := n2_; have HO202 := n3_; have HB := n4_; have HO205 := n5_; clear n0_ n1_ n2_ n3_ n4_ n5_; clear ho hb hg hat; obtain ⟨Ao34, co34, eo34⟩ := Kd.R_slice HO_10.out; subst eo34; have p206 : 0 ≤ (x13_3 : Int) := of_decide_eq_true (by first | (with_reducible assumption) | assumption); have q206 : x13_3 < (x10_3.length : Int) := of_decide_eq_true (by first | (with_reducible assumption) | assumption); obtain ⟨ad206, e206, hx206_0⟩ := Kd.at_int (Kd.R_reads' HO_10.out).2.2 x13_3 p206 q206; cases e206; replace p206 := eq_true p206; replace q206 := eq_true q206; have p29 : 0 ≤ (x13_3 : Int) := of_decide_eq_true (by first | (with_reducible assumption) | assumption); have q29 : (x13_3 : Int) < ((x10_3.length : Int) : Int) := of_decide_eq_true (by first | (with_reducible assumption) | assumption); obtain ⟨go29, co29, eo29, gb29, gl29, cl29, HG29⟩ := Kd.R_form HO_10.out (by omega); (first | cases eo29 | (injection eo29 with ea_ en_ ec_; (first | subst ea_ | (injection ea_ with ea_; subst ea_)); subst ec_; clear en_)); have GB29 := Aside0.mk gb29; have GG29 := Aside0.mk HG29; clear gb29 gl29 HG29; (first | simp only [add_plain] at hx206_0 | skip); obtain ⟨hx29_0, hf29_0⟩ := Kd.R_celln 0 HO_10.out (x13_3 : Int) p29 q29; replace p29 := eq_true p29; replace q29 := eq_true q29; obtain ⟨hy35_, hz35_⟩ := Kd.R_celln 0 HO_10.out (x13_3 : Int) (of_decide_eq_true (by first | (with_reducible assumption) | assumption)) (of_decide_eq_true (by first | (with_reducible assumption) | assumption)); have HP35 := Kd.R_putg HO_10.out (x13_3 : Int) ji28) | ((with_reducible refine gate_store (t := 3) (p := 79) rfl ?_); refine store_event (t := 3) (p := 79) (v := ?vo_w36) (w1 := (w32.setCell ⟨go29, (x13_3 : Int).toNat, none⟩ (.int .i64 ji28))) ?hg ?ho ?hn ?hr ?_; (case ho => rfl); (case hg => rfl); (case hn => rfl); (case hr => first | (go_simp; done) | (go_simp; rfl)); intro w36 hw; have hg : w32.grownBy w36 (some go29) := (by rw [hw]; exact HP35.2); have hp_ : Kd.R (Kd.int .i64) 3 w36 w.heap.size (fun _ => True) (.slice (some ⟨go29, 0, none⟩) x10_3.length co34) y207 := (by rw [hw, Ny207.out]; exact HP35.1); clear HP35; have n0_ := Aside0.mk (hp_); have n1_ := Aside0.mk (Kd.N_afterv (v := (.slice (some ⟨go29, 0, none⟩) x10_3.length co34)) (v1 := (.slice (some ⟨go29, 0, none⟩) x10_3.length co34)) (ok := (fun k_ => some k_ ≠ (.slice Ao33 y200.length co33 : Value).ownBlock ∧ some k_ ≠ (v204 : Value).ownBlock ∧ k_ ≠ gb192)) (by (with_reducible repeat (first | apply Kd.N_alloc | apply Kd.N_drewN | apply Kd.N_drew)); exact Kd.N_mono HO_193002.out (fun _ hk => ⟨⟨hk.1.2.1, ⟨hk.2, hk.1.2.2⟩⟩, hk.1.1⟩)) hg (.inl rfl)); have n2_ := Aside0.mk (blk_grown (g := gb192) (o := .cells #[.int .i64 8, .slice none 0 0, u193002] 33 (0, 0)) (by (with_reducible repeat (first | refine blk_drewN ?_ _ | refine blk_drew ?_ | refine blk_alloc ?_ _)); exact BK192.out) hg (Kd.R_ne HO_10.out BK192.out (by decide))); have n3_ := Aside0.mk (Kd.N_afterv (v := (.slice (some ⟨go29, 0, none⟩) x10_3.length co34)) (v1 := (.slice (some ⟨go29, 0, none⟩) x10_3.length co34)) (ok := (fun k_ => some k_ ≠ (u193002 : Value).ownBlock ∧ some k_ ≠ (v204 : Value).ownBlock ∧ k_ ≠ gb192)) (by (with_reducible repeat (first | apply Kd.N_alloc | apply Kd.N_drewN | apply Kd.N_drew)); exact Kd.N_mono HO202.out (fun _ hk => ⟨⟨hk.1.2.1, ⟨hk.2, hk.1.2.2⟩⟩, hk.1.1⟩)) hg (.inl rfl)); have n4_ := Aside0.mk (Kd.N_afterv (v := (.slice (some ⟨go29, 0, none⟩) x10_3.length co34)) (v1 := (.slice (some ⟨go29, 0, none⟩) x10_3.length co34)) (ok := (fun k_ => some k_ ≠ (u193002 : Value).ownBlock ∧ k_ ≠ gb192)) (by (with_reducible repeat (first | apply Kd.N_alloc | apply Kd.N_drewN | apply Kd.N_drew)); exact Kd.N_mono HO205.out (fun _ hk => ⟨⟨hk.2.1, hk.2.2⟩, hk.1⟩)) hg (.inl rfl)); have n5_ := Aside0.mk ((by rw [hw]; exact below_set (HB.out) GB29.out : Below w.heap.size w w36)); clear HO_10; clear HO_193002; clear BK192; clear HO202; clear HO205; clear HB; have HO_10 := n0_; have HO_193002 := n1_; have BK192 := n2_; have HO202 := n3_; have HO205 := n4_; have HB := n5_; clear n0_ n1_ n2_ n3_ n4_ n5_; clear hg hw hp_))
                                      go_roundg k3
                                      case measure => have := HJ5.out; have := HK2.out; have := HK3.out; omega
                                      case rel => exact ⟨(y207), (y203), (wrap64 (x13_3 + 1)), (by first | rfl | (simp; done) | (simp [*]; done) | (simp [Int.tdiv_eq_ediv_of_nonneg]; done)), H', ⟨by have := HJ5.out; have := HK2.out; have := HK3.out; omega⟩, ⟨by (with_reducible repeat (first | apply Kd.R_alloc | apply Kd.R_drewN | apply Kd.R_drew)); exact HO_10.out⟩, ⟨by (with_reducible repeat (first | apply Kd.N_alloc | apply Kd.N_drewN | apply Kd.N_drew)); exact Kd.N_mono HO205.out (fun _ hk => ⟨hk.2, ⟨hk.1.1, hk.1.2⟩⟩)⟩, ⟨by (with_reducible repeat (first | apply Kd.N_alloc | apply Kd.N_drewN | apply Kd.N_drew)); exact Kd.N_mono HO_193002.out (fun _ hk => ⟨hk.2, ⟨hk.1.2.1, hk.1.2.2⟩⟩)⟩, ⟨by (with_reducible repeat (first | refine blk_drewN ?_ _ | refine blk_drew ?_ | refine blk_alloc ?_ _)); exact BK192.out⟩, ⟨by repeat (first | (with_reducible first | exact HB.out | apply below_alloc | apply pw_below_drewN | apply below_drew1 | refine below_set ?_ GE192.out) | exact HB.out)⟩⟩
                                    · rw [if_neg c27] at H
                                      exact absurd H (by simp)
                                  · rw [if_neg c26] at H
                                    exact absurd H (by simp)
                                · rw [if_neg c25] at H
                                  exact absurd H (by simp)
                            · rw [if_neg c22] at H
                              exact absurd H (by simp)
                          · rw [if_neg c20] at H
                            exact absurd H (by simp)
                        · rw [if_neg c19] at H
                          exact absurd H (by simp)
                      · rw [if_neg c18] at H
                        have c18b0 : decide (x13_3 < 8) = false := decide_eq_false c18
                        clear c18
                        obtain ⟨y208, hy208⟩ : ∃ y_ : List Int, y_ = (([(wrap64 (97 + x11_2)) % 256] : List Int)) := ⟨_, rfl⟩
                        replace H : (if x193002_2.length < 2199023255552 then (watchbilllaw10_CeilUsers.l0 k3 l0 (wrap64 (1 + (wrap64 (Int.tmod a1 20)))) (wrap64 (1 + (wrap64 (Int.tmod a2 30)))) x10_3 (wrap64 (x11_2 + 1)) 8 (x193002_2 ++ [(⟨strOfNums y208, 900, wrap64 (100 + x11_2), (wrap64 (1 + (wrap64 (Int.tmod a2 30)))), x12_3⟩ : S56)])) else (none)) = some r := by first | (rw [hy208]; with_reducible exact H) | (have H2_ := (Option.bind_some _ _).symm.trans H; rw [hy208]; with_reducible exact H2_) | (have H2_ := (Option.bind_some _ _).symm.trans H; with_reducible exact H2_) | with_reducible exact H | (rw [hy208]; exact H) | exact H
                        have Ny208 := Aside0.mk hy208
                        clear hy208
                        by_cases c37 : x193002_2.length < 2199023255552
                        · rw [if_pos c37] at H
                          have LMc37 := Aside0.mk c37
                          clear c37
                          obtain ⟨y211, hy211⟩ : ∃ y_ : List (S56), y_ = (x193002_2 ++ [(⟨strOfNums y208, 900, wrap64 (100 + x11_2), (wrap64 (1 + (wrap64 (Int.tmod a2 30)))), x12_3⟩ : S56)]) := ⟨_, rfl⟩
                          replace H : (watchbilllaw10_CeilUsers.l0 k3 l0 (wrap64 (1 + (wrap64 (Int.tmod a1 20)))) (wrap64 (1 + (wrap64 (Int.tmod a2 30)))) x10_3 (wrap64 (x11_2 + 1)) 8 y211) = some r := by first | (rw [hy211]; with_reducible exact H) | (have H2_ := (Option.bind_some _ _).symm.trans H; rw [hy211]; with_reducible exact H2_) | (have H2_ := (Option.bind_some _ _).symm.trans H; with_reducible exact H2_) | with_reducible exact H | (rw [hy211]; exact H) | exact H
                          have Ny211 := Aside0.mk hy211
                          clear hy211
                          have H' := Aside0.mk H
                          clear H
                          have hcz38_0 : wr.cell? ⟨gb192, 0, none⟩ = some (.int .i64 8) := (blk_cell BK192.out 0).trans rfl
                          have hcz38_1 : wr.cell? ⟨gb192, 1, none⟩ = some (.slice none 0 0) := (blk_cell BK192.out 1).trans rfl
                          have hcz38_2 : wr.cell? ⟨gb192, 2, none⟩ = some (u193002) := (blk_cell BK192.out 2).trans rfl
                          have hfz38_0 := blk_frozen BK192.out 0
                          have hfz38_1 := blk_frozen BK192.out 1
                          have hfz38_2 := blk_frozen BK192.out 2
                          go_wp2_with (first | ((with_reducible refine gate_dst (N := 85) rfl ?_); (try (refine gate_guard (by rfl) ?_; dsimp only)); refine Kd.R_lit (Kd.int .u8) _ 5 ?hg (N := 85) ?hd (xs := ([(wrap64 (97 + x11_2)) % 256] : List Int)) (inner := [.int .u8 ((wrap64 (97 + x11_2)) % 256)]) (ok := fun _ => True) (okp := fun _ => True) ?hr ?hp (fun _ hk => hk) trivial (Below.refl _ _) (Nat.le_refl _) (by simp) ?_; (case hd => rfl); (case hg => rfl); (case hr => first | (go_simp; done) | (go_simp; rfl)); (case hp => exact (Reps.one (show Kd.M (Kd.int .u8) _ _ _ ((wrap64 (97 + x11_2)) % 256) [.int .u8 ((wrap64 (97 + x11_2)) % 256)] from rfl) (Reps.none _ _))); intro v209 w39 ho40 hb hg_ hnew_; clear hg_ hnew_; (first | rw [← Ny208.out] at ho40 | (simp only [Int.reduceToNat] at ho40; rw [← Ny208.out] at ho40)); have n0_ := Aside0.mk (Kd.R_below (by (with_reducible repeat (first | apply Kd.R_alloc | apply Kd.R_drewN | apply Kd.R_drew)); exact HO_10.out) hb); have n1_ := Aside0.mk (Kd.N_elder' (by (with_reducible repeat (first | apply Kd.N_alloc | apply Kd.N_drewN | apply Kd.N_drew)); exact HO_12.out) (Kd.R_base ho40) hb); have n2_ := Aside0.mk (Kd.N_elder' (by (with_reducible repeat (first | apply Kd.N_alloc | apply Kd.N_drewN | apply Kd.N_drew)); exact HO_193002.out) (Kd.R_base ho40) hb); have n3_ := Aside0.mk (Kd.R_lower ho40 (below_size (by repeat (first | (with_reducible first | exact HB.out | apply below_alloc | apply pw_below_drewN | apply below_drew1 | refine below_set ?_ GE192.out) | exact HB.out)))); have n4_ := Aside0.mk (blk_below (g := gb192) (o := .cells #[.int .i64 8, .slice none 0 0, u193002] 33 (0, 0)) (by (with_reducible repeat (first | refine blk_drewN ?_ _ | refine blk_drew ?_ | refine blk_alloc ?_ _)); exact BK192.out) hb); have n5_ := Aside0.mk (below_step (by repeat (first | (with_reducible first | exact HB.out | apply below_alloc | apply pw_below_drewN | apply below_drew1 | refine below_set ?_ GE192.out) | exact HB.out)) hb); clear HO_10; clear HO_12; clear HO_193002; clear BK192; clear HB; have HO_10 := n0_; have HO_12 := n1_; have HO_193002 := n2_; have HO210 := n3_; have BK192 := n4_; have HB := n5_; clear n0_ n1_ n2_ n3_ n4_ n5_; clear hb ho40; have hcv41 := own_string (P := Try.prog) Try.underlying49 Try.underlying5 Try.underlying9 (Kd.own_of_R HO210.out); obtain ⟨Ao42, co42, eo42⟩ := Kd.N_slice HO_12.out; subst eo42) | ((with_reducible refine gate_builtin (b := .append) (xs := #[.tmp 81, .tmp 92]) rfl ?_); (try (refine gate_guard (by rfl) ?_; dsimp only)); at_builtin; refine Kd.N_append k56 (w0 := w) w.heap.size rfl (.tmp 81) (.tmp 92) 31 56 (.agg #[(.string ⟨#[]⟩), (.int .i64 0), (.int .i64 0), (.int .i64 0), (.slice none 0 0)]) 64 rfl Try.underlying31 info56 rfl (by decide) (by omega) u193002 x193002_2 (⟨strOfNums y208, 900, wrap64 (100 + x11_2), (wrap64 (1 + (wrap64 (Int.tmod a2 30)))), x12_3⟩ : S56) [.string (strOfNums y208), .int .i64 900, .int .i64 (wrap64 (100 + x11_2)), .int .i64 (wrap64 (1 + (wrap64 (Int.tmod a2 30)))), .slice Ao42 x12_3.length co42] (fun k_ => some k_ ≠ (v194 : Value).ownBlock ∧ some k_ ≠ (v209 : Value).ownBlock ∧ k_ ≠ gb192) (fun k_ => ((fun k_ => some k_ ≠ (v194 : Value).ownBlock ∧ some k_ ≠ (v209 : Value).ownBlock ∧ k_ ≠ gb192)) k_ ∧ some k_ ≠ (u193002 : Value).ownBlock) rfl rfl ?aP (fun _ hk => hk) ?aF ?aO ?aB ?aS ?aL ?_; (case aP => exact (k56_mkF _ _ (⟨strOfNums y208, 900, wrap64 (100 + x11_2), (wrap64 (1 + (wrap64 (Int.tmod a2 30)))), x12_3⟩ : S56) (Kd.N_reads' (Kd.N_mono (ok' := (fun k_ => ((fun k_ => some k_ ≠ (v194 : Value).ownBlock ∧ some k_ ≠ (v209 : Value).ownBlock ∧ k_ ≠ gb192)) k_ ∧ some k_ ≠ (u193002 : Value).ownBlock)) (HO_12.out) (fun k_ hk => ⟨⟨hk.1.1, ⟨hk.2, hk.1.2.2⟩⟩, hk.1.2.1⟩))).2.1 (Kd.N_F (Kd.N_mono (ok' := (fun k_ => ((fun k_ => some k_ ≠ (v194 : Value).ownBlock ∧ some k_ ≠ (v209 : Value).ownBlock ∧ k_ ≠ gb192)) k_ ∧ some k_ ≠ (u193002 : Value).ownBlock)) (HO_12.out) (fun k_ hk => ⟨⟨hk.1.1, ⟨hk.2, hk.1.2.2⟩⟩, hk.1.2.1⟩))))); (case aB => exact (by repeat (first | (with_reducible first | exact HB.out | apply below_alloc | apply pw_below_drewN | apply below_drew1 | refine below_set ?_ GE192.out) | exact HB.out))); (case aF => exact (fun k_ hk => ⟨Kd.fresh' (Kd.R_lt (by (with_reducible repeat (first | apply Kd.R_alloc | apply Kd.R_drewN | apply Kd.R_drew)); exact HO_10.out)) k_ hk, Kd.fresh' (Kd.R_lt (by (with_reducible repeat (first | apply Kd.R_alloc | apply Kd.R_drewN | apply Kd.R_drew)); exact HO210.out)) k_ hk, Kd.freshB (g := gb192) (o := .cells #[.int .i64 8, .slice none 0 0, u193002] 33 (0, 0)) (by (with_reducible repeat (first | refine blk_drewN ?_ _ | refine blk_drew ?_ | refine blk_alloc ?_ _)); exact BK192.out) k_ hk⟩)); (case aO => exact (by (with_reducible repeat (first | apply Kd.N_alloc | apply Kd.N_drewN | apply Kd.N_drew)); exact Kd.N_mono HO_193002.out (fun _ hk => ⟨hk.1.1, ⟨hk.2, hk.1.2.2⟩⟩))); (case aS => exact (below_size (by repeat (first | (with_reducible first | exact HB.out | apply below_alloc | apply pw_below_drewN | apply below_drew1 | refine below_set ?_ GE192.out) | exact HB.out)))); (case aL => have := LMc37.out; omega); intro v212 w43 ho hb hg hat; rw [← Ny211.out] at ho; have n0_ := Aside0.mk (Kd.R_over' (by (with_reducible repeat (first | apply Kd.R_alloc | apply Kd.R_drewN | apply Kd.R_drew)); exact HO_10.out) (Kd.N_typed (by (with_reducible repeat (first | apply Kd.N_alloc | apply Kd.N_drewN | apply Kd.N_drew)); exact HO_193002.out)) (by decide) hg); have n1_ := Aside0.mk (blk_grown (g := gb192) (o := .cells #[.int .i64 8, .slice none 0 0, u193002] 33 (0, 0)) (by (with_reducible repeat (first | refine blk_drewN ?_ _ | refine blk_drew ?_ | refine blk_alloc ?_ _)); exact BK192.out) hg (Kd.N_ne HO_193002.out BK192.out (by decide))); have n2_ := Aside0.mk (Kd.R_over' (by (with_reducible repeat (first | apply Kd.R_alloc | apply Kd.R_drewN | apply Kd.R_drew)); exact HO210.out) (Kd.N_typed (by (with_reducible repeat (first | apply Kd.N_alloc | apply Kd.N_drewN | apply Kd.N_drew)); exact HO_193002.out)) (by decide) hg); have n3_ := Aside0.mk (hb); have n4_ := Aside0.mk (ho); clear HO_10; clear BK192; clear HO210; clear HB; clear HO_193002; clear HO_12; have HO_10 := n0_; have BK192 := n1_; have HO210 := n2_; have HB := n3_; have HO213 := n4_; clear n0_ n1_ n2_ n3_ n4_; clear ho hb hg hat; obtain ⟨Ao44, co44, eo44⟩ := Kd.N_slice HO213.out; subst eo44; have hcz45_0 : w43.cell? ⟨gb192, 0, none⟩ = some (.int .i64 8) := (blk_cell BK192.out 0).trans rfl; have hcz45_1 : w43.cell? ⟨gb192, 1, none⟩ = some (.slice none 0 0) := (blk_cell BK192.out 1).trans rfl; have hcz45_2 : w43.cell? ⟨gb192, 2, none⟩ = some (u193002) := (blk_cell BK192.out 2).trans rfl; have hfz45_0 := blk_frozen BK192.out 0; have hfz45_1 := blk_frozen BK192.out 1; have hfz45_2 := blk_frozen BK192.out 2))
                          go_roundg k3
                          case measure => have := HJ5.out; have := HK2.out; have := HK3.out; omega
                          case rel => exact ⟨(x10_3), (wrap64 (x11_2 + 1)), (y211), (.slice Ao44 y211.length co44), (by first | rfl | (simp; done) | (simp [*]; done) | (simp [Int.tdiv_eq_ediv_of_nonneg]; done)), H', ⟨by have := HJ5.out; have := HK2.out; have := HK3.out; omega⟩, ⟨by (with_reducible repeat (first | apply Kd.R_alloc | apply Kd.R_drewN | apply Kd.R_drew)); exact Kd.R_mono (Kd.R_far (p := ⟨gb192, 2, none⟩) (Kd.R_types HO_10.out BK192.out (by decide)) (fun _ hk => hk.2) (.slice Ao44 y211.length co44)) (fun _ hk => trivial)⟩, ⟨by (with_reducible repeat (first | apply Kd.N_alloc | apply Kd.N_drewN | apply Kd.N_drew)); exact Kd.N_mono (Kd.N_far (p := ⟨gb192, 2, none⟩) (Kd.N_mono HO213.out (fun k_ hk => (⟨hk, hk.2.2⟩ : _ ∧ k_ ≠ gb192))) (fun _ hk => hk.2) (.slice Ao44 y211.length co44)) (fun _ hk => ⟨hk.1.1, hk.1.2.2⟩)⟩, ⟨by (with_reducible repeat (first | refine blk_drewN ?_ _ | refine blk_drew ?_ | refine blk_alloc ?_ _)); refine blk_put (cs := #[.int .i64 8, .slice none 0 0, u193002]) ?_ 2 _ rfl; (with_reducible repeat (first | refine blk_drewN ?_ _ | refine blk_drew ?_ | refine blk_alloc ?_ _)); exact BK192.out⟩, ⟨by repeat (first | (with_reducible first | exact HB.out | apply below_alloc | apply pw_below_drewN | apply below_drew1 | refine below_set ?_ GE192.out) | exact HB.out)⟩⟩
                        · rw [if_neg c37] at H
                          exact absurd H (by simp)
                · rw [if_neg c15] at H
                  have c15b0 : decide (x11_2 < (l0.length : Int)) = false := decide_eq_false c15
                  clear c15
                  replace H := Option.bind_eq_some_iff.mp H
                  obtain ⟨t214, A460, H⟩ := H
                  replace H : ((watchbilllaw1_Ints.f k2 t214 x10_2).bind fun t217 => (if t217 = true then (watchbilllaw10_CeilUsers.l2 k2 l0 (wrap64 (1 + (wrap64 (Int.tmod a1 20)))) (wrap64 (1 + (wrap64 (Int.tmod a2 30)))) 0 8 x193002_2) else (some false))) = some r := H
                  have A46 := Aside0.mk A460
                  clear A460
                  replace H := Option.bind_eq_some_iff.mp H
                  obtain ⟨t217, A470, H⟩ := H
                  replace H : (if t217 = true then (watchbilllaw10_CeilUsers.l2 k2 l0 (wrap64 (1 + (wrap64 (Int.tmod a1 20)))) (wrap64 (1 + (wrap64 (Int.tmod a2 30)))) 0 8 x193002_2) else (some false)) = some r := H
                  have A47 := Aside0.mk A470
                  clear A470
                  by_cases c48 : t217 = true
                  · subst c48
                    have H1 : (watchbilllaw10_CeilUsers.l2 k2 l0 (wrap64 (1 + (wrap64 (Int.tmod a1 20)))) (wrap64 (1 + (wrap64 (Int.tmod a2 30)))) 0 8 x193002_2) = some r := by rw [if_pos rfl] at H; exact H
                    clear H
                    have H := H1
                    clear H1
                    have H' := Aside0.mk H
                    clear H
                    have hcz49_0 : wr.cell? ⟨gb192, 0, none⟩ = some (.int .i64 8) := (blk_cell BK192.out 0).trans rfl
                    have hcz49_1 : wr.cell? ⟨gb192, 1, none⟩ = some (.slice none 0 0) := (blk_cell BK192.out 1).trans rfl
                    have hcz49_2 : wr.cell? ⟨gb192, 2, none⟩ = some (u193002) := (blk_cell BK192.out 2).trans rfl
                    have hfz49_0 := blk_frozen BK192.out 0
                    have hfz49_1 := blk_frozen BK192.out 1
                    have hfz49_2 := blk_frozen BK192.out 2
                    obtain ⟨Ao50, co50, eo50⟩ := Kd.N_slice HO_193002.out
                    subst eo50
                    go_wp2_with (first | ((with_reducible refine gate_callee (f := 10) rfl ?_); refine goesL_ (some 96) rfl rfl Try.func10 (by kernel_rfl) rfl #[.agg #[.int .i64 8, .slice none 0 0, .slice Ao50 x193002_2.length co50]] rfl (by (try simp only [List.map_toArray, List.map_cons, List.map_nil]); first | done | rfl | (simp only [List.length_drop, List.length_take]; rfl)) ?_; (refine (ceil_Of.calls k2 8 _ _ ([] : List (S64)) _ _ x193002_2 t214 _ ?side1 ?side2 ?side3 ?side4 A46.out).mono ?_); (case side1 => exact Kd.C_nil _ _); (case side2 => exact Nat.le_refl _); (case side3 => repeat (first | exact (Kd.N_reads' HO_193002.out).2.2 | (with_reducible refine Kd.C_alloc ?_ _) | (with_reducible refine Kd.C_drewN ?_ _) | (with_reducible refine Kd.C_drew ?_))); (case side4 => exact (Kd.N_reads' HO_193002.out).2.1); rintro e w51 ⟨v215, rfl, ho0, hb⟩; refine ⟨_, rfl, ?_⟩; have n0_ := Aside0.mk (Kd.R_elder' (by (with_reducible repeat (first | apply Kd.R_alloc | apply Kd.R_drewN | apply Kd.R_drew)); exact HO_10.out) (Kd.R_base ho0) hb); have n1_ := Aside0.mk (Kd.N_elder' (by (with_reducible repeat (first | apply Kd.N_alloc | apply Kd.N_drewN | apply Kd.N_drew)); exact HO_193002.out) (Kd.R_base ho0) hb); have n2_ := Aside0.mk (Kd.R_lower (Kd.R_new' ho0 (Kd.R_lt (by (with_reducible repeat (first | apply Kd.R_alloc | apply Kd.R_drewN | apply Kd.R_drew)); exact HO_10.out))) (below_size (by repeat (first | (with_reducible first | exact HB.out | apply below_alloc | apply pw_below_drewN | apply below_drew1 | refine below_set ?_ GE192.out) | exact HB.out)))); have n3_ := Aside0.mk (blk_below (g := gb192) (o := .cells #[.int .i64 8, .slice none 0 0, .slice Ao50 x193002_2.length co50] 33 (0, 0)) (by (with_reducible repeat (first | refine blk_drewN ?_ _ | refine blk_drew ?_ | refine blk_alloc ?_ _)); exact BK192.out) hb); have n4_ := Aside0.mk (below_step (by repeat (first | (with_reducible first | exact HB.out | apply below_alloc | apply pw_below_drewN | apply below_drew1 | refine below_set ?_ GE192.out) | exact HB.out)) hb); clear HO_10; clear HO_193002; clear BK192; clear HB; have HO_10 := n0_; have HO_193002 := n1_; have HO216 := n2_; have BK192 := n3_; have HB := n4_; clear n0_ n1_ n2_ n3_ n4_; (try clear hb); (try clear hb2); (try clear hk); (try clear hi); (try clear ho0); obtain ⟨Ao52, co52, eo52⟩ := Kd.R_slice HO216.out; subst eo52; obtain ⟨Ao53, co53, eo53⟩ := Kd.R_slice HO_10.out; subst eo53) | ((with_reducible refine gate_callee (f := 11) rfl ?_); refine goesL_ (some 98) rfl rfl Try.func11 (by kernel_rfl) rfl #[.slice Ao52 t214.length co52, .slice Ao53 x10_2.length co53] rfl (by (try simp only [List.map_toArray, List.map_cons, List.map_nil]); first | done | rfl | (simp only [List.length_drop, List.length_take]; rfl)) ?_; (with_reducible refine (watchbilllaw1_Ints.calls k2 _ _ t214 _ _ x10_2 true _ ?side1 ?side2 ?side3 ?side4 A47.out).mono ?_); (case side1 => repeat (first | exact (Kd.R_reads' HO216.out).2.2 | (with_reducible refine Kd.C_alloc ?_ _) | (with_reducible refine Kd.C_drewN ?_ _) | (with_reducible refine Kd.C_drew ?_))); (case side2 => exact (Kd.R_reads' HO216.out).2.1); (case side3 => repeat (first | exact (Kd.R_reads' HO_10.out).2.2 | (with_reducible refine Kd.C_alloc ?_ _) | (with_reducible refine Kd.C_drewN ?_ _) | (with_reducible refine Kd.C_drew ?_))); (case side4 => exact (Kd.R_reads' HO_10.out).2.1); rintro e w' ⟨rfl, ⟨nd, rfl⟩⟩; refine ⟨_, rfl, ?_⟩))
                    go_loopg [14] k2 (fun kq v14 w' => ∃ (x14_3 : Int), v14 = .int .i64 x14_3 ∧ Aside0 (watchbilllaw10_CeilUsers.l2 kq l0 (wrap64 (1 + (wrap64 (Int.tmod a1 20)))) (wrap64 (1 + (wrap64 (Int.tmod a2 30)))) x14_3 8 x193002_2 = some r) ∧ Aside0 (kq ≤ k2) ∧ Aside0 (Kd.N k56 56 w' w.heap.size (fun k_ => k_ ≠ gb192) (.slice Ao50 x193002_2.length co50) x193002_2) ∧ Aside0 (w'.heap[gb192]? = some (.cells #[.int .i64 8, (.slice none 0 0), (.slice Ao50 x193002_2.length co50)] 33 (0, 0))) ∧ Aside0 (Below w.heap.size w w'))
                    case atStart => exact ⟨(0), (by first | rfl | (simp; done) | (simp [*]; done) | (simp [Int.tdiv_eq_ediv_of_nonneg]; done)), H', ⟨Nat.le_refl _⟩, ⟨by (with_reducible repeat (first | apply Kd.N_alloc | apply Kd.N_drewN | apply Kd.N_drew)); exact Kd.N_mono HO_193002.out (fun _ hk => hk.1.2)⟩, ⟨by (with_reducible repeat (first | refine blk_drewN ?_ _ | refine blk_drew ?_ | refine blk_alloc ?_ _)); exact BK192.out⟩, ⟨by repeat (first | (with_reducible first | exact HB.out | apply below_alloc | apply pw_below_drewN | apply below_drew1 | refine below_set ?_ GE192.out) | exact HB.out)⟩⟩
                    case round =>
                      clear H'
                      try clear c1
                      try clear p1
                      try clear q1
                      try clear hx1
                      try clear c2
                      try clear p2
                      try clear q2
                      try clear hx2
                      try clear c3
                      try clear c4
                      try clear hcv4
                      try clear c5
                      try clear c6
                      try clear p6
                      try clear c8
                      try clear c8b0
                      try clear c8b1
                      try clear c9
                      try clear c10
                      try clear c10b0
                      try clear c10b1
                      try clear c11
                      try clear c15
                      try clear c15b0
                      try clear c18
                      try clear c18b0
                      try clear c19
                      try clear c19b0
                      try clear p19
                      try clear q19
                      try clear hx19
                      try clear c20
                      try clear c20b0
                      try clear p20
                      try clear q20
                      try clear hx20
                      try clear c22
                      try clear c22b0
                      try clear c22b1
                      try clear c24
                      try clear c24b0
                      try clear c24b1
                      try clear c25
                      try clear c26
                      try clear c26b0
                      try clear c27
                      try clear c27b0
                      try clear p29
                      try clear q29
                      try clear hx29
                      try clear hf29
                      try clear c37
                      try clear hcv41
                      try clear c48
                      try clear hcz12_0
                      try clear hcz12_1
                      try clear hcz12_2
                      try clear hcz38_0
                      try clear hcz38_1
                      try clear hcz38_2
                      try clear hcz45_0
                      try clear hcz45_1
                      try clear hcz45_2
                      try clear hcz49_0
                      try clear hcz49_1
                      try clear hcz49_2
                      try clear hfz12_0
                      try clear hfz12_1
                      try clear hfz12_2
                      try clear hfz38_0
                      try clear hfz38_1
                      try clear hfz38_2
                      try clear hfz45_0
                      try clear hfz45_1
                      try clear hfz45_2
                      try clear hfz49_0
                      try clear hfz49_1
                      try clear hfz49_2
                      try clear hx199_0
                      try clear hx206_0
                      try clear hx29_0
                      try clear p199
                      try clear p2
                      try clear p206
                      try clear p29
                      try clear p6
                      try clear q199
                      try clear q206
                      try clear q29
                      obtain ⟨x14_3, rfl, HA, HK3, HO_193002, BK192, HB⟩ := hrel
                      cases gk with
                      | zero => exact absurd HA.out (by simp [watchbilllaw10_CeilUsers.l2])
                      | succ k3 =>
                        have H := HA.out
                        clear HA
                        simp only [watchbilllaw10_CeilUsers.l2] at H
                        by_cases c54 : x14_3 < 8
                        · rw [if_pos c54] at H
                          have c54b0 : decide (x14_3 < 8) = true := decide_eq_true c54
                          clear c54
                          replace H := Option.bind_eq_some_iff.mp H
                          obtain ⟨t218, A550, H⟩ := H
                          replace H : (if (t218.length : Int) = (l0.length : Int) then (watchbilllaw10_CeilUsers.l3 k3 l0 (wrap64 (1 + (wrap64 (Int.tmod a1 20)))) (wrap64 (1 + (wrap64 (Int.tmod a2 30)))) x14_3 t218 0 8 x193002_2) else (some false)) = some r := H
                          have A55 := Aside0.mk A550
                          clear A550
                          by_cases c56 : (t218.length : Int) = (l0.length : Int)
                          · rw [if_pos c56] at H
                            have c56b0 : ((t218.length : Int) == (l0.length : Int)) = true := beq_iff_eq.mpr c56
                            have c56b1 : ((t218.length : Int) != (l0.length : Int)) = false := bne_eq_false_iff_eq.mpr c56
                            have c56b2 : (t218.length == l0.length) = true := by first | simpa using c56 | (simp at c56 ⊢; omega)
                            clear c56
                            have H' := Aside0.mk H
                            clear H
                            have hcz57_0 : wr.cell? ⟨gb192, 0, none⟩ = some (.int .i64 8) := (blk_cell BK192.out 0).trans rfl
                            have hcz57_1 : wr.cell? ⟨gb192, 1, none⟩ = some (.slice none 0 0) := (blk_cell BK192.out 1).trans rfl
                            have hcz57_2 : wr.cell? ⟨gb192, 2, none⟩ = some (.slice Ao50 x193002_2.length co50) := (blk_cell BK192.out 2).trans rfl
                            have hfz57_0 := blk_frozen BK192.out 0
                            have hfz57_1 := blk_frozen BK192.out 1
                            have hfz57_2 := blk_frozen BK192.out 2
                            go_wp2_with (first | ((with_reducible refine gate_callee (f := 14) rfl ?_); refine goesL_ (some 106) rfl rfl Try.func14 (by kernel_rfl) rfl #[.agg #[.int .i64 8, .slice none 0 0, .slice Ao50 x193002_2.length co50], .int .i64 x14_3] rfl (by (try simp only [List.map_toArray, List.map_cons, List.map_nil]); first | done | rfl | (simp only [List.length_drop, List.length_take]; rfl)) ?_; (refine (ceil_Sections.calls k3 8 _ _ ([] : List (S64)) _ _ x193002_2 x14_3 t218 _ ?side1 ?side2 ?side3 ?side4 A55.out).mono ?_); (case side1 => exact Kd.C_nil _ _); (case side2 => exact Nat.le_refl _); (case side3 => repeat (first | exact (Kd.N_reads' HO_193002.out).2.2 | (with_reducible refine Kd.C_alloc ?_ _) | (with_reducible refine Kd.C_drewN ?_ _) | (with_reducible refine Kd.C_drew ?_))); (case side4 => exact (Kd.N_reads' HO_193002.out).2.1); rintro e w58 ⟨v219, rfl, ho0, hb⟩; refine ⟨_, rfl, ?_⟩; have n0_ := Aside0.mk (Kd.N_elder' (by (with_reducible repeat (first | apply Kd.N_alloc | apply Kd.N_drewN | apply Kd.N_drew)); exact HO_193002.out) (Kd.R_base ho0) hb); have n1_ := Aside0.mk (Kd.R_lower ho0 (below_size (by repeat (first | (with_reducible first | exact HB.out | apply below_alloc | apply pw_below_drewN | apply below_drew1 | refine below_set ?_ GE192.out) | exact HB.out)))); have n2_ := Aside0.mk (blk_below (g := gb192) (o := .cells #[.int .i64 8, .slice none 0 0, .slice Ao50 x193002_2.length co50] 33 (0, 0)) (by (with_reducible repeat (first | refine blk_drewN ?_ _ | refine blk_drew ?_ | refine blk_alloc ?_ _)); exact BK192.out) hb); have n3_ := Aside0.mk (below_step (by repeat (first | (with_reducible first | exact HB.out | apply below_alloc | apply pw_below_drewN | apply below_drew1 | refine below_set ?_ GE192.out) | exact HB.out)) hb); clear HO_193002; clear BK192; clear HB; have HO_193002 := n0_; have HO220 := n1_; have BK192 := n2_; have HB := n3_; clear n0_ n1_ n2_ n3_; (try clear hb); (try clear hb2); (try clear hk); (try clear hi); (try clear ho0); obtain ⟨Ao59, co59, eo59⟩ := Kd.R_slice HO220.out; subst eo59))
                            go_loopg [16] k3 (fun kq v16 w' => ∃ (x16_4 : Int), v16 = .int .i64 x16_4 ∧ Aside0 (watchbilllaw10_CeilUsers.l3 kq l0 (wrap64 (1 + (wrap64 (Int.tmod a1 20)))) (wrap64 (1 + (wrap64 (Int.tmod a2 30)))) x14_3 t218 x16_4 8 x193002_2 = some r) ∧ Aside0 (kq ≤ k3) ∧ Aside0 (Kd.R (Kd.int .i64) 2 w' w.heap.size (fun _ => True) (.slice Ao59 t218.length co59) t218) ∧ Aside0 (Kd.N k56 56 w' w.heap.size (fun k_ => some k_ ≠ ((.slice Ao59 t218.length co59) : Value).ownBlock ∧ k_ ≠ gb192) (.slice Ao50 x193002_2.length co50) x193002_2) ∧ Aside0 (w'.heap[gb192]? = some (.cells #[.int .i64 8, (.slice none 0 0), (.slice Ao50 x193002_2.length co50)] 33 (0, 0))) ∧ Aside0 (Below w.heap.size w w'))
                            case atStart => exact ⟨(0), (by first | rfl | (simp; done) | (simp [*]; done) | (simp [Int.tdiv_eq_ediv_of_nonneg]; done)), H', ⟨Nat.le_refl _⟩, ⟨by (with_reducible repeat (first | apply Kd.R_alloc | apply Kd.R_drewN | apply Kd.R_drew)); exact HO220.out⟩, ⟨by (with_reducible repeat (first | apply Kd.N_alloc | apply Kd.N_drewN | apply Kd.N_drew)); exact Kd.N_mono HO_193002.out (fun _ hk => ⟨hk.2, hk.1⟩)⟩, ⟨by (with_reducible repeat (first | refine blk_drewN ?_ _ | refine blk_drew ?_ | refine blk_alloc ?_ _)); exact BK192.out⟩, ⟨by repeat (first | (with_reducible first | exact HB.out | apply below_alloc | apply pw_below_drewN | apply below_drew1 | refine below_set ?_ GE192.out) | exact HB.out)⟩⟩
                            case round =>
                              clear H'
                              try clear c1
                              try clear p1
                              try clear q1
                              try clear hx1
                              try clear c2
                              try clear p2
                              try clear q2
                              try clear hx2
                              try clear c3
                              try clear c4
                              try clear hcv4
                              try clear c5
                              try clear c6
                              try clear p6
                              try clear c8
                              try clear c8b0
                              try clear c8b1
                              try clear c9
                              try clear c10
                              try clear c10b0
                              try clear c10b1
                              try clear c11
                              try clear c14
                              try clear c15
                              try clear c15b0
                              try clear c18
                              try clear c18b0
                              try clear c19
                              try clear c19b0
                              try clear p19
                              try clear q19
                              try clear hx19
                              try clear c20
                              try clear c20b0
                              try clear p20
                              try clear q20
                              try clear hx20
                              try clear c22
                              try clear c22b0
                              try clear c22b1
                              try clear c24
                              try clear c24b0
                              try clear c24b1
                              try clear c25
                              try clear c26
                              try clear c26b0
                              try clear c27
                              try clear c27b0
                              try clear p29
                              try clear q29
                              try clear hx29
                              try clear hf29
                              try clear c37
                              try clear hcv41
                              try clear c48
                              try clear c54
                              try clear c54b0
                              try clear c56
                              try clear c56b0
                              try clear c56b1
                              try clear c56b2
                              try clear hcz12_0
                              try clear hcz12_1
                              try clear hcz12_2
                              try clear hcz38_0
                              try clear hcz38_1
                              try clear hcz38_2
                              try clear hcz45_0
                              try clear hcz45_1
                              try clear hcz45_2
                              try clear hcz49_0
                              try clear hcz49_1
                              try clear hcz49_2
                              try clear hcz57_0
                              try clear hcz57_1
                              try clear hcz57_2
                              try clear hfz12_0
                              try clear hfz12_1
                              try clear hfz12_2
                              try clear hfz38_0
                              try clear hfz38_1
                              try clear hfz38_2
                              try clear hfz45_0
                              try clear hfz45_1
                              try clear hfz45_2
                              try clear hfz49_0
                              try clear hfz49_1
                              try clear hfz49_2
                              try clear hfz57_0
                              try clear hfz57_1
                              try clear hfz57_2
                              try clear hx199_0
                              try clear hx206_0
                              try clear hx29_0
                              try clear p1
                              try clear p19
                              try clear p199
                              try clear p2
                              try clear p20
                              try clear p206
                              try clear p29
                              try clear p6
                              try clear q1
                              try clear q19
                              try clear q199
                              try clear q2
                              try clear q20
                              try clear q206
                              try clear q29
                              obtain ⟨x16_4, rfl, HA, HK4, HO_15, HO_193002, BK192, HB⟩ := hrel
                              cases gk with
                              | zero => exact absurd HA.out (by simp [watchbilllaw10_CeilUsers.l3])
                              | succ k4 =>
                                have H := HA.out
                                clear HA
                                simp only [watchbilllaw10_CeilUsers.l3] at H
                                by_cases c60 : x16_4 < (l0.length : Int)
                                · rw [if_pos c60] at H
                                  have c60b0 : decide (x16_4 < (l0.length : Int)) = true := decide_eq_true c60
                                  clear c60
                                  by_cases c61 : 0 ≤ x16_4
                                  · rw [if_pos c61] at H
                                    have c61b0 : decide (0 ≤ x16_4) = true := decide_eq_true c61
                                    clear c61
                                    obtain ⟨ji62, hji62⟩ : ∃ j_ : Int, (IntKind.u64.wrap (x14_3)) = j_ := ⟨_, rfl⟩
                                    replace H : (if 0 ≤ (ji62) then (if (Go.bits .and .u8 (shr .u8 (rd l0 x16_4) (ji62)) 1) = 1 then (if x16_4 < (t218.length : Int) then (if (rd t218 x16_4) = (mn (wrap64 (1 + (wrap64 (Int.tmod a1 20)))) (wrap64 (1 + (wrap64 (Int.tmod a2 30))))) then (watchbilllaw10_CeilUsers.l3 k4 l0 (wrap64 (1 + (wrap64 (Int.tmod a1 20)))) (wrap64 (1 + (wrap64 (Int.tmod a2 30)))) x14_3 t218 (wrap64 (x16_4 + 1)) 8 x193002_2) else (some false)) else (none)) else (if x16_4 < (t218.length : Int) then (if (rd t218 x16_4) = 0 then (watchbilllaw10_CeilUsers.l3 k4 l0 (wrap64 (1 + (wrap64 (Int.tmod a1 20)))) (wrap64 (1 + (wrap64 (Int.tmod a2 30)))) x14_3 t218 (wrap64 (x16_4 + 1)) 8 x193002_2) else (some false)) else (none))) else (none)) = some r := by first | (rw [hji62] at H; exact H) | (simp only [hji62] at H ⊢; exact H)
                                    by_cases c63 : 0 ≤ (ji62)
                                    · rw [if_pos c63] at H
                                      have c63b0 := eq_true c63
                                      have c63b1 : decide (0 ≤ (ji62)) = true := decide_eq_true c63
                                      clear c63
                                      obtain ⟨ji64, hji64⟩ : ∃ j_ : Int, (shr .u8 (rd l0 x16_4) (ji62)) = j_ := ⟨_, rfl⟩
                                      replace H : (if (Go.bits .and .u8 (ji64) 1) = 1 then (if x16_4 < (t218.length : Int) then (if (rd t218 x16_4) = (mn (wrap64 (1 + (wrap64 (Int.tmod a1 20)))) (wrap64 (1 + (wrap64 (Int.tmod a2 30))))) then (watchbilllaw10_CeilUsers.l3 k4 l0 (wrap64 (1 + (wrap64 (Int.tmod a1 20)))) (wrap64 (1 + (wrap64 (Int.tmod a2 30)))) x14_3 t218 (wrap64 (x16_4 + 1)) 8 x193002_2) else (some false)) else (none)) else (if x16_4 < (t218.length : Int) then (if (rd t218 x16_4) = 0 then (watchbilllaw10_CeilUsers.l3 k4 l0 (wrap64 (1 + (wrap64 (Int.tmod a1 20)))) (wrap64 (1 + (wrap64 (Int.tmod a2 30)))) x14_3 t218 (wrap64 (x16_4 + 1)) 8 x193002_2) else (some false)) else (none))) = some r := by first | (rw [hji64] at H; exact H) | (simp only [hji64] at H ⊢; exact H)
                                      have hji64_ : ((rd l0 x16_4) / 2 ^ min (ji62).toNat 8) = ji64 := hji64
                                      have hji64z : (ji62) ≤ 8 → ((rd l0 x16_4) / 2 ^ (ji62).toNat) = ji64 := shr_small hji64
                                      by_cases c65 : (Go.bits .and .u8 (ji64) 1) = 1
                                      · rw [if_pos c65] at H
                                        have c65b0 : ((Go.bits .and .u8 (ji64) 1) == 1) = true := beq_iff_eq.mpr c65
                                        have c65b1 : ((Go.bits .and .u8 (ji64) 1) != 1) = false := bne_eq_false_iff_eq.mpr c65
                                        clear c65
                                        obtain ⟨ji66, hji66⟩ : ∃ j_ : Int, (mn (wrap64 (1 + (wrap64 (Int.tmod a1 20)))) (wrap64 (1 + (wrap64 (Int.tmod a2 30))))) = j_ := ⟨_, rfl⟩
                                        replace H : (if x16_4 < (t218.length : Int) then (if (rd t218 x16_4) = (ji66) then (watchbilllaw10_CeilUsers.l3 k4 l0 (wrap64 (1 + (wrap64 (Int.tmod a1 20)))) (wrap64 (1 + (wrap64 (Int.tmod a2 30)))) x14_3 t218 (wrap64 (x16_4 + 1)) 8 x193002_2) else (some false)) else (none)) = some r := by first | (rw [hji66] at H; exact H) | (simp only [hji66] at H ⊢; exact H)
                                        have hji66_ : (if (wrap64 (1 + (wrap64 (Int.tmod a2 30)))) < (wrap64 (1 + (wrap64 (Int.tmod a1 20)))) then (wrap64 (1 + (wrap64 (Int.tmod a2 30)))) else (wrap64 (1 + (wrap64 (Int.tmod a1 20))))) = ji66 := hji66
                                        by_cases c67 : x16_4 < (t218.length : Int)
                                        · rw [if_pos c67] at H
                                          have c67b0 : decide (x16_4 < (t218.length : Int)) = true := decide_eq_true c67
                                          clear c67
                                          by_cases c68 : (rd t218 x16_4) = (ji66)
                                          · rw [if_pos c68] at H
                                            have c68b0 : ((rd t218 x16_4) == (ji66)) = true := beq_iff_eq.mpr c68
                                            have c68b1 : ((rd t218 x16_4) != (ji66)) = false := bne_eq_false_iff_eq.mpr c68
                                            clear c68
                                            have H' := Aside0.mk H
                                            clear H
                                            have p221 : 0 ≤ (x16_4 : Int) := of_decide_eq_true (by first | (with_reducible assumption) | assumption)
                                            have q221 : x16_4 < (l0.length : Int) := of_decide_eq_true (by first | (with_reducible assumption) | assumption)
                                            obtain ⟨ad221, e221, hx221_0⟩ := Kd.at_int HR0.out x16_4 p221 q221
                                            cases e221
                                            replace hx221_0 := (HB.out.cell (World.block_lt_of_cell? w _ hx221_0)).trans hx221_0
                                            replace p221 := eq_true p221
                                            replace q221 := eq_true q221
                                            have p222 : 0 ≤ (x16_4 : Int) := of_decide_eq_true (by first | (with_reducible assumption) | assumption)
                                            have q222 : x16_4 < (t218.length : Int) := of_decide_eq_true (by first | (with_reducible assumption) | assumption)
                                            obtain ⟨ad222, e222, hx222_0⟩ := Kd.at_int (Kd.R_reads' HO_15.out).2.2 x16_4 p222 q222
                                            cases e222
                                            replace p222 := eq_true p222
                                            replace q222 := eq_true q222
                                            go_wp2
                                            go_roundg k4
                                            case measure => have := HJ5.out; have := HK2.out; have := HK3.out; have := HK4.out; omega
                                            case rel => exact ⟨(wrap64 (x16_4 + 1)), (by first | rfl | (simp; done) | (simp [*]; done) | (simp [Int.tdiv_eq_ediv_of_nonneg]; done)), H', ⟨by have := HJ5.out; have := HK2.out; have := HK3.out; have := HK4.out; omega⟩, ⟨by (with_reducible repeat (first | apply Kd.R_alloc | apply Kd.R_drewN | apply Kd.R_drew)); exact HO_15.out⟩, ⟨by (with_reducible repeat (first | apply Kd.N_alloc | apply Kd.N_drewN | apply Kd.N_drew)); exact HO_193002.out⟩, ⟨by (with_reducible repeat (first | refine blk_drewN ?_ _ | refine blk_drew ?_ | refine blk_alloc ?_ _)); exact BK192.out⟩, ⟨by repeat (first | (with_reducible first | exact HB.out | apply below_alloc | apply pw_below_drewN | apply below_drew1 | refine below_set ?_ GE192.out) | exact HB.out)⟩⟩
                                          · rw [if_neg c68] at H
                                            have c68b0 : ((rd t218 x16_4) == (ji66)) = false := beq_eq_false_iff_ne.mpr c68
                                            have c68b1 : ((rd t218 x16_4) != (ji66)) = true := bne_iff_ne.mpr c68
                                            obtain rfl := Option.some.inj H
                                            have p221 : 0 ≤ (x16_4 : Int) := of_decide_eq_true (by first | (with_reducible assumption) | assumption)
                                            have q221 : x16_4 < (l0.length : Int) := of_decide_eq_true (by first | (with_reducible assumption) | assumption)
                                            obtain ⟨ad221, e221, hx221_0⟩ := Kd.at_int HR0.out x16_4 p221 q221
                                            cases e221
                                            replace hx221_0 := (HB.out.cell (World.block_lt_of_cell? w _ hx221_0)).trans hx221_0
                                            replace p221 := eq_true p221
                                            replace q221 := eq_true q221
                                            have p222 : 0 ≤ (x16_4 : Int) := of_decide_eq_true (by first | (with_reducible assumption) | assumption)
                                            have q222 : x16_4 < (t218.length : Int) := of_decide_eq_true (by first | (with_reducible assumption) | assumption)
                                            obtain ⟨ad222, e222, hx222_0⟩ := Kd.at_int (Kd.R_reads' HO_15.out).2.2 x16_4 p222 q222
                                            cases e222
                                            replace p222 := eq_true p222
                                            replace q222 := eq_true q222
                                            go_wp2
                                            go_ret
                                            exact ⟨by first | rfl | (simp [errW_none, errW_some] <;> rfl) | (simp only [← hji62, ← hji64, ← hji66]; first | rfl | (simp [errW_none, errW_some] <;> rfl)) | (simp [*, errW_none, errW_some] <;> rfl), by repeat (first | (with_reducible first | exact HB.out | apply below_alloc | apply pw_below_drewN | apply below_drew1 | refine below_set ?_ GE192.out) | exact HB.out)⟩
                                        · rw [if_neg c67] at H
                                          exact absurd H (by simp)
                                      · rw [if_neg c65] at H
                                        have c65b0 : ((Go.bits .and .u8 (ji64) 1) == 1) = false := beq_eq_false_iff_ne.mpr c65
                                        have c65b1 : ((Go.bits .and .u8 (ji64) 1) != 1) = true := bne_iff_ne.mpr c65
                                        by_cases c69 : x16_4 < (t218.length : Int)
                                        · rw [if_pos c69] at H
                                          have c69b0 : decide (x16_4 < (t218.length : Int)) = true := decide_eq_true c69
                                          clear c69
                                          by_cases c70 : (rd t218 x16_4) = 0
                                          · rw [if_pos c70] at H
                                            have c70b0 : ((rd t218 x16_4) == 0) = true := beq_iff_eq.mpr c70
                                            have c70b1 : ((rd t218 x16_4) != 0) = false := bne_eq_false_iff_eq.mpr c70
                                            clear c70
                                            have H' := Aside0.mk H
                                            clear H
                                            have p221 : 0 ≤ (x16_4 : Int) := of_decide_eq_true (by first | (with_reducible assumption) | assumption)
                                            have q221 : x16_4 < (l0.length : Int) := of_decide_eq_true (by first | (with_reducible assumption) | assumption)
                                            obtain ⟨ad221, e221, hx221_0⟩ := Kd.at_int HR0.out x16_4 p221 q221
                                            cases e221
                                            replace hx221_0 := (HB.out.cell (World.block_lt_of_cell? w _ hx221_0)).trans hx221_0
                                            replace p221 := eq_true p221
                                            replace q221 := eq_true q221
                                            have p223 : 0 ≤ (x16_4 : Int) := of_decide_eq_true (by first | (with_reducible assumption) | assumption)
                                            have q223 : x16_4 < (t218.length : Int) := of_decide_eq_true (by first | (with_reducible assumption) | assumption)
                                            obtain ⟨ad223, e223, hx223_0⟩ := Kd.at_int (Kd.R_reads' HO_15.out).2.2 x16_4 p223 q223
                                            cases e223
                                            replace p223 := eq_true p223
                                            replace q223 := eq_true q223
                                            go_wp2
                                            go_roundg k4
                                            case measure => have := HJ5.out; have := HK2.out; have := HK3.out; have := HK4.out; omega
                                            case rel => exact ⟨(wrap64 (x16_4 + 1)), (by first | rfl | (simp; done) | (simp [*]; done) | (simp [Int.tdiv_eq_ediv_of_nonneg]; done)), H', ⟨by have := HJ5.out; have := HK2.out; have := HK3.out; have := HK4.out; omega⟩, ⟨by (with_reducible repeat (first | apply Kd.R_alloc | apply Kd.R_drewN | apply Kd.R_drew)); exact HO_15.out⟩, ⟨by (with_reducible repeat (first | apply Kd.N_alloc | apply Kd.N_drewN | apply Kd.N_drew)); exact HO_193002.out⟩, ⟨by (with_reducible repeat (first | refine blk_drewN ?_ _ | refine blk_drew ?_ | refine blk_alloc ?_ _)); exact BK192.out⟩, ⟨by repeat (first | (with_reducible first | exact HB.out | apply below_alloc | apply pw_below_drewN | apply below_drew1 | refine below_set ?_ GE192.out) | exact HB.out)⟩⟩
                                          · rw [if_neg c70] at H
                                            have c70b0 : ((rd t218 x16_4) == 0) = false := beq_eq_false_iff_ne.mpr c70
                                            have c70b1 : ((rd t218 x16_4) != 0) = true := bne_iff_ne.mpr c70
                                            obtain rfl := Option.some.inj H
                                            have p221 : 0 ≤ (x16_4 : Int) := of_decide_eq_true (by first | (with_reducible assumption) | assumption)
                                            have q221 : x16_4 < (l0.length : Int) := of_decide_eq_true (by first | (with_reducible assumption) | assumption)
                                            obtain ⟨ad221, e221, hx221_0⟩ := Kd.at_int HR0.out x16_4 p221 q221
                                            cases e221
                                            replace hx221_0 := (HB.out.cell (World.block_lt_of_cell? w _ hx221_0)).trans hx221_0
                                            replace p221 := eq_true p221
                                            replace q221 := eq_true q221
                                            have p223 : 0 ≤ (x16_4 : Int) := of_decide_eq_true (by first | (with_reducible assumption) | assumption)
                                            have q223 : x16_4 < (t218.length : Int) := of_decide_eq_true (by first | (with_reducible assumption) | assumption)
                                            obtain ⟨ad223, e223, hx223_0⟩ := Kd.at_int (Kd.R_reads' HO_15.out).2.2 x16_4 p223 q223
                                            cases e223
                                            replace p223 := eq_true p223
                                            replace q223 := eq_true q223
                                            go_wp2
                                            go_ret
                                            exact ⟨by first | rfl | (simp [errW_none, errW_some] <;> rfl) | (simp only [← hji62, ← hji64]; first | rfl | (simp [errW_none, errW_some] <;> rfl)) | (simp [*, errW_none, errW_some] <;> rfl), by repeat (first | (with_reducible first | exact HB.out | apply below_alloc | apply pw_below_drewN | apply below_drew1 | refine below_set ?_ GE192.out) | exact HB.out)⟩
                                        · rw [if_neg c69] at H
                                          exact absurd H (by simp)
                                    · rw [if_neg c63] at H
                                      exact absurd H (by simp)
                                  · rw [if_neg c61] at H
                                    exact absurd H (by simp)
                                · rw [if_neg c60] at H
                                  have c60b0 : decide (x16_4 < (l0.length : Int)) = false := decide_eq_false c60
                                  clear c60
                                  have H' := Aside0.mk H
                                  clear H
                                  go_wp2
                                  go_roundg k4
                                  case measure => have := HJ5.out; have := HK2.out; have := HK3.out; have := HK4.out; omega
                                  case rel => exact ⟨(wrap64 (x14_3 + 1)), (by first | rfl | (simp; done) | (simp [*]; done) | (simp [Int.tdiv_eq_ediv_of_nonneg]; done)), H', ⟨by have := HJ5.out; have := HK2.out; have := HK3.out; have := HK4.out; omega⟩, ⟨by (with_reducible repeat (first | apply Kd.N_alloc | apply Kd.N_drewN | apply Kd.N_drew)); exact Kd.N_mono HO_193002.out (fun _ hk => hk.2)⟩, ⟨by (with_reducible repeat (first | refine blk_drewN ?_ _ | refine blk_drew ?_ | refine blk_alloc ?_ _)); exact BK192.out⟩, ⟨by repeat (first | (with_reducible first | exact HB.out | apply below_alloc | apply pw_below_drewN | apply below_drew1 | refine below_set ?_ GE192.out) | exact HB.out)⟩⟩
                          · rw [if_neg c56] at H
                            have c56b0 : ((t218.length : Int) == (l0.length : Int)) = false := beq_eq_false_iff_ne.mpr c56
                            have c56b1 : ((t218.length : Int) != (l0.length : Int)) = true := bne_iff_ne.mpr c56
                            have c56b2 : (t218.length == l0.length) = false := by first | simpa using c56 | (simp at c56 ⊢; omega)
                            obtain rfl := Option.some.inj H
                            have hcz71_0 : wr.cell? ⟨gb192, 0, none⟩ = some (.int .i64 8) := (blk_cell BK192.out 0).trans rfl
                            have hcz71_1 : wr.cell? ⟨gb192, 1, none⟩ = some (.slice none 0 0) := (blk_cell BK192.out 1).trans rfl
                            have hcz71_2 : wr.cell? ⟨gb192, 2, none⟩ = some (.slice Ao50 x193002_2.length co50) := (blk_cell BK192.out 2).trans rfl
                            have hfz71_0 := blk_frozen BK192.out 0
                            have hfz71_1 := blk_frozen BK192.out 1
                            have hfz71_2 := blk_frozen BK192.out 2
                            go_wp2_with (first | ((with_reducible refine gate_callee (f := 14) rfl ?_); refine goesL_ (some 106) rfl rfl Try.func14 (by kernel_rfl) rfl #[.agg #[.int .i64 8, .slice none 0 0, .slice Ao50 x193002_2.length co50], .int .i64 x14_3] rfl (by (try simp only [List.map_toArray, List.map_cons, List.map_nil]); first | done | rfl | (simp only [List.length_drop, List.length_take]; rfl)) ?_; (refine (ceil_Sections.calls k3 8 _ _ ([] : List (S64)) _ _ x193002_2 x14_3 t218 _ ?side1 ?side2 ?side3 ?side4 A55.out).mono ?_); (case side1 => exact Kd.C_nil _ _); (case side2 => exact Nat.le_refl _); (case side3 => repeat (first | exact (Kd.N_reads' HO_193002.out).2.2 | (with_reducible refine Kd.C_alloc ?_ _) | (with_reducible refine Kd.C_drewN ?_ _) | (with_reducible refine Kd.C_drew ?_))); (case side4 => exact (Kd.N_reads' HO_193002.out).2.1); rintro e w72 ⟨v219, rfl, ho0, hb⟩; refine ⟨_, rfl, ?_⟩; have n0_ := Aside0.mk (Kd.N_elder' (by (with_reducible repeat (first | apply Kd.N_alloc | apply Kd.N_drewN | apply Kd.N_drew)); exact HO_193002.out) (Kd.R_base ho0) hb); have n1_ := Aside0.mk (Kd.R_lower ho0 (below_size (by repeat (first | (with_reducible first | exact HB.out | apply below_alloc | apply pw_below_drewN | apply below_drew1 | refine below_set ?_ GE192.out) | exact HB.out)))); have n2_ := Aside0.mk (blk_below (g := gb192) (o := .cells #[.int .i64 8, .slice none 0 0, .slice Ao50 x193002_2.length co50] 33 (0, 0)) (by (with_reducible repeat (first | refine blk_drewN ?_ _ | refine blk_drew ?_ | refine blk_alloc ?_ _)); exact BK192.out) hb); have n3_ := Aside0.mk (below_step (by repeat (first | (with_reducible first | exact HB.out | apply below_alloc | apply pw_below_drewN | apply below_drew1 | refine below_set ?_ GE192.out) | exact HB.out)) hb); clear HO_193002; clear BK192; clear HB; have HO_193002 := n0_; have HO220 := n1_; have BK192 := n2_; have HB := n3_; clear n0_ n1_ n2_ n3_; (try clear hb); (try clear hb2); (try clear hk); (try clear hi); (try clear ho0); obtain ⟨Ao73, co73, eo73⟩ := Kd.R_slice HO220.out; subst eo73))
                            go_ret
                            exact ⟨by first | rfl | (simp [errW_none, errW_some] <;> rfl) | (simp [*, errW_none, errW_some] <;> rfl), by repeat (first | (with_reducible first | exact HB.out | apply below_alloc | apply pw_below_drewN | apply below_drew1 | refine below_set ?_ GE192.out) | exact HB.out)⟩
                        · rw [if_neg c54] at H
                          have c54b0 : decide (x14_3 < 8) = false := decide_eq_false c54
                          clear c54
                          obtain rfl := Option.some.inj H
                          go_wp2
                          go_ret
                          exact ⟨by first | rfl | (simp [errW_none, errW_some] <;> rfl) | (simp [*, errW_none, errW_some] <;> rfl), by repeat (first | (with_reducible first | exact HB.out | apply below_alloc | apply pw_below_drewN | apply below_drew1 | refine below_set ?_ GE192.out) | exact HB.out)⟩
                  · replace c48 := Bool.eq_false_iff.mpr c48
                    subst c48
                    have H1 : (some false) = some r := by rw [if_neg (show ¬ (false = true) by decide)] at H; exact H
                    clear H
                    have H := H1
                    clear H1
                    obtain rfl := Option.some.inj H
                    have hcz74_0 : wr.cell? ⟨gb192, 0, none⟩ = some (.int .i64 8) := (blk_cell BK192.out 0).trans rfl
                    have hcz74_1 : wr.cell? ⟨gb192, 1, none⟩ = some (.slice none 0 0) := (blk_cell BK192.out 1).trans rfl
                    have hcz74_2 : wr.cell? ⟨gb192, 2, none⟩ = some (u193002) := (blk_cell BK192.out 2).trans rfl
                    have hfz74_0 := blk_frozen BK192.out 0
                    have hfz74_1 := blk_frozen BK192.out 1
                    have hfz74_2 := blk_frozen BK192.out 2
                    obtain ⟨Ao75, co75, eo75⟩ := Kd.N_slice HO_193002.out
                    subst eo75
                    go_wp2_with (first | ((with_reducible refine gate_callee (f := 10) rfl ?_); refine goesL_ (some 96) rfl rfl Try.func10 (by kernel_rfl) rfl #[.agg #[.int .i64 8, .slice none 0 0, .slice Ao75 x193002_2.length co75]] rfl (by (try simp only [List.map_toArray, List.map_cons, List.map_nil]); first | done | rfl | (simp only [List.length_drop, List.length_take]; rfl)) ?_; (refine (ceil_Of.calls k2 8 _ _ ([] : List (S64)) _ _ x193002_2 t214 _ ?side1 ?side2 ?side3 ?side4 A46.out).mono ?_); (case side1 => exact Kd.C_nil _ _); (case side2 => exact Nat.le_refl _); (case side3 => repeat (first | exact (Kd.N_reads' HO_193002.out).2.2 | (with_reducible refine Kd.C_alloc ?_ _) | (with_reducible refine Kd.C_drewN ?_ _) | (with_reducible refine Kd.C_drew ?_))); (case side4 => exact (Kd.N_reads' HO_193002.out).2.1); rintro e w76 ⟨v215, rfl, ho0, hb⟩; refine ⟨_, rfl, ?_⟩; have n0_ := Aside0.mk (Kd.R_elder' (by (with_reducible repeat (first | apply Kd.R_alloc | apply Kd.R_drewN | apply Kd.R_drew)); exact HO_10.out) (Kd.R_base ho0) hb); have n1_ := Aside0.mk (Kd.N_elder' (by (with_reducible repeat (first | apply Kd.N_alloc | apply Kd.N_drewN | apply Kd.N_drew)); exact HO_193002.out) (Kd.R_base ho0) hb); have n2_ := Aside0.mk (Kd.R_lower (Kd.R_new' ho0 (Kd.R_lt (by (with_reducible repeat (first | apply Kd.R_alloc | apply Kd.R_drewN | apply Kd.R_drew)); exact HO_10.out))) (below_size (by repeat (first | (with_reducible first | exact HB.out | apply below_alloc | apply pw_below_drewN | apply below_drew1 | refine below_set ?_ GE192.out) | exact HB.out)))); have n3_ := Aside0.mk (blk_below (g := gb192) (o := .cells #[.int .i64 8, .slice none 0 0, .slice Ao75 x193002_2.length co75] 33 (0, 0)) (by (with_reducible repeat (first | refine blk_drewN ?_ _ | refine blk_drew ?_ | refine blk_alloc ?_ _)); exact BK192.out) hb); have n4_ := Aside0.mk (below_step (by repeat (first | (with_reducible first | exact HB.out | apply below_alloc | apply pw_below_drewN | apply below_drew1 | refine below_set ?_ GE192.out) | exact HB.out)) hb); clear HO_10; clear HO_193002; clear BK192; clear HB; have HO_10 := n0_; have HO_193002 := n1_; have HO216 := n2_; have BK192 := n3_; have HB := n4_; clear n0_ n1_ n2_ n3_ n4_; (try clear hb); (try clear hb2); (try clear hk); (try clear hi); (try clear ho0); obtain ⟨Ao77, co77, eo77⟩ := Kd.R_slice HO216.out; subst eo77; obtain ⟨Ao78, co78, eo78⟩ := Kd.R_slice HO_10.out; subst eo78) | ((with_reducible refine gate_callee (f := 11) rfl ?_); refine goesL_ (some 98) rfl rfl Try.func11 (by kernel_rfl) rfl #[.slice Ao77 t214.length co77, .slice Ao78 x10_2.length co78] rfl (by (try simp only [List.map_toArray, List.map_cons, List.map_nil]); first | done | rfl | (simp only [List.length_drop, List.length_take]; rfl)) ?_; (with_reducible refine (watchbilllaw1_Ints.calls k2 _ _ t214 _ _ x10_2 false _ ?side1 ?side2 ?side3 ?side4 A47.out).mono ?_); (case side1 => repeat (first | exact (Kd.R_reads' HO216.out).2.2 | (with_reducible refine Kd.C_alloc ?_ _) | (with_reducible refine Kd.C_drewN ?_ _) | (with_reducible refine Kd.C_drew ?_))); (case side2 => exact (Kd.R_reads' HO216.out).2.1); (case side3 => repeat (first | exact (Kd.R_reads' HO_10.out).2.2 | (with_reducible refine Kd.C_alloc ?_ _) | (with_reducible refine Kd.C_drewN ?_ _) | (with_reducible refine Kd.C_drew ?_))); (case side4 => exact (Kd.R_reads' HO_10.out).2.1); rintro e w' ⟨rfl, ⟨nd, rfl⟩⟩; refine ⟨_, rfl, ?_⟩))
                    go_ret
                    exact ⟨by first | rfl | (simp [errW_none, errW_some] <;> rfl) | (simp [*, errW_none, errW_some] <;> rfl), by repeat (first | (with_reducible first | exact HB.out | apply below_alloc | apply pw_below_drewN | apply below_drew1 | refine below_set ?_ GE192.out) | exact HB.out)⟩
          · rw [if_neg c10] at H
            exact absurd H (by simp)
  · replace c5 := Bool.eq_false_iff.mpr c5
    subst c5
    have H1 : (some false) = some r := by rw [if_neg (show ¬ (false = true) by decide)] at H; exact H
    clear H
    have H := H1
    clear H1
    obtain rfl := Option.some.inj H
    go_enter Try.func4, Try.ntmps4
    go_wp2_with (first | ((with_reducible refine gate_callee (f := 6) rfl ?_); refine goesL_ (some 18) rfl rfl Try.func6 (by kernel_rfl) rfl #[] rfl (by (try simp only [List.map_toArray, List.map_cons, List.map_nil]); first | done | rfl | (simp only [List.length_drop, List.length_take]; rfl)) ?_; (with_reducible refine (watchbilllaw10_known.calls k  false _ A4.out).mono ?_); rintro e w79 ⟨rfl, hb⟩; refine ⟨_, rfl, ?_⟩; have n0_ := Aside0.mk (below_step (by repeat (first | (with_reducible first | exact HB.out | apply below_alloc | apply pw_below_drewN | apply below_drew1) | exact HB.out)) hb); clear HB; have HB := n0_; clear n0_; (try clear hb); (try clear hb2); (try clear hk); (try clear hi)))
    go_ret
    exact ⟨by first | rfl | (simp [errW_none, errW_some] <;> rfl) | (simp [*, errW_none, errW_some] <;> rfl), by repeat (first | (with_reducible first | exact HB.out | apply below_alloc | apply pw_below_drewN | apply below_drew1) | exact HB.out)⟩

/-- THE ONE PURE STATEMENT of watchbilllaw10_CeilUsers: yours. -/
def watchbilllaw10_CeilUsers.Pure : Prop := ∀ (l0 : List Int) (a1 : Int) (a2 : Int), l0.length ≤ maxLen → l0.length * 1 ≤ 140737488351232 → (∀ x ∈ l0, (Lit.int .u8 x).wf = true) → (Lit.int .u8 a1).wf = true → (Lit.int .u8 a2).wf = true → ∃ k, watchbilllaw10_CeilUsers.f k l0 a1 a2 = some true
theorem watchbilllaw10_CeilUsers.walk (P : watchbilllaw10_CeilUsers.Pure) (a0 : Option Addr) (len0 cap0 : Nat) (z0 : List Int) (a1 : Int) (a2 : Int) (w : World) (w0 : (a0 = none ∧ len0 = 0 ∧ cap0 = 0 ∧ z0 = []) ∨ ∃ x, a0 = some x ∧ len0 ≤ cap0 ∧ cap0 ≤ maxLen ∧ z0.length = cap0 ∧ (∀ i, i < z0.length → w.cell? (x.add i) = some (.int .u8 (z0.getD i 0))) ∧ ∀ n ∈ z0, (Lit.int .u8 n).wf = true) (y0 : len0 * 1 ≤ 140737488351232) (w1 : (Lit.int .u8 a1).wf = true) (w2 : (Lit.int .u8 a2).wf = true) :
    Calls Try.prog 4 #[.slice a0 len0 cap0, .int .u8 a1, .int .u8 a2] w fun e w' => e = .returned (.bool true) ∧ Below w.heap.size w w' := by
  obtain ⟨l0, rfl, hr0, hm0, hw0, hc0⟩ := ReadsInt.ofRowC w0
  obtain ⟨k, h⟩ := P l0 a1 a2 hm0 y0 hw0 w1 w2
  refine (watchbilllaw10_CeilUsers.calls k _ _ l0 a1 a2 true w (Kd.C_of_reads (d := (0 : Int)) (h1 := fun _ => rfl) hr0) hc0 h).mono ?_
  rintro e w' ⟨rfl, hd⟩
  exact ⟨rfl, hd⟩

end Go.Proofs.Ytniphoeoeekpbaa.XA
