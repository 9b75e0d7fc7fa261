-- PRINTED by print.py (a twelfth state) out of the translation. Not trusted: Lean checks it.
import Derived.Test.YtgeejlcnnldogaaXAx0
import Derived.Test.YtgeejlcnnldogaaXAx1
import Derived.Test.YtgeejlcnnldogaaXAx9
namespace Go.Proofs.Ytgeejlcnnldogaa.XA
open Go.RowKit Go.Proofs.YtgeejlcnnldogaaW.PrintWords Go.Proofs.YtgeejlcnnldogaaW.PrintLast Go.Proofs.YtgeejlcnnldogaaW.PrintMore
attribute [local go_sem] max2_int min2_int max_two min_two max_three min_three max_four min_four   -- for this text's walks alone
set_option linter.unusedVariables false
set_option linter.unusedSimpArgs false

/-! ### watchbilllaw12_known: function 9 -/
open Go.Proofs.YtgeejlcnnldogaaH (Upd Rd)
def kL : List S58 := [⟨7, 3⟩, ⟨12, 3⟩]
theorem k12_1 : rta_Fix.f 30 5 kL 20 = some (20, 5, 0) := by kernel_rfl
theorem k12_2 : rta_Fix.f 30 5 kL 19 = some (0, 0, 13) := by kernel_rfl
theorem k12_3 : rta_Fix.f 1100 5 [⟨1, 1⟩] 4611686018427387904 = some (0, 0, 15) := by kernel_rfl
theorem k12_4 : rta_Fix.f 30 1 [⟨1, 4611686018427387904⟩] 9223372036854775807 = some (0, 0, 14) := by kernel_rfl
theorem k12_5 : rta_Next.f 30 14 5 kL = some (17, 0) := by kernel_rfl
theorem k12_6 : rta_Next.f 30 (-1) 5 kL = some (0, 1) := by kernel_rfl
theorem k12_7 : rta_Next.f 30 1 5 [⟨0, 1⟩] = some (0, 1) := by kernel_rfl
def twoT : List S75 := [⟨⟨#[102, 97, 115, 116]⟩, 10, 8, 3, twoA⟩, ⟨⟨#[115, 108, 111, 119]⟩, 20, 20, 6, twoB⟩]
theorem k12_t : watchbilllaw7_Two.f = some (1, [], twoT) := rfl
theorem k12_8 : rta_Of.f 60 1 [] twoT 0 = some (6, 0) := by kernel_rfl
theorem k12_9 : rta_Of.f 60 1 [] twoT 1 = some (7, 0) := by kernel_rfl
theorem k12_10 : rta_Of.f 60 1 [] twoT 2 = some (0, 1) := by kernel_rfl
theorem one_load (W : World) (p c : Int) : Kd.C k58 (W.alloc (.cells #[.int .i64 p, .int .i64 c] 58)) (some ⟨W.heap.size, 0, none⟩) 1 [⟨p, c⟩] := by
  have h := R_of_blk (d := k58) (e := 58) (w := W.alloc (.cells #[.int .i64 p, .int .i64 c] 58)) (base := 0) (g := W.heap.size) (n := 1) (ok := fun _ => True) (xs := [⟨p, c⟩]) (heap_alloc_new W _) (Nat.zero_le _) trivial rfl (by unfold maxLen; simp) ⟨rfl, fun j q hj => by
    match j, hj with
    | 0, h => cases h; exact k58_mkM _ _ _ ⟨p, c⟩⟩
  exact (Kd.R_reads' h).2.2
theorem two_loads (W : World) (p c p' c' : Int) : Kd.C k58 (W.alloc (.cells #[.int .i64 p, .int .i64 c, .int .i64 p', .int .i64 c'] 58)) (some ⟨W.heap.size, 0, none⟩) 2 [⟨p, c⟩, ⟨p', c'⟩] := by
  have h := R_of_blk (d := k58) (e := 58) (w := W.alloc (.cells #[.int .i64 p, .int .i64 c, .int .i64 p', .int .i64 c'] 58)) (base := 0) (g := W.heap.size) (n := 2) (ok := fun _ => True) (xs := [⟨p, c⟩, ⟨p', c'⟩]) (heap_alloc_new W _) (Nat.zero_le _) trivial rfl (by unfold maxLen; simp) ⟨rfl, fun j q hj => by
    match j, hj with
    | 0, h => cases h; exact k58_mkM _ _ _ ⟨p, c⟩
    | 1, h => cases h; exact k58_mkM _ _ _ ⟨p', c'⟩⟩
  exact (Kd.R_reads' h).2.2
def watchbilllaw12_known.f : Option Bool := some true
set_option maxHeartbeats 8000000 in
set_option maxRecDepth 100000 in
theorem watchbilllaw12_known.calls (r : Bool) (w : World) (h : watchbilllaw12_known.f = some r) :
    Calls Try.prog 9 #[] w fun e w' => e = .returned (.bool r) ∧ Below w.heap.size w w' := by
  injection h with h
  subst h
  have hl := two_loads w 7 3 12 3
  have hb := (Below.refl w.heap.size w).alloc (Nat.le_refl _) (.cells #[.int .i64 7, .int .i64 3, .int .i64 12, .int .i64 3] 58)
  obtain ⟨s, hs⟩ : ∃ s, s = w.heap.size := ⟨_, rfl⟩
  have HL := Lib.hid hl
  have HB := Lib.hid hb
  clear hl hb
  go_enter Try.func9, Try.ntmps9
  go_wp2_with fail
  refine (rta_Fix.calls 30 5 _ _ kL 20 20 5 0 _ HL.out (by decide) k12_1).mono ?_
  rintro e w1 ⟨rfl, hb1⟩
  have hl1 := Kd.C_below HL.out hb1
  replace HB := Lib.hid (below_step HB.out hb1)
  clear HL hb1
  go_wp2_with fail
  refine (rta_Fix.calls 30 5 _ _ kL 19 0 0 13 _ hl1 (by decide) k12_2).mono ?_
  rintro e w2 ⟨rfl, hb1⟩
  have hl2 := Kd.C_below hl1 hb1
  replace HB := Lib.hid (below_step HB.out hb1)
  clear hl1 hb1
  go_wp2_with fail
  refine (rta_Fix.calls 1100 5 _ _ [⟨1, 1⟩] 4611686018427387904 0 0 15 _ (one_load _ _ _) (by decide) k12_3).mono ?_
  rintro e w3 ⟨rfl, hb1⟩
  have hl3 := Kd.C_below (Kd.C_alloc hl2 _) hb1
  replace HB := Lib.hid (below_step (below_alloc HB.out _) hb1)
  clear hl2 hb1
  go_wp2_with fail
  refine (rta_Fix.calls 30 1 _ _ [⟨1, 4611686018427387904⟩] 9223372036854775807 0 0 14 _ (one_load _ _ _) (by decide) k12_4).mono ?_
  rintro e w4 ⟨rfl, hb1⟩
  have hl4 := Kd.C_below (Kd.C_alloc hl3 _) hb1
  replace HB := Lib.hid (below_step (below_alloc HB.out _) hb1)
  clear hl3 hb1
  go_wp2_with fail
  refine (rta_Next.calls 30 14 5 _ _ kL 17 0 _ hl4 (by decide) k12_5).mono ?_
  rintro e w5 ⟨rfl, hb1⟩
  have hl5 := Kd.C_below hl4 hb1
  replace HB := Lib.hid (below_step HB.out hb1)
  clear hl4 hb1
  go_wp2_with fail
  refine (rta_Next.calls 30 (-1) 5 _ _ kL 0 1 _ hl5 (by decide) k12_6).mono ?_
  rintro e w6 ⟨rfl, hb1⟩
  replace HB := Lib.hid (below_step HB.out hb1)
  clear hl5 hb1
  go_wp2_with fail
  refine (rta_Next.calls 30 1 5 _ _ [⟨0, 1⟩] 0 1 _ (one_load _ _ _) (by decide) k12_7).mono ?_
  rintro e w7 ⟨rfl, hb1⟩
  replace HB := Lib.hid (below_step (below_alloc HB.out _) hb1)
  clear hb1
  go_wp2_with fail
  refine (watchbilllaw7_Two.calls 1 [] twoT _ k12_t).mono ?_
  rintro e w8 ⟨v1, v2, rfl, hR1, hR2, hb1⟩
  obtain ⟨A1, c1, rfl⟩ := Kd.R_slice hR1
  obtain ⟨A2, c2, rfl⟩ := Kd.R_slice hR2
  replace HB := Lib.hid (below_step HB.out hb1)
  obtain ⟨-, q1, q2⟩ := Kd.R_reads' hR1
  obtain ⟨-, q3, q4⟩ := Kd.R_reads' hR2
  clear hb1 hR1 hR2
  go_wp2_with fail
  refine (rta_Of.calls 60 1 _ _ [] _ _ twoT 0 6 0 _ q2 q1 q4 q3 k12_8).mono ?_
  rintro e w9 ⟨rfl, hb1⟩
  replace HB := Lib.hid (below_step HB.out hb1)
  clear hb1 q1 q2 q3 q4
  go_wp2_with fail
  refine (watchbilllaw7_Two.calls 1 [] twoT _ k12_t).mono ?_
  rintro e w10 ⟨v1, v2, rfl, hR1, hR2, hb1⟩
  obtain ⟨A3, c3, rfl⟩ := Kd.R_slice hR1
  obtain ⟨A4, c4, rfl⟩ := Kd.R_slice hR2
  replace HB := Lib.hid (below_step HB.out hb1)
  obtain ⟨-, q1, q2⟩ := Kd.R_reads' hR1
  obtain ⟨-, q3, q4⟩ := Kd.R_reads' hR2
  clear hb1 hR1 hR2
  go_wp2_with fail
  refine (rta_Of.calls 60 1 _ _ [] _ _ twoT 1 7 0 _ q2 q1 q4 q3 k12_9).mono ?_
  rintro e w11 ⟨rfl, hb1⟩
  replace HB := Lib.hid (below_step HB.out hb1)
  clear hb1 q1 q2 q3 q4
  go_wp2_with fail
  refine (watchbilllaw7_Two.calls 1 [] twoT _ k12_t).mono ?_
  rintro e w12 ⟨v1, v2, rfl, hR1, hR2, hb1⟩
  obtain ⟨A5, c5, rfl⟩ := Kd.R_slice hR1
  obtain ⟨A6, c6, rfl⟩ := Kd.R_slice hR2
  replace HB := Lib.hid (below_step HB.out hb1)
  obtain ⟨-, q1, q2⟩ := Kd.R_reads' hR1
  obtain ⟨-, q3, q4⟩ := Kd.R_reads' hR2
  clear hb1 hR1 hR2
  go_wp2_with fail
  refine (rta_Of.calls 60 1 _ _ [] _ _ twoT 2 0 1 _ q2 q1 q4 q3 k12_10).mono ?_
  rintro e w13 ⟨rfl, hb1⟩
  replace HB := Lib.hid (below_step HB.out hb1)
  clear hb1 q1 q2 q3 q4
  go_wp2
  go_ret
  exact ⟨rfl, HB.out⟩


/-! ### watchbillref13_Next: function 11 -/
mutual
def watchbillref13_Next.j0 : Nat → Int → Int → List (S66) → Bool → Option (Int × Int)
  | 0, _, _, _, _ => none
  | k + 1, x0, x1, x2, x17 => if x17 = true then (some (0, 1)) else (watchbillref13_Next.l0 k x0 x1 x2 0)
def watchbillref13_Next.l0 : Nat → Int → Int → List (S66) → Int → Option (Int × Int)
  | 0, _, _, _, _ => none
  | k + 1, x0, x1, x2, x8 => if x8 < (x2.length : Int) then (if 0 ≤ x8 then (if ((rd_T66 x2 x8).f0) < 1 then (some (0, 1)) else (if ((rd_T66 x2 x8).f1) < 0 then (some (0, 1)) else (watchbillref13_Next.l0 k x0 x1 x2 (wrap64 (x8 + 1))))) else (none)) else (watchbillref13_Next.l1 k x0 x2 x1 0)
def watchbillref13_Next.l1 : Nat → Int → List (S66) → Int → Int → Option (Int × Int)
  | 0, _, _, _, _ => none
  | k + 1, x0, x2, x9, x10 => if x10 < (x2.length : Int) then (if 0 ≤ x10 then (if ((rd_T66 x2 x10).f0) = 0 then (none) else (if (Int.tmod x0 ((rd_T66 x2 x10).f0)) > 0 then (watchbillref13_Next.j3 k x0 x2 x9 x10 (wrap64 ((wrap64 (Int.tdiv x0 ((rd_T66 x2 x10).f0))) + 1))) else (watchbillref13_Next.j3 k x0 x2 x9 x10 (wrap64 (Int.tdiv x0 ((rd_T66 x2 x10).f0)))))) else (none)) else (some (x9, 0))
def watchbillref13_Next.j3 : Nat → Int → List (S66) → Int → Int → Int → Option (Int × Int)
  | 0, _, _, _, _, _ => none
  | k + 1, x0, x2, x9, x10, x11 => if 0 ≤ x10 then (if x10 < (x2.length : Int) then (if ((rd_T66 x2 x10).f1) > 0 then (if ((rd_T66 x2 x10).f1) = 0 then (none) else (watchbillref13_Next.j4 k x0 x2 x9 x10 x11 (decide (x11 > (wrap64 ((9223372036854775807 : Int) / ((rd_T66 x2 x10).f1))))))) else (watchbillref13_Next.j4 k x0 x2 x9 x10 x11 false)) else (none)) else (none)
def watchbillref13_Next.j4 : Nat → Int → List (S66) → Int → Int → Int → Bool → Option (Int × Int)
  | 0, _, _, _, _, _, _ => none
  | k + 1, x0, x2, x9, x10, x11, x77 => if x77 = true then (some (0, 14)) else (if 0 ≤ x10 then (if x10 < (x2.length : Int) then (if (wrap64 (x11 * ((rd_T66 x2 x10).f1))) > (wrap64 (9223372036854775807 - x9)) then (some (0, 14)) else (watchbillref13_Next.l1 k x0 x2 (wrap64 (x9 + (wrap64 (x11 * ((rd_T66 x2 x10).f1))))) (wrap64 (x10 + 1)))) else (none)) else (none))
end
def watchbillref13_Next.f (k : Nat) (a0 : Int) (a1 : Int) (l2 : List (S66)) : Option (Int × Int) := if a0 < 0 then (watchbillref13_Next.j0 k a0 a1 l2 true) else (watchbillref13_Next.j0 k a0 a1 l2 (decide (a1 < 0)))
theorem watchbillref13_Next.mono_l : ∀ k, (∀ y0 y1 y2 y3, LeO (watchbillref13_Next.j0 k y0 y1 y2 y3) (watchbillref13_Next.j0 (k + 1) y0 y1 y2 y3)) ∧ (∀ y0 y1 y2 y3, LeO (watchbillref13_Next.l0 k y0 y1 y2 y3) (watchbillref13_Next.l0 (k + 1) y0 y1 y2 y3)) ∧ (∀ y0 y1 y2 y3, LeO (watchbillref13_Next.l1 k y0 y1 y2 y3) (watchbillref13_Next.l1 (k + 1) y0 y1 y2 y3)) ∧ (∀ y0 y1 y2 y3 y4, LeO (watchbillref13_Next.j3 k y0 y1 y2 y3 y4) (watchbillref13_Next.j3 (k + 1) y0 y1 y2 y3 y4)) ∧ (∀ y0 y1 y2 y3 y4 y5, LeO (watchbillref13_Next.j4 k y0 y1 y2 y3 y4 y5) (watchbillref13_Next.j4 (k + 1) y0 y1 y2 y3 y4 y5))
  | 0 => ⟨fun _ _ _ _ r h => by simp [watchbillref13_Next.j0] at h, fun _ _ _ _ r h => by simp [watchbillref13_Next.l0] at h, fun _ _ _ _ r h => by simp [watchbillref13_Next.l1] at h, fun _ _ _ _ _ r h => by simp [watchbillref13_Next.j3] at h, fun _ _ _ _ _ _ r h => by simp [watchbillref13_Next.j4] at h⟩
  | k + 1 => by
    obtain ⟨ih0, ih1, ih2, ih3, ih4⟩ := watchbillref13_Next.mono_l k
    refine ⟨?_, ?_, ?_, ?_, ?_⟩
    · intro y0 y1 y2 y3
      unfold watchbillref13_Next.j0
      repeat' first
      | (with_reducible exact ih0 _ _ _ _)
      | (with_reducible exact ih1 _ _ _ _)
      | (with_reducible exact ih2 _ _ _ _)
      | (with_reducible exact ih3 _ _ _ _ _)
      | (with_reducible exact ih4 _ _ _ _ _ _)
      | (with_reducible exact LeO.refl _)
      | (with_reducible exact LeO.none _)
      | (with_reducible refine LeO.ite ?_ ?_)
      | (with_reducible refine LeO.bind ?_ (fun _ => ?_))
      | exact ih0 _ _ _ _
      | exact ih1 _ _ _ _
      | exact ih2 _ _ _ _
      | exact ih3 _ _ _ _ _
      | exact ih4 _ _ _ _ _ _
      | exact LeO.none _
      | refine LeO.ite ?_ ?_
      | refine LeO.bind ?_ (fun _ => ?_)
    · intro y0 y1 y2 y3
      unfold watchbillref13_Next.l0
      repeat' first
      | (with_reducible exact ih0 _ _ _ _)
      | (with_reducible exact ih1 _ _ _ _)
      | (with_reducible exact ih2 _ _ _ _)
      | (with_reducible exact ih3 _ _ _ _ _)
      | (with_reducible exact ih4 _ _ _ _ _ _)
      | (with_reducible exact LeO.refl _)
      | (with_reducible exact LeO.none _)
      | (with_reducible refine LeO.ite ?_ ?_)
      | (with_reducible refine LeO.bind ?_ (fun _ => ?_))
      | exact ih0 _ _ _ _
      | exact ih1 _ _ _ _
      | exact ih2 _ _ _ _
      | exact ih3 _ _ _ _ _
      | exact ih4 _ _ _ _ _ _
      | exact LeO.none _
      | refine LeO.ite ?_ ?_
      | refine LeO.bind ?_ (fun _ => ?_)
    · intro y0 y1 y2 y3
      unfold watchbillref13_Next.l1
      repeat' first
      | (with_reducible exact ih0 _ _ _ _)
      | (with_reducible exact ih1 _ _ _ _)
      | (with_reducible exact ih2 _ _ _ _)
      | (with_reducible exact ih3 _ _ _ _ _)
      | (with_reducible exact ih4 _ _ _ _ _ _)
      | (with_reducible exact LeO.refl _)
      | (with_reducible exact LeO.none _)
      | (with_reducible refine LeO.ite ?_ ?_)
      | (with_reducible refine LeO.bind ?_ (fun _ => ?_))
      | exact ih0 _ _ _ _
      | exact ih1 _ _ _ _
      | exact ih2 _ _ _ _
      | exact ih3 _ _ _ _ _
      | exact ih4 _ _ _ _ _ _
      | exact LeO.none _
      | refine LeO.ite ?_ ?_
      | refine LeO.bind ?_ (fun _ => ?_)
    · intro y0 y1 y2 y3 y4
      unfold watchbillref13_Next.j3
      repeat' first
      | (with_reducible exact ih0 _ _ _ _)
      | (with_reducible exact ih1 _ _ _ _)
      | (with_reducible exact ih2 _ _ _ _)
      | (with_reducible exact ih3 _ _ _ _ _)
      | (with_reducible exact ih4 _ _ _ _ _ _)
      | (with_reducible exact LeO.refl _)
      | (with_reducible exact LeO.none _)
      | (with_reducible refine LeO.ite ?_ ?_)
      | (with_reducible refine LeO.bind ?_ (fun _ => ?_))
      | exact ih0 _ _ _ _
      | exact ih1 _ _ _ _
      | exact ih2 _ _ _ _
      | exact ih3 _ _ _ _ _
      | exact ih4 _ _ _ _ _ _
      | exact LeO.none _
      | refine LeO.ite ?_ ?_
      | refine LeO.bind ?_ (fun _ => ?_)
    · intro y0 y1 y2 y3 y4 y5
      unfold watchbillref13_Next.j4
      repeat' first
      | (with_reducible exact ih0 _ _ _ _)
      | (with_reducible exact ih1 _ _ _ _)
      | (with_reducible exact ih2 _ _ _ _)
      | (with_reducible exact ih3 _ _ _ _ _)
      | (with_reducible exact ih4 _ _ _ _ _ _)
      | (with_reducible exact LeO.refl _)
      | (with_reducible exact LeO.none _)
      | (with_reducible refine LeO.ite ?_ ?_)
      | (with_reducible refine LeO.bind ?_ (fun _ => ?_))
      | exact ih0 _ _ _ _
      | exact ih1 _ _ _ _
      | exact ih2 _ _ _ _
      | exact ih3 _ _ _ _ _
      | exact ih4 _ _ _ _ _ _
      | exact LeO.none _
      | refine LeO.ite ?_ ?_
      | refine LeO.bind ?_ (fun _ => ?_)
theorem watchbillref13_Next.mono : ∀ a0 a1 a2 k, LeO (watchbillref13_Next.f k a0 a1 a2) (watchbillref13_Next.f (k + 1) a0 a1 a2) := by
  intro a0 a1 a2 k
  obtain ⟨ih0, ih1, ih2, ih3, ih4⟩ := watchbillref13_Next.mono_l k
  unfold watchbillref13_Next.f
  repeat' first
      | (with_reducible exact ih0 _ _ _ _)
      | (with_reducible exact ih1 _ _ _ _)
      | (with_reducible exact ih2 _ _ _ _)
      | (with_reducible exact ih3 _ _ _ _ _)
      | (with_reducible exact ih4 _ _ _ _ _ _)
      | (with_reducible exact LeO.refl _)
      | (with_reducible exact LeO.none _)
      | (with_reducible refine LeO.ite ?_ ?_)
      | (with_reducible refine LeO.bind ?_ (fun _ => ?_))
      | exact ih0 _ _ _ _
      | exact ih1 _ _ _ _
      | exact ih2 _ _ _ _
      | exact ih3 _ _ _ _ _
      | exact ih4 _ _ _ _ _ _
      | exact LeO.none _
      | refine LeO.ite ?_ ?_
      | refine LeO.bind ?_ (fun _ => ?_)
set_option maxHeartbeats 8000000 in
set_option maxRecDepth 100000 in
theorem watchbillref13_Next.calls (k : Nat) (a0 : Int) (a1 : Int) (A2 : Option Addr) (c2 : Nat) (l2 : List (S66)) (r1 : Int) (r2 : Int) (w : World) (hr2 : Kd.C k66 w A2 l2.length l2) (hc2 : l2.length ≤ c2) (h : watchbillref13_Next.f k a0 a1 l2 = some (r1, r2)) :
    Calls Try.prog 11 #[.int .i64 a0, .int .i64 a1, .slice A2 l2.length c2] w fun e w' => e = .returned (.tuple #[.int .i64 r1, .int .i64 r2]) ∧ Drawn0 w w' := by
  have HR2 := Aside0.mk hr2
  have HC2 := Aside0.mk hc2
  clear hr2 hc2
  have H : (if a0 < 0 then (watchbillref13_Next.j0 k a0 a1 l2 true) else (watchbillref13_Next.j0 k a0 a1 l2 (decide (a1 < 0)))) = some (r1, r2) := h
  clear h
  have HC4 := Aside0.mk H
  clear H
  go_enter Try.func11, Try.ntmps11
  go_upto_region 1 with (fail)
  go_cut [17] (fun v17 wc => ∃ (kq : Nat) (x17_3 : Bool), v17 = .bool x17_3 ∧ Aside0 (watchbillref13_Next.j0 kq a0 a1 l2 x17_3 = some (r1, r2)) ∧ Aside0 (kq ≤ k) ∧ Drawn0 w wc)
  case first =>
    have H := HC4.out
    clear HC4
    by_cases c5 : a0 < 0
    · rw [if_pos c5] at H
      have c5b0 : decide (a0 < 0) = true := decide_eq_true c5
      clear c5
      (first | rw [c5b0] | (simp only [i64_w, i32_w]; rw [c5b0]) | skip)
      have H' := Aside0.mk H
      clear H
      go_wp2
      go_meet
      case rel => exact ⟨_, (true), (by first | rfl | (simp; done) | (simp [*]; done) | (simp [Int.tdiv_eq_ediv_of_nonneg]; done)), H', ⟨by first | omega | exact Nat.le_refl _⟩, by repeat (first | exact Drawn0.refl _ | apply Drawn0.step)⟩
    · rw [if_neg c5] at H
      have c5b0 : decide (a0 < 0) = false := decide_eq_false c5
      clear c5
      (first | rw [c5b0] | (simp only [i64_w, i32_w]; rw [c5b0]) | skip)
      have H' := Aside0.mk H
      clear H
      go_wp2
      go_meet
      case rel => exact ⟨_, (decide (a1 < 0)), (by first | rfl | (simp; done) | (simp [*]; done) | (simp [Int.tdiv_eq_ediv_of_nonneg]; done)), H', ⟨by first | omega | exact Nat.le_refl _⟩, by repeat (first | exact Drawn0.refl _ | apply Drawn0.step)⟩
  case rest =>
    clear HC4
    try clear c1
    try clear c2
    try clear p2
    try clear c5
    try clear c5b0
    obtain ⟨kq, x17_3, rfl, HA, HJ3, ⟨mc3, rfl⟩⟩ := hcut
    cases kq with
    | zero => exact absurd HA.out (by simp [watchbillref13_Next.j0])
    | succ kj3 =>
      have H := HA.out
      clear HA
      simp only [watchbillref13_Next.j0] at H
      by_cases c6 : x17_3 = true
      · subst c6
        have H1 : (some (0, 1)) = some (r1, r2) := by rw [if_pos rfl] at H; exact H
        clear H
        have H := H1
        clear H1
        simp only [Option.some.injEq, Prod.mk.injEq] at H
        obtain ⟨rfl, rfl⟩ := H
        go_wp2
        go_ret2
        exact ⟨by first | rfl | (simp; done) | (simp [*]; done) | (simp [Int.tdiv_eq_ediv_of_nonneg]; done), by repeat (first | exact Drawn0.refl _ | apply Drawn0.step)⟩
      · replace c6 := Bool.eq_false_iff.mpr c6
        subst c6
        have H1 : (watchbillref13_Next.l0 kj3 a0 a1 l2 0) = some (r1, r2) := by rw [if_neg (show ¬ (false = true) by decide)] at H; exact H
        clear H
        have H := H1
        clear H1
        have H' := Aside0.mk H
        clear H
        go_wp2
        go_loopg [8] kj3 (fun kq v8 w' => ∃ (x8_2 : Int), v8 = .int .i64 x8_2 ∧ Aside0 (watchbillref13_Next.l0 kq a0 a1 l2 x8_2 = some (r1, r2)) ∧ Aside0 (kq ≤ kj3) ∧ Drawn0 w w')
        case atStart => exact ⟨(0), (by first | rfl | (simp; done) | (simp [*]; done) | (simp [Int.tdiv_eq_ediv_of_nonneg]; done)), H', ⟨Nat.le_refl _⟩, by repeat (first | exact Drawn0.refl _ | apply Drawn0.step)⟩
        case round =>
          clear H'
          try clear c1
          try clear c2
          try clear p2
          try clear c3
          try clear c5
          try clear c5b0
          try clear c6
          try clear p2
          obtain ⟨x8_2, rfl, HA, HK2, ⟨m2, rfl⟩⟩ := hrel
          cases gk with
          | zero => exact absurd HA.out (by simp [watchbillref13_Next.l0])
          | succ k2 =>
            have H := HA.out
            clear HA
            simp only [watchbillref13_Next.l0] at H
            by_cases c7 : x8_2 < (l2.length : Int)
            · rw [if_pos c7] at H
              have c7b0 : decide (x8_2 < (l2.length : Int)) = true := decide_eq_true c7
              clear c7
              by_cases c8 : 0 ≤ x8_2
              · rw [if_pos c8] at H
                have c8b0 : decide (0 ≤ x8_2) = true := decide_eq_true c8
                clear c8
                by_cases c9 : ((rd_T66 l2 x8_2).f0) < 1
                · rw [if_pos c9] at H
                  have c9b0 : decide (((rd_T66 l2 x8_2).f0) < 1) = true := decide_eq_true c9
                  clear c9
                  simp only [Option.some.injEq, Prod.mk.injEq] at H
                  obtain ⟨rfl, rfl⟩ := H
                  have p239 : 0 ≤ (x8_2 : Int) := of_decide_eq_true (by first | (with_reducible assumption) | assumption)
                  have q239 : x8_2 < (l2.length : Int) := of_decide_eq_true (by first | (with_reducible assumption) | assumption)
                  obtain ⟨ad239, e239, hx239_0, hx239_1⟩ := at_T66 HR2.out x8_2 p239 q239
                  cases e239
                  replace p239 := eq_true p239
                  replace q239 := eq_true q239
                  go_wp2
                  go_ret2
                  exact ⟨by first | rfl | (simp; done) | (simp [*]; done) | (simp [Int.tdiv_eq_ediv_of_nonneg]; done), by repeat (first | exact Drawn0.refl _ | apply Drawn0.step)⟩
                · rw [if_neg c9] at H
                  have c9b0 : decide (((rd_T66 l2 x8_2).f0) < 1) = false := decide_eq_false c9
                  clear c9
                  by_cases c10 : ((rd_T66 l2 x8_2).f1) < 0
                  · rw [if_pos c10] at H
                    have c10b0 : decide (((rd_T66 l2 x8_2).f1) < 0) = true := decide_eq_true c10
                    clear c10
                    simp only [Option.some.injEq, Prod.mk.injEq] at H
                    obtain ⟨rfl, rfl⟩ := H
                    have p239 : 0 ≤ (x8_2 : Int) := of_decide_eq_true (by first | (with_reducible assumption) | assumption)
                    have q239 : x8_2 < (l2.length : Int) := of_decide_eq_true (by first | (with_reducible assumption) | assumption)
                    obtain ⟨ad239, e239, hx239_0, hx239_1⟩ := at_T66 HR2.out x8_2 p239 q239
                    cases e239
                    replace p239 := eq_true p239
                    replace q239 := eq_true q239
                    have p240 : 0 ≤ (x8_2 : Int) := of_decide_eq_true (by first | (with_reducible assumption) | assumption)
                    have q240 : x8_2 < (l2.length : Int) := of_decide_eq_true (by first | (with_reducible assumption) | assumption)
                    obtain ⟨ad240, e240, hx240_0, hx240_1⟩ := at_T66 HR2.out x8_2 p240 q240
                    obtain rfl : ad239 = ad240 := (by injection e240)
                    replace p240 := eq_true p240
                    replace q240 := eq_true q240
                    go_wp2
                    go_ret2
                    exact ⟨by first | rfl | (simp; done) | (simp [*]; done) | (simp [Int.tdiv_eq_ediv_of_nonneg]; done), by repeat (first | exact Drawn0.refl _ | apply Drawn0.step)⟩
                  · rw [if_neg c10] at H
                    have c10b0 : decide (((rd_T66 l2 x8_2).f1) < 0) = false := decide_eq_false c10
                    clear c10
                    have H' := Aside0.mk H
                    clear H
                    have p239 : 0 ≤ (x8_2 : Int) := of_decide_eq_true (by first | (with_reducible assumption) | assumption)
                    have q239 : x8_2 < (l2.length : Int) := of_decide_eq_true (by first | (with_reducible assumption) | assumption)
                    obtain ⟨ad239, e239, hx239_0, hx239_1⟩ := at_T66 HR2.out x8_2 p239 q239
                    cases e239
                    replace p239 := eq_true p239
                    replace q239 := eq_true q239
                    have p240 : 0 ≤ (x8_2 : Int) := of_decide_eq_true (by first | (with_reducible assumption) | assumption)
                    have q240 : x8_2 < (l2.length : Int) := of_decide_eq_true (by first | (with_reducible assumption) | assumption)
                    obtain ⟨ad240, e240, hx240_0, hx240_1⟩ := at_T66 HR2.out x8_2 p240 q240
                    obtain rfl : ad239 = ad240 := (by injection e240)
                    replace p240 := eq_true p240
                    replace q240 := eq_true q240
                    go_wp2
                    go_roundg k2
                    case measure => have := HJ3.out; have := HK2.out; omega
                    case rel => exact ⟨(wrap64 (x8_2 + 1)), (by first | rfl | (simp; done) | (simp [*]; done) | (simp [Int.tdiv_eq_ediv_of_nonneg]; done)), H', ⟨by have := HJ3.out; have := HK2.out; omega⟩, by repeat (first | exact Drawn0.refl _ | apply Drawn0.step)⟩
              · rw [if_neg c8] at H
                exact absurd H (by simp)
            · rw [if_neg c7] at H
              have c7b0 : decide (x8_2 < (l2.length : Int)) = false := decide_eq_false c7
              clear c7
              have H' := Aside0.mk H
              clear H
              go_wp2
              go_loopg [9, 10] k2 (fun kq v9 v10 w' => ∃ (x9_3 : Int) (x10_3 : Int), v9 = .int .i64 x9_3 ∧ v10 = .int .i64 x10_3 ∧ Aside0 (watchbillref13_Next.l1 kq a0 l2 x9_3 x10_3 = some (r1, r2)) ∧ Aside0 (kq ≤ k2) ∧ Drawn0 w w')
              case atStart => exact ⟨(a1), (0), (by first | rfl | (simp; done) | (simp [*]; done) | (simp [Int.tdiv_eq_ediv_of_nonneg]; done)), (by first | rfl | (simp; done) | (simp [*]; done) | (simp [Int.tdiv_eq_ediv_of_nonneg]; done)), H', ⟨Nat.le_refl _⟩, by repeat (first | exact Drawn0.refl _ | apply Drawn0.step)⟩
              case round =>
                clear H'
                try clear c1
                try clear c2
                try clear p2
                try clear q2
                try clear hx2
                try clear c3
                try clear c5
                try clear c5b0
                try clear c6
                try clear p6
                try clear c7
                try clear c7b0
                try clear c8
                try clear c8b0
                try clear c9
                try clear c9b0
                try clear c10
                try clear c10b0
                try clear hx239_0
                try clear hx239_1
                try clear hx240_0
                try clear hx240_1
                try clear p2
                try clear p239
                try clear p240
                try clear q239
                try clear q240
                obtain ⟨x9_3, x10_3, rfl, rfl, HA, HK3, ⟨m3, rfl⟩⟩ := hrel
                cases gk with
                | zero => exact absurd HA.out (by simp [watchbillref13_Next.l1])
                | succ k3 =>
                  have H := HA.out
                  clear HA
                  simp only [watchbillref13_Next.l1] at H
                  by_cases c11 : x10_3 < (l2.length : Int)
                  · rw [if_pos c11] at H
                    have c11b0 : decide (x10_3 < (l2.length : Int)) = true := decide_eq_true c11
                    clear c11
                    by_cases c12 : 0 ≤ x10_3
                    · rw [if_pos c12] at H
                      have c12b0 : decide (0 ≤ x10_3) = true := decide_eq_true c12
                      clear c12
                      by_cases c13 : ((rd_T66 l2 x10_3).f0) = 0
                      · rw [if_pos c13] at H
                        exact absurd H (by simp)
                      · rw [if_neg c13] at H
                        have c13b0 : (((rd_T66 l2 x10_3).f0) == 0) = false := beq_eq_false_iff_ne.mpr c13
                        have c13b1 : (((rd_T66 l2 x10_3).f0) != 0) = true := bne_iff_ne.mpr c13
                        have HC14 := Aside0.mk H
                        clear H
                        have p241 : 0 ≤ (x10_3 : Int) := of_decide_eq_true (by first | (with_reducible assumption) | assumption)
                        have q241 : x10_3 < (l2.length : Int) := of_decide_eq_true (by first | (with_reducible assumption) | assumption)
                        obtain ⟨ad241, e241, hx241_0, hx241_1⟩ := at_T66 HR2.out x10_3 p241 q241
                        cases e241
                        replace p241 := eq_true p241
                        replace q241 := eq_true q241
                        have p242 : 0 ≤ (x10_3 : Int) := of_decide_eq_true (by first | (with_reducible assumption) | assumption)
                        have q242 : x10_3 < (l2.length : Int) := of_decide_eq_true (by first | (with_reducible assumption) | assumption)
                        obtain ⟨ad242, e242, hx242_0, hx242_1⟩ := at_T66 HR2.out x10_3 p242 q242
                        obtain rfl : ad241 = ad242 := (by injection e242)
                        replace p242 := eq_true p242
                        replace q242 := eq_true q242
                        go_upto_if 59 with (fail)
                        go_cut [11] (fun v11 wc => ∃ (kq : Nat) (x11_13 : Int), v11 = .int .i64 x11_13 ∧ Aside0 (watchbillref13_Next.j3 kq a0 l2 x9_3 x10_3 x11_13 = some (r1, r2)) ∧ Aside0 (kq ≤ k3) ∧ Drawn0 w wc)
                        case first =>
                          have H := HC14.out
                          clear HC14
                          by_cases c15 : (Int.tmod a0 ((rd_T66 l2 x10_3).f0)) > 0
                          · rw [if_pos c15] at H
                            have c15b0 : decide (0 < (Int.tmod a0 ((rd_T66 l2 x10_3).f0))) = true := decide_eq_true c15
                            clear c15
                            (first | rw [c15b0] | (simp only [i64_w, i32_w]; rw [c15b0]) | skip)
                            have H' := Aside0.mk H
                            clear H
                            go_wp2
                            go_meet
                            case rel => exact ⟨_, (wrap64 ((wrap64 (Int.tdiv a0 ((rd_T66 l2 x10_3).f0))) + 1)), (by first | rfl | (simp; done) | (simp [*]; done) | (simp [Int.tdiv_eq_ediv_of_nonneg]; done)), H', ⟨by have := HJ3.out; have := HK2.out; have := HK3.out; first | omega | exact Nat.le_refl _⟩, by repeat (first | exact Drawn0.refl _ | apply Drawn0.step)⟩
                          · rw [if_neg c15] at H
                            have c15b0 : decide (0 < (Int.tmod a0 ((rd_T66 l2 x10_3).f0))) = false := decide_eq_false c15
                            clear c15
                            (first | rw [c15b0] | (simp only [i64_w, i32_w]; rw [c15b0]) | skip)
                            have H' := Aside0.mk H
                            clear H
                            go_wp2
                            go_meet
                            case rel => exact ⟨_, (wrap64 (Int.tdiv a0 ((rd_T66 l2 x10_3).f0))), (by first | rfl | (simp; done) | (simp [*]; done) | (simp [Int.tdiv_eq_ediv_of_nonneg]; done)), H', ⟨by have := HJ3.out; have := HK2.out; have := HK3.out; first | omega | exact Nat.le_refl _⟩, by repeat (first | exact Drawn0.refl _ | apply Drawn0.step)⟩
                        case rest =>
                          clear HC14
                          try clear c1
                          try clear c2
                          try clear p2
                          try clear q2
                          try clear hx2
                          try clear c3
                          try clear c5
                          try clear c5b0
                          try clear c6
                          try clear p6
                          try clear c7
                          try clear c7b0
                          try clear c8
                          try clear c8b0
                          try clear c9
                          try clear c9b0
                          try clear c10
                          try clear c10b0
                          try clear c11
                          try clear c11b0
                          try clear c12
                          try clear c12b0
                          try clear c13
                          try clear c13b0
                          try clear c13b1
                          try clear c15
                          try clear c15b0
                          try clear hx239_0
                          try clear hx239_1
                          try clear hx240_0
                          try clear hx240_1
                          try clear hx241_0
                          try clear hx241_1
                          try clear hx242_0
                          try clear hx242_1
                          try clear p2
                          try clear p239
                          try clear p240
                          try clear p241
                          try clear p242
                          try clear p6
                          try clear q2
                          try clear q239
                          try clear q240
                          try clear q241
                          try clear q242
                          obtain ⟨kq, x11_13, rfl, HA, HJ13, ⟨mc13, rfl⟩⟩ := hcut
                          cases kq with
                          | zero => exact absurd HA.out (by simp [watchbillref13_Next.j3])
                          | succ kj13 =>
                            have H := HA.out
                            clear HA
                            simp only [watchbillref13_Next.j3] at H
                            have HC16 := Aside0.mk H
                            clear H
                            go_upto_region 15 with (fail)
                            go_cut [77] (fun v77 wc => ∃ (kq : Nat) (x77_15 : Bool), v77 = .bool x77_15 ∧ Aside0 (watchbillref13_Next.j4 kq a0 l2 x9_3 x10_3 x11_13 x77_15 = some (r1, r2)) ∧ Aside0 (kq ≤ kj13) ∧ Drawn0 w wc)
                            case first =>
                              have H := HC16.out
                              clear HC16
                              by_cases c17 : 0 ≤ x10_3
                              · rw [if_pos c17] at H
                                have c17b0 : decide (0 ≤ x10_3) = true := decide_eq_true c17
                                clear c17
                                (first | rw [c17b0] | (simp only [i64_w, i32_w]; rw [c17b0]) | skip)
                                by_cases c18 : x10_3 < (l2.length : Int)
                                · rw [if_pos c18] at H
                                  have c18b0 : decide (x10_3 < (l2.length : Int)) = true := decide_eq_true c18
                                  clear c18
                                  by_cases c19 : ((rd_T66 l2 x10_3).f1) > 0
                                  · rw [if_pos c19] at H
                                    have c19b0 : decide (0 < ((rd_T66 l2 x10_3).f1)) = true := decide_eq_true c19
                                    clear c19
                                    by_cases c20 : ((rd_T66 l2 x10_3).f1) = 0
                                    · rw [if_pos c20] at H
                                      exact absurd H (by simp)
                                    · rw [if_neg c20] at H
                                      have c20b0 : (((rd_T66 l2 x10_3).f1) == 0) = false := beq_eq_false_iff_ne.mpr c20
                                      have c20b1 : (((rd_T66 l2 x10_3).f1) != 0) = true := bne_iff_ne.mpr c20
                                      have H' := Aside0.mk H
                                      clear H
                                      have p243 : 0 ≤ (x10_3 : Int) := of_decide_eq_true (by first | (with_reducible assumption) | assumption)
                                      have q243 : x10_3 < (l2.length : Int) := of_decide_eq_true (by first | (with_reducible assumption) | assumption)
                                      obtain ⟨ad243, e243, hx243_0, hx243_1⟩ := at_T66 HR2.out x10_3 p243 q243
                                      obtain rfl : ad241 = ad243 := (by injection e243)
                                      replace p243 := eq_true p243
                                      replace q243 := eq_true q243
                                      have p244 : 0 ≤ (x10_3 : Int) := of_decide_eq_true (by first | (with_reducible assumption) | assumption)
                                      have q244 : x10_3 < (l2.length : Int) := of_decide_eq_true (by first | (with_reducible assumption) | assumption)
                                      obtain ⟨ad244, e244, hx244_0, hx244_1⟩ := at_T66 HR2.out x10_3 p244 q244
                                      obtain rfl : ad241 = ad244 := (by injection e244)
                                      replace p244 := eq_true p244
                                      replace q244 := eq_true q244
                                      go_wp2
                                      go_meet
                                      case rel => exact ⟨_, (decide (x11_13 > (wrap64 ((9223372036854775807 : Int) / ((rd_T66 l2 x10_3).f1))))), (by first | rfl | (simp; done) | (simp [*]; done) | (simp [Int.tdiv_eq_ediv_of_nonneg]; done)), H', ⟨by have := HJ3.out; have := HK2.out; have := HK3.out; have := HJ13.out; first | omega | exact Nat.le_refl _⟩, by repeat (first | exact Drawn0.refl _ | apply Drawn0.step)⟩
                                  · rw [if_neg c19] at H
                                    have c19b0 : decide (0 < ((rd_T66 l2 x10_3).f1)) = false := decide_eq_false c19
                                    clear c19
                                    have H' := Aside0.mk H
                                    clear H
                                    have p243 : 0 ≤ (x10_3 : Int) := of_decide_eq_true (by first | (with_reducible assumption) | assumption)
                                    have q243 : x10_3 < (l2.length : Int) := of_decide_eq_true (by first | (with_reducible assumption) | assumption)
                                    obtain ⟨ad243, e243, hx243_0, hx243_1⟩ := at_T66 HR2.out x10_3 p243 q243
                                    obtain rfl : ad241 = ad243 := (by injection e243)
                                    replace p243 := eq_true p243
                                    replace q243 := eq_true q243
                                    go_wp2
                                    go_meet
                                    case rel => exact ⟨_, (false), (by first | rfl | (simp; done) | (simp [*]; done) | (simp [Int.tdiv_eq_ediv_of_nonneg]; done)), H', ⟨by have := HJ3.out; have := HK2.out; have := HK3.out; have := HJ13.out; first | omega | exact Nat.le_refl _⟩, by repeat (first | exact Drawn0.refl _ | apply Drawn0.step)⟩
                                · rw [if_neg c18] at H
                                  exact absurd H (by simp)
                              · rw [if_neg c17] at H
                                exact absurd H (by simp)
                            case rest =>
                              clear HC16
                              try clear c1
                              try clear c2
                              try clear p2
                              try clear q2
                              try clear hx2
                              try clear c3
                              try clear c5
                              try clear c5b0
                              try clear c6
                              try clear p6
                              try clear c7
                              try clear c7b0
                              try clear c8
                              try clear c8b0
                              try clear c9
                              try clear c9b0
                              try clear c10
                              try clear c10b0
                              try clear c11
                              try clear c11b0
                              try clear c12
                              try clear c12b0
                              try clear c13
                              try clear c13b0
                              try clear c13b1
                              try clear c15
                              try clear c15b0
                              try clear c17
                              try clear c17b0
                              try clear c18
                              try clear c18b0
                              try clear c19
                              try clear c19b0
                              try clear c20
                              try clear c20b0
                              try clear c20b1
                              try clear hx239_0
                              try clear hx239_1
                              try clear hx240_0
                              try clear hx240_1
                              try clear hx241_0
                              try clear hx241_1
                              try clear hx242_0
                              try clear hx242_1
                              try clear hx243_0
                              try clear hx243_1
                              try clear hx244_0
                              try clear hx244_1
                              try clear p2
                              try clear p239
                              try clear p240
                              try clear p241
                              try clear p242
                              try clear p243
                              try clear p244
                              try clear p6
                              try clear q2
                              try clear q239
                              try clear q240
                              try clear q241
                              try clear q242
                              try clear q243
                              try clear q244
                              obtain ⟨kq, x77_15, rfl, HA, HJ15, ⟨mc15, rfl⟩⟩ := hcut
                              cases kq with
                              | zero => exact absurd HA.out (by simp [watchbillref13_Next.j4])
                              | succ kj15 =>
                                have H := HA.out
                                clear HA
                                simp only [watchbillref13_Next.j4] at H
                                by_cases c21 : x77_15 = true
                                · subst c21
                                  have H1 : (some (0, 14)) = some (r1, r2) := by rw [if_pos rfl] at H; exact H
                                  clear H
                                  have H := H1
                                  clear H1
                                  simp only [Option.some.injEq, Prod.mk.injEq] at H
                                  obtain ⟨rfl, rfl⟩ := H
                                  go_wp2
                                  go_ret2
                                  exact ⟨by first | rfl | (simp; done) | (simp [*]; done) | (simp [Int.tdiv_eq_ediv_of_nonneg]; done), by repeat (first | exact Drawn0.refl _ | apply Drawn0.step)⟩
                                · replace c21 := Bool.eq_false_iff.mpr c21
                                  subst c21
                                  have H1 : (if 0 ≤ x10_3 then (if x10_3 < (l2.length : Int) then (if (wrap64 (x11_13 * ((rd_T66 l2 x10_3).f1))) > (wrap64 (9223372036854775807 - x9_3)) then (some (0, 14)) else (watchbillref13_Next.l1 kj15 a0 l2 (wrap64 (x9_3 + (wrap64 (x11_13 * ((rd_T66 l2 x10_3).f1))))) (wrap64 (x10_3 + 1)))) else (none)) else (none)) = some (r1, r2) := by rw [if_neg (show ¬ (false = true) by decide)] at H; exact H
                                  clear H
                                  have H := H1
                                  clear H1
                                  by_cases c22 : 0 ≤ x10_3
                                  · rw [if_pos c22] at H
                                    have c22b0 : decide (0 ≤ x10_3) = true := decide_eq_true c22
                                    clear c22
                                    by_cases c23 : x10_3 < (l2.length : Int)
                                    · rw [if_pos c23] at H
                                      have c23b0 : decide (x10_3 < (l2.length : Int)) = true := decide_eq_true c23
                                      clear c23
                                      by_cases c24 : (wrap64 (x11_13 * ((rd_T66 l2 x10_3).f1))) > (wrap64 (9223372036854775807 - x9_3))
                                      · rw [if_pos c24] at H
                                        have c24b0 : decide ((wrap64 (9223372036854775807 - x9_3)) < (wrap64 (x11_13 * ((rd_T66 l2 x10_3).f1)))) = true := decide_eq_true c24
                                        clear c24
                                        simp only [Option.some.injEq, Prod.mk.injEq] at H
                                        obtain ⟨rfl, rfl⟩ := H
                                        have p245 : 0 ≤ (x10_3 : Int) := of_decide_eq_true (by first | (with_reducible assumption) | assumption)
                                        have q245 : x10_3 < (l2.length : Int) := of_decide_eq_true (by first | (with_reducible assumption) | assumption)
                                        obtain ⟨ad245, e245, hx245_0, hx245_1⟩ := at_T66 HR2.out x10_3 p245 q245
                                        obtain rfl : ad241 = ad245 := (by injection e245)
                                        replace p245 := eq_true p245
                                        replace q245 := eq_true q245
                                        go_wp2
                                        go_ret2
                                        exact ⟨by first | rfl | (simp; done) | (simp [*]; done) | (simp [Int.tdiv_eq_ediv_of_nonneg]; done), by repeat (first | exact Drawn0.refl _ | apply Drawn0.step)⟩
                                      · rw [if_neg c24] at H
                                        have c24b0 : decide ((wrap64 (9223372036854775807 - x9_3)) < (wrap64 (x11_13 * ((rd_T66 l2 x10_3).f1)))) = false := decide_eq_false c24
                                        clear c24
                                        have H' := Aside0.mk H
                                        clear H
                                        have p245 : 0 ≤ (x10_3 : Int) := of_decide_eq_true (by first | (with_reducible assumption) | assumption)
                                        have q245 : x10_3 < (l2.length : Int) := of_decide_eq_true (by first | (with_reducible assumption) | assumption)
                                        obtain ⟨ad245, e245, hx245_0, hx245_1⟩ := at_T66 HR2.out x10_3 p245 q245
                                        obtain rfl : ad241 = ad245 := (by injection e245)
                                        replace p245 := eq_true p245
                                        replace q245 := eq_true q245
                                        have p246 : 0 ≤ (x10_3 : Int) := of_decide_eq_true (by first | (with_reducible assumption) | assumption)
                                        have q246 : x10_3 < (l2.length : Int) := of_decide_eq_true (by first | (with_reducible assumption) | assumption)
                                        obtain ⟨ad246, e246, hx246_0, hx246_1⟩ := at_T66 HR2.out x10_3 p246 q246
                                        obtain rfl : ad241 = ad246 := (by injection e246)
                                        replace p246 := eq_true p246
                                        replace q246 := eq_true q246
                                        go_wp2
                                        go_roundg kj15
                                        case measure => have := HJ3.out; have := HK2.out; have := HK3.out; have := HJ13.out; have := HJ15.out; omega
                                        case rel => exact ⟨(wrap64 (x9_3 + (wrap64 (x11_13 * ((rd_T66 l2 x10_3).f1))))), (wrap64 (x10_3 + 1)), (by first | rfl | (simp; done) | (simp [*]; done) | (simp [Int.tdiv_eq_ediv_of_nonneg]; done)), (by first | rfl | (simp; done) | (simp [*]; done) | (simp [Int.tdiv_eq_ediv_of_nonneg]; done)), H', ⟨by have := HJ3.out; have := HK2.out; have := HK3.out; have := HJ13.out; have := HJ15.out; omega⟩, by repeat (first | exact Drawn0.refl _ | apply Drawn0.step)⟩
                                    · rw [if_neg c23] at H
                                      exact absurd H (by simp)
                                  · rw [if_neg c22] at H
                                    exact absurd H (by simp)
                    · rw [if_neg c12] at H
                      exact absurd H (by simp)
                  · rw [if_neg c11] at H
                    have c11b0 : decide (x10_3 < (l2.length : Int)) = false := decide_eq_false c11
                    clear c11
                    simp only [Option.some.injEq, Prod.mk.injEq] at H
                    obtain ⟨rfl, rfl⟩ := H
                    go_wp2
                    go_ret2
                    exact ⟨by first | rfl | (simp; done) | (simp [*]; done) | (simp [Int.tdiv_eq_ediv_of_nonneg]; done), by repeat (first | exact Drawn0.refl _ | apply Drawn0.step)⟩

end Go.Proofs.Ytgeejlcnnldogaa.XA
