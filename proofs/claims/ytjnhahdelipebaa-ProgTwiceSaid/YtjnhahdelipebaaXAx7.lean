-- PRINTED by print.py (a twelfth state) out of the translation. Not trusted: Lean checks it.
import Derived.Test.YtjnhahdelipebaaXAx0
import Derived.Test.YtjnhahdelipebaaXAx2
import Derived.Test.YtjnhahdelipebaaXAx3
import Derived.Test.YtjnhahdelipebaaXAx4
import Derived.Test.YtjnhahdelipebaaXAx5
import Derived.Test.YtjnhahdelipebaaXAx6
namespace Go.Proofs.Ytjnhahdelipebaa.XA
open Go.RowKit Go.Proofs.YtjnhahdelipebaaW.PrintWords Go.Proofs.YtjnhahdelipebaaW.PrintLast Go.Proofs.YtjnhahdelipebaaW.PrintMore
attribute [local go_sem] max2_int min2_int max_two min_two max_three min_three max_four min_four   -- for this text's walks alone
set_option linter.unusedVariables false
set_option linter.unusedSimpArgs false

/-! ### watchbilllaw6_ProgTwice: function 8 -/
mutual
def watchbilllaw6_ProgTwice.j0 : Nat → List (S52) → List (S52) → Bool → Option (Bool)
  | 0, _, _, _ => none
  | k + 1, x10, x14, x96 => if x96 = true then (some false) else (watchbilllaw6_ProgTwice.l0 k x10 x14 0)
def watchbilllaw6_ProgTwice.l0 : Nat → List (S52) → List (S52) → Int → Option (Bool)
  | 0, _, _, _ => none
  | k + 1, x10, x14, x15 => if x15 < (x14.length : Int) then (if 0 ≤ x15 then (if 0 ≤ (Int.tmod x15 4) then (if (Int.tmod x15 4) < (x10.length : Int) then ((op_Same.f k ((rd_T52 x14 x15).f0) ((rd_T52 x14 x15).f1) ((rd_T52 x14 x15).f2) ((rd_T52 x14 x15).f3) ((rd_T52 x14 x15).f4) ((rd_T52 x10 (Int.tmod x15 4)).f0) ((rd_T52 x10 (Int.tmod x15 4)).f1) ((rd_T52 x10 (Int.tmod x15 4)).f2) ((rd_T52 x10 (Int.tmod x15 4)).f3) ((rd_T52 x10 (Int.tmod x15 4)).f4)).bind fun t214 => (if t214 = true then (watchbilllaw6_ProgTwice.l0 k x10 x14 (wrap64 (x15 + 1))) else (some false))) else (none)) else (none)) else (none)) else (some true)
end
def watchbilllaw6_ProgTwice.f (k : Nat) (a0 : Int) (a1 : Int) (a2 : Int) : Option (Bool) := (watchbilllaw6_known.f).bind fun t188 => (if t188 = true then ((some (([(⟨1, wrap64 (1 + (wrap64 (a1))), 0, 0, ([] : List (S84))⟩ : S52), (⟨2, 3, 0, 0, ([] : List (S84))⟩ : S52), (⟨1, wrap64 (1 + (wrap64 (a2))), 0, 0, ([] : List (S84))⟩ : S52), (⟨3, 3, 0, 0, ([] : List (S84))⟩ : S52)] : List (S52)) : List (S52))).bind fun y189 => ((some (([(⟨8, wrap64 (1 + (wrap64 (Int.tmod a0 32))), 0, 0, ([] : List (S84))⟩ : S52)] : List (S52)) : List (S52))).bind fun y192 => (if y192.length + y189.length < 2513169434916 then ((some (y192 ++ y189 : List (S52))).bind fun y195 => (if y195.length < 2513169434916 then ((some (y195 ++ [(⟨9, 0, 0, 0, ([] : List (S84))⟩ : S52)] : List (S52))).bind fun y198 => ((prog_Check.f y198).bind fun bt201 => ((prog_Flat.f k y198).bind fun t203 => (if bt201.2 = 0 then ((prog_Cost.f k y198).bind fun t206 => (if t206 = (wrap64 ((wrap64 (1 + (wrap64 (Int.tmod a0 32)))) * (wrap64 ((wrap64 (1 + (wrap64 (a1)))) + (wrap64 (1 + (wrap64 (a2)))))))) then ((prog_Steps.f k y198).bind fun t207 => (if t207 = (wrap64 (4 * (wrap64 (1 + (wrap64 (Int.tmod a0 32)))))) then (if (t203.length : Int) = (wrap64 (4 * (wrap64 (1 + (wrap64 (Int.tmod a0 32)))))) then ((prog_Section.f k y198 3).bind fun t208 => (if t208 = (wrap64 (1 + (wrap64 (a2)))) then ((prog_Section.f k y198 2).bind fun t209 => (if t209 = 0 then ((prog_Match.f k y198 0).bind fun t210 => (if t210 = 5 then ((prog_Match.f k y198 5).bind fun t211 => (watchbilllaw6_ProgTwice.j0 k y189 t203 (t211 != 0))) else (watchbilllaw6_ProgTwice.j0 k y189 t203 true))) else (watchbilllaw6_ProgTwice.j0 k y189 t203 true))) else (watchbilllaw6_ProgTwice.j0 k y189 t203 true))) else (watchbilllaw6_ProgTwice.j0 k y189 t203 true)) else (watchbilllaw6_ProgTwice.j0 k y189 t203 true))) else (watchbilllaw6_ProgTwice.j0 k y189 t203 true))) else (watchbilllaw6_ProgTwice.j0 k y189 t203 true))))) else (none))) else (none)))) else (some false))
theorem watchbilllaw6_ProgTwice.mono_l : ∀ k, (∀ y0 y1 y2, LeO (watchbilllaw6_ProgTwice.j0 k y0 y1 y2) (watchbilllaw6_ProgTwice.j0 (k + 1) y0 y1 y2)) ∧ (∀ y0 y1 y2, LeO (watchbilllaw6_ProgTwice.l0 k y0 y1 y2) (watchbilllaw6_ProgTwice.l0 (k + 1) y0 y1 y2))
  | 0 => ⟨fun _ _ _ r h => by simp [watchbilllaw6_ProgTwice.j0] at h, fun _ _ _ r h => by simp [watchbilllaw6_ProgTwice.l0] at h⟩
  | k + 1 => by
    obtain ⟨ih0, ih1⟩ := watchbilllaw6_ProgTwice.mono_l k
    refine ⟨?_, ?_⟩
    · intro y0 y1 y2
      unfold watchbilllaw6_ProgTwice.j0
      repeat' first
      | (with_reducible exact ih0 _ _ _)
      | (with_reducible exact ih1 _ _ _)
      | (with_reducible exact op_Same.mono _ _ _ _ _ _ _ _ _ _ _)
      | (with_reducible exact prog_Cost.mono _ _)
      | (with_reducible exact prog_Flat.mono _ _)
      | (with_reducible exact prog_Match.mono _ _ _)
      | (with_reducible exact prog_Section.mono _ _ _)
      | (with_reducible exact prog_Steps.mono _ _)
      | (with_reducible exact LeO.refl _)
      | (with_reducible exact LeO.none _)
      | (with_reducible refine LeO.ite ?_ ?_)
      | (with_reducible refine LeO.bind ?_ (fun _ => ?_))
      | exact ih0 _ _ _
      | exact ih1 _ _ _
      | exact op_Same.mono _ _ _ _ _ _ _ _ _ _ _
      | exact prog_Cost.mono _ _
      | exact prog_Flat.mono _ _
      | exact prog_Match.mono _ _ _
      | exact prog_Section.mono _ _ _
      | exact prog_Steps.mono _ _
      | exact LeO.none _
      | refine LeO.ite ?_ ?_
      | refine LeO.bind ?_ (fun _ => ?_)
    · intro y0 y1 y2
      unfold watchbilllaw6_ProgTwice.l0
      repeat' first
      | (with_reducible exact ih0 _ _ _)
      | (with_reducible exact ih1 _ _ _)
      | (with_reducible exact op_Same.mono _ _ _ _ _ _ _ _ _ _ _)
      | (with_reducible exact prog_Cost.mono _ _)
      | (with_reducible exact prog_Flat.mono _ _)
      | (with_reducible exact prog_Match.mono _ _ _)
      | (with_reducible exact prog_Section.mono _ _ _)
      | (with_reducible exact prog_Steps.mono _ _)
      | (with_reducible exact LeO.refl _)
      | (with_reducible exact LeO.none _)
      | (with_reducible refine LeO.ite ?_ ?_)
      | (with_reducible refine LeO.bind ?_ (fun _ => ?_))
      | exact ih0 _ _ _
      | exact ih1 _ _ _
      | exact op_Same.mono _ _ _ _ _ _ _ _ _ _ _
      | exact prog_Cost.mono _ _
      | exact prog_Flat.mono _ _
      | exact prog_Match.mono _ _ _
      | exact prog_Section.mono _ _ _
      | exact prog_Steps.mono _ _
      | exact LeO.none _
      | refine LeO.ite ?_ ?_
      | refine LeO.bind ?_ (fun _ => ?_)
theorem watchbilllaw6_ProgTwice.mono : ∀ a0 a1 a2 k, LeO (watchbilllaw6_ProgTwice.f k a0 a1 a2) (watchbilllaw6_ProgTwice.f (k + 1) a0 a1 a2) := by
  intro a0 a1 a2 k
  obtain ⟨ih0, ih1⟩ := watchbilllaw6_ProgTwice.mono_l k
  unfold watchbilllaw6_ProgTwice.f
  repeat' first
      | (with_reducible exact ih0 _ _ _)
      | (with_reducible exact ih1 _ _ _)
      | (with_reducible exact op_Same.mono _ _ _ _ _ _ _ _ _ _ _)
      | (with_reducible exact prog_Cost.mono _ _)
      | (with_reducible exact prog_Flat.mono _ _)
      | (with_reducible exact prog_Match.mono _ _ _)
      | (with_reducible exact prog_Section.mono _ _ _)
      | (with_reducible exact prog_Steps.mono _ _)
      | (with_reducible exact LeO.refl _)
      | (with_reducible exact LeO.none _)
      | (with_reducible refine LeO.ite ?_ ?_)
      | (with_reducible refine LeO.bind ?_ (fun _ => ?_))
      | exact ih0 _ _ _
      | exact ih1 _ _ _
      | exact op_Same.mono _ _ _ _ _ _ _ _ _ _ _
      | exact prog_Cost.mono _ _
      | exact prog_Flat.mono _ _
      | exact prog_Match.mono _ _ _
      | exact prog_Section.mono _ _ _
      | exact prog_Steps.mono _ _
      | exact LeO.none _
      | refine LeO.ite ?_ ?_
      | refine LeO.bind ?_ (fun _ => ?_)
def watchbilllaw6_ProgTwice.T14 : Bool × List (List Nat × List Nat) := (true, [([], []), ([], []), ([0, 1], [0, 1]), ([2], [2]), ([], []), ([], []), ([5], [5]), ([4, 6], [4, 6]), ([7], [7]), ([3, 8], [3, 8]), ([9], [9])])
def watchbilllaw6_ProgTwice.B14 : List Nat := [0, 0, 3, 7, 0, 0, 32, 112, 240, 511, 1023]
theorem watchbilllaw6_ProgTwice.tab14 : rtab .any (opsOf Try.f8 14) = watchbilllaw6_ProgTwice.T14 := by kernel_rfl
theorem watchbilllaw6_ProgTwice.bits14 : waitsOk watchbilllaw6_ProgTwice.T14.2 watchbilllaw6_ProgTwice.B14 = true := by kernel_rfl
set_option maxHeartbeats 8000000 in
set_option maxRecDepth 100000 in
theorem watchbilllaw6_ProgTwice.calls (k : Nat) (a0 : Int) (a1 : Int) (a2 : Int) (r : Bool) (w : World) (h : watchbilllaw6_ProgTwice.f k a0 a1 a2 = some r) :
    Calls Try.prog 8 #[.int .u8 a0, .int .u8 a1, .int .u8 a2] w fun e w' => e = .returned (.bool r) ∧ Below w.heap.size w w' := by
  have hu52 := Try.underlying52
  have HB := Aside0.mk (Below.refl w.heap.size w)
  have H : ((watchbilllaw6_known.f).bind fun t188 => (if t188 = true then ((some (([(⟨1, wrap64 (1 + (wrap64 (a1))), 0, 0, ([] : List (S84))⟩ : S52), (⟨2, 3, 0, 0, ([] : List (S84))⟩ : S52), (⟨1, wrap64 (1 + (wrap64 (a2))), 0, 0, ([] : List (S84))⟩ : S52), (⟨3, 3, 0, 0, ([] : List (S84))⟩ : S52)] : List (S52)) : List (S52))).bind fun y189 => ((some (([(⟨8, wrap64 (1 + (wrap64 (Int.tmod a0 32))), 0, 0, ([] : List (S84))⟩ : S52)] : List (S52)) : List (S52))).bind fun y192 => (if y192.length + y189.length < 2513169434916 then ((some (y192 ++ y189 : List (S52))).bind fun y195 => (if y195.length < 2513169434916 then ((some (y195 ++ [(⟨9, 0, 0, 0, ([] : List (S84))⟩ : S52)] : List (S52))).bind fun y198 => ((prog_Check.f y198).bind fun bt201 => ((prog_Flat.f k y198).bind fun t203 => (if bt201.2 = 0 then ((prog_Cost.f k y198).bind fun t206 => (if t206 = (wrap64 ((wrap64 (1 + (wrap64 (Int.tmod a0 32)))) * (wrap64 ((wrap64 (1 + (wrap64 (a1)))) + (wrap64 (1 + (wrap64 (a2)))))))) then ((prog_Steps.f k y198).bind fun t207 => (if t207 = (wrap64 (4 * (wrap64 (1 + (wrap64 (Int.tmod a0 32)))))) then (if (t203.length : Int) = (wrap64 (4 * (wrap64 (1 + (wrap64 (Int.tmod a0 32)))))) then ((prog_Section.f k y198 3).bind fun t208 => (if t208 = (wrap64 (1 + (wrap64 (a2)))) then ((prog_Section.f k y198 2).bind fun t209 => (if t209 = 0 then ((prog_Match.f k y198 0).bind fun t210 => (if t210 = 5 then ((prog_Match.f k y198 5).bind fun t211 => (watchbilllaw6_ProgTwice.j0 k y189 t203 (t211 != 0))) else (watchbilllaw6_ProgTwice.j0 k y189 t203 true))) else (watchbilllaw6_ProgTwice.j0 k y189 t203 true))) else (watchbilllaw6_ProgTwice.j0 k y189 t203 true))) else (watchbilllaw6_ProgTwice.j0 k y189 t203 true)) else (watchbilllaw6_ProgTwice.j0 k y189 t203 true))) else (watchbilllaw6_ProgTwice.j0 k y189 t203 true))) else (watchbilllaw6_ProgTwice.j0 k y189 t203 true))))) else (none))) else (none)))) else (some false))) = some r := h
  clear h
  replace H := Option.bind_eq_some_iff.mp H
  obtain ⟨t188, A40, H⟩ := H
  replace H : (if t188 = true then ((some (([(⟨1, wrap64 (1 + (wrap64 (a1))), 0, 0, ([] : List (S84))⟩ : S52), (⟨2, 3, 0, 0, ([] : List (S84))⟩ : S52), (⟨1, wrap64 (1 + (wrap64 (a2))), 0, 0, ([] : List (S84))⟩ : S52), (⟨3, 3, 0, 0, ([] : List (S84))⟩ : S52)] : List (S52)) : List (S52))).bind fun y189 => ((some (([(⟨8, wrap64 (1 + (wrap64 (Int.tmod a0 32))), 0, 0, ([] : List (S84))⟩ : S52)] : List (S52)) : List (S52))).bind fun y192 => (if y192.length + y189.length < 2513169434916 then ((some (y192 ++ y189 : List (S52))).bind fun y195 => (if y195.length < 2513169434916 then ((some (y195 ++ [(⟨9, 0, 0, 0, ([] : List (S84))⟩ : S52)] : List (S52))).bind fun y198 => ((prog_Check.f y198).bind fun bt201 => ((prog_Flat.f k y198).bind fun t203 => (if bt201.2 = 0 then ((prog_Cost.f k y198).bind fun t206 => (if t206 = (wrap64 ((wrap64 (1 + (wrap64 (Int.tmod a0 32)))) * (wrap64 ((wrap64 (1 + (wrap64 (a1)))) + (wrap64 (1 + (wrap64 (a2)))))))) then ((prog_Steps.f k y198).bind fun t207 => (if t207 = (wrap64 (4 * (wrap64 (1 + (wrap64 (Int.tmod a0 32)))))) then (if (t203.length : Int) = (wrap64 (4 * (wrap64 (1 + (wrap64 (Int.tmod a0 32)))))) then ((prog_Section.f k y198 3).bind fun t208 => (if t208 = (wrap64 (1 + (wrap64 (a2)))) then ((prog_Section.f k y198 2).bind fun t209 => (if t209 = 0 then ((prog_Match.f k y198 0).bind fun t210 => (if t210 = 5 then ((prog_Match.f k y198 5).bind fun t211 => (watchbilllaw6_ProgTwice.j0 k y189 t203 (t211 != 0))) else (watchbilllaw6_ProgTwice.j0 k y189 t203 true))) else (watchbilllaw6_ProgTwice.j0 k y189 t203 true))) else (watchbilllaw6_ProgTwice.j0 k y189 t203 true))) else (watchbilllaw6_ProgTwice.j0 k y189 t203 true)) else (watchbilllaw6_ProgTwice.j0 k y189 t203 true))) else (watchbilllaw6_ProgTwice.j0 k y189 t203 true))) else (watchbilllaw6_ProgTwice.j0 k y189 t203 true))))) else (none))) else (none)))) else (some false)) = some r := H
  have A4 := Aside0.mk A40
  clear A40
  by_cases c5 : t188 = true
  · subst c5
    have H1 : ((some (([(⟨1, wrap64 (1 + (wrap64 (a1))), 0, 0, ([] : List (S84))⟩ : S52), (⟨2, 3, 0, 0, ([] : List (S84))⟩ : S52), (⟨1, wrap64 (1 + (wrap64 (a2))), 0, 0, ([] : List (S84))⟩ : S52), (⟨3, 3, 0, 0, ([] : List (S84))⟩ : S52)] : List (S52)) : List (S52))).bind fun y189 => ((some (([(⟨8, wrap64 (1 + (wrap64 (Int.tmod a0 32))), 0, 0, ([] : List (S84))⟩ : S52)] : List (S52)) : List (S52))).bind fun y192 => (if y192.length + y189.length < 2513169434916 then ((some (y192 ++ y189 : List (S52))).bind fun y195 => (if y195.length < 2513169434916 then ((some (y195 ++ [(⟨9, 0, 0, 0, ([] : List (S84))⟩ : S52)] : List (S52))).bind fun y198 => ((prog_Check.f y198).bind fun bt201 => ((prog_Flat.f k y198).bind fun t203 => (if bt201.2 = 0 then ((prog_Cost.f k y198).bind fun t206 => (if t206 = (wrap64 ((wrap64 (1 + (wrap64 (Int.tmod a0 32)))) * (wrap64 ((wrap64 (1 + (wrap64 (a1)))) + (wrap64 (1 + (wrap64 (a2)))))))) then ((prog_Steps.f k y198).bind fun t207 => (if t207 = (wrap64 (4 * (wrap64 (1 + (wrap64 (Int.tmod a0 32)))))) then (if (t203.length : Int) = (wrap64 (4 * (wrap64 (1 + (wrap64 (Int.tmod a0 32)))))) then ((prog_Section.f k y198 3).bind fun t208 => (if t208 = (wrap64 (1 + (wrap64 (a2)))) then ((prog_Section.f k y198 2).bind fun t209 => (if t209 = 0 then ((prog_Match.f k y198 0).bind fun t210 => (if t210 = 5 then ((prog_Match.f k y198 5).bind fun t211 => (watchbilllaw6_ProgTwice.j0 k y189 t203 (t211 != 0))) else (watchbilllaw6_ProgTwice.j0 k y189 t203 true))) else (watchbilllaw6_ProgTwice.j0 k y189 t203 true))) else (watchbilllaw6_ProgTwice.j0 k y189 t203 true))) else (watchbilllaw6_ProgTwice.j0 k y189 t203 true)) else (watchbilllaw6_ProgTwice.j0 k y189 t203 true))) else (watchbilllaw6_ProgTwice.j0 k y189 t203 true))) else (watchbilllaw6_ProgTwice.j0 k y189 t203 true))))) else (none))) else (none)))) = some r := by rw [if_pos rfl] at H; exact H
    clear H
    have H := H1
    clear H1
    obtain ⟨y189, hy189⟩ : ∃ y_ : List (S52), y_ = (([(⟨1, wrap64 (1 + (wrap64 (a1))), 0, 0, ([] : List (S84))⟩ : S52), (⟨2, 3, 0, 0, ([] : List (S84))⟩ : S52), (⟨1, wrap64 (1 + (wrap64 (a2))), 0, 0, ([] : List (S84))⟩ : S52), (⟨3, 3, 0, 0, ([] : List (S84))⟩ : S52)] : List (S52))) := ⟨_, rfl⟩
    replace H : ((some (([(⟨8, wrap64 (1 + (wrap64 (Int.tmod a0 32))), 0, 0, ([] : List (S84))⟩ : S52)] : List (S52)) : List (S52))).bind fun y192 => (if y192.length + y189.length < 2513169434916 then ((some (y192 ++ y189 : List (S52))).bind fun y195 => (if y195.length < 2513169434916 then ((some (y195 ++ [(⟨9, 0, 0, 0, ([] : List (S84))⟩ : S52)] : List (S52))).bind fun y198 => ((prog_Check.f y198).bind fun bt201 => ((prog_Flat.f k y198).bind fun t203 => (if bt201.2 = 0 then ((prog_Cost.f k y198).bind fun t206 => (if t206 = (wrap64 ((wrap64 (1 + (wrap64 (Int.tmod a0 32)))) * (wrap64 ((wrap64 (1 + (wrap64 (a1)))) + (wrap64 (1 + (wrap64 (a2)))))))) then ((prog_Steps.f k y198).bind fun t207 => (if t207 = (wrap64 (4 * (wrap64 (1 + (wrap64 (Int.tmod a0 32)))))) then (if (t203.length : Int) = (wrap64 (4 * (wrap64 (1 + (wrap64 (Int.tmod a0 32)))))) then ((prog_Section.f k y198 3).bind fun t208 => (if t208 = (wrap64 (1 + (wrap64 (a2)))) then ((prog_Section.f k y198 2).bind fun t209 => (if t209 = 0 then ((prog_Match.f k y198 0).bind fun t210 => (if t210 = 5 then ((prog_Match.f k y198 5).bind fun t211 => (watchbilllaw6_ProgTwice.j0 k y189 t203 (t211 != 0))) else (watchbilllaw6_ProgTwice.j0 k y189 t203 true))) else (watchbilllaw6_ProgTwice.j0 k y189 t203 true))) else (watchbilllaw6_ProgTwice.j0 k y189 t203 true))) else (watchbilllaw6_ProgTwice.j0 k y189 t203 true)) else (watchbilllaw6_ProgTwice.j0 k y189 t203 true))) else (watchbilllaw6_ProgTwice.j0 k y189 t203 true))) else (watchbilllaw6_ProgTwice.j0 k y189 t203 true))))) else (none))) else (none))) = some r := by first | (rw [hy189]; with_reducible exact H) | (have H2_ := (Option.bind_some _ _).symm.trans H; rw [hy189]; with_reducible exact H2_) | (have H2_ := (Option.bind_some _ _).symm.trans H; with_reducible exact H2_) | with_reducible exact H | (rw [hy189]; exact H) | exact H
    have Ny189 := Aside0.mk hy189
    clear hy189
    obtain ⟨y192, hy192⟩ : ∃ y_ : List (S52), y_ = (([(⟨8, wrap64 (1 + (wrap64 (Int.tmod a0 32))), 0, 0, ([] : List (S84))⟩ : S52)] : List (S52))) := ⟨_, rfl⟩
    replace H : (if y192.length + y189.length < 2513169434916 then ((some (y192 ++ y189 : List (S52))).bind fun y195 => (if y195.length < 2513169434916 then ((some (y195 ++ [(⟨9, 0, 0, 0, ([] : List (S84))⟩ : S52)] : List (S52))).bind fun y198 => ((prog_Check.f y198).bind fun bt201 => ((prog_Flat.f k y198).bind fun t203 => (if bt201.2 = 0 then ((prog_Cost.f k y198).bind fun t206 => (if t206 = (wrap64 ((wrap64 (1 + (wrap64 (Int.tmod a0 32)))) * (wrap64 ((wrap64 (1 + (wrap64 (a1)))) + (wrap64 (1 + (wrap64 (a2)))))))) then ((prog_Steps.f k y198).bind fun t207 => (if t207 = (wrap64 (4 * (wrap64 (1 + (wrap64 (Int.tmod a0 32)))))) then (if (t203.length : Int) = (wrap64 (4 * (wrap64 (1 + (wrap64 (Int.tmod a0 32)))))) then ((prog_Section.f k y198 3).bind fun t208 => (if t208 = (wrap64 (1 + (wrap64 (a2)))) then ((prog_Section.f k y198 2).bind fun t209 => (if t209 = 0 then ((prog_Match.f k y198 0).bind fun t210 => (if t210 = 5 then ((prog_Match.f k y198 5).bind fun t211 => (watchbilllaw6_ProgTwice.j0 k y189 t203 (t211 != 0))) else (watchbilllaw6_ProgTwice.j0 k y189 t203 true))) else (watchbilllaw6_ProgTwice.j0 k y189 t203 true))) else (watchbilllaw6_ProgTwice.j0 k y189 t203 true))) else (watchbilllaw6_ProgTwice.j0 k y189 t203 true)) else (watchbilllaw6_ProgTwice.j0 k y189 t203 true))) else (watchbilllaw6_ProgTwice.j0 k y189 t203 true))) else (watchbilllaw6_ProgTwice.j0 k y189 t203 true))))) else (none))) else (none)) = some r := by first | (rw [hy192]; with_reducible exact H) | (have H2_ := (Option.bind_some _ _).symm.trans H; rw [hy192]; with_reducible exact H2_) | (have H2_ := (Option.bind_some _ _).symm.trans H; with_reducible exact H2_) | with_reducible exact H | (rw [hy192]; exact H) | exact H
    have Ny192 := Aside0.mk hy192
    clear hy192
    by_cases c6 : y192.length + y189.length < 2513169434916
    · rw [if_pos c6] at H
      have LMc6 := Aside0.mk c6
      clear c6
      obtain ⟨y195, hy195⟩ : ∃ y_ : List (S52), y_ = (y192 ++ y189) := ⟨_, rfl⟩
      replace H : (if y195.length < 2513169434916 then ((some (y195 ++ [(⟨9, 0, 0, 0, ([] : List (S84))⟩ : S52)] : List (S52))).bind fun y198 => ((prog_Check.f y198).bind fun bt201 => ((prog_Flat.f k y198).bind fun t203 => (if bt201.2 = 0 then ((prog_Cost.f k y198).bind fun t206 => (if t206 = (wrap64 ((wrap64 (1 + (wrap64 (Int.tmod a0 32)))) * (wrap64 ((wrap64 (1 + (wrap64 (a1)))) + (wrap64 (1 + (wrap64 (a2)))))))) then ((prog_Steps.f k y198).bind fun t207 => (if t207 = (wrap64 (4 * (wrap64 (1 + (wrap64 (Int.tmod a0 32)))))) then (if (t203.length : Int) = (wrap64 (4 * (wrap64 (1 + (wrap64 (Int.tmod a0 32)))))) then ((prog_Section.f k y198 3).bind fun t208 => (if t208 = (wrap64 (1 + (wrap64 (a2)))) then ((prog_Section.f k y198 2).bind fun t209 => (if t209 = 0 then ((prog_Match.f k y198 0).bind fun t210 => (if t210 = 5 then ((prog_Match.f k y198 5).bind fun t211 => (watchbilllaw6_ProgTwice.j0 k y189 t203 (t211 != 0))) else (watchbilllaw6_ProgTwice.j0 k y189 t203 true))) else (watchbilllaw6_ProgTwice.j0 k y189 t203 true))) else (watchbilllaw6_ProgTwice.j0 k y189 t203 true))) else (watchbilllaw6_ProgTwice.j0 k y189 t203 true)) else (watchbilllaw6_ProgTwice.j0 k y189 t203 true))) else (watchbilllaw6_ProgTwice.j0 k y189 t203 true))) else (watchbilllaw6_ProgTwice.j0 k y189 t203 true))))) else (none)) = some r := by first | (rw [hy195]; with_reducible exact H) | (have H2_ := (Option.bind_some _ _).symm.trans H; rw [hy195]; with_reducible exact H2_) | (have H2_ := (Option.bind_some _ _).symm.trans H; with_reducible exact H2_) | with_reducible exact H | (rw [hy195]; exact H) | exact H
      have Ny195 := Aside0.mk hy195
      clear hy195
      by_cases c7 : y195.length < 2513169434916
      · rw [if_pos c7] at H
        have LMc7 := Aside0.mk c7
        clear c7
        obtain ⟨y198, hy198⟩ : ∃ y_ : List (S52), y_ = (y195 ++ [(⟨9, 0, 0, 0, ([] : List (S84))⟩ : S52)]) := ⟨_, rfl⟩
        replace H : ((prog_Check.f y198).bind fun bt201 => ((prog_Flat.f k y198).bind fun t203 => (if bt201.2 = 0 then ((prog_Cost.f k y198).bind fun t206 => (if t206 = (wrap64 ((wrap64 (1 + (wrap64 (Int.tmod a0 32)))) * (wrap64 ((wrap64 (1 + (wrap64 (a1)))) + (wrap64 (1 + (wrap64 (a2)))))))) then ((prog_Steps.f k y198).bind fun t207 => (if t207 = (wrap64 (4 * (wrap64 (1 + (wrap64 (Int.tmod a0 32)))))) then (if (t203.length : Int) = (wrap64 (4 * (wrap64 (1 + (wrap64 (Int.tmod a0 32)))))) then ((prog_Section.f k y198 3).bind fun t208 => (if t208 = (wrap64 (1 + (wrap64 (a2)))) then ((prog_Section.f k y198 2).bind fun t209 => (if t209 = 0 then ((prog_Match.f k y198 0).bind fun t210 => (if t210 = 5 then ((prog_Match.f k y198 5).bind fun t211 => (watchbilllaw6_ProgTwice.j0 k y189 t203 (t211 != 0))) else (watchbilllaw6_ProgTwice.j0 k y189 t203 true))) else (watchbilllaw6_ProgTwice.j0 k y189 t203 true))) else (watchbilllaw6_ProgTwice.j0 k y189 t203 true))) else (watchbilllaw6_ProgTwice.j0 k y189 t203 true)) else (watchbilllaw6_ProgTwice.j0 k y189 t203 true))) else (watchbilllaw6_ProgTwice.j0 k y189 t203 true))) else (watchbilllaw6_ProgTwice.j0 k y189 t203 true)))) = some r := by first | (rw [hy198]; with_reducible exact H) | (have H2_ := (Option.bind_some _ _).symm.trans H; rw [hy198]; with_reducible exact H2_) | (have H2_ := (Option.bind_some _ _).symm.trans H; with_reducible exact H2_) | with_reducible exact H | (rw [hy198]; exact H) | exact H
        have Ny198 := Aside0.mk hy198
        clear hy198
        replace H := Option.bind_eq_some_iff.mp H
        obtain ⟨⟨t201, t202⟩, A80, H⟩ := H
        replace H : ((prog_Flat.f k y198).bind fun t203 => (if t202 = 0 then ((prog_Cost.f k y198).bind fun t206 => (if t206 = (wrap64 ((wrap64 (1 + (wrap64 (Int.tmod a0 32)))) * (wrap64 ((wrap64 (1 + (wrap64 (a1)))) + (wrap64 (1 + (wrap64 (a2)))))))) then ((prog_Steps.f k y198).bind fun t207 => (if t207 = (wrap64 (4 * (wrap64 (1 + (wrap64 (Int.tmod a0 32)))))) then (if (t203.length : Int) = (wrap64 (4 * (wrap64 (1 + (wrap64 (Int.tmod a0 32)))))) then ((prog_Section.f k y198 3).bind fun t208 => (if t208 = (wrap64 (1 + (wrap64 (a2)))) then ((prog_Section.f k y198 2).bind fun t209 => (if t209 = 0 then ((prog_Match.f k y198 0).bind fun t210 => (if t210 = 5 then ((prog_Match.f k y198 5).bind fun t211 => (watchbilllaw6_ProgTwice.j0 k y189 t203 (t211 != 0))) else (watchbilllaw6_ProgTwice.j0 k y189 t203 true))) else (watchbilllaw6_ProgTwice.j0 k y189 t203 true))) else (watchbilllaw6_ProgTwice.j0 k y189 t203 true))) else (watchbilllaw6_ProgTwice.j0 k y189 t203 true)) else (watchbilllaw6_ProgTwice.j0 k y189 t203 true))) else (watchbilllaw6_ProgTwice.j0 k y189 t203 true))) else (watchbilllaw6_ProgTwice.j0 k y189 t203 true))) = some r := H
        have A8 := Aside0.mk A80
        clear A80
        replace H := Option.bind_eq_some_iff.mp H
        obtain ⟨t203, A90, H⟩ := H
        replace H : (if t202 = 0 then ((prog_Cost.f k y198).bind fun t206 => (if t206 = (wrap64 ((wrap64 (1 + (wrap64 (Int.tmod a0 32)))) * (wrap64 ((wrap64 (1 + (wrap64 (a1)))) + (wrap64 (1 + (wrap64 (a2)))))))) then ((prog_Steps.f k y198).bind fun t207 => (if t207 = (wrap64 (4 * (wrap64 (1 + (wrap64 (Int.tmod a0 32)))))) then (if (t203.length : Int) = (wrap64 (4 * (wrap64 (1 + (wrap64 (Int.tmod a0 32)))))) then ((prog_Section.f k y198 3).bind fun t208 => (if t208 = (wrap64 (1 + (wrap64 (a2)))) then ((prog_Section.f k y198 2).bind fun t209 => (if t209 = 0 then ((prog_Match.f k y198 0).bind fun t210 => (if t210 = 5 then ((prog_Match.f k y198 5).bind fun t211 => (watchbilllaw6_ProgTwice.j0 k y189 t203 (t211 != 0))) else (watchbilllaw6_ProgTwice.j0 k y189 t203 true))) else (watchbilllaw6_ProgTwice.j0 k y189 t203 true))) else (watchbilllaw6_ProgTwice.j0 k y189 t203 true))) else (watchbilllaw6_ProgTwice.j0 k y189 t203 true)) else (watchbilllaw6_ProgTwice.j0 k y189 t203 true))) else (watchbilllaw6_ProgTwice.j0 k y189 t203 true))) else (watchbilllaw6_ProgTwice.j0 k y189 t203 true)) = some r := H
        have A9 := Aside0.mk A90
        clear A90
        have HC10 := Aside0.mk H
        clear H
        go_enter Try.func8, Try.ntmps8
        go_upto_region 9 with (first | ((with_reducible refine gate_callee (f := 9) rfl ?_); refine goesL_ (some 16) rfl rfl Try.func9 (by kernel_rfl) rfl #[] rfl (by (try simp only [List.map_toArray, List.map_cons, List.map_nil]); first | done | rfl | (simp only [List.length_drop, List.length_take]; rfl)) ?_; (with_reducible refine (watchbilllaw6_known.calls  true _ A4.out).mono ?_); rintro e w11 ⟨rfl, hb⟩; refine ⟨_, rfl, ?_⟩; have n0_ := Aside0.mk (below_step (by repeat (first | (with_reducible first | exact HB.out | apply below_alloc | apply pw_below_drewN | apply below_drew1) | exact HB.out)) hb); clear HB; have HB := n0_; clear n0_; (try clear hb); (try clear hb2); (try clear hk); (try clear hi)) | ((with_reducible refine gate_dst (N := 34) rfl ?_); (try (refine gate_guard (by rfl) ?_; dsimp only)); refine Kd.N_lit k52 _ 52 ?hg (N' := 34) ?hd (xs := ([(⟨1, wrap64 (1 + (wrap64 (a1))), 0, 0, ([] : List (S84))⟩ : S52), (⟨2, 3, 0, 0, ([] : List (S84))⟩ : S52), (⟨1, wrap64 (1 + (wrap64 (a2))), 0, 0, ([] : List (S84))⟩ : S52), (⟨3, 3, 0, 0, ([] : List (S84))⟩ : S52)] : List (S52))) (inner := [.int .i64 1, .int .i64 (wrap64 (1 + (wrap64 (a1)))), .int .i64 0, .int .i64 0, .slice none 0 0, .int .i64 2, .int .i64 3, .int .i64 0, .int .i64 0, .slice none 0 0, .int .i64 1, .int .i64 (wrap64 (1 + (wrap64 (a2)))), .int .i64 0, .int .i64 0, .slice none 0 0, .int .i64 3, .int .i64 3, .int .i64 0, .int .i64 0, .slice none 0 0]) (ok := (fun _ => True)) (okp := (fun _ => True)) ?hr ?hp (fun _ hk => hk) ((show ∀ k_, w11.heap.size ≤ k_ → (fun _ => True) k_ from fun k_ hk => trivial) _ (Nat.le_refl _)) (Below.refl _ _) (Nat.le_refl _) (by simp) ?_; (case hd => rfl); (case hg => rfl); (case hr => first | (go_simp; done) | (go_simp; rfl)); (case hp => exact (Reps.c5 (show Kd.FK k52 _ _ (⟨1, wrap64 (1 + (wrap64 (a1))), 0, 0, ([] : List (S84))⟩ : S52) [.int .i64 1, .int .i64 (wrap64 (1 + (wrap64 (a1)))), .int .i64 0, .int .i64 0, .slice none 0 0] from (k52_mkF _ _ (⟨1, wrap64 (1 + (wrap64 (a1))), 0, 0, ([] : List (S84))⟩ : S52) (Nat.le_refl _) (Kd.F_nil _ _ _))) (Reps.c5 (show Kd.FK k52 _ _ (⟨2, 3, 0, 0, ([] : List (S84))⟩ : S52) [.int .i64 2, .int .i64 3, .int .i64 0, .int .i64 0, .slice none 0 0] from (k52_mkF _ _ (⟨2, 3, 0, 0, ([] : List (S84))⟩ : S52) (Nat.le_refl _) (Kd.F_nil _ _ _))) (Reps.c5 (show Kd.FK k52 _ _ (⟨1, wrap64 (1 + (wrap64 (a2))), 0, 0, ([] : List (S84))⟩ : S52) [.int .i64 1, .int .i64 (wrap64 (1 + (wrap64 (a2)))), .int .i64 0, .int .i64 0, .slice none 0 0] from (k52_mkF _ _ (⟨1, wrap64 (1 + (wrap64 (a2))), 0, 0, ([] : List (S84))⟩ : S52) (Nat.le_refl _) (Kd.F_nil _ _ _))) (Reps.c5 (show Kd.FK k52 _ _ (⟨3, 3, 0, 0, ([] : List (S84))⟩ : S52) [.int .i64 3, .int .i64 3, .int .i64 0, .int .i64 0, .slice none 0 0] from (k52_mkF _ _ (⟨3, 3, 0, 0, ([] : List (S84))⟩ : S52) (Nat.le_refl _) (Kd.F_nil _ _ _))) (Reps.none _ _)))))); intro v190 w12 ho13 hb hg_ hnew_; clear hg_ hnew_; (first | rw [← Ny189.out] at ho13 | (simp only [Int.reduceToNat] at ho13; rw [← Ny189.out] at ho13)); have n0_ := Aside0.mk (Kd.N_lower ho13 (below_size (by repeat (first | (with_reducible first | exact HB.out | apply below_alloc | apply pw_below_drewN | apply below_drew1) | exact HB.out)))); have n1_ := Aside0.mk (below_step (by repeat (first | (with_reducible first | exact HB.out | apply below_alloc | apply pw_below_drewN | apply below_drew1) | exact HB.out)) hb); clear HB; have HO191 := n0_; have HB := n1_; clear n0_ n1_; clear hb ho13) | ((with_reducible refine gate_dst (N := 37) rfl ?_); (try (refine gate_guard (by rfl) ?_; dsimp only)); refine Kd.N_lit k52 _ 52 ?hg (N' := 37) ?hd (xs := ([(⟨8, wrap64 (1 + (wrap64 (Int.tmod a0 32))), 0, 0, ([] : List (S84))⟩ : S52)] : List (S52))) (inner := [.int .i64 8, .int .i64 (wrap64 (1 + (wrap64 (Int.tmod a0 32)))), .int .i64 0, .int .i64 0, .slice none 0 0]) (ok := (fun k_ => some k_ ≠ (v190 : Value).ownBlock)) (okp := (fun k_ => some k_ ≠ (v190 : Value).ownBlock)) ?hr ?hp (fun _ hk => hk) ((show ∀ k_, w12.heap.size ≤ k_ → (fun k_ => some k_ ≠ (v190 : Value).ownBlock) k_ from fun k_ hk => Kd.fresh' (Kd.N_lt (by (with_reducible repeat (first | apply Kd.N_alloc | apply Kd.N_drewN | apply Kd.N_drew)); exact HO191.out)) k_ hk) _ (Nat.le_refl _)) (Below.refl _ _) (Nat.le_refl _) (by simp) ?_; (case hd => rfl); (case hg => rfl); (case hr => first | (go_simp; done) | (go_simp; rfl)); (case hp => exact (Reps.c5 (show Kd.FK k52 _ _ (⟨8, wrap64 (1 + (wrap64 (Int.tmod a0 32))), 0, 0, ([] : List (S84))⟩ : S52) [.int .i64 8, .int .i64 (wrap64 (1 + (wrap64 (Int.tmod a0 32)))), .int .i64 0, .int .i64 0, .slice none 0 0] from (k52_mkF _ _ (⟨8, wrap64 (1 + (wrap64 (Int.tmod a0 32))), 0, 0, ([] : List (S84))⟩ : S52) (Nat.le_refl _) (Kd.F_nil _ _ _))) (Reps.none _ _))); intro v193 w14 ho15 hb hg_ hnew_; clear hg_ hnew_; (first | rw [← Ny192.out] at ho15 | (simp only [Int.reduceToNat] at ho15; rw [← Ny192.out] at ho15)); have n0_ := Aside0.mk (Kd.N_elder' (by (with_reducible repeat (first | apply Kd.N_alloc | apply Kd.N_drewN | apply Kd.N_drew)); exact HO191.out) (Kd.N_base ho15) hb); have n1_ := Aside0.mk (Kd.N_lower ho15 (below_size (by repeat (first | (with_reducible first | exact HB.out | apply below_alloc | apply pw_below_drewN | apply below_drew1) | exact HB.out)))); have n2_ := Aside0.mk (below_step (by repeat (first | (with_reducible first | exact HB.out | apply below_alloc | apply pw_below_drewN | apply below_drew1) | exact HB.out)) hb); clear HO191; clear HB; have HO191 := n0_; have HO194 := n1_; have HB := n2_; clear n0_ n1_ n2_; clear hb ho15; obtain ⟨Ao17, co17, eo17⟩ := Kd.N_slice HO191.out; subst eo17) | ((with_reducible refine gate_builtin (b := .append) (xs := #[.tmp 37, .tmp 38]) rfl ?_); (try (refine gate_guard (by rfl) ?_; dsimp only)); at_builtin; refine Kd.N_append_rows k52 (w0 := w) w.heap.size rfl (.tmp 37) (.tmp 38) 25 52 (.agg #[(.int .i64 0), (.int .i64 0), (.int .i64 0), (.int .i64 0), (.slice none 0 0)]) 56 rfl Try.underlying25 info52 rfl (by decide) (by omega) v193 y192 y189 _ _ _ (fun _ => True) (fun k_ => ((fun _ => True)) k_ ∧ some k_ ≠ (v193 : Value).ownBlock) rfl rfl ?aO ?aR (fun _ hk => hk) ?aF ?aB ?aS ?aL ?_; (case aR => exact (by skip; exact Kd.N_F (Kd.N_mono (ok' := (fun k_ => ((fun _ => True)) k_ ∧ some k_ ≠ (v193 : Value).ownBlock)) (HO191.out) (fun k_ hk => ⟨trivial, hk.2⟩)))); (case aB => exact (by repeat (first | (with_reducible first | exact HB.out | apply below_alloc | apply pw_below_drewN | apply below_drew1) | exact HB.out))); (case aF => exact (fun _ _ => trivial)); (case aO => exact (by (with_reducible repeat (first | apply Kd.N_alloc | apply Kd.N_drewN | apply Kd.N_drew)); exact Kd.N_mono HO194.out (fun _ hk => trivial))); (case aS => exact (below_size (by repeat (first | (with_reducible first | exact HB.out | apply below_alloc | apply pw_below_drewN | apply below_drew1) | exact HB.out)))); (case aL => have := LMc6.out; omega); intro v196 w16 ho hb hg hat; rw [← Ny195.out] at ho; have n0_ := Aside0.mk (Kd.N_afterv (ok := (fun _ => True)) (by (with_reducible repeat (first | apply Kd.N_alloc | apply Kd.N_drewN | apply Kd.N_drew)); exact HO191.out) hg hat); have n1_ := Aside0.mk (hb); have n2_ := Aside0.mk (ho); clear HO191; clear HB; clear HO194; have HO191 := n0_; have HB := n1_; have HO197 := n2_; clear n0_ n1_ n2_; clear ho hb hg hat) | ((with_reducible refine gate_builtin (b := .append) (xs := #[.tmp 39, .tmp 41]) rfl ?_); (try (refine gate_guard (by rfl) ?_; dsimp only)); at_builtin; refine Kd.N_append k52 (w0 := w) w.heap.size rfl (.tmp 39) (.tmp 41) 25 52 (.agg #[(.int .i64 0), (.int .i64 0), (.int .i64 0), (.int .i64 0), (.slice none 0 0)]) 56 rfl Try.underlying25 info52 rfl (by decide) (by omega) v196 y195 (⟨9, 0, 0, 0, ([] : List (S84))⟩ : S52) [.int .i64 9, .int .i64 0, .int .i64 0, .int .i64 0, .slice none 0 0] (fun _ => True) (fun k_ => ((fun _ => True)) k_ ∧ some k_ ≠ (v196 : Value).ownBlock) rfl rfl ?aP (fun _ hk => hk) ?aF ?aO ?aB ?aS ?aL ?_; (case aP => exact (k52_mkF _ _ (⟨9, 0, 0, 0, ([] : List (S84))⟩ : S52) (Nat.le_refl _) (Kd.F_nil _ _ _))); (case aB => exact (by repeat (first | (with_reducible first | exact HB.out | apply below_alloc | apply pw_below_drewN | apply below_drew1) | exact HB.out))); (case aF => exact (fun _ _ => trivial)); (case aO => exact (by (with_reducible repeat (first | apply Kd.N_alloc | apply Kd.N_drewN | apply Kd.N_drew)); exact HO197.out)); (case aS => exact (below_size (by repeat (first | (with_reducible first | exact HB.out | apply below_alloc | apply pw_below_drewN | apply below_drew1) | exact HB.out)))); (case aL => have := LMc7.out; omega); intro v199 w18 ho hb hg hat; rw [← Ny198.out] at ho; have n0_ := Aside0.mk (Kd.N_afterv (ok := (fun _ => True)) (by (with_reducible repeat (first | apply Kd.N_alloc | apply Kd.N_drewN | apply Kd.N_drew)); exact HO191.out) hg hat); have n1_ := Aside0.mk (hb); have n2_ := Aside0.mk (ho); clear HO191; clear HB; clear HO197; have HO191 := n0_; have HB := n1_; have HO200 := n2_; clear n0_ n1_ n2_; clear ho hb hg hat; obtain ⟨Ao19, co19, eo19⟩ := Kd.N_slice HO200.out; subst eo19) | ((with_reducible refine gate_callee (f := 12) rfl ?_); refine goesL_ (some 45) rfl rfl Try.func12 (by kernel_rfl) rfl #[.slice Ao19 y198.length co19] rfl (by (try simp only [List.map_toArray, List.map_cons, List.map_nil]); first | done | rfl | (simp only [List.length_drop, List.length_take]; rfl)) ?_; (with_reducible refine (prog_Check.calls _ _ y198 t201 t202 _ ?side1 ?side2 A8.out).mono ?_); (case side1 => repeat (first | exact (Kd.N_reads' HO200.out).2.2 | (with_reducible refine Kd.C_alloc ?_ _) | (with_reducible refine Kd.C_drewN ?_ _) | (with_reducible refine Kd.C_drew ?_))); (case side2 => exact (Kd.N_reads' HO200.out).2.1); rintro e w20 ⟨rfl, hb⟩; refine ⟨_, rfl, ?_⟩; have n0_ := Aside0.mk (Kd.N_below (by (with_reducible repeat (first | apply Kd.N_alloc | apply Kd.N_drewN | apply Kd.N_drew)); exact HO191.out) hb); have n1_ := Aside0.mk (Kd.N_below (by (with_reducible repeat (first | apply Kd.N_alloc | apply Kd.N_drewN | apply Kd.N_drew)); exact HO200.out) hb); have n2_ := Aside0.mk (below_step (by repeat (first | (with_reducible first | exact HB.out | apply below_alloc | apply pw_below_drewN | apply below_drew1) | exact HB.out)) hb); clear HO191; clear HO200; clear HB; have HO191 := n0_; have HO200 := n1_; have HB := n2_; clear n0_ n1_ n2_; (try clear hb); (try clear hb2); (try clear hk); (try clear hi)) | ((with_reducible refine gate_callee (f := 29) rfl ?_); refine goesL_ (some 49) rfl rfl Try.func29 (by kernel_rfl) rfl #[.slice Ao19 y198.length co19] rfl (by (try simp only [List.map_toArray, List.map_cons, List.map_nil]); first | done | rfl | (simp only [List.length_drop, List.length_take]; rfl)) ?_; (with_reducible refine (prog_Flat.calls k (fun k_ => True) _ _ y198 t203 _ ?side1 A9.out).mono ?_); (case side1 => exact Kd.N_V (HO200.out)); rintro e w21 ⟨v204, rfl, ho0, hb⟩; refine ⟨_, rfl, ?_⟩; have n0_ := Aside0.mk (Kd.N_elder' (by (with_reducible repeat (first | apply Kd.N_alloc | apply Kd.N_drewN | apply Kd.N_drew)); exact HO191.out) (Kd.N_base ho0) hb); have n1_ := Aside0.mk (Kd.N_elder' (by (with_reducible repeat (first | apply Kd.N_alloc | apply Kd.N_drewN | apply Kd.N_drew)); exact HO200.out) (Kd.N_base ho0) hb); have n2_ := Aside0.mk (Kd.N_lower (Kd.N_mono (ok' := fun k_ => True) ho0 (fun k_ hk_ => trivial)) (below_size (by repeat (first | (with_reducible first | exact HB.out | apply below_alloc | apply pw_below_drewN | apply below_drew1) | exact HB.out)))); have n3_ := Aside0.mk (below_step (by repeat (first | (with_reducible first | exact HB.out | apply below_alloc | apply pw_below_drewN | apply below_drew1) | exact HB.out)) hb); clear HO191; clear HO200; clear HB; have HO191 := n0_; have HO200 := n1_; have HO205 := n2_; have HB := n3_; clear n0_ n1_ n2_ n3_; (try clear hb); (try clear hb2); (try clear hk); (try clear hi); (try clear ho0)))
        (try simp only [Act.put, List.setIfInBounds_toArray, List.set_cons_zero, List.set_cons_succ])
        go_cut [96] (fun v96 wc => ∃ (kq : Nat) (x96_9 : Bool), v96 = .bool x96_9 ∧ Aside0 (watchbilllaw6_ProgTwice.j0 kq y189 t203 x96_9 = some r) ∧ Aside0 (kq ≤ k) ∧ Aside0 (Kd.N k52 52 wc w.heap.size (fun k_ => some k_ ≠ (v204 : Value).ownBlock) (.slice Ao17 y189.length co17) y189) ∧ Aside0 (Kd.N k52 52 wc w.heap.size (fun _ => True) v204 t203) ∧ Aside0 (Below w.heap.size w wc))
        case first =>
          have H := HC10.out
          clear HC10
          by_cases c22 : t202 = 0
          · rw [if_pos c22] at H
            have c22b0 : (t202 == 0) = true := beq_iff_eq.mpr c22
            have c22b1 : (t202 != 0) = false := bne_eq_false_iff_eq.mpr c22
            clear c22
            (first | rw [c22b0] | (simp only [i64_w, i32_w]; rw [c22b0]) | skip)
            replace H := Option.bind_eq_some_iff.mp H
            obtain ⟨t206, A230, H⟩ := H
            replace H : (if t206 = (wrap64 ((wrap64 (1 + (wrap64 (Int.tmod a0 32)))) * (wrap64 ((wrap64 (1 + (wrap64 (a1)))) + (wrap64 (1 + (wrap64 (a2)))))))) then ((prog_Steps.f k y198).bind fun t207 => (if t207 = (wrap64 (4 * (wrap64 (1 + (wrap64 (Int.tmod a0 32)))))) then (if (t203.length : Int) = (wrap64 (4 * (wrap64 (1 + (wrap64 (Int.tmod a0 32)))))) then ((prog_Section.f k y198 3).bind fun t208 => (if t208 = (wrap64 (1 + (wrap64 (a2)))) then ((prog_Section.f k y198 2).bind fun t209 => (if t209 = 0 then ((prog_Match.f k y198 0).bind fun t210 => (if t210 = 5 then ((prog_Match.f k y198 5).bind fun t211 => (watchbilllaw6_ProgTwice.j0 k y189 t203 (t211 != 0))) else (watchbilllaw6_ProgTwice.j0 k y189 t203 true))) else (watchbilllaw6_ProgTwice.j0 k y189 t203 true))) else (watchbilllaw6_ProgTwice.j0 k y189 t203 true))) else (watchbilllaw6_ProgTwice.j0 k y189 t203 true)) else (watchbilllaw6_ProgTwice.j0 k y189 t203 true))) else (watchbilllaw6_ProgTwice.j0 k y189 t203 true)) = some r := H
            have A23 := Aside0.mk A230
            clear A230
            by_cases c24 : t206 = (wrap64 ((wrap64 (1 + (wrap64 (Int.tmod a0 32)))) * (wrap64 ((wrap64 (1 + (wrap64 (a1)))) + (wrap64 (1 + (wrap64 (a2))))))))
            · rw [if_pos c24] at H
              have c24b0 : (t206 == (wrap64 ((wrap64 (1 + (wrap64 (Int.tmod a0 32)))) * (wrap64 ((wrap64 (1 + (wrap64 (a1)))) + (wrap64 (1 + (wrap64 (a2))))))))) = true := beq_iff_eq.mpr c24
              have c24b1 : (t206 != (wrap64 ((wrap64 (1 + (wrap64 (Int.tmod a0 32)))) * (wrap64 ((wrap64 (1 + (wrap64 (a1)))) + (wrap64 (1 + (wrap64 (a2))))))))) = false := bne_eq_false_iff_eq.mpr c24
              clear c24
              replace H := Option.bind_eq_some_iff.mp H
              obtain ⟨t207, A250, H⟩ := H
              replace H : (if t207 = (wrap64 (4 * (wrap64 (1 + (wrap64 (Int.tmod a0 32)))))) then (if (t203.length : Int) = (wrap64 (4 * (wrap64 (1 + (wrap64 (Int.tmod a0 32)))))) then ((prog_Section.f k y198 3).bind fun t208 => (if t208 = (wrap64 (1 + (wrap64 (a2)))) then ((prog_Section.f k y198 2).bind fun t209 => (if t209 = 0 then ((prog_Match.f k y198 0).bind fun t210 => (if t210 = 5 then ((prog_Match.f k y198 5).bind fun t211 => (watchbilllaw6_ProgTwice.j0 k y189 t203 (t211 != 0))) else (watchbilllaw6_ProgTwice.j0 k y189 t203 true))) else (watchbilllaw6_ProgTwice.j0 k y189 t203 true))) else (watchbilllaw6_ProgTwice.j0 k y189 t203 true))) else (watchbilllaw6_ProgTwice.j0 k y189 t203 true)) else (watchbilllaw6_ProgTwice.j0 k y189 t203 true)) = some r := H
              have A25 := Aside0.mk A250
              clear A250
              by_cases c26 : t207 = (wrap64 (4 * (wrap64 (1 + (wrap64 (Int.tmod a0 32))))))
              · rw [if_pos c26] at H
                have c26b0 : (t207 == (wrap64 (4 * (wrap64 (1 + (wrap64 (Int.tmod a0 32))))))) = true := beq_iff_eq.mpr c26
                have c26b1 : (t207 != (wrap64 (4 * (wrap64 (1 + (wrap64 (Int.tmod a0 32))))))) = false := bne_eq_false_iff_eq.mpr c26
                clear c26
                by_cases c27 : (t203.length : Int) = (wrap64 (4 * (wrap64 (1 + (wrap64 (Int.tmod a0 32))))))
                · rw [if_pos c27] at H
                  have c27b0 : ((t203.length : Int) == (wrap64 (4 * (wrap64 (1 + (wrap64 (Int.tmod a0 32))))))) = true := beq_iff_eq.mpr c27
                  have c27b1 : ((t203.length : Int) != (wrap64 (4 * (wrap64 (1 + (wrap64 (Int.tmod a0 32))))))) = false := bne_eq_false_iff_eq.mpr c27
                  clear c27
                  replace H := Option.bind_eq_some_iff.mp H
                  obtain ⟨t208, A280, H⟩ := H
                  replace H : (if t208 = (wrap64 (1 + (wrap64 (a2)))) then ((prog_Section.f k y198 2).bind fun t209 => (if t209 = 0 then ((prog_Match.f k y198 0).bind fun t210 => (if t210 = 5 then ((prog_Match.f k y198 5).bind fun t211 => (watchbilllaw6_ProgTwice.j0 k y189 t203 (t211 != 0))) else (watchbilllaw6_ProgTwice.j0 k y189 t203 true))) else (watchbilllaw6_ProgTwice.j0 k y189 t203 true))) else (watchbilllaw6_ProgTwice.j0 k y189 t203 true)) = some r := H
                  have A28 := Aside0.mk A280
                  clear A280
                  by_cases c29 : t208 = (wrap64 (1 + (wrap64 (a2))))
                  · rw [if_pos c29] at H
                    have c29b0 : (t208 == (wrap64 (1 + (wrap64 (a2))))) = true := beq_iff_eq.mpr c29
                    have c29b1 : (t208 != (wrap64 (1 + (wrap64 (a2))))) = false := bne_eq_false_iff_eq.mpr c29
                    clear c29
                    replace H := Option.bind_eq_some_iff.mp H
                    obtain ⟨t209, A300, H⟩ := H
                    replace H : (if t209 = 0 then ((prog_Match.f k y198 0).bind fun t210 => (if t210 = 5 then ((prog_Match.f k y198 5).bind fun t211 => (watchbilllaw6_ProgTwice.j0 k y189 t203 (t211 != 0))) else (watchbilllaw6_ProgTwice.j0 k y189 t203 true))) else (watchbilllaw6_ProgTwice.j0 k y189 t203 true)) = some r := H
                    have A30 := Aside0.mk A300
                    clear A300
                    by_cases c31 : t209 = 0
                    · rw [if_pos c31] at H
                      have c31b0 : (t209 == 0) = true := beq_iff_eq.mpr c31
                      have c31b1 : (t209 != 0) = false := bne_eq_false_iff_eq.mpr c31
                      clear c31
                      replace H := Option.bind_eq_some_iff.mp H
                      obtain ⟨t210, A320, H⟩ := H
                      replace H : (if t210 = 5 then ((prog_Match.f k y198 5).bind fun t211 => (watchbilllaw6_ProgTwice.j0 k y189 t203 (t211 != 0))) else (watchbilllaw6_ProgTwice.j0 k y189 t203 true)) = some r := H
                      have A32 := Aside0.mk A320
                      clear A320
                      by_cases c33 : t210 = 5
                      · rw [if_pos c33] at H
                        have c33b0 : (t210 == 5) = true := beq_iff_eq.mpr c33
                        have c33b1 : (t210 != 5) = false := bne_eq_false_iff_eq.mpr c33
                        clear c33
                        replace H := Option.bind_eq_some_iff.mp H
                        obtain ⟨t211, A340, H⟩ := H
                        replace H : (watchbilllaw6_ProgTwice.j0 k y189 t203 (t211 != 0)) = some r := H
                        have A34 := Aside0.mk A340
                        clear A340
                        have H' := Aside0.mk H
                        clear H
                        go_wp2_with (first | (go_at_call 17; (with_reducible refine (prog_Cost.calls k _ _ y198 t206 _ ?side1 ?side2 A23.out).mono ?_); (case side1 => repeat (first | exact (Kd.N_reads' HO200.out).2.2 | (with_reducible refine Kd.C_alloc ?_ _) | (with_reducible refine Kd.C_drewN ?_ _) | (with_reducible refine Kd.C_drew ?_))); (case side2 => exact (Kd.N_reads' HO200.out).2.1); rintro e w35 ⟨rfl, hb⟩; have n0_ := Aside0.mk (Kd.N_below (by (with_reducible repeat (first | apply Kd.N_alloc | apply Kd.N_drewN | apply Kd.N_drew)); exact HO191.out) hb); have n1_ := Aside0.mk (Kd.N_below (by (with_reducible repeat (first | apply Kd.N_alloc | apply Kd.N_drewN | apply Kd.N_drew)); exact HO200.out) hb); have n2_ := Aside0.mk (Kd.N_below (by (with_reducible repeat (first | apply Kd.N_alloc | apply Kd.N_drewN | apply Kd.N_drew)); exact HO205.out) hb); have n3_ := Aside0.mk (below_step (by repeat (first | (with_reducible first | exact HB.out | apply below_alloc | apply pw_below_drewN | apply below_drew1) | exact HB.out)) hb); clear HO191; clear HO200; clear HO205; clear HB; have HO191 := n0_; have HO200 := n1_; have HO205 := n2_; have HB := n3_; clear n0_ n1_ n2_ n3_; (try clear hb); (try clear hb2); (try clear hk); (try clear hi)) | (go_at_call 19; (with_reducible refine (prog_Steps.calls k _ _ y198 t207 _ ?side1 ?side2 A25.out).mono ?_); (case side1 => repeat (first | exact (Kd.N_reads' HO200.out).2.2 | (with_reducible refine Kd.C_alloc ?_ _) | (with_reducible refine Kd.C_drewN ?_ _) | (with_reducible refine Kd.C_drew ?_))); (case side2 => exact (Kd.N_reads' HO200.out).2.1); rintro e w36 ⟨rfl, hb⟩; have n0_ := Aside0.mk (Kd.N_below (by (with_reducible repeat (first | apply Kd.N_alloc | apply Kd.N_drewN | apply Kd.N_drew)); exact HO191.out) hb); have n1_ := Aside0.mk (Kd.N_below (by (with_reducible repeat (first | apply Kd.N_alloc | apply Kd.N_drewN | apply Kd.N_drew)); exact HO200.out) hb); have n2_ := Aside0.mk (Kd.N_below (by (with_reducible repeat (first | apply Kd.N_alloc | apply Kd.N_drewN | apply Kd.N_drew)); exact HO205.out) hb); have n3_ := Aside0.mk (below_step (by repeat (first | (with_reducible first | exact HB.out | apply below_alloc | apply pw_below_drewN | apply below_drew1) | exact HB.out)) hb); clear HO191; clear HO200; clear HO205; clear HB; have HO191 := n0_; have HO200 := n1_; have HO205 := n2_; have HB := n3_; clear n0_ n1_ n2_ n3_; (try clear hb); (try clear hb2); (try clear hk); (try clear hi); obtain ⟨Ao37, co37, eo37⟩ := Kd.N_slice HO205.out; subst eo37) | (go_at_call 22; (with_reducible refine (prog_Section.calls k _ _ y198 3 t208 _ ?side1 ?side2 A28.out).mono ?_); (case side1 => repeat (first | exact (Kd.N_reads' HO200.out).2.2 | (with_reducible refine Kd.C_alloc ?_ _) | (with_reducible refine Kd.C_drewN ?_ _) | (with_reducible refine Kd.C_drew ?_))); (case side2 => exact (Kd.N_reads' HO200.out).2.1); rintro e w38 ⟨rfl, hb⟩; have n0_ := Aside0.mk (Kd.N_below (by (with_reducible repeat (first | apply Kd.N_alloc | apply Kd.N_drewN | apply Kd.N_drew)); exact HO191.out) hb); have n1_ := Aside0.mk (Kd.N_below (by (with_reducible repeat (first | apply Kd.N_alloc | apply Kd.N_drewN | apply Kd.N_drew)); exact HO200.out) hb); have n2_ := Aside0.mk (Kd.N_below (by (with_reducible repeat (first | apply Kd.N_alloc | apply Kd.N_drewN | apply Kd.N_drew)); exact HO205.out) hb); have n3_ := Aside0.mk (below_step (by repeat (first | (with_reducible first | exact HB.out | apply below_alloc | apply pw_below_drewN | apply below_drew1) | exact HB.out)) hb); clear HO191; clear HO200; clear HO205; clear HB; have HO191 := n0_; have HO200 := n1_; have HO205 := n2_; have HB := n3_; clear n0_ n1_ n2_ n3_; (try clear hb); (try clear hb2); (try clear hk); (try clear hi)) | (go_at_call 22; (with_reducible refine (prog_Section.calls k _ _ y198 2 t209 _ ?side1 ?side2 A30.out).mono ?_); (case side1 => repeat (first | exact (Kd.N_reads' HO200.out).2.2 | (with_reducible refine Kd.C_alloc ?_ _) | (with_reducible refine Kd.C_drewN ?_ _) | (with_reducible refine Kd.C_drew ?_))); (case side2 => exact (Kd.N_reads' HO200.out).2.1); rintro e w39 ⟨rfl, hb⟩; have n0_ := Aside0.mk (Kd.N_below (by (with_reducible repeat (first | apply Kd.N_alloc | apply Kd.N_drewN | apply Kd.N_drew)); exact HO191.out) hb); have n1_ := Aside0.mk (Kd.N_below (by (with_reducible repeat (first | apply Kd.N_alloc | apply Kd.N_drewN | apply Kd.N_drew)); exact HO200.out) hb); have n2_ := Aside0.mk (Kd.N_below (by (with_reducible repeat (first | apply Kd.N_alloc | apply Kd.N_drewN | apply Kd.N_drew)); exact HO205.out) hb); have n3_ := Aside0.mk (below_step (by repeat (first | (with_reducible first | exact HB.out | apply below_alloc | apply pw_below_drewN | apply below_drew1) | exact HB.out)) hb); clear HO191; clear HO200; clear HO205; clear HB; have HO191 := n0_; have HO200 := n1_; have HO205 := n2_; have HB := n3_; clear n0_ n1_ n2_ n3_; (try clear hb); (try clear hb2); (try clear hk); (try clear hi)) | (go_at_call 15; (with_reducible refine (prog_Match.calls k _ _ y198 0 t210 _ ?side1 ?side2 A32.out).mono ?_); (case side1 => repeat (first | exact (Kd.N_reads' HO200.out).2.2 | (with_reducible refine Kd.C_alloc ?_ _) | (with_reducible refine Kd.C_drewN ?_ _) | (with_reducible refine Kd.C_drew ?_))); (case side2 => exact (Kd.N_reads' HO200.out).2.1); rintro e w40 ⟨rfl, hb⟩; have n0_ := Aside0.mk (Kd.N_below (by (with_reducible repeat (first | apply Kd.N_alloc | apply Kd.N_drewN | apply Kd.N_drew)); exact HO191.out) hb); have n1_ := Aside0.mk (Kd.N_below (by (with_reducible repeat (first | apply Kd.N_alloc | apply Kd.N_drewN | apply Kd.N_drew)); exact HO200.out) hb); have n2_ := Aside0.mk (Kd.N_below (by (with_reducible repeat (first | apply Kd.N_alloc | apply Kd.N_drewN | apply Kd.N_drew)); exact HO205.out) hb); have n3_ := Aside0.mk (below_step (by repeat (first | (with_reducible first | exact HB.out | apply below_alloc | apply pw_below_drewN | apply below_drew1) | exact HB.out)) hb); clear HO191; clear HO200; clear HO205; clear HB; have HO191 := n0_; have HO200 := n1_; have HO205 := n2_; have HB := n3_; clear n0_ n1_ n2_ n3_; (try clear hb); (try clear hb2); (try clear hk); (try clear hi)) | (go_at_call 15; (with_reducible refine (prog_Match.calls k _ _ y198 5 t211 _ ?side1 ?side2 A34.out).mono ?_); (case side1 => repeat (first | exact (Kd.N_reads' HO200.out).2.2 | (with_reducible refine Kd.C_alloc ?_ _) | (with_reducible refine Kd.C_drewN ?_ _) | (with_reducible refine Kd.C_drew ?_))); (case side2 => exact (Kd.N_reads' HO200.out).2.1); rintro e w41 ⟨rfl, hb⟩; have n0_ := Aside0.mk (Kd.N_below (by (with_reducible repeat (first | apply Kd.N_alloc | apply Kd.N_drewN | apply Kd.N_drew)); exact HO191.out) hb); have n1_ := Aside0.mk (Kd.N_below (by (with_reducible repeat (first | apply Kd.N_alloc | apply Kd.N_drewN | apply Kd.N_drew)); exact HO200.out) hb); have n2_ := Aside0.mk (Kd.N_below (by (with_reducible repeat (first | apply Kd.N_alloc | apply Kd.N_drewN | apply Kd.N_drew)); exact HO205.out) hb); have n3_ := Aside0.mk (below_step (by repeat (first | (with_reducible first | exact HB.out | apply below_alloc | apply pw_below_drewN | apply below_drew1) | exact HB.out)) hb); clear HO191; clear HO200; clear HO205; clear HB; have HO191 := n0_; have HO200 := n1_; have HO205 := n2_; have HB := n3_; clear n0_ n1_ n2_ n3_; (try clear hb); (try clear hb2); (try clear hk); (try clear hi)))
                        go_meet
                        case rel => exact ⟨_, ((t211 != 0)), (by first | rfl | (simp; done) | (simp [*]; done) | (simp [Int.tdiv_eq_ediv_of_nonneg]; done)), H', ⟨by first | omega | exact Nat.le_refl _⟩, ⟨by (with_reducible repeat (first | apply Kd.N_alloc | apply Kd.N_drewN | apply Kd.N_drew)); exact Kd.N_mono HO191.out (fun _ hk => hk.2)⟩, ⟨by (with_reducible repeat (first | apply Kd.N_alloc | apply Kd.N_drewN | apply Kd.N_drew)); exact HO205.out⟩, ⟨by repeat (first | (with_reducible first | exact HB.out | apply below_alloc | apply pw_below_drewN | apply below_drew1) | exact HB.out)⟩⟩
                      · rw [if_neg c33] at H
                        have c33b0 : (t210 == 5) = false := beq_eq_false_iff_ne.mpr c33
                        have c33b1 : (t210 != 5) = true := bne_iff_ne.mpr c33
                        have H' := Aside0.mk H
                        clear H
                        go_wp2_with (first | (go_at_call 17; (with_reducible refine (prog_Cost.calls k _ _ y198 t206 _ ?side1 ?side2 A23.out).mono ?_); (case side1 => repeat (first | exact (Kd.N_reads' HO200.out).2.2 | (with_reducible refine Kd.C_alloc ?_ _) | (with_reducible refine Kd.C_drewN ?_ _) | (with_reducible refine Kd.C_drew ?_))); (case side2 => exact (Kd.N_reads' HO200.out).2.1); rintro e w42 ⟨rfl, hb⟩; have n0_ := Aside0.mk (Kd.N_below (by (with_reducible repeat (first | apply Kd.N_alloc | apply Kd.N_drewN | apply Kd.N_drew)); exact HO191.out) hb); have n1_ := Aside0.mk (Kd.N_below (by (with_reducible repeat (first | apply Kd.N_alloc | apply Kd.N_drewN | apply Kd.N_drew)); exact HO200.out) hb); have n2_ := Aside0.mk (Kd.N_below (by (with_reducible repeat (first | apply Kd.N_alloc | apply Kd.N_drewN | apply Kd.N_drew)); exact HO205.out) hb); have n3_ := Aside0.mk (below_step (by repeat (first | (with_reducible first | exact HB.out | apply below_alloc | apply pw_below_drewN | apply below_drew1) | exact HB.out)) hb); clear HO191; clear HO200; clear HO205; clear HB; have HO191 := n0_; have HO200 := n1_; have HO205 := n2_; have HB := n3_; clear n0_ n1_ n2_ n3_; (try clear hb); (try clear hb2); (try clear hk); (try clear hi)) | (go_at_call 19; (with_reducible refine (prog_Steps.calls k _ _ y198 t207 _ ?side1 ?side2 A25.out).mono ?_); (case side1 => repeat (first | exact (Kd.N_reads' HO200.out).2.2 | (with_reducible refine Kd.C_alloc ?_ _) | (with_reducible refine Kd.C_drewN ?_ _) | (with_reducible refine Kd.C_drew ?_))); (case side2 => exact (Kd.N_reads' HO200.out).2.1); rintro e w43 ⟨rfl, hb⟩; have n0_ := Aside0.mk (Kd.N_below (by (with_reducible repeat (first | apply Kd.N_alloc | apply Kd.N_drewN | apply Kd.N_drew)); exact HO191.out) hb); have n1_ := Aside0.mk (Kd.N_below (by (with_reducible repeat (first | apply Kd.N_alloc | apply Kd.N_drewN | apply Kd.N_drew)); exact HO200.out) hb); have n2_ := Aside0.mk (Kd.N_below (by (with_reducible repeat (first | apply Kd.N_alloc | apply Kd.N_drewN | apply Kd.N_drew)); exact HO205.out) hb); have n3_ := Aside0.mk (below_step (by repeat (first | (with_reducible first | exact HB.out | apply below_alloc | apply pw_below_drewN | apply below_drew1) | exact HB.out)) hb); clear HO191; clear HO200; clear HO205; clear HB; have HO191 := n0_; have HO200 := n1_; have HO205 := n2_; have HB := n3_; clear n0_ n1_ n2_ n3_; (try clear hb); (try clear hb2); (try clear hk); (try clear hi); obtain ⟨Ao44, co44, eo44⟩ := Kd.N_slice HO205.out; subst eo44) | (go_at_call 22; (with_reducible refine (prog_Section.calls k _ _ y198 3 t208 _ ?side1 ?side2 A28.out).mono ?_); (case side1 => repeat (first | exact (Kd.N_reads' HO200.out).2.2 | (with_reducible refine Kd.C_alloc ?_ _) | (with_reducible refine Kd.C_drewN ?_ _) | (with_reducible refine Kd.C_drew ?_))); (case side2 => exact (Kd.N_reads' HO200.out).2.1); rintro e w45 ⟨rfl, hb⟩; have n0_ := Aside0.mk (Kd.N_below (by (with_reducible repeat (first | apply Kd.N_alloc | apply Kd.N_drewN | apply Kd.N_drew)); exact HO191.out) hb); have n1_ := Aside0.mk (Kd.N_below (by (with_reducible repeat (first | apply Kd.N_alloc | apply Kd.N_drewN | apply Kd.N_drew)); exact HO200.out) hb); have n2_ := Aside0.mk (Kd.N_below (by (with_reducible repeat (first | apply Kd.N_alloc | apply Kd.N_drewN | apply Kd.N_drew)); exact HO205.out) hb); have n3_ := Aside0.mk (below_step (by repeat (first | (with_reducible first | exact HB.out | apply below_alloc | apply pw_below_drewN | apply below_drew1) | exact HB.out)) hb); clear HO191; clear HO200; clear HO205; clear HB; have HO191 := n0_; have HO200 := n1_; have HO205 := n2_; have HB := n3_; clear n0_ n1_ n2_ n3_; (try clear hb); (try clear hb2); (try clear hk); (try clear hi)) | (go_at_call 22; (with_reducible refine (prog_Section.calls k _ _ y198 2 t209 _ ?side1 ?side2 A30.out).mono ?_); (case side1 => repeat (first | exact (Kd.N_reads' HO200.out).2.2 | (with_reducible refine Kd.C_alloc ?_ _) | (with_reducible refine Kd.C_drewN ?_ _) | (with_reducible refine Kd.C_drew ?_))); (case side2 => exact (Kd.N_reads' HO200.out).2.1); rintro e w46 ⟨rfl, hb⟩; have n0_ := Aside0.mk (Kd.N_below (by (with_reducible repeat (first | apply Kd.N_alloc | apply Kd.N_drewN | apply Kd.N_drew)); exact HO191.out) hb); have n1_ := Aside0.mk (Kd.N_below (by (with_reducible repeat (first | apply Kd.N_alloc | apply Kd.N_drewN | apply Kd.N_drew)); exact HO200.out) hb); have n2_ := Aside0.mk (Kd.N_below (by (with_reducible repeat (first | apply Kd.N_alloc | apply Kd.N_drewN | apply Kd.N_drew)); exact HO205.out) hb); have n3_ := Aside0.mk (below_step (by repeat (first | (with_reducible first | exact HB.out | apply below_alloc | apply pw_below_drewN | apply below_drew1) | exact HB.out)) hb); clear HO191; clear HO200; clear HO205; clear HB; have HO191 := n0_; have HO200 := n1_; have HO205 := n2_; have HB := n3_; clear n0_ n1_ n2_ n3_; (try clear hb); (try clear hb2); (try clear hk); (try clear hi)) | (go_at_call 15; (with_reducible refine (prog_Match.calls k _ _ y198 0 t210 _ ?side1 ?side2 A32.out).mono ?_); (case side1 => repeat (first | exact (Kd.N_reads' HO200.out).2.2 | (with_reducible refine Kd.C_alloc ?_ _) | (with_reducible refine Kd.C_drewN ?_ _) | (with_reducible refine Kd.C_drew ?_))); (case side2 => exact (Kd.N_reads' HO200.out).2.1); rintro e w47 ⟨rfl, hb⟩; have n0_ := Aside0.mk (Kd.N_below (by (with_reducible repeat (first | apply Kd.N_alloc | apply Kd.N_drewN | apply Kd.N_drew)); exact HO191.out) hb); have n1_ := Aside0.mk (Kd.N_below (by (with_reducible repeat (first | apply Kd.N_alloc | apply Kd.N_drewN | apply Kd.N_drew)); exact HO200.out) hb); have n2_ := Aside0.mk (Kd.N_below (by (with_reducible repeat (first | apply Kd.N_alloc | apply Kd.N_drewN | apply Kd.N_drew)); exact HO205.out) hb); have n3_ := Aside0.mk (below_step (by repeat (first | (with_reducible first | exact HB.out | apply below_alloc | apply pw_below_drewN | apply below_drew1) | exact HB.out)) hb); clear HO191; clear HO200; clear HO205; clear HB; have HO191 := n0_; have HO200 := n1_; have HO205 := n2_; have HB := n3_; clear n0_ n1_ n2_ n3_; (try clear hb); (try clear hb2); (try clear hk); (try clear hi)))
                        go_meet
                        case rel => exact ⟨_, (true), (by first | rfl | (simp; done) | (simp [*]; done) | (simp [Int.tdiv_eq_ediv_of_nonneg]; done)), H', ⟨by first | omega | exact Nat.le_refl _⟩, ⟨by (with_reducible repeat (first | apply Kd.N_alloc | apply Kd.N_drewN | apply Kd.N_drew)); exact Kd.N_mono HO191.out (fun _ hk => hk.2)⟩, ⟨by (with_reducible repeat (first | apply Kd.N_alloc | apply Kd.N_drewN | apply Kd.N_drew)); exact HO205.out⟩, ⟨by repeat (first | (with_reducible first | exact HB.out | apply below_alloc | apply pw_below_drewN | apply below_drew1) | exact HB.out)⟩⟩
                    · rw [if_neg c31] at H
                      have c31b0 : (t209 == 0) = false := beq_eq_false_iff_ne.mpr c31
                      have c31b1 : (t209 != 0) = true := bne_iff_ne.mpr c31
                      have H' := Aside0.mk H
                      clear H
                      go_wp2_with (first | (go_at_call 17; (with_reducible refine (prog_Cost.calls k _ _ y198 t206 _ ?side1 ?side2 A23.out).mono ?_); (case side1 => repeat (first | exact (Kd.N_reads' HO200.out).2.2 | (with_reducible refine Kd.C_alloc ?_ _) | (with_reducible refine Kd.C_drewN ?_ _) | (with_reducible refine Kd.C_drew ?_))); (case side2 => exact (Kd.N_reads' HO200.out).2.1); rintro e w48 ⟨rfl, hb⟩; have n0_ := Aside0.mk (Kd.N_below (by (with_reducible repeat (first | apply Kd.N_alloc | apply Kd.N_drewN | apply Kd.N_drew)); exact HO191.out) hb); have n1_ := Aside0.mk (Kd.N_below (by (with_reducible repeat (first | apply Kd.N_alloc | apply Kd.N_drewN | apply Kd.N_drew)); exact HO200.out) hb); have n2_ := Aside0.mk (Kd.N_below (by (with_reducible repeat (first | apply Kd.N_alloc | apply Kd.N_drewN | apply Kd.N_drew)); exact HO205.out) hb); have n3_ := Aside0.mk (below_step (by repeat (first | (with_reducible first | exact HB.out | apply below_alloc | apply pw_below_drewN | apply below_drew1) | exact HB.out)) hb); clear HO191; clear HO200; clear HO205; clear HB; have HO191 := n0_; have HO200 := n1_; have HO205 := n2_; have HB := n3_; clear n0_ n1_ n2_ n3_; (try clear hb); (try clear hb2); (try clear hk); (try clear hi)) | (go_at_call 19; (with_reducible refine (prog_Steps.calls k _ _ y198 t207 _ ?side1 ?side2 A25.out).mono ?_); (case side1 => repeat (first | exact (Kd.N_reads' HO200.out).2.2 | (with_reducible refine Kd.C_alloc ?_ _) | (with_reducible refine Kd.C_drewN ?_ _) | (with_reducible refine Kd.C_drew ?_))); (case side2 => exact (Kd.N_reads' HO200.out).2.1); rintro e w49 ⟨rfl, hb⟩; have n0_ := Aside0.mk (Kd.N_below (by (with_reducible repeat (first | apply Kd.N_alloc | apply Kd.N_drewN | apply Kd.N_drew)); exact HO191.out) hb); have n1_ := Aside0.mk (Kd.N_below (by (with_reducible repeat (first | apply Kd.N_alloc | apply Kd.N_drewN | apply Kd.N_drew)); exact HO200.out) hb); have n2_ := Aside0.mk (Kd.N_below (by (with_reducible repeat (first | apply Kd.N_alloc | apply Kd.N_drewN | apply Kd.N_drew)); exact HO205.out) hb); have n3_ := Aside0.mk (below_step (by repeat (first | (with_reducible first | exact HB.out | apply below_alloc | apply pw_below_drewN | apply below_drew1) | exact HB.out)) hb); clear HO191; clear HO200; clear HO205; clear HB; have HO191 := n0_; have HO200 := n1_; have HO205 := n2_; have HB := n3_; clear n0_ n1_ n2_ n3_; (try clear hb); (try clear hb2); (try clear hk); (try clear hi); obtain ⟨Ao50, co50, eo50⟩ := Kd.N_slice HO205.out; subst eo50) | (go_at_call 22; (with_reducible refine (prog_Section.calls k _ _ y198 3 t208 _ ?side1 ?side2 A28.out).mono ?_); (case side1 => repeat (first | exact (Kd.N_reads' HO200.out).2.2 | (with_reducible refine Kd.C_alloc ?_ _) | (with_reducible refine Kd.C_drewN ?_ _) | (with_reducible refine Kd.C_drew ?_))); (case side2 => exact (Kd.N_reads' HO200.out).2.1); rintro e w51 ⟨rfl, hb⟩; have n0_ := Aside0.mk (Kd.N_below (by (with_reducible repeat (first | apply Kd.N_alloc | apply Kd.N_drewN | apply Kd.N_drew)); exact HO191.out) hb); have n1_ := Aside0.mk (Kd.N_below (by (with_reducible repeat (first | apply Kd.N_alloc | apply Kd.N_drewN | apply Kd.N_drew)); exact HO200.out) hb); have n2_ := Aside0.mk (Kd.N_below (by (with_reducible repeat (first | apply Kd.N_alloc | apply Kd.N_drewN | apply Kd.N_drew)); exact HO205.out) hb); have n3_ := Aside0.mk (below_step (by repeat (first | (with_reducible first | exact HB.out | apply below_alloc | apply pw_below_drewN | apply below_drew1) | exact HB.out)) hb); clear HO191; clear HO200; clear HO205; clear HB; have HO191 := n0_; have HO200 := n1_; have HO205 := n2_; have HB := n3_; clear n0_ n1_ n2_ n3_; (try clear hb); (try clear hb2); (try clear hk); (try clear hi)) | (go_at_call 22; (with_reducible refine (prog_Section.calls k _ _ y198 2 t209 _ ?side1 ?side2 A30.out).mono ?_); (case side1 => repeat (first | exact (Kd.N_reads' HO200.out).2.2 | (with_reducible refine Kd.C_alloc ?_ _) | (with_reducible refine Kd.C_drewN ?_ _) | (with_reducible refine Kd.C_drew ?_))); (case side2 => exact (Kd.N_reads' HO200.out).2.1); rintro e w52 ⟨rfl, hb⟩; have n0_ := Aside0.mk (Kd.N_below (by (with_reducible repeat (first | apply Kd.N_alloc | apply Kd.N_drewN | apply Kd.N_drew)); exact HO191.out) hb); have n1_ := Aside0.mk (Kd.N_below (by (with_reducible repeat (first | apply Kd.N_alloc | apply Kd.N_drewN | apply Kd.N_drew)); exact HO200.out) hb); have n2_ := Aside0.mk (Kd.N_below (by (with_reducible repeat (first | apply Kd.N_alloc | apply Kd.N_drewN | apply Kd.N_drew)); exact HO205.out) hb); have n3_ := Aside0.mk (below_step (by repeat (first | (with_reducible first | exact HB.out | apply below_alloc | apply pw_below_drewN | apply below_drew1) | exact HB.out)) hb); clear HO191; clear HO200; clear HO205; clear HB; have HO191 := n0_; have HO200 := n1_; have HO205 := n2_; have HB := n3_; clear n0_ n1_ n2_ n3_; (try clear hb); (try clear hb2); (try clear hk); (try clear hi)))
                      go_meet
                      case rel => exact ⟨_, (true), (by first | rfl | (simp; done) | (simp [*]; done) | (simp [Int.tdiv_eq_ediv_of_nonneg]; done)), H', ⟨by first | omega | exact Nat.le_refl _⟩, ⟨by (with_reducible repeat (first | apply Kd.N_alloc | apply Kd.N_drewN | apply Kd.N_drew)); exact Kd.N_mono HO191.out (fun _ hk => hk.2)⟩, ⟨by (with_reducible repeat (first | apply Kd.N_alloc | apply Kd.N_drewN | apply Kd.N_drew)); exact HO205.out⟩, ⟨by repeat (first | (with_reducible first | exact HB.out | apply below_alloc | apply pw_below_drewN | apply below_drew1) | exact HB.out)⟩⟩
                  · rw [if_neg c29] at H
                    have c29b0 : (t208 == (wrap64 (1 + (wrap64 (a2))))) = false := beq_eq_false_iff_ne.mpr c29
                    have c29b1 : (t208 != (wrap64 (1 + (wrap64 (a2))))) = true := bne_iff_ne.mpr c29
                    have H' := Aside0.mk H
                    clear H
                    go_wp2_with (first | (go_at_call 17; (with_reducible refine (prog_Cost.calls k _ _ y198 t206 _ ?side1 ?side2 A23.out).mono ?_); (case side1 => repeat (first | exact (Kd.N_reads' HO200.out).2.2 | (with_reducible refine Kd.C_alloc ?_ _) | (with_reducible refine Kd.C_drewN ?_ _) | (with_reducible refine Kd.C_drew ?_))); (case side2 => exact (Kd.N_reads' HO200.out).2.1); rintro e w53 ⟨rfl, hb⟩; have n0_ := Aside0.mk (Kd.N_below (by (with_reducible repeat (first | apply Kd.N_alloc | apply Kd.N_drewN | apply Kd.N_drew)); exact HO191.out) hb); have n1_ := Aside0.mk (Kd.N_below (by (with_reducible repeat (first | apply Kd.N_alloc | apply Kd.N_drewN | apply Kd.N_drew)); exact HO200.out) hb); have n2_ := Aside0.mk (Kd.N_below (by (with_reducible repeat (first | apply Kd.N_alloc | apply Kd.N_drewN | apply Kd.N_drew)); exact HO205.out) hb); have n3_ := Aside0.mk (below_step (by repeat (first | (with_reducible first | exact HB.out | apply below_alloc | apply pw_below_drewN | apply below_drew1) | exact HB.out)) hb); clear HO191; clear HO200; clear HO205; clear HB; have HO191 := n0_; have HO200 := n1_; have HO205 := n2_; have HB := n3_; clear n0_ n1_ n2_ n3_; (try clear hb); (try clear hb2); (try clear hk); (try clear hi)) | (go_at_call 19; (with_reducible refine (prog_Steps.calls k _ _ y198 t207 _ ?side1 ?side2 A25.out).mono ?_); (case side1 => repeat (first | exact (Kd.N_reads' HO200.out).2.2 | (with_reducible refine Kd.C_alloc ?_ _) | (with_reducible refine Kd.C_drewN ?_ _) | (with_reducible refine Kd.C_drew ?_))); (case side2 => exact (Kd.N_reads' HO200.out).2.1); rintro e w54 ⟨rfl, hb⟩; have n0_ := Aside0.mk (Kd.N_below (by (with_reducible repeat (first | apply Kd.N_alloc | apply Kd.N_drewN | apply Kd.N_drew)); exact HO191.out) hb); have n1_ := Aside0.mk (Kd.N_below (by (with_reducible repeat (first | apply Kd.N_alloc | apply Kd.N_drewN | apply Kd.N_drew)); exact HO200.out) hb); have n2_ := Aside0.mk (Kd.N_below (by (with_reducible repeat (first | apply Kd.N_alloc | apply Kd.N_drewN | apply Kd.N_drew)); exact HO205.out) hb); have n3_ := Aside0.mk (below_step (by repeat (first | (with_reducible first | exact HB.out | apply below_alloc | apply pw_below_drewN | apply below_drew1) | exact HB.out)) hb); clear HO191; clear HO200; clear HO205; clear HB; have HO191 := n0_; have HO200 := n1_; have HO205 := n2_; have HB := n3_; clear n0_ n1_ n2_ n3_; (try clear hb); (try clear hb2); (try clear hk); (try clear hi); obtain ⟨Ao55, co55, eo55⟩ := Kd.N_slice HO205.out; subst eo55) | (go_at_call 22; (with_reducible refine (prog_Section.calls k _ _ y198 3 t208 _ ?side1 ?side2 A28.out).mono ?_); (case side1 => repeat (first | exact (Kd.N_reads' HO200.out).2.2 | (with_reducible refine Kd.C_alloc ?_ _) | (with_reducible refine Kd.C_drewN ?_ _) | (with_reducible refine Kd.C_drew ?_))); (case side2 => exact (Kd.N_reads' HO200.out).2.1); rintro e w56 ⟨rfl, hb⟩; have n0_ := Aside0.mk (Kd.N_below (by (with_reducible repeat (first | apply Kd.N_alloc | apply Kd.N_drewN | apply Kd.N_drew)); exact HO191.out) hb); have n1_ := Aside0.mk (Kd.N_below (by (with_reducible repeat (first | apply Kd.N_alloc | apply Kd.N_drewN | apply Kd.N_drew)); exact HO200.out) hb); have n2_ := Aside0.mk (Kd.N_below (by (with_reducible repeat (first | apply Kd.N_alloc | apply Kd.N_drewN | apply Kd.N_drew)); exact HO205.out) hb); have n3_ := Aside0.mk (below_step (by repeat (first | (with_reducible first | exact HB.out | apply below_alloc | apply pw_below_drewN | apply below_drew1) | exact HB.out)) hb); clear HO191; clear HO200; clear HO205; clear HB; have HO191 := n0_; have HO200 := n1_; have HO205 := n2_; have HB := n3_; clear n0_ n1_ n2_ n3_; (try clear hb); (try clear hb2); (try clear hk); (try clear hi)))
                    go_meet
                    case rel => exact ⟨_, (true), (by first | rfl | (simp; done) | (simp [*]; done) | (simp [Int.tdiv_eq_ediv_of_nonneg]; done)), H', ⟨by first | omega | exact Nat.le_refl _⟩, ⟨by (with_reducible repeat (first | apply Kd.N_alloc | apply Kd.N_drewN | apply Kd.N_drew)); exact Kd.N_mono HO191.out (fun _ hk => hk.2)⟩, ⟨by (with_reducible repeat (first | apply Kd.N_alloc | apply Kd.N_drewN | apply Kd.N_drew)); exact HO205.out⟩, ⟨by repeat (first | (with_reducible first | exact HB.out | apply below_alloc | apply pw_below_drewN | apply below_drew1) | exact HB.out)⟩⟩
                · rw [if_neg c27] at H
                  have c27b0 : ((t203.length : Int) == (wrap64 (4 * (wrap64 (1 + (wrap64 (Int.tmod a0 32))))))) = false := beq_eq_false_iff_ne.mpr c27
                  have c27b1 : ((t203.length : Int) != (wrap64 (4 * (wrap64 (1 + (wrap64 (Int.tmod a0 32))))))) = true := bne_iff_ne.mpr c27
                  have H' := Aside0.mk H
                  clear H
                  go_wp2_with (first | (go_at_call 17; (with_reducible refine (prog_Cost.calls k _ _ y198 t206 _ ?side1 ?side2 A23.out).mono ?_); (case side1 => repeat (first | exact (Kd.N_reads' HO200.out).2.2 | (with_reducible refine Kd.C_alloc ?_ _) | (with_reducible refine Kd.C_drewN ?_ _) | (with_reducible refine Kd.C_drew ?_))); (case side2 => exact (Kd.N_reads' HO200.out).2.1); rintro e w57 ⟨rfl, hb⟩; have n0_ := Aside0.mk (Kd.N_below (by (with_reducible repeat (first | apply Kd.N_alloc | apply Kd.N_drewN | apply Kd.N_drew)); exact HO191.out) hb); have n1_ := Aside0.mk (Kd.N_below (by (with_reducible repeat (first | apply Kd.N_alloc | apply Kd.N_drewN | apply Kd.N_drew)); exact HO200.out) hb); have n2_ := Aside0.mk (Kd.N_below (by (with_reducible repeat (first | apply Kd.N_alloc | apply Kd.N_drewN | apply Kd.N_drew)); exact HO205.out) hb); have n3_ := Aside0.mk (below_step (by repeat (first | (with_reducible first | exact HB.out | apply below_alloc | apply pw_below_drewN | apply below_drew1) | exact HB.out)) hb); clear HO191; clear HO200; clear HO205; clear HB; have HO191 := n0_; have HO200 := n1_; have HO205 := n2_; have HB := n3_; clear n0_ n1_ n2_ n3_; (try clear hb); (try clear hb2); (try clear hk); (try clear hi)) | (go_at_call 19; (with_reducible refine (prog_Steps.calls k _ _ y198 t207 _ ?side1 ?side2 A25.out).mono ?_); (case side1 => repeat (first | exact (Kd.N_reads' HO200.out).2.2 | (with_reducible refine Kd.C_alloc ?_ _) | (with_reducible refine Kd.C_drewN ?_ _) | (with_reducible refine Kd.C_drew ?_))); (case side2 => exact (Kd.N_reads' HO200.out).2.1); rintro e w58 ⟨rfl, hb⟩; have n0_ := Aside0.mk (Kd.N_below (by (with_reducible repeat (first | apply Kd.N_alloc | apply Kd.N_drewN | apply Kd.N_drew)); exact HO191.out) hb); have n1_ := Aside0.mk (Kd.N_below (by (with_reducible repeat (first | apply Kd.N_alloc | apply Kd.N_drewN | apply Kd.N_drew)); exact HO200.out) hb); have n2_ := Aside0.mk (Kd.N_below (by (with_reducible repeat (first | apply Kd.N_alloc | apply Kd.N_drewN | apply Kd.N_drew)); exact HO205.out) hb); have n3_ := Aside0.mk (below_step (by repeat (first | (with_reducible first | exact HB.out | apply below_alloc | apply pw_below_drewN | apply below_drew1) | exact HB.out)) hb); clear HO191; clear HO200; clear HO205; clear HB; have HO191 := n0_; have HO200 := n1_; have HO205 := n2_; have HB := n3_; clear n0_ n1_ n2_ n3_; (try clear hb); (try clear hb2); (try clear hk); (try clear hi); obtain ⟨Ao59, co59, eo59⟩ := Kd.N_slice HO205.out; subst eo59))
                  go_meet
                  case rel => exact ⟨_, (true), (by first | rfl | (simp; done) | (simp [*]; done) | (simp [Int.tdiv_eq_ediv_of_nonneg]; done)), H', ⟨by first | omega | exact Nat.le_refl _⟩, ⟨by (with_reducible repeat (first | apply Kd.N_alloc | apply Kd.N_drewN | apply Kd.N_drew)); exact Kd.N_mono HO191.out (fun _ hk => hk.2)⟩, ⟨by (with_reducible repeat (first | apply Kd.N_alloc | apply Kd.N_drewN | apply Kd.N_drew)); exact HO205.out⟩, ⟨by repeat (first | (with_reducible first | exact HB.out | apply below_alloc | apply pw_below_drewN | apply below_drew1) | exact HB.out)⟩⟩
              · rw [if_neg c26] at H
                have c26b0 : (t207 == (wrap64 (4 * (wrap64 (1 + (wrap64 (Int.tmod a0 32))))))) = false := beq_eq_false_iff_ne.mpr c26
                have c26b1 : (t207 != (wrap64 (4 * (wrap64 (1 + (wrap64 (Int.tmod a0 32))))))) = true := bne_iff_ne.mpr c26
                have H' := Aside0.mk H
                clear H
                go_wp2_with (first | (go_at_call 17; (with_reducible refine (prog_Cost.calls k _ _ y198 t206 _ ?side1 ?side2 A23.out).mono ?_); (case side1 => repeat (first | exact (Kd.N_reads' HO200.out).2.2 | (with_reducible refine Kd.C_alloc ?_ _) | (with_reducible refine Kd.C_drewN ?_ _) | (with_reducible refine Kd.C_drew ?_))); (case side2 => exact (Kd.N_reads' HO200.out).2.1); rintro e w60 ⟨rfl, hb⟩; have n0_ := Aside0.mk (Kd.N_below (by (with_reducible repeat (first | apply Kd.N_alloc | apply Kd.N_drewN | apply Kd.N_drew)); exact HO191.out) hb); have n1_ := Aside0.mk (Kd.N_below (by (with_reducible repeat (first | apply Kd.N_alloc | apply Kd.N_drewN | apply Kd.N_drew)); exact HO200.out) hb); have n2_ := Aside0.mk (Kd.N_below (by (with_reducible repeat (first | apply Kd.N_alloc | apply Kd.N_drewN | apply Kd.N_drew)); exact HO205.out) hb); have n3_ := Aside0.mk (below_step (by repeat (first | (with_reducible first | exact HB.out | apply below_alloc | apply pw_below_drewN | apply below_drew1) | exact HB.out)) hb); clear HO191; clear HO200; clear HO205; clear HB; have HO191 := n0_; have HO200 := n1_; have HO205 := n2_; have HB := n3_; clear n0_ n1_ n2_ n3_; (try clear hb); (try clear hb2); (try clear hk); (try clear hi)) | (go_at_call 19; (with_reducible refine (prog_Steps.calls k _ _ y198 t207 _ ?side1 ?side2 A25.out).mono ?_); (case side1 => repeat (first | exact (Kd.N_reads' HO200.out).2.2 | (with_reducible refine Kd.C_alloc ?_ _) | (with_reducible refine Kd.C_drewN ?_ _) | (with_reducible refine Kd.C_drew ?_))); (case side2 => exact (Kd.N_reads' HO200.out).2.1); rintro e w61 ⟨rfl, hb⟩; have n0_ := Aside0.mk (Kd.N_below (by (with_reducible repeat (first | apply Kd.N_alloc | apply Kd.N_drewN | apply Kd.N_drew)); exact HO191.out) hb); have n1_ := Aside0.mk (Kd.N_below (by (with_reducible repeat (first | apply Kd.N_alloc | apply Kd.N_drewN | apply Kd.N_drew)); exact HO200.out) hb); have n2_ := Aside0.mk (Kd.N_below (by (with_reducible repeat (first | apply Kd.N_alloc | apply Kd.N_drewN | apply Kd.N_drew)); exact HO205.out) hb); have n3_ := Aside0.mk (below_step (by repeat (first | (with_reducible first | exact HB.out | apply below_alloc | apply pw_below_drewN | apply below_drew1) | exact HB.out)) hb); clear HO191; clear HO200; clear HO205; clear HB; have HO191 := n0_; have HO200 := n1_; have HO205 := n2_; have HB := n3_; clear n0_ n1_ n2_ n3_; (try clear hb); (try clear hb2); (try clear hk); (try clear hi)))
                go_meet
                case rel => exact ⟨_, (true), (by first | rfl | (simp; done) | (simp [*]; done) | (simp [Int.tdiv_eq_ediv_of_nonneg]; done)), H', ⟨by first | omega | exact Nat.le_refl _⟩, ⟨by (with_reducible repeat (first | apply Kd.N_alloc | apply Kd.N_drewN | apply Kd.N_drew)); exact Kd.N_mono HO191.out (fun _ hk => hk.2)⟩, ⟨by (with_reducible repeat (first | apply Kd.N_alloc | apply Kd.N_drewN | apply Kd.N_drew)); exact HO205.out⟩, ⟨by repeat (first | (with_reducible first | exact HB.out | apply below_alloc | apply pw_below_drewN | apply below_drew1) | exact HB.out)⟩⟩
            · rw [if_neg c24] at H
              have c24b0 : (t206 == (wrap64 ((wrap64 (1 + (wrap64 (Int.tmod a0 32)))) * (wrap64 ((wrap64 (1 + (wrap64 (a1)))) + (wrap64 (1 + (wrap64 (a2))))))))) = false := beq_eq_false_iff_ne.mpr c24
              have c24b1 : (t206 != (wrap64 ((wrap64 (1 + (wrap64 (Int.tmod a0 32)))) * (wrap64 ((wrap64 (1 + (wrap64 (a1)))) + (wrap64 (1 + (wrap64 (a2))))))))) = true := bne_iff_ne.mpr c24
              have H' := Aside0.mk H
              clear H
              go_wp2_with (first | (go_at_call 17; (with_reducible refine (prog_Cost.calls k _ _ y198 t206 _ ?side1 ?side2 A23.out).mono ?_); (case side1 => repeat (first | exact (Kd.N_reads' HO200.out).2.2 | (with_reducible refine Kd.C_alloc ?_ _) | (with_reducible refine Kd.C_drewN ?_ _) | (with_reducible refine Kd.C_drew ?_))); (case side2 => exact (Kd.N_reads' HO200.out).2.1); rintro e w62 ⟨rfl, hb⟩; have n0_ := Aside0.mk (Kd.N_below (by (with_reducible repeat (first | apply Kd.N_alloc | apply Kd.N_drewN | apply Kd.N_drew)); exact HO191.out) hb); have n1_ := Aside0.mk (Kd.N_below (by (with_reducible repeat (first | apply Kd.N_alloc | apply Kd.N_drewN | apply Kd.N_drew)); exact HO200.out) hb); have n2_ := Aside0.mk (Kd.N_below (by (with_reducible repeat (first | apply Kd.N_alloc | apply Kd.N_drewN | apply Kd.N_drew)); exact HO205.out) hb); have n3_ := Aside0.mk (below_step (by repeat (first | (with_reducible first | exact HB.out | apply below_alloc | apply pw_below_drewN | apply below_drew1) | exact HB.out)) hb); clear HO191; clear HO200; clear HO205; clear HB; have HO191 := n0_; have HO200 := n1_; have HO205 := n2_; have HB := n3_; clear n0_ n1_ n2_ n3_; (try clear hb); (try clear hb2); (try clear hk); (try clear hi)))
              go_meet
              case rel => exact ⟨_, (true), (by first | rfl | (simp; done) | (simp [*]; done) | (simp [Int.tdiv_eq_ediv_of_nonneg]; done)), H', ⟨by first | omega | exact Nat.le_refl _⟩, ⟨by (with_reducible repeat (first | apply Kd.N_alloc | apply Kd.N_drewN | apply Kd.N_drew)); exact Kd.N_mono HO191.out (fun _ hk => hk.2)⟩, ⟨by (with_reducible repeat (first | apply Kd.N_alloc | apply Kd.N_drewN | apply Kd.N_drew)); exact HO205.out⟩, ⟨by repeat (first | (with_reducible first | exact HB.out | apply below_alloc | apply pw_below_drewN | apply below_drew1) | exact HB.out)⟩⟩
          · rw [if_neg c22] at H
            have c22b0 : (t202 == 0) = false := beq_eq_false_iff_ne.mpr c22
            have c22b1 : (t202 != 0) = true := bne_iff_ne.mpr c22
            (first | rw [c22b0] | (simp only [i64_w, i32_w]; rw [c22b0]) | skip)
            have H' := Aside0.mk H
            clear H
            go_wp2
            go_meet
            case rel => exact ⟨_, (true), (by first | rfl | (simp; done) | (simp [*]; done) | (simp [Int.tdiv_eq_ediv_of_nonneg]; done)), H', ⟨by first | omega | exact Nat.le_refl _⟩, ⟨by (with_reducible repeat (first | apply Kd.N_alloc | apply Kd.N_drewN | apply Kd.N_drew)); exact Kd.N_mono HO191.out (fun _ hk => hk.2)⟩, ⟨by (with_reducible repeat (first | apply Kd.N_alloc | apply Kd.N_drewN | apply Kd.N_drew)); exact HO205.out⟩, ⟨by repeat (first | (with_reducible first | exact HB.out | apply below_alloc | apply pw_below_drewN | apply below_drew1) | exact HB.out)⟩⟩
        case rest =>
          clear HC10
          try clear c1
          try clear c2
          try clear p2
          try clear c3
          try clear c5
          try clear c6
          try clear p6
          try clear c7
          try clear c8
          try clear c9
          try clear c12
          try clear c22
          try clear c22b0
          try clear c22b1
          try clear c24
          try clear c24b0
          try clear c24b1
          try clear c26
          try clear c26b0
          try clear c26b1
          try clear c27
          try clear c27b0
          try clear c27b1
          try clear c29
          try clear c29b0
          try clear c29b1
          try clear c31
          try clear c31b0
          try clear c31b1
          try clear c33
          try clear c33b0
          try clear c33b1
          obtain ⟨kq, x96_9, rfl, HA, HJ9, HO_10, HO_14, HB⟩ := hcut
          cases kq with
          | zero => exact absurd HA.out (by simp [watchbilllaw6_ProgTwice.j0])
          | succ kj9 =>
            have H := HA.out
            clear HA
            simp only [watchbilllaw6_ProgTwice.j0] at H
            by_cases c63 : x96_9 = true
            · subst c63
              have H1 : (some false) = some r := by rw [if_pos rfl] at H; exact H
              clear H
              have H := H1
              clear H1
              obtain rfl := Option.some.inj H
              go_wp2
              go_ret
              exact ⟨by first | rfl | (simp [errW_none, errW_some] <;> rfl) | (simp [*, errW_none, errW_some] <;> rfl), by repeat (first | (with_reducible first | exact HB.out | apply below_alloc | apply pw_below_drewN | apply below_drew1) | exact HB.out)⟩
            · replace c63 := Bool.eq_false_iff.mpr c63
              subst c63
              have H1 : (watchbilllaw6_ProgTwice.l0 kj9 y189 t203 0) = some r := by rw [if_neg (show ¬ (false = true) by decide)] at H; exact H
              clear H
              have H := H1
              clear H1
              have H' := Aside0.mk H
              clear H
              go_wp2
              go_loopg [15] kj9 (fun kq v15 w' => ∃ (x15_2 : Int), v15 = .int .i64 x15_2 ∧ Aside0 (watchbilllaw6_ProgTwice.l0 kq y189 t203 x15_2 = some r) ∧ Aside0 (kq ≤ kj9) ∧ Aside0 (Kd.N k52 52 w' w.heap.size (fun k_ => some k_ ≠ (v204 : Value).ownBlock) (.slice Ao17 y189.length co17) y189) ∧ Aside0 (Kd.N k52 52 w' w.heap.size (fun _ => True) v204 t203) ∧ Aside0 (Below w.heap.size w w'))
              case atStart => exact ⟨(0), (by first | rfl | (simp; done) | (simp [*]; done) | (simp [Int.tdiv_eq_ediv_of_nonneg]; done)), H', ⟨Nat.le_refl _⟩, ⟨by (with_reducible repeat (first | apply Kd.N_alloc | apply Kd.N_drewN | apply Kd.N_drew)); exact HO_10.out⟩, ⟨by (with_reducible repeat (first | apply Kd.N_alloc | apply Kd.N_drewN | apply Kd.N_drew)); exact HO_14.out⟩, ⟨by repeat (first | (with_reducible first | exact HB.out | apply below_alloc | apply pw_below_drewN | apply below_drew1) | exact HB.out)⟩⟩
              case round =>
                clear H'
                try clear c1
                try clear c2
                try clear p2
                try clear c3
                try clear c5
                try clear c6
                try clear p6
                try clear c7
                try clear c8
                try clear c9
                try clear c12
                try clear c22
                try clear c22b0
                try clear c22b1
                try clear c24
                try clear c24b0
                try clear c24b1
                try clear c26
                try clear c26b0
                try clear c26b1
                try clear c27
                try clear c27b0
                try clear c27b1
                try clear c29
                try clear c29b0
                try clear c29b1
                try clear c31
                try clear c31b0
                try clear c31b1
                try clear c33
                try clear c33b0
                try clear c33b1
                try clear c63
                try clear p2
                try clear p6
                obtain ⟨x15_2, rfl, HA, HK2, HO_10, HO_14, HB⟩ := hrel
                cases gk with
                | zero => exact absurd HA.out (by simp [watchbilllaw6_ProgTwice.l0])
                | succ k2 =>
                  have H := HA.out
                  clear HA
                  simp only [watchbilllaw6_ProgTwice.l0] at H
                  by_cases c64 : x15_2 < (t203.length : Int)
                  · rw [if_pos c64] at H
                    have c64b0 : decide (x15_2 < (t203.length : Int)) = true := decide_eq_true c64
                    clear c64
                    by_cases c65 : 0 ≤ x15_2
                    · rw [if_pos c65] at H
                      have c65b0 : decide (0 ≤ x15_2) = true := decide_eq_true c65
                      clear c65
                      obtain ⟨ji66, hji66⟩ : ∃ j_ : Int, (Int.tmod x15_2 4) = j_ := ⟨_, rfl⟩
                      replace H : (if 0 ≤ (ji66) then (if (ji66) < (y189.length : Int) then ((op_Same.f k2 ((rd_T52 t203 x15_2).f0) ((rd_T52 t203 x15_2).f1) ((rd_T52 t203 x15_2).f2) ((rd_T52 t203 x15_2).f3) ((rd_T52 t203 x15_2).f4) ((rd_T52 y189 (ji66)).f0) ((rd_T52 y189 (ji66)).f1) ((rd_T52 y189 (ji66)).f2) ((rd_T52 y189 (ji66)).f3) ((rd_T52 y189 (ji66)).f4)).bind fun t214 => (if t214 = true then (watchbilllaw6_ProgTwice.l0 k2 y189 t203 (wrap64 (x15_2 + 1))) else (some false))) else (none)) else (none)) = some r := by first | (rw [hji66] at H; exact H) | (simp only [hji66] at H ⊢; exact H)
                      by_cases c67 : 0 ≤ (ji66)
                      · rw [if_pos c67] at H
                        have c67b0 : decide (0 ≤ (ji66)) = true := decide_eq_true c67
                        clear c67
                        by_cases c68 : (ji66) < (y189.length : Int)
                        · rw [if_pos c68] at H
                          have c68b0 : decide ((ji66) < (y189.length : Int)) = true := decide_eq_true c68
                          clear c68
                          replace H := Option.bind_eq_some_iff.mp H
                          obtain ⟨t214, A690, H⟩ := H
                          replace H : (if t214 = true then (watchbilllaw6_ProgTwice.l0 k2 y189 t203 (wrap64 (x15_2 + 1))) else (some false)) = some r := H
                          have A69 := Aside0.mk A690
                          clear A690
                          by_cases c70 : t214 = true
                          · subst c70
                            have H1 : (watchbilllaw6_ProgTwice.l0 k2 y189 t203 (wrap64 (x15_2 + 1))) = some r := by rw [if_pos rfl] at H; exact H
                            clear H
                            have H := H1
                            clear H1
                            have H' := Aside0.mk H
                            clear H
                            obtain ⟨Ao71, co71, eo71⟩ := Kd.N_slice HO_14.out
                            subst eo71
                            try go_wp2
                            have n0_ := Aside0.mk (Kd.N_drew HO_10.out)
                            have n1_ := Aside0.mk (Kd.N_drew HO_14.out)
                            have n2_ := Aside0.mk (below_drew1 HB.out)
                            clear HO_10
                            clear HO_14
                            clear HB
                            have HO_10 := n0_
                            have HO_14 := n1_
                            have HB := n2_
                            clear n0_ n1_ n2_
                            have p212 : 0 ≤ (x15_2 : Int) := of_decide_eq_true (by first | (with_reducible assumption) | assumption)
                            have q212 : x15_2 < (t203.length : Int) := of_decide_eq_true (by first | (with_reducible assumption) | assumption)
                            obtain ⟨ad212, A212_4, c212_4, e212, hx212_0, hx212_1, hx212_2, hx212_3, hx212_4, hl212_4, hi212_4⟩ := at_T52 (Kd.N_reads' HO_14.out).2.2 x15_2 p212 q212
                            cases e212
                            obtain ⟨ce212, hce212, hMe212, hcc212⟩ := Kd.N_get HO_14.out z52 x15_2 p212 (by first | exact q212 | exact of_decide_eq_true (by first | (with_reducible assumption) | assumption) | (have e_ := (Kd.N_reads' HO_14.out).1; omega))
                            obtain ⟨ua212_4, uc212_4, rfl, ul212_4, ge212_4⟩ := k52_openF hMe212
                            have hv212_4 := hcc212 4 _ rfl
                            rw [add_field _ _ 4 (by omega)] at hv212_4
                            replace hv212_4 := Option.some.inj (hv212_4.symm.trans hx212_4)
                            injection hv212_4 with hva_ hvn_ hvc_
                            rw [hva_] at ge212_4
                            rw [hvc_] at ul212_4
                            have HL212_4 := Aside0.mk (show Kd.V k84 84 _ w.heap.size _ _ ((rd_T52 t203 x15_2).f4) from Kd.V_mk ul212_4 ge212_4)
                            clear hva_ hvn_ hvc_ ge212_4 ul212_4
                            clear hcc212 hce212
                            have HR212_4 := Aside0.mk hi212_4
                            have HC212_4 := Aside0.mk hl212_4
                            clear hi212_4 hl212_4
                            replace p212 := eq_true p212
                            replace q212 := eq_true q212
                            have p213 : 0 ≤ ((ji66) : Int) := of_decide_eq_true (by first | (with_reducible assumption) | assumption)
                            have q213 : (ji66) < (y189.length : Int) := of_decide_eq_true (by first | (with_reducible assumption) | assumption)
                            obtain ⟨ad213, A213_4, c213_4, e213, hx213_0, hx213_1, hx213_2, hx213_3, hx213_4, hl213_4, hi213_4⟩ := at_T52 (Kd.N_reads' HO_10.out).2.2 (ji66) p213 q213
                            cases e213
                            obtain ⟨ce213, hce213, hMe213, hcc213⟩ := Kd.N_get HO_10.out z52 (ji66) p213 (by first | exact q213 | exact of_decide_eq_true (by first | (with_reducible assumption) | assumption) | (have e_ := (Kd.N_reads' HO_10.out).1; omega))
                            obtain ⟨ua213_4, uc213_4, rfl, ul213_4, ge213_4⟩ := k52_openF hMe213
                            have hv213_4 := hcc213 4 _ rfl
                            rw [add_field _ _ 4 (by omega)] at hv213_4
                            replace hv213_4 := Option.some.inj (hv213_4.symm.trans hx213_4)
                            injection hv213_4 with hva_ hvn_ hvc_
                            rw [hva_] at ge213_4
                            rw [hvc_] at ul213_4
                            have HL213_4 := Aside0.mk (show Kd.V k84 84 _ w.heap.size _ _ ((rd_T52 y189 (ji66)).f4) from Kd.V_mk ul213_4 ge213_4)
                            clear hva_ hvn_ hvc_ ge213_4 ul213_4
                            clear hcc213 hce213
                            have HR213_4 := Aside0.mk hi213_4
                            have HC213_4 := Aside0.mk hl213_4
                            clear hi213_4 hl213_4
                            replace p213 := eq_true p213
                            replace q213 := eq_true q213
                            refine start_ (n := 11) (S := fun w' => w'.cell? (ad212.add ((x15_2).toNat * 5)) = some (.int .i64 ((rd_T52 t203 x15_2).f0)) ∧ w'.cell? ⟨(ad212.add ((x15_2).toNat * 5)).block, (ad212.add ((x15_2).toNat * 5)).off + 1, none⟩ = some (.int .i64 ((rd_T52 t203 x15_2).f1)) ∧ w'.cell? ⟨(ad212.add ((x15_2).toNat * 5)).block, (ad212.add ((x15_2).toNat * 5)).off + 2, none⟩ = some (.int .i64 ((rd_T52 t203 x15_2).f2)) ∧ w'.cell? ⟨(ad212.add ((x15_2).toNat * 5)).block, (ad212.add ((x15_2).toNat * 5)).off + 3, none⟩ = some (.int .i64 ((rd_T52 t203 x15_2).f3)) ∧ w'.cell? ⟨(ad212.add ((x15_2).toNat * 5)).block, (ad212.add ((x15_2).toNat * 5)).off + 4, none⟩ = some (.slice A212_4 ((rd_T52 t203 x15_2).f4).length c212_4) ∧ w'.cell? (ad213.add (((ji66)).toNat * 5)) = some (.int .i64 ((rd_T52 y189 (ji66)).f0)) ∧ w'.cell? ⟨(ad213.add (((ji66)).toNat * 5)).block, (ad213.add (((ji66)).toNat * 5)).off + 1, none⟩ = some (.int .i64 ((rd_T52 y189 (ji66)).f1)) ∧ w'.cell? ⟨(ad213.add (((ji66)).toNat * 5)).block, (ad213.add (((ji66)).toNat * 5)).off + 2, none⟩ = some (.int .i64 ((rd_T52 y189 (ji66)).f2)) ∧ w'.cell? ⟨(ad213.add (((ji66)).toNat * 5)).block, (ad213.add (((ji66)).toNat * 5)).off + 3, none⟩ = some (.int .i64 ((rd_T52 y189 (ji66)).f3)) ∧ w'.cell? ⟨(ad213.add (((ji66)).toNat * 5)).block, (ad213.add (((ji66)).toNat * 5)).off + 4, none⟩ = some (.slice A213_4 ((rd_T52 y189 (ji66)).f4).length c213_4)) (ds := []) #[false, false, false, false, false, false, false, false, false, false, false] (by kernel_rfl) rfl rfl ⟨hx212_0, hx212_1, hx212_2, hx212_3, hx212_4, hx213_0, hx213_1, hx213_2, hx213_3, hx213_4⟩ (fun hHeld => ?_); refine with_tabW watchbilllaw6_ProgTwice.tab14 watchbilllaw6_ProgTwice.bits14 (fun HT_ HW_ => ?_)
                            generalize wr.drew = w72 at HO_10 HO_14 HB HL212_4 HL213_4 HR212_4 HR213_4 hx212_0 hx212_1 hx212_2 hx212_3 hx212_4 hx213_0 hx213_1 hx213_2 hx213_3 hx213_4 hHeld ⊢
                            refine pure_ (i := 0) (N := some 103) (v := ?_) (a' := ?_) #[true, false, false, false, false, false, false, false, false, false, false] rfl rfl (any_of HT_.out (by kernel_rfl)) (fun _ _ _ h => h) (Or.inl ⟨by rfl, ?_⟩) ?_ ?_
                            rotate_left
                            · intro w'
                              go_simp
                              with_reducible rfl
                            rotate_left
                            · simp only [Act.put, List.setIfInBounds_toArray, List.set_cons_zero, List.set_cons_succ, i64_w, i32_w]
                              rfl
                            refine pure_ (i := 1) (N := some 104) (v := ?_) (a' := ?_) #[true, true, false, false, false, false, false, false, false, false, false] rfl rfl (any_of HT_.out (by kernel_rfl)) (fun _ _ _ h => h) (Or.inl ⟨by rfl, ?_⟩) ?_ ?_
                            rotate_left
                            · intro w'
                              go_simp
                              with_reducible rfl
                            rotate_left
                            · simp only [Act.put, List.setIfInBounds_toArray, List.set_cons_zero, List.set_cons_succ, i64_w, i32_w]
                              rfl
                            refine pure_ (i := 2) (N := some 105) (v := ?_) (a' := ?_) #[true, true, true, false, false, false, false, false, false, false, false] rfl rfl (any_of HT_.out (by kernel_rfl)) (fun _ _ _ h => h) (Or.inl ⟨by rfl, ?_⟩) ?_ ?_
                            rotate_left
                            · intro w'
                              go_simp
                              with_reducible rfl
                            rotate_left
                            · simp only [Act.put, List.setIfInBounds_toArray, List.set_cons_zero, List.set_cons_succ, i64_w, i32_w]
                              rfl
                            refine pure_ (i := 4) (N := some 107) (v := ?_) (a' := ?_) #[true, true, true, false, true, false, false, false, false, false, false] rfl rfl (any_of HT_.out (by kernel_rfl)) (fun _ _ _ h => h) (Or.inl ⟨by rfl, ?_⟩) ?_ ?_
                            rotate_left
                            · intro w'
                              go_simp
                              with_reducible rfl
                            rotate_left
                            · simp only [Act.put, List.setIfInBounds_toArray, List.set_cons_zero, List.set_cons_succ, i64_w, i32_w]
                              rfl
                            refine pure_ (i := 5) (N := some 108) (v := ?_) (a' := ?_) #[true, true, true, false, true, true, false, false, false, false, false] rfl rfl (any_of HT_.out (by kernel_rfl)) (fun _ _ _ h => h) (Or.inl ⟨by rfl, ?_⟩) ?_ ?_
                            rotate_left
                            · intro w'
                              go_simp
                              with_reducible rfl
                            rotate_left
                            · simp only [Act.put, List.setIfInBounds_toArray, List.set_cons_zero, List.set_cons_succ, i64_w, i32_w]
                              rfl
                            refine pure_ (i := 6) (N := some 109) (v := ?_) (a' := ?_) #[true, true, true, false, true, true, true, false, false, false, false] rfl rfl (any_of HT_.out (by kernel_rfl)) (fun _ _ _ h => h) (Or.inl ⟨by rfl, ?_⟩) ?_ ?_
                            rotate_left
                            · intro w'
                              go_simp
                              with_reducible rfl
                            rotate_left
                            · simp only [Act.put, List.setIfInBounds_toArray, List.set_cons_zero, List.set_cons_succ, i64_w, i32_w]
                              rfl
                            refine pure_ (i := 7) (N := some 110) (v := ?_) (a' := ?_) #[true, true, true, false, true, true, true, true, false, false, false] rfl rfl (any_of HT_.out (by kernel_rfl)) (fun _ _ _ h => h) (Or.inl ⟨by rfl, ?_⟩) ?_ ?_
                            rotate_left
                            · intro w'
                              go_simp
                              with_reducible rfl
                            rotate_left
                            · simp only [Act.put, List.setIfInBounds_toArray, List.set_cons_zero, List.set_cons_succ, i64_w, i32_w]
                              rfl
                            refine take_ (i := 3) (N := some 106) (v := ?_) (a' := ?_) #[true, true, true, true, true, true, true, true, false, false, false] rfl rfl (take_ofW HT_.out HW_.out (by kernel_rfl)) (fun _ _ _ h => h) (Or.inl ⟨by rfl, ?_⟩) hHeld ?_ ?_
                            rotate_left
                            · rintro w' ⟨s0, s1, s2, s3, s4, s5, s6, s7, s8, s9⟩
                              go_simp
                              with_reducible rfl
                            rotate_left
                            · simp only [Act.put, List.setIfInBounds_toArray, List.set_cons_zero, List.set_cons_succ, i64_w, i32_w]
                              rfl
                            refine take_ (i := 8) (N := some 111) (v := ?_) (a' := ?_) #[true, true, true, true, true, true, true, true, true, false, false] rfl rfl (take_ofW HT_.out HW_.out (by kernel_rfl)) (fun _ _ _ h => h) (Or.inl ⟨by rfl, ?_⟩) hHeld ?_ ?_
                            rotate_left
                            · rintro w' ⟨s0, s1, s2, s3, s4, s5, s6, s7, s8, s9⟩
                              go_simp
                              with_reducible rfl
                            rotate_left
                            · simp only [Act.put, List.setIfInBounds_toArray, List.set_cons_zero, List.set_cons_succ, i64_w, i32_w]
                              rfl
                            refine one_ (i := 9) (N := some 112) #[true, true, true, true, true, true, true, true, true, true, false] rfl rfl (one_of HT_.out (by kernel_rfl)) (by decide) (fun K hK => ?_)
                            refine goes_ Try.func30 (by kernel_rfl) rfl #[.agg #[.int .i64 ((rd_T52 t203 x15_2).f0), .int .i64 ((rd_T52 t203 x15_2).f1), .int .i64 ((rd_T52 t203 x15_2).f2), .int .i64 ((rd_T52 t203 x15_2).f3), .slice A212_4 ((rd_T52 t203 x15_2).f4).length c212_4], .agg #[.int .i64 ((rd_T52 y189 (ji66)).f0), .int .i64 ((rd_T52 y189 (ji66)).f1), .int .i64 ((rd_T52 y189 (ji66)).f2), .int .i64 ((rd_T52 y189 (ji66)).f3), .slice A213_4 ((rd_T52 y189 (ji66)).f4).length c213_4]] (by rfl) rfl rfl (by (try simp only [List.map_toArray, List.map_cons, List.map_nil]); first | done | (simp only [hji66]; rfl) | rfl | (simp only [List.length_drop, List.length_take]; rfl)) ?_
                            with_reducible refine (op_Same.calls k2 ((rd_T52 t203 x15_2).f0) ((rd_T52 t203 x15_2).f1) ((rd_T52 t203 x15_2).f2) ((rd_T52 t203 x15_2).f3) _ _ ((rd_T52 t203 x15_2).f4) ((rd_T52 y189 (ji66)).f0) ((rd_T52 y189 (ji66)).f1) ((rd_T52 y189 (ji66)).f2) ((rd_T52 y189 (ji66)).f3) _ _ ((rd_T52 y189 (ji66)).f4) true _ ?side1 ?side2 ?side3 ?side4 A69.out).mono ?_
                            (case side1 => repeat (first | exact (by repeat (first | (with_reducible exact HR212_4.out) | (with_reducible refine Kd.C_alloc ?_ _) | (with_reducible refine Kd.C_drewN ?_ _) | (with_reducible refine Kd.C_drew ?_) | exact HR212_4.out)) | (with_reducible refine Kd.C_alloc ?_ _) | (with_reducible refine Kd.C_drewN ?_ _) | (with_reducible refine Kd.C_drew ?_)))
                            (case side2 => exact HC212_4.out)
                            (case side3 => repeat (first | exact (by repeat (first | (with_reducible exact HR213_4.out) | (with_reducible refine Kd.C_alloc ?_ _) | (with_reducible refine Kd.C_drewN ?_ _) | (with_reducible refine Kd.C_drew ?_) | exact HR213_4.out)) | (with_reducible refine Kd.C_alloc ?_ _) | (with_reducible refine Kd.C_drewN ?_ _) | (with_reducible refine Kd.C_drew ?_)))
                            (case side4 => exact HC213_4.out)
                            rintro e w73 ⟨rfl, hb⟩
                            have HS0_ := (hb.cell (World.block_lt_of_cell? _ _ (hHeld.1))).trans (hHeld.1)
                            have HS1_ := (hb.cell (World.block_lt_of_cell? _ _ (hHeld.2.1))).trans (hHeld.2.1)
                            have HS2_ := (hb.cell (World.block_lt_of_cell? _ _ (hHeld.2.2.1))).trans (hHeld.2.2.1)
                            have HS3_ := (hb.cell (World.block_lt_of_cell? _ _ (hHeld.2.2.2.1))).trans (hHeld.2.2.2.1)
                            have HS4_ := (hb.cell (World.block_lt_of_cell? _ _ (hHeld.2.2.2.2.1))).trans (hHeld.2.2.2.2.1)
                            have HS5_ := (hb.cell (World.block_lt_of_cell? _ _ (hHeld.2.2.2.2.2.1))).trans (hHeld.2.2.2.2.2.1)
                            have HS6_ := (hb.cell (World.block_lt_of_cell? _ _ (hHeld.2.2.2.2.2.2.1))).trans (hHeld.2.2.2.2.2.2.1)
                            have HS7_ := (hb.cell (World.block_lt_of_cell? _ _ (hHeld.2.2.2.2.2.2.2.1))).trans (hHeld.2.2.2.2.2.2.2.1)
                            have HS8_ := (hb.cell (World.block_lt_of_cell? _ _ (hHeld.2.2.2.2.2.2.2.2.1))).trans (hHeld.2.2.2.2.2.2.2.2.1)
                            have HS9_ := (hb.cell (World.block_lt_of_cell? _ _ (hHeld.2.2.2.2.2.2.2.2.2))).trans (hHeld.2.2.2.2.2.2.2.2.2)
                            refine ⟨_, rfl, ?_⟩
                            have n0_ := Aside0.mk (Kd.N_below (by (with_reducible repeat (first | apply Kd.N_alloc | apply Kd.N_drewN | apply Kd.N_drew)); exact HO_10.out) hb)
                            have n1_ := Aside0.mk (Kd.N_below (by (with_reducible repeat (first | apply Kd.N_alloc | apply Kd.N_drewN | apply Kd.N_drew)); exact HO_14.out) hb)
                            have n2_ := Aside0.mk (Kd.V_below (by (with_reducible repeat (first | apply Kd.V_alloc | apply Kd.V_drewN | apply Kd.V_drew)); exact HL212_4.out) hb)
                            have n3_ := Aside0.mk (Kd.V_below (by (with_reducible repeat (first | apply Kd.V_alloc | apply Kd.V_drewN | apply Kd.V_drew)); exact HL213_4.out) hb)
                            have n4_ := Aside0.mk (Kd.C_below (by repeat (first | (with_reducible exact HR212_4.out) | (with_reducible refine Kd.C_alloc ?_ _) | (with_reducible refine Kd.C_drewN ?_ _) | (with_reducible refine Kd.C_drew ?_) | exact HR212_4.out)) hb)
                            have n5_ := Aside0.mk (Kd.C_below (by repeat (first | (with_reducible exact HR213_4.out) | (with_reducible refine Kd.C_alloc ?_ _) | (with_reducible refine Kd.C_drewN ?_ _) | (with_reducible refine Kd.C_drew ?_) | exact HR213_4.out)) hb)
                            have n6_ := Aside0.mk (below_step (by repeat (first | (with_reducible first | exact HB.out | apply below_alloc | apply pw_below_drewN | apply below_drew1) | exact HB.out)) hb)
                            clear HO_10
                            clear HO_14
                            clear HL212_4
                            clear HL213_4
                            clear HR212_4
                            clear HR213_4
                            clear HB
                            have HO_10 := n0_
                            have HO_14 := n1_
                            have HL212_4 := n2_
                            have HL213_4 := n3_
                            have HR212_4 := n4_
                            have HR213_4 := n5_
                            have HB := n6_
                            clear n0_ n1_ n2_ n3_ n4_ n5_ n6_
                            (try clear hb)
                            (try clear hb2)
                            (try clear hk)
                            (try clear hi)
                            refine hK.out _ _ ⟨HS0_, HS1_, HS2_, HS3_, HS4_, HS5_, HS6_, HS7_, HS8_, HS9_⟩ (fun hHeld => ?_)
                            clear hK K
                            refine norm_ (a' := ?_) ?_ ?_
                            rotate_left
                            · show Act.put _ (some 112) _ = _
                              simp only [Act.put, List.setIfInBounds_toArray, List.set_cons_zero, List.set_cons_succ, i64_w, i32_w]
                              rfl
                            refine pure_ (i := 10) (N := some 113) (v := ?_) (a' := ?_) #[true, true, true, true, true, true, true, true, true, true, true] rfl rfl (any_of HT_.out (by kernel_rfl)) (fun _ _ _ h => h) (Or.inl ⟨by rfl, ?_⟩) ?_ ?_
                            rotate_left
                            · intro w'
                              go_simp
                              with_reducible rfl
                            rotate_left
                            · simp only [Act.put, List.setIfInBounds_toArray, List.set_cons_zero, List.set_cons_succ, i64_w, i32_w]
                              rfl
                            refine done_ (done_of HT_.out (by kernel_rfl)) ?_
                            try go_wp2
                            go_roundg k2
                            case measure => have := HJ9.out; have := HK2.out; omega
                            case rel => exact ⟨(wrap64 (x15_2 + 1)), (by first | rfl | (simp; done) | (simp [*]; done) | (simp [Int.tdiv_eq_ediv_of_nonneg]; done)), H', ⟨by have := HJ9.out; have := HK2.out; omega⟩, ⟨by (with_reducible repeat (first | apply Kd.N_alloc | apply Kd.N_drewN | apply Kd.N_drew)); exact HO_10.out⟩, ⟨by (with_reducible repeat (first | apply Kd.N_alloc | apply Kd.N_drewN | apply Kd.N_drew)); exact HO_14.out⟩, ⟨by repeat (first | (with_reducible first | exact HB.out | apply below_alloc | apply pw_below_drewN | apply below_drew1) | exact HB.out)⟩⟩
                          · replace c70 := Bool.eq_false_iff.mpr c70
                            subst c70
                            have H1 : (some false) = some r := by rw [if_neg (show ¬ (false = true) by decide)] at H; exact H
                            clear H
                            have H := H1
                            clear H1
                            obtain rfl := Option.some.inj H
                            obtain ⟨Ao74, co74, eo74⟩ := Kd.N_slice HO_14.out
                            subst eo74
                            try go_wp2
                            have n0_ := Aside0.mk (Kd.N_drew HO_10.out)
                            have n1_ := Aside0.mk (Kd.N_drew HO_14.out)
                            have n2_ := Aside0.mk (below_drew1 HB.out)
                            clear HO_10
                            clear HO_14
                            clear HB
                            have HO_10 := n0_
                            have HO_14 := n1_
                            have HB := n2_
                            clear n0_ n1_ n2_
                            have p212 : 0 ≤ (x15_2 : Int) := of_decide_eq_true (by first | (with_reducible assumption) | assumption)
                            have q212 : x15_2 < (t203.length : Int) := of_decide_eq_true (by first | (with_reducible assumption) | assumption)
                            obtain ⟨ad212, A212_4, c212_4, e212, hx212_0, hx212_1, hx212_2, hx212_3, hx212_4, hl212_4, hi212_4⟩ := at_T52 (Kd.N_reads' HO_14.out).2.2 x15_2 p212 q212
                            cases e212
                            obtain ⟨ce212, hce212, hMe212, hcc212⟩ := Kd.N_get HO_14.out z52 x15_2 p212 (by first | exact q212 | exact of_decide_eq_true (by first | (with_reducible assumption) | assumption) | (have e_ := (Kd.N_reads' HO_14.out).1; omega))
                            obtain ⟨ua212_4, uc212_4, rfl, ul212_4, ge212_4⟩ := k52_openF hMe212
                            have hv212_4 := hcc212 4 _ rfl
                            rw [add_field _ _ 4 (by omega)] at hv212_4
                            replace hv212_4 := Option.some.inj (hv212_4.symm.trans hx212_4)
                            injection hv212_4 with hva_ hvn_ hvc_
                            rw [hva_] at ge212_4
                            rw [hvc_] at ul212_4
                            have HL212_4 := Aside0.mk (show Kd.V k84 84 _ w.heap.size _ _ ((rd_T52 t203 x15_2).f4) from Kd.V_mk ul212_4 ge212_4)
                            clear hva_ hvn_ hvc_ ge212_4 ul212_4
                            clear hcc212 hce212
                            have HR212_4 := Aside0.mk hi212_4
                            have HC212_4 := Aside0.mk hl212_4
                            clear hi212_4 hl212_4
                            replace p212 := eq_true p212
                            replace q212 := eq_true q212
                            have p213 : 0 ≤ ((ji66) : Int) := of_decide_eq_true (by first | (with_reducible assumption) | assumption)
                            have q213 : (ji66) < (y189.length : Int) := of_decide_eq_true (by first | (with_reducible assumption) | assumption)
                            obtain ⟨ad213, A213_4, c213_4, e213, hx213_0, hx213_1, hx213_2, hx213_3, hx213_4, hl213_4, hi213_4⟩ := at_T52 (Kd.N_reads' HO_10.out).2.2 (ji66) p213 q213
                            cases e213
                            obtain ⟨ce213, hce213, hMe213, hcc213⟩ := Kd.N_get HO_10.out z52 (ji66) p213 (by first | exact q213 | exact of_decide_eq_true (by first | (with_reducible assumption) | assumption) | (have e_ := (Kd.N_reads' HO_10.out).1; omega))
                            obtain ⟨ua213_4, uc213_4, rfl, ul213_4, ge213_4⟩ := k52_openF hMe213
                            have hv213_4 := hcc213 4 _ rfl
                            rw [add_field _ _ 4 (by omega)] at hv213_4
                            replace hv213_4 := Option.some.inj (hv213_4.symm.trans hx213_4)
                            injection hv213_4 with hva_ hvn_ hvc_
                            rw [hva_] at ge213_4
                            rw [hvc_] at ul213_4
                            have HL213_4 := Aside0.mk (show Kd.V k84 84 _ w.heap.size _ _ ((rd_T52 y189 (ji66)).f4) from Kd.V_mk ul213_4 ge213_4)
                            clear hva_ hvn_ hvc_ ge213_4 ul213_4
                            clear hcc213 hce213
                            have HR213_4 := Aside0.mk hi213_4
                            have HC213_4 := Aside0.mk hl213_4
                            clear hi213_4 hl213_4
                            replace p213 := eq_true p213
                            replace q213 := eq_true q213
                            refine start_ (n := 11) (S := fun w' => w'.cell? (ad212.add ((x15_2).toNat * 5)) = some (.int .i64 ((rd_T52 t203 x15_2).f0)) ∧ w'.cell? ⟨(ad212.add ((x15_2).toNat * 5)).block, (ad212.add ((x15_2).toNat * 5)).off + 1, none⟩ = some (.int .i64 ((rd_T52 t203 x15_2).f1)) ∧ w'.cell? ⟨(ad212.add ((x15_2).toNat * 5)).block, (ad212.add ((x15_2).toNat * 5)).off + 2, none⟩ = some (.int .i64 ((rd_T52 t203 x15_2).f2)) ∧ w'.cell? ⟨(ad212.add ((x15_2).toNat * 5)).block, (ad212.add ((x15_2).toNat * 5)).off + 3, none⟩ = some (.int .i64 ((rd_T52 t203 x15_2).f3)) ∧ w'.cell? ⟨(ad212.add ((x15_2).toNat * 5)).block, (ad212.add ((x15_2).toNat * 5)).off + 4, none⟩ = some (.slice A212_4 ((rd_T52 t203 x15_2).f4).length c212_4) ∧ w'.cell? (ad213.add (((ji66)).toNat * 5)) = some (.int .i64 ((rd_T52 y189 (ji66)).f0)) ∧ w'.cell? ⟨(ad213.add (((ji66)).toNat * 5)).block, (ad213.add (((ji66)).toNat * 5)).off + 1, none⟩ = some (.int .i64 ((rd_T52 y189 (ji66)).f1)) ∧ w'.cell? ⟨(ad213.add (((ji66)).toNat * 5)).block, (ad213.add (((ji66)).toNat * 5)).off + 2, none⟩ = some (.int .i64 ((rd_T52 y189 (ji66)).f2)) ∧ w'.cell? ⟨(ad213.add (((ji66)).toNat * 5)).block, (ad213.add (((ji66)).toNat * 5)).off + 3, none⟩ = some (.int .i64 ((rd_T52 y189 (ji66)).f3)) ∧ w'.cell? ⟨(ad213.add (((ji66)).toNat * 5)).block, (ad213.add (((ji66)).toNat * 5)).off + 4, none⟩ = some (.slice A213_4 ((rd_T52 y189 (ji66)).f4).length c213_4)) (ds := []) #[false, false, false, false, false, false, false, false, false, false, false] (by kernel_rfl) rfl rfl ⟨hx212_0, hx212_1, hx212_2, hx212_3, hx212_4, hx213_0, hx213_1, hx213_2, hx213_3, hx213_4⟩ (fun hHeld => ?_); refine with_tabW watchbilllaw6_ProgTwice.tab14 watchbilllaw6_ProgTwice.bits14 (fun HT_ HW_ => ?_)
                            generalize wr.drew = w75 at HO_10 HO_14 HB HL212_4 HL213_4 HR212_4 HR213_4 hx212_0 hx212_1 hx212_2 hx212_3 hx212_4 hx213_0 hx213_1 hx213_2 hx213_3 hx213_4 hHeld ⊢
                            refine pure_ (i := 0) (N := some 103) (v := ?_) (a' := ?_) #[true, false, false, false, false, false, false, false, false, false, false] rfl rfl (any_of HT_.out (by kernel_rfl)) (fun _ _ _ h => h) (Or.inl ⟨by rfl, ?_⟩) ?_ ?_
                            rotate_left
                            · intro w'
                              go_simp
                              with_reducible rfl
                            rotate_left
                            · simp only [Act.put, List.setIfInBounds_toArray, List.set_cons_zero, List.set_cons_succ, i64_w, i32_w]
                              rfl
                            refine pure_ (i := 1) (N := some 104) (v := ?_) (a' := ?_) #[true, true, false, false, false, false, false, false, false, false, false] rfl rfl (any_of HT_.out (by kernel_rfl)) (fun _ _ _ h => h) (Or.inl ⟨by rfl, ?_⟩) ?_ ?_
                            rotate_left
                            · intro w'
                              go_simp
                              with_reducible rfl
                            rotate_left
                            · simp only [Act.put, List.setIfInBounds_toArray, List.set_cons_zero, List.set_cons_succ, i64_w, i32_w]
                              rfl
                            refine pure_ (i := 2) (N := some 105) (v := ?_) (a' := ?_) #[true, true, true, false, false, false, false, false, false, false, false] rfl rfl (any_of HT_.out (by kernel_rfl)) (fun _ _ _ h => h) (Or.inl ⟨by rfl, ?_⟩) ?_ ?_
                            rotate_left
                            · intro w'
                              go_simp
                              with_reducible rfl
                            rotate_left
                            · simp only [Act.put, List.setIfInBounds_toArray, List.set_cons_zero, List.set_cons_succ, i64_w, i32_w]
                              rfl
                            refine pure_ (i := 4) (N := some 107) (v := ?_) (a' := ?_) #[true, true, true, false, true, false, false, false, false, false, false] rfl rfl (any_of HT_.out (by kernel_rfl)) (fun _ _ _ h => h) (Or.inl ⟨by rfl, ?_⟩) ?_ ?_
                            rotate_left
                            · intro w'
                              go_simp
                              with_reducible rfl
                            rotate_left
                            · simp only [Act.put, List.setIfInBounds_toArray, List.set_cons_zero, List.set_cons_succ, i64_w, i32_w]
                              rfl
                            refine pure_ (i := 5) (N := some 108) (v := ?_) (a' := ?_) #[true, true, true, false, true, true, false, false, false, false, false] rfl rfl (any_of HT_.out (by kernel_rfl)) (fun _ _ _ h => h) (Or.inl ⟨by rfl, ?_⟩) ?_ ?_
                            rotate_left
                            · intro w'
                              go_simp
                              with_reducible rfl
                            rotate_left
                            · simp only [Act.put, List.setIfInBounds_toArray, List.set_cons_zero, List.set_cons_succ, i64_w, i32_w]
                              rfl
                            refine pure_ (i := 6) (N := some 109) (v := ?_) (a' := ?_) #[true, true, true, false, true, true, true, false, false, false, false] rfl rfl (any_of HT_.out (by kernel_rfl)) (fun _ _ _ h => h) (Or.inl ⟨by rfl, ?_⟩) ?_ ?_
                            rotate_left
                            · intro w'
                              go_simp
                              with_reducible rfl
                            rotate_left
                            · simp only [Act.put, List.setIfInBounds_toArray, List.set_cons_zero, List.set_cons_succ, i64_w, i32_w]
                              rfl
                            refine pure_ (i := 7) (N := some 110) (v := ?_) (a' := ?_) #[true, true, true, false, true, true, true, true, false, false, false] rfl rfl (any_of HT_.out (by kernel_rfl)) (fun _ _ _ h => h) (Or.inl ⟨by rfl, ?_⟩) ?_ ?_
                            rotate_left
                            · intro w'
                              go_simp
                              with_reducible rfl
                            rotate_left
                            · simp only [Act.put, List.setIfInBounds_toArray, List.set_cons_zero, List.set_cons_succ, i64_w, i32_w]
                              rfl
                            refine take_ (i := 3) (N := some 106) (v := ?_) (a' := ?_) #[true, true, true, true, true, true, true, true, false, false, false] rfl rfl (take_ofW HT_.out HW_.out (by kernel_rfl)) (fun _ _ _ h => h) (Or.inl ⟨by rfl, ?_⟩) hHeld ?_ ?_
                            rotate_left
                            · rintro w' ⟨s0, s1, s2, s3, s4, s5, s6, s7, s8, s9⟩
                              go_simp
                              with_reducible rfl
                            rotate_left
                            · simp only [Act.put, List.setIfInBounds_toArray, List.set_cons_zero, List.set_cons_succ, i64_w, i32_w]
                              rfl
                            refine take_ (i := 8) (N := some 111) (v := ?_) (a' := ?_) #[true, true, true, true, true, true, true, true, true, false, false] rfl rfl (take_ofW HT_.out HW_.out (by kernel_rfl)) (fun _ _ _ h => h) (Or.inl ⟨by rfl, ?_⟩) hHeld ?_ ?_
                            rotate_left
                            · rintro w' ⟨s0, s1, s2, s3, s4, s5, s6, s7, s8, s9⟩
                              go_simp
                              with_reducible rfl
                            rotate_left
                            · simp only [Act.put, List.setIfInBounds_toArray, List.set_cons_zero, List.set_cons_succ, i64_w, i32_w]
                              rfl
                            refine one_ (i := 9) (N := some 112) #[true, true, true, true, true, true, true, true, true, true, false] rfl rfl (one_of HT_.out (by kernel_rfl)) (by decide) (fun K hK => ?_)
                            refine goes_ Try.func30 (by kernel_rfl) rfl #[.agg #[.int .i64 ((rd_T52 t203 x15_2).f0), .int .i64 ((rd_T52 t203 x15_2).f1), .int .i64 ((rd_T52 t203 x15_2).f2), .int .i64 ((rd_T52 t203 x15_2).f3), .slice A212_4 ((rd_T52 t203 x15_2).f4).length c212_4], .agg #[.int .i64 ((rd_T52 y189 (ji66)).f0), .int .i64 ((rd_T52 y189 (ji66)).f1), .int .i64 ((rd_T52 y189 (ji66)).f2), .int .i64 ((rd_T52 y189 (ji66)).f3), .slice A213_4 ((rd_T52 y189 (ji66)).f4).length c213_4]] (by rfl) rfl rfl (by (try simp only [List.map_toArray, List.map_cons, List.map_nil]); first | done | (simp only [hji66]; rfl) | rfl | (simp only [List.length_drop, List.length_take]; rfl)) ?_
                            with_reducible refine (op_Same.calls k2 ((rd_T52 t203 x15_2).f0) ((rd_T52 t203 x15_2).f1) ((rd_T52 t203 x15_2).f2) ((rd_T52 t203 x15_2).f3) _ _ ((rd_T52 t203 x15_2).f4) ((rd_T52 y189 (ji66)).f0) ((rd_T52 y189 (ji66)).f1) ((rd_T52 y189 (ji66)).f2) ((rd_T52 y189 (ji66)).f3) _ _ ((rd_T52 y189 (ji66)).f4) false _ ?side1 ?side2 ?side3 ?side4 A69.out).mono ?_
                            (case side1 => repeat (first | exact (by repeat (first | (with_reducible exact HR212_4.out) | (with_reducible refine Kd.C_alloc ?_ _) | (with_reducible refine Kd.C_drewN ?_ _) | (with_reducible refine Kd.C_drew ?_) | exact HR212_4.out)) | (with_reducible refine Kd.C_alloc ?_ _) | (with_reducible refine Kd.C_drewN ?_ _) | (with_reducible refine Kd.C_drew ?_)))
                            (case side2 => exact HC212_4.out)
                            (case side3 => repeat (first | exact (by repeat (first | (with_reducible exact HR213_4.out) | (with_reducible refine Kd.C_alloc ?_ _) | (with_reducible refine Kd.C_drewN ?_ _) | (with_reducible refine Kd.C_drew ?_) | exact HR213_4.out)) | (with_reducible refine Kd.C_alloc ?_ _) | (with_reducible refine Kd.C_drewN ?_ _) | (with_reducible refine Kd.C_drew ?_)))
                            (case side4 => exact HC213_4.out)
                            rintro e w76 ⟨rfl, hb⟩
                            have HS0_ := (hb.cell (World.block_lt_of_cell? _ _ (hHeld.1))).trans (hHeld.1)
                            have HS1_ := (hb.cell (World.block_lt_of_cell? _ _ (hHeld.2.1))).trans (hHeld.2.1)
                            have HS2_ := (hb.cell (World.block_lt_of_cell? _ _ (hHeld.2.2.1))).trans (hHeld.2.2.1)
                            have HS3_ := (hb.cell (World.block_lt_of_cell? _ _ (hHeld.2.2.2.1))).trans (hHeld.2.2.2.1)
                            have HS4_ := (hb.cell (World.block_lt_of_cell? _ _ (hHeld.2.2.2.2.1))).trans (hHeld.2.2.2.2.1)
                            have HS5_ := (hb.cell (World.block_lt_of_cell? _ _ (hHeld.2.2.2.2.2.1))).trans (hHeld.2.2.2.2.2.1)
                            have HS6_ := (hb.cell (World.block_lt_of_cell? _ _ (hHeld.2.2.2.2.2.2.1))).trans (hHeld.2.2.2.2.2.2.1)
                            have HS7_ := (hb.cell (World.block_lt_of_cell? _ _ (hHeld.2.2.2.2.2.2.2.1))).trans (hHeld.2.2.2.2.2.2.2.1)
                            have HS8_ := (hb.cell (World.block_lt_of_cell? _ _ (hHeld.2.2.2.2.2.2.2.2.1))).trans (hHeld.2.2.2.2.2.2.2.2.1)
                            have HS9_ := (hb.cell (World.block_lt_of_cell? _ _ (hHeld.2.2.2.2.2.2.2.2.2))).trans (hHeld.2.2.2.2.2.2.2.2.2)
                            refine ⟨_, rfl, ?_⟩
                            have n0_ := Aside0.mk (Kd.N_below (by (with_reducible repeat (first | apply Kd.N_alloc | apply Kd.N_drewN | apply Kd.N_drew)); exact HO_10.out) hb)
                            have n1_ := Aside0.mk (Kd.N_below (by (with_reducible repeat (first | apply Kd.N_alloc | apply Kd.N_drewN | apply Kd.N_drew)); exact HO_14.out) hb)
                            have n2_ := Aside0.mk (Kd.V_below (by (with_reducible repeat (first | apply Kd.V_alloc | apply Kd.V_drewN | apply Kd.V_drew)); exact HL212_4.out) hb)
                            have n3_ := Aside0.mk (Kd.V_below (by (with_reducible repeat (first | apply Kd.V_alloc | apply Kd.V_drewN | apply Kd.V_drew)); exact HL213_4.out) hb)
                            have n4_ := Aside0.mk (Kd.C_below (by repeat (first | (with_reducible exact HR212_4.out) | (with_reducible refine Kd.C_alloc ?_ _) | (with_reducible refine Kd.C_drewN ?_ _) | (with_reducible refine Kd.C_drew ?_) | exact HR212_4.out)) hb)
                            have n5_ := Aside0.mk (Kd.C_below (by repeat (first | (with_reducible exact HR213_4.out) | (with_reducible refine Kd.C_alloc ?_ _) | (with_reducible refine Kd.C_drewN ?_ _) | (with_reducible refine Kd.C_drew ?_) | exact HR213_4.out)) hb)
                            have n6_ := Aside0.mk (below_step (by repeat (first | (with_reducible first | exact HB.out | apply below_alloc | apply pw_below_drewN | apply below_drew1) | exact HB.out)) hb)
                            clear HO_10
                            clear HO_14
                            clear HL212_4
                            clear HL213_4
                            clear HR212_4
                            clear HR213_4
                            clear HB
                            have HO_10 := n0_
                            have HO_14 := n1_
                            have HL212_4 := n2_
                            have HL213_4 := n3_
                            have HR212_4 := n4_
                            have HR213_4 := n5_
                            have HB := n6_
                            clear n0_ n1_ n2_ n3_ n4_ n5_ n6_
                            (try clear hb)
                            (try clear hb2)
                            (try clear hk)
                            (try clear hi)
                            refine hK.out _ _ ⟨HS0_, HS1_, HS2_, HS3_, HS4_, HS5_, HS6_, HS7_, HS8_, HS9_⟩ (fun hHeld => ?_)
                            clear hK K
                            refine norm_ (a' := ?_) ?_ ?_
                            rotate_left
                            · show Act.put _ (some 112) _ = _
                              simp only [Act.put, List.setIfInBounds_toArray, List.set_cons_zero, List.set_cons_succ, i64_w, i32_w]
                              rfl
                            refine pure_ (i := 10) (N := some 113) (v := ?_) (a' := ?_) #[true, true, true, true, true, true, true, true, true, true, true] rfl rfl (any_of HT_.out (by kernel_rfl)) (fun _ _ _ h => h) (Or.inl ⟨by rfl, ?_⟩) ?_ ?_
                            rotate_left
                            · intro w'
                              go_simp
                              with_reducible rfl
                            rotate_left
                            · simp only [Act.put, List.setIfInBounds_toArray, List.set_cons_zero, List.set_cons_succ, i64_w, i32_w]
                              rfl
                            refine done_ (done_of HT_.out (by kernel_rfl)) ?_
                            try go_wp2
                            go_ret
                            exact ⟨by first | rfl | (simp [errW_none, errW_some] <;> rfl) | (simp only [← hji66]; first | rfl | (simp [errW_none, errW_some] <;> rfl)) | (simp [*, errW_none, errW_some] <;> rfl), by repeat (first | (with_reducible first | exact HB.out | apply below_alloc | apply pw_below_drewN | apply below_drew1) | exact HB.out)⟩
                        · rw [if_neg c68] at H
                          exact absurd H (by simp)
                      · rw [if_neg c67] at H
                        exact absurd H (by simp)
                    · rw [if_neg c65] at H
                      exact absurd H (by simp)
                  · rw [if_neg c64] at H
                    have c64b0 : decide (x15_2 < (t203.length : Int)) = false := decide_eq_false c64
                    clear c64
                    obtain rfl := Option.some.inj H
                    obtain ⟨Ao77, co77, eo77⟩ := Kd.N_slice HO_14.out
                    subst eo77
                    go_wp2
                    go_ret
                    exact ⟨by first | rfl | (simp [errW_none, errW_some] <;> rfl) | (simp [*, errW_none, errW_some] <;> rfl), by repeat (first | (with_reducible first | exact HB.out | apply below_alloc | apply pw_below_drewN | apply below_drew1) | exact HB.out)⟩
      · rw [if_neg c7] at H
        exact absurd H (by simp)
    · rw [if_neg c6] at H
      exact absurd H (by simp)
  · replace c5 := Bool.eq_false_iff.mpr c5
    subst c5
    have H1 : (some false) = some r := by rw [if_neg (show ¬ (false = true) by decide)] at H; exact H
    clear H
    have H := H1
    clear H1
    obtain rfl := Option.some.inj H
    go_enter Try.func8, Try.ntmps8
    go_wp2_with (first | ((with_reducible refine gate_callee (f := 9) rfl ?_); refine goesL_ (some 16) rfl rfl Try.func9 (by kernel_rfl) rfl #[] rfl (by (try simp only [List.map_toArray, List.map_cons, List.map_nil]); first | done | rfl | (simp only [List.length_drop, List.length_take]; rfl)) ?_; (with_reducible refine (watchbilllaw6_known.calls  false _ A4.out).mono ?_); rintro e w78 ⟨rfl, hb⟩; refine ⟨_, rfl, ?_⟩; have n0_ := Aside0.mk (below_step (by repeat (first | (with_reducible first | exact HB.out | apply below_alloc | apply pw_below_drewN | apply below_drew1) | exact HB.out)) hb); clear HB; have HB := n0_; clear n0_; (try clear hb); (try clear hb2); (try clear hk); (try clear hi)))
    go_ret
    exact ⟨by first | rfl | (simp [errW_none, errW_some] <;> rfl) | (simp [*, errW_none, errW_some] <;> rfl), by repeat (first | (with_reducible first | exact HB.out | apply below_alloc | apply pw_below_drewN | apply below_drew1) | exact HB.out)⟩

/-- THE ONE PURE STATEMENT of watchbilllaw6_ProgTwice: yours. -/
def watchbilllaw6_ProgTwice.Pure : Prop := ∀ (a0 : Int) (a1 : Int) (a2 : Int), (Lit.int .u8 a0).wf = true → (Lit.int .u8 a1).wf = true → (Lit.int .u8 a2).wf = true → ∃ k, watchbilllaw6_ProgTwice.f k a0 a1 a2 = some true
theorem watchbilllaw6_ProgTwice.walk (P : watchbilllaw6_ProgTwice.Pure) (a0 : Int) (a1 : Int) (a2 : Int) (w : World) (w0 : (Lit.int .u8 a0).wf = true) (w1 : (Lit.int .u8 a1).wf = true) (w2 : (Lit.int .u8 a2).wf = true) :
    Calls Try.prog 8 #[.int .u8 a0, .int .u8 a1, .int .u8 a2] w fun e w' => e = .returned (.bool true) ∧ Below w.heap.size w w' := by
  obtain ⟨k, h⟩ := P a0 a1 a2 w0 w1 w2
  refine (watchbilllaw6_ProgTwice.calls k a0 a1 a2 true w h).mono ?_
  rintro e w' ⟨rfl, hd⟩
  exact ⟨rfl, hd⟩

end Go.Proofs.Ytjnhahdelipebaa.XA
