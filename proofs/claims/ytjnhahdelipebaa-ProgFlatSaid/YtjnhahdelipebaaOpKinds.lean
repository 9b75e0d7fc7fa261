/- op.kinds. -/
import Derived.Test.YtjnhahdelipebaaXAx0
import Derived.Test.YtjnhahdelipebaaHBase
import Derived.Test.YtjnhahdelipebaaOpDef
import Derived.IntWalk
import Derived.Deep.RegionHeld3
namespace Go.Proofs.Ytjnhahdelipebaa.XA
open Go.RowKit Go.Proofs.YtjnhahdelipebaaW.PrintWords Go.Proofs.YtjnhahdelipebaaW.PrintLast Go.Proofs.YtjnhahdelipebaaW.PrintMore
set_option linter.unusedVariables false
set_option linter.unusedSimpArgs false
open Go.Proofs.YtjnhahdelipebaaH (Upd Rd)
def tripP (c : S84) : Bool × Int × Int := (c.f0, c.f1, c.f2)
set_option maxHeartbeats 4000000 in
set_option maxRecDepth 100000 in
theorem kinds_any (w : World) : Calls Try.prog 49 #[] w fun e w' => e = .returned (.slice (some ⟨w.heap.size, 0, none⟩) 10 10) ∧
    w.alloc (.cells #[.string ⟨#[]⟩, .int .i64 0, .int .i64 0, .bool false, .bool false, .string ⟨#[114, 117, 110]⟩, .int .i64 1, .int .i64 1000, .bool false, .bool false, .string ⟨#[108, 111, 99, 107]⟩, .int .i64 0, .int .i64 7, .bool false, .bool false, .string ⟨#[117, 110, 108, 111, 99, 107]⟩, .int .i64 0, .int .i64 7, .bool false, .bool false, .string ⟨#[115, 101, 110, 100]⟩, .int .i64 0, .int .i64 7, .bool true, .bool false, .string ⟨#[114, 101, 99, 118]⟩, .int .i64 0, .int .i64 7, .bool true, .bool false, .string ⟨#[99, 108, 111, 115, 101]⟩, .int .i64 0, .int .i64 7, .bool false, .bool false, .string ⟨#[115, 101, 108, 101, 99, 116]⟩, .int .i64 0, .int .i64 0, .bool true, .bool true, .string ⟨#[108, 111, 111, 112]⟩, .int .i64 1, .int .i64 32, .bool false, .bool false, .string ⟨#[101, 110, 100]⟩, .int .i64 0, .int .i64 0, .bool false, .bool false] 87) = w' := by
  go_enter Try.func49, Try.ntmps49
  go_wp2
  go_ret
  exact ⟨rfl, rfl⟩
theorem bcell {W w1 : World} (hb : Below W.heap.size W w1) : (∀ b o, b < W.heap.size → w1.cell? ⟨b, o, none⟩ = W.cell? ⟨b, o, none⟩) ∧ (∀ b o, b < W.heap.size → w1.frozen? ⟨b, o, none⟩ = W.frozen? ⟨b, o, none⟩) :=
  ⟨fun b o h => hb.cell (p := ⟨b, o, none⟩) h, fun b o h => hb.frozen (p := ⟨b, o, none⟩) h⟩
def waitK (c : Nat) : Bool := c == 4 || c == 5 || c == 7
def moreK (c : Nat) : Bool := c == 7
theorem kinds_for (c : Nat) (h1 : 1 ≤ c) (h9 : c ≤ 9) (w : World) : Calls Try.prog 49 #[] w fun e w' => ∃ (g : Nat) (s : ByteArray), e = .returned (.slice (some ⟨g, 0, none⟩) 10 10) ∧ w'.cell? ⟨g, c * 5, none⟩ = some (.string s) ∧ w'.cell? ⟨g, c * 5 + 1, none⟩ = some (.int .i64 (leastN c)) ∧ w'.cell? ⟨g, c * 5 + 2, none⟩ = some (.int .i64 (mostN c)) ∧ w'.cell? ⟨g, c * 5 + 3, none⟩ = some (.bool (waitK c)) ∧ w'.cell? ⟨g, c * 5 + 4, none⟩ = some (.bool (moreK c)) ∧ Below w.heap.size w w' ∧ g < w'.heap.size := by
  refine (kinds_any w).mono ?_
  rintro e w' ⟨rfl, rfl⟩
  have hb := blk_cell (heap_alloc_new w (.cells #[.string ⟨#[]⟩, .int .i64 0, .int .i64 0, .bool false, .bool false, .string ⟨#[114, 117, 110]⟩, .int .i64 1, .int .i64 1000, .bool false, .bool false, .string ⟨#[108, 111, 99, 107]⟩, .int .i64 0, .int .i64 7, .bool false, .bool false, .string ⟨#[117, 110, 108, 111, 99, 107]⟩, .int .i64 0, .int .i64 7, .bool false, .bool false, .string ⟨#[115, 101, 110, 100]⟩, .int .i64 0, .int .i64 7, .bool true, .bool false, .string ⟨#[114, 101, 99, 118]⟩, .int .i64 0, .int .i64 7, .bool true, .bool false, .string ⟨#[99, 108, 111, 115, 101]⟩, .int .i64 0, .int .i64 7, .bool false, .bool false, .string ⟨#[115, 101, 108, 101, 99, 116]⟩, .int .i64 0, .int .i64 0, .bool true, .bool true, .string ⟨#[108, 111, 111, 112]⟩, .int .i64 1, .int .i64 32, .bool false, .bool false, .string ⟨#[101, 110, 100]⟩, .int .i64 0, .int .i64 0, .bool false, .bool false] 87))
  refine ⟨w.heap.size, ?_⟩
  rcases (show c = 1 ∨ c = 2 ∨ c = 3 ∨ c = 4 ∨ c = 5 ∨ c = 6 ∨ c = 7 ∨ c = 8 ∨ c = 9 by omega) with rfl | rfl | rfl | rfl | rfl | rfl | rfl | rfl | rfl
  all_goals exact ⟨_, rfl, (hb _).trans rfl, (hb _).trans rfl, (hb _).trans rfl, (hb _).trans rfl, (hb _).trans rfl, (Below.refl _ _).alloc (Nat.le_refl _) _, by simp⟩
end Go.Proofs.Ytjnhahdelipebaa.XA
