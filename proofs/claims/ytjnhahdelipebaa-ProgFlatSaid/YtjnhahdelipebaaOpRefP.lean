/- watchbillref8.CheckOp at all kinds but Select. -/
import Derived.Test.YtjnhahdelipebaaXAx0
import Derived.Test.YtjnhahdelipebaaHBase
import Derived.Test.YtjnhahdelipebaaOpDef
import Derived.IntWalk
namespace Go.Proofs.Ytjnhahdelipebaa.XA
open Go.RowKit Go.Proofs.YtjnhahdelipebaaW.PrintWords Go.Proofs.YtjnhahdelipebaaW.PrintLast Go.Proofs.YtjnhahdelipebaaW.PrintMore
set_option linter.unusedVariables false
set_option linter.unusedSimpArgs false
open Go.Proofs.YtjnhahdelipebaaH (Upd Rd)
def tripR (c : S85) : Bool × Int × Int := (c.f0, c.f1, c.f2)
set_option maxHeartbeats 16000000 in
set_option maxRecDepth 100000 in
theorem refOp_plain (c : Int) (hc : c = 1 ∨ c = 2 ∨ c = 3 ∨ c = 4 ∨ c = 5 ∨ c = 6 ∨ c = 8 ∨ c = 9) (n v wt : Int) (A : Option Addr) (m cp : Nat) (l : List (S85)) (hl : l.length = m) (w : World) :
    Calls Try.prog 35 #[.agg #[.int .i64 c, .int .i64 n, .int .i64 v, .int .i64 wt, .slice A m cp]] w fun e w' => e = .returned (.int .i64 (chkOp c n v wt (l.map tripR))) ∧ Below w.heap.size w w' := by
  obtain ⟨r, hr⟩ : ∃ r, r = chkOp c n v wt (l.map tripR) := ⟨_, rfl⟩
  rw [← hr]
  have HR := Lib.hid hr
  have HL := Lib.hid hl
  clear hr hl
  rcases hc with rfl | rfl | rfl | rfl | rfl | rfl | rfl | rfl
  all_goals
    go_enter Try.func35, Try.ntmps35
    go_wp2
    all_goals
      go_ret
      refine ⟨ret_i64 ?_, (Below.refl _ _).alloc (Nat.le_refl _) _⟩
      rw [HR.out]
      have hm := HL.out
      unfold chkOp leastN mostN
      rw [List.length_map, hm]
      (repeat' split) <;> first | rfl | omega
set_option maxHeartbeats 8000000 in
set_option maxRecDepth 100000 in
theorem refOp_none (c : Int) (hc : c < 1 ∨ 9 < c) (n v wt : Int) (A : Option Addr) (m cp : Nat) (l : List (S85)) (hl : l.length = m) (w : World) :
    Calls Try.prog 35 #[.agg #[.int .i64 c, .int .i64 n, .int .i64 v, .int .i64 wt, .slice A m cp]] w fun e w' => e = .returned (.int .i64 (chkOp c n v wt (l.map tripR))) ∧ Below w.heap.size w w' := by
  have e : chkOp c n v wt (l.map tripR) = 3 := by unfold chkOp; rw [if_pos hc]
  rw [e]
  clear e
  rcases hc with hc | hc
  · go_enter Try.func35, Try.ntmps35
    go_wp2
    go_ret
    exact ⟨rfl, (Below.refl _ _).alloc (Nat.le_refl _) _⟩
  · have h2 : ¬ c < 1 := by omega
    go_enter Try.func35, Try.ntmps35
    go_wp2
    go_ret
    exact ⟨rfl, (Below.refl _ _).alloc (Nat.le_refl _) _⟩
end Go.Proofs.Ytjnhahdelipebaa.XA
