/- waitq.Order of an empty queue. -/
import Derived.Test.YtmjcolkpfblelaaWaitTo
import Derived.Test.YtmjcolkpfblelaaWaitKnown
import Derived.Test.YtmjcolkpfblelaaRowZ
import Derived.Deep.OwnRows
namespace Go.Proofs.Ytmjcolkpfblelaa
set_option linter.unusedVariables false
set_option linter.unusedSimpArgs false
open Go.RowKit
set_option maxHeartbeats 4000000 in
theorem insertion_nil (f : Value) (w : World) : Calls Try.prog 37 #[.slice none 0 0, .int .i64 0, .int .i64 0, f] w fun e w' => e = .returned (.tuple #[]) ∧ w = w' := by
  go_enter Try.func37, Try.ntmps37
  go_wp2
  refine wp_loop_rounds 1 ?_
  rw [rounds_succ]
  go_wp2
  first | go_end0 | ((try simp only [Exit.inBlock, Exit.then]); refine bodyPost_ret (results_none rfl _ _ _) rfl ?_)
  exact ⟨rfl, rfl⟩
set_option maxHeartbeats 4000000 in
theorem stable_nil (f : Value) (w : World) : Calls Try.prog 36 #[.slice none 0 0, .int .i64 0, f] w fun e w' => e = .returned (.tuple #[]) ∧ w = w' := by
  go_enter Try.func36, Try.ntmps36
  go_wp2
  refine wp_loop_rounds 1 ?_
  rw [rounds_succ]
  go_wp2_with fail
  refine (insertion_nil _ _).mono ?_
  rintro e w1 ⟨rfl, rfl⟩
  go_wp2
  refine wp_loop_rounds 1 ?_
  rw [rounds_succ]
  go_wp2
  first | go_end0 | ((try simp only [Exit.inBlock, Exit.then]); refine bodyPost_ret (results_none rfl _ _ _) rfl ?_)
  exact ⟨rfl, rfl⟩
set_option maxHeartbeats 4000000 in
theorem sortStable_nil (f : Value) (w : World) : Calls Try.prog 31 #[.slice none 0 0, f] w fun e w' => e = .returned (.tuple #[]) ∧ w = w' := by
  go_enter Try.func31, Try.ntmps31
  go_wp2_with fail
  refine (stable_nil _ _).mono ?_
  rintro e w1 ⟨rfl, rfl⟩
  go_wp2
  first | go_end0 | ((try simp only [Exit.inBlock, Exit.then]); refine bodyPost_ret (results_none rfl _ _ _) rfl ?_)
  exact ⟨rfl, rfl⟩
set_option maxHeartbeats 4000000 in
theorem order_nil (a : Option Addr) (cap : Nat) (ap : Option Addr) (pl cp : Nat) (w : World) : Calls Try.prog 17 #[.slice a 0 cap, .slice ap pl cp] w fun e w' => e = .returned (.slice none 0 0) ∧ Upd [] w w' := by
  have hmf : ∀ (fn : Fn) (first cap : Array Value) (w : World), (Instr.makeFunc fn first cap).run Try.prog w = .ok (.func fn first cap) w := fun _ _ _ _ => rfl
  obtain ⟨wb, hwb⟩ : ∃ wb, wb = (w.alloc (.cells #[.slice a 0 cap] 26)).alloc (.cells #[.slice ap pl cp] 23) := ⟨_, rfl⟩
  have hu0 : Upd [] w wb := by rw [hwb]; exact ((Upd.refl _ _).alloc _).alloc _
  have hcq : wb.cell? ⟨w.heap.size, 0, none⟩ = some (.slice a 0 cap) := by rw [hwb]; simp
  have HU0 := Lib.hid hu0
  have HWB := Lib.hid hwb
  clear hu0 hwb
  go_enter Try.func17, Try.ntmps17
  go_wp2
  have e0 := HWB.out
  rw [← e0]
  clear e0
  refine wp_loop_rounds 1 ?_
  rw [rounds_succ]
  go_wp2_with fail
  refine (sortStable_nil _ _).mono ?_
  rintro e w1 ⟨rfl, rfl⟩
  go_wp2
  go_ret
  exact ⟨rfl, HU0.out⟩
end Go.Proofs.Ytmjcolkpfblelaa
