/- waitq.Order of an empty queue. -/
import Derived.Test.YthchclhleppdhaaRefWaitW
import Derived.Test.YthchclhleppdhaaRowZ
import Derived.Deep.OwnRows
namespace Go.Proofs.Ythchclhleppdhaa
set_option linter.unusedVariables false
set_option linter.unusedSimpArgs false
open Go.RowKit
set_option maxHeartbeats 4000000 in
theorem insertion_nil (f : Value) (w : World) : Calls Try.prog 70 #[.slice none 0 0, .int .i64 0, .int .i64 0, f] w fun e w' => e = .returned (.tuple #[]) ∧ w = w' := by
  go_enter Try.func70, Try.ntmps70
  go_wp2
  refine wp_loop_rounds 1 ?_
  rw [rounds_succ]
  go_wp2
  first | go_end0 | ((try simp only [Exit.inBlock, Exit.then]); refine bodyPost_ret (results_none rfl _ _ _) rfl ?_)
  exact ⟨rfl, rfl⟩
set_option maxHeartbeats 4000000 in
theorem stable_nil (f : Value) (w : World) : Calls Try.prog 69 #[.slice none 0 0, .int .i64 0, f] w fun e w' => e = .returned (.tuple #[]) ∧ w = w' := by
  go_enter Try.func69, Try.ntmps69
  go_wp2
  refine wp_loop_rounds 1 ?_
  rw [rounds_succ]
  go_wp2_with fail
  refine (insertion_nil _ _).mono ?_
  rintro e w1 ⟨rfl, rfl⟩
  go_wp2
  refine wp_loop_rounds 1 ?_
  rw [rounds_succ]
  go_wp2
  first | go_end0 | ((try simp only [Exit.inBlock, Exit.then]); refine bodyPost_ret (results_none rfl _ _ _) rfl ?_)
  exact ⟨rfl, rfl⟩
set_option maxHeartbeats 4000000 in
theorem sortStable_nil (f : Value) (w : World) : Calls Try.prog 64 #[.slice none 0 0, f] w fun e w' => e = .returned (.tuple #[]) ∧ w = w' := by
  go_enter Try.func64, Try.ntmps64
  go_wp2_with fail
  refine (stable_nil _ _).mono ?_
  rintro e w1 ⟨rfl, rfl⟩
  go_wp2
  first | go_end0 | ((try simp only [Exit.inBlock, Exit.then]); refine bodyPost_ret (results_none rfl _ _ _) rfl ?_)
  exact ⟨rfl, rfl⟩
set_option maxHeartbeats 4000000 in
theorem order_nil (a : Option Addr) (cap : Nat) (ap : Option Addr) (pl cp : Nat) (w : World) : Calls Try.prog 55 #[.slice a 0 cap, .slice ap pl cp] w fun e w' => e = .returned (.slice none 0 0) ∧ Upd [] w w' := by
  have hmf : ∀ (fn : Fn) (first cap : Array Value) (w : World), (Instr.makeFunc fn first cap).run Try.prog w = .ok (.func fn first cap) w := fun _ _ _ _ => rfl
  obtain ⟨wb, hwb⟩ : ∃ wb, wb = (w.alloc (.cells #[.slice a 0 cap] 41)).alloc (.cells #[.slice ap pl cp] 28) := ⟨_, rfl⟩
  have hu0 : Upd [] w wb := by rw [hwb]; exact ((Upd.refl _ _).alloc _).alloc _
  have hcq : wb.cell? ⟨w.heap.size, 0, none⟩ = some (.slice a 0 cap) := by rw [hwb]; simp
  have HU0 := Lib.hid hu0
  have HWB := Lib.hid hwb
  clear hu0 hwb
  go_enter Try.func55, Try.ntmps55
  go_wp2
  have e0 := HWB.out
  rw [← e0]
  clear e0
  refine wp_loop_rounds 1 ?_
  rw [rounds_succ]
  go_wp2_with fail
  refine (sortStable_nil _ _).mono ?_
  rintro e w1 ⟨rfl, rfl⟩
  go_wp2
  go_ret
  exact ⟨rfl, HU0.out⟩
theorem bool_info14 : (Try.prog.info? 4).map (fun i => (i.zero, i.size, i.bytes)) = some (some (.bool false), 1, 1) := by kernel_rfl
theorem rowIs_keep14 {w w' : World} {b : Nat} {t : TypeId} {n : Nat} {f : Nat → Value} {S : List Nat} (h : w.rowIs b t n f) (hu : Upd S w w') (hb : b ∉ S) : w'.rowIs b t n f :=
  h.of_block (hu.block _ h.lt hb)
/-- The order, whoever waits. -/
theorem order_all (a ap : Option Addr) (cap cp : Nat) (q : List Wt) (ps : List Int) (w : World) (hq : RdW w (.slice a q.length cap) q) (hp : RdI w (.slice ap ps.length cp) ps) (hm : ps.length ≤ 9223372036854775807) (h20 : q.length ≤ 1000000) :
    Calls Try.prog 55 #[.slice a q.length cap, .slice ap ps.length cp] w fun e w' => ∃ (a' : Option Addr) (c : Nat) (M : List Nat), e = .returned (.slice a' q.length c) ∧ M.Perm (List.range q.length) ∧ M.Pairwise (goesW q ps) ∧ Rd w' (.slice a' q.length c) q.length (M.map fun j : Nat => Value.int .i64 j) ∧ (∀ k, (Value.slice a' q.length c).ownBlock = some k → w.heap.size ≤ k) ∧ Upd [] w w' := by
  by_cases h0 : 0 < q.length
  · refine (order_many a ap cap cp q ps w hq hp hm h0 h20).mono ?_
    rintro e w' ⟨g, c, M, rfl, h1, h2, h3, h4⟩
    exact ⟨_, c, M, rfl, h1, h2, Rd.of_own h3, fun k hk => (h3.lt k hk).1, h4⟩
  · obtain rfl : q = [] := List.eq_nil_of_length_eq_zero (by omega)
    refine (order_nil a cap ap ps.length cp w).mono ?_
    rintro e w' ⟨rfl, hu⟩
    exact ⟨none, 0, [], rfl, List.Perm.refl _, List.Pairwise.nil, Rd.nil _, fun k hk => by simp [Value.ownBlock] at hk, hu⟩
end Go.Proofs.Ythchclhleppdhaa
