/- slices.Sort and slices.Compact at a row of at most twelve numbers that rises already: nothing turns. -/
import Derived.Test.YtjnhahdelipebaaHBase
import Derived.RegionTactic
import Derived.Deep.RegionHeld3
import Derived.IntWalk
namespace Go.Proofs.YtjnhahdelipebaaH
set_option linter.unusedVariables false
set_option linter.unusedSimpArgs false
open Go.RowKit

theorem nan_int_any (x : Int) (w : World) : Calls Try.prog 75 #[.int .i64 x] w fun e w' => e = .returned (.bool false) ∧ w = w' := by
  go_enter Try.func75, Try.ntmps75
  go_wp2
  go_ret
  exact ⟨by simp, rfl⟩
theorem less_no (x y : Int) (h : y ≤ x) (w : World) : Calls Try.prog 64 #[.int .i64 x, .int .i64 y] w fun e w' => e = .returned (.bool false) ∧ w = w' := by
  have hd : decide (x < y) = false := decide_eq_false (by omega)
  clear h
  go_enter Try.func64, Try.ntmps64
  go_wp2_with fail
  refine (nan_int_any _ _).mono ?_
  rintro e w' ⟨rfl, rfl⟩
  go_wp2
  go_ret
  exact ⟨rfl, rfl⟩

theorem own_at {w : World} {base g cap n : Nat} {e : TypeId} {ts : List Int} (h : w.ownsRow base e 1 (.slice (some ⟨g, 0, none⟩) n cap) n (ts.map (Value.int .i64))) {i : Nat} (hi : i < ts.length) : w.cell? ⟨g, i, none⟩ = some (.int .i64 (ts.getD i 0)) := by
  have := h.cells (g := g) rfl i (.int .i64 (ts.getD i 0)) (by simp [List.getD, hi])
  have e2 : (⟨g, 0, none⟩ : Addr).add i = ⟨g, i, none⟩ := by unfold Addr.add; split <;> simp_all
  rwa [e2] at this

/-- A row that the call owns, or none. -/
theorem inc_get {ts : List Int} (h : ts.Pairwise (· < ·)) {i : Nat} (hi : i + 1 < ts.length) : ts.getD i 0 < ts.getD (i + 1) 0 := by
  rw [List.pairwise_iff_getElem] at h
  have := h i (i + 1) (by omega) hi (by omega)
  simpa [List.getD, hi, show i < ts.length by omega] using this

set_option maxHeartbeats 4000000 in
set_option maxRecDepth 100000 in
theorem insertion_inc (g cap base : Nat) (ts : List Int) (w : World) (n : Nat) (hn : n = ts.length) (hown : w.ownsRow base 3 1 (.slice (some ⟨g, 0, none⟩) n cap) n (ts.map (Value.int .i64))) (hinc : ts.Pairwise (· < ·)) (hm : n ≤ 9223372036854775000) :
    Calls Try.prog 58 #[.slice (some ⟨g, 0, none⟩) n cap, .int .i64 0, .int .i64 n] w fun e w' => e = .returned (.tuple #[]) ∧ Upd [] w w' := by
  have HINC := Lib.hid hinc
  have HN := Lib.hid hn
  have HOWN := Lib.hid hown
  clear hinc hn hown
  go_enter Try.func58, Try.ntmps58
  go_wp2
  go_loopw [6] (fun i wr => ∃ k : Nat, 1 ≤ k ∧ (k ≤ n ∨ k = 1) ∧ i = .int .i64 k ∧ Upd [] w wr) (fun i _ => n + 1 - (intOf i).toNat)
  case atStart => exact ⟨1, Nat.le_refl 1, .inr rfl, rfl, Upd.refl _ _⟩
  case round =>
    obtain ⟨k, hk1, hk2, rfl, hu⟩ := hrel
    by_cases hlt : k < n
    · obtain ⟨p, hp⟩ : ∃ p, p = k - 1 := ⟨_, rfl⟩
      have hown2 := own_keep0 HOWN.out hu
      have hlen : k < ts.length := by have := HN.out; omega
      have c1 := own_at hown2 (i := k) hlen
      have c0 := own_at hown2 (i := p) (by omega)
      have hlt2 := inc_get HINC.out (i := p) (by omega)
      rw [show p + 1 = k by omega] at hlt2
      generalize ts.getD k 0 = x at c1 hlt2
      generalize ts.getD p 0 = y at c0 hlt2
      have i1 : IntKind.i64.wrap ((k : Int) - 1) = (p : Int) := by rw [IntWalk.i64_in _ (by omega)]; omega
      have hp0 : (0 : Int) ≤ (p : Int) := by omega
      have hpn : (p : Int) < (n : Int) := by omega
      have hkn : (k : Int) < (n : Int) := by omega
      have hk0 : (0 : Int) ≤ (k : Int) := by omega
      have hd1 : decide ((0 : Int) < (k : Int)) = true := decide_eq_true (by omega)
      have hd2 : decide (0 < k) = true := decide_eq_true (by omega)
      have hgl := block_lt_of_cell c0
      have HP := Lib.hid hp
      clear hp hown2 hlen
      go_wp2
      refine wp_loop_rounds 1 ?_
      rw [rounds_succ]
      go_wp2
      go_region_held3 (fun w' => w'.cell? ⟨g, p, none⟩ = some (.int .i64 y) ∧ w'.cell? ⟨g, k, none⟩ = some (.int .i64 x)) (first | trivial | go_keep) (first
        | (go_at_call 64; refine (less_no x y (by omega) _).mono ?_; rintro e w1 ⟨rfl, rfl⟩))
      go_wp2
      go_roundw
      case rel => exact ⟨k + 1, by omega, .inl (by omega), by go_num, by repeat (first | exact hu | refine Upd.drewN ?_ _ | refine Upd.drew ?_)⟩
      case measure => simp [intOf]; omega
    · go_wp2
      first | go_end0 | ((try simp only [Exit.inBlock, Exit.then]); refine bodyPost_ret (results_none rfl _ _ _) rfl ?_)
      exact ⟨rfl, hu⟩

set_option maxRecDepth 100000 in
theorem len64_few (n : Nat) (hn : n ≤ 12) (w : World) : Calls Try.prog 68 #[.int .u64 n] w fun e w' => (∃ r : Int, e = .returned (.int .i64 r)) ∧ w = w' := by
  rcases (show n = 0 ∨ n = 1 ∨ n = 2 ∨ n = 3 ∨ n = 4 ∨ n = 5 ∨ n = 6 ∨ n = 7 ∨ n = 8 ∨ n = 9 ∨ n = 10 ∨ n = 11 ∨ n = 12 by omega) with rfl | rfl | rfl | rfl | rfl | rfl | rfl | rfl | rfl | rfl | rfl | rfl | rfl
  all_goals
    go_enter Try.func68, Try.ntmps68
    go_wp2
    go_ret
    exact ⟨⟨_, rfl⟩, rfl⟩
theorem len_few (n : Nat) (hn : n ≤ 12) (w : World) : Calls Try.prog 55 #[.int .u64 n] w fun e w' => (∃ r : Int, e = .returned (.int .i64 r)) ∧ w = w' := by
  go_enter Try.func55, Try.ntmps55
  go_wp2_with fail
  refine (len64_few n hn _).mono ?_
  rintro e w' ⟨⟨r, rfl⟩, rfl⟩
  go_wp2
  go_ret
  exact ⟨⟨_, rfl⟩, rfl⟩

set_option maxHeartbeats 4000000 in
set_option maxRecDepth 100000 in
theorem pdq_inc (g cap base : Nat) (ts : List Int) (w : World) (n : Nat) (hn : n = ts.length) (hown : w.ownsRow base 3 1 (.slice (some ⟨g, 0, none⟩) n cap) n (ts.map (Value.int .i64))) (hinc : ts.Pairwise (· < ·)) (hm : n ≤ 12) (r : Int) :
    Calls Try.prog 54 #[.slice (some ⟨g, 0, none⟩) n cap, .int .i64 0, .int .i64 n, .int .i64 r] w fun e w' => e = .returned (.tuple #[]) ∧ Upd [] w w' := by
  have HI := Lib.hid (insertion_inc g cap base ts w n hn hown hinc (by omega))
  clear hn hown hinc
  have hd : decide ((n : Int) ≤ 12) = true := decide_eq_true (by omega)
  have hd2 : decide (n ≤ 12) = true := decide_eq_true (by omega)
  go_enter Try.func54, Try.ntmps54
  go_wp2
  refine wp_loop_rounds 1 ?_
  rw [rounds_succ]
  go_wp2_with fail
  refine HI.out.mono ?_
  rintro e w1 ⟨rfl, hu⟩
  go_wp2
  first | go_end0 | ((try simp only [Exit.inBlock, Exit.then]); refine bodyPost_ret (results_none rfl _ _ _) rfl ?_)
  exact ⟨rfl, hu⟩
set_option maxRecDepth 100000 in
theorem sort_inc (g cap base : Nat) (ts : List Int) (w : World) (n : Nat) (hn : n = ts.length) (hown : w.ownsRow base 3 1 (.slice (some ⟨g, 0, none⟩) n cap) n (ts.map (Value.int .i64))) (hinc : ts.Pairwise (· < ·)) (hm : n ≤ 12) :
    Calls Try.prog 43 #[.slice (some ⟨g, 0, none⟩) n cap] w fun e w' => e = .returned (.tuple #[]) ∧ Upd [] w w' := by
  have HI := Lib.hid (pdq_inc g cap base ts w n hn hown hinc hm)
  have hcv : IntKind.u64.wrap (n : Int) = (n : Int) := by simp [IntKind.wrap, IntKind.bits]; omega
  clear hn hown hinc
  go_enter Try.func43, Try.ntmps43
  go_wp2_with fail
  refine (len_few n hm _).mono ?_
  rintro e w1 ⟨⟨r, rfl⟩, rfl⟩
  go_wp2_with fail
  refine (HI.out r).mono ?_
  rintro e w1 ⟨rfl, hu⟩
  go_wp2
  first | go_end0 | ((try simp only [Exit.inBlock, Exit.then]); refine bodyPost_ret (results_none rfl _ _ _) rfl ?_)
  exact ⟨rfl, hu⟩
theorem sort_nil (w : World) : Calls Try.prog 43 #[.slice none 0 0] w fun e w' => e = .returned (.tuple #[]) ∧ w = w' := by
  have hi : ∀ (w : World), Calls Try.prog 58 #[.slice none 0 0, .int .i64 0, .int .i64 0] w fun e w' => e = .returned (.tuple #[]) ∧ w = w' := fun w => by
    go_enter Try.func58, Try.ntmps58
    go_wp2
    refine wp_loop_rounds 1 ?_
    rw [rounds_succ]
    go_wp2
    first | go_end0 | ((try simp only [Exit.inBlock, Exit.then]); refine bodyPost_ret (results_none rfl _ _ _) rfl ?_)
    exact ⟨rfl, rfl⟩
  have hp : ∀ (w : World) (r : Int), Calls Try.prog 54 #[.slice none 0 0, .int .i64 0, .int .i64 0, .int .i64 r] w fun e w' => e = .returned (.tuple #[]) ∧ w = w' := fun w r => by
    go_enter Try.func54, Try.ntmps54
    go_wp2
    refine wp_loop_rounds 1 ?_
    rw [rounds_succ]
    go_wp2_with fail
    refine (hi _).mono ?_
    rintro e w1 ⟨rfl, rfl⟩
    go_wp2
    first | go_end0 | ((try simp only [Exit.inBlock, Exit.then]); refine bodyPost_ret (results_none rfl _ _ _) rfl ?_)
    exact ⟨rfl, rfl⟩
  go_enter Try.func43, Try.ntmps43
  go_wp2_with fail
  refine (len_few 0 (by omega) _).mono ?_
  rintro e w1 ⟨⟨r, rfl⟩, rfl⟩
  go_wp2_with fail
  refine (hp _ r).mono ?_
  rintro e w1 ⟨rfl, rfl⟩
  go_wp2
  first | go_end0 | ((try simp only [Exit.inBlock, Exit.then]); refine bodyPost_ret (results_none rfl _ _ _) rfl ?_)
  exact ⟨rfl, rfl⟩
set_option maxHeartbeats 4000000 in
set_option maxRecDepth 100000 in
theorem compact_inc (g cap base : Nat) (ts : List Int) (w : World) (n : Nat) (hn : n = ts.length) (hown : w.ownsRow base 3 1 (.slice (some ⟨g, 0, none⟩) n cap) n (ts.map (Value.int .i64))) (hinc : ts.Pairwise (· < ·)) (hm : n ≤ 12) :
    Calls Try.prog 44 #[.slice (some ⟨g, 0, none⟩) n cap] w fun e w' => e = .returned (.slice (some ⟨g, 0, none⟩) n cap) ∧ Upd [] w w' := by
  have HINC := Lib.hid hinc
  have HN := Lib.hid hn
  have HOWN := Lib.hid hown
  clear hinc hn hown
  by_cases h2 : n < 2
  · have d2 : decide ((n : Int) < 2) = true := decide_eq_true (by omega)
    have d3 : decide (n < 2) = true := decide_eq_true (by omega)
    clear h2
    go_enter Try.func44, Try.ntmps44
    go_wp2
    go_ret
    exact ⟨rfl, Upd.refl _ _⟩
  · have d2 : decide ((n : Int) < 2) = false := decide_eq_false (by omega)
    have d3 : decide (n < 2) = false := decide_eq_false (by omega)
    go_enter Try.func44, Try.ntmps44
    go_wp2
    go_loopw [3] (fun i wr => ∃ k : Nat, 1 ≤ k ∧ k ≤ n ∧ i = .int .i64 k ∧ Upd [] w wr) (fun i _ => n + 1 - (intOf i).toNat)
    case atStart => exact ⟨1, Nat.le_refl 1, by omega, rfl, Upd.refl _ _⟩
    case round =>
      obtain ⟨k, hk1, hk2, rfl, hu⟩ := hrel
      by_cases hlt : k < n
      · obtain ⟨p, hp⟩ : ∃ p, p = k - 1 := ⟨_, rfl⟩
        have hown2 := own_keep0 HOWN.out hu
        have hlen : k < ts.length := by have := HN.out; omega
        have c1 := own_at hown2 (i := k) hlen
        have c0 := own_at hown2 (i := p) (by omega)
        have hlt2 := inc_get HINC.out (i := p) (by omega)
        rw [show p + 1 = k by omega] at hlt2
        generalize ts.getD k 0 = x at c1 hlt2
        generalize ts.getD p 0 = y at c0 hlt2
        have hne : (x == y) = false := beq_eq_false_iff_ne.2 (by omega)
        have i1 : IntKind.i64.wrap ((k : Int) - 1) = (p : Int) := by rw [IntWalk.i64_in _ (by omega)]; omega
        have hp0 : (0 : Int) ≤ (p : Int) := by omega
        have hpn : (p : Int) < (n : Int) := by omega
        have hkn : (k : Int) < (n : Int) := by omega
        have hk0 : (0 : Int) ≤ (k : Int) := by omega
        have HP := Lib.hid hp
        clear hp hown2 hlen hlt2
        go_wp2
        go_quiet (fail)
        go_wp2
        go_roundw
        case rel => exact ⟨k + 1, by omega, by omega, by go_num, by repeat (first | exact hu | refine Upd.drewN ?_ _ | refine Upd.drew ?_)⟩
        case measure => simp [intOf]; omega
      · obtain rfl : k = n := by omega
        go_wp2
        go_ret
        exact ⟨rfl, hu⟩
theorem compact_nil (w : World) : Calls Try.prog 44 #[.slice none 0 0] w fun e w' => e = .returned (.slice none 0 0) ∧ w = w' := by
  go_enter Try.func44, Try.ntmps44
  go_wp2
  go_ret
  exact ⟨rfl, rfl⟩
end Go.Proofs.YtjnhahdelipebaaH
