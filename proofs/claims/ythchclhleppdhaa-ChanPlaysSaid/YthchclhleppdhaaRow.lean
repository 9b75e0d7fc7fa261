/- Are two rows of numbers alike? -/
import Derived.Test.YthchclhleppdhaaBase
namespace Go.Proofs.Ythchclhleppdhaa
set_option linter.unusedVariables false
set_option linter.unusedSimpArgs false
open Go.RowKit

set_option maxHeartbeats 800000 in
set_option maxRecDepth 100000 in
theorem row_eq (a1 a2 : Option Addr) (c1 c2 : Nat) (xs : List Int) (w : World) (h1 : Rd w (.slice a1 xs.length c1) xs.length (xs.map (Value.int .i64))) (h2 : Rd w (.slice a2 xs.length c2) xs.length (xs.map (Value.int .i64))) (hm : xs.length ≤ 9223372036854775807) :
    Calls Try.prog 19 #[.slice a1 xs.length c1, .slice a2 xs.length c2] w fun e w' => e = .returned (.bool true) ∧ ∃ n, w' = w.drewN n := by
  go_enter Try.func19, Try.ntmps19
  go_wp2
  go_loopw [5] (fun i wr => ∃ k m : Nat, k ≤ xs.length ∧ i = .int .i64 k ∧ wr = w.drewN m) (fun i _ => xs.length - (intOf i).toNat)
  case atStart => exact ⟨0, 0, Nat.zero_le _, rfl, rfl⟩
  case round =>
    obtain ⟨k, m, hk, rfl, rfl⟩ := hrel
    by_cases hlt : k < xs.length
    · have hc := get_ints hlt
      generalize xs.getD k 0 = y at hc
      obtain ⟨b1, o1, rfl, hcell1⟩ := h1.at (by omega)
      obtain ⟨b2, o2, rfl, hcell2⟩ := h2.at (by omega)
      have g1 := hcell1 k _ hc
      have g2 := hcell2 k _ hc
      have hneq : (y != y) = false := by simp
      clear hc hcell1 hcell2 h1 h2
      go_wp2
      go_quiet (fail)
      go_wp2
      go_roundw
      case rel => exact ⟨k + 1, _, by omega, by go_num, rfl⟩
      case measure => simp [intOf]; omega
    · obtain rfl : k = xs.length := by omega
      go_wp2
      go_ret
      exact ⟨rfl, _, rfl⟩

set_option maxHeartbeats 800000 in
set_option maxRecDepth 100000 in
theorem row_ne (a1 a2 : Option Addr) (c1 c2 : Nat) (xs ys : List Int) (w : World) (h1 : Rd w (.slice a1 xs.length c1) xs.length (xs.map (Value.int .i64))) (h2 : Rd w (.slice a2 ys.length c2) ys.length (ys.map (Value.int .i64))) (hm : xs.length ≤ 9223372036854775807) (hne : xs ≠ ys) :
    Calls Try.prog 19 #[.slice a1 xs.length c1, .slice a2 ys.length c2] w fun e w' => e = .returned (.bool false) ∧ ∃ n, w' = w.drewN n := by
  by_cases hl : xs.length = ys.length
  · have hb : ((xs.length : Int) != (ys.length : Int)) = false := by simp [hl]
    have hb2 : (xs.length == ys.length) = true := by simp [hl]
    have HL := Lib.hid hl
    clear hl
    go_enter Try.func19, Try.ntmps19
    go_wp2
    go_loopw [5] (fun i wr => ∃ k m : Nat, k ≤ xs.length ∧ i = .int .i64 k ∧ wr = w.drewN m ∧ ∀ j, j < k → xs.getD j 0 = ys.getD j 0) (fun i _ => xs.length - (intOf i).toNat)
    case atStart => exact ⟨0, 0, Nat.zero_le _, rfl, rfl, fun j hj => by omega⟩
    case round =>
      obtain ⟨k, m, hk, rfl, rfl, hsame⟩ := hrel
      by_cases hlt : k < xs.length
      · have hl := HL.out
        have hc := get_ints hlt
        have hc2 := get_ints (show k < ys.length by omega)
        have HS := Lib.hid hsame
        clear hsame
        by_cases he : xs.getD k 0 = ys.getD k 0
        · have HE := Lib.hid he
          rw [← he] at hc2
          generalize hy : xs.getD k 0 = y at hc hc2
          clear he
          obtain ⟨b1, o1, rfl, hcell1⟩ := h1.at (by omega)
          obtain ⟨b2, o2, rfl, hcell2⟩ := h2.at (by omega)
          have g1 := hcell1 k _ hc
          have g2 := hcell2 k _ hc2
          have hneq : (y != y) = false := by simp
          have hkl : k < ys.length := by omega
          clear hc hc2 hcell1 hcell2 h1 h2 hy hl
          go_wp2
          go_quiet (fail)
          go_wp2
          go_roundw
          case rel => exact ⟨k + 1, _, by omega, by go_num, rfl, fun j hj => by
            rcases Nat.lt_or_ge j k with h | h
            · exact HS.out j h
            · obtain rfl : j = k := by omega
              exact HE.out⟩
          case measure => simp [intOf]; omega
        · generalize hy : xs.getD k 0 = y at hc he
          generalize hz : ys.getD k 0 = z at hc2 he
          obtain ⟨b1, o1, rfl, hcell1⟩ := h1.at (by omega)
          obtain ⟨b2, o2, rfl, hcell2⟩ := h2.at (by omega)
          have g1 := hcell1 k _ hc
          have g2 := hcell2 k _ hc2
          have hneq : (y != z) = true := by simpa using he
          have hkl : k < ys.length := by omega
          clear hc hc2 hcell1 hcell2 h1 h2 hy hz hl he
          go_wp2
          go_quiet (fail)
          go_wp2
          go_ret
          exact ⟨rfl, _, World.drewN_drewN ..⟩
      · exfalso
        obtain rfl : k = xs.length := by omega
        refine hne (List.ext_getElem HL.out fun j h1 h2 => ?_)
        have := hsame j h1
        simpa [List.getD, h1, h2] using this
  · have hb : ((xs.length : Int) != (ys.length : Int)) = true := by simp; omega
    have hb2 : (xs.length == ys.length) = false := by simpa using hl
    clear hl
    go_enter Try.func19, Try.ntmps19
    go_wp2
    go_ret
    exact ⟨rfl, 0, rfl⟩
end Go.Proofs.Ythchclhleppdhaa
