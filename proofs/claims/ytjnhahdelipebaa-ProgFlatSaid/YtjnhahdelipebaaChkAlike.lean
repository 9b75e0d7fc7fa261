/- Are rows of locks alike? May an op wait? -/
import Derived.Test.YtjnhahdelipebaaChkMem
import Derived.Deep.QuietTactic
import Derived.BigQuiet
namespace Go.Proofs.Ytjnhahdelipebaa.XA
set_option linter.unusedVariables false
set_option linter.unusedSimpArgs false
open Go.RowKit Go.Proofs.YtjnhahdelipebaaW.PrintWords Go.Proofs.YtjnhahdelipebaaW.PrintLast Go.Proofs.YtjnhahdelipebaaW.PrintMore
theorem ret_bl {a b : Bool} (h : a = b) : Ending.returned (.bool a) = .returned (.bool b) := by rw [h]
set_option maxHeartbeats 4000000 in
set_option maxRecDepth 100000 in
theorem alike_any (A1 : Option Addr) (c1 : Nat) (l : List Int) (A2 : Option Addr) (c2 : Nat) (m : List Int) (w : World) (h1 : Kd.C (Kd.int .i64) w A1 l.length l) (h2 : Kd.C (Kd.int .i64) w A2 m.length m) (hm : m.length ≤ 1000000000) (r : Bool) (hr : r = decide (l = m)) :
    Calls Try.prog 36 #[.slice A1 l.length c1, .slice A2 m.length c2] w fun e w' => e = .returned (.bool r) ∧ ∃ n, w' = w.drewN n := by
  have HR := Lib.hid hr
  have H1 := Lib.hid h1
  have H2 := Lib.hid h2
  clear hr h1 h2
  obtain ⟨p, hp⟩ : ∃ p, p = l.length := ⟨_, rfl⟩
  obtain ⟨q, hq⟩ : ∃ q, q = m.length := ⟨_, rfl⟩
  have HP := Lib.hid hp
  have HQ := Lib.hid hq
  rw [← hp, ← hq]
  rw [← hq] at hm
  by_cases e : p = q
  · subst e
    have hpp : ((p : Int) != (p : Int)) = false := by simp
    clear hp hq
    go_enter Try.func36, Try.ntmps36
    go_wp2
    go_loopw [5] (fun i wr => ∃ k n : Nat, k ≤ p ∧ i = .int .i64 k ∧ wr = w.drewN n ∧ Hid (∀ j, j < k → l.getD j 0 = m.getD j 0)) (fun i _ => p - (intOf i).toNat)
    case atStart => exact ⟨0, 0, Nat.zero_le _, rfl, rfl, Lib.hid (fun j hj => absurd hj (Nat.not_lt_zero _))⟩
    case round =>
      obtain ⟨k, nn, hk, rfl, rfl, HS⟩ := hrel
      by_cases hlt : k < p
      · obtain ⟨a1, rfl, x1⟩ := Kd.at_int H1.out k (by omega) (by rw [← HP.out]; omega)
        obtain ⟨a2, rfl, x2⟩ := Kd.at_int H2.out k (by omega) (by rw [← HQ.out]; omega)
        have r1 : rd l (k : Int) = l.getD k 0 := by simp [rd]
        have r2 : rd m (k : Int) = m.getD k 0 := by simp [rd]
        rw [r1] at x1
        rw [r2] at x2
        simp only [Int.toNat_natCast] at x1 x2
        have hk0 : (0 : Int) ≤ (k : Int) := by omega
        have hk1 : (k : Int) < (p : Int) := by omega
        obtain ⟨y, hy⟩ : ∃ y, y = l.getD k 0 := ⟨_, rfl⟩
        obtain ⟨z, hz⟩ : ∃ z, z = m.getD k 0 := ⟨_, rfl⟩
        rw [← hy] at x1
        rw [← hz] at x2
        have HY := Lib.hid hy
        have HZ := Lib.hid hz
        clear hy hz r1 r2
        by_cases hyz : y = z
        · have t : (y != z) = false := by simp [hyz]
          have HYZ := Lib.hid hyz
          clear hyz
          go_wp2
          go_quiet (fail)
          go_wp2
          go_roundw
          case rel => exact ⟨k + 1, _, by omega, by go_num, rfl, Lib.hid (fun j hj => by
            rcases Nat.lt_or_ge j k with h | h
            · exact HS.out j h
            · obtain rfl : j = k := by omega
              rw [← HY.out, ← HZ.out, HYZ.out])⟩
          case measure => simp [intOf]; omega
        · have t : (y != z) = true := bne_iff_ne.2 hyz
          have HYZ := Lib.hid hyz
          clear hyz
          go_wp2
          go_quiet (fail)
          go_wp2
          go_ret
          have hne : l ≠ m := fun c => HYZ.out (by rw [HY.out, HZ.out, c])
          exact ⟨ret_bl (a := false) (by rw [HR.out, decide_eq_false hne]), _, World.drewN_drewN ..⟩
      · obtain rfl : k = p := by omega
        go_wp2
        go_ret
        have : l = m := List.ext_getElem (by rw [← HP.out, ← HQ.out]) fun j h1 h2 => by
          have := HS.out j (by rw [HP.out]; exact h1)
          simpa [List.getD, h1, h2] using this
        exact ⟨ret_bl (a := true) (by rw [HR.out, decide_eq_true this]), _, rfl⟩
  · have t : ((p : Int) != (q : Int)) = true := by simp; omega
    have hne : l ≠ m := fun c => e (by rw [hp, hq, c])
    have HE := Lib.hid (HR.out.trans (decide_eq_false hne))
    clear hp hq hne e
    go_enter Try.func36, Try.ntmps36
    go_wp2
    go_ret
    exact ⟨ret_bl (a := false) HE.out.symm, 0, rfl⟩
set_option maxHeartbeats 4000000 in
set_option maxRecDepth 100000 in
theorem opWaits_any (k n v wt : Int) (A : Option Addr) (m c : Nat) (w : World) (hk : k = 4 ∨ k = 5 ∨ k = 7) (r : Bool) (hr : (wt != 0) = r) :
    Calls Try.prog 37 #[.agg #[.int .i64 k, .int .i64 n, .int .i64 v, .int .i64 wt, .slice A m c]] w fun e w' => e = .returned (.bool r) ∧ Below w.heap.size w w' := by
  rcases hk with rfl | rfl | rfl
  all_goals
    go_enter Try.func37, Try.ntmps37
    go_wp2
    go_ret
    exact ⟨rfl, (Below.refl _ _).alloc (Nat.le_refl _) _⟩
end Go.Proofs.Ytjnhahdelipebaa.XA
