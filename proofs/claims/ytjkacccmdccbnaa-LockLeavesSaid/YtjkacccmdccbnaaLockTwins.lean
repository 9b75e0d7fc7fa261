/- A twin of a lock goes on by itself: what is taken and given there is not here. -/
import Derived.Test.YtjkacccmdccbnaaLockKnown
import Derived.Test.YtjkacccmdccbnaaLockPure
namespace Go.Proofs.Ytjkacccmdccbnaa
set_option linter.unusedVariables false
set_option linter.unusedSimpArgs false
open Go.RowKit

/-- Those behind i of the first k wait. -/
abbrev qgt (k i : Nat) : List Wt := qp k (fun x => decide (i < x))

theorem qgt_take {i : Nat} (h : 0 < i) : qgt i 0 ++ [⟨i, 0, i, 0⟩] = qgt (i + 1) 0 := by
  rw [qgt, qgt, qp_succ, decide_eq_true h]
  rfl
theorem qgt_any {k i t : Nat} (h : k ≤ t) : ((qgt k i).any fun x => x.task == (t : Int)) = false := by
  rw [any_qp, decide_eq_false (by omega)]
  rfl
theorem qgt_len (k i : Nat) : (qgt k i).length = k - 1 - i := qp_gt_len k i
theorem qgt_leave (k i : Nat) : leave (qgt k i) ((i + 1 : Nat) : Int) = qgt k (i + 1) := by
  rw [qgt, leave_qp]
  refine qp_congr fun j _ => ?_
  by_cases h : i + 1 < j
  · simp [h]; omega
  · simp [h]; omega
theorem qgt_best {k i : Nat} (h : i + 1 < k) : ∃ b, bestTo [] (qgt k i) (qgt k i).length = some b ∧ (qgt k i)[b]? = some (mkw (i + 1)) := by
  obtain ⟨b, j, h1, h2, h3, h4, h5⟩ := qp_best [] k (fun x => decide (i < x)) ⟨i + 1, h, by simp⟩
  have := (h5 (i + 1) h (by simp)).2 (by rw [prioOf_nil, prioOf_nil])
  have h4 : i < j := by simpa using h4
  obtain rfl : j = i + 1 := by omega
  exact ⟨b, h1, h2⟩

set_option maxHeartbeats 3200000 in
set_option maxRecDepth 100000 in
theorem lockTwins_walk (n m : Int) (hn0 : 0 ≤ n) (hn1 : n ≤ 255) (hm0 : 0 ≤ m) (hm1 : m ≤ 255) (w : World) :
    Calls Try.prog 6 #[.int .u8 n, .int .u8 m] w fun e w' => e = .returned (.bool true) ∧ Upd [] w w' := by
  obtain ⟨k0, hk0⟩ := Int.eq_ofNat_of_zero_le (show 0 ≤ n % 10 by omega)
  obtain ⟨k, hk⟩ : ∃ k, k = k0 + 1 := ⟨_, rfl⟩
  have hk1 : (1 : Int) + (k0 : Int) = (k : Int) := by omega
  have hk10 : k ≤ 10 := by omega
  have hkp : 1 ≤ k := by omega
  clear hk
  go_enter Try.func6, Try.ntmps6
  go_wp2_with fail
  refine (known17_ok _).mono ?_
  rintro e w1 ⟨rfl, hU⟩
  go_wp2_with fail
  refine (newLock_any _).mono ?_
  rintro e w2 ⟨p, rfl, hL, hu, hp⟩
  have hpw : w.heap.size ≤ p := Nat.le_trans hU.size hp
  replace hU : Upd [] w w2 := hU.trans0 hu
  clear hu hp
  go_wp2
  have HK1 := Lib.hid hk1
  have HK0 := Lib.hid hk0
  clear hk1 hk0
  go_loopw [7] (fun i wr => ∃ (j : Nat), j ≤ k ∧ i = .int .i64 j ∧ LockP wr p (if j = 0 then -1 else 0) (qgt j 0) ∧ Upd [] w wr) (fun i _ => k - (intOf i).toNat)
  case atStart => exact ⟨0, Nat.zero_le _, rfl, hL, hU⟩
  case round =>
    clear hL hU
    obtain ⟨j, hj, rfl, hL, hU⟩ := hrel
    by_cases hlt : j < k
    · have hll := qgt_len j 0
      have HLL := Lib.hid hll
      clear hll
      by_cases hj0 : j = 0
      · subst hj0
        go_wp2_with fail
        refine (take_free p [] 0 0 _ hL (by simp) (by omega) rfl).mono ?_
        rintro e w3 ⟨rfl, hL3, hu⟩
        replace hU : Upd [] w w3 := hU.trans hu (fun x hx hl => by simp at hx; omega)
        clear hL hu
        go_wp2
        go_roundw
        case rel => exact ⟨1, by omega, by first | rfl | go_num, hL3, hU⟩
        case measure => (simp [intOf]; try omega)
      · rw [if_neg hj0] at hL
        go_wp2_with fail
        refine (take_wait p 0 (qgt j 0) j j _ hL (by rw [HLL.out]; omega) (by omega) (by omega) (by omega) (qgt_any (Nat.le_refl _))).mono ?_
        rintro e w3 ⟨rfl, hL3, hu⟩
        rw [qgt_take (by omega)] at hL3
        replace hU : Upd [] w w3 := hU.trans hu (fun x hx hl => by simp at hx; omega)
        clear hL hu
        go_wp2
        go_roundw
        case rel => exact ⟨j + 1, by omega, by go_num, by rw [if_neg (by omega)]; exact hL3, hU⟩
        case measure => simp [intOf]; omega
    · obtain rfl : j = k := by omega
      rw [if_neg (by omega)] at hL
      have hlen := qgt_len j 0
      have HLEN := Lib.hid hlen
      obtain ⟨i, him⟩ := Int.eq_ofNat_of_zero_le (show 0 ≤ m % ((j : Int) + 1) by exact Int.emod_nonneg _ (by omega))
      have hij : i ≤ j := by
        have := Int.emod_lt_of_pos m (show (0 : Int) < (j : Int) + 1 by omega)
        omega
      clear hj hlt hlen
      go_wp2_with fail
      refine (twinLock_any p 0 (qgt j 0) _ hL (by rw [HLEN.out]; omega)).mono ?_
      rintro e w3 ⟨t, rfl, hT, hu, ht⟩
      have hpl := hL.lt
      have hL3 := hL.step hu
      replace hU : Upd [] w w3 := hU.trans0 hu
      clear hL hu
      go_wp2
      rw [him]
      clear him
      go_loopw [10] (fun i' wr => ∃ (x : Nat), x ≤ i ∧ i' = .int .i64 x ∧ LockP wr t (if x = j then -1 else x) (qgt j x) ∧ LockP wr p 0 (qgt j 0) ∧ Upd [] w wr) (fun i' _ => i - (intOf i').toNat)
      case atStart => exact ⟨0, Nat.zero_le _, rfl, by rw [if_neg (by omega)]; exact hT, hL3, hU⟩
      case round =>
        clear hT hL3 hU
        obtain ⟨x, hx, rfl, hT, hL, hU⟩ := hrel
        have hpt : p ≠ t := by omega
        by_cases hlt : x < i
        · rw [if_neg (show ¬ x = j by omega)] at hT
          have hil := qgt_len j x
          have HIL := Lib.hid hil
          clear hil
          by_cases hik : x + 1 < j
          · obtain ⟨b, hb, hbx⟩ := qgt_best (k := j) (i := x) hik
            have hd1 : decide ((x : Int) + 1 < (j : Int)) = true := decide_eq_true (by omega)
            have hd2 : ((x : Int) + 1 == (j : Int)) = false := beq_eq_false_iff_ne.2 (by omega)
            have HB := Lib.hid hb
            have HBX := Lib.hid hbx
            clear hb hbx
            go_wp2_with fail
            refine (give_some t x (qgt j x) b (mkw (x + 1)) none 0 [] _ hT (by rw [HIL.out]; omega) (Rd.nil _) (fun k hk _ => by simp [Value.ownBlock] at hk) (by simp) (by omega) HB.out HBX.out).mono ?_
            rintro e w4 ⟨rfl, hT4, hu⟩
            have hT5 : LockP w4 t ((x + 1 : Nat) : Int) (qgt j (x + 1)) := by rw [← qgt_leave]; exact hT4
            have hL4 := hL.keep hu (by simpa using hpt) hT.notT
            replace hU : Upd [] w w4 := hU.trans hu (fun x hx hl => by simp at hx; omega)
            clear hT hL hu hT4
            simp only [mkw]
            go_wp2
            go_roundw
            case rel => exact ⟨x + 1, by omega, by go_num, by rw [if_neg (by omega)]; exact hT5, hL4, hU⟩
            case measure => simp [intOf]; omega
          · have hxj : j = x + 1 := by omega
            have hq0 : qgt j x = [] := List.eq_nil_of_length_eq_zero (by rw [HIL.out]; omega)
            rw [hq0] at hT
            have hq1 : qgt j j = [] := List.eq_nil_of_length_eq_zero (by rw [qgt_len]; omega)
            have HQ := Lib.hid hq1
            have hd1 : decide ((x : Int) + 1 < (j : Int)) = false := decide_eq_false (by omega)
            have hd2 : ((x : Int) + 1 == (j : Int)) = true := beq_iff_eq.2 (by omega)
            have HXJ := Lib.hid hxj
            clear hq0 hq1 hxj
            go_wp2_with fail
            refine (give_none t x none 0 [] _ hT (Rd.nil _) (fun k hk _ => by simp [Value.ownBlock] at hk) (by simp) (by omega)).mono ?_
            rintro e w4 ⟨rfl, hT4, hu⟩
            have hL4 := hL.keep hu (by simpa using hpt) hT.notT
            replace hU : Upd [] w w4 := hU.trans hu (fun x hx hl => by simp at hx; omega)
            clear hT hL hu
            go_wp2
            go_roundw
            case rel => exact ⟨j, by have := HXJ.out; omega, by first | rfl | (have := HXJ.out; go_num), by rw [if_pos rfl, HQ.out]; exact hT4, hL4, hU⟩
            case measure => have := HXJ.out; simp [intOf]; omega
        · obtain rfl : x = i := by omega
          have hl1 := qgt_len j 0
          have hl2 := qgt_len j x
          have HM1 := Lib.hid hl1
          have HM2 := Lib.hid hl2
          clear hl1 hl2 hlt hx
          have hmx : ∃ y : Nat, Hid (y = j - 1 - x) ∧ ∀ (ts : Array TypeId) (t : TypeId) (W : World), (Builtin.max_ ts t #[.int .i64 0, .int .i64 ((j : Int) - 1 - (x : Int))]).run Try.prog W = .ok (.int .i64 y) W := by
            refine ⟨j - 1 - x, rfl, fun ts t W => ?_⟩
            rw [run_max_int2]
            congr 2
            split <;> omega
          obtain ⟨y, HY, hmax⟩ := hmx
          obtain ⟨o, ho, ho2⟩ : ∃ o : Int, LockP wr t o (qgt j x) ∧ Hid (o = if x = j then -1 else (x : Int)) := ⟨_, hT, rfl⟩
          clear hT
          by_cases hik : x = j
          · subst hik
            have ho3 := ho2.out
            rw [if_pos rfl] at ho3
            subst ho3
            go_wp2_with fail
            refine (owner_any p 0 _ _ hL).mono ?_
            rintro e w4 ⟨rfl, rfl⟩
            go_wp2_with fail
            refine (waiters_any p 0 _ _ hL (by rw [HM1.out]; omega)).mono ?_
            rintro e w4 ⟨a4, c4, rfl, _, hu⟩
            have hT4 := ho.step hu
            replace hU : Upd [] w w4 := hU.trans0 hu
            obtain ⟨L1, hL1⟩ : ∃ L1, L1 = (qgt x 0).length := ⟨_, rfl⟩
            rw [← hL1]
            have hd3 : ((L1 : Int) == (x : Int) - 1) = true := beq_iff_eq.2 (by have := HM1.out; omega)
            clear hL ho hu hL1
            go_wp2_with fail
            refine (owner_any t (-1) _ _ hT4).mono ?_
            rintro e w5 ⟨rfl, rfl⟩
            go_wp2_with fail
            refine (waiters_any t (-1) _ _ hT4 (by rw [HM2.out]; omega)).mono ?_
            rintro e w5 ⟨a5, c5, rfl, _, hu⟩
            replace hU : Upd [] w w5 := hU.trans0 hu
            obtain ⟨L2, hL2⟩ : ∃ L2, L2 = (qgt x x).length := ⟨_, rfl⟩
            rw [← hL2]
            have hd6 : ((L2 : Int) == (y : Int)) = true := beq_iff_eq.2 (by have := HM2.out; have := HY.out; omega)
            clear hT4 hu hL2
            go_wp2
            go_ret
            exact ⟨rfl, hU⟩
          · have hd5 : ((x : Int) == (j : Int)) = false := beq_eq_false_iff_ne.2 (by omega)
            have ho3 := ho2.out
            rw [if_neg hik] at ho3
            subst ho3
            go_wp2_with fail
            refine (owner_any p 0 _ _ hL).mono ?_
            rintro e w4 ⟨rfl, rfl⟩
            go_wp2_with fail
            refine (waiters_any p 0 _ _ hL (by rw [HM1.out]; omega)).mono ?_
            rintro e w4 ⟨a4, c4, rfl, _, hu⟩
            have hT4 := ho.step hu
            replace hU : Upd [] w w4 := hU.trans0 hu
            obtain ⟨L1, hL1⟩ : ∃ L1, L1 = (qgt j 0).length := ⟨_, rfl⟩
            rw [← hL1]
            have hd3 : ((L1 : Int) == (j : Int) - 1) = true := beq_iff_eq.2 (by have := HM1.out; omega)
            clear hL ho hu hL1
            go_wp2_with fail
            refine (owner_any t x _ _ hT4).mono ?_
            rintro e w5 ⟨rfl, rfl⟩
            go_wp2_with fail
            refine (waiters_any t x _ _ hT4 (by rw [HM2.out]; omega)).mono ?_
            rintro e w5 ⟨a5, c5, rfl, _, hu⟩
            replace hU : Upd [] w w5 := hU.trans0 hu
            obtain ⟨L2, hL2⟩ : ∃ L2, L2 = (qgt j x).length := ⟨_, rfl⟩
            rw [← hL2]
            have hd6 : ((L2 : Int) == (y : Int)) = true := beq_iff_eq.2 (by have := HM2.out; have := HY.out; omega)
            clear hT4 hu hL2
            go_wp2
            go_ret
            exact ⟨rfl, hU⟩

theorem lockTwins_law (n m : Int) (w : World) (h0 : (Lit.int .u8 n).wf = true) (h1 : (Lit.int .u8 m).wf = true) :
    Calls Try.prog 6 #[.int .u8 n, .int .u8 m] w fun e w' => e = .returned (.bool true) ∧ Upd [] w w' :=
  lockTwins_walk n m (wf_u8 h0).1 (wf_u8 h0).2 (wf_u8 h1).1 (wf_u8 h1).2 w
end Go.Proofs.Ytjkacccmdccbnaa
