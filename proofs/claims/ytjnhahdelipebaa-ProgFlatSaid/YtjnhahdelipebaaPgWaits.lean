/- slices.ContainsFunc over ops with op.Waits. -/
import Derived.Test.YtjnhahdelipebaaTakeMem
import Derived.Test.YtjnhahdelipebaaOpCases
namespace Go.Proofs.Ytjnhahdelipebaa.XA
open Go.RowKit Go.Proofs.YtjnhahdelipebaaW.PrintWords Go.Proofs.YtjnhahdelipebaaW.PrintLast Go.Proofs.YtjnhahdelipebaaW.PrintMore
set_option linter.unusedVariables false
set_option linter.unusedSimpArgs false
open Go.Proofs.YtjnhahdelipebaaH (Upd Rd)
def waitsO (o : S52) : Bool := decide ((o.f0 = 4 ∨ o.f0 = 5 ∨ o.f0 = 7) ∧ o.f3 ≠ 0)
def idxW (l : List S52) : Option Nat := l.findIdx? waitsO
set_option maxHeartbeats 1600000 in
set_option maxRecDepth 100000 in
theorem indexW_any (A : Option Addr) (N cap : Nat) (q : List S52) (hN : q.length = N) (w : World) (hq : Kd.C k52 w A N q) (hmq : N ≤ 1000000) :
    Calls Try.prog 53 #[.slice A N cap, .func (.func 42) #[] #[]] w fun e w' => e = .returned (.int .i64 (optN (idxW q))) ∧ Below w.heap.size w w' := by
  have HN := Lib.hid hN
  have HQ := Lib.hid hq
  clear hN hq
  go_enter Try.func53, Try.ntmps53
  go_wp2
  go_loopw [8] (fun i wr => ∃ k : Nat, k ≤ N ∧ i = .int .i64 k ∧ Below w.heap.size w wr ∧ Hid (∀ j, j < k → waitsO (rd_T52 q j) = false)) (fun i _ => N - (intOf i).toNat)
  case atStart => exact ⟨0, Nat.zero_le _, rfl, Below.refl _ _, Lib.hid (fun j hj => absurd hj (Nat.not_lt_zero _))⟩
  case round =>
    obtain ⟨k, hk, rfl, hupd, HNO⟩ := hrel
    by_cases hlt : k < N
    · have hkl : k < q.length := by rw [HN.out]; exact hlt
      obtain ⟨ad, A4, c4, rfl, x0, x1, x2, x3, x4, hc4, hC4⟩ := at_T52 (Kd.C_below HQ.out hupd) k (by omega) (by omega)
      obtain ⟨y, hy⟩ : ∃ y, y = rd_T52 q k := ⟨_, rfl⟩
      rw [← hy] at x0 x1 x2 x3 x4
      simp only [Int.toNat_natCast] at x0 x1 x2 x3 x4
      have HY := Lib.hid hy
      obtain ⟨pr, hpr⟩ : ∃ pr, decide ((y.f0 = 4 ∨ y.f0 = 5 ∨ y.f0 = 7) ∧ y.f3 ≠ 0) = pr := ⟨_, rfl⟩
      have HPR := Lib.hid hpr
      clear hy hC4 hc4 hpr
      go_wp2_with fail
      refine (pWaits_any y.f0 y.f1 y.f2 y.f3 A4 _ c4 _ pr HPR.out).mono ?_
      rintro e w1 ⟨rfl, hu1⟩
      have hupd1 := below_step hupd hu1
      clear x0 x1 x2 x3 x4 hu1
      have HPW : Hid (waitsO (rd_T52 q k) = pr) := Lib.hid (by rw [← HY.out]; exact HPR.out)
      cases pr with
      | true =>
        go_wp2
        go_ret
        refine ⟨ret_i64 (a := (k : Int)) ?_, hupd1⟩
        have : idxW q = some k := by
          rw [idxW, List.findIdx?_eq_some_iff_getElem]
          refine ⟨hkl, ?_, fun j hj => ?_⟩
          · have h := HPW.out
            simpa [rd_T52, List.getD, hkl] using h
          · have h := HNO.out j hj
            have hjl : j < q.length := by omega
            simpa [rd_T52, List.getD, hjl] using h
        rw [this]
        rfl
      | false =>
        go_wp2
        go_roundw
        case rel =>
          refine ⟨k + 1, by omega, by go_num, hupd1, Lib.hid fun j hj => ?_⟩
          rcases Nat.lt_or_ge j k with h | h
          · exact HNO.out j h
          · obtain rfl : j = k := by omega
            exact HPW.out
        case measure => simp [intOf]; omega
    · obtain rfl : k = N := by omega
      go_wp2
      go_ret
      refine ⟨ret_i64 (a := -1) ?_, hupd⟩
      have : idxW q = none := by
        rw [idxW, List.findIdx?_eq_none_iff]
        intro x hx
        obtain ⟨j, hj, rfl⟩ := List.getElem_of_mem hx
        have h := HNO.out j (by rw [← HN.out]; exact hj)
        simpa [rd_T52, List.getD, hj] using h
      rw [this]
      rfl
theorem containsW_any (A : Option Addr) (N cap : Nat) (q : List S52) (hN : q.length = N) (w : World) (hq : Kd.C k52 w A N q) (hmq : N ≤ 1000000) (r : Bool) (hr : q.any waitsO = r) :
    Calls Try.prog 41 #[.slice A N cap, .func (.func 42) #[] #[]] w fun e w' => e = .returned (.bool r) ∧ Below w.heap.size w w' := by
  have HI := Lib.hid (indexW_any A N cap q hN w hq hmq)
  have hd : decide (optN (idxW q) ≥ 0) = r := by
    rw [← hr]
    cases hi : idxW q with
    | none =>
      rw [idxW, List.findIdx?_eq_none_iff] at hi
      have : q.any waitsO = false := by
        rw [List.any_eq_false]
        intro x hx
        simpa using hi x hx
      rw [this]
      rfl
    | some k =>
      rw [idxW, List.findIdx?_eq_some_iff_getElem] at hi
      obtain ⟨hk, hp, _⟩ := hi
      have : q.any waitsO = true := by
        rw [List.any_eq_true]
        exact ⟨q[k], List.getElem_mem hk, hp⟩
      rw [this]
      simp [optN]
  obtain ⟨v, hv⟩ : ∃ v, v = optN (idxW q) := ⟨_, rfl⟩
  rw [← hv] at hd HI
  have HD := Lib.hid hd
  clear hd hv hr hN hq
  go_enter Try.func41, Try.ntmps41
  go_wp2_with fail
  refine HI.out.mono ?_
  rintro e w1 ⟨rfl, hu1⟩
  go_wp2
  go_ret
  exact ⟨ret_bl0 HD.out, hu1⟩
theorem progWaits_any (A : Option Addr) (N cap : Nat) (q : List S52) (hN : q.length = N) (w : World) (hq : Kd.C k52 w A N q) (hmq : N ≤ 1000000) (r : Bool) (hr : q.any waitsO = r) :
    Calls Try.prog 20 #[.slice A N cap] w fun e w' => e = .returned (.bool r) ∧ Below w.heap.size w w' := by
  have HI := Lib.hid (containsW_any A N cap q hN w hq hmq r hr)
  clear hr hN hq
  go_enter Try.func20, Try.ntmps20
  go_wp2_with fail
  refine HI.out.mono ?_
  rintro e w1 ⟨rfl, hu1⟩
  go_wp2
  go_ret
  exact ⟨rfl, hu1⟩
end Go.Proofs.Ytjnhahdelipebaa.XA
