/- op.cases: what is wrong with a select's cases. -/
import Derived.Test.YtjnhahdelipebaaXAx0
import Derived.Test.YtjnhahdelipebaaHBase
import Derived.Test.YtjnhahdelipebaaOpKinds
import Derived.IntWalk
namespace Go.Proofs.Ytjnhahdelipebaa.XA
open Go.RowKit Go.Proofs.YtjnhahdelipebaaW.PrintWords Go.Proofs.YtjnhahdelipebaaW.PrintLast Go.Proofs.YtjnhahdelipebaaW.PrintMore
set_option linter.unusedVariables false
set_option linter.unusedSimpArgs false
open Go.Proofs.YtjnhahdelipebaaH (Upd Rd)
theorem ret_bl0 {a b : Bool} (h : a = b) : Ending.returned (.bool a) = .returned (.bool b) := by rw [h]
theorem casesClosure_any (f0 : Bool) (f1 f2 : Int) (bt : Nat) (t : Int) (W : World) (hb : W.cell? ⟨bt, 1, none⟩ = some (.int .i64 t)) :
    Calls Try.prog 57 #[.agg #[.bool f0, .int .i64 f1, .int .i64 f2], .pointer (some ⟨bt, 0, none⟩)] W fun e w' => e = .returned (.bool (f1 == t)) ∧ Upd [] W w' := by
  have hlt : bt < W.heap.size := block_lt_of_cell hb
  go_enter Try.func57, Try.ntmps57
  go_wp2
  go_ret
  exact ⟨rfl, (Upd.refl _ _).alloc _⟩
def idxC (l : List S84) (t : Int) : Option Nat := l.findIdx? fun c => c.f1 == t
def optN : Option Nat → Int
  | none => -1
  | some k => k
set_option maxHeartbeats 1600000 in
set_option maxRecDepth 100000 in
theorem indexC_any (bt : Nat) (t : Int) (A : Option Addr) (N cap : Nat) (q : List S84) (hN : q.length = N) (w : World) (hq : Kd.C k84 w A N q) (hmq : N ≤ 1000000) (hb : w.cell? ⟨bt, 1, none⟩ = some (.int .i64 t)) :
    Calls Try.prog 69 #[.slice A N cap, .func (.func 57) #[] #[.pointer (some ⟨bt, 0, none⟩)]] w fun e w' => e = .returned (.int .i64 (optN (idxC q t))) ∧ Upd [] w w' := by
  have HB := Lib.hid hb
  have HN := Lib.hid hN
  have HQ := Lib.hid hq
  clear hb hN hq
  go_enter Try.func69, Try.ntmps69
  go_wp2
  go_loopw [8] (fun i wr => ∃ k : Nat, k ≤ N ∧ i = .int .i64 k ∧ Upd [] w wr ∧ Hid (∀ j, j < k → ((rd_T84 q j).f1 == t) = false)) (fun i _ => N - (intOf i).toNat)
  case atStart => exact ⟨0, Nat.zero_le _, rfl, Upd.refl _ _, Lib.hid (fun j hj => absurd hj (Nat.not_lt_zero _))⟩
  case round =>
    obtain ⟨k, hk, rfl, hupd, HNO⟩ := hrel
    by_cases hlt : k < N
    · have hkl : k < q.length := by rw [HN.out]; exact hlt
      obtain ⟨ad, rfl, y0, y1, y2⟩ := at_T84 (Kd.C_below HQ.out hupd.below) k (by omega) (by omega)
      obtain ⟨y, hy⟩ : ∃ y, y = rd_T84 q k := ⟨_, rfl⟩
      rw [← hy] at y0 y1 y2
      simp only [Int.toNat_natCast] at y0 y1 y2
      have HY := Lib.hid hy
      clear hy
      go_wp2_with fail
      refine (casesClosure_any y.f0 y.f1 y.f2 bt t _ (hupd.cell HB.out (by simp))).mono ?_
      rintro e w1 ⟨rfl, hu1⟩
      have hupd1 := hupd.trans0 hu1
      clear y0 y1 y2 hu1
      cases hpr : (y.f1 == t) with
      | true =>
        have HPR := Lib.hid hpr
        clear hpr
        go_wp2
        go_ret
        refine ⟨ret_i64 (a := (k : Int)) ?_, hupd1⟩
        have : idxC q t = some k := by
          rw [idxC, List.findIdx?_eq_some_iff_getElem]
          refine ⟨hkl, ?_, fun j hj => ?_⟩
          · have h := HPR.out
            rw [HY.out] at h
            simpa [rd_T84, List.getD, hkl] using h
          · have h := HNO.out j hj
            have hjl : j < q.length := by omega
            simpa [rd_T84, List.getD, hjl] using h
        rw [this]
        rfl
      | false =>
        have HPR := Lib.hid hpr
        clear hpr
        go_wp2
        go_roundw
        case rel =>
          refine ⟨k + 1, by omega, by go_num, hupd1, Lib.hid fun j hj => ?_⟩
          rcases Nat.lt_or_ge j k with h | h
          · exact HNO.out j h
          · obtain rfl : j = k := by omega
            rw [← HY.out]
            exact HPR.out
        case measure => simp [intOf]; omega
    · obtain rfl : k = N := by omega
      go_wp2
      go_ret
      refine ⟨ret_i64 (a := -1) ?_, hupd⟩
      have : idxC q t = none := by
        rw [idxC, List.findIdx?_eq_none_iff]
        intro x hx
        obtain ⟨j, hj, rfl⟩ := List.getElem_of_mem hx
        have h := HNO.out j (by rw [← HN.out]; exact hj)
        simpa [rd_T84, List.getD, hj] using h
      rw [this]
      rfl
theorem containsC_any (bt : Nat) (t : Int) (A : Option Addr) (N cap : Nat) (q : List S84) (hN : q.length = N) (w : World) (hq : Kd.C k84 w A N q) (hmq : N ≤ 1000000) (hb : w.cell? ⟨bt, 1, none⟩ = some (.int .i64 t)) (r : Bool) (hr : (q.any fun c => c.f1 == t) = r) :
    Calls Try.prog 56 #[.slice A N cap, .func (.func 57) #[] #[.pointer (some ⟨bt, 0, none⟩)]] w fun e w' => e = .returned (.bool r) ∧ Upd [] w w' := by
  have HI := Lib.hid (indexC_any bt t A N cap q hN w hq hmq hb)
  have hd : decide (optN (idxC q t) ≥ 0) = r := by
    rw [← hr]
    cases hi : idxC q t with
    | none =>
      rw [idxC, List.findIdx?_eq_none_iff] at hi
      have : (q.any fun c => c.f1 == t) = false := by
        rw [List.any_eq_false]
        intro x hx
        simpa using hi x hx
      rw [this]
      rfl
    | some k =>
      rw [idxC, List.findIdx?_eq_some_iff_getElem] at hi
      obtain ⟨hk, hp, _⟩ := hi
      have : (q.any fun c => c.f1 == t) = true := by
        rw [List.any_eq_true]
        exact ⟨q[k], List.getElem_mem hk, hp⟩
      rw [this]
      simp [optN]
  obtain ⟨v, hv⟩ : ∃ v, v = optN (idxC q t) := ⟨_, rfl⟩
  rw [← hv] at hd HI
  have HD := Lib.hid hd
  clear hd hv hr hN hq hb
  go_enter Try.func56, Try.ntmps56
  go_wp2_with fail
  refine HI.out.mono ?_
  rintro e w1 ⟨rfl, hu1⟩
  go_wp2
  go_ret
  exact ⟨ret_bl0 HD.out, hu1⟩
end Go.Proofs.Ytjnhahdelipebaa.XA
