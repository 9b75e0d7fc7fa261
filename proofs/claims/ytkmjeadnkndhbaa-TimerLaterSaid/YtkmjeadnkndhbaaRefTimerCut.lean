/- What the reference's Cancel does where the id is there. -/
import Derived.Test.YtkmjeadnkndhbaaRefTimerTick
import Derived.Deep.RegionLaw
namespace Go.Proofs.Ytkmjeadnkndhbaa
set_option linter.unusedVariables false
set_option linter.unusedSimpArgs false
open Go.RowKit
theorem erase_eq (ds : List Due) (k : Nat) : ds.take k ++ ds.drop (k + 1) = ds.eraseIdx k := (List.eraseIdx_eq_take_drop_succ ds k).symm
set_option maxHeartbeats 16000000 in
set_option maxRecDepth 100000 in
theorem cancelR_ok (m : Nat) (ds : List Due) (id : Int) (k : Nat) (w : World) (h : RefT w m ds) (hm : ds.length ≤ 99999) (hk : idxD ds id = some k) :
    Calls Try.prog 16 #[.pointer (some ⟨m, 0, none⟩), .int .i64 id] w fun e w' => e = .returned (.int .i64 0) ∧ RefT w' m (ds.eraseIdx k) ∧ Upd [m] w w' := by
  have hkl : k < ds.length := by
    rw [idxD, List.findIdx?_eq_some_iff_getElem] at hk
    exact hk.1
  have hfind := findR_any m ds id w h (by omega)
  rw [hk] at hfind
  have HF := Lib.hid hfind
  have hml := h.lt
  obtain ⟨a, cap, hp1, hown⟩ := h.ex
  have hrd : RdD w (.slice a ds.length cap) ds := Rd.of_own hown
  obtain ⟨c0, f0⟩ := one_cell hp1
  obtain ⟨N, hN⟩ : ∃ N, N = ds.length := ⟨_, rfl⟩
  have hrd' : Rd w (.slice a ds.length cap) ds.length (ds.flatMap Due.enc) := hrd
  obtain ⟨a1, k1, r1, -, -, -, s1⟩ := Rd.cut tDueR hrd' 0 k (Nat.zero_le _) (by omega)
  obtain ⟨a2, k2, r2, -, -, s2, -⟩ := Rd.cut tDueR hrd' (k + 1) ds.length (by omega) (Nat.le_refl _)
  have s1' := s1 rfl
  have s2' := s2 rfl
  have e1 : ((ds.flatMap Due.enc).drop (0 * 2)).take ((k - 0) * 2) = (ds.take k).flatMap Due.enc := by
    rw [Nat.zero_mul, List.drop_zero, Nat.sub_zero, ← List.take_append_drop k ds, List.flatMap_append]
    have hl : ((ds.take k).flatMap Due.enc).length = k * 2 := by rw [due_len, List.length_take, Nat.min_eq_left (by omega)]
    rw [List.take_append_of_le_length (by omega), List.take_of_length_le (by omega), List.take_append_drop]
  have e2 : ((ds.flatMap Due.enc).drop ((k + 1) * 2)).take ((ds.length - (k + 1)) * 2) = (ds.drop (k + 1)).flatMap Due.enc := by
    have hl : ((ds.take (k + 1)).flatMap Due.enc).length = (k + 1) * 2 := by rw [due_len, List.length_take, Nat.min_eq_left (by omega)]
    have hd : (ds.flatMap Due.enc).drop ((k + 1) * 2) = (ds.drop (k + 1)).flatMap Due.enc := by
      conv => lhs; rw [← List.take_append_drop (k + 1) ds, List.flatMap_append]
      rw [← hl, List.drop_left']
      rfl
    rw [hd, List.take_of_length_le]
    rw [due_len, List.length_drop]
    omega
  rw [e1] at r1
  rw [e2] at r2
  rw [Nat.sub_zero] at r1 s1'
  obtain ⟨M, hM⟩ : ∃ M, M = ds.length - (k + 1) := ⟨_, rfl⟩
  rw [← hM] at r2 s2'
  have L1 := Lib.hid (show ((ds.take k).flatMap Due.enc).length = k * 2 by rw [due_len, List.length_take, Nat.min_eq_left (by omega)])
  have L2 := Lib.hid (show ((ds.drop (k + 1)).flatMap Due.enc).length = M * 2 by rw [due_len, List.length_drop, hM])
  have R1 := Lib.hid (fun W (hu : Upd [] w W) => r1.keep0 hu)
  have R2 := Lib.hid (fun W (hu : Upd [] w W) => r2.keep0 hu)
  have HP : Hid (∀ W, Upd [] w W → W.cell? ⟨m, 0, none⟩ = some (.slice a N cap) ∧ W.frozen? ⟨m, 0, none⟩ = false) := Lib.hid (fun W (hu : Upd [] w W) => by rw [hN]; exact one_cell (hu.keep hp1 (by simp)))
  have HP1 : Hid (∀ W, Upd [] w W → W.heap[m]? = some (.cells #[.slice a N cap] 44 (0, 0))) := Lib.hid (fun W (hu : Upd [] w W) => by rw [hN]; exact hu.keep hp1 (by simp))
  have hsz : w.heap.size ≤ w.drew.heap.size := ((Upd.refl [] w).drew).size
  have hm1 : k ≤ maxLen := by unfold maxLen; omega
  have hm2 : k * 16 ≤ 140737488355328 := by omega
  have hm3 : k + M ≤ maxLen := by unfold maxLen; omega
  have hm4 : (k + M) * 16 ≤ 140737488355328 := by omega
  have hk1 : IntKind.i64.wrap ((k : Int) + 1) = (k : Int) + 1 := IntWalk.i64_in _ (by omega)
  have hkk : ((k + 1 : Nat) : Int) = (k : Int) + 1 := by omega
  rw [hkk] at s2'
  have t0 : decide ((k : Int) < 0) = false := by simp
  have HKM := Lib.hid (show k + M = (ds.eraseIdx k).length by rw [← erase_eq, List.length_append, List.length_take, List.length_drop]; omega)
  rw [← hN] at c0 s1' s2'
  clear hown hrd hrd' r1 r2 s1 s2 e1 e2 hk hfind h hN hM hp1
  go_enter Try.func16, Try.ntmps16
  go_wp2_with fail
  refine HF.out.mono ?_
  rintro e w1 ⟨rfl, rfl⟩
  simp only [optD]
  go_upto_region 4 with fail
  go_region_law (first
    | ((refine step_extend tDueR rfl (.tmp 19) (.tmp 26) rfl hown1 rfl rfl (R2.out _ hu1) L2.out (Due.one _) hm3 hm4 hb1 ?_); intro a4 cp4 w4 hown4 hupd4; have hu4 : Upd [] w w4 := hu1.trans hupd4 (fun x hx hl => by have := (hown1.lt x (by simpa using hx)).1; omega); have hpb := HP1.out _ hu4; have HO4 := Lib.hid hown4; obtain ⟨d0, g0⟩ := HP.out _ hu4)
    | ((refine step_copy tDueR rfl (.tmp 12) (.tmp 18) rfl (base := w.heap.size) (World.ownsRow_made _ #[] 0 hsz (by simp) rfl) rfl rfl (R1.out _ (by repeat (first | assumption | refine Upd.alloc ?_ _ | refine Upd.drewN ?_ _ | refine Upd.drew ?_ | exact Upd.refl _ _))) L1.out (Due.one _) hm1 hm2 (Nat.le_trans hsz (by simp)) ?_); intro a3 cp3 w3 hown1 hupd3; have hu1 : Upd [] w w3 := (((Upd.refl [] w).drew).alloc _).trans hupd3 (fun x hx hl => by simp [Value.ownBlock] at hx; subst hx; exact absurd hl (Nat.lt_irrefl _)); have hb1 : w.heap.size ≤ w3.heap.size := hu1.size; obtain ⟨b0, b1⟩ := HP.out _ hu1))
  all_goals
    go_wp2
    go_ret
    have hset : Upd [m] w4 (w4.setCell ⟨m, 0, none⟩ (.slice a4 (k + M) cp4)) := (Upd.refl _ _).setCell _ _ (fun _ => by simp)
    have hrow := HO4.out
    rw [← List.flatMap_append, erase_eq, HKM.out] at hrow
    refine ⟨rfl, ⟨a4, cp4, by rw [← HKM.out]; exact one_set hpb, ?_⟩, (hu4.mono (by simp)).transS hset⟩
    exact own_lower (own_keep hrow hset (fun q hq => by have := (hrow.lt q hq).1; simp; omega)) (Nat.zero_le _)
end Go.Proofs.Ytkmjeadnkndhbaa
