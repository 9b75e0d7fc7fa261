
/- The reference: all but one. -/
import Derived.Test.YtjiepoeeahnbgaaRefWaitW
namespace Go.Proofs.Ytjiepoeeahnbgaa
set_option linter.unusedVariables false
set_option linter.unusedSimpArgs false
open Go.RowKit
set_option maxHeartbeats 1600000 in
set_option maxRecDepth 100000 in
/-- All but the one at place k. -/
theorem at21_any (a : Option Addr) (cap : Nat) (q : List Wt) (k : Nat) (w : World) (hrd : RdW w (.slice a q.length cap) q) (hm : q.length ≤ 1000000) (hk : k < q.length) :
    Calls Try.prog 36 #[.slice a q.length cap, .int .i64 k] w fun e w' => ∃ a' c', e = .returned (.slice a' (q.eraseIdx k).length c') ∧ w'.ownsRow w.heap.size 66 4 (.slice a' (q.eraseIdx k).length c') (q.eraseIdx k).length ((q.eraseIdx k).flatMap Wt.enc) ∧ Upd [] w w' := by
  obtain ⟨a1, c1, hr1, _, _, _, hs1⟩ := hrd.cut tWr 0 k (by omega) (by omega)
  replace hs1 := hs1 rfl
  obtain ⟨a2, c2, hr2, _, _, hs2, _⟩ := hrd.cut tWr (k + 1) q.length (by omega) (by omega)
  replace hs2 := hs2 rfl
  simp only [Nat.sub_zero, Nat.zero_mul, List.drop_zero] at hr1 hs1
  have e1 : (List.flatMap Wt.enc q).take (k * 4) = (q.take k).flatMap Wt.enc := by
    have h0 : List.flatMap Wt.enc q = (q.take k).flatMap Wt.enc ++ (q.drop k).flatMap Wt.enc := by rw [← List.flatMap_append, List.take_append_drop]
    rw [h0, List.take_append_of_le_length (by rw [flat_len Wt.enc 4 Wt.enc_len]; simp; omega), List.take_of_length_le (by rw [flat_len Wt.enc 4 Wt.enc_len]; simp; omega)]
  have e2 : ((List.flatMap Wt.enc q).drop ((k + 1) * 4)).take ((q.length - (k + 1)) * 4) = (q.drop (k + 1)).flatMap Wt.enc := by
    have h0 : List.flatMap Wt.enc q = (q.take (k + 1)).flatMap Wt.enc ++ (q.drop (k + 1)).flatMap Wt.enc := by rw [← List.flatMap_append, List.take_append_drop]
    have hl : ((q.take (k + 1)).flatMap Wt.enc).length = (k + 1) * 4 := by rw [flat_len Wt.enc 4 Wt.enc_len]; simp; omega
    rw [h0, ← hl, List.drop_left, List.take_of_length_le]
    rw [flat_len Wt.enc 4 Wt.enc_len]
    simp
  rw [e1] at hr1
  rw [e2] at hr2
  have hud : Upd [] w w.drew := (Upd.refl _ _).drew
  have hr1d := hr1.keep0 hud
  have hr2d := hr2.keep0 hud
  have hkk : ((k + 1 : Nat) : Int) = (k : Int) + 1 := by omega
  rw [hkk] at hs2
  have hwrap : IntKind.i64.wrap ((k : Int) + 1) = (k : Int) + 1 := IntWalk.i64_in _ (by omega)
  have hm1 : k ≤ maxLen := by unfold maxLen; omega
  have hm2 : k * 32 ≤ 140737488355328 := by omega
  have hm3 : k + (q.length - (k + 1)) ≤ maxLen := by unfold maxLen; omega
  have hm4 : (k + (q.length - (k + 1))) * 32 ≤ 140737488355328 := by omega
  have hl1 : ((q.take k).flatMap Wt.enc).length = k * 4 := by rw [flat_len Wt.enc 4 Wt.enc_len]; simp; omega
  have hl2 : ((q.drop (k + 1)).flatMap Wt.enc).length = (q.length - (k + 1)) * 4 := by rw [flat_len Wt.enc 4 Wt.enc_len]; simp
  have HL1 := Lib.hid hl1
  have HL2 := Lib.hid hl2
  have hsz : w.heap.size ≤ w.drew.heap.size := hud.size
  clear hl1 hl2 e1 e2 hr1 hr2 hkk hrd
  go_enter Try.func36, Try.ntmps36
  go_wp2_with fail
  go_region_held3 (fun w' => True) (first | trivial | go_keep) (first
    | ((refine step_extend tWr rfl (.tmp 9) (.tmp 13) rfl hown1 rfl rfl (hr2d.keep0 hu1) HL2.out (Wt.one _) hm3 hm4 hb1 ?_); intro a4 cp4 w4 hown4 hupd4)
    | ((refine step_copy tWr rfl (.tmp 5) (.tmp 8) rfl (base := w.heap.size) (World.ownsRow_made _ #[] 0 hsz (by simp) rfl) rfl rfl (hr1d.keep0 ((Upd.refl _ _).alloc _)) HL1.out (Wt.one _) hm1 hm2 (Nat.le_trans hsz (by simp)) ?_); intro a3 cp3 w3 hown1 hupd3; have hu1 : Upd [] w.drew w3 := ((Upd.refl [] _).alloc _).trans hupd3 (fun x hx hl => by simp [Value.ownBlock] at hx; subst hx; exact absurd hl (Nat.lt_irrefl _)); have hb1 : w.heap.size ≤ w3.heap.size := Nat.le_trans hsz hu1.size))
  go_wp2
  go_ret
  have hE : q.eraseIdx k = q.take k ++ q.drop (k + 1) := List.eraseIdx_eq_take_drop_succ _ _
  have hEl : (q.eraseIdx k).length = k + (q.length - (k + 1)) := by rw [hE]; simp; omega
  refine ⟨a4, cp4, by rw [hEl]; rfl, ?_, (hud.trans0 hu1).trans hupd4 (fun x hx hl => by have := (hown1.lt x (by simpa using hx)).1; omega)⟩
  rw [hEl, hE, List.flatMap_append]
  exact hown4
end Go.Proofs.Ytjiepoeeahnbgaa
