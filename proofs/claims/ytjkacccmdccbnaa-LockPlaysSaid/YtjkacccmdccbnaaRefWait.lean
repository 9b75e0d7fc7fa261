/- The reference's waiting: prio, Best, Without, Has, all but one. -/
import Derived.Test.YtjkacccmdccbnaaLockBase
namespace Go.Proofs.Ytjkacccmdccbnaa
set_option linter.unusedVariables false
set_option linter.unusedSimpArgs false
open Go.RowKit

theorem tWr : ElemT Try.prog 48 62 (.agg #[.int .i64 0, .int .i64 0, .int .i64 0, .int .i64 0]) 4 32 :=
  ⟨Try.underlying48, by
    obtain ⟨i, hi, h⟩ := info_parts (show (Try.prog.info? 62).map (fun i => (i.zero, i.size, i.bytes)) = some (some (.agg #[.int .i64 0, .int .i64 0, .int .i64 0, .int .i64 0]), 4, 32) by kernel_rfl)
    exact ⟨i, hi, h⟩, rfl, by decide⟩

theorem prio21_any (a : Option Addr) (cap : Nat) (ps : List Int) (t : Int) (w : World) (h : RdI w (.slice a ps.length cap) ps) (hm : ps.length ≤ 9223372036854775807) :
    Calls Try.prog 34 #[.slice a ps.length cap, .int .i64 t] w fun e w' => e = .returned (.int .i64 (prioOf ps t)) ∧ w = w' := by
  unfold prioOf
  by_cases h1 : t < 0
  · have d1 : decide (t < 0) = true := decide_eq_true h1
    rw [if_pos h1]
    clear h1
    go_enter Try.func34, Try.ntmps34
    go_wp2
    go_ret
    exact ⟨rfl, rfl⟩
  · have d1 : decide (t < 0) = false := decide_eq_false h1
    rw [if_neg h1]
    by_cases h2 : (ps.length : Int) ≤ t
    · have d2 : decide ((ps.length : Int) ≤ t) = true := decide_eq_true h2
      rw [if_pos h2]
      clear h1 h2
      go_enter Try.func34, Try.ntmps34
      go_wp2
      go_ret
      exact ⟨rfl, rfl⟩
    · have d2 : decide ((ps.length : Int) ≤ t) = false := decide_eq_false h2
      rw [if_neg h2]
      obtain ⟨k, rfl⟩ := Int.eq_ofNat_of_zero_le (show 0 ≤ t by omega)
      have hk : k < ps.length := by omega
      have hc := get_ints hk
      rw [Int.toNat_natCast]
      generalize ps.getD k 0 = y at hc
      obtain ⟨b, off, rfl, hcell⟩ := h.at (by omega)
      have g1 := hcell k _ hc
      have d3 : decide (ps.length ≤ k) = false := decide_eq_false (by omega)
      clear hcell hc h1 h2
      go_enter Try.func34, Try.ntmps34
      go_wp2
      go_ret
      exact ⟨rfl, rfl⟩


set_option maxHeartbeats 3200000 in
set_option maxRecDepth 100000 in
theorem best21_any (a ap : Option Addr) (cap cp : Nat) (q : List Wt) (ps : List Int) (w : World) (hq : RdW w (.slice a q.length cap) q) (hp : RdI w (.slice ap ps.length cp) ps) (hm : ps.length ≤ 9223372036854775807) (hmq : q.length ≤ 9223372036854775807) :
    Calls Try.prog 24 #[.slice a q.length cap, .slice ap ps.length cp] w fun e w' => e = .returned (.int .i64 (optI (bestTo ps q q.length))) ∧ Upd [] w w' := by
  go_enter Try.func24, Try.ntmps24
  go_wp2
  go_loopw [5, 6] (fun b i wr => ∃ k : Nat, k ≤ q.length ∧ i = .int .i64 k ∧ b = .int .i64 (optI (bestTo ps q k)) ∧ Upd [] w wr) (fun _ i _ => q.length - (intOf i).toNat)
  case atStart => exact ⟨0, Nat.zero_le _, rfl, rfl, Upd.refl _ _⟩
  case round =>
    obtain ⟨k, hk, rfl, rfl, hupd⟩ := hrel
    by_cases hlt : k < q.length
    · obtain ⟨y, hy⟩ : ∃ y, q[k]? = some y := ⟨_, List.getElem?_eq_getElem hlt⟩
      obtain ⟨b, off, rfl, y0, y1, y2, y3⟩ := RdW.cells (hq.keep0 hupd) hy
      have hpk := hp.keep0 hupd
      have hpq : ∀ n, RdI (wr.drewN n) (.slice ap ps.length cp) ps := fun n => hpk.keep0 ((Upd.refl _ _).drewN _)
      have HPQ := Lib.hid hpq
      have HY := Lib.hid hy
      have hk0 : (0 : Int) ≤ (k : Int) := by omega
      have hk1 : (k : Int) < (q.length : Int) := by omega
      clear hy hpq
      cases hb : bestTo ps q k with
      | none =>
        have hn : bestTo ps q (k + 1) = some k := by simp [bestTo, hb]
        have HN := Lib.hid hn
        clear hn hb
        simp only [optI]
        go_wp2
        go_quiet (fail)
        go_wp2
        go_roundw
        case rel => exact ⟨k + 1, by omega, by go_num, by rw [HN.out], hupd.drewN _⟩
        case measure => (simp [intOf]; try omega)
      | some j =>
        have hj := bestTo_lt ps q k j hb
        obtain ⟨x, hx⟩ : ∃ x, q[j]? = some x := ⟨_, List.getElem?_eq_getElem (by omega)⟩
        obtain ⟨b', off', he, x0, x1, x2, x3⟩ := RdW.cells (hq.keep0 hupd) hx
        obtain ⟨rfl, rfl⟩ : b = b' ∧ off = off' := by simpa using he
        have hn : bestTo ps q (k + 1) = if bet ps x y = true then some k else some j := by simp [bestTo, hb, hx, HY.out]
        have HN := Lib.hid hn
        clear hn hb hx he
        simp only [optI]
        have hj0 : (0 : Int) ≤ (j : Int) := by omega
        have hj1 : (j : Int) < (q.length : Int) := by omega
        have hjn : decide ((j : Int) < 0) = false := decide_eq_false (by omega)
        by_cases hgt : prioOf ps x.task < prioOf ps y.task
        · have hbt : bet ps x y = true := (bet_iff ps x y).2 (.inl hgt)
          rw [if_pos hbt] at HN
          have hd : decide (prioOf ps x.task < prioOf ps y.task) = true := decide_eq_true hgt
          clear hbt
          go_wp2
          go_quiet (((go_at_call 34; exact quiet_same (prio21_any _ _ ps _ _ (HPQ.out _) hm))))
          go_wp2
          go_roundw
          case rel => exact ⟨k + 1, by omega, by go_num, by rw [HN.out], hupd.drewN _⟩
          case measure => (simp [intOf]; try omega)
        · have hd : decide (prioOf ps x.task < prioOf ps y.task) = false := decide_eq_false hgt
          by_cases heq : prioOf ps y.task = prioOf ps x.task
          · have hd2 : (prioOf ps y.task == prioOf ps x.task) = true := beq_iff_eq.2 heq
            by_cases hsq : y.seq < x.seq
            · have hbt : bet ps x y = true := (bet_iff ps x y).2 (.inr ⟨heq.symm, hsq⟩)
              rw [if_pos hbt] at HN
              have hd3 : decide (y.seq < x.seq) = true := decide_eq_true hsq
              clear hbt heq
              go_wp2
              go_quiet (((go_at_call 34; exact quiet_same (prio21_any _ _ ps _ _ (HPQ.out _) hm))))
              go_wp2
              go_roundw
              case rel => exact ⟨k + 1, by omega, by go_num, by rw [HN.out], hupd.drewN _⟩
              case measure => (simp [intOf]; try omega)
            · have hbt : ¬ bet ps x y = true := fun h => by rcases (bet_iff ps x y).1 h with h | ⟨_, h⟩ <;> omega
              rw [if_neg hbt] at HN
              have hd3 : decide (y.seq < x.seq) = false := decide_eq_false hsq
              clear hbt heq
              go_wp2
              go_quiet (((go_at_call 34; exact quiet_same (prio21_any _ _ ps _ _ (HPQ.out _) hm))))
              go_wp2
              go_roundw
              case rel => exact ⟨k + 1, by omega, by go_num, by rw [HN.out], hupd.drewN _⟩
              case measure => (simp [intOf]; try omega)
          · have hbt : ¬ bet ps x y = true := fun h => by rcases (bet_iff ps x y).1 h with h | ⟨h, _⟩ <;> omega
            rw [if_neg hbt] at HN
            have hd2 : (prioOf ps y.task == prioOf ps x.task) = false := beq_eq_false_iff_ne.2 heq
            clear hbt heq
            go_wp2
            go_quiet (((go_at_call 34; exact quiet_same (prio21_any _ _ ps _ _ (HPQ.out _) hm))))
            go_wp2
            go_roundw
            case rel => exact ⟨k + 1, by omega, by go_num, by rw [HN.out], hupd.drewN _⟩
            case measure => (simp [intOf]; try omega)
    · obtain rfl : k = q.length := by omega
      go_wp2
      go_ret
      exact ⟨rfl, hupd⟩

set_option maxHeartbeats 1600000 in
set_option maxRecDepth 100000 in
theorem without21_any (a : Option Addr) (cap : Nat) (q : List Wt) (t : Int) (w : World) (hrd : RdW w (.slice a q.length cap) q) (hm : q.length ≤ 1000000) :
    Calls Try.prog 26 #[.slice a q.length cap, .int .i64 t] w fun e w' => ∃ a' c', e = .returned (.slice a' (leave q t).length c') ∧ w'.ownsRow w.heap.size 62 4 (.slice a' (leave q t).length c') (leave q t).length ((leave q t).flatMap Wt.enc) ∧ Upd [] w w' := by
  go_enter Try.func26, Try.ntmps26
  go_wp2
  go_loopw [5, 6] (fun r i wr => ∃ (k : Nat) (ra : Option Addr) (rc : Nat), k ≤ q.length ∧ i = .int .i64 k ∧ r = .slice ra (leave (q.take k) t).length rc ∧ wr.ownsRow w.heap.size 62 4 (.slice ra (leave (q.take k) t).length rc) (leave (q.take k) t).length ((leave (q.take k) t).flatMap Wt.enc) ∧ Upd [] w wr) (fun _ i _ => q.length - (intOf i).toNat)
  case atStart => exact ⟨0, none, 0, Nat.zero_le _, rfl, rfl, World.ownsRow_nil _ _ _ _, Upd.refl _ _⟩
  case round =>
    obtain ⟨k, ra, rc, hk, rfl, rfl, hown, hupd⟩ := hrel
    by_cases hlt : k < q.length
    · obtain ⟨x, hx⟩ : ∃ x, q[k]? = some x := ⟨_, List.getElem?_eq_getElem hlt⟩
      obtain ⟨b, off, rfl, x0, x1, x2, x3⟩ := RdW.cells (hrd.keep0 hupd) hx
      have hs : leave (q.take (k + 1)) t = leave (q.take k) t ++ (if x.task = t then [] else [x]) := by rw [take_succ_get hx, leave_snoc]
      have hll : (leave (q.take k) t).length ≤ k := Nat.le_trans (leave_len _ _) (List.length_take_le _ _)
      generalize leave (q.take k) t = l at hown hs hll
      have HS := Lib.hid hs
      clear hs hx
      by_cases ht : x.task = t
      · rw [if_pos ht, List.append_nil] at HS
        have hd : (x.task != t) = false := bne_eq_false_iff_eq.2 ht
        clear ht
        go_wp2
        go_roundw
        case rel => exact ⟨k + 1, ra, rc, by omega, by go_num, by rw [HS.out], by rw [HS.out]; exact hown, hupd⟩
        case measure => simp [intOf]; omega
      · rw [if_neg ht] at HS
        have hd : (x.task != t) = true := bne_iff_ne.2 ht
        have hm1 : l.length + 1 ≤ maxLen := by unfold maxLen; omega
        have hm2 : (l.length + 1) * 32 ≤ 140737488355328 := by omega
        have hbase := hupd.size
        clear ht
        go_wp2_with (first
          | (at_builtin; refine wp_push tWr rfl (.tmp 20) (.tmp 25) rfl hown x.enc rfl rfl rfl (Wt.one1 x) hm1 hm2 hbase ?_; intro g3 c3 w3 hown3 hupd3))
        have hl1 : (l ++ [x]).length = l.length + 1 := by simp
        have hb0 := hown.lt
        have hupd4 : Upd [] w w3 := hupd.trans hupd3 (fun y hy hl => by have := (hb0 y (by simpa using hy)).1; omega)
        go_roundw
        case rel => exact ⟨k + 1, some ⟨g3, 0, none⟩, c3, by omega, by go_num, by rw [HS.out, hl1], by rw [HS.out, hl1, enc_snoc]; exact hown3, hupd4⟩
        case measure => simp [intOf]; omega
    · obtain rfl : k = q.length := by omega
      rw [List.take_of_length_le (Nat.le_refl _)] at hown
      rw [List.take_of_length_le (Nat.le_refl _)]
      go_wp2
      go_ret
      exact ⟨ra, rc, rfl, hown, hupd⟩

theorem leave_lt (q : List Wt) (t : Int) : decide ((leave q t).length < q.length) = q.any fun x => x.task == t := by
  by_cases h : (leave q t).length < q.length
  · rw [decide_eq_true h]
    symm
    rw [List.any_eq_true]
    apply Classical.byContradiction
    intro hn
    have : leave q t = q := List.filter_eq_self.2 fun x hx => by
      have : ¬ (x.task == t) = true := fun h => hn ⟨x, hx, h⟩
      simpa using this
    rw [this] at h
    omega
  · rw [decide_eq_false h]
    symm
    rw [List.any_eq_false]
    intro x hx
    have hl : (leave q t).length = q.length := Nat.le_antisymm (leave_len _ _) (by omega)
    have := List.length_filter_eq_length_iff.1 hl x hx
    simpa using this

theorem has21_any (a : Option Addr) (cap : Nat) (q : List Wt) (t : Int) (w : World) (hrd : RdW w (.slice a q.length cap) q) (hm : q.length ≤ 1000000) :
    Calls Try.prog 23 #[.slice a q.length cap, .int .i64 t] w fun e w' => e = .returned (.bool (q.any fun x => x.task == t)) ∧ Upd [] w w' := by
  go_enter Try.func23, Try.ntmps23
  go_wp2_with fail
  refine (without21_any a cap q t _ hrd hm).mono ?_
  rintro e w1 ⟨a', c', rfl, hown, hu1⟩
  go_wp2
  go_ret
  exact ⟨by rw [← leave_lt]; simp, hu1⟩

set_option maxHeartbeats 1600000 in
set_option maxRecDepth 100000 in
/-- All but the one at place k. -/
theorem at21_any (a : Option Addr) (cap : Nat) (q : List Wt) (k : Nat) (w : World) (hrd : RdW w (.slice a q.length cap) q) (hm : q.length ≤ 1000000) (hk : k < q.length) :
    Calls Try.prog 25 #[.slice a q.length cap, .int .i64 k] w fun e w' => ∃ a' c', e = .returned (.slice a' (q.eraseIdx k).length c') ∧ w'.ownsRow w.heap.size 62 4 (.slice a' (q.eraseIdx k).length c') (q.eraseIdx k).length ((q.eraseIdx k).flatMap Wt.enc) ∧ Upd [] w w' := by
  obtain ⟨a1, c1, hr1, _, _, _, hs1⟩ := hrd.cut tWr 0 k (by omega) (by omega)
  replace hs1 := hs1 rfl
  obtain ⟨a2, c2, hr2, _, _, hs2, _⟩ := hrd.cut tWr (k + 1) q.length (by omega) (by omega)
  replace hs2 := hs2 rfl
  simp only [Nat.sub_zero, Nat.zero_mul, List.drop_zero] at hr1 hs1
  have e1 : (List.flatMap Wt.enc q).take (k * 4) = (q.take k).flatMap Wt.enc := by
    have h0 : List.flatMap Wt.enc q = (q.take k).flatMap Wt.enc ++ (q.drop k).flatMap Wt.enc := by rw [← List.flatMap_append, List.take_append_drop]
    rw [h0, List.take_append_of_le_length (by rw [flat_len Wt.enc 4 Wt.enc_len]; simp; omega), List.take_of_length_le (by rw [flat_len Wt.enc 4 Wt.enc_len]; simp; omega)]
  have e2 : ((List.flatMap Wt.enc q).drop ((k + 1) * 4)).take ((q.length - (k + 1)) * 4) = (q.drop (k + 1)).flatMap Wt.enc := by
    have h0 : List.flatMap Wt.enc q = (q.take (k + 1)).flatMap Wt.enc ++ (q.drop (k + 1)).flatMap Wt.enc := by rw [← List.flatMap_append, List.take_append_drop]
    have hl : ((q.take (k + 1)).flatMap Wt.enc).length = (k + 1) * 4 := by rw [flat_len Wt.enc 4 Wt.enc_len]; simp; omega
    rw [h0, ← hl, List.drop_left, List.take_of_length_le]
    rw [flat_len Wt.enc 4 Wt.enc_len]
    simp
  rw [e1] at hr1
  rw [e2] at hr2
  have hud : Upd [] w w.drew := (Upd.refl _ _).drew
  have hr1d := hr1.keep0 hud
  have hr2d := hr2.keep0 hud
  have hkk : ((k + 1 : Nat) : Int) = (k : Int) + 1 := by omega
  rw [hkk] at hs2
  have hwrap : IntKind.i64.wrap ((k : Int) + 1) = (k : Int) + 1 := IntWalk.i64_in _ (by omega)
  have hm1 : k ≤ maxLen := by unfold maxLen; omega
  have hm2 : k * 32 ≤ 140737488355328 := by omega
  have hm3 : k + (q.length - (k + 1)) ≤ maxLen := by unfold maxLen; omega
  have hm4 : (k + (q.length - (k + 1))) * 32 ≤ 140737488355328 := by omega
  have hl1 : ((q.take k).flatMap Wt.enc).length = k * 4 := by rw [flat_len Wt.enc 4 Wt.enc_len]; simp; omega
  have hl2 : ((q.drop (k + 1)).flatMap Wt.enc).length = (q.length - (k + 1)) * 4 := by rw [flat_len Wt.enc 4 Wt.enc_len]; simp
  have HL1 := Lib.hid hl1
  have HL2 := Lib.hid hl2
  have hsz : w.heap.size ≤ w.drew.heap.size := hud.size
  clear hl1 hl2 e1 e2 hr1 hr2 hkk hrd
  go_enter Try.func25, Try.ntmps25
  go_wp2_with fail
  go_region_held3 (fun w' => True) (first | trivial | go_keep) (first
    | ((refine step_extend tWr rfl (.tmp 9) (.tmp 13) rfl hown1 rfl rfl (hr2d.keep0 hu1) HL2.out (Wt.one _) hm3 hm4 hb1 ?_); intro a4 cp4 w4 hown4 hupd4)
    | ((refine step_copy tWr rfl (.tmp 5) (.tmp 8) rfl (base := w.heap.size) (World.ownsRow_made _ #[] 0 hsz (by simp) rfl) rfl rfl (hr1d.keep0 ((Upd.refl _ _).alloc _)) HL1.out (Wt.one _) hm1 hm2 (Nat.le_trans hsz (by simp)) ?_); intro a3 cp3 w3 hown1 hupd3; have hu1 : Upd [] w.drew w3 := ((Upd.refl [] _).alloc _).trans hupd3 (fun x hx hl => by simp [Value.ownBlock] at hx; subst hx; exact absurd hl (Nat.lt_irrefl _)); have hb1 : w.heap.size ≤ w3.heap.size := Nat.le_trans hsz hu1.size))
  go_wp2
  go_ret
  have hE : q.eraseIdx k = q.take k ++ q.drop (k + 1) := List.eraseIdx_eq_take_drop_succ _ _
  have hEl : (q.eraseIdx k).length = k + (q.length - (k + 1)) := by rw [hE]; simp; omega
  refine ⟨a4, cp4, by rw [hEl]; rfl, ?_, (hud.trans0 hu1).trans hupd4 (fun x hx hl => by have := (hown1.lt x (by simpa using hx)).1; omega)⟩
  rw [hEl, hE, List.flatMap_append]
  exact hown4
end Go.Proofs.Ytjkacccmdccbnaa
