
/- The reference's waiting: prio, Best, Without, Has. -/
import Derived.Test.YtjiepoeeahnbgaaBetIff
import Derived.Test.YtjiepoeeahnbgaaWaitWithout
import Derived.Test.YtjiepoeeahnbgaaSameW
namespace Go.Proofs.Ytjiepoeeahnbgaa
set_option linter.unusedVariables false
set_option linter.unusedSimpArgs false
open Go.RowKit
theorem prio21_any (a : Option Addr) (cap : Nat) (ps : List Int) (t : Int) (w : World) (h : RdI w (.slice a ps.length cap) ps) (hm : ps.length ≤ 9223372036854775807) :
    Calls Try.prog 46 #[.slice a ps.length cap, .int .i64 t] w fun e w' => e = .returned (.int .i64 (prioOf ps t)) ∧ w = w' := by
  unfold prioOf
  by_cases h1 : t < 0
  · have d1 : decide (t < 0) = true := decide_eq_true h1
    rw [if_pos h1]
    clear h1
    go_enter Try.func46, Try.ntmps46
    go_wp2
    go_ret
    exact ⟨rfl, rfl⟩
  · have d1 : decide (t < 0) = false := decide_eq_false h1
    rw [if_neg h1]
    by_cases h2 : (ps.length : Int) ≤ t
    · have d2 : decide ((ps.length : Int) ≤ t) = true := decide_eq_true h2
      rw [if_pos h2]
      clear h1 h2
      go_enter Try.func46, Try.ntmps46
      go_wp2
      go_ret
      exact ⟨rfl, rfl⟩
    · have d2 : decide ((ps.length : Int) ≤ t) = false := decide_eq_false h2
      rw [if_neg h2]
      obtain ⟨k, rfl⟩ := Int.eq_ofNat_of_zero_le (show 0 ≤ t by omega)
      have hk : k < ps.length := by omega
      have hc := get_ints hk
      rw [Int.toNat_natCast]
      generalize ps.getD k 0 = y at hc
      obtain ⟨b, off, rfl, hcell⟩ := h.at (by omega)
      have g1 := hcell k _ hc
      have d3 : decide (ps.length ≤ k) = false := decide_eq_false (by omega)
      clear hcell hc h1 h2
      go_enter Try.func46, Try.ntmps46
      go_wp2
      go_ret
      exact ⟨rfl, rfl⟩


set_option maxHeartbeats 3200000 in
set_option maxRecDepth 100000 in
theorem best21_any (a ap : Option Addr) (cap cp : Nat) (q : List Wt) (ps : List Int) (w : World) (hq : RdW w (.slice a q.length cap) q) (hp : RdI w (.slice ap ps.length cp) ps) (hm : ps.length ≤ 9223372036854775807) (hmq : q.length ≤ 9223372036854775807) :
    Calls Try.prog 35 #[.slice a q.length cap, .slice ap ps.length cp] w fun e w' => e = .returned (.int .i64 (optI (bestTo ps q q.length))) ∧ Upd [] w w' := by
  go_enter Try.func35, Try.ntmps35
  go_wp2
  go_loopw [5, 6] (fun b i wr => ∃ k : Nat, k ≤ q.length ∧ i = .int .i64 k ∧ b = .int .i64 (optI (bestTo ps q k)) ∧ Upd [] w wr) (fun _ i _ => q.length - (intOf i).toNat)
  case atStart => exact ⟨0, Nat.zero_le _, rfl, rfl, Upd.refl _ _⟩
  case round =>
    obtain ⟨k, hk, rfl, rfl, hupd⟩ := hrel
    by_cases hlt : k < q.length
    · obtain ⟨y, hy⟩ : ∃ y, q[k]? = some y := ⟨_, List.getElem?_eq_getElem hlt⟩
      obtain ⟨b, off, rfl, y0, y1, y2, y3⟩ := RdW.cells (hq.keep0 hupd) hy
      have hpk := hp.keep0 hupd
      have hpq : ∀ n, RdI (wr.drewN n) (.slice ap ps.length cp) ps := fun n => hpk.keep0 ((Upd.refl _ _).drewN _)
      have HPQ := Lib.hid hpq
      have HY := Lib.hid hy
      have hk0 : (0 : Int) ≤ (k : Int) := by omega
      have hk1 : (k : Int) < (q.length : Int) := by omega
      clear hy hpq
      cases hb : bestTo ps q k with
      | none =>
        have hn : bestTo ps q (k + 1) = some k := by simp [bestTo, hb]
        have HN := Lib.hid hn
        clear hn hb
        simp only [optI]
        go_wp2
        go_quiet (fail)
        go_wp2
        go_roundw
        case rel => exact ⟨k + 1, by omega, by go_num, by rw [HN.out], hupd.drewN _⟩
        case measure => (simp [intOf]; try omega)
      | some j =>
        have hj := bestTo_lt ps q k j hb
        obtain ⟨x, hx⟩ : ∃ x, q[j]? = some x := ⟨_, List.getElem?_eq_getElem (by omega)⟩
        obtain ⟨b', off', he, x0, x1, x2, x3⟩ := RdW.cells (hq.keep0 hupd) hx
        obtain ⟨rfl, rfl⟩ : b = b' ∧ off = off' := by simpa using he
        have hn : bestTo ps q (k + 1) = if bet ps x y = true then some k else some j := by simp [bestTo, hb, hx, HY.out]
        have HN := Lib.hid hn
        clear hn hb hx he
        simp only [optI]
        have hj0 : (0 : Int) ≤ (j : Int) := by omega
        have hj1 : (j : Int) < (q.length : Int) := by omega
        have hjn : decide ((j : Int) < 0) = false := decide_eq_false (by omega)
        by_cases hgt : prioOf ps x.task < prioOf ps y.task
        · have hbt : bet ps x y = true := (bet_iff ps x y).2 (.inl hgt)
          rw [if_pos hbt] at HN
          have hd : decide (prioOf ps x.task < prioOf ps y.task) = true := decide_eq_true hgt
          clear hbt
          go_wp2
          go_quiet (((go_at_call 46; exact quiet_same (prio21_any _ _ ps _ _ (HPQ.out _) hm))))
          go_wp2
          go_roundw
          case rel => exact ⟨k + 1, by omega, by go_num, by rw [HN.out], hupd.drewN _⟩
          case measure => (simp [intOf]; try omega)
        · have hd : decide (prioOf ps x.task < prioOf ps y.task) = false := decide_eq_false hgt
          by_cases heq : prioOf ps y.task = prioOf ps x.task
          · have hd2 : (prioOf ps y.task == prioOf ps x.task) = true := beq_iff_eq.2 heq
            by_cases hsq : y.seq < x.seq
            · have hbt : bet ps x y = true := (bet_iff ps x y).2 (.inr ⟨heq.symm, hsq⟩)
              rw [if_pos hbt] at HN
              have hd3 : decide (y.seq < x.seq) = true := decide_eq_true hsq
              clear hbt heq
              go_wp2
              go_quiet (((go_at_call 46; exact quiet_same (prio21_any _ _ ps _ _ (HPQ.out _) hm))))
              go_wp2
              go_roundw
              case rel => exact ⟨k + 1, by omega, by go_num, by rw [HN.out], hupd.drewN _⟩
              case measure => (simp [intOf]; try omega)
            · have hbt : ¬ bet ps x y = true := fun h => by rcases (bet_iff ps x y).1 h with h | ⟨_, h⟩ <;> omega
              rw [if_neg hbt] at HN
              have hd3 : decide (y.seq < x.seq) = false := decide_eq_false hsq
              clear hbt heq
              go_wp2
              go_quiet (((go_at_call 46; exact quiet_same (prio21_any _ _ ps _ _ (HPQ.out _) hm))))
              go_wp2
              go_roundw
              case rel => exact ⟨k + 1, by omega, by go_num, by rw [HN.out], hupd.drewN _⟩
              case measure => (simp [intOf]; try omega)
          · have hbt : ¬ bet ps x y = true := fun h => by rcases (bet_iff ps x y).1 h with h | ⟨h, _⟩ <;> omega
            rw [if_neg hbt] at HN
            have hd2 : (prioOf ps y.task == prioOf ps x.task) = false := beq_eq_false_iff_ne.2 heq
            clear hbt heq
            go_wp2
            go_quiet (((go_at_call 46; exact quiet_same (prio21_any _ _ ps _ _ (HPQ.out _) hm))))
            go_wp2
            go_roundw
            case rel => exact ⟨k + 1, by omega, by go_num, by rw [HN.out], hupd.drewN _⟩
            case measure => (simp [intOf]; try omega)
    · obtain rfl : k = q.length := by omega
      go_wp2
      go_ret
      exact ⟨rfl, hupd⟩

theorem leave_lt (q : List Wt) (t : Int) : decide ((leave q t).length < q.length) = q.any fun x => x.task == t := by
  by_cases h : (leave q t).length < q.length
  · rw [decide_eq_true h]
    symm
    rw [List.any_eq_true]
    apply Classical.byContradiction
    intro hn
    have : leave q t = q := List.filter_eq_self.2 fun x hx => by
      have : ¬ (x.task == t) = true := fun h => hn ⟨x, hx, h⟩
      simpa using this
    rw [this] at h
    omega
  · rw [decide_eq_false h]
    symm
    rw [List.any_eq_false]
    intro x hx
    have hl : (leave q t).length = q.length := Nat.le_antisymm (leave_len _ _) (by omega)
    have := List.length_filter_eq_length_iff.1 hl x hx
    simpa using this

end Go.Proofs.Ytjiepoeeahnbgaa
