/- One round is the sum of all loads' by themselves; where r is no more than any period each comes once. -/
import Derived.Test.YtgeejlcnnldogaaRtaEv
import Derived.Test.YtgeejlcnnldogaaXAx15
namespace Go.Proofs.Ytgeejlcnnldogaa.Pure
set_option linter.unusedVariables false
set_option linter.unusedSimpArgs false
open Go.RowKit Go.Proofs.Ytgeejlcnnldogaa.XA Go.Proofs.YtgeejlcnnldogaaW.PrintWords Go.Proofs.YtgeejlcnnldogaaW.PrintLast Go.Proofs.YtgeejlcnnldogaaW.PrintMore

theorem u16_of {x : Int} (h : (Lit.int .u16 x).wf = true) : 0 ≤ x ∧ x ≤ 65535 := by
  simp [Lit.wf, IntKind.min, IntKind.max, IntKind.bits, IntKind.signed] at h
  omega
theorem rd_nat (xs : List Int) (i : Nat) : rd xs i = xs.getD i 0 := by simp [rd]

section
variable (r own : Int) (l : List Int)
def ld (l : List Int) (t : Nat) : S58 := ⟨1 + l.getD (2 * t) 0, l.getD (2 * t + 1) 0⟩
def lds (l : List Int) (j : Nat) : List S58 := (List.range j).map (ld l)
def costs : List S58 → Int
  | [] => 0
  | x :: a => x.f1 + costs a
theorem costs_append : ∀ a b : List S58, costs (a ++ b) = costs a + costs b
  | [], b => by simp [costs]
  | x :: a, b => by simp [costs, costs_append a b]; omega
theorem lds_succ (l : List Int) (j : Nat) : lds l (j + 1) = lds l j ++ [ld l j] := by simp [lds, List.range_succ]
theorem lds_len (l : List Int) (j : Nat) : (lds l j).length = j := by simp [lds]
end

theorem getD_bd (l : List Int) (hl : ∀ x ∈ l, 0 ≤ x ∧ x ≤ 255) (i : Nat) : 0 ≤ l.getD i 0 ∧ l.getD i 0 ≤ 255 := by
  by_cases h : i < l.length
  · exact hl _ (by simp [List.getD, h])
  · simp [List.getD, List.getElem?_eq_none (Nat.not_lt.1 h)]
theorem lds_ok (l : List Int) (hl : ∀ x ∈ l, 0 ≤ x ∧ x ≤ 255) (j : Nat) : OkL (lds l j) := by
  intro x hx
  simp only [lds, List.mem_map] at hx
  obtain ⟨t, _, rfl⟩ := hx
  have h1 := getD_bd l hl (2 * t)
  have h2 := getD_bd l hl (2 * t + 1)
  simp only [ld]
  omega
theorem often_le {r p : Int} (hr : 0 ≤ r) (hp : 1 ≤ p) : often r p ≤ r + 1 := by
  unfold often
  have := Int.ediv_le_self p hr
  split <;> omega
theorem loadS_le (r : Int) (hr : 0 ≤ r) (hr2 : r ≤ 65535) (l : List Int) (hl : ∀ x ∈ l, 0 ≤ x ∧ x ≤ 255) : ∀ j : Nat, loadS r (lds l j) ≤ 16711680 * (j : Int)
  | 0 => by simp [lds, loadS]
  | j + 1 => by
    have ih := loadS_le r hr hr2 l hl j
    rw [lds_succ, loadS_append]
    have h1 := getD_bd l hl (2 * j)
    have h2 := getD_bd l hl (2 * j + 1)
    have h3 : often r (ld l j).f0 ≤ r + 1 := often_le hr (by simp only [ld]; omega)
    have h4 : often r (ld l j).f0 * (ld l j).f1 ≤ 65536 * 255 := by
      have h0 := often_nonneg hr (show 1 ≤ (ld l j).f0 by simp only [ld]; omega)
      calc often r (ld l j).f0 * (ld l j).f1 ≤ often r (ld l j).f0 * 255 := Int.mul_le_mul_of_nonneg_left (by simp only [ld]; omega) h0
        _ ≤ 65536 * 255 := Int.mul_le_mul_of_nonneg_right (by omega) (by decide)
    simp only [loadS, Int.add_zero]
    omega
theorem costs_bd (l : List Int) (hl : ∀ x ∈ l, 0 ≤ x ∧ x ≤ 255) : ∀ j : Nat, 0 ≤ costs (lds l j) ∧ costs (lds l j) ≤ 255 * (j : Int)
  | 0 => by simp [lds, costs]
  | j + 1 => by
    have ih := costs_bd l hl j
    rw [lds_succ, costs_append]
    have h2 := getD_bd l hl (2 * j + 1)
    simp only [costs, ld, Int.add_zero]
    omega
theorem loadS_zero (l : List Int) (hl : ∀ x ∈ l, 0 ≤ x ∧ x ≤ 255) : ∀ j : Nat, loadS 0 (lds l j) = 0
  | 0 => by simp [lds, loadS]
  | j + 1 => by
    rw [lds_succ, loadS_append, loadS_zero l hl j]
    simp [loadS, often]
theorem once_of (r : Int) (hr : 0 < r) (l : List Int) (hl : ∀ x ∈ l, 0 ≤ x ∧ x ≤ 255) : ∀ j : Nat, (∀ t, t < j → r ≤ (ld l t).f0) → loadS r (lds l j) = costs (lds l j)
  | 0, _ => by simp [lds, loadS, costs]
  | j + 1, h => by
    rw [lds_succ, loadS_append, costs_append, once_of r hr l hl j (fun t ht => h t (by omega))]
    have hp := h j (by omega)
    have ho : often r (ld l j).f0 = 1 := by
      unfold often
      rcases Int.lt_or_eq_of_le hp with h1 | h1
      · rw [Int.ediv_eq_zero_of_lt (by omega) h1, Int.emod_eq_of_lt (by omega) h1, if_pos hr]
        rfl
      · rw [← h1, Int.ediv_self (by omega), Int.emod_self]
        rfl
    simp [loadS, costs, ho]

theorem sums_loop (r own : Int) (hr : 0 ≤ r ∧ r ≤ 65535) (ho : 0 ≤ own ∧ own ≤ 255) (l : List Int) (hl : ∀ x ∈ l, 0 ≤ x ∧ x ≤ 255) (hn : l.length ≤ 40) : ∀ (d j : Nat) (least : Int), l.length / 2 - j = d → 2 * j ≤ l.length → (∀ t, t < j → least ≤ (ld l t).f0) →
    Ev (fun k => watchbilllaw12_RtaSums.l0 k r own l (lds l j) (own + loadS r (lds l j)) (own + costs (lds l j)) least (2 * j : Nat)) true := by
  intro d
  induction d with
  | zero =>
    intro j least hd hj hle
    have hS := loadS_le r hr.1 hr.2 l hl j
    have hS0 := loadS_nonneg hr.1 (lds l j) (lds_ok l hl j)
    have hne := next_ev r own hr.1 (by omega) ho.1 (by omega) (lds l j) (lds_ok l hl j) (by rw [lds_len]; omega)
    rw [if_pos (by omega)] at hne
    refine Ev.step (fun k => by rw [watchbilllaw12_RtaSums.l0, if_neg (by rw [w64 (by omega) (by omega)]; omega), w64 (x := r) (by omega) (by omega), w64 (x := own) (by omega) (by omega)]) ?_
    refine Ev.bind hne ?_
    simp only [if_true]
    by_cases h0 : r = 0
    · subst h0
      rw [loadS_zero l hl j]
      simp
      exact Ev.now true
    · rw [if_neg h0, if_pos (by omega)]
      by_cases h1 : r > least
      · rw [if_pos h1]
        exact Ev.now true
      · rw [if_neg h1, once_of r (by omega) l hl j (fun t ht => by have := hle t ht; omega)]
        simp
        exact Ev.now true
  | succ d ih =>
    intro j least hd hj hle
    have hlt : 2 * j + 1 < l.length := by omega
    have b1 := getD_bd l hl (2 * j)
    have b2 := getD_bd l hl (2 * j + 1)
    have hS := loadS_le r hr.1 hr.2 l hl j
    have hS1 := loadS_le r hr.1 hr.2 l hl (j + 1)
    have hS0 := loadS_nonneg hr.1 (lds l j) (lds_ok l hl j)
    have hS2 := loadS_nonneg hr.1 (lds l (j + 1)) (lds_ok l hl (j + 1))
    have hC := costs_bd l hl j
    have hC1 := costs_bd l hl (j + 1)
    have hld : (⟨wrap64 (1 + (wrap64 (rd l (2 * j : Nat)))), wrap64 (rd l (wrap64 (((2 * j : Nat) : Int) + 1)))⟩ : S58) = ld l j := by
      rw [w1 (by omega), rd_nat, rd_nat, w64 (x := l.getD (2 * j) 0) (by omega) (by omega), w64 (x := l.getD (2 * j + 1) 0) (by omega) (by omega), w64 (by omega) (by omega)]
      rfl
    have hok1 : OkL [ld l j] := by
      intro x hx
      rw [List.mem_singleton] at hx
      subst hx
      simp only [ld]
      omega
    have hs1 : loadS r (lds l (j + 1)) = loadS r (lds l j) + loadS r [ld l j] := by rw [lds_succ, loadS_append]
    have hc1 : costs (lds l (j + 1)) = costs (lds l j) + l.getD (2 * j + 1) 0 := by rw [lds_succ, costs_append]; simp [costs, ld]
    have hone := loadS_nonneg hr.1 [ld l j] hok1
    have hne := next_ev r 0 hr.1 (by omega) (by omega) (by omega) [ld l j] hok1 (by simp)
    rw [if_pos (by omega), Int.zero_add] at hne
    have hi := ih (j + 1) (mn least (1 + l.getD (2 * j) 0)) (by omega) (by omega) (fun t ht => by
      unfold mn
      rcases Nat.lt_or_ge t j with h | h
      · have := hle t h
        split <;> omega
      · obtain rfl : t = j := by omega
        simp only [ld]
        split <;> omega)
    refine Ev.step (f := fun k => (rta_Next.f k r 0 [ld l j]).bind fun bt => (if bt.2 = 0 then (watchbilllaw12_RtaSums.l0 k r own l (lds l j ++ [ld l j]) (wrap64 (own + loadS r (lds l j) + bt.1)) (wrap64 (own + costs (lds l j) + l.getD (2 * j + 1) 0)) (mn least (1 + l.getD (2 * j) 0)) (2 * (j + 1) : Nat)) else (some false))) (fun k => ?_) ?_
    · rw [watchbilllaw12_RtaSums.l0, if_pos (by rw [w1 (by omega)]; omega), if_pos (by omega), if_pos (by omega), if_pos (by rw [w1 (by omega)]; omega), if_pos (by rw [lds_len]; omega), hld, w64 (x := r) (by omega) (by omega)]
      have e1 : wrap64 (((2 * j : Nat) : Int) + 2) = ((2 * (j + 1) : Nat) : Int) := by rw [w64 (by omega) (by omega)]; omega
      have e2 : wrap64 (rd l (wrap64 (((2 * j : Nat) : Int) + 1))) = l.getD (2 * j + 1) 0 := by rw [w1 (by omega), rd_nat, w64 (by omega) (by omega)]
      have e3 : wrap64 (1 + wrap64 (rd l (2 * j : Nat))) = 1 + l.getD (2 * j) 0 := by rw [rd_nat, w64 (x := l.getD (2 * j) 0) (by omega) (by omega), w64 (by omega) (by omega)]
      rw [e1, e2, e3]
    · refine Ev.bind hne ?_
      simp only [if_true]
      rw [w64 (x := own + loadS r (lds l j) + loadS r [ld l j]) (by omega) (by omega), w64 (x := own + costs (lds l j) + l.getD (2 * j + 1) 0) (by omega) (by omega), ← lds_succ, Int.add_assoc, ← hs1, Int.add_assoc, ← hc1]
      exact hi

theorem RtaSums : watchbilllaw12_RtaSums.Pure := by
  intro r own l hr ho hm h8 hwf
  have hr' := u16_of hr
  have ho' := u8_of ho
  have hl : ∀ x ∈ l, 0 ≤ x ∧ x ≤ 255 := fun x hx => u8_of (hwf x hx)
  refine Ev.rounds (r := true) ?_
  unfold watchbilllaw12_RtaSums.f watchbilllaw12_known.f
  simp only [Option.bind_some, if_true]
  by_cases h1 : (l.length : Int) > 40
  · exact Ev.congr (fun k => by rw [if_pos h1]) (Ev.now true)
  · refine Ev.congr (fun k => by rw [if_neg h1, w64 (x := own) (by omega) (by omega)]) ?_
    have := sums_loop r own hr' ho' l hl (by omega) (l.length / 2) 0 1099511627776 (by omega) (by omega) (fun t ht => by omega)
    refine Ev.congr (fun k => ?_) this
    simp [lds, loadS, costs]
end Go.Proofs.Ytgeejlcnnldogaa.Pure
