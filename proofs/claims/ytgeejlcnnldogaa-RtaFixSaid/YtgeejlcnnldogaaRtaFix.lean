/- What rta.Fix tells, in plain words. -/
import Derived.Test.YtgeejlcnnldogaaRtaEv
namespace Go.Proofs.Ytgeejlcnnldogaa.Pure
set_option linter.unusedVariables false
set_option linter.unusedSimpArgs false
open Go.RowKit Go.Proofs.Ytgeejlcnnldogaa.XA Go.Proofs.YtgeejlcnnldogaaW.PrintWords Go.Proofs.YtgeejlcnnldogaaW.PrintLast

/-- The rounds of Fix, from round i on, r reached. -/
def fixG (own : Int) (l : List S58) (most : Int) : Nat → Nat → Int → Int × Int × Int
  | 0, _, r => if r > most then (0, 0, 13) else (0, 0, 15)
  | d + 1, i, r => if r > most then (0, 0, 13) else if own + loadS r l ≤ 9223372036854775807 then (if own + loadS r l = r then (r, (i : Int) + 1, 0) else fixG own l most d (i + 1) (own + loadS r l)) else (0, 0, 14)

theorem fix_loop (own most : Int) (ho : 0 ≤ own) (ho2 : own ≤ 9223372036854775807) (hm2 : most ≤ 9223372036854775807) (l : List S58) (hok : OkL l) (hn : l.length ≤ 9223372036854775800) : ∀ (d i : Nat) (r : Int), i + d = 1000 → 0 ≤ r → r ≤ 9223372036854775807 →
    Ev (fun k => rta_Fix.l0 k own l most r i) (fixG own l most d i r) := by
  intro d
  induction d with
  | zero =>
    intro i r hd h0 h1
    unfold fixG
    by_cases hr : r > most
    · rw [if_pos hr]
      exact Ev.step (f := fun _ => some _) (fun k => by rw [rta_Fix.l0, if_pos hr]) (Ev.now _)
    · rw [if_neg hr]
      exact Ev.step (f := fun _ => some _) (fun k => by rw [rta_Fix.l0, if_neg hr, if_pos (by omega)]) (Ev.now _)
  | succ d ih =>
    intro i r hd h0 h1
    unfold fixG
    by_cases hr : r > most
    · rw [if_pos hr]
      exact Ev.step (f := fun _ => some _) (fun k => by rw [rta_Fix.l0, if_pos hr]) (Ev.now _)
    · rw [if_neg hr]
      have hne := next_ev r own h0 h1 ho ho2 l hok hn
      have hS := loadS_nonneg h0 l hok
      refine Ev.step (fun k => by rw [rta_Fix.l0, if_neg hr, if_neg (by omega)]) (Ev.bind hne ?_)
      by_cases hov : own + loadS r l ≤ 9223372036854775807
      · rw [if_pos hov, if_pos hov]
        simp only [if_true]
        by_cases he : own + loadS r l = r
        · rw [if_pos he, w1 (by omega), he]
          simp only [if_true]
          refine Ev.congr (fun k => ?_) (Ev.now _)
          rfl
        · simp only [if_neg he]
          rw [w1 (by omega)]
          exact ih (i + 1) _ (by omega) (by omega) hov
      · rw [if_neg hov, if_neg hov]
        refine Ev.congr (fun k => ?_) (Ev.now _)
        rfl
theorem fix_ev (own most : Int) (ho : 0 ≤ own) (ho2 : own ≤ 9223372036854775807) (hm : 0 ≤ most) (hm2 : most ≤ 9223372036854775807) (l : List S58) (hok : OkL l) (hn : l.length ≤ 9223372036854775800) :
    Ev (fun k => rta_Fix.f k own l most) (fixG own l most 1000 0 own) := by
  unfold rta_Fix.f
  refine Ev.bind (may_ev 0 own l hok hn) ?_
  rw [decide_eq_true ho]
  have hd : decide (most < 0) = false := decide_eq_false (by omega)
  refine Ev.congr (f := fun k => rta_Fix.j0 k own l most false) (fun k => by simp [hd]) ?_
  refine Ev.step (fun k => by rw [rta_Fix.j0, if_neg (by decide)]) ?_
  exact fix_loop own most ho ho2 hm2 l hok hn 1000 0 own (by omega) ho ho2

theorem often_mono {r s p : Int} (hr : 0 ≤ r) (h : r ≤ s) (hp : 1 ≤ p) : often r p ≤ often s p := by
  unfold often
  have e1 := Int.mul_ediv_add_emod r p
  have e2 := Int.mul_ediv_add_emod s p
  have h1 := Int.ediv_le_ediv (show 0 < p by omega) h
  have m1 := Int.emod_nonneg r (show p ≠ 0 by omega)
  have m2 := Int.emod_nonneg s (show p ≠ 0 by omega)
  rcases Int.lt_or_eq_of_le h1 with h2 | h2
  · split <;> split <;> omega
  · rw [h2] at e1 ⊢
    split <;> split <;> omega
theorem loadS_mono {r s : Int} (hr : 0 ≤ r) (h : r ≤ s) : ∀ l : List S58, OkL l → loadS r l ≤ loadS s l
  | [], _ => Int.le_refl 0
  | x :: l, hok => by
    have h1 := hok x List.mem_cons_self
    have h2 := loadS_mono hr h l (fun y hy => hok y (List.mem_cons_of_mem _ hy))
    have h3 := Int.mul_le_mul_of_nonneg_right (often_mono hr h h1.1) h1.2.1
    unfold loadS
    omega

/-- What is told is a number that is its own round; it is the same under any greater bound, under itself; one less is late. -/
theorem fixG_ok (own : Int) (l : List S58) (hok : OkL l) (most : Int) : ∀ (d i : Nat) (r q n : Int), 0 ≤ r → fixG own l most d i r = (q, n, 0) → r ≤ own + loadS r l →
    r ≤ q ∧ q ≤ most ∧ own + loadS q l = q ∧ (∀ m2, q ≤ m2 → fixG own l m2 d i r = (q, n, 0)) ∧ fixG own l (q - 1) d i r = (0, 0, 13) := by
  intro d
  induction d with
  | zero =>
    intro i r q n h0 h hge
    unfold fixG at h
    split at h <;> simp at h
  | succ d ih =>
    intro i r q n h0 h hge
    unfold fixG at h
    by_cases hr : r > most
    · rw [if_pos hr] at h
      simp at h
    · rw [if_neg hr] at h
      by_cases hov : own + loadS r l ≤ 9223372036854775807
      · rw [if_pos hov] at h
        by_cases he : own + loadS r l = r
        · rw [if_pos he] at h
          simp only [Prod.mk.injEq] at h
          obtain ⟨rfl, rfl, _⟩ := h
          refine ⟨Int.le_refl _, by omega, he, fun m2 hm2 => ?_, ?_⟩
          · unfold fixG
            rw [if_neg (by omega), if_pos hov, if_pos he]
          · unfold fixG
            rw [if_pos (by omega)]
        · rw [if_neg he] at h
          have hlt : r ≤ own + loadS r l := hge
          have hm := loadS_mono h0 hlt l hok
          obtain ⟨a, b, c, e, f⟩ := ih (i + 1) (own + loadS r l) q n (by omega) h (by omega)
          refine ⟨by omega, b, c, fun m2 hm2 => ?_, ?_⟩
          · unfold fixG
            rw [if_neg (by omega), if_pos hov, if_neg he]
            exact e m2 hm2
          · unfold fixG
            rw [if_neg (by omega), if_pos hov, if_neg he]
            exact f
      · rw [if_neg hov] at h
        simp at h
/-- Where no round is too great: late, or too many rounds. -/
theorem fixG_bad (own : Int) (l : List S58) (most : Int) (hno : ∀ r, 0 ≤ r → r ≤ most → own + loadS r l ≤ 9223372036854775807) (hpos : ∀ r, 0 ≤ r → 0 ≤ own + loadS r l) : ∀ (d i : Nat) (r : Int), 0 ≤ r →
    (∃ q n, fixG own l most d i r = (q, n, 0)) ∨ fixG own l most d i r = (0, 0, 13) ∨ fixG own l most d i r = (0, 0, 15) := by
  intro d
  induction d with
  | zero =>
    intro i r h0
    unfold fixG
    split
    · exact .inr (.inl rfl)
    · exact .inr (.inr rfl)
  | succ d ih =>
    intro i r h0
    unfold fixG
    by_cases hr : r > most
    · rw [if_pos hr]
      exact .inr (.inl rfl)
    · rw [if_neg hr, if_pos (hno r h0 (by omega))]
      by_cases he : own + loadS r l = r
      · rw [if_pos he]
        exact .inl ⟨_, _, rfl⟩
      · rw [if_neg he]
        exact ih (i + 1) _ (hpos r h0)
/-- With more to do nothing is done earlier. -/
theorem fixG_more (own own2 : Int) (l l2 : List S58) (hok : OkL l) (most q : Int) (hq0 : 0 ≤ q) (hqm : q ≤ most) (hq : own2 + loadS q l2 = q) (hmore : ∀ r, 0 ≤ r → r ≤ q → own + loadS r l ≤ own2 + loadS r l2) (hno : ∀ r, 0 ≤ r → r ≤ most → own + loadS r l ≤ 9223372036854775807) (hown : 0 ≤ own) : ∀ (d i : Nat) (r : Int), 0 ≤ r → r ≤ q →
    (∃ p n, fixG own l most d i r = (p, n, 0) ∧ p ≤ q) ∨ fixG own l most d i r = (0, 0, 15) := by
  intro d
  induction d with
  | zero =>
    intro i r h0 h1
    unfold fixG
    rw [if_neg (by omega)]
    exact .inr rfl
  | succ d ih =>
    intro i r h0 h1
    unfold fixG
    rw [if_neg (by omega), if_pos (hno r h0 (by omega))]
    by_cases he : own + loadS r l = r
    · rw [if_pos he]
      exact .inl ⟨_, _, rfl, h1⟩
    · rw [if_neg he]
      have h2 := loadS_nonneg h0 l hok
      have h3 := loadS_mono h0 h1 l hok
      have h4 := hmore q hq0 (Int.le_refl _)
      exact ih (i + 1) _ (by omega) (by omega)
end Go.Proofs.Ytgeejlcnnldogaa.Pure
