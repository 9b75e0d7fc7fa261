/- What the printed functions of package rta tell, in plain words. -/
import Derived.Test.YtgeejlcnnldogaaXAx1
import Derived.Test.YtgeejlcnnldogaaXAx1
import Derived.Test.YtgeejlcnnldogaaHBase
namespace Go.Proofs.Ytgeejlcnnldogaa.Pure
set_option linter.unusedVariables false
set_option linter.unusedSimpArgs false
open Go.RowKit Go.Proofs.Ytgeejlcnnldogaa.XA Go.Proofs.YtgeejlcnnldogaaW.PrintWords Go.Proofs.YtgeejlcnnldogaaW.PrintLast

theorem w64 {x : Int} (h0 : -9223372036854775808 ≤ x) (h1 : x ≤ 9223372036854775807) : wrap64 x = x := by unfold wrap64; omega
theorem w1 {q : Nat} (h : q ≤ 9223372036854775806) : wrap64 ((q : Int) + 1) = ((q + 1 : Nat) : Int) := by rw [w64 (by omega) (by omega)]; omega
theorem wu {x : Int} (h0 : 0 ≤ x) (h1 : x ≤ 18446744073709551615) : IntKind.u64.wrap x = x := by simp [IntKind.wrap, IntKind.bits, IntKind.signed]; omega
theorem u8_of {x : Int} (h : (Lit.int .u8 x).wf = true) : 0 ≤ x ∧ x ≤ 255 := Go.Proofs.YtgeejlcnnldogaaH.wf_u8 h
theorem band {x : Int} (h0 : 0 ≤ x) (h1 : x ≤ 18446744073709551615) : Go.bits .and .u64 x 4294967295 = x % 4294967296 := by
  have := bits_mask .u64 64 (by decide) (fun n h0 h1 => wu h0 (by omega)) 32 (by decide) x h0 (by omega)
  simpa using this

theorem mul64_f (a b : Int) (ha : 0 ≤ a) (ha2 : a ≤ 18446744073709551615) (hb : 0 ≤ b) (hb2 : b ≤ 18446744073709551615) : bits_Mul64.f a b = some (a * b / 18446744073709551616, a * b % 18446744073709551616) := by
  unfold bits_Mul64.f
  rw [band ha ha2, band hb hb2]
  obtain ⟨a1, ha1⟩ : ∃ a1, a1 = a / 4294967296 := ⟨_, rfl⟩
  obtain ⟨a0, ha0⟩ : ∃ a0, a0 = a % 4294967296 := ⟨_, rfl⟩
  obtain ⟨b1, hb1⟩ : ∃ b1, b1 = b / 4294967296 := ⟨_, rfl⟩
  obtain ⟨b0, hb0⟩ : ∃ b0, b0 = b % 4294967296 := ⟨_, rfl⟩
  rw [← ha1, ← ha0, ← hb1, ← hb0]
  have ea : a = a1 * 4294967296 + a0 := by omega
  have eb : b = b1 * 4294967296 + b0 := by omega
  have a1b : 0 ≤ a1 ∧ a1 ≤ 4294967295 := by omega
  have a0b : 0 ≤ a0 ∧ a0 ≤ 4294967295 := by omega
  have b1b : 0 ≤ b1 ∧ b1 ≤ 4294967295 := by omega
  have b0b : 0 ≤ b0 ∧ b0 ≤ 4294967295 := by omega
  have bd : ∀ x y : Int, 0 ≤ x ∧ x ≤ 4294967295 → 0 ≤ y ∧ y ≤ 4294967295 → 0 ≤ x * y ∧ x * y ≤ 18446744065119617025 := by
    intro x y hx hy
    refine ⟨Int.mul_nonneg hx.1 hy.1, ?_⟩
    calc x * y ≤ 4294967295 * y := Int.mul_le_mul_of_nonneg_right hx.2 hy.1
      _ ≤ 4294967295 * 4294967295 := Int.mul_le_mul_of_nonneg_left hy.2 (by decide)
      _ = 18446744065119617025 := by decide
  have p11 := bd a1 b1 a1b b1b
  have p10 := bd a1 b0 a1b b0b
  have p01 := bd a0 b1 a0b b1b
  have p00 := bd a0 b0 a0b b0b
  have em : a * b = (a1 * b1) * 18446744073709551616 + (a1 * b0 + a0 * b1) * 4294967296 + a0 * b0 := by
    rw [ea, eb]
    simp only [Int.add_mul, Int.mul_add]
    have h1 : a1 * 4294967296 * (b1 * 4294967296) = a1 * b1 * 18446744073709551616 := by
      rw [Int.mul_assoc, Int.mul_left_comm 4294967296 b1, ← Int.mul_assoc]
      rfl
    have h2 : a1 * 4294967296 * b0 = a1 * b0 * 4294967296 := by rw [Int.mul_assoc, Int.mul_comm 4294967296 b0, ← Int.mul_assoc]
    have h3 : a0 * (b1 * 4294967296) = a0 * b1 * 4294967296 := by rw [← Int.mul_assoc]
    rw [h1, h2, h3]
    omega
  generalize a1 * b1 = q11 at *
  generalize a1 * b0 = q10 at *
  generalize a0 * b1 = q01 at *
  generalize a0 * b0 = q00 at *
  generalize a * b = m at *
  clear ea eb ha1 ha0 hb1 hb0 bd
  rw [wu (x := q00) (by omega) (by omega), wu (x := q10) (by omega) (by omega), wu (x := q01) (by omega) (by omega), wu (x := q11) (by omega) (by omega)]
  rw [wu (x := q10 + q00 / 4294967296) (by omega) (by omega)]
  rw [band (x := q10 + q00 / 4294967296) (by omega) (by omega)]
  rw [wu (x := (q10 + q00 / 4294967296) % 4294967296 + q01) (by omega) (by omega)]
  rw [wu (x := q11 + (q10 + q00 / 4294967296) / 4294967296) (by omega) (by omega)]
  rw [wu (x := q11 + (q10 + q00 / 4294967296) / 4294967296 + ((q10 + q00 / 4294967296) % 4294967296 + q01) / 4294967296) (by omega) (by omega)]
  congr 2
  omega

abbrev M63 : Int := 9223372036854775807
theorem more_f (n o c : Int) (hn : 0 ≤ n) (hn2 : n ≤ 9223372036854775807) (ho : 0 ≤ o) (ho2 : o ≤ 9223372036854775807) (hc : 0 ≤ c) (hc2 : c ≤ 9223372036854775807) :
    rta_more.f n o c = if n + o * c ≤ 9223372036854775807 then some (n + o * c, true) else some (0, false) := by
  unfold rta_more.f
  rw [wu ho (by omega), wu hc (by omega), mul64_f o c ho (by omega) hc (by omega)]
  have hp := Int.mul_nonneg ho hc
  generalize o * c = m at *
  simp only [Option.bind_some]
  by_cases h1 : m / 18446744073709551616 > 0
  · rw [if_pos h1, if_neg (by omega)]
  · rw [if_neg h1]
    have hm : m % 18446744073709551616 = m := by omega
    rw [hm]
    by_cases h2 : m > 9223372036854775807
    · rw [if_pos h2, if_neg (by omega)]
    · rw [if_neg h2, w64 (x := m) (by omega) (by omega), w64 (x := 9223372036854775807 - n) (by omega) (by omega)]
      by_cases h3 : m > 9223372036854775807 - n
      · rw [if_pos h3, if_neg (by omega)]
      · rw [if_neg h3, if_pos (by omega), w64 (x := n + m) (by omega) (by omega)]

/-- How often one comes within r. -/
def often (r p : Int) : Int := r / p + if r % p > 0 then 1 else 0
/-- What all loads make within r. -/
def loadS (r : Int) : List S58 → Int
  | [] => 0
  | x :: l => often r x.f0 * x.f1 + loadS r l
/-- Loads that may be. -/
def OkL (l : List S58) : Prop := ∀ x ∈ l, 1 ≤ x.f0 ∧ 0 ≤ x.f1 ∧ x.f1 ≤ 9223372036854775807
theorem often_nonneg {r p : Int} (hr : 0 ≤ r) (hp : 1 ≤ p) : 0 ≤ often r p := by
  unfold often
  have := Int.ediv_nonneg hr (show 0 ≤ p by omega)
  split <;> omega
theorem loadS_nonneg {r : Int} (hr : 0 ≤ r) : ∀ l : List S58, OkL l → 0 ≤ loadS r l
  | [], _ => Int.le_refl 0
  | x :: l, h => by
    have h1 := h x List.mem_cons_self
    have h2 := loadS_nonneg hr l (fun y hy => h y (List.mem_cons_of_mem _ hy))
    have h3 := Int.mul_nonneg (often_nonneg hr h1.1) h1.2.1
    unfold loadS
    omega
theorem loadS_append (r : Int) : ∀ a b : List S58, loadS r (a ++ b) = loadS r a + loadS r b
  | [], b => by simp [loadS]
  | x :: a, b => by simp [loadS, loadS_append r a b]; omega

theorem may_loop (r own : Int) (l : List S58) (hok : OkL l) (hn : l.length ≤ 9223372036854775800) : ∀ d q : Nat, l.length - q = d → q ≤ l.length →
    Ev (fun k => rta_may.l0 k r own l (l.length : Int) q) (decide (0 ≤ r) && decide (0 ≤ own)) := by
  intro d
  induction d with
  | zero =>
    intro q hd hq
    refine Ev.step (f := fun _ => some _) (fun k => ?_) (Ev.now _)
    rw [rta_may.l0, if_neg (by omega)]
    by_cases h : r ≥ 0
    · rw [if_pos h]
      simp [h]
    · rw [if_neg h]
      have : decide (0 ≤ r) = false := decide_eq_false h
      rw [this]
      rfl
  | succ d ih =>
    intro q hd hq
    have hx : rd_T58 l q ∈ l := by simp [rd_T58, List.getD, show q < l.length by omega]
    have := hok _ hx
    refine Ev.step (fun k => ?_) (ih (q + 1) (by omega) (by omega))
    rw [rta_may.l0, if_pos (by omega), if_pos (by omega), if_pos (by omega), if_neg (by omega), if_neg (by omega), w1 (by omega)]
theorem may_ev (r own : Int) (l : List S58) (hok : OkL l) (hn : l.length ≤ 9223372036854775800) : Ev (fun k => rta_may.f k r own l) (decide (0 ≤ r) && decide (0 ≤ own)) :=
  may_loop r own l hok hn _ 0 rfl (by omega)

theorem next_loop (r : Int) (hr : 0 ≤ r) (hr2 : r ≤ 9223372036854775807) (l : List S58) (hok : OkL l) (hn : l.length ≤ 9223372036854775800) : ∀ (d q : Nat) (n : Int), l.length - q = d → q ≤ l.length → 0 ≤ n → n ≤ 9223372036854775807 →
    Ev (fun k => rta_Next.l0 k r n l (l.length : Int) q) (if n + loadS r (l.drop q) ≤ 9223372036854775807 then (n + loadS r (l.drop q), 0) else (0, 14)) := by
  intro d
  induction d with
  | zero =>
    intro q n hd hq h0 h1
    have hdr : l.drop q = [] := List.drop_of_length_le (by omega)
    rw [hdr, loadS, Int.add_zero, if_pos h1]
    exact Ev.step (f := fun _ => some _) (fun k => by rw [rta_Next.l0, if_neg (by omega)]) (Ev.now _)
  | succ d ih =>
    intro q n hd hq h0 h1
    have hlt : q < l.length := by omega
    have hx : rd_T58 l q ∈ l := by simp [rd_T58, List.getD, hlt]
    have hdr : l.drop q = rd_T58 l q :: l.drop (q + 1) := by
      rw [List.drop_eq_getElem_cons hlt]
      simp [rd_T58, List.getD, hlt]
    obtain ⟨x, hxx⟩ : ∃ x, x = rd_T58 l q := ⟨_, rfl⟩
    rw [← hxx] at hx hdr
    have hb := hok _ hx
    have hrest := loadS_nonneg hr (l.drop (q + 1)) (fun y hy => hok y (List.mem_of_mem_drop hy))
    have ho0 := often_nonneg hr hb.1
    have hdv : Int.tdiv r x.f0 = r / x.f0 := Int.tdiv_eq_ediv_of_nonneg hr
    have hmd : Int.tmod r x.f0 = r % x.f0 := Int.tmod_eq_emod_of_nonneg hr
    have hd0 := Int.ediv_nonneg hr (show 0 ≤ x.f0 by omega)
    have hdle : r / x.f0 ≤ r := Int.ediv_le_self _ hr
    have hle : ∀ y : Int, n + y + loadS r (l.drop (q + 1)) = n + (y + loadS r (l.drop (q + 1))) := fun y => Int.add_assoc _ _ _
    rw [hdr, loadS]
    have hcase : ∀ o : Int, o = often r x.f0 → o ≤ 9223372036854775807 → Ev (fun k => (rta_more.f n o x.f1).bind fun bt => (if bt.2 = true then (rta_Next.l0 k r bt.1 l (l.length : Int) (wrap64 ((q : Int) + 1))) else (some (0, 14)))) (if n + (often r x.f0 * x.f1 + loadS r (l.drop (q + 1))) ≤ 9223372036854775807 then (n + (often r x.f0 * x.f1 + loadS r (l.drop (q + 1))), 0) else (0, 14)) := by
      intro o ho ho2
      have hm := more_f n o x.f1 h0 h1 (by omega) ho2 hb.2.1 hb.2.2
      have hp := Int.mul_nonneg ho0 hb.2.1
      rw [← ho] at hp ⊢
      by_cases hov : n + o * x.f1 ≤ 9223372036854775807
      · rw [if_pos hov] at hm
        have hi := ih (q + 1) (n + o * x.f1) (by omega) (by omega) (by omega) hov
        rw [hle] at hi
        refine Ev.congr (fun k => ?_) hi
        rw [hm]
        simp only [Option.bind_some, if_true]
        rw [w1 (by omega)]
      · rw [if_neg hov] at hm
        rw [if_neg (by omega)]
        refine Ev.congr (fun k => ?_) (Ev.now _)
        rw [hm]
        simp
    by_cases hz : r % x.f0 > 0
    · have hp2 : 2 ≤ x.f0 := by
        rcases Int.lt_or_le x.f0 2 with h | h
        · have : x.f0 = 1 := by omega
          rw [this] at hz
          omega
        · exact h
      have hdm := Int.mul_ediv_add_emod r x.f0
      have hdb : r / x.f0 + 1 ≤ 9223372036854775807 := by
        have : 2 * (r / x.f0) ≤ x.f0 * (r / x.f0) := Int.mul_le_mul_of_nonneg_right hp2 hd0
        omega
      have hof : often r x.f0 = r / x.f0 + 1 := by unfold often; rw [if_pos hz]
      refine Ev.step (fun k => ?_) (hcase (r / x.f0 + 1) hof.symm hdb)
      rw [rta_Next.l0, if_pos (by omega), if_pos (by omega), if_pos (by omega), ← hxx, if_neg (by omega), if_pos (by rw [hmd]; exact hz), hdv, w64 (x := r / x.f0) (by omega) (by omega), w64 (x := r / x.f0 + 1) (by omega) (by omega)]
    · have hof : often r x.f0 = r / x.f0 := by unfold often; rw [if_neg hz]; omega
      refine Ev.step (fun k => ?_) (hcase (r / x.f0) hof.symm (by omega))
      rw [rta_Next.l0, if_pos (by omega), if_pos (by omega), if_pos (by omega), ← hxx, if_neg (by omega), if_neg (by rw [hmd]; exact hz), hdv, w64 (x := r / x.f0) (by omega) (by omega)]

/-- One round: what it tells. -/
theorem next_ev (r own : Int) (hr : 0 ≤ r) (hr2 : r ≤ 9223372036854775807) (ho : 0 ≤ own) (ho2 : own ≤ 9223372036854775807) (l : List S58) (hok : OkL l) (hn : l.length ≤ 9223372036854775800) :
    Ev (fun k => rta_Next.f k r own l) (if own + loadS r l ≤ 9223372036854775807 then (own + loadS r l, 0) else (0, 14)) := by
  unfold rta_Next.f
  refine Ev.bind (may_ev r own l hok hn) ?_
  rw [decide_eq_true hr, decide_eq_true ho]
  have := next_loop r hr hr2 l hok hn l.length 0 own (by omega) (by omega) ho ho2
  rw [List.drop_zero] at this
  refine Ev.congr (fun k => ?_) this
  rw [Bool.true_and, if_pos rfl]
  rfl
end Go.Proofs.Ytgeejlcnnldogaa.Pure
