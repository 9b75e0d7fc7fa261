/- Loads out of a row of small numbers: two to a load. -/
import Derived.Test.YtgeejlcnnldogaaRtaFix
namespace Go.Proofs.Ytgeejlcnnldogaa.Pure
set_option linter.unusedVariables false
set_option linter.unusedSimpArgs false
open Go.RowKit Go.Proofs.Ytgeejlcnnldogaa.XA Go.Proofs.YtgeejlcnnldogaaW.PrintWords Go.Proofs.YtgeejlcnnldogaaW.PrintLast

theorem u16_of {x : Int} (h : (Lit.int .u16 x).wf = true) : 0 ≤ x ∧ x ≤ 65535 := by
  simp [Lit.wf, IntKind.min, IntKind.max, IntKind.bits, IntKind.signed] at h
  omega
theorem rd_nat (xs : List Int) (i : Nat) : rd xs i = xs.getD i 0 := by simp [rd]
def ld (l : List Int) (t : Nat) : S58 := ⟨2 + l.getD (2 * t) 0, l.getD (2 * t + 1) 0 % 8⟩
def lds (l : List Int) (j : Nat) : List S58 := (List.range j).map (ld l)
theorem lds_succ (l : List Int) (j : Nat) : lds l (j + 1) = lds l j ++ [ld l j] := by simp [lds, List.range_succ]
theorem lds_len (l : List Int) (j : Nat) : (lds l j).length = j := by simp [lds]
theorem getD_bd (l : List Int) (hl : ∀ x ∈ l, 0 ≤ x ∧ x ≤ 255) (i : Nat) : 0 ≤ l.getD i 0 ∧ l.getD i 0 ≤ 255 := by
  by_cases h : i < l.length
  · exact hl _ (by simp [List.getD, h])
  · simp [List.getD, List.getElem?_eq_none (Nat.not_lt.1 h)]
/-- Small loads. -/
def SmallL (a : List S58) : Prop := ∀ x ∈ a, 1 ≤ x.f0 ∧ 0 ≤ x.f1 ∧ x.f1 ≤ 7
theorem SmallL.ok {a : List S58} (h : SmallL a) : OkL a := fun x hx => by have := h x hx; omega
theorem lds_small (l : List Int) (hl : ∀ x ∈ l, 0 ≤ x ∧ x ≤ 255) (j : Nat) : SmallL (lds l j) := by
  intro x hx
  simp only [lds, List.mem_map] at hx
  obtain ⟨t, _, rfl⟩ := hx
  have h1 := getD_bd l hl (2 * t)
  have h2 := getD_bd l hl (2 * t + 1)
  simp only [ld]
  omega
theorem often_le {r p : Int} (hr : 0 ≤ r) (hp : 1 ≤ p) : often r p ≤ r + 1 := by
  unfold often
  have := Int.ediv_le_self p hr
  split <;> omega
theorem small_le (r : Int) (hr : 0 ≤ r) (hr2 : r ≤ 1000000) : ∀ a : List S58, SmallL a → loadS r a ≤ 7000007 * (a.length : Int)
  | [], _ => by simp [loadS]
  | x :: a, h => by
    have ih := small_le r hr hr2 a (fun y hy => h y (List.mem_cons_of_mem _ hy))
    have hx := h x List.mem_cons_self
    have h3 : often r x.f0 ≤ r + 1 := often_le hr hx.1
    have h4 : often r x.f0 * x.f1 ≤ 1000001 * 7 := by
      have h0 := often_nonneg hr hx.1
      calc often r x.f0 * x.f1 ≤ often r x.f0 * 7 := Int.mul_le_mul_of_nonneg_left hx.2.2 h0
        _ ≤ 1000001 * 7 := Int.mul_le_mul_of_nonneg_right (by omega) (by decide)
    simp only [loadS, List.length_cons]
    omega
theorem small_no (own : Int) (ho : 0 ≤ own ∧ own ≤ 1000) (a : List S58) (h : SmallL a) (hn : a.length ≤ 100) (most : Int) (hm : most ≤ 1000000) : ∀ r, 0 ≤ r → r ≤ most → own + loadS r a ≤ 9223372036854775807 := by
  intro r h0 h1
  have := small_le r h0 (by omega) a h
  omega
theorem small_pos (own : Int) (ho : 0 ≤ own) (a : List S58) (h : SmallL a) : ∀ r, 0 ≤ r → 0 ≤ own + loadS r a := by
  intro r h0
  have := loadS_nonneg h0 a h.ok
  omega
theorem elt (l : List Int) (hl : ∀ x ∈ l, 0 ≤ x ∧ x ≤ 255) (j : Nat) (hn : 2 * j + 1 ≤ 1000000) : (⟨wrap64 (2 + (wrap64 (rd l (2 * j : Nat)))), wrap64 (Int.tmod (rd l (wrap64 (((2 * j : Nat) : Int) + 1))) 8)⟩ : S58) = ld l j := by
  have b1 := getD_bd l hl (2 * j)
  have b2 := getD_bd l hl (2 * j + 1)
  rw [w1 (by omega), rd_nat, rd_nat, w64 (x := l.getD (2 * j) 0) (by omega) (by omega), Int.tmod_eq_emod_of_nonneg b2.1, w64 (x := l.getD (2 * j + 1) 0 % 8) (by omega) (by omega), w64 (by omega) (by omega)]
  rfl
end Go.Proofs.Ytgeejlcnnldogaa.Pure
