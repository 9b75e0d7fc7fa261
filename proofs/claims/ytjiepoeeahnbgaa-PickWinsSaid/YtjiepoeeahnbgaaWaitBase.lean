
/- Those that wait: rows of waiters; the small functions: prio, Compare, Or. -/
import Derived.Test.YtjiepoeeahnbgaaBase
import Derived.Deep.RegionHeld3
namespace Go.Proofs.Ytjiepoeeahnbgaa
set_option linter.unusedVariables false
set_option linter.unusedSimpArgs false
open Go.RowKit

/-- A cell of a row of elements of several cells. -/
theorem flat_get {α : Type} (enc : α → List Value) (size : Nat) (hs : ∀ x, (enc x).length = size) : ∀ (xs : List α) (j f : Nat) (x : α), xs[j]? = some x → f < size → (xs.flatMap enc)[j * size + f]? = (enc x)[f]?
  | [], j, f, x, h, hf => by simp at h
  | y :: ys, 0, f, x, h, hf => by
    simp at h
    subst h
    rw [List.flatMap_cons, Nat.zero_mul, Nat.zero_add, List.getElem?_append_left (by rw [hs]; exact hf)]
  | y :: ys, j + 1, f, x, h, hf => by
    rw [List.flatMap_cons, List.getElem?_append_right (by rw [hs, Nat.succ_mul]; omega), hs, show (j + 1) * size + f - size = j * size + f by rw [Nat.succ_mul]; omega]
    exact flat_get enc size hs ys j f x (by simpa using h) hf
theorem flat_len {α : Type} (enc : α → List Value) (size : Nat) (hs : ∀ x, (enc x).length = size) (xs : List α) : (xs.flatMap enc).length = xs.length * size := by
  induction xs with
  | nil => simp
  | cons x xs ih => rw [List.flatMap_cons, List.length_append, ih, hs, List.length_cons, Nat.succ_mul]; omega

/-- One that waits. -/
structure Wt where
  task : Int
  case_ : Int
  seq : Int
  v : Int
  deriving DecidableEq
def Wt.enc (x : Wt) : List Value := [.int .i64 x.task, .int .i64 x.case_, .int .i64 x.seq, .int .i64 x.v]
theorem Wt.enc_len (x : Wt) : x.enc.length = 4 := rfl
theorem Wt.one (xs : List Wt) : ∀ u ∈ xs.flatMap Wt.enc, u.oneCell' = true := by
  intro u hu
  obtain ⟨x, _, hx⟩ := List.mem_flatMap.1 hu
  simp only [Wt.enc, List.mem_cons, List.not_mem_nil, or_false] at hx
  rcases hx with rfl | rfl | rfl | rfl <;> rfl
theorem Wt.one1 (x : Wt) : ∀ u ∈ x.enc, u.oneCell' = true := fun u hu => Wt.one [x] u (by simpa using hu)
/-- A row of waiters is read. -/
abbrev RdW (w : World) (v : Value) (xs : List Wt) : Prop := Rd w v xs.length (xs.flatMap Wt.enc)
theorem RdW.cells {w : World} {a : Option Addr} {cap : Nat} {xs : List Wt} (h : RdW w (.slice a xs.length cap) xs) {k : Nat} {x : Wt} (hk : xs[k]? = some x) :
    ∃ b off, a = some ⟨b, off, none⟩ ∧ w.cell? ⟨b, off + k * 4, none⟩ = some (.int .i64 x.task) ∧ w.cell? ⟨b, off + k * 4 + 1, none⟩ = some (.int .i64 x.case_) ∧ w.cell? ⟨b, off + k * 4 + 2, none⟩ = some (.int .i64 x.seq) ∧ w.cell? ⟨b, off + k * 4 + 3, none⟩ = some (.int .i64 x.v) := by
  have hl := (List.getElem?_eq_some_iff.1 hk).1
  obtain ⟨b, off, rfl, hc⟩ := h.at (by omega)
  refine ⟨b, off, rfl, ?_, ?_, ?_, ?_⟩
  · have := hc (k * 4 + 0) _ (flat_get Wt.enc 4 Wt.enc_len xs k 0 x hk (by omega))
    simpa using this
  · have := hc (k * 4 + 1) _ (flat_get Wt.enc 4 Wt.enc_len xs k 1 x hk (by omega))
    simpa [Nat.add_assoc] using this
  · have := hc (k * 4 + 2) _ (flat_get Wt.enc 4 Wt.enc_len xs k 2 x hk (by omega))
    simpa [Nat.add_assoc] using this
  · have := hc (k * 4 + 3) _ (flat_get Wt.enc 4 Wt.enc_len xs k 3 x hk (by omega))
    simpa [Nat.add_assoc] using this

/-- A task's priority. -/
def prioOf (ps : List Int) (t : Int) : Int := if t < 0 then 0 else if (ps.length : Int) ≤ t then 0 else ps.getD t.toNat 0
/-- Which of two numbers is the greater. -/
def cmpI (a b : Int) : Int := if a < b then -1 else if b < a then 1 else 0
def orI (a b : Int) : Int := if a ≠ 0 then a else b
theorem cmpI_bd (a b : Int) : -1 ≤ cmpI a b ∧ cmpI a b ≤ 1 := by unfold cmpI; split <;> (try split) <;> omega

theorem nan_int_any (x : Int) (w : World) : Calls Try.prog 56 #[.int .i64 x] w fun e w' => e = .returned (.bool false) ∧ w = w' := by
  go_enter Try.func56, Try.ntmps56
  go_wp2
  go_ret
  exact ⟨by simp, rfl⟩
theorem cmp_int_any (x y : Int) (w : World) : Calls Try.prog 49 #[.int .i64 x, .int .i64 y] w fun e w' => e = .returned (.int .i64 (cmpI x y)) ∧ w = w' := by
  unfold cmpI
  by_cases h1 : x < y
  · have d1 : decide (x < y) = true := decide_eq_true h1
    rw [if_pos h1]
    clear h1
    go_enter Try.func49, Try.ntmps49
    go_wp2_with fail
    refine (nan_int_any _ _).mono ?_
    rintro e w' ⟨rfl, rfl⟩
    go_wp2_with fail
    refine (nan_int_any _ _).mono ?_
    rintro e w' ⟨rfl, rfl⟩
    go_wp2
    go_ret
    exact ⟨rfl, rfl⟩
  · have d1 : decide (x < y) = false := decide_eq_false h1
    rw [if_neg h1]
    clear h1
    by_cases h2 : y < x
    · have d2 : decide (y < x) = true := decide_eq_true h2
      rw [if_pos h2]
      clear h2
      go_enter Try.func49, Try.ntmps49
      go_wp2_with fail
      refine (nan_int_any _ _).mono ?_
      rintro e w' ⟨rfl, rfl⟩
      go_wp2_with fail
      refine (nan_int_any _ _).mono ?_
      rintro e w' ⟨rfl, rfl⟩
      go_wp2
      go_ret
      exact ⟨rfl, rfl⟩
    · have d2 : decide (y < x) = false := decide_eq_false h2
      rw [if_neg h2]
      clear h2
      go_enter Try.func49, Try.ntmps49
      go_wp2_with fail
      refine (nan_int_any _ _).mono ?_
      rintro e w' ⟨rfl, rfl⟩
      go_wp2_with fail
      refine (nan_int_any _ _).mono ?_
      rintro e w' ⟨rfl, rfl⟩
      go_wp2
      go_ret
      exact ⟨rfl, rfl⟩
theorem nan_int64_any (x : Int) (w : World) : Calls Try.prog 57 #[.int .i64 x] w fun e w' => e = .returned (.bool false) ∧ w = w' := by
  go_enter Try.func57, Try.ntmps57
  go_wp2
  go_ret
  exact ⟨by simp, rfl⟩
theorem cmp_int64_any (x y : Int) (w : World) : Calls Try.prog 51 #[.int .i64 x, .int .i64 y] w fun e w' => e = .returned (.int .i64 (cmpI x y)) ∧ w = w' := by
  unfold cmpI
  by_cases h1 : x < y
  · have d1 : decide (x < y) = true := decide_eq_true h1
    rw [if_pos h1]
    clear h1
    go_enter Try.func51, Try.ntmps51
    go_wp2_with fail
    refine (nan_int64_any _ _).mono ?_
    rintro e w' ⟨rfl, rfl⟩
    go_wp2_with fail
    refine (nan_int64_any _ _).mono ?_
    rintro e w' ⟨rfl, rfl⟩
    go_wp2
    go_ret
    exact ⟨rfl, rfl⟩
  · have d1 : decide (x < y) = false := decide_eq_false h1
    rw [if_neg h1]
    clear h1
    by_cases h2 : y < x
    · have d2 : decide (y < x) = true := decide_eq_true h2
      rw [if_pos h2]
      clear h2
      go_enter Try.func51, Try.ntmps51
      go_wp2_with fail
      refine (nan_int64_any _ _).mono ?_
      rintro e w' ⟨rfl, rfl⟩
      go_wp2_with fail
      refine (nan_int64_any _ _).mono ?_
      rintro e w' ⟨rfl, rfl⟩
      go_wp2
      go_ret
      exact ⟨rfl, rfl⟩
    · have d2 : decide (y < x) = false := decide_eq_false h2
      rw [if_neg h2]
      clear h2
      go_enter Try.func51, Try.ntmps51
      go_wp2_with fail
      refine (nan_int64_any _ _).mono ?_
      rintro e w' ⟨rfl, rfl⟩
      go_wp2_with fail
      refine (nan_int64_any _ _).mono ?_
      rintro e w' ⟨rfl, rfl⟩
      go_wp2
      go_ret
      exact ⟨rfl, rfl⟩
end Go.Proofs.Ytjiepoeeahnbgaa
