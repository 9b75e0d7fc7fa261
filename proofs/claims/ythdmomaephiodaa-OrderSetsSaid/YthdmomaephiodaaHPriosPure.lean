/- Priorities by deadlines: plain words. -/
import Derived.Test.YthdmomaephiodaaHSort
namespace Go.Proofs.YthdmomaephiodaaH
set_option linter.unusedVariables false
set_option linter.unusedSimpArgs false
open Go.RowKit

/-- Does x go ahead of y? -/
def dlt (ds : List Int) (x y : Nat) : Bool := decide (ds.getD x 0 < ds.getD y 0 ∨ ds.getD x 0 = ds.getD y 0 ∧ x < y)
theorem dlt_total (ds : List Int) (x y : Nat) (h : x ≠ y) : dlt ds x y = true ∨ dlt ds y x = true := by
  simp only [dlt, decide_eq_true_eq]; omega
theorem dlt_trans (ds : List Int) (x y z : Nat) (h : dlt ds x y = true) (k : dlt ds y z = true) : dlt ds x z = true := by
  simp only [dlt, decide_eq_true_eq] at *; omega
theorem dlt_asymm (ds : List Int) (x y : Nat) (h : dlt ds x y = true) : dlt ds y x = false := by
  simp only [dlt, decide_eq_true_eq, decide_eq_false_iff_not] at *; omega
theorem dlt_irrefl (ds : List Int) (x : Nat) : dlt ds x x = false := by simp [dlt]
/-- How many go ahead of i. -/
def ahead (ds : List Int) (i : Nat) : Nat := (List.range ds.length).countP fun k => dlt ds k i
/-- Each one's priority. -/
def prios (ds : List Int) : List Int := (List.range ds.length).map fun i => (ds.length : Int) - (ahead ds i : Nat)
theorem prios_len (ds : List Int) : (prios ds).length = ds.length := by simp [prios]
theorem prios_get (ds : List Int) (i : Nat) (h : i < ds.length) : (prios ds).getD i 0 = (ds.length : Int) - (ahead ds i : Nat) := by
  simp [prios, List.getD, h]

/-- In a row that is sorted each stands behind as many as go ahead of it. -/
theorem sorted_place (ds : List Int) (M : List Nat) (hp : M.Perm (List.range ds.length)) (hR : M.Pairwise fun x y => dlt ds x y = true) (k : Nat) (hk : k < M.length) : ahead ds (M.getD k 0) = k := by
  unfold ahead
  rw [← hp.countP_eq]
  have hs : M = M.take k ++ M.getD k 0 :: M.drop (k + 1) := by
    conv => lhs; rw [← List.take_append_drop k M]
    rw [List.drop_eq_getElem_cons hk]
    simp [List.getD, hk]
  generalize hx : M.getD k 0 = x at hs ⊢
  have h1 := hR
  rw [hs, List.pairwise_append] at h1
  rw [hs, List.countP_append, List.countP_cons, dlt_irrefl]
  have ha : (M.take k).countP (fun j => dlt ds j x) = k := by
    have : ∀ y ∈ M.take k, dlt ds y x = true := fun y hy => h1.2.2 y hy x List.mem_cons_self
    rw [List.countP_eq_length.2 this]
    simp; omega
  have hb : (M.drop (k + 1)).countP (fun j => dlt ds j x) = 0 := by
    rw [List.countP_eq_zero]
    intro y hy
    have := (List.pairwise_cons.1 h1.2.1).1 y hy
    simp [dlt_asymm _ _ _ this]
  rw [ha, hb]
  simp

def dcmp (ds : List Int) (x y : Nat) : Int := if ds.getD x 0 < ds.getD y 0 then -1 else if ds.getD y 0 < ds.getD x 0 then 1 else 0
theorem ord_ds (ds : List Int) : Ord ds.length (dcmp ds) (fun x y => dlt ds x y = true) where
  cmp := fun x y hx hy => by
    simp only [dlt, decide_eq_true_eq, dcmp]
    split <;> (try split) <;> omega
  total := dlt_total ds
  trans := dlt_trans ds
theorem range_inc (n : Nat) : (List.range n).Pairwise (· < ·) := List.pairwise_lt_range

theorem countP_le' {α : Type} (p q : α → Bool) : ∀ l : List α, (∀ x ∈ l, p x = true → q x = true) → l.countP p ≤ l.countP q
  | [], _ => Nat.le_refl _
  | a :: l, h => by
    have ih := countP_le' p q l (fun x hx => h x (List.mem_cons_of_mem _ hx))
    rw [List.countP_cons, List.countP_cons]
    cases hp : p a with
    | false => simp; omega
    | true => rw [h a List.mem_cons_self hp]; simp; omega
theorem countP_lt' {α : Type} (p q : α → Bool) : ∀ l : List α, (∀ x ∈ l, p x = true → q x = true) → (∃ x ∈ l, q x = true ∧ p x = false) → l.countP p < l.countP q
  | [], _, ⟨x, hx, _⟩ => by cases hx
  | a :: l, h, ⟨x, hx, hq, hp⟩ => by
    have h' : ∀ x ∈ l, p x = true → q x = true := fun x hx => h x (List.mem_cons_of_mem _ hx)
    rw [List.countP_cons, List.countP_cons]
    rcases List.mem_cons.1 hx with rfl | hx
    · have := countP_le' p q l h'
      rw [hq, hp]
      simp; omega
    · have ih := countP_lt' p q l h' ⟨x, hx, hq, hp⟩
      cases hpa : p a with
      | false => simp; omega
      | true => rw [h a List.mem_cons_self hpa]; simp; omega
theorem ahead_lt (ds : List Int) (i : Nat) (h : i < ds.length) : ahead ds i < ds.length := by
  have := countP_lt' (fun k => dlt ds k i) (fun _ => true) (List.range ds.length) (fun _ _ _ => rfl) ⟨i, by simpa using h, rfl, dlt_irrefl ds i⟩
  unfold ahead
  refine Nat.lt_of_lt_of_le this ?_
  simp
theorem ahead_mono (ds : List Int) (x y : Nat) (hx : x < ds.length) (h : dlt ds x y = true) : ahead ds x < ahead ds y :=
  countP_lt' _ _ _ (fun z _ hz => dlt_trans ds z x y hz h) ⟨x, by simpa using hx, h, dlt_irrefl ds x⟩
theorem ahead_iff (ds : List Int) (x y : Nat) (hx : x < ds.length) (hy : y < ds.length) (hne : x ≠ y) : ahead ds x < ahead ds y ↔ dlt ds x y = true := by
  constructor
  · intro h
    rcases dlt_total ds x y hne with h1 | h1
    · exact h1
    · have := ahead_mono ds y x hy h1
      omega
  · exact ahead_mono ds x y hx
theorem dlt_shift (ds : List Int) (c : Int) (x y : Nat) (hx : x < ds.length) (hy : y < ds.length) : dlt (ds.map (c + ·)) x y = dlt ds x y := by
  have h1 : (ds.map (c + ·)).getD x 0 = c + ds.getD x 0 := by simp [List.getD, hx]
  have h2 : (ds.map (c + ·)).getD y 0 = c + ds.getD y 0 := by simp [List.getD, hy]
  simp only [dlt, h1, h2]
  congr 1
  simp only [eq_iff_iff]
  omega
end Go.Proofs.YthdmomaephiodaaH
