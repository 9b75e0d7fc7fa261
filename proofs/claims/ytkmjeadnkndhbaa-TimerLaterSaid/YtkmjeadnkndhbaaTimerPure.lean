/- A timer as the times at which each is due. -/
import Derived.Test.YtkmjeadnkndhbaaTimerKnown
namespace Go.Proofs.Ytkmjeadnkndhbaa
set_option linter.unusedVariables false
set_option linter.unusedSimpArgs false
open Go.RowKit

/-- Who is due when, from time b on. -/
def absD : List Due → Int → List (Int × Int)
  | [], _ => []
  | d :: l, b => (d.id, b + d.more) :: absD l (b + d.more)
theorem absD_ids (ds : List Due) (b : Int) : (absD ds b).map (·.1) = ds.map Due.id := by
  induction ds generalizing b with
  | nil => rfl
  | cons d l ih => simp [absD, ih]
theorem absD_put (ds : List Due) (id : Int) : ∀ (b m : Int) (A B : List (Int × Int)), absD ds b = A ++ B → (∀ x ∈ A, x.2 ≤ b + m) → (∀ x ∈ B, b + m < x.2) → absD (putD ds id m) b = A ++ (id, b + m) :: B := by
  induction ds with
  | nil =>
    intro b m A B h hA hB
    have : A = [] ∧ B = [] := by simpa [absD] using h.symm
    obtain ⟨rfl, rfl⟩ := this
    rfl
  | cons d l ih =>
    intro b m A B h hA hB
    unfold putD
    by_cases hm : m < d.more
    · rw [if_pos hm]
      cases A with
      | nil =>
        simp only [List.nil_append] at h ⊢
        rw [← h]
        simp only [absD]
        rw [show b + m + (d.more - m) = b + d.more by omega]
      | cons x A =>
        simp only [absD, List.cons_append, List.cons.injEq] at h
        have := hA x (by simp)
        rw [← h.1] at this
        simp only at this
        omega
    · rw [if_neg hm]
      cases A with
      | nil =>
        simp only [absD, List.nil_append] at h
        have := hB (d.id, b + d.more) (by rw [← h]; simp)
        simp only at this
        omega
      | cons x A =>
        simp only [absD, List.cons_append, List.cons.injEq] at h
        simp only [absD, List.cons_append]
        rw [h.1, ih (b + d.more) (m - d.more) A B h.2 (fun y hy => by have := hA y (by simp [hy]); omega) (fun y hy => by have := hB y hy; omega)]
        rw [show b + d.more + (m - d.more) = b + m by omega]
theorem popD_abs (ds : List Due) : ∀ (b : Int) (A B : List (Int × Int)), absD ds b = A ++ B → (∀ x ∈ A, x.2 = b) → (∀ x ∈ B, b < x.2) → (popD ds).1 = A.map (·.1) ∧ absD (popD ds).2 b = B := by
  induction ds with
  | nil =>
    intro b A B h hA hB
    have : A = [] ∧ B = [] := by simpa [absD] using h.symm
    obtain ⟨rfl, rfl⟩ := this
    exact ⟨rfl, rfl⟩
  | cons d l ih =>
    intro b A B h hA hB
    by_cases hm : d.more = 0
    · simp only [popD, if_pos hm]
      cases A with
      | nil =>
        simp only [absD, List.nil_append] at h
        have := hB (d.id, b + d.more) (by rw [← h]; simp)
        simp only at this
        omega
      | cons x A =>
        simp only [absD, List.cons_append, List.cons.injEq] at h
        obtain ⟨h1, h2⟩ := h
        rw [hm, Int.add_zero] at h2
        obtain ⟨h3, h4⟩ := ih b A B h2 (fun y hy => hA y (by simp [hy])) hB
        rw [h3, ← h1]
        exact ⟨rfl, h4⟩
    · simp only [popD, if_neg hm]
      cases A with
      | nil => exact ⟨rfl, by simpa using h⟩
      | cons x A =>
        simp only [absD, List.cons_append, List.cons.injEq] at h
        have := hA x (by simp)
        rw [← h.1] at this
        simp only at this
        omega
theorem tickD_abs (ds : List Due) (b : Int) (A B : List (Int × Int)) (h : absD ds b = A ++ B) (hA : ∀ x ∈ A, x.2 = b + 1) (hB : ∀ x ∈ B, b + 1 < x.2) : (tickD ds).1 = A.map (·.1) ∧ absD (tickD ds).2 (b + 1) = B := by
  cases ds with
  | nil =>
    have : A = [] ∧ B = [] := by simpa [absD] using h.symm
    obtain ⟨rfl, rfl⟩ := this
    exact ⟨rfl, rfl⟩
  | cons d l =>
    refine popD_abs _ (b + 1) A B ?_ hA hB
    rw [← h]
    simp only [absD]
    rw [show b + 1 + (d.more - 1) = b + d.more by omega]
theorem popD_ok {ds : List Due} (h : DOk ds) : DOk (popD ds).2 ∧ (popD ds).2.length ≤ ds.length := by
  induction ds with
  | nil => exact ⟨h, Nat.le_refl _⟩
  | cons d l ih =>
    by_cases hm : d.more = 0
    · simp only [popD, if_pos hm]
      obtain ⟨h1, h2⟩ := ih (fun x hx => h x (by simp [hx]))
      exact ⟨h1, by simp; omega⟩
    · simp only [popD, if_neg hm]
      exact ⟨h, Nat.le_refl _⟩
theorem tickD_ok {ds : List Due} {b : Int} (h : DOk ds) (hb : ∀ x ∈ absD ds b, b < x.2) : DOk (tickD ds).2 ∧ (tickD ds).2.length ≤ ds.length := by
  cases ds with
  | nil => exact ⟨h, Nat.le_refl _⟩
  | cons d l =>
    have h1 := hb (d.id, b + d.more) (by simp [absD])
    simp only at h1
    have h2 := h d (by simp)
    exact popD_ok (ds := ⟨d.id, d.more - 1⟩ :: l) (fun x hx => by
      rcases List.mem_cons.1 hx with rfl | hx
      · simp only; omega
      · exact h x (by simp [hx]))
theorem putD_ok {ds : List Due} {id : Int} : ∀ {m : Int}, DOk ds → 0 ≤ m → m ≤ 1099511627776 → DOk (putD ds id m) := by
  induction ds with
  | nil => intro m h h0 h1 x hx; simp [putD] at hx; subst hx; exact ⟨h0, h1⟩
  | cons d l ih =>
    intro m h h0 h1 x hx
    have hd := h d (by simp)
    unfold putD at hx
    split at hx
    · simp only [List.mem_cons] at hx
      rcases hx with rfl | rfl | hx
      · exact ⟨h0, h1⟩
      · simp only; omega
      · exact h x (by simp [hx])
    · rcases List.mem_cons.1 hx with rfl | hx
      · exact hd
      · exact ih (fun y hy => h y (by simp [hy])) (by omega) (by omega) x hx

/-- Those of the first n that are due at time t. -/
def cls (T : Nat → Nat) (n t : Nat) : List Nat := (List.range n).filter fun i => T i == t
/-- All of the first n that are due from time k on, so many times. -/
def sched (T : Nat → Nat) (n k c : Nat) : List (Int × Int) := (List.range' k c).flatMap fun t => (cls T n t).map fun i : Nat => ((i : Int), (t : Int))
theorem mem_sched {T : Nat → Nat} {n k c : Nat} {x : Int × Int} (h : x ∈ sched T n k c) : ∃ i t : Nat, x = ((i : Int), (t : Int)) ∧ i < n ∧ T i = t ∧ k ≤ t ∧ t < k + c := by
  unfold sched at h
  obtain ⟨t, ht, hx⟩ := List.mem_flatMap.1 h
  obtain ⟨i, hi, rfl⟩ := List.mem_map.1 hx
  obtain ⟨hi1, hi2⟩ := List.mem_filter.1 hi
  rw [List.mem_range'_1] at ht
  exact ⟨i, t, rfl, List.mem_range.1 hi1, by simpa using hi2, ht.1, ht.2⟩
theorem sched_split (T : Nat → Nat) (n k a b : Nat) : sched T n k (a + b) = sched T n k a ++ sched T n (k + a) b := by
  unfold sched
  rw [← List.flatMap_append, List.range'_append_1]
theorem cls_succ (T : Nat → Nat) (n t : Nat) : cls T (n + 1) t = cls T n t ++ if T n = t then [n] else [] := by
  unfold cls
  rw [List.range_succ, List.filter_append]
  by_cases h : T n = t <;> simp [h]
theorem sched_other (T : Nat → Nat) (n k c : Nat) (h : T n < k ∨ k + c ≤ T n) : sched T (n + 1) k c = sched T n k c := by
  unfold sched
  rw [List.flatMap_def, List.flatMap_def]
  congr 1
  refine List.map_congr_left fun t ht => ?_
  rw [List.mem_range'_1] at ht
  rw [cls_succ, if_neg (by omega), List.append_nil]
theorem sched_one (T : Nat → Nat) (n k : Nat) : sched T n k 1 = (cls T n k).map fun i : Nat => ((i : Int), (k : Int)) := by simp [sched]
theorem sched_put (T : Nat → Nat) (n : Nat) (h1 : 1 ≤ T n) (h2 : T n ≤ 40) : ∃ A B, sched T n 1 40 = A ++ B ∧ (∀ x ∈ A, x.2 ≤ (T n : Int)) ∧ (∀ x ∈ B, (T n : Int) < x.2) ∧ sched T (n + 1) 1 40 = A ++ ((n : Int), (T n : Int)) :: B := by
  refine ⟨sched T n 1 (T n), sched T n (T n + 1) (40 - T n), ?_, ?_, ?_, ?_⟩
  · rw [show T n + 1 = 1 + T n by omega, ← sched_split, show T n + (40 - T n) = 40 by omega]
  · intro x hx
    obtain ⟨i, t, rfl, _, _, h3, h4⟩ := mem_sched hx
    simp only
    omega
  · intro x hx
    obtain ⟨i, t, rfl, _, _, h3, h4⟩ := mem_sched hx
    simp only
    omega
  · have e1 : sched T (n + 1) 1 40 = sched T (n + 1) 1 (T n - 1) ++ (sched T (n + 1) (T n) 1 ++ sched T (n + 1) (T n + 1) (40 - T n)) := by
      have a1 := sched_split T (n + 1) 1 (T n - 1) (1 + (40 - T n))
      have a2 := sched_split T (n + 1) (T n) 1 (40 - T n)
      rw [show 1 + (T n - 1) = T n by omega, a2, show T n - 1 + (1 + (40 - T n)) = 40 by omega] at a1
      exact a1
    have e2 : sched T n 1 (T n) = sched T n 1 (T n - 1) ++ sched T n (T n) 1 := by
      have := sched_split T n 1 (T n - 1) 1
      rw [show T n - 1 + 1 = T n by omega, show 1 + (T n - 1) = T n by omega] at this
      exact this
    rw [e1, e2, sched_other T n 1 (T n - 1) (by omega), sched_other T n (T n + 1) (40 - T n) (by omega), sched_one, sched_one, cls_succ, if_pos rfl]
    simp
/-- Where one stands among those of his time. -/
theorem cls_at {T : Nat → Nat} {N i t : Nat} (hi : i < N) (ht : T i = t) : (cls T N t)[(cls T i t).length]? = some i := by
  unfold cls
  have hN : List.range N = List.range i ++ (i :: (List.range' (i + 1) (N - i - 1))) := by
    rw [List.range_eq_range', List.range_eq_range', show N = i + (1 + (N - i - 1)) by omega, ← List.range'_append_1, ← List.range'_append_1]
    simp
  rw [hN, List.filter_append, List.getElem?_append_right (Nat.le_refl _), Nat.sub_self, List.filter_cons, if_pos (by simpa using ht)]
  rfl
end Go.Proofs.Ytkmjeadnkndhbaa
