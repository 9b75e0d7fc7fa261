/- Plain laws of those that wait: rows of tasks by number. -/
import Derived.Test.YtjkacccmdccbnaaLockBase
namespace Go.Proofs.Ytjkacccmdccbnaa
set_option linter.unusedVariables false
set_option linter.unusedSimpArgs false
open Go.RowKit

/-- Task j, who came j-th. -/
def mkw (j : Nat) : Wt := ⟨j, 0, j, 0⟩
/-- Those of the first n of whom P holds. -/
def qp (n : Nat) (P : Nat → Bool) : List Wt := ((List.range n).filter P).map mkw
theorem qp_zero (P : Nat → Bool) : qp 0 P = [] := rfl
theorem qp_succ (n : Nat) (P : Nat → Bool) : qp (n + 1) P = qp n P ++ (if P n = true then [mkw n] else []) := by
  unfold qp
  rw [List.range_succ, List.filter_append, List.map_append]
  cases h : P n <;> simp [h]
theorem qp_congr {n : Nat} {P Q : Nat → Bool} (h : ∀ j, j < n → P j = Q j) : qp n P = qp n Q := by
  unfold qp
  rw [List.filter_congr (fun x hx => h x (List.mem_range.1 hx))]
theorem qp_len (n : Nat) (P : Nat → Bool) : (qp n P).length ≤ n := by
  unfold qp
  rw [List.length_map]
  exact Nat.le_trans (List.length_filter_le _ _) (by simp)
theorem leave_qp (n : Nat) (P : Nat → Bool) (t : Nat) : leave (qp n P) t = qp n (fun j => P j && !(j == t)) := by
  induction n with
  | zero => rfl
  | succ n ih =>
    rw [qp_succ, qp_succ, ← ih]
    unfold leave
    rw [List.filter_append]
    congr 1
    by_cases h : P n = true
    · by_cases h2 : n = t
      · subst h2
        simp [h, mkw]
      · have : ¬ ((n : Int) = (t : Int)) := by omega
        simp [h, h2, mkw, this]
    · simp [h]
theorem any_qp (n : Nat) (P : Nat → Bool) (t : Nat) : ((qp n P).any fun x => x.task == (t : Int)) = (decide (t < n) && P t) := by
  induction n with
  | zero => simp [qp_zero]
  | succ n ih =>
    rw [qp_succ, List.any_append, ih]
    by_cases h2 : n = t
    · subst h2
      cases h : P n <;> simp [mkw, h]
    · have h3 : ¬ ((n : Int) = (t : Int)) := by omega
      have h4 : decide (t < n) = decide (t < n + 1) := by
        by_cases h : t < n
        · rw [decide_eq_true h, decide_eq_true (by omega)]
        · rw [decide_eq_false h, decide_eq_false (by omega)]
      rw [h4]
      cases h : P n <;> simp [mkw, h3]
theorem mem_qp {n : Nat} {P : Nat → Bool} {x : Wt} : x ∈ qp n P ↔ ∃ j, j < n ∧ P j = true ∧ x = mkw j := by
  unfold qp
  simp only [List.mem_map, List.mem_filter, List.mem_range]
  constructor
  · rintro ⟨j, ⟨h1, h2⟩, rfl⟩
    exact ⟨j, h1, h2, rfl⟩
  · rintro ⟨j, h1, h2, rfl⟩
    exact ⟨j, ⟨h1, h2⟩, rfl⟩
theorem qp_nil {n : Nat} {P : Nat → Bool} (h : ∀ j, j < n → P j = false) : qp n P = [] := by
  rw [List.eq_nil_iff_forall_not_mem]
  intro x hx
  obtain ⟨j, h1, h2, _⟩ := mem_qp.1 hx
  rw [h j h1] at h2
  cases h2

/-- Somebody is best where somebody waits. -/
theorem bestTo_some (ps : List Int) (q : List Wt) : ∀ k, 0 < k → ∃ b, bestTo ps q k = some b
  | k + 1, _ => by
    cases h : bestTo ps q k with
    | none => exact ⟨k, by simp [bestTo, h]⟩
    | some b =>
      simp only [bestTo, h]
      split
      · split
        · exact ⟨_, rfl⟩
        · exact ⟨_, rfl⟩
      · exact ⟨_, rfl⟩
/-- Nobody goes ahead of the best. -/
theorem bestTo_max (ps : List Int) (q : List Wt) : ∀ k b, k ≤ q.length → bestTo ps q k = some b → ∃ x, q[b]? = some x ∧ ∀ j y, j < k → q[j]? = some y → bet ps x y = false
  | 0, b, _, h => by simp [bestTo] at h
  | k + 1, b, hk, h => by
    cases h0 : bestTo ps q k with
    | none =>
      simp only [bestTo, h0, Option.some.injEq] at h
      subst h
      rcases Nat.eq_zero_or_pos k with rfl | hp
      · refine ⟨q[0], List.getElem?_eq_getElem (by omega), fun j y hj hy => ?_⟩
        obtain rfl : j = 0 := by omega
        rw [List.getElem?_eq_getElem (by omega)] at hy
        cases hy
        simp [bet, orI, cmpI]
      · obtain ⟨b', hb'⟩ := bestTo_some ps q k hp
        rw [h0] at hb'
        cases hb'
    | some c =>
      obtain ⟨x, hx, hmax⟩ := bestTo_max ps q k c (by omega) h0
      have hy : q[k]? = some q[k] := List.getElem?_eq_getElem (by omega)
      simp only [bestTo, h0, hx, hy] at h
      by_cases hb : bet ps x q[k] = true
      · rw [if_pos hb] at h
        cases h
        refine ⟨_, hy, fun j z hj hz => ?_⟩
        rcases Nat.lt_or_ge j k with hjk | hjk
        · have h1 := hmax j z hjk hz
          apply Classical.byContradiction
          intro h2
          have h2 : bet ps q[k] z = true := by simpa using h2
          simp only [bet, decide_eq_true_eq, decide_eq_false_iff_not, orI, cmpI] at hb h1 h2
          revert hb h1 h2
          generalize prioOf ps x.task = a1
          generalize prioOf ps z.task = a2
          generalize prioOf ps (q[k]).task = a3
          generalize x.seq = s1
          generalize z.seq = s2
          generalize (q[k]).seq = s3
          intro hb h1 h2
          by_cases c1 : a1 < a3 <;> by_cases c2 : a3 < a1 <;> by_cases c3 : s3 < s1 <;> by_cases c4 : s1 < s3 <;> simp [c1, c2, c3, c4] at hb
          all_goals by_cases d1 : a3 < a2 <;> by_cases d2 : a2 < a3 <;> by_cases d3 : s2 < s3 <;> by_cases d4 : s3 < s2 <;> simp [d1, d2, d3, d4] at h2
          all_goals by_cases e1 : a1 < a2 <;> by_cases e2 : a2 < a1 <;> by_cases e3 : s2 < s1 <;> by_cases e4 : s1 < s2 <;> simp [e1, e2, e3, e4] at h1
          all_goals omega
        · obtain rfl : j = k := by omega
          rw [hy] at hz
          cases hz
          simp [bet, orI, cmpI]
      · rw [if_neg hb] at h
        cases h
        refine ⟨x, hx, fun j z hj hz => ?_⟩
        rcases Nat.lt_or_ge j k with hjk | hjk
        · exact hmax j z hjk hz
        · obtain rfl : j = k := by omega
          rw [hy] at hz
          cases hz
          simpa using hb
theorem qp_best (ps : List Int) (n : Nat) (P : Nat → Bool) (h : ∃ j, j < n ∧ P j = true) :
    ∃ i j, bestTo ps (qp n P) (qp n P).length = some i ∧ (qp n P)[i]? = some (mkw j) ∧ j < n ∧ P j = true ∧ ∀ j', j' < n → P j' = true → prioOf ps j' ≤ prioOf ps j ∧ (prioOf ps j = prioOf ps j' → j ≤ j') := by
  obtain ⟨j0, h0, h1⟩ := h
  have hm : mkw j0 ∈ qp n P := mem_qp.2 ⟨j0, h0, h1, rfl⟩
  obtain ⟨i, hi⟩ := bestTo_some ps (qp n P) (qp n P).length (List.length_pos_of_mem hm)
  obtain ⟨x, hx, hmax⟩ := bestTo_max ps (qp n P) _ i (Nat.le_refl _) hi
  obtain ⟨j, hj, hP, rfl⟩ := mem_qp.1 (List.mem_of_getElem? hx)
  refine ⟨i, j, hi, hx, hj, hP, fun j' hj' hP' => ?_⟩
  obtain ⟨m, hml, hm2⟩ := List.getElem_of_mem (mem_qp.2 ⟨j', hj', hP', rfl⟩)
  have := hmax m (mkw j') hml (by rw [List.getElem?_eq_getElem hml, hm2])
  have hb : ¬ bet ps (mkw j) (mkw j') = true := by simp [this]
  rw [bet_iff] at hb
  simp only [mkw] at hb
  constructor
  · omega
  · intro he
    omega
theorem prioOf_nil (t : Int) : prioOf [] t = 0 := by
  unfold prioOf
  split
  · rfl
  · simp
theorem qp_gt_len (n i : Nat) : (qp n (fun x => decide (i < x))).length = n - 1 - i := by
  induction n with
  | zero => simp [qp_zero]
  | succ n ih =>
    rw [qp_succ, List.length_append, ih]
    by_cases h : i < n
    · simp [h]; omega
    · simp [h]; omega
end Go.Proofs.Ytjkacccmdccbnaa
