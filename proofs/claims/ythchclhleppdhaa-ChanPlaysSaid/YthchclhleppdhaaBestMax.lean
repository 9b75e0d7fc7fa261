/- The best of those that wait: nobody goes ahead of him. -/
import Derived.Test.YthchclhleppdhaaBetIff
namespace Go.Proofs.Ythchclhleppdhaa
set_option linter.unusedVariables false
set_option linter.unusedSimpArgs false
open Go.RowKit
/-- Somebody is best where somebody waits. -/
theorem bestTo_some (ps : List Int) (q : List Wt) : ∀ k, 0 < k → ∃ b, bestTo ps q k = some b
  | k + 1, _ => by
    cases h : bestTo ps q k with
    | none => exact ⟨k, by simp [bestTo, h]⟩
    | some b =>
      simp only [bestTo, h]
      split
      · split
        · exact ⟨_, rfl⟩
        · exact ⟨_, rfl⟩
      · exact ⟨_, rfl⟩
/-- Nobody goes ahead of the best. -/
theorem bestTo_max (ps : List Int) (q : List Wt) : ∀ k b, k ≤ q.length → bestTo ps q k = some b → ∃ x, q[b]? = some x ∧ ∀ j y, j < k → q[j]? = some y → bet ps x y = false
  | 0, b, _, h => by simp [bestTo] at h
  | k + 1, b, hk, h => by
    cases h0 : bestTo ps q k with
    | none =>
      simp only [bestTo, h0, Option.some.injEq] at h
      subst h
      rcases Nat.eq_zero_or_pos k with rfl | hp
      · refine ⟨q[0], List.getElem?_eq_getElem (by omega), fun j y hj hy => ?_⟩
        obtain rfl : j = 0 := by omega
        rw [List.getElem?_eq_getElem (by omega)] at hy
        cases hy
        simp [bet, orI, cmpI]
      · obtain ⟨b', hb'⟩ := bestTo_some ps q k hp
        rw [h0] at hb'
        cases hb'
    | some c =>
      obtain ⟨x, hx, hmax⟩ := bestTo_max ps q k c (by omega) h0
      have hy : q[k]? = some q[k] := List.getElem?_eq_getElem (by omega)
      simp only [bestTo, h0, hx, hy] at h
      by_cases hb : bet ps x q[k] = true
      · rw [if_pos hb] at h
        cases h
        refine ⟨_, hy, fun j z hj hz => ?_⟩
        rcases Nat.lt_or_ge j k with hjk | hjk
        · have h1 := hmax j z hjk hz
          apply Classical.byContradiction
          intro h2
          have h2 : bet ps q[k] z = true := by simpa using h2
          simp only [bet, decide_eq_true_eq, decide_eq_false_iff_not, orI, cmpI] at hb h1 h2
          revert hb h1 h2
          generalize prioOf ps x.task = a1
          generalize prioOf ps z.task = a2
          generalize prioOf ps (q[k]).task = a3
          generalize x.seq = s1
          generalize z.seq = s2
          generalize (q[k]).seq = s3
          intro hb h1 h2
          by_cases c1 : a1 < a3 <;> by_cases c2 : a3 < a1 <;> by_cases c3 : s3 < s1 <;> by_cases c4 : s1 < s3 <;> simp [c1, c2, c3, c4] at hb
          all_goals by_cases d1 : a3 < a2 <;> by_cases d2 : a2 < a3 <;> by_cases d3 : s2 < s3 <;> by_cases d4 : s3 < s2 <;> simp [d1, d2, d3, d4] at h2
          all_goals by_cases e1 : a1 < a2 <;> by_cases e2 : a2 < a1 <;> by_cases e3 : s2 < s1 <;> by_cases e4 : s1 < s2 <;> simp [e1, e2, e3, e4] at h1
          all_goals omega
        · obtain rfl : j = k := by omega
          rw [hy] at hz
          cases hz
          simp [bet, orI, cmpI]
      · rw [if_neg hb] at h
        cases h
        refine ⟨x, hx, fun j z hj hz => ?_⟩
        rcases Nat.lt_or_ge j k with hjk | hjk
        · exact hmax j z hjk hz
        · obtain rfl : j = k := by omega
          rw [hy] at hz
          cases hz
          simpa using hb
end Go.Proofs.Ythchclhleppdhaa
