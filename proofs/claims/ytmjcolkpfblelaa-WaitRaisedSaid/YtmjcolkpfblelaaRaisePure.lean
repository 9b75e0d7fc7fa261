/- Plain laws of the best of those that wait, of who is raised, of who is lowered. -/
import Derived.Test.YtmjcolkpfblelaaBetIff
namespace Go.Proofs.Ytmjcolkpfblelaa
set_option linter.unusedVariables false
set_option linter.unusedSimpArgs false
open Go.RowKit
/-- Somebody is best where somebody waits. -/
theorem bestTo_some (ps : List Int) (q : List Wt) : ∀ k, 0 < k → ∃ b, bestTo ps q k = some b
  | k + 1, _ => by
    cases h : bestTo ps q k with
    | none => exact ⟨k, by simp [bestTo, h]⟩
    | some b =>
      simp only [bestTo, h]
      split
      · split
        · exact ⟨_, rfl⟩
        · exact ⟨_, rfl⟩
      · exact ⟨_, rfl⟩
/-- Nobody goes ahead of the best. -/
theorem bestTo_max (ps : List Int) (q : List Wt) : ∀ k b, k ≤ q.length → bestTo ps q k = some b → ∃ x, q[b]? = some x ∧ ∀ j y, j < k → q[j]? = some y → bet ps x y = false
  | 0, b, _, h => by simp [bestTo] at h
  | k + 1, b, hk, h => by
    cases h0 : bestTo ps q k with
    | none =>
      simp only [bestTo, h0, Option.some.injEq] at h
      subst h
      rcases Nat.eq_zero_or_pos k with rfl | hp
      · refine ⟨q[0], List.getElem?_eq_getElem (by omega), fun j y hj hy => ?_⟩
        obtain rfl : j = 0 := by omega
        rw [List.getElem?_eq_getElem (by omega)] at hy
        cases hy
        simp [bet, orI, cmpI]
      · obtain ⟨b', hb'⟩ := bestTo_some ps q k hp
        rw [h0] at hb'
        cases hb'
    | some c =>
      obtain ⟨x, hx, hmax⟩ := bestTo_max ps q k c (by omega) h0
      have hy : q[k]? = some q[k] := List.getElem?_eq_getElem (by omega)
      simp only [bestTo, h0, hx, hy] at h
      by_cases hb : bet ps x q[k] = true
      · rw [if_pos hb] at h
        cases h
        refine ⟨_, hy, fun j z hj hz => ?_⟩
        rcases Nat.lt_or_ge j k with hjk | hjk
        · have h1 := hmax j z hjk hz
          apply Classical.byContradiction
          intro h2
          have h2 : bet ps q[k] z = true := by simpa using h2
          simp only [bet, decide_eq_true_eq, decide_eq_false_iff_not, orI, cmpI] at hb h1 h2
          revert hb h1 h2
          generalize prioOf ps x.task = a1
          generalize prioOf ps z.task = a2
          generalize prioOf ps (q[k]).task = a3
          generalize x.seq = s1
          generalize z.seq = s2
          generalize (q[k]).seq = s3
          intro hb h1 h2
          by_cases c1 : a1 < a3 <;> by_cases c2 : a3 < a1 <;> by_cases c3 : s3 < s1 <;> by_cases c4 : s1 < s3 <;> simp [c1, c2, c3, c4] at hb
          all_goals by_cases d1 : a3 < a2 <;> by_cases d2 : a2 < a3 <;> by_cases d3 : s2 < s3 <;> by_cases d4 : s3 < s2 <;> simp [d1, d2, d3, d4] at h2
          all_goals by_cases e1 : a1 < a2 <;> by_cases e2 : a2 < a1 <;> by_cases e3 : s2 < s1 <;> by_cases e4 : s1 < s2 <;> simp [e1, e2, e3, e4] at h1
          all_goals omega
        · obtain rfl : j = k := by omega
          rw [hy] at hz
          cases hz
          simp [bet, orI, cmpI]
      · rw [if_neg hb] at h
        cases h
        refine ⟨x, hx, fun j z hj hz => ?_⟩
        rcases Nat.lt_or_ge j k with hjk | hjk
        · exact hmax j z hjk hz
        · obtain rfl : j = k := by omega
          rw [hy] at hz
          cases hz
          simpa using hb
/-- Task i, who came i-th. -/
def mkR (i : Nat) : Wt := ⟨i, 0, i, 0⟩
def rowR (n : Nat) : List Wt := (List.range n).map mkR
theorem rowR_len (n : Nat) : (rowR n).length = n := by simp [rowR]
theorem rowR_get {n i : Nat} (h : i < n) : (rowR n)[i]? = some (mkR i) := by simp [rowR, h]
theorem rowR_at {n i : Nat} (h : i < n) : wAt (rowR n) i = mkR i := by
  have h1 := wAt_get (q := rowR n) (x := i) (by rw [rowR_len]; exact h)
  rw [rowR_get h] at h1
  exact (Option.some.inj h1).symm
theorem rowR_succ (n : Nat) : rowR (n + 1) = rowR n ++ [mkR n] := by simp [rowR, List.range_succ]
theorem prio_nat (ps : List Int) (i : Nat) (h : i < ps.length) : prioOf ps (i : Int) = ps.getD i 0 := by
  unfold prioOf
  rw [if_neg (by omega), if_neg (by omega)]
  simp
theorem raise_best (xs : List Int) (k n : Nat) (hn : n = xs.length) (hk : k < n) (hb : ∀ i, i < n → xs.getD i 0 ≤ 255) : bestTo (xs.set k 1000) (rowR n) n = some k := by
  obtain ⟨b, hbt⟩ := bestTo_some (xs.set k 1000) (rowR n) n (by omega)
  obtain ⟨x, hx, hmax⟩ := bestTo_max (xs.set k 1000) (rowR n) n b (by rw [rowR_len]; exact Nat.le_refl _) hbt
  have hbn := bestTo_lt _ _ _ _ hbt
  rw [rowR_get hbn] at hx
  cases hx
  by_cases hbk : b = k
  · rw [hbt, hbk]
  · have h1 := hmax k (mkR k) hk (rowR_get hk)
    have h2 : bet (xs.set k 1000) (mkR b) (mkR k) = true := by
      rw [bet_iff]
      refine .inl ?_
      show prioOf _ ((b : Nat) : Int) < prioOf _ ((k : Nat) : Int)
      rw [prio_nat _ b (by simpa using (by omega : b < xs.length)), prio_nat _ k (by simpa using (by omega : k < xs.length))]
      have e1 : (xs.set k 1000).getD b 0 = xs.getD b 0 := by simp [List.getD, List.getElem?_set_ne (Ne.symm hbk)]
      have e2 : (xs.set k 1000).getD k 0 = 1000 := by simp [List.getD, show k < xs.length by omega]
      rw [e1, e2]
      have := hb b hbn
      omega
    rw [h1] at h2
    cases h2
theorem lower_last (xs : List Int) (k n : Nat) (hn : n = xs.length) (hk : k < n) (hb : ∀ i, i < n → 0 ≤ xs.getD i 0) (M : List Nat) (hp : M.Perm (List.range n)) (hR : M.Pairwise (goesW (rowR n) (xs.set k (-1)))) : M.getD (n - 1) 0 = k := by
  have hl : M.length = n := by rw [hp.length_eq]; simp
  have hz : M.getD (n - 1) 0 ∈ M := getD_mem (by omega)
  have hzn : M.getD (n - 1) 0 < n := List.mem_range.1 (hp.mem_iff.1 hz)
  have hkM : k ∈ M := hp.mem_iff.2 (List.mem_range.2 hk)
  rcases last_R hR hkM with h | h
  · rw [hl] at h; exact h.symm
  · rw [hl] at h
    generalize M.getD (n - 1) 0 = z at *
    by_cases hzk : z = k
    · exact hzk
    · exfalso
      unfold goesW at h
      rw [rowR_at hk, rowR_at hzn] at h
      simp only [mkR] at h
      rw [prio_nat _ z (by simpa using (by omega : z < xs.length)), prio_nat _ k (by simpa using (by omega : k < xs.length))] at h
      have e1 : (xs.set k (-1)).getD z 0 = xs.getD z 0 := by simp [List.getD, List.getElem?_set_ne (Ne.symm hzk)]
      have e2 : (xs.set k (-1)).getD k 0 = -1 := by simp [List.getD, show k < xs.length by omega]
      rw [e1, e2] at h
      have := hb z hzn
      omega
theorem set_set_k (xs : List Int) (k : Nat) (a b : Int) : (xs.set k a).set k b = xs.set k b := by simp
end Go.Proofs.Ytmjcolkpfblelaa
