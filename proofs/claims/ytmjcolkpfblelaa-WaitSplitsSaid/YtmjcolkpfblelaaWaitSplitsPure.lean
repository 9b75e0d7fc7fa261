/- Without each task in turn: in plain words. -/
import Derived.Test.YtmjcolkpfblelaaWaitWithout
namespace Go.Proofs.Ytmjcolkpfblelaa
set_option linter.unusedVariables false
set_option linter.unusedSimpArgs false
open Go.RowKit
section
variable (T : Nat → Nat) (m : Nat)
def spW (j : Nat) : Wt := ⟨(T j : Int), 0, (j : Int), 0⟩
def spQ (t : Nat) : List Wt := ((List.range m).filter fun j : Nat => decide (t ≤ T j)).map (spW T)
def cntT (i t : Nat) : Nat := ((List.range i).filter fun j : Nat => decide (T j = t)).length
theorem sp_zero : spQ T m 0 = (List.range m).map (spW T) := by
  unfold spQ
  rw [List.filter_eq_self.2 (fun j _ => by simp)]
theorem sp_keep (t : Nat) : keepW (isT (t : Int)) (spQ T m t) = spQ T m (t + 1) := by
  unfold keepW spQ
  rw [List.filter_map, List.filter_filter]
  congr 1
  refine List.filter_congr (fun j _ => ?_)
  simp only [Function.comp, isT, spW]
  by_cases h : T j = t
  · have e : ((T j : Int) == (t : Int)) = true := by simp [h]
    rw [e, decide_eq_false (by omega : ¬ t + 1 ≤ T j)]
    rfl
  · have e : ((T j : Int) == (t : Int)) = false := by simp; omega
    rw [e]
    simp only [Bool.not_false, Bool.true_and]
    rw [decide_eq_decide]
    omega
theorem sp_eight (h : ∀ j, j < m → T j ≤ 7) : spQ T m 8 = [] := by
  unfold spQ
  rw [List.filter_eq_nil_iff.2, List.map_nil]
  intro j hj
  have := h j (List.mem_range.1 hj)
  simp
  omega
theorem sp_had (t : Nat) : ((spQ T m t).filter (isT (t : Int))).length = cntT T m t := by
  unfold spQ cntT
  rw [List.filter_map, List.length_map, List.filter_filter]
  congr 1
  refine List.filter_congr (fun j _ => ?_)
  simp only [Function.comp, isT, spW]
  by_cases h : T j = t
  · have e : ((T j : Int) == (t : Int)) = true := by simp [h]
    rw [e, decide_eq_true (by omega : t ≤ T j), decide_eq_true h]
    rfl
  · have e : ((T j : Int) == (t : Int)) = false := by simp; omega
    rw [e, decide_eq_false h]
    rfl
theorem filt_split {α : Type} (p : α → Bool) : ∀ l : List α, l.length = (l.filter p).length + (l.filter fun x => !p x).length
  | [] => rfl
  | x :: l => by
    have := filt_split p l
    cases h : p x <;> simp [h] <;> omega
theorem sp_len (t : Nat) : (spQ T m t).length = cntT T m t + (spQ T m (t + 1)).length := by
  have h := filt_split (isT (t : Int)) (spQ T m t)
  rw [sp_had] at h
  have hk := sp_keep T m t
  unfold keepW at hk
  rw [hk] at h
  exact h
theorem sp_le (t : Nat) : (spQ T m t).length ≤ m := by
  unfold spQ
  rw [List.length_map]
  exact Nat.le_trans (List.length_filter_le _ _) (by simp)
theorem any_filter {α : Type} (p : α → Bool) : ∀ l : List α, l.any p = decide (0 < (l.filter p).length)
  | [] => rfl
  | x :: l => by
    have := any_filter p l
    cases h : p x <;> simp [h, this]
theorem sp_any (t : Nat) : (spQ T m t).any (isT (t : Int)) = decide (0 < cntT T m t) := by rw [any_filter, sp_had]
theorem sp_none (t : Nat) : (spQ T m (t + 1)).any (isT (t : Int)) = false := by
  rw [List.any_eq_false]
  intro x hx
  unfold spQ at hx
  obtain ⟨j, hj, rfl⟩ := List.mem_map.1 hx
  have h := (List.mem_filter.1 hj).2
  simp only [decide_eq_true_eq] at h
  have : ((spW T j).task == (t : Int)) = false := by simp [spW]; omega
  simp [isT, this]
theorem sp_inc (t : Nat) : (spQ T m t).Pairwise (fun a b => a.seq < b.seq) := by
  unfold spQ
  rw [List.pairwise_map]
  refine List.Pairwise.imp (R := (· < ·)) (fun {a b} h => by show (a : Int) < (b : Int); omega) (List.Pairwise.filter _ List.pairwise_lt_range)
theorem cnt_succ (i t : Nat) : cntT T (i + 1) t = cntT T i t + (if T i = t then 1 else 0) := by
  unfold cntT
  rw [List.range_succ, List.filter_append, List.length_append]
  by_cases h : T i = t <;> simp [h]
theorem cnt_le (i t : Nat) : cntT T i t ≤ i := by
  unfold cntT
  exact Nat.le_trans (List.length_filter_le _ _) (by simp)
end
theorem had_succ (q : List Wt) (t : Int) {i : Nat} {x : Wt} (hx : q[i]? = some x) : ((q.take (i + 1)).filter (isT t)).length = ((q.take i).filter (isT t)).length + (if x.task = t then 1 else 0) := by
  rw [List.take_add_one, hx, List.filter_append, List.length_append]
  by_cases h : x.task = t <;> simp [isT, h]
end Go.Proofs.Ytmjcolkpfblelaa
