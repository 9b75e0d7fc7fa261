/- Rows sorted by an order, put together: plain. -/
import Derived.Test.YthchclhleppdhaaRotate
namespace Go.Proofs.Ythchclhleppdhaa
set_option linter.unusedVariables false
set_option linter.unusedSimpArgs false
open Go.RowKit
theorem last_R {R : Nat → Nat → Prop} {S : List Nat} (hS : S.Pairwise R) {u : Nat} (hu : u ∈ S) : u = S.getD (S.length - 1) 0 ∨ R u (S.getD (S.length - 1) 0) := by
  rcases List.eq_nil_or_concat S with h | ⟨S', z, h⟩
  · subst h; simp at hu
  · subst h
    simp only [List.concat_eq_append, List.length_append, List.length_cons, List.length_nil, Nat.zero_add, Nat.add_sub_cancel] at hu hS ⊢
    rw [mid_get S' z []]
    rcases List.mem_append.1 hu with h | h
    · exact .inr ((List.pairwise_append.1 hS).2.2 u h z (by simp))
    · exact .inl (by simpa using h)
theorem first_R {R : Nat → Nat → Prop} {T : List Nat} (hT : T.Pairwise R) {v : Nat} (hv : v ∈ T) : v = T.getD 0 0 ∨ R (T.getD 0 0) v := by
  cases T with
  | nil => simp at hv
  | cons z T =>
    simp at hv ⊢
    rcases hv with h | h
    · exact .inl h
    · exact .inr ((List.pairwise_cons.1 hT).1 v h)
theorem pw_cross {R : Nat → Nat → Prop} (tr : ∀ x y z, R x y → R y z → R x z) {S T : List Nat} (hS : S.Pairwise R) (hT : T.Pairwise R) (h : S = [] ∨ T = [] ∨ R (S.getD (S.length - 1) 0) (T.getD 0 0)) : ∀ u ∈ S, ∀ v ∈ T, R u v := by
  intro u hu v hv
  rcases h with h | h | h
  · subst h; simp at hu
  · subst h; simp at hv
  · have h1 : R u (T.getD 0 0) := by
      rcases last_R hS hu with e | e
      · rw [e]; exact h
      · exact tr _ _ _ e h
    rcases first_R hT hv with e | e
    · rw [e]; exact h1
    · exact tr _ _ _ h1 e
theorem take_last {P : List Nat} {k : Nat} (h : k + 1 ≤ P.length) : (P.take (k + 1)).getD ((P.take (k + 1)).length - 1) 0 = P.getD k 0 := by
  have e : (P.take (k + 1)).length - 1 = k := by rw [List.length_take]; omega
  rw [e]
  simp [List.getD, List.getElem?_take]
theorem drop_first (P : List Nat) (k : Nat) : (P.drop k).getD 0 0 = P.getD k 0 := by simp [List.getD]
theorem pw_take {R : Nat → Nat → Prop} {P : List Nat} (h : P.Pairwise R) (k : Nat) : (P.take k).Pairwise R := h.sublist (List.take_sublist _ _)
theorem pw_drop {R : Nat → Nat → Prop} {P : List Nat} (h : P.Pairwise R) (k : Nat) : (P.drop k).Pairwise R := h.sublist (List.drop_sublist _ _)
theorem pw_halves {R : Nat → Nat → Prop} {P : List Nat} (h : P.Pairwise R) (k : Nat) : ∀ u ∈ P.take k, ∀ v ∈ P.drop k, R u v := by
  have h1 := h
  rw [← List.take_append_drop k P, List.pairwise_append] at h1
  exact h1.2.2
/-- One put into a sorted row. -/
theorem pw_put {R : Nat → Nat → Prop} (tr : ∀ x y z, R x y → R y z → R x z) {Y : List Nat} {x : Nat} (hY : Y.Pairwise R) (k : Nat) (hk : k ≤ Y.length) (h1 : k = 0 ∨ R (Y.getD (k - 1) 0) x) (h2 : k = Y.length ∨ R x (Y.getD k 0)) : (Y.take k ++ x :: Y.drop k).Pairwise R := by
  have a1 : ∀ u ∈ Y.take k, R u x := by
    intro u hu
    refine pw_cross tr (pw_take hY k) (List.pairwise_singleton R x) ?_ u hu x (by simp)
    rcases k with _ | k
    · exact .inl (by simp)
    · rcases h1 with h1 | h1
      · omega
      · refine .inr (.inr ?_)
        rw [take_last (by omega)]
        simpa using h1
  have a2 : ∀ v ∈ Y.drop k, R x v := by
    intro v hv
    refine pw_cross tr (List.pairwise_singleton R x) (pw_drop hY k) ?_ x (by simp) v hv
    rcases h2 with h2 | h2
    · exact .inr (.inl (List.drop_of_length_le (by omega)))
    · refine .inr (.inr ?_)
      rw [drop_first]
      simpa using h2
  rw [List.pairwise_append]
  refine ⟨pw_take hY k, List.pairwise_cons.2 ⟨a2, pw_drop hY k⟩, ?_⟩
  intro u hu v hv
  rcases List.mem_cons.1 hv with h | h
  · rw [h]; exact a1 u hu
  · exact pw_halves hY k u hu v h
theorem perm_put (Y : List Nat) (x k : Nat) : (Y.take k ++ x :: Y.drop k).Perm (x :: Y) := by
  have h := List.perm_middle (a := x) (l₁ := Y.take k) (l₂ := Y.drop k)
  rwa [List.take_append_drop] at h
/-- Two sorted rows, cut where each part goes before the other's rest. -/
theorem pw_four {R : Nat → Nat → Prop} (tr : ∀ x y z, R x y → R y z → R x z) {X Y Z1 Z2 : List Nat} (hX : X.Pairwise R) (hY : Y.Pairwise R) (s t : Nat) (hs : s ≤ X.length) (ht : t ≤ Y.length)
    (h1 : s = 0 ∨ t = Y.length ∨ R (X.getD (s - 1) 0) (Y.getD t 0)) (h2 : t = 0 ∨ s = X.length ∨ R (Y.getD (t - 1) 0) (X.getD s 0))
    (p1 : Z1.Perm (X.take s ++ Y.take t)) (p2 : Z2.Perm (X.drop s ++ Y.drop t)) (w1 : Z1.Pairwise R) (w2 : Z2.Pairwise R) : (Z1 ++ Z2).Perm (X ++ Y) ∧ (Z1 ++ Z2).Pairwise R := by
  have c1 : ∀ u ∈ X.take s, ∀ v ∈ Y.drop t, R u v := by
    refine pw_cross tr (pw_take hX s) (pw_drop hY t) ?_
    rcases s with _ | s
    · exact .inl (by simp)
    rcases h1 with h | h | h
    · omega
    · exact .inr (.inl (List.drop_of_length_le (by omega)))
    · refine .inr (.inr ?_)
      rw [take_last (by omega), drop_first]
      simpa using h
  have c2 : ∀ u ∈ Y.take t, ∀ v ∈ X.drop s, R u v := by
    refine pw_cross tr (pw_take hY t) (pw_drop hX s) ?_
    rcases t with _ | t
    · exact .inl (by simp)
    rcases h2 with h | h | h
    · omega
    · exact .inr (.inl (List.drop_of_length_le (by omega)))
    · refine .inr (.inr ?_)
      rw [take_last (by omega), drop_first]
      simpa using h
  refine ⟨?_, List.pairwise_append.2 ⟨w1, w2, ?_⟩⟩
  · refine (p1.append p2).trans ?_
    have e : (X.take s ++ Y.take t ++ (X.drop s ++ Y.drop t)).Perm ((X.take s ++ X.drop s) ++ (Y.take t ++ Y.drop t)) := by
      simp only [List.append_assoc]
      refine List.Perm.append_left _ ?_
      rw [← List.append_assoc, ← List.append_assoc]
      exact List.Perm.append_right _ List.perm_append_comm
    simpa [List.take_append_drop] using e
  · intro u hu v hv
    rcases List.mem_append.1 (p1.mem_iff.1 hu) with a | a <;> rcases List.mem_append.1 (p2.mem_iff.1 hv) with b | b
    · exact pw_halves hX s u a v b
    · exact c1 u a v b
    · exact c2 u a v b
    · exact pw_halves hY t u a v b
end Go.Proofs.Ythchclhleppdhaa
