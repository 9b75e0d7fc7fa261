/- The greatest of some numbers, none of them below 0. -/
import Derived.Test.YtdgfopnkafaegaaBlockEv
namespace Go.Proofs.Ytdgfopnkafaegaa.Pure
set_option linter.unusedVariables false
set_option linter.unusedSimpArgs false
open Go.RowKit Go.Proofs.Ytdgfopnkafaegaa.XA Go.Proofs.YtdgfopnkafaegaaW.PrintWords Go.Proofs.YtdgfopnkafaegaaW.PrintLast Go.Proofs.YtdgfopnkafaegaaW.PrintMore
/-- v is the greatest of 0 and of c at all that meet A. -/
structure IsMax (A : Nat → Prop) (c : Nat → Int) (v : Int) : Prop where
  nonneg : 0 ≤ v
  above : ∀ k, A k → c k ≤ v
  one : v = 0 ∨ ∃ k, A k ∧ c k = v
theorem IsMax.unique {A : Nat → Prop} {c : Nat → Int} {v v' : Int} (h : IsMax A c v) (h' : IsMax A c v') : v = v' := by
  rcases h.one with e | ⟨k, hk, e⟩ <;> rcases h'.one with e' | ⟨k', hk', e'⟩
  · omega
  · have := h.above k' hk'
    have := h'.nonneg
    omega
  · have := h'.above k hk
    have := h.nonneg
    omega
  · have := h.above k' hk'
    have := h'.above k hk
    omega
theorem IsMax.none (c : Nat → Int) : IsMax (fun _ => False) c 0 := ⟨Int.le_refl _, fun _ h => h.elim, .inl rfl⟩
theorem IsMax.congr {A B : Nat → Prop} {c : Nat → Int} {v : Int} (h : IsMax A c v) (hAB : ∀ k, A k ↔ B k) : IsMax B c v :=
  ⟨h.nonneg, fun k hk => h.above k ((hAB k).2 hk), h.one.imp id fun ⟨k, hk, e⟩ => ⟨k, (hAB k).1 hk, e⟩⟩
/-- One more. -/
theorem IsMax.put {A : Nat → Prop} {c : Nat → Int} {v : Int} (h : IsMax A c v) (j : Nat) : IsMax (fun k => A k ∨ k = j) c (mx v (c j)) := by
  unfold mx
  by_cases e : v < c j
  · rw [if_pos e]
    refine ⟨by have := h.nonneg; omega, fun k hk => ?_, .inr ⟨j, .inr rfl, rfl⟩⟩
    rcases hk with hk | rfl
    · have := h.above k hk; omega
    · exact Int.le_refl _
  · rw [if_neg e]
    refine ⟨h.nonneg, fun k hk => ?_, h.one.imp id fun ⟨k, hk, e⟩ => ⟨k, .inl hk, e⟩⟩
    rcases hk with hk | rfl
    · exact h.above k hk
    · omega
theorem IsMax.zero {A : Nat → Prop} {c : Nat → Int} {v : Int} (h : IsMax A c v) : mx v 0 = v := by
  have := h.nonneg
  unfold mx
  rw [if_neg (by omega)]
theorem IsMax.over {c : Nat → Int} (S : Nat → Int) (Q : Nat → Prop) [DecidablePred Q] : ∀ (T : List Nat) (A : Nat → Prop) (a : Int), IsMax A c a → (∀ k ∈ T, S k = if Q k then c k else 0) → IsMax (fun k => A k ∨ (k ∈ T ∧ Q k)) c (maxOver S a T)
  | [], A, a, h, _ => h.congr fun k => by simp
  | t :: T, A, a, h, hS => by
    have hS' : ∀ k ∈ T, S k = if Q k then c k else 0 := fun k hk => hS k (List.mem_cons_of_mem _ hk)
    have e : maxOver S a (t :: T) = maxOver S (mx a (S t)) T := rfl
    rw [e, hS t List.mem_cons_self]
    by_cases hq : Q t
    · rw [if_pos hq]
      refine (IsMax.over S Q T _ _ (h.put t) hS').congr fun k => ?_
      rw [List.mem_cons]
      constructor
      · rintro ((h1 | rfl) | ⟨h1, h2⟩)
        · exact .inl h1
        · exact .inr ⟨.inl rfl, hq⟩
        · exact .inr ⟨.inr h1, h2⟩
      · rintro (h1 | ⟨rfl | h1, h2⟩)
        · exact .inl (.inl h1)
        · exact .inl (.inr rfl)
        · exact .inr ⟨h1, h2⟩
    · rw [if_neg hq, h.zero]
      refine (IsMax.over S Q T _ _ h hS').congr fun k => ?_
      rw [List.mem_cons]
      constructor
      · rintro (h1 | ⟨h1, h2⟩)
        · exact .inl h1
        · exact .inr ⟨.inr h1, h2⟩
      · rintro (h1 | ⟨rfl | h1, h2⟩)
        · exact .inl h1
        · exact absurd h2 hq
        · exact .inr ⟨h1, h2⟩
theorem ceilV_max (P : List Int) (L : Nat → List Int) (x : Int) : ∀ m, IsMax (fun j => j < m ∧ x ∈ L j) (fun j => P.getD j 0) (ceilV P L x m)
  | 0 => (IsMax.none _).congr fun k => by simp
  | m + 1 => by
    have ih := ceilV_max P L x m
    unfold ceilV
    by_cases hx : x ∈ L m
    · rw [if_pos hx]
      refine (ih.put m).congr fun k => ?_
      constructor
      · rintro (⟨h1, h2⟩ | rfl)
        · exact ⟨by omega, h2⟩
        · exact ⟨by omega, hx⟩
      · rintro ⟨h1, h2⟩
        by_cases e : k = m
        · exact .inr e
        · exact .inl ⟨by omega, h2⟩
    · rw [if_neg hx]
      refine ih.congr fun k => ?_
      constructor
      · rintro ⟨h1, h2⟩
        exact ⟨by omega, h2⟩
      · rintro ⟨h1, h2⟩
        refine ⟨?_, h2⟩
        rcases Nat.lt_or_ge k m with h | h
        · exact h
        · obtain rfl : k = m := by omega
          exact absurd h2 hx
theorem blkV_max {c : Nat → Int} (C : List Int) (S : Nat → Nat → Int) (p : Int) (low : List Nat) (Q : Nat → Nat → Prop) [∀ x, DecidablePred (Q x)] : ∀ x : Nat, (∀ y, y < x → ∀ k ∈ low, S y k = if Q y k then c k else 0) → IsMax (fun k => ∃ y, y < x ∧ ¬ C.getD y 0 < p ∧ k ∈ low ∧ Q y k) c (blkV C S p low x)
  | 0, _ => (IsMax.none _).congr fun k => by simp
  | x + 1, hS => by
    have ih := blkV_max C S p low Q x (fun y hy => hS y (by omega))
    unfold blkV
    by_cases hp : C.getD x 0 < p
    · rw [if_pos hp]
      refine ih.congr fun k => ?_
      constructor
      · rintro ⟨y, h1, h2⟩
        exact ⟨y, by omega, h2⟩
      · rintro ⟨y, h1, h2⟩
        refine ⟨y, ?_, h2⟩
        rcases Nat.lt_or_ge y x with h | h
        · exact h
        · obtain rfl : y = x := by omega
          exact absurd hp h2.1
    · rw [if_neg hp]
      refine (IsMax.over (S x) (Q x) low _ _ ih (hS x (by omega))).congr fun k => ?_
      constructor
      · rintro (⟨y, h1, h2⟩ | ⟨h1, h2⟩)
        · exact ⟨y, by omega, h2⟩
        · exact ⟨x, by omega, hp, h1, h2⟩
      · rintro ⟨y, h1, h2, h3, h4⟩
        by_cases e : y = x
        · subst e
          exact .inr ⟨h3, h4⟩
        · exact .inl ⟨y, by omega, h2, h3, h4⟩
end Go.Proofs.Ytdgfopnkafaegaa.Pure
