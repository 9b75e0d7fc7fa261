/- A row in sorted blocks: plain. -/
import Derived.Test.YthchclhleppdhaaMergeAll
namespace Go.Proofs.Ythchclhleppdhaa
set_option linter.unusedVariables false
set_option linter.unusedSimpArgs false
open Go.RowKit
/-- Blocks of just s each, one behind the other. -/
inductive Full (R : Nat → Nat → Prop) (s : Nat) : List Nat → List Nat → Prop
  | nil : Full R s [] []
  | snoc (A M X N : List Nat) : Full R s A M → X.length = s → X.Perm N → X.Pairwise R → Full R s (A ++ X) (M ++ N)
/-- Blocks of s each, the last one maybe shorter. -/
inductive Blk (R : Nat → Nat → Prop) (s : Nat) : List Nat → List Nat → Prop
  | last (X N : List Nat) : X.length ≤ s → X.Perm N → X.Pairwise R → Blk R s X N
  | more (X N B M : List Nat) : X.length = s → X.Perm N → X.Pairwise R → Blk R s B M → Blk R s (X ++ B) (N ++ M)
theorem Full.blk {R : Nat → Nat → Prop} {s : Nat} {A M : List Nat} (h : Full R s A M) : ∀ {B N : List Nat}, Blk R s B N → Blk R s (A ++ B) (M ++ N) := by
  induction h with
  | nil => intro B N hb; exact hb
  | snoc A M X N h hl hp hw ih =>
    intro B N' hb
    rw [List.append_assoc, List.append_assoc]
    exact ih (.more X N B N' hl hp hw hb)
theorem Blk.perm {R : Nat → Nat → Prop} {s : Nat} {B N : List Nat} (h : Blk R s B N) : B.Perm N := by
  induction h with
  | last X N _ hp _ => exact hp
  | more X N B M _ hp _ _ ih => exact hp.append ih
theorem Full.perm {R : Nat → Nat → Prop} {s : Nat} {B N : List Nat} (h : Full R s B N) : B.Perm N := by
  induction h with
  | nil => exact List.Perm.refl _
  | snoc A M X N _ _ hp _ ih => exact ih.append hp
theorem Blk.one {R : Nat → Nat → Prop} {s : Nat} {B N : List Nat} (h : Blk R s B N) (hl : B.length ≤ s) : B.Perm N ∧ B.Pairwise R := by
  refine ⟨h.perm, ?_⟩
  cases h with
  | last _ _ _ _ hw => exact hw
  | more X N B M h1 _ hw hb =>
    have e : B = [] := List.eq_nil_of_length_eq_zero (by simp at hl; omega)
    rw [e, List.append_nil]
    exact hw
theorem Blk.pop {R : Nat → Nat → Prop} {s : Nat} {B N : List Nat} (h : Blk R s B N) (hl : s ≤ B.length) : ∃ X B' N1 N2, B = X ++ B' ∧ N = N1 ++ N2 ∧ X.length = s ∧ X.Perm N1 ∧ X.Pairwise R ∧ Blk R s B' N2 := by
  cases h with
  | last _ _ h1 hp hw => exact ⟨B, [], N, [], by simp, by simp, by omega, hp, hw, .last [] [] (by simp) (List.Perm.refl _) List.Pairwise.nil⟩
  | more X N B M h1 hp hw hb => exact ⟨X, B, N, M, rfl, rfl, h1, hp, hw, hb⟩
theorem inc_sep {A N1 N2 C X Y : List Nat} (h : (A ++ (N1 ++ (N2 ++ C))).Pairwise (· < ·)) (hX : X.Perm N1) (hY : Y.Perm N2) : ∀ x ∈ X, ∀ y ∈ Y, x < y := by
  intro x hx y hy
  have h1 := (List.pairwise_append.1 (List.pairwise_append.1 h).2.1).2.2
  exact h1 x (hX.mem_iff.1 hx) y (by simp [hY.mem_iff.1 hy])
end Go.Proofs.Ythchclhleppdhaa
