/- slices.symMergeCmpFunc of two sorted rows side by side, of any length: the row sorted. -/
import Derived.Test.YthchclhleppdhaaMergeAny
namespace Go.Proofs.Ythchclhleppdhaa
set_option linter.unusedVariables false
set_option linter.unusedSimpArgs false
open Go.RowKit
theorem merge_all (N : Nat) (cf : Nat → Nat → Int) (R : Nat → Nat → Prop) (hO : Ord N cf R) (cap0 : Array Value) (g cap : Nat) (hN2 : N ≤ 9223372036854775000) (n : Nat) (hm : n ≤ 1000000) : ∀ (k : Nat) (A X Y C : List Nat) (a m b : Nat) (w : World), X.length + Y.length ≤ k → 0 < X.length → 0 < Y.length → a = A.length → m = a + X.length → b = m + Y.length → n = (A ++ X ++ Y ++ C).length →
    RowN w g 3 cap (A ++ X ++ Y ++ C) → X.Pairwise R → Y.Pairwise R → (∀ x ∈ X, ∀ y ∈ Y, x < y) → (∀ x ∈ X ++ Y, x < N) →
    (∀ (x y : Nat) (W : World), x < N → y < N → Upd [g] w W → Calls Try.prog 65 (#[.int .i64 x, .int .i64 y] ++ cap0) W fun e w' => e = .returned (.int .i64 (cf x y)) ∧ Upd [] W w') →
    Calls Try.prog 71 #[.slice (some ⟨g, 0, none⟩) n cap, .int .i64 a, .int .i64 m, .int .i64 b, .func (.func 65) #[] cap0] w fun e w' =>
      e = .returned (.tuple #[]) ∧ ∃ Z, Z.Perm (X ++ Y) ∧ Z.Pairwise R ∧ RowN w' g 3 cap (A ++ Z ++ C) ∧ Upd [g] w w'
  | 0, A, X, Y, C, a, m, b, w, hk, h1, h2, ha, hmm, hb, hn, hrow, hX, hY, hlt, hN, hcl => by omega
  | k + 1, A, X, Y, C, a, m, b, w, hk, h1, h2, ha, hmm, hb, hn, hrow, hX, hY, hlt, hN, hcl => by
    by_cases c1 : X.length = 1
    · obtain ⟨x, rfl⟩ := List.length_eq_one_iff.1 c1
      have hrow2 : RowN w g 3 cap (A ++ x :: Y ++ C) := by simpa using hrow
      refine (merge_one N cf R hO cap0 g cap A Y C x a m b n ha (by simpa using hmm) hb (by simpa using hn) hm w hrow2 hY (fun y hy => hlt x (by simp) y hy) (fun y hy => hN y (by simpa using hy)) hN2 hcl).mono ?_
      rintro e w' ⟨rfl, Z, hp, hw, hr, hu⟩
      exact ⟨rfl, Z, by simpa using hp, hw, hr, hu⟩
    by_cases c2 : Y.length = 1
    · obtain ⟨y, rfl⟩ := List.length_eq_one_iff.1 c2
      have hrow2 : RowN w g 3 cap (A ++ X ++ y :: C) := by simpa using hrow
      refine (merge_last N cf R hO cap0 g cap A X C y a m b n ha hmm (by omega) (by simpa using hb) (by simpa using hn) hm w hrow2 hX (fun x hx => hlt x hx y (by simp)) (fun x hx => hN x (List.mem_append.2 ((List.mem_cons.1 hx).elim (fun h => .inr (by simp [h])) .inl))) hN2 hcl).mono ?_
      rintro e w' ⟨rfl, Z, hp, hw, hr, hu⟩
      exact ⟨rfl, Z, hp, hw, hr, hu⟩
    · refine merge_step N cf R hO cap0 g cap A X Y C a m b n ha hmm (by omega) hb (by omega) hn hm w hrow hX hY hlt hN hN2 hcl ?_
      intro A' X' Y' C' a' m' b' w' hl p1 p2 p3 p4 p5 p6 p7 p8 p9 p10 p11 hu
      exact merge_all N cf R hO cap0 g cap hN2 n hm k A' X' Y' C' a' m' b' w' (by omega) p1 p2 p3 p4 p5 p6 p7 p8 p9 p10 p11 (fun x y W hx hy hW => hcl x y W hx hy (hu.transS hW))
end Go.Proofs.Ythchclhleppdhaa
