/- slices.rotateCmpFunc: two neighbours change places. -/
import Derived.Test.YthchclhleppdhaaSwapRange
namespace Go.Proofs.Ythchclhleppdhaa
set_option linter.unusedVariables false
set_option linter.unusedSimpArgs false
open Go.RowKit
theorem get_at (A : List Nat) (x : Nat) (B : List Nat) (i : Nat) (h : i = A.length) : (A ++ x :: B).getD i 0 = x := by subst h; exact mid_get A x B
theorem set_at (A : List Nat) (x y : Nat) (B : List Nat) (i : Nat) (h : i = A.length) : (A ++ x :: B).set i y = A ++ y :: B := by subst h; exact mid_set A x y B
theorem drop_cons {P : List Nat} {k : Nat} (h : k < P.length) : P.drop k = P.getD k 0 :: P.drop (k + 1) := by
  rw [List.drop_eq_getElem_cons h]
  simp [List.getD, h]
theorem swapN_mid (A P B Q C : List Nat) (a b : Nat) (ha : a = A.length) (hb : b = A.length + P.length + B.length) (hPQ : P.length = Q.length) : ∀ k, k ≤ P.length → swapN (A ++ P ++ B ++ Q ++ C) a b k = A ++ Q.take k ++ P.drop k ++ B ++ P.take k ++ Q.drop k ++ C
  | 0, _ => by simp [swapN]
  | k + 1, hk => by
    have ih := swapN_mid A P B Q C a b ha hb hPQ k (by omega)
    rw [swapN, ih, drop_cons (show k < P.length by omega), drop_cons (show k < Q.length by omega), take_snoc_getD (show k < P.length by omega), take_snoc_getD (show k < Q.length by omega)]
    generalize hp : P.getD k 0 = p
    generalize hq : Q.getD k 0 = q
    have e1 : ((A ++ Q.take k ++ p :: P.drop (k + 1) ++ B ++ P.take k ++ q :: Q.drop (k + 1) ++ C)).getD (a + k) 0 = p := by
      have := get_at (A ++ Q.take k) p (P.drop (k + 1) ++ B ++ P.take k ++ q :: Q.drop (k + 1) ++ C) (a + k) (by simp; omega)
      simpa using this
    have e2 : ((A ++ Q.take k ++ p :: P.drop (k + 1) ++ B ++ P.take k ++ q :: Q.drop (k + 1) ++ C)).getD (b + k) 0 = q := by
      have := get_at (A ++ Q.take k ++ p :: P.drop (k + 1) ++ B ++ P.take k) q (Q.drop (k + 1) ++ C) (b + k) (by simp; omega)
      simpa using this
    rw [e1, e2]
    have e3 := set_at (A ++ Q.take k) p q (P.drop (k + 1) ++ B ++ P.take k ++ q :: Q.drop (k + 1) ++ C) (a + k) (by simp; omega)
    have e4 := set_at (A ++ Q.take k ++ q :: P.drop (k + 1) ++ B ++ P.take k) q p (Q.drop (k + 1) ++ C) (b + k) (by simp; omega)
    simp only [List.append_assoc, List.cons_append, List.nil_append] at e3 e4 ⊢
    rw [e3]
    exact e4

theorem swapRange_two (g cap : Nat) (A P B Q C : List Nat) (a b n N : Nat) (ha : a = A.length) (hb : b = A.length + P.length + B.length) (hP : P.length = n) (hQ : Q.length = n) (hN : N = (A ++ P ++ B ++ Q ++ C).length) (hm : N ≤ 1000000) (f : Value) (w : World) (hrow : RowN w g 3 cap (A ++ P ++ B ++ Q ++ C)) :
    Calls Try.prog 73 #[.slice (some ⟨g, 0, none⟩) N cap, .int .i64 a, .int .i64 b, .int .i64 n, f] w fun e w' => e = .returned (.tuple #[]) ∧ RowN w' g 3 cap (A ++ Q ++ B ++ P ++ C) ∧ Upd [g] w w' := by
  have h := swapRange_any g cap (A ++ P ++ B ++ Q ++ C) a b n (by omega) (by simp; omega) (by omega) f w hrow
  rw [swapN_mid A P B Q C a b ha hb (by omega) n (by omega)] at h
  rw [← hN, List.take_of_length_le (by omega), List.take_of_length_le (by omega), List.drop_of_length_le (by omega), List.drop_of_length_le (by omega)] at h
  simpa using h

set_option maxHeartbeats 16000000 in
set_option maxRecDepth 100000 in
theorem rotate_any (g cap : Nat) (A X Y C : List Nat) (a m b N : Nat) (ha : a = A.length) (hmm : m = a + X.length) (hb : b = m + Y.length) (hX : 0 < X.length) (hY : 0 < Y.length) (hN : N = (A ++ X ++ Y ++ C).length) (hm : N ≤ 1000000) (f : Value) (w : World) (hrow : RowN w g 3 cap (A ++ X ++ Y ++ C)) :
    Calls Try.prog 72 #[.slice (some ⟨g, 0, none⟩) N cap, .int .i64 a, .int .i64 m, .int .i64 b, f] w fun e w' => e = .returned (.tuple #[]) ∧ RowN w' g 3 cap (A ++ Y ++ X ++ C) ∧ Upd [g] w w' := by
  have hsum : A.length + X.length + Y.length + C.length = N := by rw [hN]; simp; omega
  have HR := Lib.hid hrow
  clear hrow hN
  obtain ⟨x, hx⟩ : ∃ x, x = X.length := ⟨_, rfl⟩
  obtain ⟨y, hy⟩ : ∃ y, y = Y.length := ⟨_, rfl⟩
  obtain ⟨z, hz⟩ : ∃ z, z = C.length := ⟨_, rfl⟩
  rw [← hx, ← hy, ← hz, ← ha] at hsum
  rw [← hx] at hmm hX
  rw [← hy] at hb hY
  have w0 : IntKind.i64.wrap ((m : Int) - (a : Int)) = (x : Int) := by rw [IntWalk.i64_in _ (by omega)]; omega
  have w1 : IntKind.i64.wrap ((b : Int) - (m : Int)) = (y : Int) := by rw [IntWalk.i64_in _ (by omega)]; omega
  have HA := Lib.hid ha
  have HX := Lib.hid hx
  have HY := Lib.hid hy
  have HZ := Lib.hid hz
  have HSUM := Lib.hid hsum
  have HB := Lib.hid hb
  have HM := Lib.hid hmm
  have m1 : m ≤ a + x := by omega
  have m2 : a + x ≤ m := by omega
  have b1 : b ≤ m + y := by omega
  have b2 : m + y ≤ b := by omega
  have n1 : a + x + y + z ≤ N := by omega
  have n2 : N ≤ a + x + y + z := by omega
  clear ha hx hy hz hsum hb hmm
  go_enter Try.func72, Try.ntmps72
  go_wp2
  clear w0 w1
  go_loopw [10, 11] (fun iv jv wr => ∃ (i j : Nat) (L P Q M : List Nat), iv = .int .i64 i ∧ jv = .int .i64 j ∧ Hid (P.length = i) ∧ Hid (Q.length = j) ∧ 0 < i ∧ 0 < j ∧ Hid (L.length + i = x) ∧ L ++ Q ++ P ++ M = Y ++ X ∧ RowN wr g 3 cap (A ++ L ++ P ++ Q ++ M ++ C) ∧ Upd [g] w wr) (fun iv jv _ => (intOf iv).toNat + (intOf jv).toNat)
  case atStart => exact ⟨x, y, [], X, Y, [], rfl, rfl, Lib.hid HX.out.symm, Lib.hid HY.out.symm, hX, hY, Lib.hid (by simp), by simp, by simpa using HR.out, Upd.refl _ _⟩
  case round =>
    obtain ⟨i, j, L, P, Q, M, rfl, rfl, HP, HQ, hi0, hj0, HL, heq, hr, hu⟩ := hrel
    have l1 : L.length + i ≤ x := by have := HL.out; omega
    have l2 : x ≤ L.length + i := by have := HL.out; omega
    have hlen : L.length + j + i + M.length = y + x := by
      have := congrArg List.length heq
      have h1 := HX.out
      have h2 := HY.out
      have h3 := HP.out
      have h4 := HQ.out
      simp at this
      omega
    have l3 : L.length + j + i + M.length ≤ y + x := by omega
    have l4 : y + x ≤ L.length + j + i + M.length := by omega
    clear hlen
    have w2 : IntKind.i64.wrap ((m : Int) - (i : Int)) = ((m - i : Nat) : Int) := by rw [IntWalk.i64_in _ (by omega)]; omega
    have HEQ := Lib.hid heq
    clear heq
    rcases Nat.lt_trichotomy i j with hij | hij | hij
    · obtain ⟨mj, hmj⟩ : ∃ mj, mj = m + j := ⟨_, rfl⟩
      obtain ⟨mji, hmji⟩ : ∃ mji, mji = mj - i := ⟨_, rfl⟩
      have w3 : IntKind.i64.wrap ((m : Int) + (j : Int)) = ((mj : Nat) : Int) := by rw [IntWalk.i64_in _ (by omega)]; omega
      have w4 : IntKind.i64.wrap (((mj : Nat) : Int) - (i : Int)) = ((mji : Nat) : Int) := by rw [IntWalk.i64_in _ (by omega)]; omega
      have w5 : IntKind.i64.wrap ((j : Int) - (i : Int)) = ((j - i : Nat) : Int) := by rw [IntWalk.i64_in _ (by omega)]; omega
      have hr2 : RowN wr g 3 cap ((A ++ L) ++ P ++ Q.take (j - i) ++ Q.drop (j - i) ++ (M ++ C)) := by
        have := List.take_append_drop (j - i) Q
        simp only [List.append_assoc] at hr ⊢
        rw [← List.append_assoc (Q.take (j - i)), this]
        exact hr
      have hs := swapRange_two g cap (A ++ L) P (Q.take (j - i)) (Q.drop (j - i)) (M ++ C) (m - i) mji i N (by have := HA.out; simp; omega) (by have := HA.out; have := HP.out; have := HQ.out; simp; omega) HP.out (by have := HQ.out; simp; omega) (by have := HA.out; have := HZ.out; have := HP.out; have := HQ.out; simp; omega) (by omega) f wr hr2
      have HS := Lib.hid hs
      have HU := Lib.hid hu
      clear hr2 hs hr hu hmj hmji
      have hne : ((i : Int) == (j : Int)) = false := by simp; omega
      have hg : decide (((j : Int)) < ((i : Int))) = false := by simp; omega
      go_wp2_with fail
      refine HS.out.mono ?_
      rintro e w1 ⟨rfl, hr1, hu1⟩
      have HR1 := Lib.hid hr1
      have HU1 := Lib.hid (HU.out.transS hu1)
      clear hr1 hu1
      go_wp2
      go_roundw
      case rel =>
        refine ⟨i, j - i, L, Q.drop (j - i), Q.take (j - i), P ++ M, rfl, by go_num, Lib.hid (by have := HQ.out; simp; omega), Lib.hid (by have := HQ.out; simp; omega), hi0, by omega, HL, ?_, by simpa using HR1.out, HU1.out⟩
        have := List.take_append_drop (j - i) Q
        have h2 := HEQ.out
        simp only [List.append_assoc] at h2 ⊢
        rw [← List.append_assoc (Q.take (j - i)), this]
        exact h2
      case measure => simp [intOf]; omega
    · subst hij
      have hs := swapRange_two g cap (A ++ L) P [] Q (M ++ C) (m - i) m i N (by have := HA.out; simp; omega) (by have := HA.out; have := HP.out; simp; omega) HP.out HQ.out (by have := HA.out; have := HZ.out; have := HP.out; have := HQ.out; simp; omega) (by omega) f wr (by simpa using hr)
      have HS := Lib.hid hs
      have HU := Lib.hid hu
      clear hs hr hu
      go_wp2_with fail
      refine HS.out.mono ?_
      rintro e w1 ⟨rfl, hr1, hu1⟩
      have HR1 := Lib.hid hr1
      have HU1 := Lib.hid (HU.out.transS hu1)
      clear hr1 hu1
      go_wp2
      first | go_end0 | ((try simp only [Exit.inBlock, Exit.then]); refine bodyPost_ret (results_none rfl _ _ _) rfl ?_)
      refine ⟨rfl, ?_, HU1.out⟩
      have h1 := HR1.out
      have h2 := HEQ.out
      have e : A ++ L ++ Q ++ [] ++ P ++ (M ++ C) = A ++ Y ++ X ++ C := by
        rw [show A ++ Y ++ X ++ C = A ++ (Y ++ X) ++ C by simp, ← h2]
        simp
      rw [e] at h1
      exact h1
    · have w5 : IntKind.i64.wrap ((i : Int) - (j : Int)) = ((i - j : Nat) : Int) := by rw [IntWalk.i64_in _ (by omega)]; omega
      have hr2 : RowN wr g 3 cap ((A ++ L) ++ P.take j ++ P.drop j ++ Q ++ (M ++ C)) := by
        have := List.take_append_drop j P
        simp only [List.append_assoc] at hr ⊢
        rw [← List.append_assoc (P.take j), this]
        exact hr
      have hs := swapRange_two g cap (A ++ L) (P.take j) (P.drop j) Q (M ++ C) (m - i) m j N (by have := HA.out; simp; omega) (by have := HA.out; have := HP.out; simp; omega) (by have := HP.out; simp; omega) HQ.out (by have := HA.out; have := HZ.out; have := HP.out; have := HQ.out; simp; omega) (by omega) f wr hr2
      have HS := Lib.hid hs
      have HU := Lib.hid hu
      clear hr2 hs hr hu
      have hne : ((i : Int) == (j : Int)) = false := by simp; omega
      have hg : decide (((j : Int)) < ((i : Int))) = true := by simp; omega
      go_wp2_with fail
      refine HS.out.mono ?_
      rintro e w1 ⟨rfl, hr1, hu1⟩
      have HR1 := Lib.hid hr1
      have HU1 := Lib.hid (HU.out.transS hu1)
      clear hr1 hu1
      go_wp2
      go_roundw
      case rel =>
        refine ⟨i - j, j, L ++ Q, P.drop j, P.take j, M, by go_num, rfl, Lib.hid (by have := HP.out; simp; omega), Lib.hid (by have := HP.out; simp; omega), by omega, hj0, Lib.hid (by have := HQ.out; have := HL.out; simp; omega), ?_, by simpa using HR1.out, HU1.out⟩
        have := List.take_append_drop j P
        have h2 := HEQ.out
        simp only [List.append_assoc] at h2 ⊢
        rw [← List.append_assoc (P.take j), this]
        exact h2
      case measure => simp [intOf]; omega
end Go.Proofs.Ythchclhleppdhaa
