/- watchbilllaw14.known. -/
import Derived.Test.YtmjcolkpfblelaaWaitOrderW
import Derived.Test.YtmjcolkpfblelaaWaitWithout
import Derived.Test.YtmjcolkpfblelaaSameW
import Derived.Test.YtmjcolkpfblelaaInts
namespace Go.Proofs.Ytmjcolkpfblelaa
set_option linter.unusedVariables false
set_option linter.unusedSimpArgs false
open Go.RowKit
theorem rd_lits (W : World) (cs : List Value) (e : TypeId) (n : Nat) (hn : n ≤ maxLen) : Rd (W.alloc (.cells cs.toArray e)) (.slice (some ⟨W.heap.size, 0, none⟩) n n) n cs := by
  refine ⟨_, _, rfl, Nat.le_refl _, hn, (fun h => by cases h), ?_⟩
  refine .inr ⟨_, _, rfl, fun j u hj => ?_⟩
  rw [World.cell?_alloc_at _ _ _ _ rfl]
  simpa using hj
def kQ14 : List Wt := [⟨1, 0, 5, 0⟩, ⟨0, 0, 9, 0⟩, ⟨1, 1, 5, 0⟩]
instance (q : List Wt) (ps : List Int) (x y : Nat) : Decidable (goesW q ps x y) := by unfold goesW; infer_instance
theorem k14_fin : ∀ a b c : Fin 3, goesW kQ14 [3, 7] a.val b.val → goesW kQ14 [3, 7] a.val c.val → goesW kQ14 [3, 7] b.val c.val → [a.val, b.val, c.val] = [0, 2, 1] := by decide
theorem k14_sort (a : Nat) (ha : a < 3) (b : Nat) (hb : b < 3) (c : Nat) (hc : c < 3) : goesW kQ14 [3, 7] a b → goesW kQ14 [3, 7] a c → goesW kQ14 [3, 7] b c → [a, b, c] = [0, 2, 1] := k14_fin ⟨a, ha⟩ ⟨b, hb⟩ ⟨c, hc⟩
theorem k14_order (M : List Nat) (hp : M.Perm (List.range 3)) (hR : M.Pairwise (goesW kQ14 [3, 7])) : M = [0, 2, 1] := by
  have hl : M.length = 3 := by rw [hp.length_eq]; rfl
  have hm : ∀ x ∈ M, x < 3 := fun x hx => List.mem_range.1 (hp.mem_iff.1 hx)
  match M, hl with
  | [a, b, c], _ =>
    simp only [List.pairwise_cons, List.mem_cons, List.not_mem_nil, or_false] at hR
    exact k14_sort a (hm a (by simp)) b (hm b (by simp)) c (hm c (by simp)) (hR.1 b (.inl rfl)) (hR.1 c (.inr rfl)) (hR.2.1 c rfl)
theorem k14_1 : optI (bestTo [3, 7] kQ14 3) = 0 := by decide
theorem k14_2 : optI (bestTo [] kQ14 3) = 0 := by decide
theorem k14_3 : optI (bestTo [8, 7] [⟨0, 0, 9, 0⟩, ⟨1, 1, 5, 0⟩] 2) = 0 := by decide
set_option maxHeartbeats 8000000 in
set_option maxRecDepth 100000 in
theorem known14_ok (w : World) : Calls Try.prog 7 #[] w fun e w' => e = .returned (.bool true) ∧ Upd [] w w' := by
  obtain ⟨W0, hW0⟩ : ∃ W0, W0 = (w.alloc (.cells #[.int .i64 1, .int .i64 0, .int .i64 5, .int .i64 0, .int .i64 0, .int .i64 0, .int .i64 9, .int .i64 0, .int .i64 1, .int .i64 1, .int .i64 5, .int .i64 0] 45)).alloc (.cells #[.int .i64 3, .int .i64 7] 3) := ⟨_, rfl⟩
  have hq0 : RdW W0 (.slice (some ⟨w.heap.size, 0, none⟩) kQ14.length 3) kQ14 := by
    rw [hW0]
    exact (rd_lits w (kQ14.flatMap Wt.enc) 45 3 (by unfold maxLen; omega)).keep0 ((Upd.refl _ _).alloc _)
  have hp0 : RdI W0 (.slice (some ⟨w.heap.size + 1, 0, none⟩) ([3, 7] : List Int).length 2) [3, 7] := by
    rw [hW0]
    have := rd_lits (w.alloc (.cells #[.int .i64 1, .int .i64 0, .int .i64 5, .int .i64 0, .int .i64 0, .int .i64 0, .int .i64 9, .int .i64 0, .int .i64 1, .int .i64 1, .int .i64 5, .int .i64 0] 45)) [.int .i64 3, .int .i64 7] 3 2 (by unfold maxLen; omega)
    have hs : (w.alloc (.cells #[.int .i64 1, .int .i64 0, .int .i64 5, .int .i64 0, .int .i64 0, .int .i64 0, .int .i64 9, .int .i64 0, .int .i64 1, .int .i64 1, .int .i64 5, .int .i64 0] 45)).heap.size = w.heap.size + 1 := by simp
    rw [hs] at this
    exact this
  have hU0 : Upd [] w W0 := by rw [hW0]; exact ((Upd.refl _ _).alloc _).alloc _
  obtain ⟨a1, c1, r1, -, -, s1, -⟩ := Rd.cut tWt hq0 1 3 (by decide) (by decide)
  have s1' : ∀ W : World, (Instr.slice 26 (.slice (some ⟨w.heap.size, 0, none⟩) 3 3) (some (.int .i64 1)) none none).run Try.prog W = .ok (.slice a1 2 c1) W := s1 rfl
  have r1' : RdW W0 (.slice a1 ([⟨0, 0, 9, 0⟩, ⟨1, 1, 5, 0⟩] : List Wt).length c1) [⟨0, 0, 9, 0⟩, ⟨1, 1, 5, 0⟩] := r1
  have RQ := Lib.hid (fun W (hu : Upd [] W0 W) => hq0.keep0 hu)
  have RP := Lib.hid (fun W (hu : Upd [] W0 W) => hp0.keep0 hu)
  have R1 := Lib.hid (fun W (hu : Upd [] W0 W) => r1'.keep0 hu)
  have HU := Lib.hid hU0
  have HU0 := Lib.hid (Upd.refl [] W0)
  have HW0 := Lib.hid hW0
  clear hq0 hp0 hU0 r1 r1' s1 hW0
  go_enter Try.func7, Try.ntmps7
  go_wp2_with fail
  rw [← HW0.out]
  refine (best_any _ _ 3 2 kQ14 [3, 7] _ (RQ.out _ HU0.out) (RP.out _ HU0.out) (by decide) (by decide)).mono ?_
  rintro e w1 ⟨rfl, hu⟩
  have e1 : optI (bestTo [3, 7] kQ14 kQ14.length) = 0 := k14_1
  rw [e1]
  replace HU0 := Lib.hid (HU0.out.trans0 hu)
  clear hu e1
  go_wp2_with fail
  refine (best_any _ none 3 0 kQ14 [] _ (RQ.out _ HU0.out) (Rd.nil _) (by decide) (by decide)).mono ?_
  rintro e w2 ⟨rfl, hu⟩
  have e1 : optI (bestTo [] kQ14 kQ14.length) = 0 := k14_2
  rw [e1]
  replace HU0 := Lib.hid (HU0.out.trans0 hu)
  clear hu e1
  go_wp2_with fail
  have h87 := rd_lits w2 [.int .i64 8, .int .i64 7] 3 2 (by unfold maxLen; omega)
  refine (best_any a1 _ c1 2 [⟨0, 0, 9, 0⟩, ⟨1, 1, 5, 0⟩] [8, 7] _ (R1.out _ (HU0.out.alloc _)) h87 (by decide) (by decide)).mono ?_
  rintro e w3 ⟨rfl, hu⟩
  have e1 : optI (bestTo [8, 7] [⟨0, 0, 9, 0⟩, ⟨1, 1, 5, 0⟩] ([⟨0, 0, 9, 0⟩, ⟨1, 1, 5, 0⟩] : List Wt).length) = 0 := k14_3
  rw [e1]
  replace HU0 := Lib.hid ((HU0.out.alloc _).trans0 hu)
  clear hu e1 h87
  go_wp2_with fail
  refine (best_any none _ 0 2 [] [3, 7] _ (Rd.nil _) (RP.out _ HU0.out) (by decide) (by decide)).mono ?_
  rintro e w4 ⟨rfl, hu⟩
  have e1 : optI (bestTo [3, 7] [] ([] : List Wt).length) = -1 := rfl
  rw [e1]
  replace HU0 := Lib.hid (HU0.out.trans0 hu)
  clear hu e1
  go_wp2_with fail
  refine (order_few _ _ 3 2 kQ14 [3, 7] _ (RQ.out _ HU0.out) (RP.out _ HU0.out) (by decide) (by decide) (by decide)).mono ?_
  rintro e w5 ⟨g5, c5, M, rfl, hp, hR, ho, hu⟩
  obtain rfl := k14_order M hp hR
  have HO5 := Lib.hid (Rd.of_own ho)
  replace HU0 := Lib.hid (HU0.out.trans0 hu)
  clear hu hp hR ho
  go_wp2_with fail
  have h021 := rd_lits w5 [.int .i64 0, .int .i64 2, .int .i64 1] 3 3 (by unfold maxLen; omega)
  refine (ints_eq (some ⟨g5, 0, none⟩) _ c5 3 [0, 2, 1] _ (HO5.out.keep0 ((Upd.refl _ _).alloc _)) h021 (by decide)).mono ?_
  rintro e w6 ⟨rfl, nq, rfl⟩
  replace HU0 := Lib.hid ((HU0.out.alloc (.cells #[.int .i64 0, .int .i64 2, .int .i64 1] 3)).drewN nq)
  clear h021
  go_wp2_with fail
  refine (without_any _ 3 kQ14 1 _ (RQ.out _ HU0.out) (by decide)).mono ?_
  rintro e w7 ⟨a7, c7, rfl, ho, hu⟩
  have HO7 := Lib.hid (Rd.of_own ho)
  replace HU0 := Lib.hid (HU0.out.trans0 hu)
  clear hu ho
  go_wp2_with fail
  have h9 := rd_lits w7 [.int .i64 0, .int .i64 0, .int .i64 9, .int .i64 0] 42 1 (by unfold maxLen; omega)
  refine (same_any a7 _ c7 1 [⟨0, 0, 9, 0⟩] _ (HO7.out.keep0 ((Upd.refl _ _).alloc _)) h9 (by decide)).mono ?_
  rintro e w8 ⟨rfl, hu⟩
  replace HU0 := Lib.hid ((HU0.out.alloc (.cells #[.int .i64 0, .int .i64 0, .int .i64 9, .int .i64 0] 42)).trans0 hu)
  clear hu h9
  go_wp2_with fail
  refine (has_any _ 3 kQ14 0 _ (RQ.out _ HU0.out) (by decide)).mono ?_
  rintro e w9 ⟨rfl, hu⟩
  replace HU0 := Lib.hid (HU0.out.trans0 hu)
  clear hu
  have e1 : (kQ14.any fun x => x.task == 0) = true := rfl
  rw [e1]
  go_wp2_with fail
  refine (has_any _ 3 kQ14 2 _ (RQ.out _ HU0.out) (by decide)).mono ?_
  rintro e w10 ⟨rfl, hu⟩
  replace HU0 := Lib.hid (HU0.out.trans0 hu)
  clear hu
  have e2 : (kQ14.any fun x => x.task == 2) = false := rfl
  rw [e2]
  go_wp2
  go_ret
  exact ⟨rfl, HU.out.trans0 HU0.out⟩
end Go.Proofs.Ytmjcolkpfblelaa
