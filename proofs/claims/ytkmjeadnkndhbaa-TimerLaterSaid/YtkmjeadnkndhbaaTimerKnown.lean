/- The timer that is known. -/
import Derived.Test.YtkmjeadnkndhbaaTimerTick
import Derived.Test.YtkmjeadnkndhbaaInts
namespace Go.Proofs.Ytkmjeadnkndhbaa
set_option linter.unusedVariables false
set_option linter.unusedSimpArgs false
open Go.RowKit

/-- What is new to the caller may turn. -/
theorem Upd.far {w a c : World} {p : Nat} {b : Option Nat} (h : Upd [] w a) (hu : Upd (p :: b.toList) a c) (hp : w.heap.size ≤ p) (hb : ∀ k, b = some k → w.heap.size ≤ k) : Upd [] w c :=
  h.trans hu (fun y hy hl => by
    rcases List.mem_cons.1 hy with rfl | hy
    · omega
    · have := hb y (by simpa using hy)
      omega)
theorem TimAt.some {w : World} {p : Nat} {b : Option Nat} {d : Due} {l : List Due} (h : TimAt w p b (d :: l)) : ∃ g, b = some g := by
  obtain ⟨a, cap, h1, h2, h3⟩ := h.ex
  obtain ⟨g, R, rfl, _⟩ := own_parts h2 (by simp)
  exact ⟨g, h3.symm⟩
theorem fresh_next {w a c : World} {b b' : Option Nat} (hu : Upd [] w a) (hb : ∀ k, b = some k → w.heap.size ≤ k) (h : ∀ k, b' = some k → b = some k ∨ a.heap.size ≤ k) : ∀ k, b' = some k → w.heap.size ≤ k := fun k hk => by
  rcases h k hk with h | h
  · exact hb k h
  · have := hu.size
    omega

set_option maxHeartbeats 6400000 in
set_option maxRecDepth 100000 in
theorem known2_ok (w : World) : Calls Try.prog 7 #[] w fun e w' => e = .returned (.bool true) ∧ Upd [] w w' := by
  have t1 : tickD [⟨7, 1⟩, ⟨5, 1⟩, ⟨1, 0⟩] = ([7], [⟨5, 1⟩, ⟨1, 0⟩]) := by simp [tickD, popD]
  have t2 : tickD [⟨5, 1⟩, ⟨1, 0⟩] = ([5, 1], []) := by simp [tickD, popD]
  have l1 : leftD [⟨5, 1⟩, ⟨1, 0⟩] 5 0 = (1, true) := by simp [leftD]
  have l2 : leftD [⟨5, 1⟩, ⟨1, 0⟩] 7 0 = (0, false) := by simp [leftD]
  have p1 : putD [] 5 2 = [⟨5, 2⟩] := rfl
  have p2 : putD [⟨5, 2⟩] 1 2 = [⟨5, 2⟩, ⟨1, 0⟩] := by simp [putD]
  have p3 : putD [⟨5, 2⟩, ⟨1, 0⟩] 7 1 = [⟨7, 1⟩, ⟨5, 1⟩, ⟨1, 0⟩] := by simp [putD]
  have T1 := Lib.hid t1
  have T2 := Lib.hid t2
  have L1 := Lib.hid l1
  have L2 := Lib.hid l2
  clear t1 t2 l1 l2
  go_enter Try.func7, Try.ntmps7
  go_wp2_with fail
  refine (newTimer_any _).mono ?_
  rintro e w1 ⟨p, rfl, hT1, hU1, hpw⟩
  go_wp2_with fail
  refine (put_ok p none [] 5 2 _ hT1 (by simp) (by intro d hd; simp at hd) (by omega) (by omega) (by omega) (by omega) rfl).mono ?_
  rintro e w2 ⟨b2, rfl, hT2, hu2, hf2⟩
  have hF2 := fresh_next (c := w2) hU1 (b := none) (by simp) hf2
  have hU2 := hU1.far hu2 hpw (by simp)
  rw [p1] at hT2
  clear hT1 hU1 hu2 hf2
  go_wp2_with fail
  refine (put_ok p b2 [⟨5, 2⟩] 1 2 _ hT2 (by simp) (by intro d hd; simp at hd; subst hd; simp) (by omega) (by omega) (by omega) (by omega) (by simp [idxD])).mono ?_
  rintro e w3 ⟨b3, rfl, hT3, hu3, hf3⟩
  have hF3 := fresh_next (c := w3) hU2 hF2 hf3
  have hU3 := hU2.far hu3 hpw hF2
  rw [p2] at hT3
  clear hT2 hU2 hu3 hf3 hF2
  go_wp2_with fail
  refine (put_ok p b3 [⟨5, 2⟩, ⟨1, 0⟩] 7 1 _ hT3 (by simp) (by intro d hd; simp at hd; rcases hd with rfl | rfl <;> simp) (by omega) (by omega) (by omega) (by omega) (by simp [idxD, List.findIdx?_cons])).mono ?_
  rintro e w4 ⟨b4, rfl, hT4, hu4, hf4⟩
  have hF4 := fresh_next (c := w4) hU3 hF3 hf4
  have hU4 := hU3.far hu4 hpw hF3
  rw [p3] at hT4
  clear hT3 hU3 hu4 hf4 hF3
  go_wp2_with fail
  refine (put_twice p b4 [⟨7, 1⟩, ⟨5, 1⟩, ⟨1, 0⟩] 1 5 9 _ hT4 (by simp) (by omega) (by omega) (by omega) (by omega) (by simp [idxD, List.findIdx?_cons])).mono ?_
  rintro e w5 ⟨rfl, hu5⟩
  have hT5 := hT4.step hu5
  have hU5 := hU4.trans0 hu5
  clear hT4 hU4 hu5
  go_wp2_with fail
  refine (put_bad p 256 1 _ (by omega)).mono ?_
  rintro e w6 ⟨rfl, rfl⟩
  go_wp2_with fail
  refine (put_bad p 2 0 _ (by omega)).mono ?_
  rintro e w6 ⟨rfl, rfl⟩
  go_wp2_with fail
  obtain ⟨g, rfl⟩ := hT5.some
  have hgw := hF4 g rfl
  refine (tick_some p g ⟨7, 1⟩ [⟨5, 1⟩, ⟨1, 0⟩] _ hT5 (by simp) (by simp) (by simp)).mono ?_
  rintro e w6 ⟨oa, oc, rfl, hout, hT6, hu6⟩
  rw [T1.out] at hout hT6 ⊢
  simp only [List.length_cons, List.length_nil, Nat.zero_add] at hout hT6 ⊢
  have hpl5 := hT5.lt
  have hgl5 := hT5.rowLt g rfl
  have hU6 := hU5.far (b := some g) (by simpa using hu6) hpw hF4
  clear hT5 hU5 hu6
  go_wp2_with fail
  refine (left_any p (some g) [⟨5, 1⟩, ⟨1, 0⟩] 5 _ hT6 (by simp) (by intro d hd; simp at hd; rcases hd with rfl | rfl <;> simp)).mono ?_
  rintro e w7 ⟨rfl, hu7⟩
  rw [L1.out]
  have hT7 := hT6.step hu7
  have hU7 := hU6.trans0 hu7
  have hout7 := own_keep0 hout hu7
  clear hT6 hU6 hu7 hout
  go_wp2_with fail
  refine (left_any p (some g) [⟨5, 1⟩, ⟨1, 0⟩] 7 _ hT7 (by simp) (by intro d hd; simp at hd; rcases hd with rfl | rfl <;> simp)).mono ?_
  rintro e w8 ⟨rfl, hu8⟩
  rw [L2.out]
  have hT8 := hT7.step hu8
  have hU8 := hU7.trans0 hu8
  have hout8 := own_keep0 hout7 hu8
  clear hT7 hU7 hu8 hout7
  go_wp2_with fail
  refine (tick_some p g ⟨5, 1⟩ [⟨1, 0⟩] _ hT8 (by simp) (by simp) (by simp)).mono ?_
  rintro e w9 ⟨oa2, oc2, rfl, hout2, hT9, hu9⟩
  rw [T2.out] at hout2 hT9 ⊢
  simp only [List.length_cons, List.length_nil, Nat.zero_add] at hout2 hT9 ⊢
  have hU9 := hU8.far (b := some g) (by simpa using hu9) hpw hF4
  have hout9 := own_keep hout8 hu9 (fun k hk hq => by have := (hout8.lt k hk).1; simp at hq; omega)
  clear hT8 hU8 hu9 hout8
  go_wp2_with fail
  have hr1 := Rd.of_own hout9
  have hr2 := Rd.of_own hout2
  clear hout9 hout2
  have hul : Upd [] w9 (w9.alloc (.cells #[.int .i64 7] 3)) := (Upd.refl _ _).alloc _
  have hlit := rd_lit [7] w9 3 (by decide)
  refine (ints_eq oa _ oc 1 [7] _ (hr1.keep0 hul) hlit (by simp)).mono ?_
  rintro e w10 ⟨rfl, m, hw10⟩
  have hu10 : Upd [] w9 w10 := by rw [hw10]; exact hul.drewN m
  have hT10 := hT9.step hu10
  have hU10 := hU9.trans0 hu10
  have hr3 := hr2.keep0 hu10
  clear hT9 hU9 hr1 hr2 hul hlit hw10 hu10
  go_wp2_with fail
  have hul : Upd [] w10 (w10.alloc (.cells #[.int .i64 5, .int .i64 1] 3)) := (Upd.refl _ _).alloc _
  have hlit := rd_lit [5, 1] w10 3 (by decide)
  refine (ints_eq oa2 _ oc2 2 [5, 1] _ (hr3.keep0 hul) hlit (by simp)).mono ?_
  rintro e w11 ⟨rfl, m, hw11⟩
  have hu11 : Upd [] w10 w11 := by rw [hw11]; exact hul.drewN m
  have hT11 := hT10.step hu11
  have hU11 := hU10.trans0 hu11
  clear hT10 hU10 hr3 hul hlit hw11 hu11
  go_wp2_with fail
  refine (lenTimer_any p _ [] _ hT11).mono ?_
  rintro e w12 ⟨rfl, rfl⟩
  simp only [List.length_nil]
  go_wp2_with fail
  refine (cancel_none p _ [] 5 _ hT11 (by simp) rfl).mono ?_
  rintro e w12 ⟨rfl, hu12⟩
  have hU12 := hU11.trans0 hu12
  clear hT11 hU11 hu12
  go_wp2
  go_ret
  exact ⟨rfl, hU12⟩
end Go.Proofs.Ytkmjeadnkndhbaa
