/- What the laws of rings try first: room for two. -/
import Derived.Test.YtfimcimbnoolnaaRefRing
import Derived.Test.YtfimcimbnoolnaaRow
namespace Go.Proofs.Ytfimcimbnoolnaa
set_option linter.unusedVariables false
set_option linter.unusedSimpArgs false
open Go.RowKit Go.Conc

theorem rd_lit2 (w : World) (e : TypeId) (x y : Int) : Rd (w.alloc (.cells #[.int .i64 x, .int .i64 y] e)) (.slice (some ⟨w.heap.size, 0, none⟩) 2 2) 2 ([x, y].map (Value.int .i64)) := by
  refine ⟨_, 2, rfl, by omega, by decide, (fun h => by cases h), .inr ⟨_, 0, rfl, fun j u hj => ?_⟩⟩
  rw [Nat.zero_add, World.cell?_alloc_at _ _ _ _ rfl]
  simpa using hj
theorem rd_lit1 (w : World) (e : TypeId) (x : Int) : Rd (w.alloc (.cells #[.int .i64 x] e)) (.slice (some ⟨w.heap.size, 0, none⟩) 1 1) 1 ([x].map (Value.int .i64)) := by
  refine ⟨_, 1, rfl, by omega, by decide, (fun h => by cases h), .inr ⟨_, 0, rfl, fun j u hj => ?_⟩⟩
  rw [Nat.zero_add, World.cell?_alloc_at _ _ _ _ rfl]
  simpa using hj

set_option maxHeartbeats 1600000 in
set_option maxRecDepth 100000 in
theorem known3_ok (w : World) : Calls Try.prog 7 #[] w fun e w' => e = .returned (.bool true) ∧ Upd [] w w' := by
  go_enter Try.func7, Try.ntmps7
  go_wp2_with fail
  refine (new_ok 2 (by omega) _).mono ?_
  rintro e w1 ⟨p, c, rfl, hr, hu1, hp, hc⟩
  go_wp2_with fail
  refine (new_bad 17 (by omega) _).mono ?_
  rintro e w1' ⟨rfl, rfl⟩
  go_wp2_with fail
  refine (new_ok 0 (by omega) _).mono ?_
  rintro e w2 ⟨q, d, rfl, hz, hu2, hq, hd⟩
  have hp1 := hr.ltp
  have hc1 := hr.ltc
  have hr2 := hr.keep hu2 (by simp) (by simp)
  have hU : Upd [] w w2 := hu1.trans0 hu2
  clear hu1 hu2 hr
  go_wp2_with fail
  refine (push_room p c 2 [] 5 _ hr2 (by simp)).mono ?_
  rintro e w3 ⟨rfl, hr3, hu3⟩
  have hz3 := hz.keep hu3 (by simp; omega) (by simp; omega)
  replace hU : Upd [] w w3 := hU.trans hu3 (fun x hx hl => by simp at hx; omega)
  clear hu3 hr2 hz
  go_wp2_with fail
  refine (push_room p c 2 [5] (-7) _ hr3 (by simp)).mono ?_
  rintro e w4 ⟨rfl, hr4, hu3⟩
  have hz4 := hz3.keep hu3 (by simp; omega) (by simp; omega)
  replace hU : Upd [] w w4 := hU.trans hu3 (fun x hx hl => by simp at hx; omega)
  clear hu3 hr3 hz3
  go_wp2_with fail
  refine (push_full p c 2 [5, -7] 9 _ hr4 (by simp)).mono ?_
  rintro e w4' ⟨rfl, rfl⟩
  go_wp2_with fail
  refine (twin_any p c 2 [5, -7] _ hr4).mono ?_
  rintro e w5 ⟨s, t, rfl, ht5, hr5, hu3, hs, ht⟩
  have hp4 := hr4.ltp
  have hc4 := hr4.ltc
  have hq4 := hz4.ltp
  have hd4 := hz4.ltc
  have hz5 := hz4.keep hu3 (by simp; omega) (by simp; omega)
  replace hU : Upd [] w w5 := hU.trans hu3 (fun x hx hl => by simp at hx; omega)
  clear hu3 hr4 hz4
  go_wp2_with fail
  refine (pop_some p c 2 5 [-7] _ hr5).mono ?_
  rintro e w6 ⟨rfl, hr6, hu3⟩
  have hz6 := hz5.keep hu3 (by simp; omega) (by simp; omega)
  have ht6 := ht5.keep hu3 (by simp; omega) (by simp; omega)
  replace hU : Upd [] w w6 := hU.trans hu3 (fun x hx hl => by simp at hx; omega)
  clear hu3 hr5 hz5 ht5
  go_wp2_with fail
  refine (pop_none q d 0 _ hz6).mono ?_
  rintro e w6' ⟨rfl, rfl⟩
  go_wp2_with fail
  refine (len_any p c 2 [-7] _ hr6).mono ?_
  rintro e w6' ⟨rfl, rfl⟩
  go_wp2_with fail
  refine (room_any p c 2 [-7] _ hr6).mono ?_
  rintro e w7 ⟨rfl, n, hw7⟩
  have hu7 : Upd [] w6 w7 := by rw [hw7]; exact (Upd.refl _ _).drewN _
  clear hw7
  have hr7 := hr6.keep hu7 (by simp) (by simp)
  have hz7 := hz6.keep hu7 (by simp) (by simp)
  have ht7 := ht6.keep hu7 (by simp) (by simp)
  replace hU : Upd [] w w7 := hU.trans0 hu7
  clear hu7 hr6 hz6 ht6
  go_wp2_with fail
  refine (all_any p c 2 [-7] _ hr7).mono ?_
  rintro e w8 ⟨a, cap, rfl, hown, hr8, hu3⟩
  have hp7 := hr7.ltp
  have hc7 := hr7.ltc
  have hz8 := hz7.keep hu3 (by simp; omega) (by simp; omega)
  have ht8 := ht7.keep hu3 (by simp; omega) (by simp; omega)
  replace hU : Upd [] w w8 := hU.trans hu3 (fun x hx hl => by simp at hx; omega)
  clear hu3 hr7 hz7 ht7
  go_wp2_with fail
  refine (row_eq a _ cap 1 [-7] _ ((Rd.of_own hown).keep0 ((Upd.refl _ _).alloc _)) (rd_lit1 _ _ _) (by simp)).mono ?_
  rintro e w9 ⟨rfl, n, hw7⟩
  have hu7 : Upd [] w8 w9 := by rw [hw7]; exact ((Upd.refl _ _).alloc _).drewN _
  clear hw7 hown
  have hr9 := hr8.keep hu7 (by simp) (by simp)
  have hz9 := hz8.keep hu7 (by simp) (by simp)
  have ht9 := ht8.keep hu7 (by simp) (by simp)
  replace hU : Upd [] w w9 := hU.trans0 hu7
  clear hu7 hr8 hz8 ht8
  go_wp2_with fail
  refine (all_any s t 2 [5, -7] _ ht9).mono ?_
  rintro e w10 ⟨a, cap, rfl, hown, ht10, hu3⟩
  have hz10 := hz9.keep hu3 (by simp; omega) (by simp; omega)
  have hs6 := hU.size
  replace hU : Upd [] w w10 := hU.trans hu3 (fun x hx hl => by simp at hx; omega)
  clear hu3 hr9 hz9 ht9
  go_wp2_with fail
  refine (row_eq a _ cap 2 [5, -7] _ ((Rd.of_own hown).keep0 ((Upd.refl _ _).alloc _)) (rd_lit2 _ _ _ _) (by simp)).mono ?_
  rintro e w11 ⟨rfl, n, hw7⟩
  have hu7 : Upd [] w10 w11 := by rw [hw7]; exact ((Upd.refl _ _).alloc _).drewN _
  clear hw7 hown
  have hz11 := hz10.keep hu7 (by simp) (by simp)
  replace hU : Upd [] w w11 := hU.trans0 hu7
  clear hu7 ht10 hz10
  go_wp2_with fail
  refine (push_full q d 0 [] 1 _ hz11 (by simp)).mono ?_
  rintro e w11' ⟨rfl, rfl⟩
  go_wp2_with fail
  refine (room_any q d 0 [] _ hz11).mono ?_
  rintro e w12 ⟨rfl, n, hw7⟩
  have hu7 : Upd [] w11 w12 := by rw [hw7]; exact (Upd.refl _ _).drewN _
  clear hw7
  replace hU : Upd [] w w12 := hU.trans0 hu7
  clear hu7 hz11
  go_wp2
  go_ret
  exact ⟨rfl, hU⟩
end Go.Proofs.Ytfimcimbnoolnaa
