/- What the laws of locks try first: one has it, two wait. -/
import Derived.Test.YtjkacccmdccbnaaLock
namespace Go.Proofs.Ytjkacccmdccbnaa
set_option linter.unusedVariables false
set_option linter.unusedSimpArgs false
open Go.RowKit

set_option maxHeartbeats 1600000 in
set_option maxRecDepth 100000 in
theorem known17_ok (w : World) : Calls Try.prog 7 #[] w fun e w' => e = .returned (.bool true) ∧ Upd [] w w' := by
  go_enter Try.func7, Try.ntmps7
  go_wp2_with fail
  refine (newLock_any _).mono ?_
  rintro e w1 ⟨p, rfl, hL, hU, hp⟩
  go_wp2_with fail
  refine (take_free p [] 0 1 _ hL (by simp) (by omega) rfl).mono ?_
  rintro e w2 ⟨rfl, hL2, hu⟩
  replace hU : Upd [] w w2 := hU.trans hu (fun x hx hl => by simp at hx; omega)
  clear hu hL
  go_wp2_with fail
  refine (take_wait p 0 [] 1 2 _ hL2 (by simp) (by omega) (by omega) (by omega) rfl).mono ?_
  rintro e w3 ⟨rfl, hL3, hu⟩
  replace hL3 : LockP w3 p 0 [⟨1, 0, 2, 0⟩] := hL3
  replace hU : Upd [] w w3 := hU.trans hu (fun x hx hl => by simp at hx; omega)
  clear hu hL2
  go_wp2_with fail
  refine (take_wait p 0 [⟨1, 0, 2, 0⟩] 2 3 _ hL3 (by simp) (by omega) (by omega) (by omega) rfl).mono ?_
  rintro e w4 ⟨rfl, hL4, hu⟩
  replace hL4 : LockP w4 p 0 [⟨1, 0, 2, 0⟩, ⟨2, 0, 3, 0⟩] := hL4
  replace hU : Upd [] w w4 := hU.trans hu (fun x hx hl => by simp at hx; omega)
  clear hu hL3
  go_wp2_with fail
  refine (take_twice p 0 [⟨1, 0, 2, 0⟩, ⟨2, 0, 3, 0⟩] 0 4 _ hL4 (by simp) (by omega) (.inl rfl)).mono ?_
  rintro e w5 ⟨rfl, hu⟩
  have hL5 := hL4.step hu
  replace hU : Upd [] w w5 := hU.trans0 hu
  clear hu hL4
  go_wp2_with fail
  refine (give_bad p 0 [⟨1, 0, 2, 0⟩, ⟨2, 0, 3, 0⟩] 1 _ _ hL5 (.inr (by omega))).mono ?_
  rintro e w5' ⟨rfl, rfl⟩
  have hL5a := hL5.step ((Upd.refl [] w5).alloc (.cells #[.int .i64 0, .int .i64 1, .int .i64 2] 3))
  have hpl := hL5.lt
  go_wp2_with fail
  refine (give_some p 0 [⟨1, 0, 2, 0⟩, ⟨2, 0, 3, 0⟩] 1 ⟨2, 0, 3, 0⟩ _ 3 [0, 1, 2] _ hL5a (by simp) (rd_lit [0, 1, 2] _ _ (by decide)) (fun k hk _ => by simp [Value.ownBlock] at hk; omega) (by simp) (by omega) (by decide) rfl).mono ?_
  rintro e w6 ⟨rfl, hL6, hu⟩
  replace hL6 : LockP w6 p 2 [⟨1, 0, 2, 0⟩] := hL6
  replace hU : Upd [] w w6 := (hU.alloc _).trans hu (fun x hx hl => by simp at hx; omega)
  clear hu hL5 hL5a
  go_wp2_with fail
  refine (give_some p 2 [⟨1, 0, 2, 0⟩] 0 ⟨1, 0, 2, 0⟩ none 0 [] _ hL6 (by simp) (Rd.nil _) (fun k hk _ => by simp [Value.ownBlock] at hk) (by simp) (by omega) (by decide) rfl).mono ?_
  rintro e w7 ⟨rfl, hL7, hu⟩
  replace hL7 : LockP w7 p 1 [] := hL7
  replace hU : Upd [] w w7 := hU.trans hu (fun x hx hl => by simp at hx; omega)
  clear hu hL6
  go_wp2_with fail
  refine (give_none p 1 none 0 [] _ hL7 (Rd.nil _) (fun k hk _ => by simp [Value.ownBlock] at hk) (by simp) (by omega)).mono ?_
  rintro e w8 ⟨rfl, hL8, hu⟩
  replace hU : Upd [] w w8 := hU.trans hu (fun x hx hl => by simp at hx; omega)
  clear hu hL7
  go_wp2_with fail
  refine (take_bad p (-1) [] (-1) 1 _ (by omega)).mono ?_
  rintro e w8' ⟨rfl, rfl⟩
  go_wp2_with fail
  refine (owner_any p (-1) [] _ hL8).mono ?_
  rintro e w8' ⟨rfl, rfl⟩
  go_wp2_with fail
  refine (waiters_any p (-1) [] _ hL8 (by simp)).mono ?_
  rintro e w9 ⟨a9, c9, rfl, hown, hu⟩
  replace hU : Upd [] w w9 := hU.trans0 hu
  simp only [List.length_nil]
  go_wp2
  go_ret
  exact ⟨rfl, hU⟩
end Go.Proofs.Ytjkacccmdccbnaa
