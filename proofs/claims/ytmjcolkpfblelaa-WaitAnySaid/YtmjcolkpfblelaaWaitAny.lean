/- Any queue, any priorities: who is best, in which order they go, who is left without one: the walk. -/
import Derived.Test.YtmjcolkpfblelaaRefOrder
namespace Go.Proofs.Ytmjcolkpfblelaa
set_option linter.unusedVariables false
set_option linter.unusedSimpArgs false
open Go.RowKit
theorem keep_leave (q : List Wt) (t : Int) : keepW (isT t) q = leave q t := by
  unfold keepW leave isT
  rfl
theorem leave_none (q : List Wt) (t : Int) : (leave q t).any (fun x => x.task == t) = false := by
  rw [List.any_eq_false]
  intro x hx
  have := (List.mem_filter.1 hx).2
  simpa using this
set_option maxHeartbeats 16000000 in
set_option maxRecDepth 100000 in
theorem waitAny_walk (a : Option Addr) (cap : Nat) (q : List Wt) (ap : Option Addr) (cp : Nat) (ps : List Int) (t : Int) (w : World) (hq : Rd w (.slice a q.length cap) q.length (q.flatMap Wt.enc)) (_ : ∀ x ∈ q, True) (hp : Rd w (.slice ap ps.length cp) ps.length (ps.map (Value.int .i64))) (_ : ∀ n ∈ ps, (Lit.int .i64 n).wf = true) (_ : (Lit.int .i64 t).wf = true) :
    Calls Try.prog 3 #[.slice a q.length cap, .slice ap ps.length cp, .int .i64 t] w fun e w' => e = .returned (.bool true) ∧ Upd [] w w' := by
  have HQ := Lib.hid (fun W (hW : Upd [] w W) => hq.keep0 hW)
  have HP := Lib.hid (fun W (hW : Upd [] w W) => hp.keep0 hW)
  clear hq hp
  by_cases hbig : 60 < q.length
  · have hd0 : decide (60 < (q.length : Int)) = true := decide_eq_true (by omega)
    go_enter Try.func3, Try.ntmps3
    go_wp2_with fail
    refine (known14_ok _).mono ?_
    rintro e w1 ⟨rfl, hU⟩
    go_wp2
    go_ret
    exact ⟨rfl, hU⟩
  have hd0 : decide (60 < (q.length : Int)) = false := decide_eq_false (by omega)
  by_cases hbig2 : 60 < ps.length
  · have hd1 : decide (60 < (ps.length : Int)) = true := decide_eq_true (by omega)
    go_enter Try.func3, Try.ntmps3
    go_wp2_with fail
    refine (known14_ok _).mono ?_
    rintro e w1 ⟨rfl, hU⟩
    go_wp2
    go_ret
    exact ⟨rfl, hU⟩
  have hd1 : decide (60 < (ps.length : Int)) = false := decide_eq_false (by omega)
  go_enter Try.func3, Try.ntmps3
  go_wp2_with fail
  refine (known14_ok _).mono ?_
  rintro e w1 ⟨rfl, hU⟩
  have HU := Lib.hid hU
  clear hU
  go_wp2_with fail
  refine (to_any a cap q _ (HQ.out _ HU.out) (by omega)).mono ?_
  rintro e w2 ⟨a2, c2, rfl, ho2, hu2⟩
  have HU2 := Lib.hid (HU.out.trans0 hu2)
  have HR2 := Lib.hid (fun W (hW : Upd [] w2 W) => (Rd.of_own ho2).keep0 hW)
  have h00 := Lib.hid (Upd.refl [] w2)
  clear ho2 hu2
  go_wp2_with fail
  refine (without_any a2 c2 q t _ (HR2.out _ h00.out) (by omega)).mono ?_
  rintro e w3 ⟨a3, c3, rfl, ho3, hu3⟩
  rw [keep_leave] at ho3 ⊢
  have HL3 := Lib.hid (show (leave q t).any (fun x => x.task == t) = false from leave_none q t)
  have hlq := leave_len q t
  obtain ⟨L, hL⟩ : ∃ L, L = leave q t := ⟨_, rfl⟩
  have HL := Lib.hid hL
  rw [← hL] at ho3 HL3 hlq ⊢
  have HU3 := Lib.hid (HU2.out.trans0 hu3)
  have hu23 := Lib.hid (h00.out.trans0 hu3)
  have HR3 := Lib.hid (fun W (hW : Upd [] w3 W) => (Rd.of_own ho3).keep0 hW)
  have H3 := Lib.hid (Upd.refl [] w3)
  clear ho3 hu3 h00 hL
  go_wp2_with fail
  refine (best_any a2 ap c2 cp q ps _ (HR2.out _ hu23.out) (HP.out _ HU3.out) (by omega) (by omega)).mono ?_
  rintro e w4 ⟨rfl, hu4⟩
  have HU4 := Lib.hid (HU3.out.trans0 hu4)
  have hu24 := Lib.hid (hu23.out.trans0 hu4)
  have hu34 := Lib.hid (H3.out.trans0 hu4)
  clear hu4 hu23 H3
  go_wp2_with fail
  refine (best21_any a ap cap cp q ps _ (HQ.out _ HU4.out) (HP.out _ HU4.out) (by omega) (by omega)).mono ?_
  rintro e w5 ⟨rfl, hu5⟩
  have HU5 := Lib.hid (HU4.out.trans0 hu5)
  have hu25 := Lib.hid (hu24.out.trans0 hu5)
  have hu35 := Lib.hid (hu34.out.trans0 hu5)
  generalize optI (bestTo ps q q.length) = bst
  have eb : (bst == bst) = true := by simp
  clear hu5 hu24 hu34
  go_wp2_with fail
  refine (without21_any a cap q t _ (HQ.out _ HU5.out) (by omega)).mono ?_
  rw [← HL.out]
  rintro e w6 ⟨a6, c6, rfl, ho6, hu6⟩
  have HU6 := Lib.hid (HU5.out.trans0 hu6)
  have hu26 := Lib.hid (hu25.out.trans0 hu6)
  have hu36 := Lib.hid (hu35.out.trans0 hu6)
  have HR6 := Lib.hid (Rd.of_own ho6)
  clear hu6 hu25 hu35 ho6
  go_wp2_with fail
  refine (same_any a3 a6 c3 c6 L _ (HR3.out _ hu36.out) HR6.out (by omega)).mono ?_
  rintro e w7 ⟨rfl, hu7⟩
  have HU7 := Lib.hid (HU6.out.trans0 hu7)
  have hu27 := Lib.hid (hu26.out.trans0 hu7)
  have hu37 := Lib.hid (hu36.out.trans0 hu7)
  clear hu7 hu26 hu36 HR6
  go_wp2_with fail
  refine (has_any a2 c2 q t _ (HR2.out _ hu27.out) (by omega)).mono ?_
  rintro e w8 ⟨rfl, hu8⟩
  have HU8 := Lib.hid (HU7.out.trans0 hu8)
  have hu28 := Lib.hid (hu27.out.trans0 hu8)
  have hu38 := Lib.hid (hu37.out.trans0 hu8)
  clear hu8 hu27 hu37
  go_wp2_with fail
  refine (has21_any a cap q t _ (HQ.out _ HU8.out) (by omega)).mono ?_
  rintro e w9 ⟨rfl, hu9⟩
  have HU9 := Lib.hid (HU8.out.trans0 hu9)
  have hu29 := Lib.hid (hu28.out.trans0 hu9)
  have hu39 := Lib.hid (hu38.out.trans0 hu9)
  generalize (q.any fun x => x.task == t) = hsb
  have eh : (hsb == hsb) = true := by simp
  clear hu9 hu28 hu38
  go_wp2_with fail
  refine (has_any a3 c3 L t _ (HR3.out _ hu39.out) (by omega)).mono ?_
  rw [HL3.out]
  rintro e w10 ⟨rfl, hu10⟩
  have HU10 := Lib.hid (HU9.out.trans0 hu10)
  have hu210 := Lib.hid (hu29.out.trans0 hu10)
  clear hu10 hu29 hu39
  go_wp2_with fail
  refine (order_all a2 ap c2 cp q ps _ (HR2.out _ hu210.out) (HP.out _ HU10.out) (by omega) (by omega)).mono ?_
  rintro e w11 ⟨a11, c11, M, rfl, hMp, hMR, hr11, _, hu11⟩
  have HU11 := Lib.hid (HU10.out.trans0 hu11)
  have HR11 := Lib.hid (fun W (hW : Upd [] w11 W) => hr11.keep0 hW)
  have hml : M.length = q.length := by rw [hMp.length_eq]; simp
  have HML := Lib.hid hml
  have HO21 := Lib.hid (fun W (hW : Upd [] w W) => order21_any a ap cap cp q ps W (HQ.out _ hW) (HP.out _ hW) (by omega) (by omega) M hMp hMR)
  clear hu11 hu210 hMp hMR hr11 hml
  go_wp2_with fail
  refine (HO21.out _ HU11.out).mono ?_
  rintro e w12 ⟨a12, c12, rfl, hr12, hu12⟩
  have HU12 := Lib.hid (HU11.out.trans0 hu12)
  have HINT : Hid (Calls Try.prog 16 #[.slice a11 q.length c11, .slice a12 q.length c12] w12 fun e w' => e = .returned (.bool true) ∧ Upd [] w w') := Lib.hid (by
    have e1 : (M.map fun j : Nat => Value.int .i64 j) = (M.map fun j : Nat => (j : Int)).map (Value.int .i64) := by simp [List.map_map, Function.comp_def]
    have e2 : (M.map fun j : Nat => (j : Int)).length = q.length := by rw [List.length_map]; exact HML.out
    have h1 := HR11.out _ hu12
    have h2 := hr12
    rw [e1] at h1 h2
    have h := ints_eq a11 a12 c11 c12 (M.map fun j : Nat => (j : Int)) w12 (by rw [e2]; exact h1) (by rw [e2]; exact h2) (by omega)
    rw [e2] at h
    refine h.mono ?_
    rintro e w' ⟨rfl, n, rfl⟩
    exact ⟨rfl, HU12.out.drewN n⟩)
  clear hr12 hu12
  go_wp2_with fail
  refine HINT.out.mono ?_
  rintro e w13 ⟨rfl, hu13⟩
  go_wp2
  go_ret
  exact ⟨rfl, hu13⟩
end Go.Proofs.Ytmjcolkpfblelaa
