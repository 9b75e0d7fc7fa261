/- watchbilllaw15.known. -/
import Derived.Test.YthchclhleppdhaaChanWait
import Derived.Test.YthchclhleppdhaaSameK
namespace Go.Proofs.Ythchclhleppdhaa
set_option linter.unusedVariables false
set_option linter.unusedSimpArgs false
open Go.RowKit
def kx1 : Wt := ⟨1, 0, 1, 7⟩
def kx2 : Wt := ⟨2, 0, 2, 9⟩
theorem k15_best : bestTo [0, 1, 5] [kx1, kx2] 2 = some 1 := by decide
theorem k15_has : has2 [kx1] kx2 = false := by decide
theorem rdI_nil (w : World) : RdI w (.slice none ([] : List Int).length 0) [] := Rd.nil w
/-- A block of one woken, read. -/
theorem rdK_one {w : World} {g : Nat} {t : TypeId} {x : Wk} (h : w.heap[g]? = some (.cells #[.int .i64 x.task, .int .i64 x.case_, .int .i64 x.v, .int .i64 x.err] t (0, 0))) : RdK w (.slice (some ⟨g, 0, none⟩) [x].length 1) [x] := by
  refine ⟨_, 1, rfl, Nat.le_refl _, by unfold maxLen; omega, (fun h => by cases h), .inr ⟨_, _, rfl, fun j u hj => ?_⟩⟩
  simp only [List.flatMap_cons, List.flatMap_nil, List.append_nil, Wk.enc] at hj
  simp only [Nat.zero_add, World.cell?, h]
  simpa using hj
theorem rdK_new (w : World) (x : Wk) (t : TypeId) : RdK (w.alloc (.cells #[.int .i64 x.task, .int .i64 x.case_, .int .i64 x.v, .int .i64 x.err] t)) (.slice (some ⟨w.heap.size, 0, none⟩) [x].length 1) [x] := rdK_one (heap_alloc_new _ _)
set_option maxHeartbeats 16000000 in
set_option maxRecDepth 100000 in
theorem known15_ok (w : World) : Calls Try.prog 8 #[] w fun e w' => e = .returned (.bool true) ∧ Upd [] w w' := by
  go_enter Try.func8, Try.ntmps8
  go_wp2_with fail
  refine (chanNew_ok 0 (by decide) _).mono ?_
  rintro e w1 ⟨p, rp, c, rfl, hC, hu1, hp, hrp, hc⟩
  have HU1 := Lib.hid hu1
  have HC1 := Lib.hid hC
  clear hC hu1
  go_wp2_with fail
  refine (chanNew_bad 17 (by decide) _).mono ?_
  rintro e w2 ⟨rfl, rfl⟩
  go_wp2_with fail
  refine (chanSend_full p rp c 0 [] [] 5 none 0 0 _ HC1.out (by decide)).mono ?_
  rintro e w2 ⟨rfl, hu⟩
  have HC2 := Lib.hid (HC1.out.keep0 hu)
  have HU2 := Lib.hid (HU1.out.trans0 hu)
  clear hu HC1 HU1
  go_wp2_with fail
  refine (chanRecv_empty p rp c 0 [] none 0 0 _ HC2.out).mono ?_
  rintro e w3 ⟨rfl, hu⟩
  have HC3 := Lib.hid (HC2.out.keep0 hu)
  have HU3 := Lib.hid (HU2.out.trans0 hu)
  clear hu HC2 HU2
  go_wp2_with fail
  refine (chanWaitS_any p rp c 0 [] [] [] false kx1 _ HC3.out (by decide) (by decide)).mono ?_
  simp only [show has2 [] kx1 = false from by decide, Bool.false_eq_true, if_false]
  rintro e w4 ⟨rfl, hC, hu⟩
  have HC4 := Lib.hid (show ChanP w4 p rp c 0 [] [kx1] [] false from hC)
  have HU4 := Lib.hid (HU3.out.trans hu (fun x hx hl => by simp at hx; omega))
  clear hu hC HC3 HU3
  go_wp2_with fail
  refine (chanWaitS_any p rp c 0 [] [kx1] [] false kx2 _ HC4.out (by decide) (by decide)).mono ?_
  simp only [k15_has, Bool.false_eq_true, if_false]
  rintro e w5 ⟨rfl, hC, hu⟩
  have HC5 := Lib.hid (show ChanP w5 p rp c 0 [] [kx1, kx2] [] false from hC)
  have HU5 := Lib.hid (HU4.out.trans hu (fun x hx hl => by simp at hx; omega))
  clear hu hC HC4 HU4
  go_wp2_with fail
  refine (chanWaitR_state p rp c 0 [] [kx1, kx2] [] false ⟨3, 0, 3, 0⟩ _ HC5.out (by decide)).mono ?_
  rintro e w6 ⟨rfl, hu⟩
  have HC6 := Lib.hid (HC5.out.keep0 hu)
  have HU6 := Lib.hid (HU5.out.trans0 hu)
  clear hu HC5 HU5
  go_wp2_with fail
  have hps := rd_lit [0, 1, 5] w6 3 (by unfold maxLen; simp)
  refine (chanRecv_hand p rp c 0 [kx1, kx2] [] _ 3 [0, 1, 5] 1 kx2 _ (HC6.out.keep0 ((Upd.refl _ _).alloc _)) hps (by decide) (by decide) k15_best rfl).mono ?_
  rintro e w7 ⟨g7, rfl, hg7, h7, hC, hu⟩
  have hu' := ((Upd.refl [p] w6).alloc (.cells #[.int .i64 0, .int .i64 1, .int .i64 5] 3)).transS hu
  have HC7 := Lib.hid (show ChanP w7 p rp c 0 [] [kx1] [] false from hC)
  have HU7 := Lib.hid (HU6.out.trans hu' (fun x hx hl => by simp at hx; omega))
  have HK7 := Lib.hid (show RdK w7 (.slice (some ⟨g7, 0, none⟩) [(⟨2, 0, 9, 0⟩ : Wk)].length 1) [⟨2, 0, 9, 0⟩] from rdK_one h7)
  have hg7p : g7 ≠ p := by
    rintro rfl
    obtain ⟨_, _, _, _, h1, _⟩ := HC7.out.ch.ex
    rw [h7] at h1
    injection (Option.some.inj h1) with _ h2 _
    exact absurd h2 (by decide)
  clear hu hu' hC HC6 HU6 h7 hps
  go_wp2_with fail
  refine (chanClose_any p rp c 0 [] [kx1] [] none 0 [] _ HC7.out (rdI_nil _) (by decide) (by decide) (by decide)).mono ?_
  rintro e w8 ⟨a8, c8, M, L, rfl, hMp, hMR, hLp, hLR, ho8, hC, hu⟩
  obtain rfl : M = [] := List.eq_nil_of_length_eq_zero (by rw [hMp.length_eq]; rfl)
  obtain rfl : L = [0] := List.perm_singleton.1 hLp
  have HC8 := Lib.hid hC
  have HU8 := Lib.hid (HU7.out.trans hu (fun x hx hl => by simp at hx; omega))
  have HK8 := Lib.hid (HK7.out.keep hu (fun k hk _ => by simp [Value.ownBlock] at hk; subst hk; simpa using hg7p))
  have HX8 := Lib.hid (show RdK w8 (.slice a8 [(⟨1, 0, 0, 9⟩ : Wk)].length c8) [⟨1, 0, 0, 9⟩] from Rd.of_own ho8)
  have H88 := Lib.hid (Upd.refl [] w8)
  clear hu hC HC7 HU7 HK7 hMp hMR hLp hLR ho8
  go_wp2_with fail
  refine (chanClose_twice p rp c 0 [] [] [] none 0 0 _ HC8.out).mono ?_
  rintro e w9 ⟨rfl, hu⟩
  have HC9 := Lib.hid (HC8.out.keep0 hu)
  have H89 := Lib.hid (H88.out.trans0 hu)
  clear hu HC8 H88
  go_wp2_with fail
  refine (chanRecv_closed p rp c 0 [] [] none 0 0 _ HC9.out).mono ?_
  rintro e w10 ⟨rfl, hu⟩
  have HC10 := Lib.hid (HC9.out.keep0 hu)
  have H810 := Lib.hid (H89.out.trans0 hu)
  clear hu HC9 H89
  go_wp2_with fail
  refine (chanSend_closed p rp c 0 [] [] [] 1 none 0 0 _ HC10.out).mono ?_
  rintro e w11 ⟨rfl, hu⟩
  have HC11 := Lib.hid (HC10.out.keep0 hu)
  have H811 := Lib.hid (H810.out.trans0 hu)
  clear hu HC10 H810
  go_wp2_with fail
  refine (sameWoken_any (some ⟨g7, 0, none⟩) _ 1 1 [⟨2, 0, 9, 0⟩] _ ((HK8.out.keep0 H811.out).keep0 ((Upd.refl _ _).alloc _)) (rdK_new w11 ⟨2, 0, 9, 0⟩ _) (by decide)).mono ?_
  rintro e w12 ⟨rfl, hu⟩
  have H12 := Lib.hid (((Upd.refl [] w11).alloc (.cells #[.int .i64 2, .int .i64 0, .int .i64 9, .int .i64 0] 71)).trans0 hu)
  clear hu
  go_wp2_with fail
  refine (sameWoken_any a8 _ c8 1 [⟨1, 0, 0, 9⟩] _ (((HX8.out.keep0 H811.out).keep0 H12.out).keep0 ((Upd.refl _ _).alloc _)) (rdK_new w12 ⟨1, 0, 0, 9⟩ _) (by decide)).mono ?_
  rintro e w13 ⟨rfl, hu⟩
  have H13 := Lib.hid (H12.out.trans0 (((Upd.refl [] w12).alloc (.cells #[.int .i64 1, .int .i64 0, .int .i64 0, .int .i64 9] 71)).trans0 hu))
  have HC13 := Lib.hid (HC11.out.keep0 H13.out)
  clear hu
  go_wp2_with fail
  refine (canSend_any p rp c 0 [] [] [] true _ HC13.out).mono ?_
  rintro e w14 ⟨rfl, hu⟩
  have H14 := Lib.hid (H13.out.trans0 hu)
  have HC14 := Lib.hid (HC13.out.keep0 hu)
  clear hu
  simp only [canS, Bool.true_or]
  go_wp2_with fail
  refine (canRecv_any p rp c 0 [] [] [] true _ HC14.out).mono ?_
  rintro e w15 ⟨rfl, hu⟩
  have H15 := Lib.hid (H14.out.trans0 hu)
  have HC15 := Lib.hid (HC14.out.keep0 hu)
  clear hu
  simp only [canR, Bool.true_or]
  go_wp2_with fail
  refine (chanClosed_any p rp c 0 [] [] [] true _ HC15.out).mono ?_
  rintro e w16 ⟨rfl, rfl⟩
  go_wp2
  go_ret
  exact ⟨rfl, (HU8.out.trans0 H811.out).trans0 H15.out⟩
end Go.Proofs.Ythchclhleppdhaa
