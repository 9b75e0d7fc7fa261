/- Closed, a channel still tells what it has; all that waited are woken: the walk. -/
import Derived.Test.YthchclhleppdhaaChanRow
import Derived.Test.YthchclhleppdhaaChanKnown
namespace Go.Proofs.Ythchclhleppdhaa
set_option linter.unusedVariables false
set_option linter.unusedSimpArgs false
open Go.RowKit
def mkD (i : Nat) : Wt := ⟨i, 0, -(i : Int), 0⟩
theorem rowD_has2 (n m : Nat) (h : n ≤ m) : has2 (rowF mkD n (fun _ => true)) (mkD m) = false := by
  unfold has2
  rw [List.any_eq_false]
  intro x hx
  obtain ⟨j, hj, _, rfl⟩ := mem_rowF.1 hx
  simp [mkD]
  omega
theorem rowD_at {n i : Nat} (h : i < n) : wAt (rowF mkD n (fun _ => true)) i = mkD i := by
  have h1 := wAt_get (q := rowF mkD n (fun _ => true)) (x := i) (by rw [rowF_all_len]; exact h)
  have h2 : (rowF mkD n (fun _ => true))[i]? = some (mkD i) := by
    unfold rowF
    rw [List.filter_eq_self.2 (fun _ _ => rfl)]
    simp [h]
  rw [h2] at h1
  exact (Option.some.inj h1).symm
theorem desc_eq : ∀ (n : Nat) (L : List Nat), L.Perm (List.range n) → L.Pairwise (fun x y => y < x) → L = (List.range n).reverse
  | 0, L, hp, _ => by
    have : L = [] := List.eq_nil_of_length_eq_zero (by rw [hp.length_eq]; rfl)
    rw [this]
    rfl
  | n + 1, L, hp, hR => by
    have hn : n ∈ L := hp.mem_iff.2 (by simp)
    cases L with
    | nil => simp at hn
    | cons a L =>
      have ha : a < n + 1 := List.mem_range.1 (hp.mem_iff.1 (by simp))
      have han : a = n := by
        rcases List.mem_cons.1 hn with h | h
        · exact h.symm
        · have := (List.pairwise_cons.1 hR).1 n h
          omega
      subst han
      rw [List.range_succ] at hp
      have hp2 : (a :: L).Perm (a :: List.range a) := hp.trans (List.perm_append_singleton a _)
      have ih := desc_eq a L hp2.cons_inv (List.pairwise_cons.1 hR).2
      rw [ih, List.range_succ, List.reverse_append]
      rfl
theorem prioOf_nilW (t : Int) : prioOf [] t = 0 := by
  unfold prioOf
  split
  · rfl
  · simp
/-- Those woken by a close, who came last ahead. -/
def rowW (n : Nat) : List Wk := (List.range n).map fun i => ⟨((n - 1 - i : Nat) : Int), 0, 0, 9⟩
theorem rowW_len (n : Nat) : (rowW n).length = n := by simp [rowW]
theorem woken_eq (n : Nat) (L : List Nat) (hp : L.Perm (List.range n)) (hR : L.Pairwise (goesW (rowF mkD n (fun _ => true)) [])) : L.map (wkOf (rowF mkD n (fun _ => true))) = rowW n := by
  have hm : ∀ x ∈ L, x < n := fun x hx => List.mem_range.1 (hp.mem_iff.1 hx)
  have hR2 : L.Pairwise (fun x y => y < x) := by
    refine hR.imp_of_mem ?_
    intro x y hx hy h
    unfold goesW at h
    rw [rowD_at (hm x hx), rowD_at (hm y hy)] at h
    simp only [mkD, prioOf_nilW] at h
    omega
  have hL := desc_eq n L hp hR2
  rw [hL]
  unfold rowW
  apply List.ext_getElem
  · simp
  · intro i h1 h2
    simp only [List.length_map, List.length_range] at h2
    simp only [List.getElem_map, List.getElem_reverse, List.getElem_range, List.length_range, wkOf]
    rw [rowD_at (by omega)]
    rfl
theorem take_snoc_D {xs : List Int} {k : Nat} (hk : k < xs.length) : xs.take (k + 1) = xs.take k ++ [xs.getD k 0] := by
  rw [List.take_succ_eq_append_getElem hk]
  simp [List.getD, hk]
theorem drop_cons_D {P : List Int} {k : Nat} (h : k < P.length) : P.drop k = P.getD k 0 :: P.drop (k + 1) := by
  rw [List.drop_eq_getElem_cons h]
  simp [List.getD, h]
set_option maxHeartbeats 16000000 in
set_option maxRecDepth 100000 in
theorem chanCloses_S (a : Option Addr) (cap : Nat) (xs : List Int) (u : Int) (w : World) (hr : Rd w (.slice a xs.length cap) xs.length (xs.map (Value.int .i64))) (hu0 : 0 ≤ u) (hu1 : u ≤ 255) (hml : xs.length ≤ 16) (hsc : xs.length = 16) :
    Calls Try.prog 4 #[.slice a xs.length cap, .int .u8 u] w fun e w' => e = .returned (.bool true) ∧ Upd [] w w' := by
  obtain ⟨m, hm⟩ : ∃ m, m = xs.length := ⟨_, rfl⟩
  have HRD := Lib.hid hr
  have HM := Lib.hid hm
  rw [← hm] at hml hsc ⊢
  have hd0 : decide (16 < (m : Int)) = false := decide_eq_false (by omega)
  have e16 : ((m : Int) == 16) = true := by simp; omega
  have e0 : ((m : Int) == 0) = false := by simp; omega
  obtain ⟨k, hk⟩ : ∃ k : Nat, k = (u % 9).toNat := ⟨_, rfl⟩
  have hk1 : u % 9 = (k : Int) := by omega
  have hk2 : u.tmod 9 = (k : Int) := by rw [Int.tmod_eq_emod_of_nonneg hu0]; exact hk1
  have hk8 : k ≤ 8 := by omega
  have HSC := Lib.hid hsc
  clear hr hm hk hsc
  go_enter Try.func4, Try.ntmps4
  go_wp2_with fail
  refine (known15_ok _).mono ?_
  rintro e w1 ⟨rfl, hU1⟩
  go_wp2_with fail
  refine (chanNew_ok 16 (by decide) _).mono ?_
  rintro e w2 ⟨p, rp, c, rfl, hC, hu2, hp2, hrp2, hc2⟩
  have hU2 := hU1.trans0 hu2
  have hwp : w.heap.size ≤ p := Nat.le_trans hU1.size hp2
  have hwc : w.heap.size ≤ c := Nat.le_trans hU1.size hc2
  have HU := Lib.hid hU2
  have HC := Lib.hid hC
  clear hC hu2 hU1 hU2 hp2 hrp2 hc2
  go_wp2
  go_loopw [7] (fun iv wr => ∃ (j : Nat), iv = .int .i64 j ∧ j ≤ m ∧ Hid (ChanP wr p rp c 16 (xs.take j) [] [] false) ∧ Hid (Upd [] w wr)) (fun iv _ => m - (intOf iv).toNat)
  case atStart => exact ⟨0, rfl, Nat.zero_le _, HC, HU⟩
  case round =>
    clear HC HU
    obtain ⟨j, rfl, hj, HC, HU⟩ := hrel
    by_cases hlt : j < m
    · have hjl : j < xs.length := by rw [← HM.out]; exact hlt
      have hnext := take_snoc_D hjl
      have hc := get_ints hjl
      generalize xs.getD j 0 = v at hc hnext
      obtain ⟨b', off, rfl, hcell⟩ := HRD.out.at (by omega)
      have gw := HU.out.cell (hcell j _ hc) (by simp)
      have hj0 : (0 : Int) ≤ (j : Int) := by omega
      have hj1 : (j : Int) < (m : Int) := by omega
      have HN := Lib.hid hnext
      clear hcell hc hnext
      go_wp2_with fail
      refine (chanSend_push p rp c 16 (xs.take j) [] v none 0 0 _ HC.out (by rw [List.length_take]; omega)).mono ?_
      rintro e w3 ⟨rfl, hC3, hu3⟩
      rw [← HN.out] at hC3
      have HC3 := Lib.hid hC3
      have HU3 := Lib.hid (HU.out.fresh hu3.pc2 hwp hwc)
      clear hC3 hu3 gw
      go_wp2
      go_roundw
      case rel => exact ⟨j + 1, by go_num, by omega, HC3, HU3⟩
      case measure => simp [intOf]; omega
    · obtain rfl : j = m := by omega
      have hC := HC.out
      rw [List.take_of_length_le (by rw [← HM.out]; exact Nat.le_refl _)] at hC
      have HC0 := Lib.hid hC
      clear hC HC
      go_wp2
      go_loopw [10] (fun iv wr => ∃ (i : Nat), iv = .int .i64 i ∧ i ≤ k ∧ Hid (ChanP wr p rp c 16 xs (rowF mkD i (fun _ => true)) [] false) ∧ Hid (Upd [] w wr)) (fun iv _ => k - (intOf iv).toNat)
      case atStart => exact ⟨0, rfl, Nat.zero_le _, HC0, HU⟩
      case round =>
        clear HC0 HU
        obtain ⟨i, rfl, hi, HC, HU⟩ := hrel
        by_cases hlt : i < k
        · have hd1 : decide ((i : Int) < (k : Int)) = true := decide_eq_true (by omega)
          have hd2 : decide (i < k) = true := decide_eq_true hlt
          have wn : IntKind.i64.wrap (0 - (i : Int)) = -(i : Int) := by rw [IntWalk.i64_in _ (by omega)]; omega
          have wn2 : IntKind.i64.wrap (-(i : Int)) = -(i : Int) := by rw [IntWalk.i64_in _ (by omega)]
          have hno := rowD_has2 i i (Nat.le_refl i)
          have HNO := Lib.hid hno
          clear hno
          go_wp2_with fail
          refine (chanWaitS_any p rp c 16 xs ((rowF mkD i (fun _ => true))) [] false (mkD i) _ HC.out (by have h1 := HM.out; have h2 := HSC.out; simp [canS]; omega) (by rw [rowF_all_len]; omega)).mono ?_
          simp only [HNO.out, Bool.false_eq_true, if_false]
          rintro e w4 ⟨rfl, hC4, hu4⟩
          rw [← rowF_all_succ] at hC4
          have HC4 := Lib.hid hC4
          have HU4 := Lib.hid (HU.out.fresh hu4.pc1 hwp hwc)
          clear hC4 hu4
          go_wp2
          go_roundw
          case rel => exact ⟨i + 1, by go_num, by omega, HC4, HU4⟩
          case measure => simp [intOf]; omega
        · obtain rfl : i = k := by omega
          have hd1 : decide ((i : Int) < (i : Int)) = false := decide_eq_false (by omega)
          have hd2 : decide (i < i) = false := decide_eq_false hlt
          have HCL : Hid (∀ W, Upd [] w W → ChanP W p rp c 16 xs ((rowF mkD i (fun _ => true))) [] false → Calls Try.prog 15 #[.pointer (some ⟨p, 0, none⟩), .slice none 0 0] W fun e w' => ∃ (a' : Option Addr) (c' : Nat), e = .returned (.tuple #[.slice a' i c', .int .i64 0]) ∧ RdK w' (.slice a' i c') (rowW i) ∧ ChanP w' p rp c 16 xs [] [] true ∧ Upd [] w w') := Lib.hid (fun W hW hC => by
            refine (chanClose_any p rp c 16 xs ((rowF mkD i (fun _ => true))) [] none 0 [] W hC (rdI_nil _) (by decide) (by first | decide | (rw [rowF_all_len]; omega)) (by first | decide | (rw [rowF_all_len]; omega))).mono ?_
            rintro e w' ⟨a', c', M, L, rfl, hMp, hMR, hLp, hLR, ho, hC', hu⟩
            obtain rfl : M = [] := List.eq_nil_of_length_eq_zero (by rw [hMp.length_eq]; rfl)
            rw [rowF_all_len] at hLp
            have hwe := woken_eq i L hLp hLR
            rw [List.map_nil, List.nil_append, hwe, rowF_all_len, List.length_nil, Nat.zero_add] at ho
            rw [rowF_all_len, List.length_nil, Nat.zero_add]

            exact ⟨a', c', rfl, by have h := Rd.of_own ho; show Rd _ _ (rowW i).length _; rw [rowW_len]; exact h, hC', hW.fresh hu.pc1 hwp hwc⟩)
          clear hlt hi
          go_wp2_with fail
          refine (HCL.out _ HU.out HC.out).mono ?_
          rintro e w5 ⟨a5, c5, rfl, hK5, hC5, hU5⟩
          have HC5 := Lib.hid hC5
          have HU5 := Lib.hid hU5
          have HK5 := Lib.hid (fun W (hW : Upd [] w5 W) => hK5.keep0 hW)
          clear hC5 hU5 hK5 HCL HC HU
          go_wp2_with fail
          refine (chanClosed_any p rp c 16 xs [] [] true _ HC5.out).mono ?_
          rintro e w6 ⟨rfl, rfl⟩
          go_wp2_with fail
          refine (chanSenders_any p rp c 16 xs [] [] true _ HC5.out (by decide)).mono ?_
          rintro e w6 ⟨a6, c6, rfl, _, hu6⟩
          have HC6 := Lib.hid (HC5.out.keep0 hu6)
          have HU56 := Lib.hid hu6
          clear hu6
          go_wp2_with fail
          refine (chanReceivers_any p rp c 16 xs [] [] true _ HC6.out (by decide)).mono ?_
          rintro e w7 ⟨a7, c7, rfl, _, hu7⟩
          have HC7 := Lib.hid (HC6.out.keep0 hu7)
          have HU57 := Lib.hid (HU56.out.trans0 hu7)
          have HU7 := Lib.hid (HU5.out.trans0 HU57.out)
          clear hu7 HU56 HC6 HC5
          go_wp2
          go_loopw [13] (fun iv wr => ∃ (z : Nat), iv = .int .i64 z ∧ z ≤ i ∧ Hid (Upd [] w7 wr)) (fun iv _ => i - (intOf iv).toNat)
          case atStart => exact ⟨0, rfl, Nat.zero_le _, Lib.hid (Upd.refl _ _)⟩
          case round =>
            obtain ⟨z, rfl, hz, HU⟩ := hrel
            by_cases hlt : z < i
            · have hkz : (rowW i)[z]? = some ⟨((i - 1 - z : Nat) : Int), 0, 0, 9⟩ := by simp [rowW, hlt]
              have hrk := HK5.out _ (HU57.out.trans0 HU.out)
              rw [← rowW_len i] at hrk
              obtain ⟨b', off, hbe, y0, y1, y2, y3⟩ := RdK.cells (by rw [rowW_len] at hrk ⊢; exact hrk) hkz
              subst hbe
              obtain ⟨t, ht⟩ : ∃ t, t = i - 1 - z := ⟨_, rfl⟩
              rw [← ht] at y0
              have z0 : (0 : Int) ≤ (z : Int) := by omega
              have z1 : (z : Int) < (i : Int) := by omega
              obtain ⟨i1, hi1⟩ : ∃ i1, i1 = i - 1 := ⟨_, rfl⟩
              have wk1 : IntKind.i64.wrap ((i : Int) - 1) = (i1 : Int) := by rw [IntWalk.i64_in _ (by omega)]; omega
              have wk2 : IntKind.i64.wrap ((i1 : Int) - (z : Int)) = (t : Int) := by rw [IntWalk.i64_in _ (by omega)]; omega
              clear hrk hkz ht hi1
              go_wp2
              go_roundw
              case rel => exact ⟨z + 1, by go_num, by omega, HU⟩
              case measure => simp [intOf]; omega
            · obtain rfl : z = i := by omega
              have HC8 := Lib.hid (HC7.out.keep0 HU.out)
              have HU8 := Lib.hid (HU7.out.trans0 HU.out)
              clear HU
              go_wp2
              go_loopw [14] (fun iv wr => ∃ (q : Nat), iv = .int .i64 q ∧ q ≤ j ∧ Hid (ChanP wr p rp c 16 (xs.drop q) [] [] true) ∧ Hid (Upd [] w wr)) (fun iv _ => j - (intOf iv).toNat)
              case atStart => exact ⟨0, rfl, Nat.zero_le _, HC8, HU8⟩
              case round =>
                clear HC8 HU8
                obtain ⟨q, rfl, hq, HC, HU⟩ := hrel
                by_cases hlt : q < j
                · have hql : q < xs.length := by rw [← HM.out]; exact hlt
                  have hnext := drop_cons_D hql
                  have hc := get_ints hql
                  have hC := HC.out
                  rw [hnext] at hC
                  generalize xs.getD q 0 = v at hc hC
                  obtain ⟨b', off, rfl, hcell⟩ := HRD.out.at (by omega)
                  have gw := hcell q _ hc
                  have GW := Lib.hid gw
                  have hq0 : (0 : Int) ≤ (q : Int) := by omega
                  have hq1 : (q : Int) < (j : Int) := by omega
                  have HC' := Lib.hid hC
                  clear hcell hc hnext hC gw
                  go_wp2_with fail
                  refine (chanRecv_val p rp c 16 v (xs.drop (q + 1)) [] true none 0 0 _ HC'.out).mono ?_
                  rintro e w9 ⟨rfl, hC9, hu9⟩
                  have HC9 := Lib.hid hC9
                  have HU9 := Lib.hid (HU.out.fresh hu9.pc2 hwp hwc)
                  have g9 := HU9.out.cell GW.out (by simp)
                  clear hC9 hu9
                  go_wp2
                  go_roundw
                  case rel => exact ⟨q + 1, by go_num, by omega, HC9, HU9⟩
                  case measure => simp [intOf]; omega
                · obtain rfl : q = j := by omega
                  have hC := HC.out
                  rw [List.drop_of_length_le (by rw [← HM.out]; exact Nat.le_refl _)] at hC
                  have HC' := Lib.hid hC
                  clear hC
                  go_wp2_with fail
                  refine (chanRecv_closed p rp c 16 [] [] none 0 0 _ HC'.out).mono ?_
                  rintro e w10 ⟨rfl, hu10⟩
                  have HC10 := Lib.hid (HC'.out.keep0 hu10)
                  have HU10 := Lib.hid (HU.out.trans0 hu10)
                  clear hu10
                  go_wp2_with fail
                  refine (chanClose_twice p rp c 16 [] [] [] none 0 0 _ HC10.out).mono ?_
                  rintro e w11 ⟨rfl, hu11⟩
                  go_wp2
                  go_ret
                  exact ⟨rfl, HU10.out.trans0 hu11⟩
set_option maxHeartbeats 16000000 in
set_option maxRecDepth 100000 in
theorem chanCloses_R (a : Option Addr) (cap : Nat) (xs : List Int) (u : Int) (w : World) (hr : Rd w (.slice a xs.length cap) xs.length (xs.map (Value.int .i64))) (hu0 : 0 ≤ u) (hu1 : u ≤ 255) (hml : xs.length ≤ 16) (hsc : xs.length = 0) :
    Calls Try.prog 4 #[.slice a xs.length cap, .int .u8 u] w fun e w' => e = .returned (.bool true) ∧ Upd [] w w' := by
  obtain ⟨m, hm⟩ : ∃ m, m = xs.length := ⟨_, rfl⟩
  have HRD := Lib.hid hr
  have HM := Lib.hid hm
  rw [← hm] at hml hsc ⊢
  have hd0 : decide (16 < (m : Int)) = false := decide_eq_false (by omega)
  have e16 : ((m : Int) == 16) = false := by simp; omega
  have e0 : ((m : Int) == 0) = true := by simp; omega
  obtain ⟨k, hk⟩ : ∃ k : Nat, k = (u % 9).toNat := ⟨_, rfl⟩
  have hk1 : u % 9 = (k : Int) := by omega
  have hk2 : u.tmod 9 = (k : Int) := by rw [Int.tmod_eq_emod_of_nonneg hu0]; exact hk1
  have hk8 : k ≤ 8 := by omega
  have HSC := Lib.hid hsc
  clear hr hm hk hsc
  go_enter Try.func4, Try.ntmps4
  go_wp2_with fail
  refine (known15_ok _).mono ?_
  rintro e w1 ⟨rfl, hU1⟩
  go_wp2_with fail
  refine (chanNew_ok 16 (by decide) _).mono ?_
  rintro e w2 ⟨p, rp, c, rfl, hC, hu2, hp2, hrp2, hc2⟩
  have hU2 := hU1.trans0 hu2
  have hwp : w.heap.size ≤ p := Nat.le_trans hU1.size hp2
  have hwc : w.heap.size ≤ c := Nat.le_trans hU1.size hc2
  have HU := Lib.hid hU2
  have HC := Lib.hid hC
  clear hC hu2 hU1 hU2 hp2 hrp2 hc2
  go_wp2
  go_loopw [7] (fun iv wr => ∃ (j : Nat), iv = .int .i64 j ∧ j ≤ m ∧ Hid (ChanP wr p rp c 16 (xs.take j) [] [] false) ∧ Hid (Upd [] w wr)) (fun iv _ => m - (intOf iv).toNat)
  case atStart => exact ⟨0, rfl, Nat.zero_le _, HC, HU⟩
  case round =>
    clear HC HU
    obtain ⟨j, rfl, hj, HC, HU⟩ := hrel
    by_cases hlt : j < m
    · exfalso; have := HSC.out; omega
    · obtain rfl : j = m := by omega
      have hC := HC.out
      rw [List.take_of_length_le (by rw [← HM.out]; exact Nat.le_refl _)] at hC
      have HC0 := Lib.hid hC
      clear hC HC
      go_wp2
      go_loopw [10] (fun iv wr => ∃ (i : Nat), iv = .int .i64 i ∧ i ≤ k ∧ Hid (ChanP wr p rp c 16 xs [] (rowF mkD i (fun _ => true)) false) ∧ Hid (Upd [] w wr)) (fun iv _ => k - (intOf iv).toNat)
      case atStart => exact ⟨0, rfl, Nat.zero_le _, HC0, HU⟩
      case round =>
        clear HC0 HU
        obtain ⟨i, rfl, hi, HC, HU⟩ := hrel
        by_cases hlt : i < k
        · have hd1 : decide ((i : Int) < (k : Int)) = true := decide_eq_true (by omega)
          have hd2 : decide (i < k) = true := decide_eq_true hlt
          have wn : IntKind.i64.wrap (0 - (i : Int)) = -(i : Int) := by rw [IntWalk.i64_in _ (by omega)]; omega
          have wn2 : IntKind.i64.wrap (-(i : Int)) = -(i : Int) := by rw [IntWalk.i64_in _ (by omega)]
          have hno := rowD_has2 i i (Nat.le_refl i)
          have HNO := Lib.hid hno
          clear hno
          go_wp2_with fail
          refine (chanWaitR_any p rp c 16 xs [] ((rowF mkD i (fun _ => true))) false (mkD i) _ HC.out (by have h1 := HM.out; have h2 := HSC.out; simp [canR]; exact List.eq_nil_of_length_eq_zero (by omega)) (by rw [rowF_all_len]; omega)).mono ?_
          simp only [HNO.out, Bool.false_eq_true, if_false]
          rintro e w4 ⟨rfl, hC4, hu4⟩
          rw [← rowF_all_succ] at hC4
          have HC4 := Lib.hid hC4
          have HU4 := Lib.hid (HU.out.fresh hu4.pc1 hwp hwc)
          clear hC4 hu4
          go_wp2
          go_roundw
          case rel => exact ⟨i + 1, by go_num, by omega, HC4, HU4⟩
          case measure => simp [intOf]; omega
        · obtain rfl : i = k := by omega
          have hd1 : decide ((i : Int) < (i : Int)) = false := decide_eq_false (by omega)
          have hd2 : decide (i < i) = false := decide_eq_false hlt
          have HCL : Hid (∀ W, Upd [] w W → ChanP W p rp c 16 xs [] ((rowF mkD i (fun _ => true))) false → Calls Try.prog 15 #[.pointer (some ⟨p, 0, none⟩), .slice none 0 0] W fun e w' => ∃ (a' : Option Addr) (c' : Nat), e = .returned (.tuple #[.slice a' i c', .int .i64 0]) ∧ RdK w' (.slice a' i c') (rowW i) ∧ ChanP w' p rp c 16 xs [] [] true ∧ Upd [] w w') := Lib.hid (fun W hW hC => by
            refine (chanClose_any p rp c 16 xs [] ((rowF mkD i (fun _ => true))) none 0 [] W hC (rdI_nil _) (by decide) (by first | decide | (rw [rowF_all_len]; omega)) (by first | decide | (rw [rowF_all_len]; omega))).mono ?_
            rintro e w' ⟨a', c', M, L, rfl, hMp, hMR, hLp, hLR, ho, hC', hu⟩
            obtain rfl : L = [] := List.eq_nil_of_length_eq_zero (by rw [hLp.length_eq]; rfl)
            rw [rowF_all_len] at hMp
            have hwe := woken_eq i M hMp hMR
            rw [List.map_nil, List.append_nil, hwe, rowF_all_len, List.length_nil, Nat.add_zero] at ho
            rw [rowF_all_len, List.length_nil, Nat.add_zero]

            exact ⟨a', c', rfl, by have h := Rd.of_own ho; show Rd _ _ (rowW i).length _; rw [rowW_len]; exact h, hC', hW.fresh hu.pc1 hwp hwc⟩)
          clear hlt hi
          go_wp2_with fail
          refine (HCL.out _ HU.out HC.out).mono ?_
          rintro e w5 ⟨a5, c5, rfl, hK5, hC5, hU5⟩
          have HC5 := Lib.hid hC5
          have HU5 := Lib.hid hU5
          have HK5 := Lib.hid (fun W (hW : Upd [] w5 W) => hK5.keep0 hW)
          clear hC5 hU5 hK5 HCL HC HU
          go_wp2_with fail
          refine (chanClosed_any p rp c 16 xs [] [] true _ HC5.out).mono ?_
          rintro e w6 ⟨rfl, rfl⟩
          go_wp2_with fail
          refine (chanSenders_any p rp c 16 xs [] [] true _ HC5.out (by decide)).mono ?_
          rintro e w6 ⟨a6, c6, rfl, _, hu6⟩
          have HC6 := Lib.hid (HC5.out.keep0 hu6)
          have HU56 := Lib.hid hu6
          clear hu6
          go_wp2_with fail
          refine (chanReceivers_any p rp c 16 xs [] [] true _ HC6.out (by decide)).mono ?_
          rintro e w7 ⟨a7, c7, rfl, _, hu7⟩
          have HC7 := Lib.hid (HC6.out.keep0 hu7)
          have HU57 := Lib.hid (HU56.out.trans0 hu7)
          have HU7 := Lib.hid (HU5.out.trans0 HU57.out)
          clear hu7 HU56 HC6 HC5
          go_wp2
          go_loopw [13] (fun iv wr => ∃ (z : Nat), iv = .int .i64 z ∧ z ≤ i ∧ Hid (Upd [] w7 wr)) (fun iv _ => i - (intOf iv).toNat)
          case atStart => exact ⟨0, rfl, Nat.zero_le _, Lib.hid (Upd.refl _ _)⟩
          case round =>
            obtain ⟨z, rfl, hz, HU⟩ := hrel
            by_cases hlt : z < i
            · have hkz : (rowW i)[z]? = some ⟨((i - 1 - z : Nat) : Int), 0, 0, 9⟩ := by simp [rowW, hlt]
              have hrk := HK5.out _ (HU57.out.trans0 HU.out)
              rw [← rowW_len i] at hrk
              obtain ⟨b', off, hbe, y0, y1, y2, y3⟩ := RdK.cells (by rw [rowW_len] at hrk ⊢; exact hrk) hkz
              subst hbe
              obtain ⟨t, ht⟩ : ∃ t, t = i - 1 - z := ⟨_, rfl⟩
              rw [← ht] at y0
              have z0 : (0 : Int) ≤ (z : Int) := by omega
              have z1 : (z : Int) < (i : Int) := by omega
              obtain ⟨i1, hi1⟩ : ∃ i1, i1 = i - 1 := ⟨_, rfl⟩
              have wk1 : IntKind.i64.wrap ((i : Int) - 1) = (i1 : Int) := by rw [IntWalk.i64_in _ (by omega)]; omega
              have wk2 : IntKind.i64.wrap ((i1 : Int) - (z : Int)) = (t : Int) := by rw [IntWalk.i64_in _ (by omega)]; omega
              clear hrk hkz ht hi1
              go_wp2
              go_roundw
              case rel => exact ⟨z + 1, by go_num, by omega, HU⟩
              case measure => simp [intOf]; omega
            · obtain rfl : z = i := by omega
              have HC8 := Lib.hid (HC7.out.keep0 HU.out)
              have HU8 := Lib.hid (HU7.out.trans0 HU.out)
              clear HU
              go_wp2
              go_loopw [14] (fun iv wr => ∃ (q : Nat), iv = .int .i64 q ∧ q ≤ j ∧ Hid (ChanP wr p rp c 16 (xs.drop q) [] [] true) ∧ Hid (Upd [] w wr)) (fun iv _ => j - (intOf iv).toNat)
              case atStart => exact ⟨0, rfl, Nat.zero_le _, HC8, HU8⟩
              case round =>
                clear HC8 HU8
                obtain ⟨q, rfl, hq, HC, HU⟩ := hrel
                by_cases hlt : q < j
                · exfalso; have := HSC.out; omega
                · obtain rfl : q = j := by omega
                  have hC := HC.out
                  rw [List.drop_of_length_le (by rw [← HM.out]; exact Nat.le_refl _)] at hC
                  have HC' := Lib.hid hC
                  clear hC
                  go_wp2_with fail
                  refine (chanRecv_closed p rp c 16 [] [] none 0 0 _ HC'.out).mono ?_
                  rintro e w10 ⟨rfl, hu10⟩
                  have HC10 := Lib.hid (HC'.out.keep0 hu10)
                  have HU10 := Lib.hid (HU.out.trans0 hu10)
                  clear hu10
                  go_wp2_with fail
                  refine (chanClose_twice p rp c 16 [] [] [] none 0 0 _ HC10.out).mono ?_
                  rintro e w11 ⟨rfl, hu11⟩
                  go_wp2
                  go_ret
                  exact ⟨rfl, HU10.out.trans0 hu11⟩
set_option maxHeartbeats 16000000 in
set_option maxRecDepth 100000 in
theorem chanCloses_N (a : Option Addr) (cap : Nat) (xs : List Int) (u : Int) (w : World) (hr : Rd w (.slice a xs.length cap) xs.length (xs.map (Value.int .i64))) (hu0 : 0 ≤ u) (hu1 : u ≤ 255) (hml : xs.length ≤ 16) (hsc : xs.length ≠ 16 ∧ xs.length ≠ 0) :
    Calls Try.prog 4 #[.slice a xs.length cap, .int .u8 u] w fun e w' => e = .returned (.bool true) ∧ Upd [] w w' := by
  obtain ⟨m, hm⟩ : ∃ m, m = xs.length := ⟨_, rfl⟩
  have HRD := Lib.hid hr
  have HM := Lib.hid hm
  rw [← hm] at hml hsc ⊢
  have hd0 : decide (16 < (m : Int)) = false := decide_eq_false (by omega)
  have e16 : ((m : Int) == 16) = false := by simp; omega
  have e0 : ((m : Int) == 0) = false := by simp; omega
  obtain ⟨k, hk⟩ : ∃ k : Nat, k = (u % 9).toNat := ⟨_, rfl⟩
  have hk1 : u % 9 = (k : Int) := by omega
  have hk2 : u.tmod 9 = (k : Int) := by rw [Int.tmod_eq_emod_of_nonneg hu0]; exact hk1
  have hk8 : k ≤ 8 := by omega
  have HSC := Lib.hid hsc
  clear hr hm hk hsc
  go_enter Try.func4, Try.ntmps4
  go_wp2_with fail
  refine (known15_ok _).mono ?_
  rintro e w1 ⟨rfl, hU1⟩
  go_wp2_with fail
  refine (chanNew_ok 16 (by decide) _).mono ?_
  rintro e w2 ⟨p, rp, c, rfl, hC, hu2, hp2, hrp2, hc2⟩
  have hU2 := hU1.trans0 hu2
  have hwp : w.heap.size ≤ p := Nat.le_trans hU1.size hp2
  have hwc : w.heap.size ≤ c := Nat.le_trans hU1.size hc2
  have HU := Lib.hid hU2
  have HC := Lib.hid hC
  clear hC hu2 hU1 hU2 hp2 hrp2 hc2
  go_wp2
  go_loopw [7] (fun iv wr => ∃ (j : Nat), iv = .int .i64 j ∧ j ≤ m ∧ Hid (ChanP wr p rp c 16 (xs.take j) [] [] false) ∧ Hid (Upd [] w wr)) (fun iv _ => m - (intOf iv).toNat)
  case atStart => exact ⟨0, rfl, Nat.zero_le _, HC, HU⟩
  case round =>
    clear HC HU
    obtain ⟨j, rfl, hj, HC, HU⟩ := hrel
    by_cases hlt : j < m
    · have hjl : j < xs.length := by rw [← HM.out]; exact hlt
      have hnext := take_snoc_D hjl
      have hc := get_ints hjl
      generalize xs.getD j 0 = v at hc hnext
      obtain ⟨b', off, rfl, hcell⟩ := HRD.out.at (by omega)
      have gw := HU.out.cell (hcell j _ hc) (by simp)
      have hj0 : (0 : Int) ≤ (j : Int) := by omega
      have hj1 : (j : Int) < (m : Int) := by omega
      have HN := Lib.hid hnext
      clear hcell hc hnext
      go_wp2_with fail
      refine (chanSend_push p rp c 16 (xs.take j) [] v none 0 0 _ HC.out (by rw [List.length_take]; omega)).mono ?_
      rintro e w3 ⟨rfl, hC3, hu3⟩
      rw [← HN.out] at hC3
      have HC3 := Lib.hid hC3
      have HU3 := Lib.hid (HU.out.fresh hu3.pc2 hwp hwc)
      clear hC3 hu3 gw
      go_wp2
      go_roundw
      case rel => exact ⟨j + 1, by go_num, by omega, HC3, HU3⟩
      case measure => simp [intOf]; omega
    · obtain rfl : j = m := by omega
      have hC := HC.out
      rw [List.take_of_length_le (by rw [← HM.out]; exact Nat.le_refl _)] at hC
      have HC0 := Lib.hid hC
      clear hC HC
      go_wp2
      refine wp_loop_rounds 1 ?_
      rw [rounds_succ]
      have HCL : Hid (∀ W, Upd [] w W → ChanP W p rp c 16 xs [] [] false → Calls Try.prog 15 #[.pointer (some ⟨p, 0, none⟩), .slice none 0 0] W fun e w' => ∃ (a' : Option Addr) (c' : Nat), e = .returned (.tuple #[.slice a' 0 c', .int .i64 0]) ∧ RdK w' (.slice a' 0 c') (rowW 0) ∧ ChanP w' p rp c 16 xs [] [] true ∧ Upd [] w w') := Lib.hid (fun W hW hC => by
        refine (chanClose_any p rp c 16 xs [] [] none 0 [] W hC (rdI_nil _) (by decide) (by decide) (by decide)).mono ?_
        rintro e w' ⟨a', c', M, L, rfl, hMp, hMR, hLp, hLR, ho, hC', hu⟩
        obtain rfl : M = [] := List.eq_nil_of_length_eq_zero (by rw [hMp.length_eq]; rfl)
        obtain rfl : L = [] := List.eq_nil_of_length_eq_zero (by rw [hLp.length_eq]; rfl)
        exact ⟨a', c', rfl, Rd.of_own ho, hC', hW.fresh hu.pc1 hwp hwc⟩)
      have HC := HC0
      have i : Nat := 0
      by_cases hk0 : 0 < k
      · have hdk : decide ((0 : Int) < (k : Int)) = true := decide_eq_true (by omega)
        have hdk2 : decide (0 < k) = true := decide_eq_true hk0
        clear hk0
        go_wp2_with fail
        refine (HCL.out _ HU.out HC.out).mono ?_
        rintro e w5 ⟨a5, c5, rfl, hK5, hC5, hU5⟩
        have HC5 := Lib.hid hC5
        have HU5 := Lib.hid hU5
        have HK5 := Lib.hid (fun W (hW : Upd [] w5 W) => hK5.keep0 hW)
        clear hC5 hU5 hK5 HCL HC HU
        go_wp2_with fail
        refine (chanClosed_any p rp c 16 xs [] [] true _ HC5.out).mono ?_
        rintro e w6 ⟨rfl, rfl⟩
        go_wp2_with fail
        refine (chanSenders_any p rp c 16 xs [] [] true _ HC5.out (by decide)).mono ?_
        rintro e w6 ⟨a6, c6, rfl, _, hu6⟩
        have HC6 := Lib.hid (HC5.out.keep0 hu6)
        have HU56 := Lib.hid hu6
        clear hu6
        go_wp2_with fail
        refine (chanReceivers_any p rp c 16 xs [] [] true _ HC6.out (by decide)).mono ?_
        rintro e w7 ⟨a7, c7, rfl, _, hu7⟩
        have HC7 := Lib.hid (HC6.out.keep0 hu7)
        have HU57 := Lib.hid (HU56.out.trans0 hu7)
        have HU7 := Lib.hid (HU5.out.trans0 HU57.out)
        clear hu7 HU56 HC6 HC5
        have HC8 := HC7
        have HU8 := HU7
        go_wp2
        go_loopw [14] (fun iv wr => ∃ (q : Nat), iv = .int .i64 q ∧ q ≤ j ∧ Hid (ChanP wr p rp c 16 (xs.drop q) [] [] true) ∧ Hid (Upd [] w wr)) (fun iv _ => j - (intOf iv).toNat)
        case atStart => exact ⟨0, rfl, Nat.zero_le _, HC8, HU8⟩
        case round =>
          clear HC8 HU8
          obtain ⟨q, rfl, hq, HC, HU⟩ := hrel
          by_cases hlt : q < j
          · have hql : q < xs.length := by rw [← HM.out]; exact hlt
            have hnext := drop_cons_D hql
            have hc := get_ints hql
            have hC := HC.out
            rw [hnext] at hC
            generalize xs.getD q 0 = v at hc hC
            obtain ⟨b', off, rfl, hcell⟩ := HRD.out.at (by omega)
            have gw := hcell q _ hc
            have GW := Lib.hid gw
            have hq0 : (0 : Int) ≤ (q : Int) := by omega
            have hq1 : (q : Int) < (j : Int) := by omega
            have HC' := Lib.hid hC
            clear hcell hc hnext hC gw
            go_wp2_with fail
            refine (chanRecv_val p rp c 16 v (xs.drop (q + 1)) [] true none 0 0 _ HC'.out).mono ?_
            rintro e w9 ⟨rfl, hC9, hu9⟩
            have HC9 := Lib.hid hC9
            have HU9 := Lib.hid (HU.out.fresh hu9.pc2 hwp hwc)
            have g9 := HU9.out.cell GW.out (by simp)
            clear hC9 hu9
            go_wp2
            go_roundw
            case rel => exact ⟨q + 1, by go_num, by omega, HC9, HU9⟩
            case measure => simp [intOf]; omega
          · obtain rfl : q = j := by omega
            have hC := HC.out
            rw [List.drop_of_length_le (by rw [← HM.out]; exact Nat.le_refl _)] at hC
            have HC' := Lib.hid hC
            clear hC
            go_wp2_with fail
            refine (chanRecv_closed p rp c 16 [] [] none 0 0 _ HC'.out).mono ?_
            rintro e w10 ⟨rfl, hu10⟩
            have HC10 := Lib.hid (HC'.out.keep0 hu10)
            have HU10 := Lib.hid (HU.out.trans0 hu10)
            clear hu10
            go_wp2_with fail
            refine (chanClose_twice p rp c 16 [] [] [] none 0 0 _ HC10.out).mono ?_
            rintro e w11 ⟨rfl, hu11⟩
            go_wp2
            go_ret
            exact ⟨rfl, HU10.out.trans0 hu11⟩
      · have hdk : decide ((0 : Int) < (k : Int)) = false := decide_eq_false (by omega)
        have hdk2 : decide (0 < k) = false := decide_eq_false hk0
        clear hk0
        go_wp2_with fail
        refine (HCL.out _ HU.out HC.out).mono ?_
        rintro e w5 ⟨a5, c5, rfl, hK5, hC5, hU5⟩
        have HC5 := Lib.hid hC5
        have HU5 := Lib.hid hU5
        have HK5 := Lib.hid (fun W (hW : Upd [] w5 W) => hK5.keep0 hW)
        clear hC5 hU5 hK5 HCL HC HU
        go_wp2_with fail
        refine (chanClosed_any p rp c 16 xs [] [] true _ HC5.out).mono ?_
        rintro e w6 ⟨rfl, rfl⟩
        go_wp2_with fail
        refine (chanSenders_any p rp c 16 xs [] [] true _ HC5.out (by decide)).mono ?_
        rintro e w6 ⟨a6, c6, rfl, _, hu6⟩
        have HC6 := Lib.hid (HC5.out.keep0 hu6)
        have HU56 := Lib.hid hu6
        clear hu6
        go_wp2_with fail
        refine (chanReceivers_any p rp c 16 xs [] [] true _ HC6.out (by decide)).mono ?_
        rintro e w7 ⟨a7, c7, rfl, _, hu7⟩
        have HC7 := Lib.hid (HC6.out.keep0 hu7)
        have HU57 := Lib.hid (HU56.out.trans0 hu7)
        have HU7 := Lib.hid (HU5.out.trans0 HU57.out)
        clear hu7 HU56 HC6 HC5
        have HC8 := HC7
        have HU8 := HU7
        go_wp2
        go_loopw [14] (fun iv wr => ∃ (q : Nat), iv = .int .i64 q ∧ q ≤ j ∧ Hid (ChanP wr p rp c 16 (xs.drop q) [] [] true) ∧ Hid (Upd [] w wr)) (fun iv _ => j - (intOf iv).toNat)
        case atStart => exact ⟨0, rfl, Nat.zero_le _, HC8, HU8⟩
        case round =>
          clear HC8 HU8
          obtain ⟨q, rfl, hq, HC, HU⟩ := hrel
          by_cases hlt : q < j
          · have hql : q < xs.length := by rw [← HM.out]; exact hlt
            have hnext := drop_cons_D hql
            have hc := get_ints hql
            have hC := HC.out
            rw [hnext] at hC
            generalize xs.getD q 0 = v at hc hC
            obtain ⟨b', off, rfl, hcell⟩ := HRD.out.at (by omega)
            have gw := hcell q _ hc
            have GW := Lib.hid gw
            have hq0 : (0 : Int) ≤ (q : Int) := by omega
            have hq1 : (q : Int) < (j : Int) := by omega
            have HC' := Lib.hid hC
            clear hcell hc hnext hC gw
            go_wp2_with fail
            refine (chanRecv_val p rp c 16 v (xs.drop (q + 1)) [] true none 0 0 _ HC'.out).mono ?_
            rintro e w9 ⟨rfl, hC9, hu9⟩
            have HC9 := Lib.hid hC9
            have HU9 := Lib.hid (HU.out.fresh hu9.pc2 hwp hwc)
            have g9 := HU9.out.cell GW.out (by simp)
            clear hC9 hu9
            go_wp2
            go_roundw
            case rel => exact ⟨q + 1, by go_num, by omega, HC9, HU9⟩
            case measure => simp [intOf]; omega
          · obtain rfl : q = j := by omega
            have hC := HC.out
            rw [List.drop_of_length_le (by rw [← HM.out]; exact Nat.le_refl _)] at hC
            have HC' := Lib.hid hC
            clear hC
            go_wp2_with fail
            refine (chanRecv_closed p rp c 16 [] [] none 0 0 _ HC'.out).mono ?_
            rintro e w10 ⟨rfl, hu10⟩
            have HC10 := Lib.hid (HC'.out.keep0 hu10)
            have HU10 := Lib.hid (HU.out.trans0 hu10)
            clear hu10
            go_wp2_with fail
            refine (chanClose_twice p rp c 16 [] [] [] none 0 0 _ HC10.out).mono ?_
            rintro e w11 ⟨rfl, hu11⟩
            go_wp2
            go_ret
            exact ⟨rfl, HU10.out.trans0 hu11⟩
set_option maxHeartbeats 1600000 in
set_option maxRecDepth 100000 in
theorem chanCloses_walk (a : Option Addr) (cap : Nat) (xs : List Int) (u : Int) (w : World) (hr : Rd w (.slice a xs.length cap) xs.length (xs.map (Value.int .i64))) (_ : ∀ n ∈ xs, (Lit.int .i64 n).wf = true) (hu : (Lit.int .u8 u).wf = true) :
    Calls Try.prog 4 #[.slice a xs.length cap, .int .u8 u] w fun e w' => e = .returned (.bool true) ∧ Upd [] w w' := by
  obtain ⟨h0, h1⟩ := wf_u8 hu
  by_cases hml : xs.length ≤ 16
  · by_cases h16 : xs.length = 16
    · exact chanCloses_S a cap xs u w hr h0 h1 hml h16
    · by_cases h00 : xs.length = 0
      · exact chanCloses_R a cap xs u w hr h0 h1 hml h00
      · exact chanCloses_N a cap xs u w hr h0 h1 hml ⟨h16, h00⟩
  · have hd0 : decide (16 < (xs.length : Int)) = true := decide_eq_true (by omega)
    go_enter Try.func4, Try.ntmps4
    go_wp2_with fail
    refine (known15_ok _).mono ?_
    rintro e w1 ⟨rfl, hU⟩
    go_wp2
    go_ret
    exact ⟨rfl, hU⟩
end Go.Proofs.Ythchclhleppdhaa
