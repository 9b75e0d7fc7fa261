/- A channel takes as many as it has room for, the next ones wait: the walk. -/
import Derived.Test.YthchclhleppdhaaChanRow
import Derived.Test.YthchclhleppdhaaChanKnown
import Derived.Test.YthchclhleppdhaaRow
import Derived.Deep.CutRange
namespace Go.Proofs.Ythchclhleppdhaa
set_option linter.unusedVariables false
set_option linter.unusedSimpArgs false
open Go.RowKit
def mkE (xs : List Int) (i : Nat) : Wt := ⟨i, 0, i, xs.getD i 0⟩
theorem mkE_fn (xs : List Int) : RowFn (mkE xs) := ⟨fun _ => rfl, fun _ => rfl, fun _ => rfl⟩
theorem take_snoc_E {xs : List Int} {k : Nat} (hk : k < xs.length) : xs.take (k + 1) = xs.take k ++ [xs.getD k 0] := by
  rw [List.take_succ_eq_append_getElem hk]
  simp [List.getD, hk]
theorem drop_cons_E {P : List Int} {k : Nat} (h : k < P.length) : P.drop k = P.getD k 0 :: P.drop (k + 1) := by
  rw [List.drop_eq_getElem_cons h]
  simp [List.getD, h]
theorem rowF_none_of (f : Nat → Wt) {n : Nat} {P : Nat → Bool} (h : ∀ j, j < n → P j = false) : rowF f n P = [] := by
  unfold rowF
  rw [List.filter_eq_nil_iff.2 (fun x hx => by simp [h x (List.mem_range.1 hx)])]
  rfl
theorem rowF_succ (f : Nat → Wt) (n : Nat) (P : Nat → Bool) : rowF f (n + 1) P = rowF f n P ++ (if P n = true then [f n] else []) := by
  unfold rowF
  rw [List.range_succ, List.filter_append, List.map_append]
  by_cases h : P n = true <;> simp [h]
theorem rowF_count (f : Nat → Wt) (m e : Nat) : (rowF f m (fun q => decide (e ≤ q))).length = m - e := by
  induction m with
  | zero => simp [rowF_zero]
  | succ m ih =>
    rw [rowF_succ, List.length_append, ih]
    by_cases h : e ≤ m
    · simp [h]; omega
    · simp [h]; omega
/-- Those from e on: e goes first, where all are alike. -/
theorem rowE_best (xs : List Int) (m e : Nat) (h : e < m) : ∃ i, bestTo [] (rowF (mkE xs) m (fun q => decide (e ≤ q))) (rowF (mkE xs) m (fun q => decide (e ≤ q))).length = some i ∧ (rowF (mkE xs) m (fun q => decide (e ≤ q)))[i]? = some (mkE xs e) ∧ (rowF (mkE xs) m (fun q => decide (e ≤ q))).eraseIdx i = rowF (mkE xs) m (fun q => decide (e + 1 ≤ q)) := by
  obtain ⟨i, k, h1, h2, h3, h4, h5⟩ := rowF_best (mkE_fn xs) [] m (fun q => decide (e ≤ q)) ⟨e, h, by simp⟩
  have hz : ∀ t : Int, prioOf [] t = 0 := fun t => by unfold prioOf; split <;> simp
  have hk : k = e := by
    have h6 := h5 e h (by simp)
    rw [hz, hz] at h6
    have h7 : e ≤ k := by simpa using h4
    have := h6.2 rfl
    omega
  subst hk
  refine ⟨i, h1, h2, ?_⟩
  rw [rowF_erase (mkE_fn xs) m _ i k h2]
  apply rowF_congr
  intro j _
  by_cases h8 : j = k
  · subst h8; simp
  · have : (j == k) = false := beq_eq_false_iff_ne.2 h8
    rw [this]
    simp
    omega
theorem win_cons (xs : List Int) (i n : Nat) (hn : 0 < n) (h : i < xs.length) : (xs.drop i).take n = xs.getD i 0 :: (xs.drop (i + 1)).take (n - 1) := by
  rw [drop_cons_E h]
  obtain ⟨k, rfl⟩ : ∃ k, n = k + 1 := ⟨n - 1, by omega⟩
  rfl
theorem win_next (xs : List Int) (i n : Nat) (hn : 0 < n) (h : i + n < xs.length) : (xs.drop (i + 1)).take (n - 1) ++ [xs.getD (i + n) 0] = (xs.drop (i + 1)).take n := by
  obtain ⟨k, rfl⟩ : ∃ k, n = k + 1 := ⟨n - 1, by omega⟩
  have h1 := take_snoc_E (xs := xs.drop (i + 1)) (k := k) (by simp; omega)
  rw [h1, Nat.add_sub_cancel]
  congr 2
  simp [List.getD]
  congr 2
  omega
theorem win_last (xs : List Int) (i n : Nat) (hn : 0 < n) (h : xs.length ≤ i + n) : (xs.drop (i + 1)).take (n - 1) = (xs.drop (i + 1)).take n := by
  rw [List.take_of_length_le (by simp; omega), List.take_of_length_le (by simp; omega)]
set_option maxHeartbeats 16000000 in
set_option maxRecDepth 100000 in
theorem chanRooms_walk (room : Int) (a : Option Addr) (cap : Nat) (xs : List Int) (w : World) (hroom : (Lit.int .u8 room).wf = true) (hr : Rd w (.slice a xs.length cap) xs.length (xs.map (Value.int .i64))) (_ : ∀ n ∈ xs, (Lit.int .i64 n).wf = true) :
    Calls Try.prog 6 #[.int .u8 room, .slice a xs.length cap] w fun e w' => e = .returned (.bool true) ∧ Upd [] w w' := by
  obtain ⟨hr0, hr1⟩ := wf_u8 hroom
  obtain ⟨m, hm⟩ : ∃ m, m = xs.length := ⟨_, rfl⟩
  have HRD := Lib.hid hr
  have HM := Lib.hid hm
  rw [← hm]
  clear hr hm hroom
  by_cases hml : 40 < m
  · have hd0 : decide (40 < (m : Int)) = true := decide_eq_true (by omega)
    go_enter Try.func6, Try.ntmps6
    go_wp2_with fail
    refine (known15_ok _).mono ?_
    rintro e w1 ⟨rfl, hU⟩
    go_wp2
    go_ret
    exact ⟨rfl, hU⟩
  have hd0 : decide (40 < (m : Int)) = false := decide_eq_false (by omega)
  have hml : m ≤ 40 := by omega
  obtain ⟨n, hn⟩ : ∃ n : Nat, n = (room % 17).toNat := ⟨_, rfl⟩
  have hn1 : room % 17 = (n : Int) := by omega
  have hn2 : room.tmod 17 = (n : Int) := by rw [Int.tmod_eq_emod_of_nonneg hr0]; exact hn1
  have hn16 : n ≤ 16 := by omega
  clear hn
  go_enter Try.func6, Try.ntmps6
  go_wp2_with fail
  refine (known15_ok _).mono ?_
  rintro e w1 ⟨rfl, hU1⟩
  go_wp2_with fail
  refine (chanNew_ok n hn16 _).mono ?_
  rintro e w2 ⟨p, rp, c, rfl, hC, hu2, hp2, hrp2, hc2⟩
  have hU2 := hU1.trans0 hu2
  have hwp : w.heap.size ≤ p := Nat.le_trans hU1.size hp2
  have hwc : w.heap.size ≤ c := Nat.le_trans hU1.size hc2
  have HU := Lib.hid hU2
  have HC := Lib.hid hC
  clear hC hu2 hU1 hU2 hp2 hrp2 hc2
  go_wp2
  go_loopw [8] (fun iv wr => ∃ (j : Nat), iv = .int .i64 j ∧ j ≤ m ∧ Hid (ChanP wr p rp c n (xs.take (min j n)) (rowF (mkE xs) j (fun q => decide (n ≤ q))) [] false) ∧ Hid (Upd [] w wr)) (fun iv _ => m - (intOf iv).toNat)
  case atStart => exact ⟨0, rfl, Nat.zero_le _, Lib.hid (by simpa [rowF_zero] using HC.out), HU⟩
  case round =>
    clear HC HU
    obtain ⟨j, rfl, hj, HC, HU⟩ := hrel
    by_cases hlt : j < m
    · have hjl : j < xs.length := by rw [← HM.out]; exact hlt
      have hnext := take_snoc_E hjl
      have hc := get_ints hjl
      obtain ⟨v, hv⟩ : ∃ v, v = xs.getD j 0 := ⟨_, rfl⟩
      have hE : mkE xs j = ⟨j, 0, j, v⟩ := by rw [mkE, hv]
      rw [← hv] at hc hnext
      obtain ⟨b', off, rfl, hcell⟩ := HRD.out.at (by omega)
      have gw := hcell j _ hc
      have GW := Lib.hid gw
      have hj0 : (0 : Int) ≤ (j : Int) := by omega
      have hj1 : (j : Int) < (m : Int) := by omega
      have HN := Lib.hid hnext
      have HE := Lib.hid hE
      clear hcell hc hnext gw hv hE
      by_cases hjn : j < n
      · have hd1 : decide ((j : Int) < (n : Int)) = true := decide_eq_true (by omega)
        have hd2 : decide (j < n) = true := decide_eq_true hjn
        have hC := HC.out
        rw [show min j n = j by omega, rowF_none_of (mkE xs) (n := j) (fun q hq => decide_eq_false (by omega))] at hC
        have HC' := Lib.hid hC
        have hcs : canS n (xs.take j) [] false = true := by unfold canS; simp; omega
        clear hC
        go_wp2_with fail
        refine (canSend_any p rp c n (xs.take j) [] [] false _ HC'.out).mono ?_
        rw [hcs]
        rintro e w3 ⟨rfl, hu3⟩
        have HC3 := Lib.hid (HC'.out.keep0 hu3)
        have HU3 := Lib.hid (HU.out.trans0 hu3)
        have g3 := HU3.out.cell GW.out (by simp)
        clear hu3
        go_wp2_with fail
        refine (chanSend_push p rp c n (xs.take j) [] v none 0 0 _ HC3.out (by rw [List.length_take]; omega)).mono ?_
        rintro e w4 ⟨rfl, hC4, hu4⟩
        rw [← HN.out] at hC4
        have HC4 := Lib.hid hC4
        have HU4 := Lib.hid (HU3.out.fresh hu4.pc2 hwp hwc)
        clear hC4 hu4 g3
        go_wp2
        go_roundw
        case rel => exact ⟨j + 1, by go_num, by omega, Lib.hid (by rw [show min (j + 1) n = j + 1 by omega, rowF_none_of (mkE xs) (n := j + 1) (fun q hq => decide_eq_false (by omega))]; exact HC4.out), HU4⟩
        case measure => simp [intOf]; omega
      · have hd1 : decide ((j : Int) < (n : Int)) = false := decide_eq_false (by omega)
        have hd2 : decide (j < n) = false := decide_eq_false hjn
        have hC := HC.out
        rw [show min j n = n by omega] at hC
        have HC' := Lib.hid hC
        have hcs : canS n (xs.take n) [] false = false := by unfold canS; simp; omega
        have hno := rowF_has2 (mkE_fn xs) j (fun q => decide (n ≤ q)) j (Nat.le_refl j)
        rw [HE.out] at hno
        have HNO := Lib.hid hno
        clear hC hno
        go_wp2_with fail
        refine (canSend_any p rp c n (xs.take n) _ [] false _ HC'.out).mono ?_
        rw [hcs]
        rintro e w3 ⟨rfl, hu3⟩
        have HC3 := Lib.hid (HC'.out.keep0 hu3)
        have HU3 := Lib.hid (HU.out.trans0 hu3)
        have g3 := HU3.out.cell GW.out (by simp)
        clear hu3
        go_wp2_with fail
        refine (chanWaitS_any p rp c n (xs.take n) _ [] false ⟨j, 0, j, v⟩ _ HC3.out hcs (by have := rowF_len (mkE xs) j (fun q => decide (n ≤ q)); omega)).mono ?_
        simp only [HNO.out, Bool.false_eq_true, if_false]
        rintro e w4 ⟨rfl, hC4, hu4⟩
        have HC4 := Lib.hid hC4
        have HU4 := Lib.hid (HU3.out.fresh hu4.pc1 hwp hwc)
        clear hC4 hu4 g3
        go_wp2
        go_roundw
        case rel => exact ⟨j + 1, by go_num, by omega, Lib.hid (by rw [show min (j + 1) n = n by omega, rowF_succ, if_pos (decide_eq_true (by omega)), HE.out]; exact HC4.out), HU4⟩
        case measure => simp [intOf]; omega
    · obtain rfl : j = m := by omega
      have hC := HC.out
      have ht : xs.take (min j n) = (xs.drop 0).take n := by
        rw [List.drop_zero]
        by_cases hjn : j ≤ n
        · rw [show min j n = j by omega, List.take_of_length_le (by have := HM.out; omega), List.take_of_length_le (by have := HM.out; omega)]
        · rw [show min j n = n by omega]
      rw [ht] at hC
      have HC0 := Lib.hid (show ChanP wr p rp c n ((xs.drop 0).take n) (rowF (mkE xs) j (fun q => decide (n + 0 ≤ q))) [] false from hC)
      clear hC HC ht hlt hj
      go_wp2
      go_loopw [11] (fun iv wr => ∃ (i : Nat), iv = .int .i64 i ∧ i ≤ j ∧ Hid (ChanP wr p rp c n ((xs.drop i).take n) (rowF (mkE xs) j (fun q => decide (n + i ≤ q))) [] false) ∧ Hid (Upd [] w wr)) (fun iv _ => j - (intOf iv).toNat)
      case atStart => exact ⟨0, rfl, Nat.zero_le _, HC0, HU⟩
      case round =>
        clear HC0 HU
        obtain ⟨i, rfl, hi, HC, HU⟩ := hrel
        by_cases hlt : i < j
        · have hil : i < xs.length := by rw [← HM.out]; exact hlt
          obtain ⟨ee, he⟩ : ∃ ee, ee = n + i := ⟨_, rfl⟩
          have e1 : n + i ≤ ee := by omega
          have e2 : ee ≤ n + i := by omega
          have hC := HC.out
          rw [← he] at hC
          have HE := Lib.hid he
          have HC' := Lib.hid hC
          obtain ⟨mn, HMN, hmin⟩ := run_min_nat (P := Try.prog) j ee
          have n1 : mn ≤ j := by have := HMN.out; omega
          have n2 : mn ≤ ee := by have := HMN.out; omega
          have n3 : i ≤ mn := by have := HMN.out; omega
          obtain ⟨a', c', hrd1, hob, hsl, _, _⟩ := HRD.out.cut tI64 i mn n3 (by rw [← HM.out]; exact n1)
          obtain ⟨t, ht⟩ : ∃ t, t = mn - i := ⟨_, rfl⟩
          have hwin : ((xs.map (Value.int .i64)).drop (i * 1)).take ((mn - i) * 1) = ((xs.drop i).take n).map (Value.int .i64) := by
            rw [Nat.mul_one, Nat.mul_one, List.map_take, List.map_drop]
            by_cases hje : j ≤ ee
            · rw [List.take_of_length_le (by simp; have := HM.out; have := HMN.out; omega), List.take_of_length_le (by simp; have := HM.out; omega)]
            · rw [show mn - i = n by have := HMN.out; omega]
          have hwl : ((xs.drop i).take n).length = t := by rw [List.length_take, List.length_drop, ← HM.out]; have := HMN.out; omega
          rw [hwin, ← ht] at hrd1
          rw [← ht] at hsl
          have hslj : ∀ W : World, (Instr.slice 44 (.slice a j cap) (some (.int .i64 (i : Int))) (some (.int .i64 (mn : Int))) none).run Try.prog W = .ok (.slice a' t c') W := by rw [HM.out]; exact hsl
          have HVAL : Hid (∀ W, Upd [] wr W → Calls Try.prog 20 #[.pointer (some ⟨p, 0, none⟩)] W fun e w' => ∃ a1 k1, e = .returned (.slice a1 t k1) ∧ Rd w' (.slice a1 t k1) t (((xs.drop i).take n).map (Value.int .i64)) ∧ ChanP w' p rp c n ((xs.drop i).take n) (rowF (mkE xs) j (fun q => decide (ee ≤ q))) [] false ∧ Upd [] w w') := Lib.hid (fun W hW => by
            refine (chanValues_any p rp c n _ _ [] false W (HC'.out.keep0 hW)).mono ?_
            rw [hwl]
            rintro e w' ⟨a1, k1, rfl, ho, hC1, hu⟩
            exact ⟨a1, k1, rfl, Rd.of_own ho, hC1, (HU.out.trans0 hW).fresh hu.pc2 hwp hwc⟩)
          have HROW : Hid (∀ W a1 k1, Rd W (.slice a1 t k1) t (((xs.drop i).take n).map (Value.int .i64)) → Upd [] w W → Calls Try.prog 19 #[.slice a1 t k1, .slice a' t c'] W fun e w' => e = .returned (.bool true) ∧ Upd [] W w') := Lib.hid (fun W a1 k1 h1 hW => by
            have h := row_eq a1 a' k1 c' ((xs.drop i).take n) W (by rw [hwl]; exact h1) (by rw [hwl]; exact hrd1.keep0 hW) (by rw [hwl]; omega)
            rw [hwl] at h
            exact toUpd h)
          obtain ⟨s, hs⟩ : ∃ s, s = j - ee := ⟨_, rfl⟩
          have HSEN : Hid (∀ W, ChanP W p rp c n ((xs.drop i).take n) (rowF (mkE xs) j (fun q => decide (ee ≤ q))) [] false → Calls Try.prog 13 #[.pointer (some ⟨p, 0, none⟩)] W fun e w' => ∃ a2 k2, e = .returned (.slice a2 s k2) ∧ Upd [] W w') := Lib.hid (fun W hCW => by
            have hlen := rowF_count (mkE xs) j ee
            refine (chanSenders_any p rp c n _ _ [] false W hCW (by rw [hlen]; omega)).mono ?_
            rw [hlen, ← hs]
            rintro e w' ⟨a2, k2, rfl, _, hu⟩
            exact ⟨a2, k2, rfl, hu⟩)
          have wie : IntKind.i64.wrap ((i : Int) + (n : Int)) = (ee : Int) := by rw [IntWalk.i64_in _ (by omega)]; omega
          obtain ⟨mi, hmi⟩ : ∃ mi, mi = j - i := ⟨_, rfl⟩
          have wmi : IntKind.i64.wrap ((j : Int) - (i : Int)) = (mi : Int) := by rw [IntWalk.i64_in _ (by omega)]; omega
          obtain ⟨d, hd⟩ : ∃ d : Int, d = (mi : Int) - (n : Int) := ⟨_, rfl⟩
          have wmn : IntKind.i64.wrap ((mi : Int) - (n : Int)) = d := by rw [IntWalk.i64_in _ (by omega)]; omega
          have hmx : ∀ (ts : Array TypeId) (ty : TypeId) (W : World), (Builtin.max_ ts ty #[.int .i64 0, .int .i64 d]).run Try.prog W = .ok (.int .i64 (s : Int)) W := fun ts ty W => by
            rw [run_max_int2]
            congr 2
            split <;> omega
          have hss : ((s : Int) != (s : Int)) = false := by simp
          have hu0 := Upd.refl [] wr
          have i0 : (0 : Int) ≤ (i : Int) := by omega
          have i1 : (i : Int) < (j : Int) := by omega
          have HHIL := Lib.hid hil
          clear hrd1 hob hsl hwin hwl ht hs hmi hd hC he hil HC
          go_upto_region 23 with fail
          go_cut [101] from 70 to 144 (fun sv wx => sv = .bool false ∧ Hid (ChanP wx p rp c n ((xs.drop i).take n) (rowF (mkE xs) j (fun q => decide (ee ≤ q))) [] false) ∧ Hid (Upd [] w wx))
          case first =>
            go_region_held3 (fun _ => True) (first | trivial | go_keep) (first
              | (have z_ := HR8; go_at_call 13; refine (HSEN.out _ (hC7.keep0 (by repeat (first | exact hu8 | refine Upd.drewN ?_ _ | refine Upd.drew ?_)))).mono ?_; rintro e w9 ⟨a9, k9, rfl, hu9⟩; have hU9 := (hU7.trans0 (Upd.trans0 (by repeat (first | exact hu8 | refine Upd.drewN ?_ _ | refine Upd.drew ?_)) hu9)))
              | (have z_ := hV7; go_at_call 19; refine (HROW.out _ _ _ (hV7.keep0 (by repeat (first | exact Upd.refl _ _ | refine Upd.drewN ?_ _ | refine Upd.drew ?_))) (hU7.trans0 (by repeat (first | exact Upd.refl _ _ | refine Upd.drewN ?_ _ | refine Upd.drew ?_)))).mono ?_; rintro e w8 ⟨rfl, hu8'⟩; have hu8 : Upd [] w7 w8 := Upd.trans0 (by repeat (first | exact Upd.refl _ _ | refine Upd.drewN ?_ _ | refine Upd.drew ?_)) hu8'; have HR8 := hu8)
              | (go_at_call 20; refine (HVAL.out _ (by repeat (first | exact hu0 | refine Upd.drewN ?_ _ | refine Upd.drew ?_))).mono ?_; rintro e w7 ⟨a7, k7, rfl, hV7, hC7, hU7⟩))
            all_goals
              have HC9 := Lib.hid (hC7.keep0 (Upd.trans0 (by repeat (first | exact hu8 | refine Upd.drewN ?_ _ | refine Upd.drew ?_)) hu9))
              have HU9 := Lib.hid hU9
              clear hC7 hU7 hu8 hu8' hu9 hU9 hV7 HR8
              go_wp2
              go_meet
              exact ⟨rfl, by repeat (first | exact HC9 | exact Lib.hid (HC9.out.keep0 (Upd.drew (Upd.refl [] _)))), by repeat (first | exact HU9 | exact Lib.hid (HU9.out.drew))⟩
          case rest =>
            obtain ⟨rfl, HC9, HU9⟩ := hcut
            clear HVAL HROW HSEN hslj hmx hmin HMN hu0 HC' HU wmi wmn hss
            have hil : i < xs.length := HHIL.out
            have hc := get_ints hil
            obtain ⟨v, hv⟩ : ∃ v, v = xs.getD i 0 := ⟨_, rfl⟩
            rw [← hv] at hc
            obtain ⟨b', off, hab, hcell⟩ := HRD.out.at (by omega)
            subst hab
            have GW := Lib.hid (hcell i _ hc)
            have HV := Lib.hid hv
            clear hcell hc hv hil
            have ez : ((0 : Int) != 0) = false := rfl
            by_cases hej : ee < j
            · have hd1 : decide ((ee : Int) < (j : Int)) = true := decide_eq_true (by omega)
              have hd2 : decide (ee < j) = true := decide_eq_true hej
              obtain ⟨q, hb, hq, her⟩ := rowE_best xs j ee hej
              by_cases hn0 : n = 0
              · have hC := HC9.out
                have hX : (xs.drop i).take n = [] := by rw [hn0, List.take_zero]
                rw [hX] at hC
                have hei : ee = i := by omega
                have HCALL := Lib.hid (chanRecv_hand p rp c n _ [] none 0 [] q (mkE xs ee) wc hC (rdI_nil _) (by decide) (by have := rowF_len (mkE xs) j (fun q => decide (ee ≤ q)); omega) hb hq)
                rw [her] at HCALL
                have hf1 : (mkE xs ee).task = ee := rfl
                have hf2 : (mkE xs ee).case_ = 0 := rfl
                have hf3 : (mkE xs ee).v = v := by rw [HV.out, ← hei]; rfl
                simp only [hf1, hf2, hf3] at HCALL
                have HHE := Lib.hid (And.intro hei hn0)
                clear hC hX hb hq her hf1 hf2 hf3 hei hn0
                go_wp2_with fail
                refine HCALL.out.mono ?_
                rintro e w10 ⟨g10, rfl, hg10, h10, hC10, hu10⟩
                obtain ⟨y0, y1, y2, y3⟩ := four_cells h10
                have HC10 := Lib.hid hC10
                have HU10 := Lib.hid (HU9.out.fresh hu10.pc1 hwp hwc)
                have gv := HU10.out.cell GW.out (by simp)
                clear hC10 hu10 HCALL h10
                go_wp2
                go_roundw
                case rel => exact ⟨i + 1, by go_num, by omega, Lib.hid (by rw [HHE.out.2, List.take_zero, show 0 + (i + 1) = ee + 1 by have := HHE.out.1; omega]; have h := HC10.out; rw [HHE.out.2] at h; exact h), HU10⟩
                case measure => simp [intOf]; omega
              · have hn1' : 0 < n := by omega
                have hw1 := win_cons xs i n hn1' HHIL.out
                have hw2 := win_next xs i n hn1' (by rw [← HM.out]; omega)
                have hC := HC9.out
                rw [hw1, ← HV.out] at hC
                have HCALL := Lib.hid (chanRecv_both p rp c n v _ _ [] false none 0 [] q (mkE xs ee) wc hC (rdI_nil _) (by decide) (by have := rowF_len (mkE xs) j (fun q => decide (ee ≤ q)); omega) hb hq)
                rw [her] at HCALL
                have hf1 : (mkE xs ee).task = ee := rfl
                have hf2 : (mkE xs ee).case_ = 0 := rfl
                have hf3 : (mkE xs ee).v = xs.getD (i + n) 0 := by rw [show i + n = ee by omega]; rfl
                simp only [hf1, hf2, hf3, hw2] at HCALL
                clear hC hb hq her hf1 hf2 hf3 hw1 hw2 hn0 hn1'
                go_wp2_with fail
                refine HCALL.out.mono ?_
                rintro e w10 ⟨g10, rfl, hg10, h10, hC10, hu10⟩
                obtain ⟨y0, y1, y2, y3⟩ := four_cells h10
                have HC10 := Lib.hid hC10
                have HU10 := Lib.hid (HU9.out.fresh hu10 hwp hwc)
                have gv := HU10.out.cell GW.out (by simp)
                clear hC10 hu10 HCALL h10
                go_wp2
                go_roundw
                case rel => exact ⟨i + 1, by go_num, by omega, Lib.hid (by rw [show n + (i + 1) = ee + 1 by omega]; exact HC10.out), HU10⟩
                case measure => simp [intOf]; omega
            · have hd1 : decide ((ee : Int) < (j : Int)) = false := decide_eq_false (by omega)
              have hd2 : decide (ee < j) = false := decide_eq_false hej
              have hn1' : 0 < n := by omega
              have hw1 := win_cons xs i n hn1' HHIL.out
              have hw2 := win_last xs i n hn1' (by rw [← HM.out]; omega)
              have hC := HC9.out
              rw [hw1, ← HV.out, hw2, rowF_none_of (mkE xs) (n := j) (fun q hq => decide_eq_false (by omega))] at hC
              have HCALL := Lib.hid (chanRecv_val p rp c n v _ [] false none 0 0 wc hC)
              clear hC hw1 hw2 hn1'
              go_wp2_with fail
              refine HCALL.out.mono ?_
              rintro e w10 ⟨rfl, hC10, hu10⟩
              have HC10 := Lib.hid hC10
              have HU10 := Lib.hid (HU9.out.fresh hu10.pc2 hwp hwc)
              have gv := HU10.out.cell GW.out (by simp)
              clear hC10 hu10 HCALL
              go_wp2
              go_roundw
              case rel => exact ⟨i + 1, by go_num, by omega, Lib.hid (by rw [rowF_none_of (mkE xs) (n := j) (fun q hq => decide_eq_false (by omega))]; exact HC10.out), HU10⟩
              case measure => simp [intOf]; omega
        · obtain rfl : i = j := by omega
          have hC := HC.out
          rw [List.drop_of_length_le (by rw [← HM.out]; exact Nat.le_refl _), List.take_nil, rowF_none_of (mkE xs) (n := i) (fun q hq => decide_eq_false (by omega))] at hC
          have HC' := Lib.hid hC
          clear hC
          go_wp2_with fail
          refine (canRecv_any p rp c n [] [] [] false _ HC'.out).mono ?_
          rw [show canR [] [] false = false from rfl]
          rintro e w10 ⟨rfl, hu10⟩
          have HC10 := Lib.hid (HC'.out.keep0 hu10)
          have HU10 := Lib.hid (HU.out.trans0 hu10)
          clear hu10
          go_wp2_with fail
          refine (chanValues_any p rp c n [] [] [] false _ HC10.out).mono ?_
          rintro e w11 ⟨a11, c11, rfl, _, _, hu11⟩
          have HU11 := Lib.hid (HU10.out.fresh hu11.pc2 hwp hwc)
          clear hu11
          go_wp2
          go_ret
          exact ⟨rfl, HU11.out⟩
end Go.Proofs.Ythchclhleppdhaa
