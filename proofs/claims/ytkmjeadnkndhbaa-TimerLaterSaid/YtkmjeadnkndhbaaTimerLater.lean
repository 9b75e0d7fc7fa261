/- What is put later is due later: the walk. -/
import Derived.Test.YtkmjeadnkndhbaaTimerLaterMem
import Derived.Test.YtkmjeadnkndhbaaTimerKnown
import Derived.Test.YtkmjeadnkndhbaaRdBools
import Derived.Deep.RegionHeld3
import Derived.IntWalk
namespace Go.Proofs.Ytkmjeadnkndhbaa
set_option linter.unusedVariables false
set_option linter.unusedSimpArgs false
open Go.RowKit Go.Deep
theorem i64_infoL : (Try.prog.info? 2).map (fun i => (i.zero, i.size, i.bytes)) = some (some (.int .i64 0), 1, 8) := by kernel_rfl
theorem zero80 : ∃ cs : Array Value, cs.size = 80 ∧ (∀ i, i < 80 → cs[i]? = some (.slice none 0 0)) ∧ ∀ W : World, (zeroValue 34).run Try.prog W = .ok (.agg cs) W := by
  obtain ⟨i, hi, hz⟩ := Option.map_eq_some_iff.1 (show (Try.prog.info? 34).map (·.zero) = some (some (.agg (Array.replicate 80 (.slice none 0 0)))) by kernel_rfl)
  refine ⟨Array.replicate 80 (.slice none 0 0), by simp, fun j hj => by simp [hj], fun W => ?_⟩
  simp [zeroValue, run_typeInfo _ hi, hz]
theorem tim_row {w w' : World} {x : Nat} {t : TypeId} {n : Nat} {f : Nat → Value} {p : Nat} {b : Option Nat} {ds : List Due} (ht : TimAt w p b ds) (h : w.rowIs x t n f) (hu : Upd [x] w w') (h1 : t ≠ 53) (h2 : t ≠ 55) : TimAt w' p b ds := by
  obtain ⟨cs, hx⟩ := rowIs_heap h
  obtain ⟨a2, cap2, h3, h4, h5⟩ := ht.ex
  refine ht.keep hu ?_ (fun k hk => ?_)
  · simp
    exact fun e => ne_types hx h3 h1 e.symm
  · obtain ⟨c, hc⟩ := own_block' h4 (h5.trans hk)
    simp
    exact fun e => ne_types hx hc h2 e.symm
theorem want_row {base : Nat} {w w' : World} {wb : Nat} {vs : Nat → Value} {F : Nat → List Int} {x : Nat} {t : TypeId} {n : Nat} {f : Nat → Value} (hw : WantAt base w wb vs F) (h : w.rowIs x t n f) (hu : Upd [x] w w') (h1 : t ≠ 34) (h2 : t ≠ 3) : WantAt base w' wb vs F := by
  obtain ⟨cs, hx⟩ := rowIs_heap h
  obtain ⟨cs2, hx2⟩ := rowIs_heap hw.row
  refine ⟨rowIs_upd hw.row hu ?_, fun y hy => own_keep (hw.own y hy) hu (fun k hk => ?_), hw.apart⟩
  · simp
    exact fun e => ne_types hx hx2 h1 e.symm
  · obtain ⟨c, hc⟩ := own_block' (hw.own y hy) hk
    simp
    exact fun e => ne_types hx hc h2 e.symm
theorem tim_own {w w' : World} {base n : Nat} {v : Value} {cs : List Value} {p : Nat} {b : Option Nat} {ds : List Due} (ht : TimAt w p b ds) (h : w.ownsRow base 3 1 v n cs) (hu : Upd v.ownBlock.toList w w') : TimAt w' p b ds := by
  obtain ⟨a2, cap2, h3, h4, h5⟩ := ht.ex
  refine ht.keep hu (fun hm => ?_) (fun k hk hm => ?_)
  · obtain ⟨c, hc⟩ := own_block' h (show v.ownBlock = some p by simpa using hm)
    exact ne_types hc h3 (by decide) rfl
  · obtain ⟨c, hc⟩ := own_block' h (show v.ownBlock = some k by simpa using hm)
    obtain ⟨c2, hc2⟩ := own_block' h4 (h5.trans hk)
    exact ne_types hc hc2 (by decide) rfl
theorem row_own {w w' : World} {base n n' x : Nat} {v : Value} {cs : List Value} {t : TypeId} {f : Nat → Value} (hr : w.rowIs x t n' f) (h : w.ownsRow base 3 1 v n cs) (hu : Upd v.ownBlock.toList w w') (hne : t ≠ 3) : w'.rowIs x t n' f := by
  obtain ⟨c2, hc2⟩ := rowIs_heap hr
  refine rowIs_upd hr hu (fun hm => ?_)
  obtain ⟨c, hc⟩ := own_block' h (show v.ownBlock = some x by simpa using hm)
  exact ne_types hc2 hc hne rfl
theorem ints_at (a1 a2 : Option Addr) (c1 c2 : Nat) (xs : List Int) (Q : Nat) (hQ : Q = xs.length) (w : World) (h1 : Rd w (.slice a1 Q c1) Q (xs.map (Value.int .i64))) (h2 : Rd w (.slice a2 Q c2) Q (xs.map (Value.int .i64))) (hm : Q ≤ 9223372036854775807) :
    Calls Try.prog 14 #[.slice a1 Q c1, .slice a2 Q c2] w fun e w' => e = .returned (.bool true) ∧ ∃ n, w' = w.drewN n := by
  subst hQ
  exact ints_eq a1 a2 c1 c2 xs w h1 h2 hm
theorem rest_none (L : List Due) (id : Int) (h : idxD L id = none) : idxD (restR L) id = none := by
  rw [idxD_none_iff] at h ⊢
  intro hm
  unfold restR at hm
  rw [List.map_map] at hm
  obtain ⟨d, hd, e⟩ := List.mem_map.1 hm
  exact h (List.mem_map.2 ⟨d, (List.mem_filter.1 hd).1, e⟩)
theorem get_bool (gs : List Bool) (j : Nat) (h : j < gs.length) : (gs.map Value.bool)[j]? = some (.bool (gs.getD j false)) := by
  rw [List.getElem?_map, List.getElem?_eq_getElem h]
  simp [List.getD, h]
theorem get_u8v (xs : List Int) (j : Nat) (h : j < xs.length) : (xs.map (Value.int .u8))[j]? = some (.int .u8 (xs.getD j 0)) := by
  rw [List.getElem?_map, List.getElem?_eq_getElem h]
  simp [List.getD, h]
set_option maxHeartbeats 16000000 in
set_option maxRecDepth 100000 in
theorem timerLater_walk (a : Option Addr) (cap : Nat) (xs : List Int) (a2 : Option Addr) (cap2 : Nat) (gs : List Bool) (w : World) (hr : Rd w (.slice a xs.length cap) xs.length (xs.map (Value.int .u8))) (hx : ∀ n ∈ xs, (Lit.int .u8 n).wf = true) (hr2 : Rd w (.slice a2 gs.length cap2) gs.length (gs.map Value.bool)) :
    Calls Try.prog 4 #[.slice a xs.length cap, .slice a2 gs.length cap2] w fun e w' => e = .returned (.bool true) ∧ Upd [] w w' := by
  go_enter Try.func4, Try.ntmps4
  go_wp2_with fail
  refine (known2_ok _).mono ?_
  rintro e w1 ⟨rfl, hU⟩
  by_cases hbad : 40 < xs.length
  · go_wp2_with fail
    go_ret
    exact ⟨rfl, hU⟩
  by_cases hbad2 : gs.length < xs.length
  · go_wp2_with fail
    go_ret
    exact ⟨rfl, hU⟩
  have HRD := Lib.hid hr
  have HRG := Lib.hid hr2
  obtain ⟨m, hm⟩ : ∃ m, m = xs.length := ⟨_, rfl⟩
  obtain ⟨T, hT⟩ : ∃ T : Nat → Nat, ∀ j, j < m → ∃ q : Nat, xs.getD j 0 % 30 = (q : Int) ∧ (40 : Int) + (q : Int) = (T j : Int) ∧ 40 ≤ T j ∧ T j ≤ 69 ∧ 0 ≤ xs.getD j 0 ∧ xs.getD j 0 ≤ 255 := by
    refine ⟨fun j => 40 + (xs.getD j 0 % 30).toNat, fun j hj => ⟨(xs.getD j 0 % 30).toNat, ?_⟩⟩
    have hw := wf_u8 (hx (xs.getD j 0) (by rw [List.getD_eq_getElem?_getD, List.getElem?_eq_getElem (by omega)]; simp))
    have h1 : 0 ≤ xs.getD j 0 % 30 := by omega
    refine ⟨?_, ?_, ?_, ?_, hw.1, hw.2⟩ <;> (try dsimp only) <;> omega
  have HT := Lib.hid hT
  have HTT := Lib.hid (show ∀ j, j < m → 40 ≤ T j ∧ T j ≤ 69 from fun j hj => by obtain ⟨q, _, _, h3, h4, _⟩ := hT j hj; exact ⟨h3, h4⟩)
  rw [← hm] at hbad hbad2 ⊢
  have HM := Lib.hid hm
  clear hr hr2 hT hx hm
  go_wp2_with fail
  refine (newTimer_any _).mono ?_
  rintro e w2 ⟨p, rfl, hT2, hu, hp⟩
  have hpw : w.heap.size ≤ p := Nat.le_trans hU.size hp
  replace hU : Upd [] w w2 := hU.trans0 hu
  clear hu hp
  have hmk : ∀ W : World, (Instr.makeSlice 33 (.int .i64 (m : Int)) (.int .i64 (m : Int))).run Try.prog W = .ok (.slice (some ⟨W.heap.size, 0, none⟩) m m) (W.alloc (.cells (madeCells #[.int .i64 0] m) 2)) :=
    fun W => run_make_row' 33 2 (.int .i64 0) 8 Try.underlying33 i64_infoL rfl .i64 .i64 m (by omega) (by omega) W
  obtain ⟨cs80, hs80, hc80, hz80⟩ := zero80
  have t40 : decide (40 < (m : Int)) = false := decide_eq_false (by omega)
  have tgl : decide ((gs.length : Int) < (m : Int)) = false := decide_eq_false (by omega)
  obtain ⟨db, hdb⟩ : ∃ db, db = w2.heap.size := ⟨_, rfl⟩
  have hdue0 : ((w2.alloc (.cells (madeCells #[.int .i64 0] m) 2)).alloc (.cells cs80 34)).rowIs db 2 m (fun q => .int .i64 (if q < 0 then (q : Int) + (T q : Int) else 0)) := by
    rw [hdb]
    refine World.rowIs.congr ((World.rowIs_made w2 (.int .i64 0) m 2).alloc _) (fun q hq => ?_)
    rw [if_neg (by omega)]
  have hwant0 : WantAt w.heap.size ((w2.alloc (.cells (madeCells #[.int .i64 0] m) 2)).alloc (.cells cs80 34)) (db + 1) (fun _ => .slice none 0 0) (fun _ => []) := by
    refine ⟨?_, fun x hx => World.ownsRow_nil _ _ _ _, fun x y _ _ _ k hk => by simp [Value.ownBlock] at hk⟩
    have := World.rowIs_alloc (w2.alloc (.cells (madeCells #[.int .i64 0] m) 2)) cs80 34 (fun _ => .slice none 0 0) (fun i hi => hc80 i (by omega))
    rw [hs80] at this
    rw [hdb]
    simpa using this
  have hT20 := hT2.step (((Upd.refl [] w2).alloc (.cells (madeCells #[.int .i64 0] m) 2)).alloc (.cells cs80 34))
  have hU20 := (hU.alloc (.cells (madeCells #[.int .i64 0] m) 2)).alloc (.cells cs80 34)
  have HPW2 := Lib.hid (show w.heap.size ≤ w2.heap.size from hU.size)
  have HSTART := Lib.hid (And.intro hdue0 (And.intro hwant0 (And.intro hT20 hU20)))
  clear hdue0 hwant0 hT20 hU20 hT2 hU hs80 hc80
  go_wp2
  clear hz80 hmk
  go_loopw [8] (fun iv wr => ∃ (j : Nat) (b : Option Nat) (ds : List Due), j ≤ m ∧ iv = .int .i64 j ∧ TimAt wr p b ds ∧ Hid (Rel ds (lat1 T j)) ∧ wr.rowIs w2.heap.size 2 m (fun q => .int .i64 (if q < j then (q : Int) + (T q : Int) else 0)) ∧ WantAt w.heap.size wr (w2.heap.size + 1) (fun _ => .slice none 0 0) (fun _ => []) ∧ (∀ k, b = some k → w.heap.size ≤ k) ∧ Upd [] w wr) (fun iv _ => m - (intOf iv).toNat)
  case atStart =>
    subst hdb
    exact ⟨0, none, [], Nat.zero_le _, rfl, HSTART.out.2.2.1, Lib.hid Rel.nil, HSTART.out.1, HSTART.out.2.1, by simp, HSTART.out.2.2.2⟩
  case round =>
    clear HSTART
    obtain ⟨j, b, ds, hj, rfl, hTm, HREL, hdue, hwant, hfr, hU⟩ := hrel
    have hlen : ds.length = j := by rw [HREL.out.len, lat1_len]
    by_cases hlt : j < m
    · obtain ⟨q, hq1, hq2, ht1, ht2, hv0, hv1⟩ := HT.out j hlt
      have hc := get_u8v xs j (by rw [← HM.out]; exact hlt)
      generalize xs.getD j 0 = v at hq1 hc hv0 hv1
      have hj0 : (0 : Int) ≤ (j : Int) := by omega
      have hj1 : (j : Int) < (m : Int) := by omega
      have hwr : IntKind.i64.wrap ((j : Int) + (T j : Int)) = (j : Int) + (T j : Int) := IntWalk.i64_in _ (by omega)
      have HDUE := Lib.hid hdue
      have HWANT := Lib.hid hwant
      have HFR := Lib.hid hfr
      have hL40 : j ≤ 1000 := by omega
      go_wp2_with fail
      refine (tick_any p b ds _ hTm (by omega) HREL.out.dok).mono ?_
      rintro e w3 ⟨oa, oc, rfl, -, hT3, hu3⟩
      have hU3 := hU.far hu3 hpw HFR.out
      have HD3 := Lib.hid (rowIs_tim HDUE.out hTm hu3 (by decide) (by decide))
      have HW3 := Lib.hid (HWANT.out.tim hTm hu3)
      have HR3 := Lib.hid (HREL.out.tick).2
      have hidx : idxD (tickD ds).2 (j : Int) = none := (HR3.out.none _).2 (rest_none _ _ (lat1_none T j))
      have hlen3 : (tickD ds).2.length ≤ 1000 := by rw [HR3.out.len]; have := restR_len (lat1 T j); rw [lat1_len] at this; omega
      obtain ⟨b', off, rfl, hcell⟩ := (HRD.out.keep0 hU3).at (by rw [← HM.out]; omega)
      have g1 := hcell j _ hc
      have HIDX := Lib.hid hidx
      clear hcell hc hTm hdue hwant hfr hU hu3 hlen hidx
      go_wp2_with fail
      refine (put_ok p b (tickD ds).2 j (T j) _ hT3 (by omega) HR3.out.dok (by omega) (by omega) (by omega) (by omega) HIDX.out).mono ?_
      rintro e w4 ⟨b4, rfl, hT4, hu4, hf4⟩
      have hU4 := hU3.far hu4 hpw HFR.out
      have hF4 := fresh_next (c := w4) hU3 HFR.out hf4
      have hd4 := rowIs_tim HD3.out hT3 hu4 (by decide) (by decide)
      have z0 := hd4.cell hlt
      have z1 := hd4.frozen j
      have HD4 := Lib.hid hd4
      have HW4 := Lib.hid (HW3.out.tim hT3 hu4)
      have HR4 : Hid (Rel (putD (tickD ds).2 j (T j)) (lat1 T (j + 1))) := Lib.hid (by
        have := HR3.out.put j (T j) (by omega) (by omega) (rest_none _ _ (lat1_none T j))
        rw [rest1 m T HTT.out (by omega) j hlt] at this
        exact this)
      have HF4 := Lib.hid hF4
      clear hT3 hU3 hu4 hf4 hd4 hF4 g1 hq1 hq2
      go_wp2_with fail
      have hset : Upd [w2.heap.size] w4 (w4.setCell ⟨w2.heap.size, j, none⟩ (.int .i64 ((j : Int) + (T j : Int)))) := (Upd.refl _ _).setCell _ _ (fun _ => by simp)
      have hT5 := tim_row hT4 HD4.out hset (by decide) (by decide)
      have hlen5 : (putD (tickD ds).2 j (T j)).length ≤ 1001 := by rw [putD_len]; omega
      have hleft : leftD (putD (tickD ds).2 j (T j)) (j : Int) 0 = ((T j : Int), true) := HR4.out.left_mem (lat1_last T j)
      have hla := left_any p b4 (putD (tickD ds).2 j (T j)) (j : Int) _ hT5 (by omega) HR4.out.dok
      rw [hleft] at hla
      refine hla.mono ?_
      rintro e w6 ⟨rfl, hu6⟩
      have hT6 := hT5.step hu6
      have hU6 : Upd [] w w6 := (hU4.trans hset (fun x hx hl => by simp at hx; have := HW4.out; have hh := HPW2.out; omega)).trans0 hu6
      have HT6 := Lib.hid hT6
      have HU6 := Lib.hid hU6
      have hd6 : w6.rowIs w2.heap.size 2 m (fun q => .int .i64 (if q < j + 1 then (q : Int) + (T q : Int) else 0)) := by
        refine World.rowIs.congr (rowIs_upd (HD4.out.set j (.int .i64 ((j : Int) + (T j : Int)))) hu6 (by simp)) (fun q hq => ?_)
        by_cases e : q = j
        · subst e; rw [if_pos rfl, if_pos (by omega)]
        · rw [if_neg e]
          by_cases hqj : q < j
          · rw [if_pos hqj, if_pos (by omega)]
          · rw [if_neg hqj, if_neg (by omega)]
      have HD6 := Lib.hid hd6
      have HW6 := Lib.hid ((want_row HW4.out HD4.out hset (by decide) (by decide)).step hu6)
      have ttt : ((T j : Int) != (T j : Int)) = false := by simp
      clear hT4 hT5 hset hla hleft hu6 hT6 hU6 hd6 hU4 z0 z1
      go_wp2
      go_roundw
      case rel => exact ⟨j + 1, b4, putD (tickD ds).2 j (T j), by omega, by go_num, HT6.out, HR4, HD6.out, HW6.out, HF4.out, HU6.out⟩
      case measure => simp [intOf]; omega
    · obtain rfl : j = m := by omega
      have hd1 : wr.rowIs w2.heap.size 2 j (fun q => .int .i64 ((q : Int) + (T q : Int))) := hdue.congr (fun q hq => by rw [if_pos hq])
      obtain ⟨G, hG⟩ : ∃ G : Nat → Bool, G = fun q => gs.getD q false := ⟨_, rfl⟩
      have HG := Lib.hid hG
      have HREL2 : Hid (Rel ds (lat2 j T G 0)) := Lib.hid (by rw [lat2_zero]; exact HREL.out)
      have HST := Lib.hid (And.intro hTm (And.intro hd1 (And.intro hwant hU)))
      have HFR := Lib.hid hfr
      clear hTm hd1 hwant hU hdue hfr hG hlt hj hlen
      go_wp2
      go_loopw [12] (fun iv wr => ∃ (i : Nat) (ds : List Due) (vs : Nat → Value), i ≤ j ∧ iv = .int .i64 i ∧ TimAt wr p b ds ∧ Hid (Rel ds (lat2 j T G i)) ∧ wr.rowIs w2.heap.size 2 j (fun q => .int .i64 ((q : Int) + (T q : Int))) ∧ WantAt w.heap.size wr (w2.heap.size + 1) vs (wantL j T G i) ∧ Upd [] w wr) (fun iv _ => j - (intOf iv).toNat)
      case atStart => exact ⟨0, ds, fun _ => .slice none 0 0, Nat.zero_le _, rfl, HST.out.1, HREL2, HST.out.2.1, HST.out.2.2.1, HST.out.2.2.2⟩
      case round =>
        clear HST HREL2 HREL
        obtain ⟨i, ds, vs, hi, rfl, hTm, HREL, hdue, hwant, hU⟩ := hrel
        have HL2 := Lib.hid (show (lat2 j T G i).length ≤ 1000 by unfold lat2; rw [List.length_map]; exact Nat.le_trans (List.length_filter_le _ _) (by simp; omega))
        by_cases hlt : i < j
        · have hi0 : (0 : Int) ≤ (i : Int) := by omega
          have hi1 : (i : Int) < (j : Int) := by omega
          obtain ⟨t1, t2⟩ := HTT.out i hlt
          have hgl : i < gs.length := by omega
          have hgc := get_bool gs i hgl
          have hig : (i : Int) < (gs.length : Int) := by omega
          obtain ⟨gb, goff, rfl, hgcell⟩ := (HRG.out.keep0 hU).at (by omega)
          have g1 := hgcell i _ hgc
          clear hgcell hgc
          have HDUE := Lib.hid hdue
          have HWANT := Lib.hid hwant
          cases hgi : gs.getD i false with
          | true =>
            rw [hgi] at g1
            have HGI := Lib.hid (show G i = true by rw [HG.out]; exact hgi)
            obtain ⟨k, hk1, hk2⟩ := HREL.out.cut_mem (i : Int) (lat2_mem j T G i hlt)
            rw [lat2_cut j T G i HGI.out] at hk2
            have HK1 := Lib.hid hk1
            have HK2 := Lib.hid hk2
            obtain ⟨gg, hgg⟩ : ∃ gg, b = some gg := by
              obtain ⟨hkl, -⟩ := idxD_some hk1
              obtain ⟨d, l, hd⟩ : ∃ d l, ds = d :: l := by
                cases ds with
                | nil => simp at hkl
                | cons d l => exact ⟨d, l, rfl⟩
              have := hTm
              rw [hd] at this
              exact this.some
            have hlen : ds.length ≤ 1000 := by rw [HREL.out.len]; exact HL2.out
            have HT0 := Lib.hid hTm
            have HU0 := Lib.hid hU
            clear hk1 hk2 hdue hwant hTm hU hgi
            go_wp2_with fail
            refine (cancel_ok p gg ds (i : Int) k _ (hgg ▸ HT0.out) (by omega) HREL.out.dok HK1.out).mono ?_
            rintro e w3 ⟨rfl, hT3, hu3⟩
            have hu3' : Upd (p :: b.toList) wr w3 := by rw [hgg]; exact hu3
            have HT3 := Lib.hid (show TimAt w3 p b (cutD ds k) by rw [hgg]; exact hT3)
            have HU3 := Lib.hid (HU0.out.far hu3' hpw HFR.out)
            have HD3 := Lib.hid (rowIs_tim HDUE.out HT0.out hu3' (by decide) (by decide))
            have HW3 := Lib.hid (HWANT.out.tim HT0.out hu3')
            clear hT3 hu3 hu3' hgg
            go_wp2
            go_roundw
            case rel =>
              refine ⟨i + 1, cutD ds k, vs, by omega, by go_num, HT3.out, HK2, HD3.out, ?_, HU3.out⟩
              have hw := HW3.out
              exact ⟨hw.row, fun x hx => by rw [want_same j T G i x (.inl HGI.out)]; exact hw.own x hx, hw.apart⟩
            case measure => simp [intOf]; omega
          | false =>
            rw [hgi] at g1
            have HGI := Lib.hid (show G i = false by rw [HG.out]; exact hgi)
            obtain ⟨X, hX⟩ : ∃ X : Nat, X = i + 1 + T i - j := ⟨_, rfl⟩
            have hX1 : 1 ≤ X := by omega
            have hX80 : X < 80 := by omega
            have hw1 : IntKind.i64.wrap ((i : Int) + (T i : Int) - (j : Int)) = (i : Int) + (T i : Int) - (j : Int) := IntWalk.i64_in _ (by omega)
            have hw2 : IntKind.i64.wrap ((i : Int) + (T i : Int) - (j : Int) + 1) = (X : Int) := by rw [IntWalk.i64_in _ (by omega)]; omega
            have d1 : decide ((X : Int) < 1) = false := by simp; omega
            have d80 : decide ((X : Int) ≥ 80) = false := by simp; omega
            have d80b : decide (80 ≤ (X : Int)) = false := by simp; omega
            have hx0 : (0 : Int) ≤ (X : Int) := by omega
            have hx1 : (X : Int) < 80 := by omega
            have HXD := Lib.hid (show dL T i - (j : Int) = (X : Int) by unfold dL; omega)
            have c0 := hdue.cell hlt
            have v0 := hwant.row.cell hX80
            have v1 := hwant.row.frozen X
            have hdbl := hdue.lt
            have hwbl := hwant.row.lt
            have hwl : (wantL j T G i X).length ≤ 40 := Nat.le_trans (want_len j T G i X) (by omega)
            have hm1 : (wantL j T G i X).length + 1 ≤ maxLen := by unfold maxLen; omega
            have hm3 : (wantL j T G i X).length * 8 + 8 ≤ 140737488355328 := by omega
            have hm4 : ((wantL j T G i X).length + 1) * 8 ≤ 140737488355328 := by omega
            have HT0 := Lib.hid hTm
            have HU0 := Lib.hid hU
            have hbase : w.heap.size ≤ wr.heap.size := hU.size
            have HOWN := Lib.hid (hwant.own X hX80)
            obtain ⟨vx, hvx⟩ : ∃ vx, vx = vs X := ⟨_, rfl⟩
            have HVX := Lib.hid hvx
            rw [← hvx] at v0
            have HOW2 : Hid (wr.ownsRow w.heap.size 3 1 vx (wantL j T G i X).length ((wantL j T G i X).map (Value.int .i64))) := Lib.hid (by rw [hvx]; exact HOWN.out)
            clear hdue hwant hTm hU hgi hX hvx
            go_wp2_with (first
              | (at_builtin; refine wp_push_own tIntT rfl (.tmp 103) (.tmp 105) rfl HOW2.out (.int .i64 (i : Int)) rfl rfl rfl rfl hm1 hm4 hbase ?_; intro g3 c3 w3 hown3 hu3 hat3; have HOWN3 := Lib.hid hown3; have HU3 := Lib.hid hu3; have HAT3 := Lib.hid hat3; have hrow3 := rowIs_upd ((HWANT.out.step ((Upd.refl [] wr).alloc (.cells #[.int .i64 (i : Int)] 3))).row) hu3 (by
                  intro hm
                  obtain ⟨c2, hc2⟩ := own_block' (own_keep0 HOW2.out ((Upd.refl [] wr).alloc (.cells #[.int .i64 (i : Int)] 3))) (show vx.ownBlock = some _ by simpa using hm)
                  obtain ⟨c4, hc4⟩ := rowIs_heap ((HWANT.out.step ((Upd.refl [] wr).alloc (.cells #[.int .i64 (i : Int)] 3))).row)
                  exact ne_types hc4 hc2 (by decide) rfl); have u0 := hrow3.cell hX80; have u1 := hrow3.frozen X; clear hown3 hu3 hat3 hrow3))
            have hfin := (HWANT.out.step ((Upd.refl [] wr).alloc (.cells #[.int .i64 (i : Int)] 3))).put X hX80 (i : Int) g3 c3 (by rw [← HVX.out]; exact HU3.out) (G := wantL j T G (i + 1)) HOWN3.out (by rw [← HVX.out]; exact HAT3.out) (want_push j T G i X HGI.out HXD.out) (fun y hy => want_same j T G i y (.inr (fun c => hy (by have := HXD.out; omega))))
            have HFIN := Lib.hid hfin
            have hal : Upd [] wr (wr.alloc (.cells #[.int .i64 (i : Int)] 3)) := (Upd.refl [] wr).alloc _
            have hoa := own_keep0 HOW2.out hal
            have hT3 := tim_own (HT0.out.step hal) hoa HU3.out
            have hd3 := row_own (rowIs_upd HDUE.out hal (by simp)) hoa HU3.out (by decide)
            have hr3 := row_own ((HWANT.out.step hal).row) hoa HU3.out (by decide)
            have hset : Upd [w2.heap.size + 1] w3 (w3.setCell ⟨w2.heap.size + 1, X, none⟩ (.slice (some ⟨g3, 0, none⟩) ((wantL j T G i X).length + 1) c3)) := (Upd.refl _ _).setCell _ _ (fun _ => by simp)
            have HT4 := Lib.hid (tim_row hT3 hr3 hset (by decide) (by decide))
            have HD4 := Lib.hid (rowIs_upd hd3 hset (by simp))
            have HU4 := Lib.hid (((HU0.out.trans0 hal).trans HU3.out (fun x hx hl => by have := (own_blk HOW2.out (show vx.ownBlock = some x by simpa using hx)).1; omega)).trans hset (fun x hx hl => by simp at hx; have := HPW2.out; omega))
            have HRL := Lib.hid (show (lat2 j T G (i + 1)) = lat2 j T G i from lat2_same j T G i HGI.out)
            clear hfin hal hoa hT3 hd3 hr3 hset u0 u1 c0 v0 v1 hw1 hw2
            go_wp2
            go_roundw
            case rel => exact ⟨i + 1, ds, _, by omega, by go_num, HT4.out, Lib.hid (by rw [HRL.out]; exact HREL.out), HD4.out, HFIN.out, HU4.out⟩
            case measure => simp [intOf]; omega
        · obtain rfl : i = j := by omega
          have HST := Lib.hid (And.intro hTm (And.intro hwant hU))
          have HREL3 : Hid (Rel ds (lat3 i T G 1)) := Lib.hid (by rw [lat3_one i T G HTT.out (by omega)]; exact HREL.out)
          have HOWS := Lib.hid hwant.own
          clear hTm hdue hwant hU hlt hi HREL
          go_wp2
          go_loopw [14] (fun iv wr => ∃ (k : Nat) (ds : List Due), 1 ≤ k ∧ k ≤ 80 ∧ iv = .int .i64 k ∧ TimAt wr p b ds ∧ Hid (Rel ds (lat3 i T G k)) ∧ WantAt w.heap.size wr (w2.heap.size + 1) vs (wantL i T G i) ∧ Upd [] w wr) (fun iv _ => 80 - (intOf iv).toNat)
          case atStart => exact ⟨1, ds, by decide, by decide, rfl, HST.out.1, HREL3, HST.out.2.1, HST.out.2.2⟩
          case round =>
            clear HST HREL3 HL2
            obtain ⟨k, ds, hk1, hk80, rfl, hTm, HREL, hwant, hU⟩ := hrel
            have hlen : ds.length ≤ 1000 := by
              rw [HREL.out.len]
              unfold lat3
              rw [List.length_map]
              exact Nat.le_trans (List.length_filter_le _ _) (by simp; omega)
            by_cases hlt : k < 80
            · have hk0 : (0 : Int) ≤ (k : Int) := by omega
              have hk2 : (k : Int) < 80 := by omega
              obtain ⟨va, vc, hvs, -⟩ := own_slice (hwant.own k hlt)
              have v0 := hwant.row.cell hlt
              rw [hvs] at v0
              have HREL2 := HREL
              have htick := HREL.out.tick
              rw [out3, rest3] at htick
              have HTK := Lib.hid htick
              have HT0 := Lib.hid hTm
              have HW0 := Lib.hid hwant
              have HU0 := Lib.hid hU
              have HVS := Lib.hid hvs
              have hwl : (wantL i T G i k).length ≤ 40 := Nat.le_trans (want_len i T G i k) (by omega)
              obtain ⟨Q, hQ⟩ : ∃ Q, Q = (wantL i T G i k).length := ⟨_, rfl⟩
              have HQ := Lib.hid hQ
              have hQ40 : Q ≤ 40 := by omega
              rw [← hQ] at v0
              have HCT : Hid (∀ W, Upd [] wr W → Calls Try.prog 10 #[.pointer (some ⟨p, 0, none⟩)] W fun e w' => ∃ oa oc, e = .returned (.slice oa Q oc) ∧ w'.ownsRow W.heap.size 3 1 (.slice oa Q oc) Q ((wantL i T G i k).map (Value.int .i64)) ∧ TimAt w' p b (tickD ds).2 ∧ WantAt w.heap.size w' (w2.heap.size + 1) vs (wantL i T G i) ∧ Upd [] w w') := Lib.hid (fun W hW => by
                have h1 := tick_any p b ds W (HT0.out.step hW) (by omega) HREL2.out.dok
                rw [HTK.out.1, ← HQ.out] at h1
                refine h1.mono ?_
                rintro e w' ⟨oa, oc, rfl, ho, ht, hu⟩
                exact ⟨oa, oc, rfl, ho, ht, (HW0.out.step hW).tim (HT0.out.step hW) hu, (HU0.out.trans0 hW).far hu hpw HFR.out⟩)
              clear hTm hwant hU htick hvs hQ
              go_wp2_with fail
              go_region_held3 (fun w' => w'.cell? ⟨w2.heap.size + 1, k, none⟩ = some (.slice va Q vc)) (go_keep) (first
                | (go_at_call 14; refine (ints_at oa va oc vc (wantL i T G i k) Q HQ.out _ (Rd.of_own HO3.out) (by have h := Rd.of_own (HW3.out.own k hlt); rw [HVS.out, ← HQ.out] at h; exact h) (by omega)).mono ?_; rintro e w4 ⟨rfl, nq, rfl⟩)
                | (go_at_call 10; refine (HCT.out _ (by repeat (first | refine Upd.drewN ?_ _ | refine Upd.drew ?_ | exact Upd.refl _ _))).mono ?_; rintro e w3 ⟨oa, oc, rfl, ho3, ht3, hw3, hu3⟩; have HO3 := Lib.hid ho3; have HT3 := Lib.hid ht3; have HW3 := Lib.hid hw3; have HU3 := Lib.hid hu3; have x0 := hw3.row.cell hlt; rw [HVS.out, ← HQ.out] at x0; clear ho3 ht3 hw3 hu3))
              all_goals
                have hdn : Upd [] w3 (w3.drewN nq) := (Upd.refl _ _).drewN _
                go_wp2
                go_roundw
                case rel => exact ⟨k + 1, (tickD ds).2, by omega, by omega, by go_num, HT3.out.step hdn, Lib.hid HTK.out.2, HW3.out.step hdn, HU3.out.trans0 hdn⟩
                case measure => simp [intOf]; omega
            · obtain rfl : k = 80 := by omega
              have hz : ds.length = 0 := by rw [HREL.out.len, lat3_end i T G HTT.out (by omega)]; rfl
              have hll := lenTimer_any p b ds wr hTm
              rw [hz] at hll
              have HLL := Lib.hid hll
              clear hll
              go_wp2_with fail
              refine HLL.out.mono ?_
              rintro e w9 ⟨rfl, rfl⟩
              go_wp2
              go_ret
              exact ⟨rfl, hU⟩
end Go.Proofs.Ytkmjeadnkndhbaa
