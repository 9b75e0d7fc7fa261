/- What is told of a ring is not the ring: turned, it is as it was; so is its twin. -/
import Derived.Test.YtfimcimbnoolnaaRingKnown
import Derived.Deep.RegionHeld3
namespace Go.Proofs.Ytfimcimbnoolnaa
set_option linter.unusedVariables false
set_option linter.unusedSimpArgs false
open Go.RowKit Go.Conc

set_option maxHeartbeats 6400000 in
set_option maxRecDepth 100000 in
theorem ringApart_walk (a : Option Addr) (cap : Nat) (xs : List Int) (at' : Int) (ha0 : 0 ≤ at') (ha1 : at' ≤ 255) (w : World) (hx : Rd w (.slice a xs.length cap) xs.length (xs.map (Value.int .i64))) :
    Calls Try.prog 6 #[.slice a xs.length cap, .int .u8 at'] w fun e w' => e = .returned (.bool true) ∧ Upd [] w w' := by
  go_enter Try.func6, Try.ntmps6
  go_wp2_with fail
  refine (known3_ok _).mono ?_
  rintro e w1 ⟨rfl, hu1⟩
  by_cases hl : 1 ≤ xs.length
  · have hl0 : decide ((xs.length : Int) < 1) = false := decide_eq_false (by omega)
    have hl0' : decide (xs.length < 1) = false := decide_eq_false (by omega)
    by_cases hl2 : xs.length ≤ 16
    · have hl1 : decide ((16 : Int) < (xs.length : Int)) = false := decide_eq_false (by omega)
      have hl1' : decide (16 < xs.length) = false := decide_eq_false (by omega)
      obtain ⟨n, hn⟩ : ∃ n, n = xs.length := ⟨_, rfl⟩
      go_wp2_with fail
      refine (new_ok xs.length hl2 _).mono ?_
      rintro e w2 ⟨p, c, rfl, hr, hu2, hp, hc⟩
      have hU2 : Upd [] w w2 := hu1.trans0 hu2
      have hpw : w.heap.size ≤ p := Nat.le_trans hu1.size hp
      have hcw : w.heap.size ≤ c := Nat.le_trans hu1.size hc
      clear hu1 hu2 hp hc hn
      go_wp2
      go_loopw [7] (fun i wr => ∃ k : Nat, k ≤ xs.length ∧ i = .int .i64 k ∧ RingAt wr p c xs.length (xs.take k) ∧ Upd [] w wr) (fun i _ => xs.length - (intOf i).toNat)
      case atStart => exact ⟨0, Nat.zero_le _, rfl, by simpa using hr, hU2⟩
      case round =>
        obtain ⟨k, hk, rfl, hring, hupd⟩ := hrel
        by_cases hlt : k < xs.length
        · have hxk := hx.keep0 hupd
          have hc := get_ints hlt
          have ht3 := (take_drop_succ xs k hlt).2.2
          generalize xs.getD k 0 = y at hc ht3
          obtain ⟨b, off, rfl, hcell⟩ := hxk.at (by omega)
          have g1 := hcell k _ hc
          have T3 := Lib.hid ht3
          clear hc hcell ht3
          go_wp2_with fail
          refine (push_room p c xs.length _ y _ hring (by simp; omega)).mono ?_
          rintro e w3 ⟨rfl, hring3, hu3⟩
          rw [← T3.out] at hring3
          have hupd3 : Upd [] w w3 := hupd.trans hu3 (fun x hx hl => by simp at hx; omega)
          clear hupd hu3 hring g1
          go_wp2
          go_roundw
          case rel => exact ⟨k + 1, by omega, by go_num, hring3, hupd3⟩
          case measure => simp [intOf]; omega
        · obtain rfl : k = xs.length := by omega
          rw [List.take_of_length_le (Nat.le_refl _)] at hring
          go_wp2_with fail
          refine (all_any p c xs.length xs _ hring).mono ?_
          rintro e w3 ⟨a3, c3, rfl, hown3, hring3, hu3⟩
          obtain ⟨g3, hg3⟩ : ∃ g3, a3 = some ⟨g3, 0, none⟩ := by
            rcases hown3.2 with ⟨_, h0⟩ | ⟨g, cp, cur, he, _⟩
            · omega
            · exact ⟨g, by cases he; rfl⟩
          subst hg3
          have hg3 := (hown3.lt g3 rfl)
          have hp3 := hring.ltp
          have hc3 := hring.ltc
          have hws := hupd.size
          replace hupd : Upd [] w w3 := hupd.trans hu3 (fun x hx hl => by simp at hx; omega)
          clear hring hU2 hr hk hlt
          go_wp2_with fail
          refine (twin_any p c xs.length xs _ hring3).mono ?_
          rintro e w4 ⟨q, d, rfl, htw4, hring4, hu4, hq, hd⟩
          have hown4 := own_keep hown3 hu4 (fun k hk => by simp [Value.ownBlock] at hk; simp; omega)
          have hs4 := hring3.ltp
          replace hupd : Upd [] w w4 := hupd.trans hu4 (fun x hx hl => by simp at hx; omega)
          clear hring3 hu3 hu4 hown3
          go_wp2_with fail
          refine (toUpd (row_eq _ _ _ _ xs _ (Rd.of_own hown4) (hx.keep0 hupd) (by omega))).mono ?_
          rintro e w5 ⟨rfl, hu5⟩
          have hring5 := hring4.keep hu5 (by simp) (by simp)
          have htw5 := htw4.keep hu5 (by simp) (by simp)
          have hown5 := own_keep0 hown4 hu5
          replace hupd : Upd [] w w5 := hupd.trans0 hu5
          clear hring4 htw4 hown4 hu5
          obtain ⟨k, hk⟩ := Int.eq_ofNat_of_zero_le (show 0 ≤ at' % ((xs.length : Nat) : Int) by exact Int.emod_nonneg _ (by omega))
          have hkn : k < xs.length := by
            have := Int.emod_lt_of_pos at' (show (0 : Int) < (xs.length : Int) by omega)
            omega
          go_wp2
          rw [hk]
          clear hk
          go_loopw [11] (fun i wr => ∃ (i' : Nat) (zs : List Int), i' ≤ xs.length ∧ i = .int .i64 i' ∧ zs.length = xs.length ∧ wr.ownsRow w.heap.size 2 1 (.slice (some ⟨g3, 0, none⟩) xs.length c3) xs.length (zs.map (Value.int .i64)) ∧ RingAt wr p c xs.length xs ∧ RingAt wr q d xs.length xs ∧ Upd [] w wr) (fun i _ => xs.length - (intOf i).toNat)
          case atStart => exact ⟨0, xs, Nat.zero_le _, rfl, rfl, own_lower hown5 (by omega), hring5, htw5, hupd⟩
          case round =>
            clear hring5 htw5 hown5 hupd
            obtain ⟨i, zs, hi, rfl, hzl, hown, hring, htw, hupd⟩ := hrel
            by_cases hlt : i < xs.length
            · have HZ := Lib.hid hzl
              have hc := get_ints (show i < zs.length by omega)
              generalize zs.getD i 0 = z at hc
              have g1 := hown.cellAt i (by omega)
              rw [hc] at g1
              have f1 := hown.frozenAt i
              have hst := fun u => hown.stored i u
              clear hc hzl
              go_wp2
              go_roundw
              case rel =>
                refine ⟨i + 1, zs.set i (wrap64 (z + 1)), by omega, by go_num, ?_, ?_, hring.keep ((Upd.refl [g3] _).setCell _ _ (fun _ => by simp)) (by simp; omega) (by simp; omega), htw.keep ((Upd.refl [g3] _).setCell _ _ (fun _ => by simp)) (by simp; omega) (by simp; omega), hupd.setCell _ _ (fun h => by simp at h; omega)⟩
                · rw [List.length_set]; exact HZ.out
                · have := hst (.int .i64 (wrap64 (z + 1)))
                  rw [List.map_set]
                  exact this.1
              case measure => simp [intOf]; omega
            · obtain rfl : i = xs.length := by omega
              clear hown hzl hi hlt
              go_wp2
              go_loopw [12] (fun i wr => ∃ (i' : Nat), i' ≤ k ∧ i = .int .i64 i' ∧ RingAt wr p c xs.length xs ∧ RingAt wr q d xs.length (xs.drop i') ∧ Upd [] w wr) (fun i _ => k - (intOf i).toNat)
              case atStart => exact ⟨0, Nat.zero_le _, rfl, hring, by simpa using htw, hupd⟩
              case round =>
                clear hring htw hupd
                obtain ⟨i, hi, rfl, hring, htw, hupd⟩ := hrel
                by_cases hlt : i < k
                · rw [List.drop_eq_getElem_cons (show i < xs.length by omega)] at htw
                  go_wp2_with fail
                  refine (pop_some q d xs.length _ _ _ htw).mono ?_
                  rintro e w7 ⟨rfl, htw7, hu7⟩
                  have hring7 := hring.keep hu7 (by simp; omega) (by simp; omega)
                  replace hupd : Upd [] w w7 := hupd.trans hu7 (fun x hx hl => by simp at hx; omega)
                  clear hring htw hu7
                  go_wp2
                  go_roundw
                  case rel => exact ⟨i + 1, by omega, by go_num, hring7, htw7, hupd⟩
                  case measure => simp [intOf]; omega
                · obtain rfl : i = k := by omega
                  clear hlt hi
                  have hud : Upd [] wr wr.drew := (Upd.refl _ _).drew
                  have hringd := hring.keep hud (by simp) (by simp)
                  have htwd := htw.keep hud (by simp) (by simp)
                  have hupdd := hupd.trans0 hud
                  have hxd := hx.keep0 hupdd
                  obtain ⟨a', c', hrd1, hob, hsl0, hsl, hsl1⟩ := hxd.cut tI64 i xs.length (by omega) (by omega)
                  replace hsl := hsl rfl
                  simp only [Nat.mul_one] at hrd1
                  rw [← List.map_drop, List.take_of_length_le (by simp)] at hrd1
                  have hdl : xs.length - i = (xs.drop i).length := by simp
                  rw [hdl] at hrd1 hsl hob
                  clear hsl0 hsl1 hud hring htw hupd
                  obtain ⟨ys, hys⟩ : ∃ ys, ys = xs.drop i := ⟨_, rfl⟩
                  rw [← hys] at hrd1 hsl hob htwd hdl
                  have HYL := Lib.hid hdl
                  clear hys hdl
                  have hxb : ∀ k, (Value.slice a xs.length cap).ownBlock = some k → k < w.heap.size := fun k hk => hx.lt hk (by simp; omega)
                  have hxb2 : ∀ k, (Value.slice a' ys.length c').ownBlock = some k → k < w.heap.size := fun k hk => hxb k (hob k hk)
                  have HXB := Lib.hid hxb
                  have HXB2 := Lib.hid hxb2
                  clear hxb hxb2 hob
                  have hwrap : IntKind.i64.wrap ((xs.length : Int) - (ys.length : Int)) = (xs.length : Int) - (ys.length : Int) := IntWalk.i64_in _ (by have := HYL.out; omega)
                  go_wp2_with fail
                  go_region_held3 (fun w' => True) (first | trivial | go_keep) (first
                    | (go_at_call 16; refine (toUpd (room_any q d _ ys _ (htw8.keep hu9 (by simp) (by simp)))).mono ?_; rintro e w10 ⟨rfl, hu10⟩)
                    | (go_at_call 16; refine (toUpd (room_any p c _ xs _ hring8)).mono ?_; rintro e w9 ⟨rfl, hu9⟩)
                    | (go_at_call 17; refine (toUpd (row_eq _ _ _ _ ys _ (Rd.of_own hown7) (hrd7.keep hu7 (fun k hk _ => by have := HXB2.out k hk; simp; omega)) (by have := HYL.out; omega))).mono ?_; rintro e w8 ⟨rfl, hu8⟩; have htw8 := htw7.keep hu8 (by simp) (by simp); have hring8 := hring7.keep hu8 (by simp) (by simp))
                    | (go_at_call 18; refine (all_any q d _ ys _ htw6).mono ?_; rintro e w7 ⟨a7, c7, rfl, hown7, htw7, hu7⟩; have hring7 := hring6.keep hu7 (by simp; omega) (by simp; omega))
                    | (go_at_call 17; refine (toUpd (row_eq _ _ _ _ xs _ (Rd.of_own hown5) (hxd.keep hu5 (fun k hk _ => by have := HXB.out k hk; simp; omega)) (by omega))).mono ?_; rintro e w6 ⟨rfl, hu6⟩; have htw6 := htw5.keep hu6 (by simp) (by simp); have hring6 := hring5.keep hu6 (by simp) (by simp); have hrd7 := (hrd1.keep hu5 (fun k hk _ => by have := HXB2.out k hk; simp; omega)).keep0 hu6)
                    | (go_at_call 18; refine (all_any p c _ xs _ hringd).mono ?_; rintro e w5 ⟨a5, c5, rfl, hown5, hring5, hu5⟩; have htw5 := htwd.keep hu5 (by simp; omega) (by simp; omega)))
                  have hyl := HYL.out
                  have hupd2 : Upd [] w w10 := ((((((hupdd.trans hu5 (fun x hx hl => by simp at hx; omega)).trans0 hu6).trans hu7 (fun x hx hl => by simp at hx; omega)).trans0 hu8).trans0 hu9)).trans0 hu10
                  have hk2 : ((xs.length : Int) - (ys.length : Int) == (i : Int)) = true := by rw [beq_iff_eq]; omega
                  clear hwrap hyl
                  go_wp2
                  go_ret
                  exact ⟨by have := HYL.out; simp; omega, hupd2⟩
    · have hl1 : decide ((16 : Int) < (xs.length : Int)) = true := decide_eq_true (by omega)
      have hl1' : decide (16 < xs.length) = true := decide_eq_true (by omega)
      go_wp2
      go_ret
      exact ⟨rfl, hu1⟩
  · have hl0 : decide ((xs.length : Int) < 1) = true := decide_eq_true (by omega)
    have hl0' : decide (xs.length < 1) = true := decide_eq_true (by omega)
    go_wp2
    go_ret
    exact ⟨rfl, hu1⟩
theorem ringApart_law (a : Option Addr) (cap : Nat) (xs : List Int) (at' : Int) (w : World) (hx : Rd w (.slice a xs.length cap) xs.length (xs.map (Value.int .i64))) (_ : ∀ n ∈ xs, (Lit.int .i64 n).wf = true) (h1 : (Lit.int .u8 at').wf = true) :
    Calls Try.prog 6 #[.slice a xs.length cap, .int .u8 at'] w fun e w' => e = .returned (.bool true) ∧ Upd [] w w' :=
  ringApart_walk a cap xs at' (wf_u8 h1).1 (wf_u8 h1).2 w hx
end Go.Proofs.Ytfimcimbnoolnaa
