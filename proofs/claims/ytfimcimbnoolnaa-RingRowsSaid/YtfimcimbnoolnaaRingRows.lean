/- As many as there is room for are taken and come out in their order; one more is not taken. -/
import Derived.Test.YtfimcimbnoolnaaRingKnown
import Derived.Deep.RegionHeld3
namespace Go.Proofs.Ytfimcimbnoolnaa
set_option linter.unusedVariables false
set_option linter.unusedSimpArgs false
open Go.RowKit Go.Conc

set_option maxHeartbeats 3200000 in
set_option maxRecDepth 100000 in
theorem ringRows_walk (room : Int) (hr0 : 0 ≤ room) (hr1 : room ≤ 255) (a : Option Addr) (cap : Nat) (xs : List Int) (w : World) (hx : Rd w (.slice a xs.length cap) xs.length (xs.map (Value.int .i64))) :
    Calls Try.prog 4 #[.int .u8 room, .slice a xs.length cap] w fun e w' => e = .returned (.bool true) ∧ Upd [] w w' := by
  go_enter Try.func4, Try.ntmps4
  go_wp2_with fail
  refine (known3_ok _).mono ?_
  rintro e w1 ⟨rfl, hu1⟩
  by_cases hl : xs.length ≤ 40
  · have hl0 : decide ((40 : Int) < (xs.length : Int)) = false := by simp; omega
    have hl0' : decide (40 < xs.length) = false := by simp; omega
    obtain ⟨n, hn⟩ := Int.eq_ofNat_of_zero_le (show 0 ≤ room % 17 by omega)
    have hn16 : n ≤ 16 := by omega
    have hm : room.tmod 17 = n := by rw [Int.tmod_eq_emod_of_nonneg hr0]; exact hn
    go_wp2_with fail
    refine (new_ok n hn16 _).mono ?_
    rintro e w2 ⟨p, c, rfl, hr, hu2, hp, hc⟩
    have hU2 : Upd [] w w2 := hu1.trans0 hu2
    have hpw : w.heap.size ≤ p := Nat.le_trans hu1.size hp
    have hcw : w.heap.size ≤ c := Nat.le_trans hu1.size hc
    clear hu1 hu2 hp hc
    obtain ⟨m, HM, hmin⟩ := run_min_nat (P := Try.prog) n xs.length
    go_wp2
    go_loopw [9] (fun i wr => ∃ k : Nat, k ≤ xs.length ∧ i = .int .i64 k ∧ RingAt wr p c n (xs.take (min k n)) ∧ Upd [] w wr) (fun i _ => xs.length - (intOf i).toNat)
    case atStart => exact ⟨0, Nat.zero_le _, rfl, by simpa using hr, hU2⟩
    case round =>
      obtain ⟨k, hk, rfl, hring, hupd⟩ := hrel
      by_cases hlt : k < xs.length
      · have hxk := hx.keep0 hupd
        have hc := get_ints hlt
        have ht3 := (take_drop_succ xs k hlt).2.2
        generalize xs.getD k 0 = y at hc ht3
        obtain ⟨b, off, rfl, hcell⟩ := hxk.at (by omega)
        have g1 := hcell k _ hc
        have T3 := Lib.hid ht3
        clear hc hcell ht3
        by_cases hkn : k < n
        · have hmk : min k n = k := by omega
          rw [hmk] at hring
          have hd : decide ((k : Int) < (n : Int)) = true := by simp; omega
          have hd' : decide (k < n) = true := by simp; omega
          clear hmk
          go_wp2_with fail
          refine (push_room p c n _ y _ hring (by simp; omega)).mono ?_
          rintro e w3 ⟨rfl, hring3, hu3⟩
          rw [← T3.out] at hring3
          have hupd3 : Upd [] w w3 := hupd.trans hu3 (fun x hx hl => by simp at hx; omega)
          clear hupd hu3 hring g1
          go_wp2
          go_roundw
          case rel => exact ⟨k + 1, by omega, by go_num, by rw [show min (k + 1) n = k + 1 by omega]; exact hring3, hupd3⟩
          case measure => simp [intOf]; omega
        · have hmk : min k n = n := by omega
          rw [hmk] at hring
          have hd : decide ((k : Int) < (n : Int)) = false := by simp; omega
          have hd' : decide (k < n) = false := by simp; omega
          clear hmk
          go_wp2_with fail
          refine (push_full p c n _ y _ hring (by simp; omega)).mono ?_
          rintro e w3 ⟨rfl, rfl⟩
          go_wp2
          go_roundw
          case rel => exact ⟨k + 1, by omega, by go_num, by rw [show min (k + 1) n = n by omega]; exact hring, hupd⟩
          case measure => simp [intOf]; omega
      · obtain rfl : k = xs.length := by omega
        have hm := HM.out
        rw [Nat.min_comm, ← hm] at hring
        have hmn : m ≤ n := by omega
        have hml : m ≤ xs.length := by omega
        obtain ⟨a', c', hrd1, hob, hsl0, hsl1, hsl⟩ := (hx.keep0 hupd).cut tI64 0 m (by omega) hml
        replace hsl := hsl rfl
        simp only [Nat.sub_zero, Nat.zero_mul, List.drop_zero, Nat.mul_one] at hrd1 hsl hob
        rw [← List.map_take] at hrd1
        clear hsl0 hsl1
        clear hm
        have hud : Upd [] wr wr.drew := (Upd.refl _ _).drew
        have hringd := hring.keep hud (by simp) (by simp)
        have hrdd := hrd1.keep0 hud
        have hupdd := hupd.trans0 hud
        obtain ⟨ys, hys⟩ : ∃ ys, ys = xs.take m := ⟨_, rfl⟩
        have hlen : m = ys.length := by rw [hys]; simp; omega
        rw [← hys] at hringd hrdd
        have HYS := Lib.hid hys
        clear hys hud hring hrd1 hupd
        subst hlen
        have hbk : ∀ k, (Value.slice a' ys.length c').ownBlock = some k → 0 < (ys.map (Value.int .i64)).length → k ≠ c := fun k hk hn => by
          have := hx.lt (hob k hk) (by simp at hn ⊢; omega)
          omega
        have hwrap : IntKind.i64.wrap ((n : Int) - (ys.length : Int)) = (n : Int) - (ys.length : Int) := IntWalk.i64_in _ (by omega)
        go_wp2_with fail
        go_region_held3 (fun w' => True) (first | trivial | go_keep) (first
          | (go_at_call 18; refine (all_any p c n ys _ hringd).mono ?_; rintro e w3 ⟨a3, c3, rfl, hown3, hring3, hu3⟩)
          | (go_at_call 17; refine (toUpd (row_eq a3 a' c3 c' ys _ (Rd.of_own hown3) (hrdd.keep hu3 (fun k hk hn => by have := hbk k hk hn; simpa using this)) (by omega))).mono ?_; rintro e w4 ⟨rfl, hu4⟩)
          | (go_at_call 15; refine (toUpd0 (len_any p c n ys _ (hring3.keep hu4 (by simp) (by simp)))).mono ?_; rintro e w5 ⟨rfl, hu5⟩)
          | (go_at_call 16; refine (toUpd (room_any p c n ys _ ((hring3.keep hu4 (by simp) (by simp)).keep hu5 (by simp) (by simp)))).mono ?_; rintro e w6 ⟨rfl, hu6⟩))
        have hring6 := ((hring3.keep hu4 (by simp) (by simp)).keep hu5 (by simp) (by simp)).keep hu6 (by simp) (by simp)
        have hupd6 : Upd [] w w6 := (((hupdd.trans hu3 (fun x hx hl => by simp at hx; omega)).trans0 hu4).trans0 hu5).trans0 hu6
        clear hring3 hu3 hu4 hu5 hu6 hown3 hrdd hringd hupdd
        clear hwrap
        go_wp2
        go_loopw [10] (fun i wr => ∃ k : Nat, k ≤ ys.length ∧ i = .int .i64 k ∧ RingAt wr p c n (ys.drop k) ∧ Upd [] w wr) (fun i _ => ys.length - (intOf i).toNat)
        case atStart => exact ⟨0, Nat.zero_le _, rfl, by simpa using hring6, hupd6⟩
        case round =>
          obtain ⟨k, hk, rfl, hring, hupd⟩ := hrel
          by_cases hlt : k < ys.length
          · have hxk := hx.keep0 hupd
            have hc := get_ints (show k < xs.length by omega)
            have hg : xs.getD k 0 = ys[k] := by
              have h2 : ys[k]? = (xs.take ys.length)[k]? := congrArg (·[k]?) HYS.out
              rw [List.getElem?_take, if_pos hlt, List.getElem?_eq_getElem hlt] at h2
              rw [List.getD_eq_getElem?_getD, ← h2]
              rfl
            rw [hg] at hc
            rw [List.drop_eq_getElem_cons hlt] at hring
            generalize ys[k] = y at hc hring
            obtain ⟨b, off, rfl, hcell⟩ := hxk.at (by omega)
            have g1 := hcell k _ hc
            have hkx : k < xs.length := by omega
            have hyy : (y != y) = false := by simp
            clear hc hcell hg hxk
            go_wp2_with fail
            refine (pop_some p c n y _ _ hring).mono ?_
            rintro e w7 ⟨rfl, hring7, hu7⟩
            have g7 := hu7.cell g1 (by
              have := hx.lt (k := b) rfl (by simp; omega)
              simp; omega)
            replace hupd : Upd [] w w7 := hupd.trans hu7 (fun x hx hl => by simp at hx; omega)
            clear hu7 hring g1
            go_wp2
            go_roundw
            case rel => exact ⟨k + 1, by omega, by go_num, hring7, hupd⟩
            case measure => simp [intOf]; omega
          · obtain rfl : k = ys.length := by omega
            rw [List.drop_of_length_le (Nat.le_refl _)] at hring
            go_wp2_with fail
            refine (toUpd0 (pop_none p c n _ hring)).mono ?_
            rintro e w7 ⟨rfl, hu7⟩
            have hring7 := hring.keep hu7 (by simp) (by simp)
            go_wp2_with fail
            refine (toUpd (room_any p c n [] _ hring7)).mono ?_
            rintro e w8 ⟨rfl, hu8⟩
            replace hupd : Upd [] w w8 := (hupd.trans0 hu7).trans0 hu8
            go_wp2
            go_ret
            exact ⟨by simp, hupd⟩
  · have hl0 : decide ((40 : Int) < (xs.length : Int)) = true := by simp; omega
    have hl0' : decide (40 < xs.length) = true := by simp; omega
    go_wp2
    go_ret
    exact ⟨rfl, hu1⟩
theorem ringRows_law (room : Int) (a : Option Addr) (cap : Nat) (xs : List Int) (w : World) (h0 : (Lit.int .u8 room).wf = true) (hx : Rd w (.slice a xs.length cap) xs.length (xs.map (Value.int .i64))) (_ : ∀ n ∈ xs, (Lit.int .i64 n).wf = true) :
    Calls Try.prog 4 #[.int .u8 room, .slice a xs.length cap] w fun e w' => e = .returned (.bool true) ∧ Upd [] w w' :=
  ringRows_walk room (wf_u8 h0).1 (wf_u8 h0).2 a cap xs w hx
end Go.Proofs.Ytfimcimbnoolnaa
