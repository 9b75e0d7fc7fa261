/- Round and round, one in, one out: each comes out as it went in, so many behind. -/
import Derived.Test.YtfimcimbnoolnaaRingKnown
namespace Go.Proofs.Ytfimcimbnoolnaa
set_option linter.unusedVariables false
set_option linter.unusedSimpArgs false
open Go.RowKit Go.Conc

/-- What goes round: what stands ahead, then the values. -/
def trow (k : Nat) (xs : List Int) : List Int := (List.range k).map (fun j : Nat => -(j : Int)) ++ xs
theorem trow_length (k : Nat) (xs : List Int) : (trow k xs).length = k + xs.length := by simp [trow]
theorem trow_lo {k i : Nat} {xs : List Int} (h : i < k) : (trow k xs)[i]? = some (-(i : Int)) := by
  rw [trow, List.getElem?_append_left (by simpa using h), List.getElem?_map, List.getElem?_range h]
  rfl
theorem trow_hi {k i : Nat} {xs : List Int} (h : k ≤ i) : (trow k xs)[i]? = xs[i - k]? := by
  simp [trow, List.getElem?_append_right (show ((List.range k).map (fun j : Nat => -(j : Int))).length ≤ i by simpa using h)]
theorem twin_push {f : List Int} {i k : Nat} {y : Int} (h : f[i + k]? = some y) : (f.drop i).take k ++ [y] = (f.drop i).take (k + 1) := by
  rw [List.take_add_one, List.getElem?_drop, h]
  rfl
theorem twin_pop {f : List Int} {i k : Nat} {x : Int} (h : f[i]? = some x) : (f.drop i).take (k + 1) = x :: (f.drop (i + 1)).take k := by
  have hl := (List.getElem?_eq_some_iff.1 h).1
  rw [List.drop_eq_getElem_cons hl, List.take_succ_cons]
  rw [List.getElem?_eq_getElem hl] at h
  simp at h
  rw [h]

set_option maxHeartbeats 3200000 in
set_option maxRecDepth 100000 in
theorem ringTurns_walk (room ahead : Int) (hr0 : 0 ≤ room) (hr1 : room ≤ 255) (ha0 : 0 ≤ ahead) (ha1 : ahead ≤ 255) (a : Option Addr) (cap : Nat) (xs : List Int) (w : World) (hx : Rd w (.slice a xs.length cap) xs.length (xs.map (Value.int .i64))) :
    Calls Try.prog 5 #[.int .u8 room, .int .u8 ahead, .slice a xs.length cap] w fun e w' => e = .returned (.bool true) ∧ Upd [] w w' := by
  go_enter Try.func5, Try.ntmps5
  go_wp2_with fail
  refine (known3_ok _).mono ?_
  rintro e w1 ⟨rfl, hu1⟩
  by_cases hl : xs.length ≤ 60
  · have hl0 : decide ((60 : Int) < (xs.length : Int)) = false := by simp; omega
    have hl0' : decide (60 < xs.length) = false := by simp; omega
    obtain ⟨n0, hn⟩ := Int.eq_ofNat_of_zero_le (show 0 ≤ room % 16 by omega)
    have hn16 : n0 + 1 ≤ 16 := by omega
    obtain ⟨k, hk⟩ := Int.eq_ofNat_of_zero_le (show 0 ≤ ahead % ((1 : Int) + n0) by exact Int.emod_nonneg _ (by omega))
    have hkn : k < n0 + 1 := by
      have := Int.emod_lt_of_pos ahead (show (0 : Int) < 1 + n0 by omega)
      omega
    go_wp2_with fail
    have e1 : (1 : Int) + (n0 : Int) = ((n0 + 1 : Nat) : Int) := by omega
    rw [e1]
    refine (new_ok (n0 + 1) hn16 _).mono ?_
    rintro e w2 ⟨p, c, rfl, hr, hu2, hp, hc⟩
    rw [← e1]
    clear e1
    have hU2 : Upd [] w w2 := hu1.trans0 hu2
    have hpw : w.heap.size ≤ p := Nat.le_trans hu1.size hp
    have hcw : w.heap.size ≤ c := Nat.le_trans hu1.size hc
    clear hu1 hu2 hp hc
    go_wp2
    go_loopw [11] (fun i wr => ∃ j : Nat, j ≤ k ∧ i = .int .i64 j ∧ RingAt wr p c (n0 + 1) ((trow k xs).take j) ∧ Upd [] w wr) (fun i _ => k - (intOf i).toNat)
    case atStart => exact ⟨0, Nat.zero_le _, rfl, by simpa using hr, hU2⟩
    case round =>
      obtain ⟨j, hj, rfl, hring, hupd⟩ := hrel
      have htl := trow_length k xs
      by_cases hlt : j < k
      · go_wp2_with fail
        refine (push_room p c (n0 + 1) _ _ _ hring (by simp; omega)).mono ?_
        rintro e w3 ⟨rfl, hring3, hu3⟩
        have hring4 : RingAt w3 p c (n0 + 1) ((trow k xs).take (j + 1)) := by
          rw [List.take_add_one, trow_lo hlt]
          simpa using hring3
        replace hupd : Upd [] w w3 := hupd.trans hu3 (fun x hx hl => by simp at hx; omega)
        clear hu3 hring hring3
        go_wp2
        go_roundw
        case rel => exact ⟨j + 1, by omega, by go_num, hring4, hupd⟩
        case measure => simp [intOf]; omega
      · obtain rfl : j = k := by omega
        clear htl hlt hj
        go_wp2
        go_loopw [12] (fun i wr => ∃ i' : Nat, i' ≤ xs.length ∧ i = .int .i64 i' ∧ RingAt wr p c (n0 + 1) (((trow j xs).drop i').take j) ∧ Upd [] w wr) (fun i _ => xs.length - (intOf i).toNat)
        case atStart => exact ⟨0, Nat.zero_le _, rfl, by simpa using hring, hupd⟩
        case round =>
          clear hring hupd
          obtain ⟨i, hi, rfl, hring, hupd⟩ := hrel
          have htl := trow_length j xs
          by_cases hlt : i < xs.length
          · have hxk := hx.keep0 hupd
            have hc := get_ints hlt
            have hf : (trow j xs)[i + j]? = some (xs.getD i 0) := by
              rw [trow_hi (by omega)]
              simp [List.getD, hlt]
            generalize xs.getD i 0 = y at hc hf
            obtain ⟨b, off, rfl, hcell⟩ := hxk.at (by omega)
            have g1 := hcell i _ hc
            have hpush := twin_push hf
            obtain ⟨x, hxv⟩ : ∃ x, (trow j xs)[i]? = some x := ⟨_, List.getElem?_eq_getElem (by omega)⟩
            have hpop := twin_pop (k := j) hxv
            have HPU := Lib.hid hpush
            have HPO := Lib.hid hpop
            have HX := Lib.hid hxv
            have hsz : (((trow j xs).drop i).take j).length = j := by simp; omega
            have HS := Lib.hid hsz
            have hbw : b < w.heap.size := hx.lt (k := b) rfl (by simp; omega)
            clear hc hf hcell hpush hpop hxv hsz
            go_wp2_with fail
            refine (push_room p c (n0 + 1) _ _ _ hring (by rw [HS.out]; omega)).mono ?_
            rintro e w3 ⟨rfl, hring3, hu3⟩
            rw [HPU.out, HPO.out] at hring3
            have hlen3 : (x :: ((trow j xs).drop (i + 1)).take j).length = j + 1 := by rw [← HPO.out]; simp; omega
            have HL3 := Lib.hid hlen3
            replace hupd : Upd [] w w3 := hupd.trans hu3 (fun x hx hl => by simp at hx; omega)
            clear hu3 hring hlen3 g1 hxk
            go_wp2_with fail
            refine (toUpd0 (len_any p c (n0 + 1) _ _ hring3)).mono ?_
            rintro e w4 ⟨rfl, hu4⟩
            rw [HL3.out]
            have hring4 := hring3.keep hu4 (by simp) (by simp)
            replace hupd : Upd [] w w4 := hupd.trans0 hu4
            clear hu4 hring3
            go_wp2_with fail
            refine (pop_some p c (n0 + 1) _ _ _ hring4).mono ?_
            rintro e w5 ⟨rfl, hring5, hu5⟩
            replace hupd : Upd [] w w5 := hupd.trans hu5 (fun x hx hl => by simp at hx; omega)
            clear hu5 hring4
            by_cases hij : i < j
            · have hx2 := HX.out
              rw [trow_lo hij] at hx2
              obtain rfl : -(i : Int) = x := by simpa using hx2
              have hd : decide ((j : Int) ≤ (i : Int)) = false := by simp; omega
              have hd' : decide (j ≤ i) = false := by simp; omega
              clear hx2
              go_wp2
              go_roundw
              case rel => exact ⟨i + 1, by omega, by go_num, hring5, hupd⟩
              case measure => simp [intOf]; omega
            · have hx2 := HX.out
              rw [trow_hi (by omega)] at hx2
              have hc2 : (xs.map (Value.int .i64))[i - j]? = some (.int .i64 x) := by rw [List.getElem?_map, hx2]; rfl
              obtain ⟨b', off', he', hcell⟩ := (hx.keep0 hupd).at (by omega)
              obtain ⟨rfl, rfl⟩ : b = b' ∧ off = off' := by simpa using he'
              have g2 := hcell _ _ hc2
              have hd : decide ((j : Int) ≤ (i : Int)) = true := by simp; omega
              have hd' : decide (j ≤ i) = true := by simp; omega
              have hsub : (0 : Int) ≤ (i : Int) - (j : Int) := by omega
              have hsub2 : (i : Int) - (j : Int) < (xs.length : Int) := by omega
              have hsub3 : ((i : Int) - (j : Int)).toNat = i - j := by omega
              clear hx2 hc2 hcell he'
              go_wp2
              go_roundw
              case rel => exact ⟨i + 1, by omega, by go_num, hring5, hupd⟩
              case measure => simp [intOf]; omega
          · obtain rfl : i = xs.length := by omega
            have hsz : (((trow j xs).drop xs.length).take j).length = j := by simp; omega
            have HS := Lib.hid hsz
            clear hsz htl
            go_wp2_with fail
            refine (toUpd0 (len_any p c (n0 + 1) _ _ hring)).mono ?_
            rintro e w4 ⟨rfl, hu4⟩
            rw [HS.out]
            go_wp2
            go_ret
            exact ⟨by simp, hupd.trans0 hu4⟩
  · have hl0 : decide ((60 : Int) < (xs.length : Int)) = true := by simp; omega
    have hl0' : decide (60 < xs.length) = true := by simp; omega
    go_wp2
    go_ret
    exact ⟨rfl, hu1⟩
theorem ringTurns_law (room ahead : Int) (a : Option Addr) (cap : Nat) (xs : List Int) (w : World) (h0 : (Lit.int .u8 room).wf = true) (h1 : (Lit.int .u8 ahead).wf = true) (hx : Rd w (.slice a xs.length cap) xs.length (xs.map (Value.int .i64))) (_ : ∀ n ∈ xs, (Lit.int .i64 n).wf = true) :
    Calls Try.prog 5 #[.int .u8 room, .int .u8 ahead, .slice a xs.length cap] w fun e w' => e = .returned (.bool true) ∧ Upd [] w w' :=
  ringTurns_walk room ahead (wf_u8 h0).1 (wf_u8 h0).2 (wf_u8 h1).1 (wf_u8 h1).2 a cap xs w hx
end Go.Proofs.Ytfimcimbnoolnaa
