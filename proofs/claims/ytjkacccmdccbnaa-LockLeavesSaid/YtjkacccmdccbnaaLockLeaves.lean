/- Who has left has a lock no more in his turn; the owner stays. -/
import Derived.Test.YtjkacccmdccbnaaLockOnce
import Derived.Deep.Grids
namespace Go.Proofs.Ytjkacccmdccbnaa
set_option linter.unusedVariables false
set_option linter.unusedSimpArgs false
open Go.RowKit Go.Deep

theorem get_bools {xs : List Bool} {j : Nat} (h : j < xs.length) : (xs.map Value.bool)[j]? = some (.bool (xs.getD j false)) := by
  rw [List.getElem?_map, List.getElem?_eq_getElem h]
  simp [List.getD, h]
/-- A slice of bools that came in. -/
theorem rd_bools {P : Program} {H : Type} {enc : TypeId × Value → H} {t e : TypeId} {W : World} {base fuel len cap : Nat} {held : Bool} {a : Option Addr} {x : DataW H × List MemPlace}
    (ht : P.underlying t = some (.slice e)) (he : P.underlying e = some .bool) (hc : P.cellsOf e = 1)
    (h : DataW.trod enc P W base (fun _ => true) held fuel t [.slice a len cap] = some x) :
    ∃ xs : List Bool, len = xs.length ∧ Rd W (.slice a xs.length cap) xs.length (xs.map Value.bool) := by
  rcases open_bools ht he hc h with ⟨hcs, _⟩ | ⟨x, l, c, B, hcs, _, hl, hm, _, hcell⟩
  · simp at hcs
    obtain ⟨rfl, rfl, rfl⟩ := hcs
    exact ⟨[], rfl, Rd.nil W⟩
  · simp at hcs
    obtain ⟨rfl, rfl, rfl⟩ := hcs
    refine ⟨(List.range len).map B, by simp, ?_⟩
    have hlen : ((List.range len).map B).length = len := by simp
    rw [hlen]
    refine ⟨_, cap, rfl, hl, hm, (fun h => by cases h), ?_⟩
    rcases Nat.eq_zero_or_pos len with rfl | hp
    · exact .inl ⟨rfl, by simp⟩
    · have h0 := hcell 0 (by omega)
      have hs : x.spot = none := by
        have e : x.add 0 = x := by simp [Addr.add]
        rw [e] at h0
        simp only [World.cell?] at h0
        split at h0
        · split at h0
          · simp at h0
          · simpa using ‹¬ x.spot.isSome = true›
        · simp at h0
      obtain ⟨b, off, spot⟩ := x
      simp only at hs
      subst hs
      refine .inr ⟨b, off, rfl, fun j u hj => ?_⟩
      rw [List.getElem?_map] at hj
      obtain ⟨y, hy, rfl⟩ := Option.map_eq_some_iff.1 hj
      have hjl : j < len := by
        have := (List.getElem?_eq_some_iff.1 hy).1
        simp at this
        omega
      have := hcell j (by omega)
      have e2 : (⟨b, off, none⟩ : Addr).add j = ⟨b, off + j, none⟩ := by unfold Addr.add; split <;> simp_all
      rw [e2] at this
      rw [this]
      rw [List.getElem?_map, List.getElem?_range hjl] at hy
      simp at hy
      rw [hy]

/-- Who waits once the first i have been asked whether they leave. -/
abbrev stays (G : Nat → Bool) (i x : Nat) : Bool := decide (0 < x) && !(decide (x < i) && G x)
theorem stays_leave {G : Nat → Bool} {k i : Nat} (h : G i = true) : leave (qp k (stays G i)) (i : Int) = qp k (stays G (i + 1)) := by
  rw [leave_qp]
  refine qp_congr fun x _ => ?_
  by_cases hx : x = i
  · subst hx; simp [stays, h]
  · have h1 : (x == i) = false := beq_eq_false_iff_ne.2 hx
    have h2 : decide (x < i + 1) = decide (x < i) := by by_cases hh : x < i <;> simp [hh] <;> omega
    simp [stays, h1, h2]
theorem stays_skip {G : Nat → Bool} {k i : Nat} (h : G i = false) : qp k (stays G i) = qp k (stays G (i + 1)) := by
  refine qp_congr fun x _ => ?_
  by_cases hx : x = i
  · subst hx; simp [stays, h]
  · have h2 : decide (x < i + 1) = decide (x < i) := by by_cases hh : x < i <;> simp [hh] <;> omega
    simp [stays, h2]

set_option maxHeartbeats 6400000 in
set_option maxRecDepth 100000 in
theorem lockLeaves_walk (n : Int) (a : Option Addr) (cap : Nat) (xs : List Bool) (w : World) (hn0 : 0 ≤ n) (hn1 : n ≤ 255) (hr : Rd w (.slice a xs.length cap) xs.length (xs.map Value.bool)) :
    Calls Try.prog 4 #[.int .u8 n, .slice a xs.length cap] w fun e w' => e = .returned (.bool true) ∧ Upd [] w w' := by
  obtain ⟨k0, hk0⟩ := Int.eq_ofNat_of_zero_le (show 0 ≤ n % 12 by omega)
  obtain ⟨k, hk⟩ : ∃ k, k = k0 + 1 := ⟨_, rfl⟩
  have hk1 : (1 : Int) + (k0 : Int) = (k : Int) := by omega
  have hk12 : k ≤ 12 := by omega
  have hkp : 1 ≤ k := by omega
  clear hk
  go_enter Try.func4, Try.ntmps4
  go_wp2_with fail
  refine (known17_ok _).mono ?_
  rintro e w1 ⟨rfl, hU⟩
  by_cases hbad : xs.length < k
  · have hd0 : decide ((xs.length : Int) < 1 + (k0 : Int)) = true := decide_eq_true (by omega)
    have hd1 : decide (xs.length < k) = true := decide_eq_true hbad
    go_wp2_with fail
    go_ret
    exact ⟨rfl, hU⟩
  have hxl : k ≤ xs.length := by omega
  have hd1 : decide (xs.length < k) = false := decide_eq_false hbad
  clear hbad
  obtain ⟨b0, off0, hae0, hcellw⟩ := hr.at (by omega)
  subst hae0
  have HR0 := Lib.hid hr
  clear hr hcellw
  go_wp2_with fail
  refine (newLock_any _).mono ?_
  rintro e w2 ⟨p, rfl, hL, hu, hp⟩
  have hpw : w.heap.size ≤ p := Nat.le_trans hU.size hp
  replace hU : Upd [] w w2 := hU.trans0 hu
  clear hu hp
  go_wp2
  have HK1 := Lib.hid hk1
  have HK0 := Lib.hid hk0
  clear hk1 hk0
  obtain ⟨G, hG⟩ : ∃ G : Nat → Bool, G = fun x => xs.getD x false := ⟨_, rfl⟩
  have HGG := Lib.hid hG
  clear hG
  go_loopw [7] (fun i wr => ∃ (j : Nat), j ≤ k ∧ i = .int .i64 j ∧ LockP wr p (if j = 0 then -1 else 0) (qgt j 0) ∧ Upd [] w wr) (fun i _ => k - (intOf i).toNat)
  case atStart => exact ⟨0, Nat.zero_le _, rfl, hL, hU⟩
  case round =>
    clear hL hU
    obtain ⟨j, hj, rfl, hL, hU⟩ := hrel
    by_cases hlt : j < k
    · have hll := qgt_len j 0
      have HLL := Lib.hid hll
      clear hll
      by_cases hj0 : j = 0
      · subst hj0
        go_wp2_with fail
        refine (take_free p [] 0 0 _ hL (by simp) (by omega) rfl).mono ?_
        rintro e w3 ⟨rfl, hL3, hu⟩
        replace hU : Upd [] w w3 := hU.trans hu (fun x hx hl => by simp at hx; omega)
        clear hL hu
        go_wp2
        go_roundw
        case rel => exact ⟨1, by omega, by first | rfl | go_num, hL3, hU⟩
        case measure => (simp [intOf]; try omega)
      · rw [if_neg hj0] at hL
        go_wp2_with fail
        refine (take_wait p 0 (qgt j 0) j j _ hL (by rw [HLL.out]; omega) (by omega) (by omega) (by omega) (qgt_any (Nat.le_refl _))).mono ?_
        rintro e w3 ⟨rfl, hL3, hu⟩
        rw [qgt_take (by omega)] at hL3
        replace hU : Upd [] w w3 := hU.trans hu (fun x hx hl => by simp at hx; omega)
        clear hL hu
        go_wp2
        go_roundw
        case rel => exact ⟨j + 1, by omega, by go_num, by rw [if_neg (by omega)]; exact hL3, hU⟩
        case measure => simp [intOf]; omega
    · obtain rfl : j = k := by omega
      rw [if_neg (by omega)] at hL
      have hq0 : qgt j 0 = qp j (stays G 0) := qp_congr fun x _ => by simp [stays]
      rw [hq0] at hL
      clear hq0 hj hlt
      go_wp2
      go_loopw [8] (fun i wr => ∃ (x : Nat), x ≤ j ∧ i = .int .i64 x ∧ LockP wr p 0 (qp j (stays G x)) ∧ Upd [] w wr) (fun i _ => j - (intOf i).toNat)
      case atStart => exact ⟨0, Nat.zero_le _, rfl, hL, hU⟩
      case round =>
        clear hL hU
        obtain ⟨x, hx, rfl, hL, hU⟩ := hrel
        by_cases hlt : x < j
        · have hxx : x < xs.length := by omega
          have hc := get_bools hxx
          obtain ⟨b', off, hae, hcell⟩ := (HR0.out.keep0 hU).at (by omega)
          have hbo : b0 = b' ∧ off0 = off := by
            injection hae with h
            injection h with h1 h2
            exact ⟨h1, h2⟩
          obtain ⟨rfl, rfl⟩ := hbo
          have g1 := hcell x _ hc
          have hgx : G x = xs.getD x false := by rw [HGG.out]
          rw [← hgx] at g1
          clear hae hcell hc hgx
          have hlq := qp_len j (stays G x)
          have HLQ := Lib.hid hlq
          clear hlq
          cases hGx : G x with
          | true =>
            rw [hGx] at g1
            have HGX := Lib.hid hGx
            clear hGx
            go_wp2_with fail
            refine (leaveLock_any p 0 (qp j (stays G x)) x _ hL (by have := HLQ.out; omega)).mono ?_
            rintro e w3 ⟨rfl, hL3, hu⟩
            rw [stays_leave HGX.out] at hL3
            replace hU : Upd [] w w3 := hU.trans hu (fun x hx hl => by simp at hx; omega)
            clear hL hu g1
            go_wp2
            go_roundw
            case rel => exact ⟨x + 1, by omega, by go_num, hL3, hU⟩
            case measure => simp [intOf]; omega
          | false =>
            rw [hGx] at g1
            rw [stays_skip hGx] at hL
            clear hGx
            go_wp2
            go_roundw
            case rel => exact ⟨x + 1, by omega, by go_num, hL, hU⟩
            case measure => simp [intOf]; omega
        · obtain rfl : x = j := by omega
          have hq0 : qp x (stays G x) = qp x (fun y => decide (0 < y) && !G y) := qp_congr fun y hy => by simp [stays, hy]
          rw [hq0] at hL
          clear hq0 hlt hx
          go_wp2
          go_loopw [9, 10] (fun av iv wr => ∃ (at_ i : Nat), av = .int .i64 at_ ∧ iv = .int .i64 i ∧ i ≤ at_ ∧ at_ < x ∧ LockP wr p at_ (qp x (fun y => decide (at_ < y) && !G y)) ∧ Upd [] w wr) (fun av iv _ => x + 1 - (intOf iv).toNat)
          case atStart => exact ⟨0, 0, rfl, rfl, Nat.le_refl _, by omega, hL, hU⟩
          case round =>
            clear hL hU
            obtain ⟨t, i, rfl, rfl, hit, htx, hL, hU⟩ := hrel
            have hdt : ((t : Int) != (t : Int)) = false := by simp
            go_wp2_with fail
            refine (owner_any p t _ _ hL).mono ?_
            rintro e w3 ⟨rfl, rfl⟩
            go_wp2
            go_loopw [11, 12] (fun wv jv wr => LockP wr p t (qp x (fun y => decide (t < y) && !G y)) ∧ Upd [] w wr ∧ ∃ j : Nat, jv = .int .i64 j ∧ t < j ∧ j ≤ x ∧ ((wv = .int .i64 (-1) ∧ ∀ y, t < y → y < j → G y = true) ∨ ∃ y : Nat, wv = .int .i64 y ∧ j = y + 1 ∧ t < y ∧ G y = false ∧ ∀ z, t < z → z < y → G z = true)) (fun _ jv _ => x - (intOf jv).toNat)
            case atStart => exact ⟨hL, hU, t + 1, by go_num, by omega, by omega, .inl ⟨rfl, fun y h1 h2 => by omega⟩⟩
            case round =>
              clear hL hU
              obtain ⟨hL, hU, j, rfl, htj, hjx, ⟨rfl, hall⟩ | ⟨y, rfl, hjy, hty, hGy, hall⟩⟩ := hrel
              · by_cases hlt : j < x
                · have hxx : j < xs.length := by omega
                  have hc := get_bools hxx
                  obtain ⟨b', off, hae, hcell⟩ := (HR0.out.keep0 hU).at (by omega)
                  have hbo : b0 = b' ∧ off0 = off := by
                    injection hae with h
                    injection h with h1 h2
                    exact ⟨h1, h2⟩
                  obtain ⟨rfl, rfl⟩ := hbo
                  have g1 := hcell j _ hc
                  have hgx : G j = xs.getD j false := by rw [HGG.out]
                  rw [← hgx] at g1
                  have HALL := Lib.hid hall
                  clear hae hcell hc hgx hall
                  cases hGx : G j with
                  | true =>
                    rw [hGx] at g1
                    have HGX := Lib.hid hGx
                    clear hGx
                    go_wp2
                    go_roundw
                    case rel => exact ⟨hL, hU, j + 1, by go_num, by omega, by omega, .inl ⟨rfl, fun y h1 h2 => by
                      rcases Nat.lt_or_ge y j with h | h
                      · exact HALL.out y h1 h
                      · obtain rfl : y = j := by omega
                        exact HGX.out⟩⟩
                    case measure => simp [intOf]; omega
                  | false =>
                    rw [hGx] at g1
                    have HGX := Lib.hid hGx
                    clear hGx
                    go_wp2
                    go_roundw
                    case rel => exact ⟨hL, hU, j + 1, by go_num, by omega, by omega, .inr ⟨j, rfl, rfl, htj, HGX.out, HALL.out⟩⟩
                    case measure => simp [intOf]; omega
                · have hqn : qp x (fun y => decide (t < y) && !G y) = [] := qp_nil fun y hy => by
                    by_cases h1 : t < y
                    · simp [hall y h1 (by omega)]
                    · simp [h1]
                  rw [hqn] at hL
                  have hdx : ((-1 : Int) != -1) = false := by simp
                  clear hqn hall
                  go_wp2_with fail
                  refine (give_none p t none 0 [] _ hL (Rd.nil _) (fun k hk _ => by simp [Value.ownBlock] at hk) (by simp) (by omega)).mono ?_
                  rintro e w4 ⟨rfl, hL4, hu⟩
                  replace hU : Upd [] w w4 := hU.trans hu (fun x hx hl => by simp at hx; omega)
                  clear hL hu
                  have hd9 : ((-1 : Int) == -1) = true := rfl
                  go_wp2_with fail
                  refine (owner_any p (-1) _ _ hL4).mono ?_
                  rintro e w5 ⟨rfl, rfl⟩
                  go_wp2_with fail
                  refine (waiters_any p (-1) [] _ hL4 (by simp)).mono ?_
                  rintro e w5 ⟨a5, c5, rfl, _, hu⟩
                  replace hU : Upd [] w w5 := hU.trans0 hu
                  clear hL4 hu
                  go_wp2
                  go_ret
                  exact ⟨rfl, hU⟩
              · have hyx : y < x := by omega
                have hqy : ∃ b, bestTo [] (qp x (fun y => decide (t < y) && !G y)) (qp x (fun y => decide (t < y) && !G y)).length = some b ∧ (qp x (fun y => decide (t < y) && !G y))[b]? = some (mkw y) := by
                  obtain ⟨b, j2, h1, h2, h3, h4, h5⟩ := qp_best [] x (fun y => decide (t < y) && !G y) ⟨y, hyx, by simp [hty, hGy]⟩
                  have h6 := (h5 y hyx (by simp [hty, hGy])).2 (by rw [prioOf_nil, prioOf_nil])
                  have h7 : t < j2 ∧ G j2 = false := by simpa using h4
                  have h8 : ¬ j2 < y := fun h => by rw [hall j2 h7.1 h] at h7; exact absurd h7.2 (by simp)
                  obtain rfl : j2 = y := by omega
                  exact ⟨b, h1, h2⟩
                have hqn : leave (qp x (fun y => decide (t < y) && !G y)) ((y : Nat) : Int) = qp x (fun z => decide (y < z) && !G z) := by
                  rw [leave_qp]
                  refine qp_congr fun z hz => ?_
                  by_cases hzy : z = y
                  · subst hzy; simp
                  · have h1 : (z == y) = false := beq_eq_false_iff_ne.2 hzy
                    rw [h1]
                    by_cases h2 : t < z
                    · by_cases h3 : z < y
                      · simp [hall z h2 h3]
                      · have h4 : y < z := by omega
                        simp [h2, h4]
                    · have h4 : ¬ y < z := by omega
                      simp [h2, h4]
                obtain ⟨bb, hb1, hb2⟩ := hqy
                have HB1 := Lib.hid hb1
                have HB2 := Lib.hid hb2
                have HQN := Lib.hid hqn
                have hlq := qp_len x (fun y => decide (t < y) && !G y)
                have HLQ := Lib.hid hlq
                have hdx : ((y : Int) != (y : Int)) = false := by simp
                have hdy : decide ((y : Int) < 0) = false := decide_eq_false (by omega)
                clear hb1 hb2 hqn hlq hall hGy
                subst hjy
                by_cases hyx1 : y + 1 < x
                all_goals
                  go_wp2_with fail
                  refine (give_some p t (qp x (fun y => decide (t < y) && !G y)) bb (mkw y) none 0 [] _ hL (by have := HLQ.out; omega) (Rd.nil _) (fun k hk _ => by simp [Value.ownBlock] at hk) (by simp) (by omega) HB1.out HB2.out).mono ?_
                  rintro e w4 ⟨rfl, hL4, hu⟩
                  replace hU : Upd [] w w4 := hU.trans hu (fun x hx hl => by simp at hx; omega)
                  have hL5 : LockP w4 p (y : Int) (qp x (fun z => decide (y < z) && !G z)) := by rw [← HQN.out]; exact hL4
                  clear hL hu hL4
                  simp only [mkw]
                  go_wp2
                  go_roundw
                  case rel => exact ⟨y, i + 1, rfl, by go_num, by omega, hyx, hL5, hU⟩
                  case measure => simp [intOf]; omega
theorem lockLeaves_law (n : Int) (a : Option Addr) (cap : Nat) (xs : List Bool) (w : World) (h0 : (Lit.int .u8 n).wf = true) (hr : Rd w (.slice a xs.length cap) xs.length (xs.map Value.bool)) :
    Calls Try.prog 4 #[.int .u8 n, .slice a xs.length cap] w fun e w' => e = .returned (.bool true) ∧ Upd [] w w' :=
  lockLeaves_walk n a cap xs w (wf_u8 h0).1 (wf_u8 h0).2 hr
end Go.Proofs.Ytjkacccmdccbnaa
