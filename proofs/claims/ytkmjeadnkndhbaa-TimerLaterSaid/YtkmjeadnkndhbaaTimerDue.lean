/- Each is due at just the tick that it was put for. -/
import Derived.Test.YtkmjeadnkndhbaaTimerPure
namespace Go.Proofs.Ytkmjeadnkndhbaa
set_option linter.unusedVariables false
set_option linter.unusedSimpArgs false
open Go.RowKit

theorem tick_any (p : Nat) (b : Option Nat) (ds : List Due) (w : World) (h : TimAt w p b ds) (hm : ds.length ≤ 99999) (hdo : DOk ds) :
    Calls Try.prog 10 #[.pointer (some ⟨p, 0, none⟩)] w fun e w' => ∃ oa oc, e = .returned (.slice oa (tickD ds).1.length oc) ∧ w'.ownsRow w.heap.size 3 1 (.slice oa (tickD ds).1.length oc) (tickD ds).1.length ((tickD ds).1.map (Value.int .i64)) ∧
      TimAt w' p b (tickD ds).2 ∧ Upd (p :: b.toList) w w' := by
  cases ds with
  | nil =>
    refine (tick_nil p b w h).mono ?_
    rintro e w' ⟨rfl, rfl⟩
    exact ⟨none, 0, rfl, World.ownsRow_nil _ _ _ _, h, Upd.refl _ _⟩
  | cons d l =>
    obtain ⟨g, rfl⟩ := h.some
    have hd := hdo d (by simp)
    exact tick_some p g d l w h hm hd.1 hd.2
theorem absD_nil {ds : List Due} {b : Int} (h : absD ds b = []) : ds = [] := by
  cases ds with
  | nil => rfl
  | cons d l => simp [absD] at h
theorem idx_none {T : Nat → Nat} {ds : List Due} {j : Nat} {k c : Nat} {b : Int} (h : absD ds b = sched T j k c) : idxD ds (j : Int) = none := by
  rw [idxD, List.findIdx?_eq_none_iff]
  intro d hd
  have h1 : d.id ∈ (absD ds b).map (·.1) := by rw [absD_ids]; exact List.mem_map.2 ⟨d, hd, rfl⟩
  rw [h] at h1
  obtain ⟨x, hx, hxd⟩ := List.mem_map.1 h1
  obtain ⟨i, t, rfl, hi, _⟩ := mem_sched hx
  simp only at hxd
  simp
  omega
theorem get_u8 {xs : List Int} {j : Nat} (h : j < xs.length) : (xs.map (Value.int .u8))[j]? = some (.int .u8 (xs.getD j 0)) := by
  rw [List.getElem?_map, List.getElem?_eq_getElem h]
  simp [List.getD, h]

set_option maxHeartbeats 6400000 in
set_option maxRecDepth 100000 in
theorem timerDue_walk (a : Option Addr) (cap : Nat) (xs : List Int) (w : World) (hr : Rd w (.slice a xs.length cap) xs.length (xs.map (Value.int .u8))) (hx : ∀ n ∈ xs, (Lit.int .u8 n).wf = true) :
    Calls Try.prog 3 #[.slice a xs.length cap] w fun e w' => e = .returned (.bool true) ∧ Upd [] w w' := by
  go_enter Try.func3, Try.ntmps3
  go_wp2_with fail
  refine (known2_ok _).mono ?_
  rintro e w1 ⟨rfl, hU⟩
  by_cases hbad : 60 < xs.length
  · go_wp2_with fail
    go_ret
    exact ⟨rfl, hU⟩
  have HR := Lib.hid hr
  clear hr
  obtain ⟨T, hT⟩ : ∃ T : Nat → Nat, ∀ j, j < xs.length → ∃ m : Nat, xs.getD j 0 % 40 = (m : Int) ∧ (1 : Int) + (m : Int) = (T j : Int) ∧ 1 ≤ T j ∧ T j ≤ 40 ∧ 0 ≤ xs.getD j 0 ∧ xs.getD j 0 ≤ 255 := by
    refine ⟨fun j => 1 + (xs.getD j 0 % 40).toNat, fun j hj => ⟨(xs.getD j 0 % 40).toNat, ?_⟩⟩
    have hw := wf_u8 (hx (xs.getD j 0) (by rw [List.getD_eq_getElem?_getD, List.getElem?_eq_getElem hj]; simp))
    have h1 : 0 ≤ xs.getD j 0 % 40 := by omega
    refine ⟨?_, ?_, ?_, ?_, hw.1, hw.2⟩ <;> (try dsimp only) <;> omega
  have HT := Lib.hid hT
  clear hT hx
  go_wp2_with fail
  refine (newTimer_any _).mono ?_
  rintro e w2 ⟨p, rfl, hT2, hu, hp⟩
  have hpw : w.heap.size ≤ p := Nat.le_trans hU.size hp
  replace hU : Upd [] w w2 := hU.trans0 hu
  clear hu hp
  go_wp2
  go_loopw [4] (fun iv wr => ∃ (j : Nat) (b : Option Nat) (ds : List Due), j ≤ xs.length ∧ iv = .int .i64 j ∧ TimAt wr p b ds ∧ DOk ds ∧ ds.length = j ∧ absD ds 0 = sched T j 1 40 ∧ (∀ k, b = some k → w.heap.size ≤ k) ∧ Upd [] w wr) (fun iv _ => xs.length - (intOf iv).toNat)
  case atStart => exact ⟨0, none, [], Nat.zero_le _, rfl, hT2, by intro d hd; simp at hd, rfl, by simp [absD, sched, cls], by simp, hU⟩
  case round =>
    clear hT2 hU
    obtain ⟨j, b, ds, hj, rfl, hTm, hdo, hlen, habs, hfr, hU⟩ := hrel
    have HABS := Lib.hid habs
    have HDO := Lib.hid hdo
    have HFR := Lib.hid hfr
    have HLEN := Lib.hid hlen
    clear habs hdo hfr hlen
    by_cases hlt : j < xs.length
    · obtain ⟨m, hm1, hm2, ht1, ht2, hv0, hv1⟩ := HT.out j hlt
      have hc := get_u8 hlt
      generalize xs.getD j 0 = v at hm1 hc hv0 hv1
      obtain ⟨b', off, rfl, hcell⟩ := (HR.out.keep0 hU).at (by omega)
      have g1 := hcell j _ hc
      clear hcell hc
      go_wp2_with fail
      refine (put_ok p b ds j (T j) _ hTm (by rw [HLEN.out]; omega) HDO.out (by omega) (by omega) (by omega) (by omega) (idx_none HABS.out)).mono ?_
      rintro e w3 ⟨b3, rfl, hT3, hu3, hf3⟩
      have hU3 := hU.far hu3 hpw HFR.out
      have hF3 := fresh_next (c := w3) hU HFR.out hf3
      clear hTm hu3 hf3 hU g1
      go_wp2
      go_roundw
      case rel =>
        obtain ⟨A, B, e1, e2, e3, e4⟩ := sched_put T j ht1 ht2
        refine ⟨j + 1, b3, putD ds j (T j), by omega, by go_num, hT3, putD_ok HDO.out (by omega) (by omega), by rw [putD_len, HLEN.out], ?_, hF3, hU3⟩
        rw [e4]
        have := absD_put ds j 0 (T j) A B (by rw [HABS.out, e1]) (fun x hx => by have := e2 x hx; omega) (fun x hx => by have := e3 x hx; omega)
        rw [this, Int.zero_add]
      case measure => simp [intOf]; omega
    · obtain rfl : j = xs.length := by omega
      clear hlt hj
      go_wp2
      go_loopw [5] (fun kv wr => ∃ (k : Nat) (ds : List Due), kv = .int .i64 k ∧ 1 ≤ k ∧ k ≤ 41 ∧ TimAt wr p b ds ∧ DOk ds ∧ ds.length ≤ xs.length ∧ absD ds ((k : Int) - 1) = sched T xs.length k (41 - k) ∧ Upd [] w wr) (fun kv _ => 41 - (intOf kv).toNat)
      case atStart => exact ⟨1, ds, rfl, Nat.le_refl _, by omega, hTm, HDO.out, by rw [HLEN.out]; omega, HABS.out, hU⟩
      case round =>
        clear hTm hU HABS HDO HLEN
        obtain ⟨k, ds, rfl, hk1, hk2, hTm, hdo, hlen, habs, hU⟩ := hrel
        by_cases hk : k ≤ 40
        · have hsp := sched_split T xs.length k 1 (40 - k)
          rw [show 1 + (40 - k) = 41 - k by omega] at hsp
          rw [hsp] at habs
          have hA : ∀ x ∈ sched T xs.length k 1, x.2 = (k : Int) - 1 + 1 := fun x hx => by
            obtain ⟨i, t, rfl, _, _, h3, h4⟩ := mem_sched hx
            simp only
            omega
          have hB : ∀ x ∈ sched T xs.length (k + 1) (40 - k), (k : Int) - 1 + 1 < x.2 := fun x hx => by
            obtain ⟨i, t, rfl, _, _, h3, h4⟩ := mem_sched hx
            simp only
            omega
          obtain ⟨htk1, htk2⟩ := tickD_abs ds ((k : Int) - 1) _ _ habs hA hB
          have hok := tickD_ok (b := (k : Int) - 1) hdo (fun x hx => by
            rw [habs] at hx
            rcases List.mem_append.1 hx with hx | hx
            · have := hA x hx; omega
            · have := hB x hx; omega)
          have hcls : (tickD ds).1 = (cls T xs.length k).map fun i : Nat => (i : Int) := by rw [htk1, sched_one]; simp [List.map_map, Function.comp_def]
          have HCLS := Lib.hid hcls
          have HTK := Lib.hid htk2
          have HOK := Lib.hid hok
          have hdk : decide ((k : Int) ≤ 40) = true := decide_eq_true (by omega)
          clear hsp habs hA hB htk1 htk2 hok hcls
          go_wp2_with fail
          refine (tick_any p b ds _ hTm (by omega) hdo).mono ?_
          rintro e w5 ⟨oa, oc, rfl, hout, hT5, hu5⟩
          have hU5 := hU.far hu5 hpw HFR.out
          rw [HCLS.out, List.length_map] at hout ⊢
          have hro := Rd.of_own hout
          have HRO := Lib.hid hro
          obtain ⟨n0, hn0⟩ : ∃ n0, n0 = (cls T xs.length k).length := ⟨_, rfl⟩
          have HN0 := Lib.hid hn0
          rw [← hn0]
          have hn60 : n0 ≤ 60 := by
            have : (cls T xs.length k).length ≤ xs.length := by unfold cls; exact Nat.le_trans (List.length_filter_le _ _) (by simp)
            omega
          clear hTm hdo hu5 hU hout hro hn0
          go_wp2
          go_loopw [7, 8] (fun nv iv wr => ∃ (i n : Nat), iv = .int .i64 i ∧ nv = .int .i64 n ∧ n = (cls T i k).length ∧ i ≤ xs.length ∧ w5 = wr) (fun _ iv _ => xs.length - (intOf iv).toNat)
          case atStart => exact ⟨0, 0, rfl, rfl, rfl, Nat.zero_le _, rfl⟩
          case round =>
            obtain ⟨i, n, rfl, rfl, hn, hi, rfl⟩ := hrel
            have HN := Lib.hid hn
            clear hn
            by_cases hlt : i < xs.length
            · obtain ⟨m, hm1, hm2, ht1, ht2, hv0, hv1⟩ := HT.out i hlt
              have hc := get_u8 hlt
              generalize xs.getD i 0 = v at hm1 hc hv0 hv1
              obtain ⟨b', off, rfl, hcell⟩ := (HR.out.keep0 hU5).at (by omega)
              have g1 := hcell i _ hc
              clear hcell hc
              by_cases hTi : T i = k
              · have hat := cls_at hlt hTi
                have hnl : n < n0 := by
                  have := (List.getElem?_eq_some_iff.1 hat).1
                  rw [HN.out, HN0.out]
                  exact this
                have hro := HRO.out
                rw [← HN0.out] at hro
                obtain ⟨b2, off2, rfl, hcell2⟩ := hro.at (by omega)
                have g2 := hcell2 n (.int .i64 i) (by rw [HN.out, List.getElem?_map, List.getElem?_map, hat]; rfl)
                have hd1 : ((T i : Int) != (k : Int)) = false := by rw [hTi]; simp
                have hd2 : ((i : Int) != (i : Int)) = false := by simp
                have hd3 : decide ((n0 : Int) ≤ (n : Int)) = false := decide_eq_false (by omega)
                clear hat hcell2 hro
                go_wp2
                go_roundw
                case rel => exact ⟨i + 1, n + 1, by go_num, by go_num, by rw [cls_succ, if_pos hTi, List.length_append, ← HN.out]; rfl, by omega, by first | rfl | trivial⟩
                case measure => simp [intOf]; omega
              · have hd1 : ((T i : Int) != (k : Int)) = true := bne_iff_ne.2 (by omega)
                go_wp2
                go_roundw
                case rel => exact ⟨i + 1, n, by go_num, rfl, by rw [cls_succ, if_neg hTi, List.append_nil]; exact HN.out, by omega, by first | rfl | trivial⟩
                case measure => simp [intOf]; omega
            · obtain rfl : i = xs.length := by omega
              have hnn : n = n0 := by rw [HN.out, HN0.out]
              subst hnn
              have hd1 : ((n : Int) != (n : Int)) = false := by simp
              go_wp2
              go_roundw
              case rel =>
                refine ⟨k + 1, (tickD ds).2, by go_num, by omega, by omega, hT5, HOK.out.1, by have := HOK.out.2; omega, ?_, hU5⟩
                have := HTK.out
                rw [show ((k : Int) - 1 + 1) = ((k + 1 : Nat) : Int) - 1 by omega] at this
                rw [this, show 41 - (k + 1) = 40 - k by omega]
              case measure => simp [intOf]; omega
        · obtain rfl : k = 41 := by omega
          obtain rfl : ds = [] := absD_nil (by rw [habs]; rfl)
          clear habs hdo
          go_wp2_with fail
          refine (lenTimer_any p b [] _ hTm).mono ?_
          rintro e w5 ⟨rfl, rfl⟩
          simp only [List.length_nil]
          go_wp2_with fail
          refine (tick_nil p b _ hTm).mono ?_
          rintro e w5 ⟨rfl, rfl⟩
          go_wp2
          go_ret
          exact ⟨rfl, hU⟩
end Go.Proofs.Ytkmjeadnkndhbaa
