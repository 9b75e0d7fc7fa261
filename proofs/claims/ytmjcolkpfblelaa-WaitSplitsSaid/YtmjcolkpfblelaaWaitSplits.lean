/- Without each task in turn: the walk. -/
import Derived.Test.YtmjcolkpfblelaaWaitSplitsPure
import Derived.Test.YtmjcolkpfblelaaWaitKnown
namespace Go.Proofs.Ytmjcolkpfblelaa
set_option linter.unusedVariables false
set_option linter.unusedSimpArgs false
open Go.RowKit
theorem get_u8w (xs : List Int) (j : Nat) (h : j < xs.length) : (xs.map (Value.int .u8))[j]? = some (.int .u8 (xs.getD j 0)) := by
  rw [List.getElem?_map, List.getElem?_eq_getElem h]
  simp [List.getD, h]
set_option maxHeartbeats 16000000 in
set_option maxRecDepth 100000 in
theorem waitSplits_walk (a : Option Addr) (cap : Nat) (xs : List Int) (w : World) (hr : Rd w (.slice a xs.length cap) xs.length (xs.map (Value.int .u8))) (hx : ∀ n ∈ xs, (Lit.int .u8 n).wf = true) :
    Calls Try.prog 5 #[.slice a xs.length cap] w fun e w' => e = .returned (.bool true) ∧ Upd [] w w' := by
  go_enter Try.func5, Try.ntmps5
  go_wp2_with fail
  refine (known14_ok _).mono ?_
  rintro e w1 ⟨rfl, hU⟩
  by_cases hbad : 60 < xs.length
  · go_wp2_with fail
    go_ret
    exact ⟨rfl, hU⟩
  have HRD := Lib.hid hr
  obtain ⟨m, hm⟩ : ∃ m, m = xs.length := ⟨_, rfl⟩
  obtain ⟨T, hT⟩ : ∃ T : Nat → Nat, ∀ j, j < m → xs.getD j 0 % 8 = (T j : Int) ∧ T j ≤ 7 ∧ 0 ≤ xs.getD j 0 ∧ xs.getD j 0 ≤ 255 := by
    refine ⟨fun j => (xs.getD j 0 % 8).toNat, fun j hj => ?_⟩
    have hw := wf_u8 (hx (xs.getD j 0) (by rw [List.getD_eq_getElem?_getD, List.getElem?_eq_getElem (by omega)]; simp))
    refine ⟨?_, ?_, hw.1, hw.2⟩ <;> (try dsimp only) <;> omega
  have HT := Lib.hid hT
  have HM := Lib.hid hm
  have t60 : decide (60 < (xs.length : Int)) = false := decide_eq_false (by omega)
  rw [← hm] at hbad t60 ⊢
  have HU := Lib.hid hU
  clear hr hx hT hm hU
  go_wp2
  go_loopw [3, 4] (fun qv iv wr => ∃ (j : Nat) (va : Option Addr) (vc : Nat), j ≤ m ∧ iv = .int .i64 j ∧ qv = .slice va j vc ∧ wr.ownsRow w.heap.size 45 4 (.slice va j vc) j (((List.range j).map (spW T)).flatMap Wt.enc) ∧ Upd [] w wr) (fun _ iv _ => m - (intOf iv).toNat)
  case atStart => exact ⟨0, none, 0, Nat.zero_le _, rfl, rfl, World.ownsRow_nil _ _ _ _, HU.out⟩
  case round =>
    clear HU
    obtain ⟨j, va, vc, hj, rfl, rfl, ho, hU⟩ := hrel
    by_cases hlt : j < m
    · obtain ⟨hq1, ht7, hv0, hv1⟩ := HT.out j hlt
      have hc := get_u8w xs j (by rw [← HM.out]; exact hlt)
      generalize xs.getD j 0 = v at hq1 hc hv0 hv1
      obtain ⟨b', off, rfl, hcell⟩ := (HRD.out.keep0 hU).at (by rw [← HM.out]; omega)
      have g1 := hcell j _ hc
      have hj0 : (0 : Int) ≤ (j : Int) := by omega
      have hj1 : (j : Int) < (m : Int) := by omega
      have hm1 : j + 1 ≤ maxLen := by unfold maxLen; omega
      have hm2 : (j + 1) * 32 ≤ 140737488355328 := by omega
      have hsz := hU.size
      clear hcell hc
      go_wp2_with (first
        | (at_builtin; refine wp_push tWt rfl (.tmp 23) (.tmp 32) rfl ho (Wt.enc (spW T j)) rfl rfl rfl (Wt.one1 _) hm1 hm2 hsz ?_; intro g3 c3 w3 hown3 hu3))
      have hU3 : Upd [] w w3 := hU.trans hu3 (fun x hx hl => by have := (ho.lt x (by simpa using hx)).1; omega)
      have HO3 := Lib.hid hown3
      clear hown3 hu3 ho hU g1 hq1
      go_wp2
      go_roundw
      case rel =>
        refine ⟨j + 1, _, _, by omega, by go_num, rfl, ?_, hU3⟩
        have h := HO3.out
        rw [List.range_succ, List.map_append, List.flatMap_append]
        simpa using h
      case measure => simp [intOf]; omega
    · obtain rfl : j = m := by omega
      have HO := Lib.hid ho
      have HU := Lib.hid hU
      have hl0 : (spQ T j 0).length = j := by rw [sp_zero]; simp
      have HL0 := Lib.hid hl0
      clear ho hU hl0 hlt hj
      go_wp2
      go_loopw [3, 5] (fun qv tv wr => ∃ (t n : Nat) (va : Option Addr) (vc : Nat), t ≤ 8 ∧ tv = .int .i64 t ∧ qv = .slice va n vc ∧ n = (spQ T j t).length ∧ wr.ownsRow w.heap.size 45 4 (.slice va n vc) n ((spQ T j t).flatMap Wt.enc) ∧ Upd [] w wr) (fun _ tv _ => 8 - (intOf tv).toNat)
      case atStart => exact ⟨0, j, va, vc, by decide, rfl, rfl, HL0.out.symm, by rw [sp_zero]; exact HO.out, HU.out⟩
      case round =>
        clear HO HU HL0
        obtain ⟨t, n, va, vc, ht, rfl, rfl, hn, ho, hU⟩ := hrel
        have HN := Lib.hid hn
        have hnj : n ≤ 60 := by rw [hn]; have := sp_le T j t; omega
        by_cases hlt : t < 8
        · have HO := Lib.hid ho
          have HU := Lib.hid hU
          clear ho hU hn
          go_wp2
          go_loopw [6, 7] (fun nv iv wr => ∃ i : Nat, i ≤ j ∧ iv = .int .i64 i ∧ nv = .int .i64 (cntT T i t : Nat) ∧ wr.ownsRow w.heap.size 45 4 (.slice va n vc) n ((spQ T j t).flatMap Wt.enc) ∧ Upd [] w wr) (fun _ iv _ => j - (intOf iv).toNat)
          case atStart => exact ⟨0, Nat.zero_le _, rfl, rfl, HO.out, HU.out⟩
          case round =>
            clear HO HU
            obtain ⟨i, hi, rfl, rfl, ho, hU⟩ := hrel
            have hcl := cnt_le T i t
            by_cases hlt2 : i < j
            · obtain ⟨hq1, ht7, hv0, hv1⟩ := HT.out i hlt2
              have hc := get_u8w xs i (by rw [← HM.out]; exact hlt2)
              generalize xs.getD i 0 = v at hq1 hc hv0 hv1
              obtain ⟨b', off, rfl, hcell⟩ := (HRD.out.keep0 hU).at (by rw [← HM.out]; omega)
              have g1 := hcell i _ hc
              have hi0 : (0 : Int) ≤ (i : Int) := by omega
              have hi1 : (i : Int) < (j : Int) := by omega
              have hcs := cnt_succ T i t
              have HO := Lib.hid ho
              obtain ⟨cc, hcc⟩ : ∃ cc, cc = cntT T i t := ⟨_, rfl⟩
              rw [← hcc] at hcs hcl ⊢
              have HCS := Lib.hid hcs
              clear hcell hc ho hcs hcc
              by_cases he : T i = t
              · have te : ((T i : Int) == (t : Int)) = true := by simp [he]
                have HE := Lib.hid he
                clear he
                go_wp2
                go_roundw
                case rel => exact ⟨i + 1, by omega, by go_num, by rw [HCS.out, if_pos HE.out]; go_num, HO.out, hU⟩
                case measure => simp [intOf]; omega
              · have te : ((T i : Int) == (t : Int)) = false := beq_eq_false_iff_ne.2 (by omega)
                have HE := Lib.hid he
                clear he
                go_wp2
                go_roundw
                case rel => exact ⟨i + 1, by omega, by go_num, by rw [HCS.out, if_neg HE.out]; rfl, HO.out, hU⟩
                case measure => simp [intOf]; omega
            · obtain rfl : i = j := by omega
              have HO := Lib.hid ho
              have HU := Lib.hid hU
              obtain ⟨cc, hcc⟩ : ∃ cc, cc = cntT T i t := ⟨_, rfl⟩
              have HCC := Lib.hid hcc
              rw [← hcc] at hcl ⊢
              clear ho hU hcc hlt2 hi
              go_wp2
              go_loopw [8, 9] (fun hv kv wr => ∃ k : Nat, k ≤ n ∧ kv = .int .i64 k ∧ hv = .int .i64 ((((spQ T i t).take k).filter (isT (t : Int))).length : Nat) ∧ wr.ownsRow w.heap.size 45 4 (.slice va n vc) n ((spQ T i t).flatMap Wt.enc) ∧ Upd [] w wr) (fun _ kv _ => n - (intOf kv).toNat)
              case atStart => exact ⟨0, Nat.zero_le _, rfl, rfl, HO.out, HU.out⟩
              case round =>
                clear HO HU
                obtain ⟨k, hk, rfl, rfl, ho, hU⟩ := hrel
                have hfl : (((spQ T i t).take k).filter (isT (t : Int))).length ≤ 60 := Nat.le_trans (List.length_filter_le _ _) (by rw [List.length_take]; omega)
                by_cases hlt3 : k < n
                · obtain ⟨x, hxk⟩ : ∃ x, (spQ T i t)[k]? = some x := ⟨_, List.getElem?_eq_getElem (by rw [← HN.out]; exact hlt3)⟩
                  have hrd : RdW wr (.slice va (spQ T i t).length vc) (spQ T i t) := by have h := Rd.of_own ho; rw [HN.out] at h; exact h
                  obtain ⟨b, off, rfl, y0, y1, y2, y3⟩ := RdW.cells hrd hxk
                  have hk0 : (0 : Int) ≤ (k : Int) := by omega
                  have hk1 : (k : Int) < (n : Int) := by omega
                  have hss := had_succ (spQ T i t) (t : Int) hxk
                  obtain ⟨dd, hdd⟩ : ∃ dd, dd = (((spQ T i t).take k).filter (isT (t : Int))).length := ⟨_, rfl⟩
                  rw [← hdd] at hss hfl ⊢
                  have HSS := Lib.hid hss
                  have HO := Lib.hid ho
                  clear hss hdd hrd ho hxk
                  by_cases he : x.task = (t : Int)
                  · have te : (x.task == (t : Int)) = true := by simp [he]
                    have HE := Lib.hid he
                    clear he
                    go_wp2
                    go_roundw
                    case rel => exact ⟨k + 1, by omega, by go_num, by rw [HSS.out, if_pos HE.out]; go_num, HO.out, hU⟩
                    case measure => simp [intOf]; omega
                  · have te : (x.task == (t : Int)) = false := beq_eq_false_iff_ne.2 he
                    have HE := Lib.hid he
                    clear he
                    go_wp2
                    go_roundw
                    case rel => exact ⟨k + 1, by omega, by go_num, by rw [HSS.out, if_neg HE.out]; rfl, HO.out, hU⟩
                    case measure => simp [intOf]; omega
                · obtain rfl : k = n := by omega
                  have hfull : (((spQ T i t).take k).filter (isT (t : Int))).length = cc := by rw [List.take_of_length_le (by rw [← HN.out]; exact Nat.le_refl _), sp_had, HCC.out]
                  rw [hfull]
                  have tcc : ((cc : Int) != (cc : Int)) = false := by simp
                  obtain ⟨hb, hhb⟩ : ∃ hb, hb = decide (0 < cc) := ⟨_, rfl⟩
                  have thb1 : decide ((cc : Int) > 0) = hb := by rw [hhb, decide_eq_decide]; omega
                  have thb2 : decide (0 < cc) = hb := hhb.symm
                  have thb : (hb != hb) = false := by simp
                  have hrd : RdW wr (.slice va (spQ T i t).length vc) (spQ T i t) := by have h := Rd.of_own ho; rw [HN.out] at h; exact h
                  have HHAS : Hid (Calls Try.prog 14 #[.slice va k vc, .int .i64 (t : Int)] wr fun e w' => e = .returned (.bool hb) ∧ Upd [] wr w') := Lib.hid (by
                    have h := has_any va vc (spQ T i t) (t : Int) wr hrd (by rw [← HN.out]; omega)
                    rw [show ((spQ T i t).any fun x => x.task == (t : Int)) = hb from (sp_any T i t).trans (by rw [hhb, HCC.out]), ← HN.out] at h
                    exact h)
                  obtain ⟨n2, hn2⟩ : ∃ n2, n2 = (spQ T i (t + 1)).length := ⟨_, rfl⟩
                  have hsl : k = cc + n2 := by rw [HN.out, hn2, HCC.out]; exact sp_len T i t
                  have HWO : Hid (∀ W, Upd [] wr W → Calls Try.prog 9 #[.slice va k vc, .int .i64 (t : Int)] W fun e w' => ∃ a' c', e = .returned (.slice a' n2 c') ∧ w'.ownsRow w.heap.size 45 4 (.slice a' n2 c') n2 ((spQ T i (t + 1)).flatMap Wt.enc) ∧ Upd [] w w') := Lib.hid (fun W hW => by
                    have h := without_any va vc (spQ T i t) (t : Int) W (hrd.keep0 hW) (by rw [← HN.out]; omega)
                    rw [sp_keep, ← HN.out, ← hn2] at h
                    refine h.mono ?_
                    rintro e w' ⟨a', c', rfl, ho', hu'⟩
                    have hww := (hU.trans0 hW).size
                    exact ⟨a', c', rfl, own_lower ho' hww, (hU.trans0 hW).trans0 hu'⟩)
                  have hwr : IntKind.i64.wrap ((k : Int) - (cc : Int)) = (n2 : Int) := by rw [IntWalk.i64_in _ (by omega)]; omega
                  have tn2 : ((n2 : Int) != (n2 : Int)) = false := by simp
                  have HN2 := Lib.hid hn2
                  have hn60 : n2 ≤ 60 := by omega
                  clear hfull hrd ho hU hhb hn2 hfl hlt3 hk hsl
                  go_wp2_with fail
                  refine HHAS.out.mono ?_
                  rintro e w4 ⟨rfl, hu4⟩
                  have HU4 := Lib.hid hu4
                  clear hu4
                  go_wp2_with fail
                  refine (HWO.out _ HU4.out).mono ?_
                  rintro e w5 ⟨a5, c5, rfl, ho5, hU5⟩
                  have HO5 := Lib.hid ho5
                  have HHA2 : Hid (Calls Try.prog 14 #[.slice a5 n2 c5, .int .i64 (t : Int)] w5 fun e w' => e = .returned (.bool false) ∧ Upd [] w5 w') := Lib.hid (by
                    have hrd5 : RdW w5 (.slice a5 (spQ T i (t + 1)).length c5) (spQ T i (t + 1)) := by have h := Rd.of_own ho5; rw [HN2.out] at h; exact h
                    have h := has_any a5 c5 (spQ T i (t + 1)) (t : Int) w5 hrd5 (by rw [← HN2.out]; omega)
                    rw [show ((spQ T i (t + 1)).any fun x => x.task == (t : Int)) = false from sp_none T i t, ← HN2.out] at h
                    exact h)
                  have HU5 := Lib.hid hU5
                  clear ho5 hU5
                  go_wp2_with fail
                  refine HHA2.out.mono ?_
                  rintro e w6 ⟨rfl, hu6⟩
                  have HO6 := Lib.hid (own_keep0 HO5.out hu6)
                  have HU6 := Lib.hid (HU5.out.trans0 hu6)
                  clear hu6
                  go_wp2
                  go_loopw [11] (fun iv wr => ∃ z : Nat, 1 ≤ z ∧ z ≤ n2 + 1 ∧ iv = .int .i64 z ∧ wr.ownsRow w.heap.size 45 4 (.slice a5 n2 c5) n2 ((spQ T i (t + 1)).flatMap Wt.enc) ∧ Upd [] w wr) (fun iv _ => n2 + 1 - (intOf iv).toNat)
                  case atStart => exact ⟨1, by decide, by omega, rfl, HO6.out, HU6.out⟩
                  case round =>
                    clear HO6 HU6
                    obtain ⟨z, hz1, hz2, rfl, ho, hU⟩ := hrel
                    by_cases hlt4 : z < n2
                    · have hlen : z < (spQ T i (t + 1)).length := by rw [← HN2.out]; exact hlt4
                      have hrd : RdW wr (.slice a5 (spQ T i (t + 1)).length c5) (spQ T i (t + 1)) := by have h := Rd.of_own ho; rw [HN2.out] at h; exact h
                      obtain ⟨b, off, rfl, y0, y1, y2, y3⟩ := RdW.cells hrd (List.getElem?_eq_getElem hlen)
                      obtain ⟨b', off', he, x0, x1, x2, x3⟩ := RdW.cells hrd (List.getElem?_eq_getElem (show z - 1 < (spQ T i (t + 1)).length by omega))
                      obtain ⟨rfl, rfl⟩ : b = b' ∧ off = off' := by simpa using he
                      have hinc := List.pairwise_iff_getElem.1 (sp_inc T i (t + 1)) (z - 1) z (by omega) hlen (by omega)
                      generalize (spQ T i (t + 1))[z] = Y at *
                      generalize (spQ T i (t + 1))[z - 1] = X at *
                      obtain ⟨z1, hzz⟩ : ∃ z1, z1 = z - 1 := ⟨_, rfl⟩
                      rw [← hzz] at x0 x1 x2 x3
                      have hwz : IntKind.i64.wrap ((z : Int) - 1) = (z1 : Int) := by rw [IntWalk.i64_in _ (by omega)]; omega
                      have p0 : (0 : Int) ≤ (z : Int) := by omega
                      have p1 : (z : Int) < (n2 : Int) := by omega
                      have p2 : (0 : Int) ≤ (z1 : Int) := by omega
                      have p3 : (z1 : Int) < (n2 : Int) := by omega
                      have tle : decide (Y.seq ≤ X.seq) = false := decide_eq_false (by omega)
                      have HO := Lib.hid ho
                      clear ho hrd he hlen hinc hzz
                      go_wp2
                      go_quiet (fail)
                      go_wp2
                      go_roundw
                      case rel => exact ⟨z + 1, by omega, by omega, by go_num, own_keep0 HO.out ((Upd.refl _ _).drewN _), hU.drewN _⟩
                      case measure => simp [intOf]; omega
                    · have HO := Lib.hid ho
                      clear ho
                      go_wp2
                      go_roundw
                      case rel => exact ⟨t + 1, n2, a5, c5, by omega, by go_num, rfl, HN2.out, HO.out, hU⟩
                      case measure => simp [intOf]; omega
        · obtain rfl : t = 8 := by omega
          have h8 : spQ T j 8 = [] := sp_eight T j (fun q hq => (HT.out q hq).2.1)
          rw [h8] at hn
          have hn0 : n = 0 := hn
          subst hn0
          have HU := Lib.hid hU
          have hr0 : RdW wr (.slice va ([] : List Wt).length vc) [] := by have h := Rd.of_own ho; rw [h8] at h; exact h
          have HR0 := Lib.hid hr0
          clear hU ho hn h8 hr0
          go_wp2_with fail
          refine (best_any va none vc 0 [] [] _ HR0.out (Rd.nil _) (by decide) (by decide)).mono ?_
          rintro e w9 ⟨rfl, hu9⟩
          have e1 : optI (bestTo [] [] ([] : List Wt).length) = -1 := rfl
          rw [e1]
          go_wp2
          go_ret
          exact ⟨rfl, HU.out.trans0 hu9⟩
end Go.Proofs.Ytmjcolkpfblelaa
