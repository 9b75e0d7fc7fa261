/- Who waits at several channels is woken by one: the walk of PickWins. -/
import Derived.Test.YtjiepoeeahnbgaaPickAll
namespace Go.Proofs.Ytjiepoeeahnbgaa
set_option linter.unusedVariables false
set_option linter.unusedSimpArgs false
open Go.RowKit
set_option maxHeartbeats 64000000 in
set_option maxRecDepth 100000 in
theorem pickWins_walk (n which v : Int) (w : World) (hn : (Lit.int .u8 n).wf = true) (hw : (Lit.int .u8 which).wf = true) (hv : (Lit.int .i64 v).wf = true) :
    Calls Try.prog 3 #[.int .u8 n, .int .u8 which, .int .i64 v] w fun e w' => e = .returned (.bool true) ∧ Upd [] w w' := by
  obtain ⟨hn0, hn1⟩ := wf_u8 hn
  obtain ⟨hw0, hw1⟩ := wf_u8 hw
  obtain ⟨k0, hk0⟩ : ∃ k0 : Nat, k0 = (n % 6).toNat := ⟨_, rfl⟩
  have ht : n.tmod 6 = (k0 : Int) := by rw [Int.tmod_eq_emod_of_nonneg hn0]; omega
  have hk5 : k0 ≤ 5 := by omega
  obtain ⟨k, hk⟩ : ∃ k, k = 1 + k0 := ⟨_, rfl⟩
  clear hn hk0 hw hv
  go_enter Try.func3, Try.ntmps3
  go_wp2_with fail
  refine (known16_ok _).mono ?_
  rintro e w1 ⟨rfl, hU0⟩
  have HK := Lib.hid hk
  clear hk
  go_wp2
  rw [show (1 : Int) + (k0 : Int) = (k : Int) by have := HK.out; omega]
  have hk6 : k ≤ 6 := by have := HK.out; omega
  have hk1 : 1 ≤ k := by have := HK.out; omega
  obtain ⟨m, hm⟩ : ∃ m : Nat, m = which.toNat % k := ⟨_, rfl⟩
  have hmk : m < k := by rw [hm]; exact Nat.mod_lt _ (by omega)
  have htm : which.tmod (k : Int) = (m : Int) := by
    rw [Int.tmod_eq_emod_of_nonneg hw0, hm]
    have : which = (which.toNat : Int) := by omega
    rw [this]
    simp
  have HTM := Lib.hid htm
  clear ht hk5 hm htm
  go_loopw [8, 9, 10] (fun sv lv iv wr => ∃ (i : Nat) (a1 a2 : Option Addr) (c1 c2 : Nat) (xs : List Sx), sv = .slice a1 i c1 ∧ lv = .slice a2 i c2 ∧ iv = .int .i64 i ∧ i ≤ k ∧ Hid (SxTo wr 0 (fun _ => none) i xs) ∧ Hid (wr.ownsRow w.heap.size 28 5 (.slice a1 i c1) i (xs.flatMap Sx.enc)) ∧ Hid (wr.ownsRow w.heap.size 30 3 (.slice a2 i c2) i ((csTo false (fun _ => 0) i).flatMap Cs.enc)) ∧ Hid (Upd [] w wr)) (fun _ _ iv _ => k - (intOf iv).toNat)
  case atStart => exact ⟨0, none, none, 0, 0, [], rfl, rfl, rfl, Nat.zero_le _, Lib.hid (SxTo.nil _ _ _), Lib.hid (World.ownsRow_nil _ _ _ _), Lib.hid (World.ownsRow_nil _ _ _ _), Lib.hid hU0⟩
  case round =>
    obtain ⟨i, a1, a2, c1, c2, xs, rfl, rfl, rfl, hi, HX, HA1, HA2, HU⟩ := hrel
    by_cases hlt : i < k
    · have hs1 : i + 1 ≤ maxLen := by unfold maxLen; omega
      have hs2 : (i + 1) * 88 ≤ 140737488355328 := by omega
      have hs3 : (i + 1) * 24 ≤ 140737488355328 := by omega
      have hsz3 := HU.out.size
      have ho1 := HA1.out
      have ho2 := HA2.out
      have hU3 := HU.out
      have HSX := Lib.hid (HX.out.snoc (x := ⟨0, none, 0, []⟩) rfl)
      go_wp2_with (first
        | (at_builtin; refine wp_push2 tSx rfl (.tmp 30) (.tmp 32) rfl ho1 (Sx.enc ⟨0, none, 0, []⟩) rfl rfl rfl rfl (by intro y hy; simp [Sx.enc] at hy; rcases hy with rfl | rfl | rfl | rfl | rfl <;> rfl) hs1 hs2 hsz3 ?_; intro g4 c4 w4 hown4 hu4 hat4; have ho24 := own_keep ho2 hu4 (own_apart ho2 ho1 (by decide)); have HSX4 := Lib.hid (HSX.out.keep hu4 (notT_own ho1 (by decide))); have hU4 : Upd [] w w4 := hU3.trans hu4 (fun z hz hl => by have := (ho1.lt z (by simpa using hz)).1; omega); have hsz4 := hU4.size)
        | (at_builtin; refine wp_push2 tCs rfl (.tmp 34) (.tmp 37) rfl ho24 (Cs.enc ⟨false, (i : Int), 0⟩) rfl rfl rfl rfl (by intro y hy; simp [Cs.enc] at hy; rcases hy with rfl | rfl | rfl <;> rfl) hs1 hs3 hsz4 ?_; intro g5 c5 w5 hown5 hu5 hat5; have ho15 := own_keep hown4 hu5 (own_apart hown4 ho24 (by decide)); have HSX5 := Lib.hid (HSX4.out.keep hu5 (notT_own ho24 (by decide))); have hU5 : Upd [] w w5 := hU4.trans hu5 (fun z hz hl => by have := (ho24.lt z (by simpa using hz)).1; omega)))
      go_roundw
      case rel => exact ⟨i + 1, _, _, _, _, _, rfl, rfl, by go_num, by omega, HSX5, Lib.hid (by rw [List.flatMap_append]; simpa using ho15), Lib.hid (by rw [csTo_snoc, List.flatMap_append]; simpa using hown5), Lib.hid hU5⟩
      case measure => simp [intOf]; omega
    · obtain rfl : k = i := by omega
      obtain ⟨wm, hwm⟩ : ∃ wm, wm = wr := ⟨_, rfl⟩
      subst hwm
      have hxl := HX.out.1
      have hown1 := HA1.out
      rw [← hxl] at hown1
      go_wp2_with fail
      rw [show Value.slice a1 k c1 = Value.slice a1 xs.length c1 by rw [hxl]]
      refine (made_any a1 c1 xs _ (Rd.of_own hown1) (HX.out.made (by omega) (fun j => by simp)) (by omega)).mono ?_
      rintro e w2 ⟨a3, c3, a4, c4, st, rfl, hl, hB, hC, hV2⟩
      have hlk : st.length = k := by rw [hl, hxl]
      have hlow : ∀ z ∈ blks st, wm.heap.size ≤ z := hB.low
      have hne0 : ((st.length : Int) != (k : Int)) = false := by simp [hlk]
      have h0 : ∀ (j : Nat) (s : ChSt), st[j]? = some s → ∃ p rp c, s = ⟨p, rp, c, 0, [], [], [], false⟩ := fun j s hs => HX.out.begun hB hs
      have HRL := Lib.hid (fun (W : World) (hW : Upd [] wm W) => show RdCs W (.slice a2 (csTo false (fun _ => 0) k).length c2) (csTo false (fun _ => 0) k) from Rd.of_own (base := w.heap.size) (e := 30) (size := 3) (by rw [csTo_len]; exact own_keep0 HA2.out hW))
      have hlb0 : ∀ g, (Value.slice a2 (csTo false (fun _ => 0) k).length c2).ownBlock = some g → g ∉ blks st := fun g hg hm => by
        have h1 := hlow g hm
        have h2 := (HA2.out.lt g (by rw [csTo_len] at hg; exact hg)).2
        omega
      have hsl : st.length ≤ 1000000 := by omega
      have hlm : (csTo false (fun _ => 0) k).length ≤ 1000000 := by rw [csTo_len]; omega
      have hll : (csTo false (fun _ => 0) k).length ≤ st.length := by rw [csTo_len]; omega
      have hsw : Value.slice a2 k c2 = Value.slice a2 (csTo false (fun _ => 0) k).length c2 := by rw [csTo_len]
      have hchan : ∀ (j : Nat) (x : Cs), (csTo false (fun _ => 0) k)[j]? = some x → x.chan = j := fun j x hx => by obtain ⟨_, rfl⟩ := csTo_at hx; rfl
      have HLB := Lib.hid hlb0
      have HLL := Lib.hid hll
      have HCH := Lib.hid hchan
      have HSW := Lib.hid hsw
      have HLK := Lib.hid hlk
      have hlk1 : st.length ≤ k := by omega
      have hlk2 : k ≤ st.length := by omega
      have HXL := Lib.hid hxl
      clear hlk hxl hown1 hB hl hlb0 hchan hll hsw
      -- all wait
      go_wp2_with fail
      rw [HSW.out]
      refine (pickWait_fresh _ _ (csTo false (fun _ => 0) k) a3 c3 st 3 8 _ (HRL.out _ hV2) hlm hsl hC HLB.out HLL.out HCH.out (fun j s hs => by obtain ⟨p, rp, c, rfl⟩ := h0 j s hs; exact ⟨rfl, rfl⟩) (csTo_none HLK.out (fun j s hs => by obtain ⟨p, rp, c, rfl⟩ := h0 j s hs; rfl))).mono ?_
      rintro e w3 ⟨st3, rfl, hT3, hC3, hu3⟩
      have hV3 := hV2.blks hu3 rfl hlow
      have hb3 : blks st3 = blks st := hT3.blks (fun j hj => hj)
      have hl3 : st3.length = k := by rw [hT3.1, HLK.out]
      have h3 : ∀ (j : Nat) (s : ChSt), st3[j]? = some s → ∃ p rp c, s = ⟨p, rp, c, 0, [], [], [⟨3, (j : Int), 8, 0⟩], false⟩ := fun j s hs => by
        obtain ⟨s0, hs0, rfl⟩ := waited hT3 HLK.out hs
        obtain ⟨p, rp, c, rfl⟩ := h0 j s0 hs0
        exact ⟨p, rp, c, rfl⟩
      obtain ⟨s, hs⟩ : ∃ s, st3[m]? = some s := ⟨_, List.getElem?_eq_getElem (by omega)⟩
      obtain ⟨p, rp, c, rfl⟩ := h3 m s hs
      clear hT3 hC hu3 hV2
      obtain ⟨ga, oa, rfl, hcell⟩ := Chans.cell hC3 hs
      have hst3 : st3.length = st.length := by rw [hl3, HLK.out]
      have hmst : m < st.length := by omega
      have htm := HTM.out
      -- one is woken
      go_wp2_with fail
      refine (chanSend_hand p rp c 0 [] [] [⟨3, (m : Int), 8, 0⟩] v none 0 [] 0 ⟨3, (m : Int), 8, 0⟩ _ (hC3.all m _ hs) (Rd.nil _) (by simp) (by simp) rfl rfl).mono ?_
      rintro e w4 ⟨g, rfl, hg, hbg, hC4, hu4⟩
      have hup : Upd [p, c] w3 w4 := hu4.mono (fun z hz _ => by simp at hz; simp [hz])
      have hC4' := hC3.upd (t := ⟨p, rp, c, 0, [], [], [], false⟩) hs hup hC4 rfl rfl
      have hV4 : Upd [] wm w4 := hV3.blks (hup.mono (fun z hz _ => mem_blks hs z hz)) hb3 hlow
      have hb4 : blks (st3.set m ⟨p, rp, c, 0, [], [], [], false⟩) = blks st := by rw [blks_set (t := ⟨p, rp, c, 0, [], [], [], false⟩) hs rfl rfl, hb3]
      obtain ⟨g0, g1, g2, g3⟩ := four_cells hbg
      have hmm : ((m : Int) != (m : Int)) = false := by simp
      have hvv : (v != v) = false := by simp
      clear hC4 hu4 hup hV3 hC3 hcell htm hbg
      have hset := hst3
      obtain ⟨st4, hst4⟩ : ∃ st4, st4 = st3.set m ⟨p, rp, c, 0, [], [], [], false⟩ := ⟨_, rfl⟩
      rw [← hst4] at hC4' hb4
      have hl4 : st4.length = st.length := by rw [hst4, List.length_set, hst3]
      have h4 : ∀ (j : Nat) (s : ChSt), st4[j]? = some s → ∃ p rp c, s = ⟨p, rp, c, 0, [], [], if j = m then [] else [⟨3, (j : Int), 8, 0⟩], false⟩ := fun j s hj => by
        rw [hst4, List.getElem?_set] at hj
        by_cases e : m = j
        · subst e
          simp only [if_true] at hj
          split at hj
          · cases hj
            exact ⟨p, rp, c, by simp⟩
          · cases hj
        · rw [if_neg e] at hj
          obtain ⟨p', rp', c', rfl⟩ := h3 j s hj
          exact ⟨p', rp', c', by rw [if_neg (fun e' => e e'.symm)]⟩
      have H4 := Lib.hid h4
      have H0 := Lib.hid h0
      clear hst4 h3 hs h4 h0
      go_wp2
      go_loopw [17] (fun jv wq => ∃ j : Nat, jv = .int .i64 j ∧ j ≤ k ∧ Chans wq (some ⟨ga, oa, none⟩) c3 st4 ∧ Upd [] wm wq) (fun jv _ => k - (intOf jv).toNat)
      case atStart => exact ⟨0, rfl, Nat.zero_le _, hC4', hV4⟩
      case round =>
        clear hC4' hV4 g0 g1 g2 g3
        obtain ⟨j, rfl, hj, hCj, hVj⟩ := hrel
        by_cases hjk : j < k
        · obtain ⟨s, hs⟩ : ∃ s, st4[j]? = some s := ⟨_, List.getElem?_eq_getElem (by omega)⟩
          obtain ⟨p', rp', c', rfl⟩ := H4.out j s hs
          obtain ⟨g', o', eg, hcell⟩ := Chans.cell hCj hs
          cases eg
          have hjst : j < st.length := by omega
          by_cases hjm : j = m
          · rw [if_pos hjm] at hs
            subst hjm
            go_wp2_with fail
            refine (chanReceivers_any p' rp' c' 0 [] [] [] false _ (hCj.all j _ hs) (by simp)).mono ?_
            rintro e w5 ⟨a5, k5, rfl, _, hu5⟩
            have hCn := hCj.keep0 hu5
            have hVn := hVj.trans0 hu5
            go_wp2
            go_roundw
            case rel => exact ⟨j + 1, by go_num, by omega, hCn, hVn⟩
            case measure => simp [intOf]; omega
          · rw [if_neg hjm] at hs
            have hne : ((j : Int) != (m : Int)) = true := by simpa using (by omega : (j : Int) ≠ (m : Int))
            go_wp2_with fail
            refine (chanReceivers_any p' rp' c' 0 [] [] [⟨3, (j : Int), 8, 0⟩] false _ (hCj.all j _ hs) (by simp)).mono ?_
            rintro e w5 ⟨a5, k5, rfl, _, hu5⟩
            have hCn := hCj.keep0 hu5
            have hVn := hVj.trans0 hu5
            go_wp2
            go_roundw
            case rel => exact ⟨j + 1, by go_num, by omega, hCn, hVn⟩
            case measure => simp [intOf]; omega
        · obtain ⟨w6, hw6⟩ : ∃ w6, w6 = wr := ⟨_, rfl⟩
          subst hw6
          obtain rfl : j = k := by omega
          -- who has left waits at none
          go_wp2_with fail
          rw [show Value.slice (some ⟨ga, oa, none⟩) st.length c3 = Value.slice (some ⟨ga, oa, none⟩) st4.length c3 by rw [hl4]]
          refine (pickLeave_any _ _ st4 3 _ (by omega) hCj (fun i s hs => by obtain ⟨p', rp', c', rfl⟩ := H4.out i s hs; exact ⟨by simp, by simp only; split <;> simp⟩)).mono ?_
          rintro e w7 ⟨rfl, hC7, hu7⟩
          have hV7 := hVj.blks hu7 hb4 hlow
          obtain ⟨st7, hst7⟩ : ∃ st7, st7 = st4.map (leaveSt 3) := ⟨_, rfl⟩
          rw [← hst7] at hC7
          have hb7 : blks st7 = blks st := by rw [hst7, blks_leave, hb4]
          have hl7 : st7.length = st.length := by rw [hst7, List.length_map, hl4]
          have h7 : ∀ (j : Nat) (s : ChSt), st7[j]? = some s → ∃ p rp c, s = ⟨p, rp, c, 0, [], [], [], false⟩ := fun j s hj => by
            rw [hst7, List.getElem?_map] at hj
            obtain ⟨s0, hs0, rfl⟩ := Option.map_eq_some_iff.1 hj
            obtain ⟨p', rp', c', rfl⟩ := H4.out j s0 hs0
            refine ⟨p', rp', c', ?_⟩
            simp only [leaveSt, leave, List.filter_nil]
            split <;> simp
          have H7 := Lib.hid h7
          clear hst7 h7 hCj hu7 hVj hb4 H4
          go_wp2
          go_loopw [18] (fun jv wq => ∃ j' : Nat, jv = .int .i64 j' ∧ j' ≤ j ∧ Chans wq (some ⟨ga, oa, none⟩) c3 st7 ∧ Upd [] wm wq) (fun jv _ => j - (intOf jv).toNat)
          case atStart => exact ⟨0, rfl, Nat.zero_le _, hC7, hV7⟩
          case round =>
            clear hC7 hV7
            obtain ⟨i, rfl, hi', hCj, hVj⟩ := hrel
            by_cases hjk : i < j
            · obtain ⟨s, hs⟩ : ∃ s, st7[i]? = some s := ⟨_, List.getElem?_eq_getElem (by omega)⟩
              obtain ⟨p', rp', c', rfl⟩ := H7.out i s hs
              obtain ⟨g', o', eg, hcell⟩ := Chans.cell hCj hs
              cases eg
              have hjst : i < st.length := by omega
              go_wp2_with fail
              refine (chanReceivers_any p' rp' c' 0 [] [] [] false _ (hCj.all i _ hs) (by simp)).mono ?_
              rintro e w5 ⟨a5, k5, rfl, _, hu5⟩
              have hCn := hCj.keep0 hu5
              have hVn := hVj.trans0 hu5
              obtain ⟨g', o', eg, hcell5⟩ := Chans.cell hCn hs
              cases eg
              go_wp2_with fail
              refine (canSend_any p' rp' c' 0 [] [] [] false _ (hCn.all i _ hs)).mono ?_
              rintro e w6 ⟨rfl, hu6⟩
              have hCm := hCn.keep0 hu6
              have hVm := hVn.trans0 hu6
              rw [show canS 0 [] [] false = false from rfl]
              go_wp2
              go_roundw
              case rel => exact ⟨i + 1, by go_num, by omega, hCm, hVm⟩
              case measure => simp [intOf]; omega
            · obtain rfl : i = j := by omega
              -- he waits again, and not twice
              go_wp2_with fail
              try rw [HSW.out]
              rw [show Value.slice (some ⟨ga, oa, none⟩) st.length c3 = Value.slice (some ⟨ga, oa, none⟩) st7.length c3 by rw [hl7]]
              refine (pickWait_fresh _ _ (csTo false (fun _ => 0) i) _ c3 st7 3 9 _ (HRL.out _ hVj) hlm (by omega) hCj (fun g hg => by rw [hb7]; exact HLB.out g hg) (by rw [hl7]; exact HLL.out) HCH.out (fun j s hs => by obtain ⟨p, rp, c, rfl⟩ := H7.out j s hs; exact ⟨rfl, rfl⟩) (csTo_none (by rw [hl7]; exact HLK.out) (fun j s hs => by obtain ⟨p, rp, c, rfl⟩ := H7.out j s hs; rfl))).mono ?_
              rintro e w8 ⟨st8, rfl, hT8, hC8, hu8⟩
              have hV8 := hVj.blks hu8 hb7 hlow
              have hb8 : blks st8 = blks st := by rw [hT8.blks (fun j hj => hj), hb7]
              have hl8 : st8.length = st.length := by rw [hT8.1, hl7]
              have h8 : ∀ (j : Nat) (s : ChSt), st8[j]? = some s → ∃ p rp c, s = ⟨p, rp, c, 0, [], [], [⟨3, (j : Int), 9, 0⟩], false⟩ := fun j s hs => by
                obtain ⟨s0, hs0, rfl⟩ := waited hT8 (by rw [hl7]; exact HLK.out) hs
                obtain ⟨p, rp, c, rfl⟩ := H7.out j s0 hs0
                exact ⟨p, rp, c, rfl⟩
              obtain ⟨s, hs⟩ : ∃ s, st8[0]? = some s := ⟨_, List.getElem?_eq_getElem (by omega)⟩
              obtain ⟨p, rp, c, rfl⟩ := h8 0 s hs
              have hn8 := csTo_none (send := false) (vf := fun _ => 0) (k := i) (st := st8) (by rw [hl8]; exact HLK.out) (fun j s hs => by obtain ⟨p, rp, c, rfl⟩ := h8 j s hs; rfl)
              have hk8 := csTo_known (send := false) (vf := fun _ => 0) (k := i) (n := st8.length) (by rw [hl8]; have := HLK.out; omega)
              clear hT8 hCj hu8 hVj h8
              go_wp2_with fail
              try rw [HSW.out]
              rw [show Value.slice (some ⟨ga, oa, none⟩) st.length c3 = Value.slice (some ⟨ga, oa, none⟩) st8.length c3 by rw [hl8]]
              refine (pickWait_twice _ _ (csTo false (fun _ => 0) i) _ c3 st8 3 9 _ (HRL.out _ hV8) hlm (by omega) hC8 hk8 hn8 0 ⟨p, rp, c, 0, [], [], [⟨3, ((0 : Nat) : Int), 9, 0⟩], false⟩ (csTo_get _ _ (by omega)) hs rfl (by simp) (by simp [has2])).mono ?_
              rintro e w9 ⟨rfl, hu9⟩
              go_wp2
              go_ret
              exact ⟨rfl, HU.out.trans0 (hV8.blks hu9 hb8 hlow)⟩
end Go.Proofs.Ytjiepoeeahnbgaa
