/- Of sends the first whose channel has room is done; when none has, all wait: the walk of PickSends. -/
import Derived.Test.YtjiepoeeahnbgaaPickAll
namespace Go.Proofs.Ytjiepoeeahnbgaa
set_option linter.unusedVariables false
set_option linter.unusedSimpArgs false
open Go.RowKit
theorem start_lit {wr W : World} {v : Value} (h : W = (wr.alloc (.cells #[.int .u8 1, .slice (some ⟨wr.heap.size + 1, 0, none⟩) 1 1, .slice none 0 0, .slice none 0 0, .bool false] 28)).alloc (.cells #[v] 2)) :
    W.heap[wr.heap.size + 1]? = some (.cells #[v] 2 (0, 0)) := by
  have h1 := heap_alloc_new (wr.alloc (.cells #[.int .u8 1, .slice (some ⟨wr.heap.size + 1, 0, none⟩) 1 1, .slice none 0 0, .slice none 0 0, .bool false] 28)) (.cells #[v] 2)
  rw [sz_alloc] at h1
  rw [h]
  exact h1
set_option maxHeartbeats 64000000 in
set_option maxRecDepth 100000 in
theorem pickSends_walk (a : Option Addr) (cap : Nat) (ns : List Bool) (w : World) (hr : Rd w (.slice a ns.length cap) ns.length (ns.map Value.bool)) :
    Calls Try.prog 5 #[.slice a ns.length cap] w fun e w' => e = .returned (.bool true) ∧ Upd [] w w' := by
  obtain ⟨f, hf⟩ : ∃ f : Nat → Bool, f = fun j => !(ns.getD j false) := ⟨_, rfl⟩
  obtain ⟨vals, hvals⟩ : ∃ vals : Nat → Option Int, vals = fun j => if f j then none else some (50 + (j : Int)) := ⟨_, rfl⟩
  obtain ⟨k, hk⟩ : ∃ k, k = ns.length := ⟨_, rfl⟩
  have HR := Lib.hid hr
  have HF := Lib.hid hf
  have HV := Lib.hid hvals
  have HKN := Lib.hid hk
  rw [← hk]
  clear hr hf hvals hk
  go_enter Try.func5, Try.ntmps5
  go_wp2_with fail
  refine (known16_ok _).mono ?_
  rintro e w1 ⟨rfl, hU0⟩
  by_cases hsm : k < 1
  · go_wp2
    go_ret
    exact ⟨rfl, hU0⟩
  by_cases hbig : 6 < k
  · go_wp2
    go_ret
    exact ⟨rfl, hU0⟩
  obtain ⟨b, off, rfl, hcv⟩ := HR.out.at (by have := HKN.out; omega)
  have HCV := Lib.hid hcv
  clear hcv
  go_wp2
  have hk1 : 1 ≤ k := by omega
  have hk6 : k ≤ 6 := by omega
  clear hsm hbig
  go_loopw [3, 4, 5, 6] (fun sv lv wv iv wr => ∃ (i : Nat) (a1 a2 : Option Addr) (c1 c2 : Nat) (xs : List Sx), sv = .slice a1 i c1 ∧ lv = .slice a2 i c2 ∧ wv = .int .i64 (optI (wantTo f i)) ∧ iv = .int .i64 i ∧ i ≤ k ∧ Hid (SxTo wr 1 vals i xs) ∧ Hid (wr.ownsRow w.heap.size 28 5 (.slice a1 i c1) i (xs.flatMap Sx.enc)) ∧ Hid (wr.ownsRow w.heap.size 30 3 (.slice a2 i c2) i ((csTo true (fun j => (j : Int)) i).flatMap Cs.enc)) ∧ Hid (Upd [] w wr)) (fun _ _ _ iv _ => k - (intOf iv).toNat)
  case atStart => exact ⟨0, none, none, 0, 0, [], rfl, rfl, rfl, rfl, Nat.zero_le _, Lib.hid (SxTo.nil _ _ _), Lib.hid (World.ownsRow_nil _ _ _ _), Lib.hid (World.ownsRow_nil _ _ _ _), Lib.hid hU0⟩
  case round =>
    obtain ⟨i, a1, a2, c1, c2, xs, rfl, rfl, rfl, rfl, hi, HX, HA1, HA2, HU⟩ := hrel
    by_cases hlt : i < k
    · have hs1 : i + 1 ≤ maxLen := by unfold maxLen; omega
      have hs2 : (i + 1) * 88 ≤ 140737488355328 := by omega
      have hs3 : (i + 1) * 24 ≤ 140737488355328 := by omega
      have hcn0 := HCV.out i _ (get_bools (by have := HKN.out; omega))
      have hcn := HU.out.cell hcn0 (by simp)
      have hcn1 : (wr.alloc (.cells #[.int .u8 1, .slice none 0 0, .slice none 0 0, .slice none 0 0, .bool false] 28)).cell? ⟨b, off + i, none⟩ = some (.bool (ns.getD i false)) := ((Upd.refl [] wr).alloc _).cell hcn (by simp)
      clear hcn0
      cases hb : ns.getD i false with
      | true =>
        rw [hb] at hcn hcn1
        have hft : f i = false := by rw [HF.out]; simp only [hb]; rfl
        have hvt : vals i = some (50 + (i : Int)) := by rw [HV.out]; simp [hft]
        have hwn : wantTo f (i + 1) = wantTo f i := by simp only [wantTo]; cases wantTo f i <;> simp [hft]
        obtain ⟨W3, hW3⟩ : ∃ W3, W3 = (wr.alloc (.cells #[.int .u8 1, .slice (some ⟨wr.heap.size + 1, 0, none⟩) 1 1, .slice none 0 0, .slice none 0 0, .bool false] 28)).alloc (.cells #[.int .i64 (50 + (i : Int))] 2) := ⟨_, rfl⟩
        have hu3 : Upd [] wr W3 := by
          rw [hW3]
          exact ((Upd.refl [] wr).alloc _).alloc _
        have hg3 := start_lit hW3
        have ho1 := own_keep0 HA1.out hu3
        have ho2 := own_keep0 HA2.out hu3
        have hsx := (HX.out.keep hu3 (NotT.nil _ _)).snoc (x := ⟨1, some ⟨wr.heap.size + 1, 0, none⟩, 1, [50 + (i : Int)]⟩) (by rw [hvt]; exact ⟨_, rfl, hg3⟩)
        have hU3 := HU.out.trans0 hu3
        have hsz3 := hU3.size
        have HW3 := Lib.hid hW3
        have HSX := Lib.hid hsx
        clear hW3 hsx
        go_wp2_with (first
          | (at_builtin; rw [← HW3.out]; refine wp_push2 tSx rfl (.tmp 49) (.tmp 51) rfl ho1 (Sx.enc ⟨1, some ⟨wr.heap.size + 1, 0, none⟩, 1, [50 + (i : Int)]⟩) rfl rfl (by rw [HW3.out]; simp [World.setCell]) rfl (by intro y hy; simp [Sx.enc] at hy; rcases hy with rfl | rfl | rfl | rfl | rfl <;> rfl) hs1 hs2 hsz3 ?_; intro g4 c4 w4 hown4 hu4 hat4; have ho24 := own_keep ho2 hu4 (own_apart ho2 ho1 (by decide)); have HSX4 := Lib.hid (HSX.out.keep hu4 (notT_own ho1 (by decide))); have hU4 : Upd [] w w4 := hU3.trans hu4 (fun z hz hl => by have := (ho1.lt z (by simpa using hz)).1; omega); have hsz4 := hU4.size)
          | (at_builtin; refine wp_push2 tCs rfl (.tmp 53) (.tmp 57) rfl ho24 (Cs.enc ⟨true, (i : Int), (i : Int)⟩) rfl rfl rfl rfl (by intro y hy; simp [Cs.enc] at hy; rcases hy with rfl | rfl | rfl <;> rfl) hs1 hs3 hsz4 ?_; intro g5 c5 w5 hown5 hu5 hat5; have ho15 := own_keep hown4 hu5 (own_apart hown4 ho24 (by decide)); have HSX5 := Lib.hid (HSX4.out.keep hu5 (notT_own ho24 (by decide))); have hU5 : Upd [] w w5 := hU4.trans hu5 (fun z hz hl => by have := (ho24.lt z (by simpa using hz)).1; omega)))
        go_roundw
        case rel => exact ⟨i + 1, _, _, _, _, _, rfl, rfl, (by rw [hwn]), by go_num, by omega, HSX5, Lib.hid (by rw [List.flatMap_append]; simpa using ho15), Lib.hid (by rw [csTo_snoc, List.flatMap_append]; simpa using hown5), Lib.hid hU5⟩
        case measure => simp [intOf]; omega
      | false =>
        rw [hb] at hcn hcn1
        have hft : f i = true := by rw [HF.out]; simp only [hb]; rfl
        have hvt : vals i = none := by rw [HV.out]; simp [hft]
        cases hw : wantTo f i with
        | none =>
          have hwn : wantTo f (i + 1) = some i := by simp [wantTo, hw, hft]
          simp only [optI]
          obtain ⟨W3, hW3⟩ : ∃ W3, W3 = wr.alloc (.cells #[.int .u8 1, .slice none 0 0, .slice none 0 0, .slice none 0 0, .bool false] 28) := ⟨_, rfl⟩
          have hu3 : Upd [] wr W3 := by
            rw [hW3]
            exact (Upd.refl [] wr).alloc _
          have ho1 := own_keep0 HA1.out hu3
          have ho2 := own_keep0 HA2.out hu3
          have hsx := (HX.out.keep hu3 (NotT.nil _ _)).snoc (x := ⟨1, none, 0, []⟩) (by rw [hvt]; rfl)
          have hU3 := HU.out.trans0 hu3
          have hsz3 := hU3.size
          have HW3 := Lib.hid hW3
          have HSX := Lib.hid hsx
          clear hW3 hsx
          go_wp2_with (first
            | (at_builtin; rw [← HW3.out]; refine wp_push2 tSx rfl (.tmp 49) (.tmp 51) rfl ho1 (Sx.enc ⟨1, none, 0, []⟩) rfl rfl (by rw [HW3.out]; simp [World.setCell]) rfl (by intro y hy; simp [Sx.enc] at hy; rcases hy with rfl | rfl | rfl | rfl | rfl <;> rfl) hs1 hs2 hsz3 ?_; intro g4 c4 w4 hown4 hu4 hat4; have ho24 := own_keep ho2 hu4 (own_apart ho2 ho1 (by decide)); have HSX4 := Lib.hid (HSX.out.keep hu4 (notT_own ho1 (by decide))); have hU4 : Upd [] w w4 := hU3.trans hu4 (fun z hz hl => by have := (ho1.lt z (by simpa using hz)).1; omega); have hsz4 := hU4.size)
            | (at_builtin; refine wp_push2 tCs rfl (.tmp 53) (.tmp 57) rfl ho24 (Cs.enc ⟨true, (i : Int), (i : Int)⟩) rfl rfl rfl rfl (by intro y hy; simp [Cs.enc] at hy; rcases hy with rfl | rfl | rfl <;> rfl) hs1 hs3 hsz4 ?_; intro g5 c5 w5 hown5 hu5 hat5; have ho15 := own_keep hown4 hu5 (own_apart hown4 ho24 (by decide)); have HSX5 := Lib.hid (HSX4.out.keep hu5 (notT_own ho24 (by decide))); have hU5 : Upd [] w w5 := hU4.trans hu5 (fun z hz hl => by have := (ho24.lt z (by simpa using hz)).1; omega)))
          go_roundw
          case rel => exact ⟨i + 1, _, _, _, _, _, rfl, rfl, (by rw [hwn]), by go_num, by omega, HSX5, Lib.hid (by rw [List.flatMap_append]; simpa using ho15), Lib.hid (by rw [csTo_snoc, List.flatMap_append]; simpa using hown5), Lib.hid hU5⟩
          case measure => simp [intOf]; omega
        | some j0 =>
          have hwn : wantTo f (i + 1) = some j0 := by simp [wantTo, hw]
          simp only [optI]
          obtain ⟨W3, hW3⟩ : ∃ W3, W3 = wr.alloc (.cells #[.int .u8 1, .slice none 0 0, .slice none 0 0, .slice none 0 0, .bool false] 28) := ⟨_, rfl⟩
          have hu3 : Upd [] wr W3 := by
            rw [hW3]
            exact (Upd.refl [] wr).alloc _
          have ho1 := own_keep0 HA1.out hu3
          have ho2 := own_keep0 HA2.out hu3
          have hsx := (HX.out.keep hu3 (NotT.nil _ _)).snoc (x := ⟨1, none, 0, []⟩) (by rw [hvt]; rfl)
          have hU3 := HU.out.trans0 hu3
          have hsz3 := hU3.size
          have HW3 := Lib.hid hW3
          have HSX := Lib.hid hsx
          clear hW3 hsx
          go_wp2_with (first
            | (at_builtin; rw [← HW3.out]; refine wp_push2 tSx rfl (.tmp 49) (.tmp 51) rfl ho1 (Sx.enc ⟨1, none, 0, []⟩) rfl rfl (by rw [HW3.out]; simp [World.setCell]) rfl (by intro y hy; simp [Sx.enc] at hy; rcases hy with rfl | rfl | rfl | rfl | rfl <;> rfl) hs1 hs2 hsz3 ?_; intro g4 c4 w4 hown4 hu4 hat4; have ho24 := own_keep ho2 hu4 (own_apart ho2 ho1 (by decide)); have HSX4 := Lib.hid (HSX.out.keep hu4 (notT_own ho1 (by decide))); have hU4 : Upd [] w w4 := hU3.trans hu4 (fun z hz hl => by have := (ho1.lt z (by simpa using hz)).1; omega); have hsz4 := hU4.size)
            | (at_builtin; refine wp_push2 tCs rfl (.tmp 53) (.tmp 57) rfl ho24 (Cs.enc ⟨true, (i : Int), (i : Int)⟩) rfl rfl rfl rfl (by intro y hy; simp [Cs.enc] at hy; rcases hy with rfl | rfl | rfl <;> rfl) hs1 hs3 hsz4 ?_; intro g5 c5 w5 hown5 hu5 hat5; have ho15 := own_keep hown4 hu5 (own_apart hown4 ho24 (by decide)); have HSX5 := Lib.hid (HSX4.out.keep hu5 (notT_own ho24 (by decide))); have hU5 : Upd [] w w5 := hU4.trans hu5 (fun z hz hl => by have := (ho24.lt z (by simpa using hz)).1; omega)))
          go_roundw
          case rel => exact ⟨i + 1, _, _, _, _, _, rfl, rfl, (by rw [hwn]), by go_num, by omega, HSX5, Lib.hid (by rw [List.flatMap_append]; simpa using ho15), Lib.hid (by rw [csTo_snoc, List.flatMap_append]; simpa using hown5), Lib.hid hU5⟩
          case measure => simp [intOf]; omega
    · obtain rfl : k = i := by omega
      obtain ⟨wm, hwm⟩ : ∃ wm, wm = wr := ⟨_, rfl⟩
      subst hwm
      have hxl := HX.out.1
      have hown1 := HA1.out
      rw [← hxl] at hown1
      go_wp2_with fail
      rw [show Value.slice a1 k c1 = Value.slice a1 xs.length c1 by rw [hxl]]
      refine (made_any a1 c1 xs _ (Rd.of_own hown1) (HX.out.made (by omega) (fun j => by rw [HV.out]; simp only; split <;> simp)) (by omega)).mono ?_
      rintro e w2 ⟨a3, c3, a4, c4, st, rfl, hl, hB, hC, hV2⟩
      have hlk : st.length = k := by rw [hl, hxl]
      have hlow : ∀ z ∈ blks st, wm.heap.size ≤ z := hB.low
      have hne0 : ((st.length : Int) != (k : Int)) = false := by simp [hlk]
      have h0 : ∀ (j : Nat) (s : ChSt), st[j]? = some s → ∃ p rp c, s = ⟨p, rp, c, 1, (vals j).toList, [], [], false⟩ := fun j s hs => HX.out.begun hB hs
      have HRL := Lib.hid (fun (W : World) (hW : Upd [] wm W) => show RdCs W (.slice a2 (csTo true (fun j => (j : Int)) k).length c2) (csTo true (fun j => (j : Int)) k) from Rd.of_own (base := w.heap.size) (e := 30) (size := 3) (by rw [csTo_len]; exact own_keep0 HA2.out hW))
      have hlb0 : ∀ g, (Value.slice a2 (csTo true (fun j => (j : Int)) k).length c2).ownBlock = some g → g ∉ blks st := fun g hg hm => by
        have h1 := hlow g hm
        have h2 := (HA2.out.lt g (by rw [csTo_len] at hg; exact hg)).2
        omega
      have hsl : st.length ≤ 1000000 := by omega
      have hlm : (csTo true (fun j => (j : Int)) k).length ≤ 1000000 := by rw [csTo_len]; omega
      have hll : (csTo true (fun j => (j : Int)) k).length ≤ st.length := by rw [csTo_len]; omega
      have hsw : Value.slice a2 k c2 = Value.slice a2 (csTo true (fun j => (j : Int)) k).length c2 := by rw [csTo_len]
      have hchan : ∀ (j : Nat) (x : Cs), (csTo true (fun j => (j : Int)) k)[j]? = some x → x.chan = j := fun j x hx => by obtain ⟨_, rfl⟩ := csTo_at hx; rfl
      have hcan : ∀ (j : Nat) (c : Cs), (csTo true (fun j => (j : Int)) k)[j]? = some c → canOf st c = f j := by
        intro j c hc
        obtain ⟨hj, rfl⟩ := csTo_at hc
        obtain ⟨s, hs⟩ : ∃ s, st[j]? = some s := ⟨_, List.getElem?_eq_getElem (by omega)⟩
        obtain ⟨p, rp, cc, rfl⟩ := h0 j s hs
        rw [canOf_at rfl hs]
        simp only [canAt, canS, HV.out]
        cases hfj : f j <;> simp [hfj]
      have hidx := idx_want (csTo_len true (fun j => (j : Int)) k) hcan
      have HLB := Lib.hid hlb0
      have HLL := Lib.hid hll
      have HCH := Lib.hid hchan
      have HSW := Lib.hid hsw
      have HLK := Lib.hid hlk
      have hlk1 : st.length ≤ k := by omega
      have hlk2 : k ≤ st.length := by omega
      have HXL := Lib.hid hxl
      have H0 := Lib.hid h0
      clear hlk hxl hown1 hB hl hlb0 hchan hll hsw hcan h0
      go_wp2_with fail
      rw [HSW.out]
      refine (ready_any _ _ (csTo true (fun j => (j : Int)) k) a3 c3 st _ (HRL.out _ hV2) hlm hsl hC).mono ?_
      rintro e w3 ⟨rfl, hu3⟩
      have hC3 := hC.keep0 hu3
      have hV3 := hV2.trans0 hu3
      rw [hidx]
      have hoo : ((optI (wantTo f k)) != (optI (wantTo f k))) = false := by simp
      clear hC hV2 hu3
      cases hw : wantTo f k with
      | some i0 =>
        rw [hw] at hidx hoo
        simp only [optI] at hoo ⊢
        obtain ⟨hi0, hf0, _⟩ := wantTo_some hw
        obtain ⟨s, hs⟩ : ∃ s, st[i0]? = some s := ⟨_, List.getElem?_eq_getElem (by omega)⟩
        obtain ⟨p, rp, c, rfl⟩ := H0.out i0 s hs
        have hv0 : vals i0 = none := by rw [HV.out]; simp [hf0]
        rw [hv0] at hs
        go_wp2_with fail
        try rw [HSW.out]
        refine (do_push _ _ (csTo true (fun j => (j : Int)) k) _ _ st none 0 0 _ (HRL.out _ hV3) hlm hsl hC3 i0 i0 (i0 : Int) ⟨p, rp, c, 1, [], [], [], false⟩ hidx (csTo_get _ _ hi0) hs (by simp) rfl rfl).mono ?_
        rintro e w4 ⟨rfl, hC4, hu4⟩
        have hV4 := hV3.blks hu4 rfl hlow
        have hs4 : (st.set i0 (⟨p, rp, c, 1, [(i0 : Int)], [], [], false⟩ : ChSt))[i0]? = some ⟨p, rp, c, 1, [(i0 : Int)], [], [], false⟩ := by
          rw [List.getElem?_set]
          simp
          omega
        replace hC4 : Chans w4 a3 c3 (st.set i0 ⟨p, rp, c, 1, [(i0 : Int)], [], [], false⟩) := hC4
        obtain ⟨g, o2, rfl, hcell⟩ := Chans.cell hC4 hs4
        have hist : i0 < st.length := by omega
        go_wp2_with fail
        refine (chanValues_any p rp c 1 [(i0 : Int)] [] [] false _ (hC4.all i0 _ hs4)).mono ?_
        rintro e w5 ⟨a5, k5, rfl, ho5, _, hu5⟩
        have hV5 : Upd [] wm w5 := hV4.trans hu5 (fun z hz hl => by have := hlow z (mem_blks hs z (by simp at hz; simp [hz])); omega)
        obtain ⟨b5, o5, rfl, hc5⟩ := (Rd.of_own ho5).at (by simp)
        have hx0 := hc5 0 _ rfl
        simp only [Nat.add_zero] at hx0
        clear hc5 ho5
        go_wp2
        go_ret
        exact ⟨by simp, HU.out.trans0 hV5⟩
      | none =>
        rw [hw] at hidx hoo
        simp only [optI] at hoo ⊢
        have hfull : ∀ j, j < k → vals j = some (50 + (j : Int)) := fun j hj => by rw [HV.out]; simp [want_none hw j hj]
        have h1 : ∀ (j : Nat) (s : ChSt), st[j]? = some s → ∃ p rp c, s = ⟨p, rp, c, 1, [50 + (j : Int)], [], [], false⟩ := fun j s hs => by
          obtain ⟨p, rp, c, rfl⟩ := H0.out j s hs
          rw [hfull j (by have := (List.getElem?_eq_some_iff.1 hs).1; have := HLK.out; omega)]
          exact ⟨p, rp, c, rfl⟩
        have H1 := Lib.hid h1
        clear h1 hfull
        go_wp2_with fail
        try rw [HSW.out]
        refine (pickWait_fresh _ _ (csTo true (fun j => (j : Int)) k) a3 c3 st 7 1 _ (HRL.out _ hV3) hlm hsl hC3 HLB.out HLL.out HCH.out (fun j s hs => by obtain ⟨p, rp, c, rfl⟩ := H1.out j s hs; exact ⟨rfl, rfl⟩) hidx).mono ?_
        rintro e w4 ⟨st4, rfl, hT4, hC4, hu4⟩
        have hV4 := hV3.blks hu4 rfl hlow
        have hb4 : blks st4 = blks st := hT4.blks (fun j hj => hj)
        have hl4 : st4.length = st.length := hT4.1
        have h4 : ∀ (j : Nat) (s : ChSt), 0 ≤ j → st4[j]? = some s → ∃ p rp c, s = ⟨p, rp, c, 1, [50 + (j : Int)], [⟨7, (j : Int), 1, (j : Int)⟩], [], false⟩ := fun j s _ hs => by
          obtain ⟨s0, hs0, rfl⟩ := waited hT4 HLK.out hs
          obtain ⟨p, rp, c, rfl⟩ := H1.out j s0 hs0
          exact ⟨p, rp, c, rfl⟩
        clear hC3 hT4 hu4 hV3
        go_wp2
        go_loopw [16] (fun jv wq => ∃ (j : Nat) (sx : List ChSt), jv = .int .i64 j ∧ j ≤ k ∧ sx.length = st.length ∧ Hid (blks sx = blks st) ∧ Hid (∀ (i : Nat) (s : ChSt), j ≤ i → sx[i]? = some s → ∃ p rp c, s = ⟨p, rp, c, 1, [50 + (i : Int)], [⟨7, (i : Int), 1, (i : Int)⟩], [], false⟩) ∧ Chans wq a3 c3 sx ∧ Upd [] wm wq) (fun jv _ => k - (intOf jv).toNat)
        case atStart => exact ⟨0, st4, rfl, Nat.zero_le _, hl4, Lib.hid hb4, Lib.hid h4, hC4, hV4⟩
        case round =>
          clear hC4 hV4 hb4 hl4 h4
          obtain ⟨w5, hw5⟩ : ∃ w5, w5 = wr := ⟨_, rfl⟩
          subst hw5
          obtain ⟨j, sx, rfl, hj, hlx, HBX, HSTX, hCj, hVj⟩ := hrel
          by_cases hjk : j < k
          · obtain ⟨s, hs⟩ : ∃ s, sx[j]? = some s := ⟨_, List.getElem?_eq_getElem (by omega)⟩
            obtain ⟨p, rp, c, rfl⟩ := HSTX.out j s (Nat.le_refl _) hs
            obtain ⟨g, o2, rfl, hcell⟩ := Chans.cell hCj hs
            have hjst : j < st.length := by omega
            have hcc : c < w5.heap.size := (hCj.all j _ hs : ChanP w5 p rp c 1 [50 + (j : Int)] [⟨7, (j : Int), 1, (j : Int)⟩] [] false).clt
            go_wp2_with fail
            refine (chanRecv_both p rp c 1 (50 + (j : Int)) [] [⟨7, (j : Int), 1, (j : Int)⟩] [] false none 0 [] 0 ⟨7, (j : Int), 1, (j : Int)⟩ _ (hCj.all j _ hs) (Rd.nil _) (by simp) (by simp) rfl rfl).mono ?_
            rintro e w6 ⟨gw, rfl, hgw, hbg, hC6, hu6⟩
            have hC6' := hCj.upd (t := ⟨p, rp, c, 1, [(j : Int)], [], [], false⟩) hs hu6 hC6 rfl rfl
            have hs6 : (sx.set j (⟨p, rp, c, 1, [(j : Int)], [], [], false⟩ : ChSt))[j]? = some ⟨p, rp, c, 1, [(j : Int)], [], [], false⟩ := by
              rw [List.getElem?_set]
              simp
              omega
            have hb6 : blks (sx.set j ⟨p, rp, c, 1, [(j : Int)], [], [], false⟩) = blks st := by rw [blks_set (t := ⟨p, rp, c, 1, [(j : Int)], [], [], false⟩) hs rfl rfl, HBX.out]
            have hV6 : Upd [] wm w6 := hVj.blks (hu6.mono (fun z hz _ => mem_blks hs z hz)) HBX.out hlow
            obtain ⟨g', o', eg, hcell6⟩ := Chans.cell hC6' hs6
            cases eg
            clear hC6 hu6 hCj hVj hcell
            go_wp2_with fail
            refine (chanValues_any p rp c 1 [(j : Int)] [] [] false _ (hC6'.all j _ hs6)).mono ?_
            rintro e w7 ⟨a5, k5, rfl, ho5, hC7, hu7⟩
            have hV7 : Upd [] wm w7 := hV6.trans hu7 (fun z hz hl => by have := hlow z (by rw [← hb6]; exact mem_blks hs6 z (by simp at hz; simp [hz])); omega)
            have hC7' := hC6'.upd (t := ⟨p, rp, c, 1, [(j : Int)], [], [], false⟩) hs6 (hu7.mono (fun z hz _ => by simp at hz; simp [hz])) hC7 rfl rfl
            rw [List.set_set] at hC7'
            obtain ⟨g0, g1, g2, g3⟩ := four_cells (hu7.keep hbg (by simp; omega))
            obtain ⟨b5, o5, rfl, hc5⟩ := (Rd.of_own ho5).at (by simp)
            have hx0 := hc5 0 _ rfl
            simp only [Nat.add_zero] at hx0
            have hjj : ((j : Int) != (j : Int)) = false := by simp
            have hfj : ((50 + (j : Int)) != (50 + (j : Int))) = false := by simp
            have HST7 := Lib.hid (fun (i : Nat) (s : ChSt) (hi : j + 1 ≤ i) (hsi : (sx.set j (⟨p, rp, c, 1, [(j : Int)], [], [], false⟩ : ChSt))[i]? = some s) => show ∃ p rp c, s = ⟨p, rp, c, 1, [50 + (i : Int)], [⟨7, (i : Int), 1, (i : Int)⟩], [], false⟩ from by
              rw [List.getElem?_set, if_neg (by omega)] at hsi
              exact HSTX.out i s (by omega) hsi)
            have HB7 := Lib.hid hb6
            clear hc5 ho5 hC7 hC6' hV6 hbg hu7 hb6 hs6
            go_wp2
            go_roundw
            case rel => exact ⟨j + 1, _, by go_num, by omega, by rw [List.length_set]; exact hlx, HB7, HST7, hC7', hV7⟩
            case measure => simp [intOf]; omega
          · obtain rfl : j = k := by omega
            go_wp2
            go_ret
            exact ⟨rfl, HU.out.trans0 hVj⟩
end Go.Proofs.Ytjiepoeeahnbgaa
