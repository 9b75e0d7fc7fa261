/- The first of those that can is done: the walk of PickFirst. -/
import Derived.Test.YtjiepoeeahnbgaaStarts
namespace Go.Proofs.Ytjiepoeeahnbgaa
set_option linter.unusedVariables false
set_option linter.unusedSimpArgs false
open Go.RowKit
theorem start_lit {wr W : World} {v : Value} (h : W = (wr.alloc (.cells #[.int .u8 1, .slice (some ⟨wr.heap.size + 1, 0, none⟩) 1 1, .slice none 0 0, .slice none 0 0, .bool false] 28)).alloc (.cells #[v] 2)) :
    W.heap[wr.heap.size + 1]? = some (.cells #[v] 2 (0, 0)) := by
  have h1 := heap_alloc_new (wr.alloc (.cells #[.int .u8 1, .slice (some ⟨wr.heap.size + 1, 0, none⟩) 1 1, .slice none 0 0, .slice none 0 0, .bool false] 28)) (.cells #[v] 2)
  rw [sz_alloc] at h1
  rw [h]
  exact h1
theorem Chans.same {w w' : World} {a : Option Addr} {cap : Nat} {st : List ChSt} (h : Chans w a cap st) {i : Nat} {s : ChSt} (hi : st[i]? = some s) (hu : Upd [s.c] w w') (hn : s.lies w') : Chans w' a cap st := by
  have h1 := h.upd (t := s) hi (hu.mono (fun z hz _ => by simp at hz; simp [hz])) hn rfl rfl
  have e : st.set i s = st := by
    apply List.ext_getElem?
    intro k
    rw [List.getElem?_set]
    split
    · rename_i e
      subst e
      have := (List.getElem?_eq_some_iff.1 hi).1
      simp [this, hi]
      exact (List.getElem?_eq_some_iff.1 hi).2.symm
    · rfl
  rwa [e] at h1
set_option maxHeartbeats 64000000 in
set_option maxRecDepth 100000 in
theorem pickFirst_walk (n : Int) (a : Option Addr) (cap : Nat) (ns : List Bool) (w : World) (hn : (Lit.int .u8 n).wf = true) (hr : Rd w (.slice a ns.length cap) ns.length (ns.map Value.bool)) :
    Calls Try.prog 4 #[.int .u8 n, .slice a ns.length cap] w fun e w' => e = .returned (.bool true) ∧ Upd [] w w' := by
  obtain ⟨hn0, hn1⟩ := wf_u8 hn
  obtain ⟨k0, hk0⟩ : ∃ k0 : Nat, k0 = (n % 6).toNat := ⟨_, rfl⟩
  have ht : n.tmod 6 = (k0 : Int) := by rw [Int.tmod_eq_emod_of_nonneg hn0]; omega
  have hk5 : k0 ≤ 5 := by omega
  obtain ⟨k, hk⟩ : ∃ k, k = 1 + k0 := ⟨_, rfl⟩
  obtain ⟨f, hf⟩ : ∃ f : Nat → Bool, f = fun j => !(ns.getD j false) := ⟨_, rfl⟩
  obtain ⟨vals, hvals⟩ : ∃ vals : Nat → Option Int, vals = fun j => if f j then some (j : Int) else none := ⟨_, rfl⟩
  have HR := Lib.hid hr
  have HF := Lib.hid hf
  have HV := Lib.hid hvals
  clear hr hn hk0 hf hvals
  go_enter Try.func4, Try.ntmps4
  go_wp2_with fail
  refine (known16_ok _).mono ?_
  rintro e w1 ⟨rfl, hU0⟩
  by_cases hbig : 6 < ns.length
  · go_wp2
    go_ret
    exact ⟨rfl, hU0⟩
  have HK := Lib.hid hk
  clear hk
  go_wp2
  rw [show (1 : Int) + (k0 : Int) = (k : Int) by have := HK.out; omega]
  have hk6 : k ≤ 6 := by have := HK.out; omega
  have hk1 : 1 ≤ k := by have := HK.out; omega
  clear ht hk5
  go_loopw [6, 7, 8, 9] (fun sv lv wv iv wr => ∃ (i : Nat) (a1 a2 : Option Addr) (c1 c2 : Nat) (xs : List Sx), sv = .slice a1 i c1 ∧ lv = .slice a2 i c2 ∧ wv = .int .i64 (optI (wantTo f i)) ∧ iv = .int .i64 i ∧ i ≤ k ∧ Hid (SxTo wr 1 vals i xs) ∧ Hid (wr.ownsRow w.heap.size 28 5 (.slice a1 i c1) i (xs.flatMap Sx.enc)) ∧ Hid (wr.ownsRow w.heap.size 30 3 (.slice a2 i c2) i ((csTo false (fun _ => 0) i).flatMap Cs.enc)) ∧ Hid (Upd [] w wr)) (fun _ _ _ iv _ => k - (intOf iv).toNat)
  case atStart => exact ⟨0, none, none, 0, 0, [], rfl, rfl, rfl, rfl, Nat.zero_le _, Lib.hid (SxTo.nil _ _ _), Lib.hid (World.ownsRow_nil _ _ _ _), Lib.hid (World.ownsRow_nil _ _ _ _), Lib.hid hU0⟩
  case round =>
    obtain ⟨i, a1, a2, c1, c2, xs, rfl, rfl, rfl, rfl, hi, HX, HA1, HA2, HU⟩ := hrel
    by_cases hlt : i < k
    · have hs1 : i + 1 ≤ maxLen := by unfold maxLen; omega
      have hs2 : (i + 1) * 88 ≤ 140737488355328 := by omega
      have hs3 : (i + 1) * 24 ≤ 140737488355328 := by omega
      by_cases hln : i < ns.length
      · obtain ⟨b, off, rfl, hcv⟩ := (Rd.keep0 HR.out HU.out).at (by omega)
        have hcn := hcv i _ (get_bools hln)
        have hcn1 : (wr.alloc (.cells #[.int .u8 1, .slice none 0 0, .slice none 0 0, .slice none 0 0, .bool false] 28)).cell? ⟨b, off + i, none⟩ = some (.bool (ns.getD i false)) := ((Upd.refl [] wr).alloc _).cell hcn (by simp)
        clear hcv
        cases hb : ns.getD i false with
        | true =>
          rw [hb] at hcn hcn1
          have hff : f i = false := by rw [HF.out]; simp only [hb]; rfl
          have hvt : vals i = none := by rw [HV.out]; simp [hff]
          have hwn : wantTo f (i + 1) = wantTo f i := by simp only [wantTo]; cases wantTo f i <;> simp [hff]
          obtain ⟨W3, hW3⟩ : ∃ W3, W3 = wr.alloc (.cells #[.int .u8 1, .slice none 0 0, .slice none 0 0, .slice none 0 0, .bool false] 28) := ⟨_, rfl⟩
          have hu3 : Upd [] wr W3 := by
            rw [hW3]
            exact (Upd.refl [] wr).alloc _
          have ho1 := own_keep0 HA1.out hu3
          have ho2 := own_keep0 HA2.out hu3
          have hsx := (HX.out.keep hu3 (NotT.nil _ _)).snoc (x := ⟨1, none, 0, []⟩) (by rw [hvt]; rfl)
          have hU3 := HU.out.trans0 hu3
          have hsz3 := hU3.size
          have HW3 := Lib.hid hW3
          have HSX := Lib.hid hsx
          clear hW3 hsx
          go_wp2_with (first
            | (at_builtin; rw [← HW3.out]; refine wp_push2 tSx rfl (.tmp 57) (.tmp 59) rfl ho1 (Sx.enc ⟨1, none, 0, []⟩) rfl rfl (by rw [HW3.out]; simp [World.setCell]) rfl (by intro y hy; simp [Sx.enc] at hy; rcases hy with rfl | rfl | rfl | rfl | rfl <;> rfl) hs1 hs2 hsz3 ?_; intro g4 c4 w4 hown4 hu4 hat4; have ho24 := own_keep ho2 hu4 (own_apart ho2 ho1 (by decide)); have HSX4 := Lib.hid (HSX.out.keep hu4 (notT_own ho1 (by decide))); have hU4 : Upd [] w w4 := hU3.trans hu4 (fun z hz hl => by have := (ho1.lt z (by simpa using hz)).1; omega); have hsz4 := hU4.size)
            | (at_builtin; refine wp_push2 tCs rfl (.tmp 61) (.tmp 64) rfl ho24 (Cs.enc ⟨false, (i : Int), 0⟩) rfl rfl rfl rfl (by intro y hy; simp [Cs.enc] at hy; rcases hy with rfl | rfl | rfl <;> rfl) hs1 hs3 hsz4 ?_; intro g5 c5 w5 hown5 hu5 hat5; have ho15 := own_keep hown4 hu5 (own_apart hown4 ho24 (by decide)); have HSX5 := Lib.hid (HSX4.out.keep hu5 (notT_own ho24 (by decide))); have hU5 : Upd [] w w5 := hU4.trans hu5 (fun z hz hl => by have := (ho24.lt z (by simpa using hz)).1; omega)))
          go_roundw
          case rel => exact ⟨i + 1, _, _, _, _, _, rfl, rfl, (by rw [hwn]), by go_num, by omega, HSX5, Lib.hid (by rw [List.flatMap_append]; simpa using ho15), Lib.hid (by rw [csTo_snoc, List.flatMap_append]; simpa using hown5), Lib.hid hU5⟩
          case measure => simp [intOf]; omega
        | false =>
          rw [hb] at hcn hcn1
          have hft : f i = true := by rw [HF.out]; simp only [hb]; rfl
          have hvt : vals i = some (i : Int) := by rw [HV.out]; simp [hft]
          cases hw : wantTo f i with
          | none =>
            have hwn : wantTo f (i + 1) = some i := by simp [wantTo, hw, hft]
            simp only [optI]
            obtain ⟨W3, hW3⟩ : ∃ W3, W3 = (wr.alloc (.cells #[.int .u8 1, .slice (some ⟨wr.heap.size + 1, 0, none⟩) 1 1, .slice none 0 0, .slice none 0 0, .bool false] 28)).alloc (.cells #[.int .i64 i] 2) := ⟨_, rfl⟩
            have hu3 : Upd [] wr W3 := by
              rw [hW3]
              exact ((Upd.refl [] wr).alloc _).alloc _
            have hg3 := start_lit hW3
            have ho1 := own_keep0 HA1.out hu3
            have ho2 := own_keep0 HA2.out hu3
            have hsx := (HX.out.keep hu3 (NotT.nil _ _)).snoc (x := ⟨1, some ⟨wr.heap.size + 1, 0, none⟩, 1, [(i : Int)]⟩) (by rw [hvt]; exact ⟨_, rfl, hg3⟩)
            have hU3 := HU.out.trans0 hu3
            have hsz3 := hU3.size
            have HW3 := Lib.hid hW3
            have HSX := Lib.hid hsx
            clear hW3 hsx
            go_wp2_with (first
              | (at_builtin; rw [← HW3.out]; refine wp_push2 tSx rfl (.tmp 57) (.tmp 59) rfl ho1 (Sx.enc ⟨1, some ⟨wr.heap.size + 1, 0, none⟩, 1, [(i : Int)]⟩) rfl rfl (by rw [HW3.out]; simp [World.setCell]) rfl (by intro y hy; simp [Sx.enc] at hy; rcases hy with rfl | rfl | rfl | rfl | rfl <;> rfl) hs1 hs2 hsz3 ?_; intro g4 c4 w4 hown4 hu4 hat4; have ho24 := own_keep ho2 hu4 (own_apart ho2 ho1 (by decide)); have HSX4 := Lib.hid (HSX.out.keep hu4 (notT_own ho1 (by decide))); have hU4 : Upd [] w w4 := hU3.trans hu4 (fun z hz hl => by have := (ho1.lt z (by simpa using hz)).1; omega); have hsz4 := hU4.size)
              | (at_builtin; refine wp_push2 tCs rfl (.tmp 61) (.tmp 64) rfl ho24 (Cs.enc ⟨false, (i : Int), 0⟩) rfl rfl rfl rfl (by intro y hy; simp [Cs.enc] at hy; rcases hy with rfl | rfl | rfl <;> rfl) hs1 hs3 hsz4 ?_; intro g5 c5 w5 hown5 hu5 hat5; have ho15 := own_keep hown4 hu5 (own_apart hown4 ho24 (by decide)); have HSX5 := Lib.hid (HSX4.out.keep hu5 (notT_own ho24 (by decide))); have hU5 : Upd [] w w5 := hU4.trans hu5 (fun z hz hl => by have := (ho24.lt z (by simpa using hz)).1; omega)))
            go_roundw
            case rel => exact ⟨i + 1, _, _, _, _, _, rfl, rfl, (by rw [hwn]), by go_num, by omega, HSX5, Lib.hid (by rw [List.flatMap_append]; simpa using ho15), Lib.hid (by rw [csTo_snoc, List.flatMap_append]; simpa using hown5), Lib.hid hU5⟩
            case measure => simp [intOf]; omega
          | some j0 =>
            have hwn : wantTo f (i + 1) = some j0 := by simp [wantTo, hw]
            simp only [optI]
            obtain ⟨W3, hW3⟩ : ∃ W3, W3 = (wr.alloc (.cells #[.int .u8 1, .slice (some ⟨wr.heap.size + 1, 0, none⟩) 1 1, .slice none 0 0, .slice none 0 0, .bool false] 28)).alloc (.cells #[.int .i64 i] 2) := ⟨_, rfl⟩
            have hu3 : Upd [] wr W3 := by
              rw [hW3]
              exact ((Upd.refl [] wr).alloc _).alloc _
            have hg3 := start_lit hW3
            have ho1 := own_keep0 HA1.out hu3
            have ho2 := own_keep0 HA2.out hu3
            have hsx := (HX.out.keep hu3 (NotT.nil _ _)).snoc (x := ⟨1, some ⟨wr.heap.size + 1, 0, none⟩, 1, [(i : Int)]⟩) (by rw [hvt]; exact ⟨_, rfl, hg3⟩)
            have hU3 := HU.out.trans0 hu3
            have hsz3 := hU3.size
            have HW3 := Lib.hid hW3
            have HSX := Lib.hid hsx
            clear hW3 hsx
            go_wp2_with (first
              | (at_builtin; rw [← HW3.out]; refine wp_push2 tSx rfl (.tmp 57) (.tmp 59) rfl ho1 (Sx.enc ⟨1, some ⟨wr.heap.size + 1, 0, none⟩, 1, [(i : Int)]⟩) rfl rfl (by rw [HW3.out]; simp [World.setCell]) rfl (by intro y hy; simp [Sx.enc] at hy; rcases hy with rfl | rfl | rfl | rfl | rfl <;> rfl) hs1 hs2 hsz3 ?_; intro g4 c4 w4 hown4 hu4 hat4; have ho24 := own_keep ho2 hu4 (own_apart ho2 ho1 (by decide)); have HSX4 := Lib.hid (HSX.out.keep hu4 (notT_own ho1 (by decide))); have hU4 : Upd [] w w4 := hU3.trans hu4 (fun z hz hl => by have := (ho1.lt z (by simpa using hz)).1; omega); have hsz4 := hU4.size)
              | (at_builtin; refine wp_push2 tCs rfl (.tmp 61) (.tmp 64) rfl ho24 (Cs.enc ⟨false, (i : Int), 0⟩) rfl rfl rfl rfl (by intro y hy; simp [Cs.enc] at hy; rcases hy with rfl | rfl | rfl <;> rfl) hs1 hs3 hsz4 ?_; intro g5 c5 w5 hown5 hu5 hat5; have ho15 := own_keep hown4 hu5 (own_apart hown4 ho24 (by decide)); have HSX5 := Lib.hid (HSX4.out.keep hu5 (notT_own ho24 (by decide))); have hU5 : Upd [] w w5 := hU4.trans hu5 (fun z hz hl => by have := (ho24.lt z (by simpa using hz)).1; omega)))
            go_roundw
            case rel => exact ⟨i + 1, _, _, _, _, _, rfl, rfl, (by rw [hwn]), by go_num, by omega, HSX5, Lib.hid (by rw [List.flatMap_append]; simpa using ho15), Lib.hid (by rw [csTo_snoc, List.flatMap_append]; simpa using hown5), Lib.hid hU5⟩
            case measure => simp [intOf]; omega
      · skip
        have hft : f i = true := by rw [HF.out]; simp [List.getD, List.getElem?_eq_none (Nat.not_lt.1 hln)]
        have hvt : vals i = some (i : Int) := by rw [HV.out]; simp [hft]
        cases hw : wantTo f i with
        | none =>
          have hwn : wantTo f (i + 1) = some i := by simp [wantTo, hw, hft]
          simp only [optI]
          obtain ⟨W3, hW3⟩ : ∃ W3, W3 = (wr.alloc (.cells #[.int .u8 1, .slice (some ⟨wr.heap.size + 1, 0, none⟩) 1 1, .slice none 0 0, .slice none 0 0, .bool false] 28)).alloc (.cells #[.int .i64 i] 2) := ⟨_, rfl⟩
          have hu3 : Upd [] wr W3 := by
            rw [hW3]
            exact ((Upd.refl [] wr).alloc _).alloc _
          have hg3 := start_lit hW3
          have ho1 := own_keep0 HA1.out hu3
          have ho2 := own_keep0 HA2.out hu3
          have hsx := (HX.out.keep hu3 (NotT.nil _ _)).snoc (x := ⟨1, some ⟨wr.heap.size + 1, 0, none⟩, 1, [(i : Int)]⟩) (by rw [hvt]; exact ⟨_, rfl, hg3⟩)
          have hU3 := HU.out.trans0 hu3
          have hsz3 := hU3.size
          have HW3 := Lib.hid hW3
          have HSX := Lib.hid hsx
          clear hW3 hsx
          go_wp2_with (first
            | (at_builtin; rw [← HW3.out]; refine wp_push2 tSx rfl (.tmp 57) (.tmp 59) rfl ho1 (Sx.enc ⟨1, some ⟨wr.heap.size + 1, 0, none⟩, 1, [(i : Int)]⟩) rfl rfl (by rw [HW3.out]; simp [World.setCell]) rfl (by intro y hy; simp [Sx.enc] at hy; rcases hy with rfl | rfl | rfl | rfl | rfl <;> rfl) hs1 hs2 hsz3 ?_; intro g4 c4 w4 hown4 hu4 hat4; have ho24 := own_keep ho2 hu4 (own_apart ho2 ho1 (by decide)); have HSX4 := Lib.hid (HSX.out.keep hu4 (notT_own ho1 (by decide))); have hU4 : Upd [] w w4 := hU3.trans hu4 (fun z hz hl => by have := (ho1.lt z (by simpa using hz)).1; omega); have hsz4 := hU4.size)
            | (at_builtin; refine wp_push2 tCs rfl (.tmp 61) (.tmp 64) rfl ho24 (Cs.enc ⟨false, (i : Int), 0⟩) rfl rfl rfl rfl (by intro y hy; simp [Cs.enc] at hy; rcases hy with rfl | rfl | rfl <;> rfl) hs1 hs3 hsz4 ?_; intro g5 c5 w5 hown5 hu5 hat5; have ho15 := own_keep hown4 hu5 (own_apart hown4 ho24 (by decide)); have HSX5 := Lib.hid (HSX4.out.keep hu5 (notT_own ho24 (by decide))); have hU5 : Upd [] w w5 := hU4.trans hu5 (fun z hz hl => by have := (ho24.lt z (by simpa using hz)).1; omega)))
          go_roundw
          case rel => exact ⟨i + 1, _, _, _, _, _, rfl, rfl, (by rw [hwn]), by go_num, by omega, HSX5, Lib.hid (by rw [List.flatMap_append]; simpa using ho15), Lib.hid (by rw [csTo_snoc, List.flatMap_append]; simpa using hown5), Lib.hid hU5⟩
          case measure => simp [intOf]; omega
        | some j0 =>
          have hwn : wantTo f (i + 1) = some j0 := by simp [wantTo, hw]
          simp only [optI]
          obtain ⟨W3, hW3⟩ : ∃ W3, W3 = (wr.alloc (.cells #[.int .u8 1, .slice (some ⟨wr.heap.size + 1, 0, none⟩) 1 1, .slice none 0 0, .slice none 0 0, .bool false] 28)).alloc (.cells #[.int .i64 i] 2) := ⟨_, rfl⟩
          have hu3 : Upd [] wr W3 := by
            rw [hW3]
            exact ((Upd.refl [] wr).alloc _).alloc _
          have hg3 := start_lit hW3
          have ho1 := own_keep0 HA1.out hu3
          have ho2 := own_keep0 HA2.out hu3
          have hsx := (HX.out.keep hu3 (NotT.nil _ _)).snoc (x := ⟨1, some ⟨wr.heap.size + 1, 0, none⟩, 1, [(i : Int)]⟩) (by rw [hvt]; exact ⟨_, rfl, hg3⟩)
          have hU3 := HU.out.trans0 hu3
          have hsz3 := hU3.size
          have HW3 := Lib.hid hW3
          have HSX := Lib.hid hsx
          clear hW3 hsx
          go_wp2_with (first
            | (at_builtin; rw [← HW3.out]; refine wp_push2 tSx rfl (.tmp 57) (.tmp 59) rfl ho1 (Sx.enc ⟨1, some ⟨wr.heap.size + 1, 0, none⟩, 1, [(i : Int)]⟩) rfl rfl (by rw [HW3.out]; simp [World.setCell]) rfl (by intro y hy; simp [Sx.enc] at hy; rcases hy with rfl | rfl | rfl | rfl | rfl <;> rfl) hs1 hs2 hsz3 ?_; intro g4 c4 w4 hown4 hu4 hat4; have ho24 := own_keep ho2 hu4 (own_apart ho2 ho1 (by decide)); have HSX4 := Lib.hid (HSX.out.keep hu4 (notT_own ho1 (by decide))); have hU4 : Upd [] w w4 := hU3.trans hu4 (fun z hz hl => by have := (ho1.lt z (by simpa using hz)).1; omega); have hsz4 := hU4.size)
            | (at_builtin; refine wp_push2 tCs rfl (.tmp 61) (.tmp 64) rfl ho24 (Cs.enc ⟨false, (i : Int), 0⟩) rfl rfl rfl rfl (by intro y hy; simp [Cs.enc] at hy; rcases hy with rfl | rfl | rfl <;> rfl) hs1 hs3 hsz4 ?_; intro g5 c5 w5 hown5 hu5 hat5; have ho15 := own_keep hown4 hu5 (own_apart hown4 ho24 (by decide)); have HSX5 := Lib.hid (HSX4.out.keep hu5 (notT_own ho24 (by decide))); have hU5 : Upd [] w w5 := hU4.trans hu5 (fun z hz hl => by have := (ho24.lt z (by simpa using hz)).1; omega)))
          go_roundw
          case rel => exact ⟨i + 1, _, _, _, _, _, rfl, rfl, (by rw [hwn]), by go_num, by omega, HSX5, Lib.hid (by rw [List.flatMap_append]; simpa using ho15), Lib.hid (by rw [csTo_snoc, List.flatMap_append]; simpa using hown5), Lib.hid hU5⟩
          case measure => simp [intOf]; omega
    · obtain rfl : k = i := by omega
      have hxl := HX.out.1
      have hown1 := HA1.out
      rw [← hxl] at hown1
      have hsz := HU.out.size
      go_wp2_with fail
      rw [show Value.slice a1 k c1 = Value.slice a1 xs.length c1 by rw [hxl]]
      refine (made_any a1 c1 xs _ (Rd.of_own hown1) (HX.out.made (by omega) (fun j => by rw [HV.out]; simp only; split <;> simp)) (by omega)).mono ?_
      rintro e w2 ⟨a3, c3, a4, c4, st, rfl, hl, hB, hC, hu2⟩
      have hU2 := HU.out.trans0 hu2
      have hl2 := own_keep0 HA2.out hu2
      have hrl : RdCs w2 (.slice a2 (csTo false (fun _ => 0) k).length c2) (csTo false (fun _ => 0) k) := Rd.of_own (base := w.heap.size) (e := 30) (size := 3) (by rw [csTo_len]; exact hl2)
      have hlow : ∀ z ∈ blks st, w.heap.size ≤ z := fun z hz => Nat.le_trans hsz (hB.low z hz)
      have hne0 : ((st.length : Int) != (k : Int)) = false := by simp [hl, hxl]
      have hcan : ∀ (j : Nat) (c : Cs), (csTo false (fun _ => 0) k)[j]? = some c → canOf st c = f j := by
        intro j c hc
        obtain ⟨hj, rfl⟩ := csTo_at hc
        obtain ⟨s, hs⟩ : ∃ s, st[j]? = some s := ⟨_, List.getElem?_eq_getElem (by omega)⟩
        obtain ⟨p, rp, cc, rfl⟩ := HX.out.begun hB hs
        rw [canOf_at rfl hs]
        simp only [canAt, canR, HV.out]
        cases hfj : f j <;> simp [hfj]
      have hidx := idx_want (csTo_len false (fun _ => 0) k) hcan
      have hsl : st.length ≤ 1000000 := by omega
      have HB := Lib.hid hB
      have HLN := Lib.hid hxl
      have HST := Lib.hid hl
      have hlen : (csTo false (fun _ => 0) k).length = k := csTo_len ..
      have HCL := Lib.hid hlen
      clear hB hown1 hu2 hl2 hcan hxl hl hlen
      cases hw : wantTo f k with
      | none =>
        rw [hw] at hidx
        simp only [optI]
        go_wp2_with fail
        rw [show Value.slice a2 k c2 = Value.slice a2 (csTo false (fun _ => 0) k).length c2 by rw [HCL.out]]
        refine (do_none _ _ (csTo false (fun _ => 0) k) _ _ st none 0 0 _ hrl (by rw [HCL.out]; omega) hsl hC hidx).mono ?_
        rintro e w3 ⟨rfl, hu3⟩
        go_wp2
        go_ret
        exact ⟨rfl, hU2.trans0 hu3⟩
      | some i0 =>
        rw [hw] at hidx
        obtain ⟨hi0, hf0, _⟩ := wantTo_some hw
        obtain ⟨s, hsi⟩ : ∃ s, st[i0]? = some s := ⟨_, List.getElem?_eq_getElem (by have := HST.out; have := HLN.out; omega)⟩
        obtain ⟨q, qr, qc, rfl⟩ := HX.out.begun HB.out hsi
        have hv0 : vals i0 = some (i0 : Int) := by rw [HV.out]; simp [hf0]
        rw [hv0] at hsi
        simp only [optI]
        go_wp2_with fail
        rw [show Value.slice a2 k c2 = Value.slice a2 (csTo false (fun _ => 0) k).length c2 by rw [HCL.out]]
        refine (do_recv _ _ (csTo false (fun _ => 0) k) _ _ st none 0 0 _ hrl (by rw [HCL.out]; omega) hsl hC i0 i0 0 (i0 : Int) [] ⟨q, qr, qc, 1 % 5, [(i0 : Int)], [], [], false⟩ hidx (csTo_get _ _ hi0) hsi rfl rfl).mono ?_
        rintro e w3 ⟨rfl, hC3, hu3⟩
        have hU3 : Upd [] w w3 := hU2.trans hu3 (fun z hz hl => by have := hlow z hz; omega)
        replace hC3 : Chans w3 a3 c3 (st.set i0 ⟨q, qr, qc, 1 % 5, [], [], [], false⟩) := hC3
        clear hC hu3 hU2 hrl hidx
        go_wp2
        go_loopw [19] (fun jv wq => ∃ j : Nat, jv = .int .i64 j ∧ j ≤ k ∧ Chans wq a3 c3 (st.set i0 ⟨q, qr, qc, 1 % 5, [], [], [], false⟩) ∧ Upd [] w wq) (fun jv _ => k - (intOf jv).toNat)
        case atStart => exact ⟨0, rfl, Nat.zero_le _, hC3, hU3⟩
        case round =>
          clear hC3 hU3
          obtain ⟨j, rfl, hji', hCj, hUj⟩ := hrel
          by_cases hjk : j < k
          · obtain ⟨sj, hst⟩ : ∃ s, st[j]? = some s := ⟨_, List.getElem?_eq_getElem (by have := HST.out; have := HLN.out; omega)⟩
            have hjl := (List.getElem?_eq_some_iff.1 hst).1
            by_cases hln : j < ns.length
            · obtain ⟨b, off, rfl, hcv⟩ := (Rd.keep0 HR.out hUj).at (by omega)
              have hcn := hcv j _ (get_bools hln)
              clear hcv
              cases hb : ns.getD j false with
              | true =>
                rw [hb] at hcn
                have hff : f j = false := by rw [HF.out]; simp only [hb]; rfl
                have hvt : vals j = none := by rw [HV.out]; simp [hff]
                have hji : j ≠ i0 := fun e => by rw [e, hf0] at hff; cases hff
                obtain ⟨p, rp, c, rfl⟩ := HX.out.begun HB.out hst
                rw [hvt] at hst
                have hs : (st.set i0 (⟨q, qr, qc, 1 % 5, [], [], [], false⟩ : ChSt))[j]? = some ⟨p, rp, c, 1 % 5, [], [], [], false⟩ := by rw [List.getElem?_set, if_neg (fun e => hji e.symm)]; exact hst
                obtain ⟨g, o2, rfl, hcell⟩ := Chans.cell hCj hs
                go_wp2_with fail
                refine (chanValues_any p rp c (1 % 5) [] [] [] false _ (hCj.all j _ hs)).mono ?_
                rintro e w8 ⟨a5, k5, rfl, _, hC8, hu8⟩
                have hCn := hCj.same hs hu8 hC8
                have hUn : Upd [] w w8 := hUj.trans hu8 (fun z hz hl => by have := hlow z (mem_blks hst z (by simp at hz; simp [hz])); omega)
                go_wp2
                go_roundw
                case rel => exact ⟨j + 1, by go_num, by omega, hCn, hUn⟩
                case measure => simp [intOf]; omega
              | false =>
                rw [hb] at hcn
                have hft : f j = true := by rw [HF.out]; simp only [hb]; rfl
                have hvt : vals j = some (j : Int) := by rw [HV.out]; simp [hft]
                obtain ⟨p, rp, c, rfl⟩ := HX.out.begun HB.out hst
                rw [hvt] at hst
                by_cases hji : j = i0
                · subst hji
                  have hs : (st.set j (⟨q, qr, qc, 1 % 5, [], [], [], false⟩ : ChSt))[j]? = some ⟨q, qr, qc, 1 % 5, [], [], [], false⟩ := by simp [hjl]
                  have hqq : q = p ∧ qr = rp ∧ qc = c := by
                    rw [hst] at hsi
                    cases hsi
                    exact ⟨rfl, rfl, rfl⟩
                  obtain ⟨rfl, rfl, rfl⟩ := hqq
                  obtain ⟨g, o2, rfl, hcell⟩ := Chans.cell hCj hs
                  go_wp2_with fail
                  refine (chanValues_any q qr qc (1 % 5) [] [] [] false _ (hCj.all j _ hs)).mono ?_
                  rintro e w8 ⟨a5, k5, rfl, _, hC8, hu8⟩
                  have hCn := hCj.same hs hu8 hC8
                  have hUn : Upd [] w w8 := hUj.trans hu8 (fun z hz hl => by have := hlow z (mem_blks hst z (by simp at hz; simp [hz])); omega)
                  go_wp2
                  go_roundw
                  case rel => exact ⟨j + 1, by go_num, by omega, hCn, hUn⟩
                  case measure => simp [intOf]; omega
                · have hs : (st.set i0 (⟨q, qr, qc, 1 % 5, [], [], [], false⟩ : ChSt))[j]? = some ⟨p, rp, c, 1 % 5, [(j : Int)], [], [], false⟩ := by rw [List.getElem?_set, if_neg (fun e => hji e.symm)]; exact hst
                  have hne : ((j : Int) != (i0 : Int)) = true := by simpa using (by omega : (j : Int) ≠ (i0 : Int))
                  obtain ⟨g, o2, rfl, hcell⟩ := Chans.cell hCj hs
                  go_wp2_with fail
                  refine (chanValues_any p rp c (1 % 5) [(j : Int)] [] [] false _ (hCj.all j _ hs)).mono ?_
                  rintro e w8 ⟨a5, k5, rfl, _, hC8, hu8⟩
                  have hCn := hCj.same hs hu8 hC8
                  have hUn : Upd [] w w8 := hUj.trans hu8 (fun z hz hl => by have := hlow z (mem_blks hst z (by simp at hz; simp [hz])); omega)
                  go_wp2
                  go_roundw
                  case rel => exact ⟨j + 1, by go_num, by omega, hCn, hUn⟩
                  case measure => simp [intOf]; omega
            · skip
              have hft : f j = true := by rw [HF.out]; simp [List.getD, List.getElem?_eq_none (Nat.not_lt.1 hln)]
              have hvt : vals j = some (j : Int) := by rw [HV.out]; simp [hft]
              obtain ⟨p, rp, c, rfl⟩ := HX.out.begun HB.out hst
              rw [hvt] at hst
              by_cases hji : j = i0
              · subst hji
                have hs : (st.set j (⟨q, qr, qc, 1 % 5, [], [], [], false⟩ : ChSt))[j]? = some ⟨q, qr, qc, 1 % 5, [], [], [], false⟩ := by simp [hjl]
                have hqq : q = p ∧ qr = rp ∧ qc = c := by
                  rw [hst] at hsi
                  cases hsi
                  exact ⟨rfl, rfl, rfl⟩
                obtain ⟨rfl, rfl, rfl⟩ := hqq
                obtain ⟨g, o2, rfl, hcell⟩ := Chans.cell hCj hs
                go_wp2_with fail
                refine (chanValues_any q qr qc (1 % 5) [] [] [] false _ (hCj.all j _ hs)).mono ?_
                rintro e w8 ⟨a5, k5, rfl, _, hC8, hu8⟩
                have hCn := hCj.same hs hu8 hC8
                have hUn : Upd [] w w8 := hUj.trans hu8 (fun z hz hl => by have := hlow z (mem_blks hst z (by simp at hz; simp [hz])); omega)
                go_wp2
                go_roundw
                case rel => exact ⟨j + 1, by go_num, by omega, hCn, hUn⟩
                case measure => simp [intOf]; omega
              · have hs : (st.set i0 (⟨q, qr, qc, 1 % 5, [], [], [], false⟩ : ChSt))[j]? = some ⟨p, rp, c, 1 % 5, [(j : Int)], [], [], false⟩ := by rw [List.getElem?_set, if_neg (fun e => hji e.symm)]; exact hst
                have hne : ((j : Int) != (i0 : Int)) = true := by simpa using (by omega : (j : Int) ≠ (i0 : Int))
                obtain ⟨g, o2, rfl, hcell⟩ := Chans.cell hCj hs
                go_wp2_with fail
                refine (chanValues_any p rp c (1 % 5) [(j : Int)] [] [] false _ (hCj.all j _ hs)).mono ?_
                rintro e w8 ⟨a5, k5, rfl, _, hC8, hu8⟩
                have hCn := hCj.same hs hu8 hC8
                have hUn : Upd [] w w8 := hUj.trans hu8 (fun z hz hl => by have := hlow z (mem_blks hst z (by simp at hz; simp [hz])); omega)
                go_wp2
                go_roundw
                case rel => exact ⟨j + 1, by go_num, by omega, hCn, hUn⟩
                case measure => simp [intOf]; omega
          · obtain rfl : j = k := by omega
            go_wp2
            go_ret
            exact ⟨rfl, hUj⟩
end Go.Proofs.Ytjiepoeeahnbgaa
