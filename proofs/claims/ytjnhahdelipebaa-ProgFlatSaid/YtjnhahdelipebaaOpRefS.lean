/- watchbillref8.CheckOp at Select. -/
import Derived.Test.YtjnhahdelipebaaXAx0
import Derived.Test.YtjnhahdelipebaaHBase
import Derived.Test.YtjnhahdelipebaaOpRefP
import Derived.IntWalk
namespace Go.Proofs.Ytjnhahdelipebaa.XA
open Go.RowKit Go.Proofs.YtjnhahdelipebaaW.PrintWords Go.Proofs.YtjnhahdelipebaaW.PrintLast Go.Proofs.YtjnhahdelipebaaW.PrintMore
set_option linter.unusedVariables false
set_option linter.unusedSimpArgs false
open Go.Proofs.YtjnhahdelipebaaH (Upd Rd)
set_option maxHeartbeats 16000000 in
set_option maxRecDepth 100000 in
theorem refOp_selbad (n v wt : Int) (A : Option Addr) (m cp : Nat) (l : List (S85)) (hl : l.length = m) (w : World) (hb : ¬ (v = 0 ∧ n = 0 ∧ -1 ≤ wt ∧ wt ≤ 1000 ∧ 1 ≤ m ∧ m ≤ 4)) :
    Calls Try.prog 35 #[.agg #[.int .i64 7, .int .i64 n, .int .i64 v, .int .i64 wt, .slice A m cp]] w fun e w' => e = .returned (.int .i64 (chkOp 7 n v wt (l.map tripR))) ∧ Below w.heap.size w w' := by
  obtain ⟨r, hr⟩ : ∃ r, r = chkOp 7 n v wt (l.map tripR) := ⟨_, rfl⟩
  rw [← hr]
  have HR := Lib.hid hr
  have HL := Lib.hid hl
  have HB := Lib.hid hb
  clear hr hl hb
  go_enter Try.func35, Try.ntmps35
  go_wp2
  all_goals
    first
    | (exfalso; have hb := HB.out; omega)
    | (go_ret
       refine ⟨ret_i64 ?_, (Below.refl _ _).alloc (Nat.le_refl _) _⟩
       rw [HR.out]
       have hm := HL.out
       unfold chkOp leastN mostN
       rw [List.length_map, hm]
       (repeat' split) <;> first | rfl | omega)
set_option maxHeartbeats 16000000 in
set_option maxRecDepth 100000 in
theorem refOp_sel (wt : Int) (hw1 : -1 ≤ wt) (hw2 : wt ≤ 1000) (A : Option Addr) (m cp : Nat) (hm1 : 1 ≤ m) (hm4 : m ≤ 4) (l : List (S85)) (hl : l.length = m) (w : World) (hr0 : Kd.C k85 w A m l) :
    Calls Try.prog 35 #[.agg #[.int .i64 7, .int .i64 0, .int .i64 0, .int .i64 wt, .slice A m cp]] w fun e w' => e = .returned (.int .i64 (casesF [] (l.map tripR))) ∧ Below w.heap.size w w' := by
  obtain ⟨r, hr⟩ : ∃ r, r = casesF [] (l.map tripR) := ⟨_, rfl⟩
  rw [← hr]
  have HR := Lib.hid hr
  have HL := Lib.hid hl
  have HC := Lib.hid hr0
  obtain ⟨ad, -⟩ := at_T85 hr0 0 (by decide) (by omega)
  clear hr hl hr0
  go_enter Try.func35, Try.ntmps35
  go_wp2
  go_loopw [6] (fun i wr => ∃ k : Nat, k ≤ m ∧ i = .int .i64 k ∧ wr.heap[w.heap.size]? = some (.cells #[.int .i64 7, .int .i64 0, .int .i64 0, .int .i64 wt, .slice A m cp] 62 (0, 0)) ∧ Below w.heap.size w wr ∧ Hid (casesF ((l.take k).map (·.f1)) ((l.drop k).map tripR) = r)) (fun i _ => m - (intOf i).toNat)
  case atStart => exact ⟨0, Nat.zero_le _, rfl, heap_alloc_new w _, (Below.refl _ _).alloc (Nat.le_refl _) _, Lib.hid HR.out.symm⟩
  case round =>
    obtain ⟨k, hk, rfl, hbox, hb, HE⟩ := hrel
    have oc4 := (blk_cell hbox 4).trans (show (#[Value.int .i64 7, .int .i64 0, .int .i64 0, .int .i64 wt, .slice A m cp] : Array Value)[4]? = some (.slice A m cp) from rfl)
    have hboxlt := blk_lt hbox
    have HBOX := Lib.hid hbox
    clear hbox
    by_cases hlt : k < m
    · have hkl : k < l.length := by rw [HL.out]; exact hlt
      obtain ⟨ad, rfl, x0, x1, x2⟩ := at_T85 (Kd.C_below HC.out hb) k (by omega) (by omega)
      obtain ⟨o, ho⟩ : ∃ o, o = rd_T85 l k := ⟨_, rfl⟩
      rw [← ho] at x0 x1 x2
      simp only [Int.toNat_natCast] at x0 x1 x2
      have hdr : l.drop k = o :: l.drop (k + 1) := by
        rw [List.drop_eq_getElem_cons hkl, ho]
        simp [rd_T85, List.getD, hkl]
      have htk : l.take (k + 1) = l.take k ++ [o] := by
        rw [List.take_succ_eq_append_getElem hkl, ho]
        simp [rd_T85, List.getD, hkl]
      have hE := HE.out
      rw [hdr, List.map_cons, casesF] at hE
      obtain ⟨f0, f1, f2⟩ := o
      simp only [tripR] at hE x0 x1 x2
      have HE2 := Lib.hid hE
      have HTK := Lib.hid htk
      have hadl := World.block_lt_of_cell? wr _ x1
      clear hE hdr ho HE htk
      by_cases hg : 0 ≤ f1 ∧ f1 < 8 ∧ (f0 = true ∨ f0 = false ∧ f2 = 0)
      · obtain ⟨g1, g2, g3⟩ := hg
        have hE : (if f1 ∈ (l.take k).map (·.f1) then 6 else casesF ((l.take k).map (·.f1) ++ [f1]) ((l.drop (k + 1)).map tripR)) = r := by
          have h := HE2.out
          have hbd : badC (f0, f1, f2) = false := by
            rcases g3 with rfl | ⟨rfl, rfl⟩ <;> simp [badC] <;> omega
          simp only [hbd, Bool.false_eq_true, if_false] at h
          exact h
        have HE3 := Lib.hid hE
        have hW : Below w.heap.size w (wr.alloc (.cells #[.bool f0, .int .i64 f1, .int .i64 f2] 85)) := below_alloc hb _
        have hbox1 := blk_alloc HBOX.out (.cells #[.bool f0, .int .i64 f1, .int .i64 f2] 85)
        have HW := Lib.hid hW
        have HBOX1 := Lib.hid hbox1
        clear hE HE2 hW hbox1 HBOX
        rcases g3 with rfl | ⟨rfl, rfl⟩
        all_goals
          go_wp2
          go_loopw [8] (fun i wr' => ∃ j n : Nat, j ≤ k ∧ i = .int .i64 j ∧ wr' = (wr.alloc (.cells #[.bool _, .int .i64 f1, .int .i64 _] 85)).drewN n ∧ Hid (∀ t, t < j → (rd_T85 l t).f1 ≠ f1)) (fun i _ => k - (intOf i).toNat)
          case atStart => exact ⟨0, 0, Nat.zero_le _, rfl, rfl, Lib.hid (fun t ht => absurd ht (Nat.not_lt_zero _))⟩
          case round =>
            obtain ⟨j, nn, hj, rfl, rfl, HN⟩ := hrel
            have hW := HW.out
            have oc5 := (blk_cell HBOX1.out 4).trans (show (#[Value.int .i64 7, .int .i64 0, .int .i64 0, .int .i64 wt, .slice (some ad) m cp] : Array Value)[4]? = some (.slice (some ad) m cp) from rfl)
            by_cases hjk : j < k
            · obtain ⟨ad', e, y0, y1, y2⟩ := at_T85 (Kd.C_below HC.out hW) j (by omega) (by omega)
              cases e
              obtain ⟨z, hz⟩ : ∃ z, z = (rd_T85 l j).f1 := ⟨_, rfl⟩
              rw [← hz] at y1
              simp only [Int.toNat_natCast] at y1
              have hj0 : (0 : Int) ≤ (j : Int) := by omega
              have hjm : (j : Int) < (m : Int) := by omega
              have HZ := Lib.hid hz
              clear hz y0 y2 hW
              by_cases hzf : z = f1
              · have hzt : (z == f1) = true := beq_iff_eq.2 hzf
                have HZF := Lib.hid hzf
                clear hzf
                go_wp2
                go_quiet (fail)
                go_wp2
                go_ret
                refine ⟨ret_i64 ?_, pw_below_drewN (pw_below_drewN HW.out _) _⟩
                have hE := HE3.out
                rw [if_pos (by
                  rw [List.mem_map]
                  have hjl : j < l.length := by rw [HL.out]; omega
                  refine ⟨l[j], ?_, ?_⟩
                  · rw [List.mem_take_iff_getElem]
                    exact ⟨j, by omega, rfl⟩
                  · have h1 := HZ.out.symm.trans HZF.out
                    simpa [rd_T85, List.getD, hjl] using h1)] at hE
                exact hE
              · have hzt : (z == f1) = false := beq_eq_false_iff_ne.2 hzf
                have HZF := Lib.hid hzf
                clear hzf
                go_wp2
                go_quiet (fail)
                go_wp2
                go_roundw
                case rel => exact ⟨j + 1, _, by omega, by go_num, rfl, Lib.hid (fun t ht => by
                  rcases Nat.lt_or_ge t j with h | h
                  · exact HN.out t h
                  · obtain rfl : t = j := by omega
                    have := HZF.out
                    rwa [HZ.out] at this)⟩
                case measure => simp [intOf]; omega
            · obtain rfl : j = k := by omega
              go_wp2
              go_roundw
              case rel =>
                refine ⟨j + 1, by omega, by go_num, blk_drewN HBOX1.out _, pw_below_drewN HW.out _, Lib.hid ?_⟩
                have hE := HE3.out
                rw [if_neg (by
                  rw [List.mem_map]
                  rintro ⟨x, hx, hxf⟩
                  rw [List.mem_take_iff_getElem] at hx
                  obtain ⟨t, ht, rfl⟩ := hx
                  have h1 := HN.out t (by omega)
                  have htl : t < l.length := by omega
                  simp [rd_T85, List.getD, htl] at h1
                  exact h1 hxf)] at hE
                rw [HTK.out, List.map_append]
                exact hE
              case measure => simp [intOf]; omega
      · have hE : (1 : Int) = r := by
          have h := HE2.out
          have hbd : badC (f0, f1, f2) = true := by
            cases f0 <;> simp [badC] <;> simp at hg <;> omega
          simp only [hbd, if_true] at h
          exact h
        have HE3 := Lib.hid hE
        have HG := Lib.hid hg
        clear hE HE2 hg
        cases f0 with
        | true =>
          go_wp2
          all_goals
            first
            | (exfalso; have hg := HG.out; simp at hg; omega)
            | (go_ret; exact ⟨ret_i64 HE3.out, below_alloc hb _⟩)
        | false =>
          by_cases h2 : f2 = 0
          · have t2 : (f2 != 0) = false := by simp [h2]
            go_wp2
            all_goals
              first
              | (exfalso; have hg := HG.out; simp [h2] at hg; omega)
              | (go_ret; exact ⟨ret_i64 HE3.out, below_alloc hb _⟩)
          · have t2 : (f2 != 0) = true := by simp [h2]
            go_wp2
            all_goals
              first
              | (go_ret; exact ⟨ret_i64 HE3.out, below_alloc hb _⟩)
    · obtain rfl : k = m := by omega
      have hE := HE.out
      rw [List.drop_of_length_le (by rw [HL.out]; exact Nat.le_refl _), List.map_nil, casesF] at hE
      subst hE
      go_wp2
      go_ret
      exact ⟨rfl, hb⟩
theorem refOp_any (a0_0 : Int) (a0_1 : Int) (a0_2 : Int) (a0_3 : Int) (A0_4 : Option Addr) (c0_4 : Nat) (l0_4 : List (S85)) (w : World) (hr0_4 : Kd.C k85 w A0_4 l0_4.length l0_4) :
    Calls Try.prog 35 #[.agg #[.int .i64 a0_0, .int .i64 a0_1, .int .i64 a0_2, .int .i64 a0_3, .slice A0_4 l0_4.length c0_4]] w fun e w' => e = .returned (.int .i64 (chkOp a0_0 a0_1 a0_2 a0_3 (l0_4.map tripR))) ∧ Below w.heap.size w w' := by
  by_cases h0 : a0_0 < 1 ∨ 9 < a0_0
  · exact refOp_none a0_0 h0 a0_1 a0_2 a0_3 A0_4 _ c0_4 l0_4 rfl w
  · by_cases h7 : a0_0 = 7
    · subst h7
      by_cases hg : a0_2 = 0 ∧ a0_1 = 0 ∧ -1 ≤ a0_3 ∧ a0_3 ≤ 1000 ∧ 1 ≤ l0_4.length ∧ l0_4.length ≤ 4
      · obtain ⟨rfl, rfl, h1, h2, h3, h4⟩ := hg
        have e : chkOp 7 0 0 a0_3 (l0_4.map tripR) = casesF [] (l0_4.map tripR) := by
          unfold chkOp leastN mostN
          rw [List.length_map, if_neg (by omega), if_neg (by omega), if_neg (by simp; omega), if_neg (by omega), if_neg (by omega)]
        rw [e]
        exact refOp_sel a0_3 h1 h2 A0_4 _ c0_4 h3 h4 l0_4 rfl w hr0_4
      · exact refOp_selbad a0_1 a0_2 a0_3 A0_4 _ c0_4 l0_4 rfl w hg
    · exact refOp_plain a0_0 (by omega) a0_1 a0_2 a0_3 A0_4 _ c0_4 l0_4 rfl w
end Go.Proofs.Ytjnhahdelipebaa.XA
