/- op.cases: the walk. -/
import Derived.Test.YtjnhahdelipebaaXAx0
import Derived.Test.YtjnhahdelipebaaHBase
import Derived.Test.YtjnhahdelipebaaOpKinds
import Derived.Test.YtjnhahdelipebaaOpCases
import Derived.IntWalk
namespace Go.Proofs.Ytjnhahdelipebaa.XA
open Go.RowKit Go.Proofs.YtjnhahdelipebaaW.PrintWords Go.Proofs.YtjnhahdelipebaaW.PrintLast Go.Proofs.YtjnhahdelipebaaW.PrintMore
set_option linter.unusedVariables false
set_option linter.unusedSimpArgs false
open Go.Proofs.YtjnhahdelipebaaH (Upd Rd)
set_option maxHeartbeats 4000000 in
set_option maxRecDepth 100000 in
theorem progCases_bad (A : Option Addr) (m cp : Nat) (w : World) (hm : m < 1 ∨ 4 < m) :
    Calls Try.prog 50 #[.slice A m cp] w fun e w' => e = .returned (.int .i64 18) ∧ Below w.heap.size w w' := by
  go_enter Try.func50, Try.ntmps50
  go_wp2
  all_goals
    first
    | (exfalso; omega)
    | (go_ret; exact ⟨rfl, Below.refl _ _⟩)
set_option maxHeartbeats 16000000 in
set_option maxRecDepth 100000 in
theorem progCases_ok (A : Option Addr) (m cp : Nat) (hmc : m ≤ cp) (hm1 : 1 ≤ m) (hm4 : m ≤ 4) (l : List (S84)) (hl : l.length = m) (w : World) (hr0 : Kd.C k84 w A m l) :
    Calls Try.prog 50 #[.slice A m cp] w fun e w' => e = .returned (.int .i64 (casesF [] (l.map tripP))) ∧ Below w.heap.size w w' := by
  obtain ⟨r, hr⟩ : ∃ r, r = casesF [] (l.map tripP) := ⟨_, rfl⟩
  rw [← hr]
  have HR := Lib.hid hr
  have HL := Lib.hid hl
  have HC := Lib.hid hr0
  have hmf : ∀ (fn : Fn) (first cap : Array Value) (w : World), (Instr.makeFunc fn first cap).run Try.prog w = .ok (.func fn first cap) w := fun _ _ _ _ => rfl
  clear hr hl hr0
  go_enter Try.func50, Try.ntmps50
  go_wp2
  go_loopw [15] (fun i wr => ∃ k : Nat, k ≤ m ∧ i = .int .i64 k ∧ Below w.heap.size w wr ∧ Hid (casesF ((l.take k).map (·.f1)) ((l.drop k).map tripP) = r)) (fun i _ => m - (intOf i).toNat)
  case atStart => exact ⟨0, Nat.zero_le _, rfl, Below.refl _ _, Lib.hid HR.out.symm⟩
  case round =>
    obtain ⟨k, hk, rfl, hb, HE⟩ := hrel
    by_cases hlt : k < m
    · have hkl : k < l.length := by rw [HL.out]; exact hlt
      obtain ⟨ad, rfl, x0, x1, x2⟩ := at_T84 (Kd.C_below HC.out hb) k (by omega) (by omega)
      obtain ⟨o, ho⟩ : ∃ o, o = rd_T84 l k := ⟨_, rfl⟩
      rw [← ho] at x0 x1 x2
      simp only [Int.toNat_natCast] at x0 x1 x2
      have hdr : l.drop k = o :: l.drop (k + 1) := by
        rw [List.drop_eq_getElem_cons hkl, ho]
        simp [rd_T84, List.getD, hkl]
      have htk : l.take (k + 1) = l.take k ++ [o] := by
        rw [List.take_succ_eq_append_getElem hkl, ho]
        simp [rd_T84, List.getD, hkl]
      have hE := HE.out
      rw [hdr, List.map_cons, casesF] at hE
      have HO := Lib.hid ho
      obtain ⟨f0, f1, f2⟩ := o
      simp only [tripP] at hE x0 x1 x2
      have HE2 := Lib.hid hE
      have HTK := Lib.hid htk
      have hadl := World.block_lt_of_cell? wr _ x1
      clear hE hdr ho HE htk
      by_cases hg : 0 ≤ f1 ∧ f1 < 8 ∧ (f0 = true ∨ f0 = false ∧ f2 = 0)
      · obtain ⟨g1, g2, g3⟩ := hg
        have hE : (if f1 ∈ (l.take k).map (·.f1) then 6 else casesF ((l.take k).map (·.f1) ++ [f1]) ((l.drop (k + 1)).map tripP)) = r := by
          have h := HE2.out
          have hbd : badC (f0, f1, f2) = false := by
            rcases g3 with rfl | ⟨rfl, rfl⟩ <;> simp [badC] <;> omega
          simp only [hbd, Bool.false_eq_true, if_false] at h
          exact h
        have HE3 := Lib.hid hE
        have hmk : ((l.take k).any fun c => c.f1 == f1) = decide (f1 ∈ (l.take k).map (·.f1)) := by
          rw [Bool.eq_iff_iff, List.any_eq_true, decide_eq_true_iff, List.mem_map]
          constructor
          · rintro ⟨x, h1, h2⟩
            exact ⟨x, h1, by simpa using h2⟩
          · rintro ⟨x, h1, h2⟩
            exact ⟨x, h1, by simpa using h2⟩
        have HMK := Lib.hid hmk
        have hrun : ∀ W : World, (Instr.slice 50 (.slice (some ad) m cp) none (some (.int .i64 (k : Int))) none).run Try.prog W = .ok (.slice (some ad) k cp) W := by
          intro W
          have h := cut_to (P := Try.prog) 50 84 .i64 rfl rfl (some ad) m cp (k : Int) (by omega) (by omega) hmc W
          rw [Int.toNat_natCast] at h
          exact h
        have htl : (l.take k).length = k := by rw [List.length_take]; omega
        have hct : Kd.C k84 w (some ad) k (l.take k) := by
          have h := Kd.C_take (k := k84) (A := some ad) (w := w) (xs := l) (m := k) (by rw [HL.out]; exact HC.out) (by omega)
          rwa [htl] at h
        have HTL := Lib.hid htl
        have HCT := Lib.hid hct
        have HB := Lib.hid hb
        clear hE HE2 hmk htl hct
        cases hd : decide (f1 ∈ (l.take k).map (·.f1)) with
        | true =>
          have HD := Lib.hid hd
          clear hd
          rcases g3 with rfl | ⟨rfl, rfl⟩
          all_goals
            go_wp2_with fail
            refine (containsC_any wr.heap.size f1 (some ad) k cp (l.take k) HTL.out _ (Kd.C_below HCT.out (by (repeat (refine Below.setCell ?_ (by simp [HB.out.size]) _)); exact below_alloc HB.out _)) (by omega) (by simp) true (by rw [HMK.out]; exact HD.out)).mono ?_
            rintro e w1 ⟨rfl, hu1⟩
            go_wp2
            go_ret
            refine ⟨ret_i64 ?_, ?_⟩
            · have h := HE3.out
              rw [if_pos (of_decide_eq_true HD.out)] at h
              exact h
            · refine Below.trans ?_ (hu1.belowB ?_ (by simp))
              · (repeat (refine Below.setCell ?_ (by simp [HB.out.size]) _)); exact below_alloc HB.out _
              · simp; have := HB.out.size; omega
        | false =>
          have HD := Lib.hid hd
          clear hd
          rcases g3 with rfl | ⟨rfl, rfl⟩
          all_goals
            go_wp2_with fail
            refine (containsC_any wr.heap.size f1 (some ad) k cp (l.take k) HTL.out _ (Kd.C_below HCT.out (by (repeat (refine Below.setCell ?_ (by simp [HB.out.size]) _)); exact below_alloc HB.out _)) (by omega) (by simp) false (by rw [HMK.out]; exact HD.out)).mono ?_
            rintro e w1 ⟨rfl, hu1⟩
            go_wp2
            go_roundw
            case rel =>
              refine ⟨k + 1, by omega, by go_num, ?_, Lib.hid ?_⟩
              · refine Below.trans ?_ (hu1.belowB ?_ (by simp))
                · (repeat (refine Below.setCell ?_ (by simp [HB.out.size]) _)); exact below_alloc HB.out _
                · simp; have := HB.out.size; omega
              · have h := HE3.out
                rw [if_neg (of_decide_eq_false HD.out)] at h
                rw [HTK.out, List.map_append]
                exact h
            case measure => simp [intOf]; omega
      · have hE : (1 : Int) = r := by
          have h := HE2.out
          have hbd : badC (f0, f1, f2) = true := by
            cases f0 <;> simp [badC] <;> simp at hg <;> omega
          simp only [hbd, if_true] at h
          exact h
        have HE3 := Lib.hid hE
        have HG := Lib.hid hg
        clear hE HE2 hg
        cases f0 with
        | true =>
          go_wp2_with fail
          all_goals
            first
            | (exfalso; have hg := HG.out; simp at hg; omega)
            | (go_ret; refine ⟨ret_i64 HE3.out, ?_⟩; (repeat (refine Below.setCell ?_ (by simp [hb.size]) _)); exact below_alloc hb _)
        | false =>
          by_cases h2 : f2 = 0
          · have t2 : (f2 != 0) = false := by simp [h2]
            go_wp2_with fail
            all_goals
              first
              | (exfalso; have hg := HG.out; simp [h2] at hg; omega)
              | (go_ret; refine ⟨ret_i64 HE3.out, ?_⟩; (repeat (refine Below.setCell ?_ (by simp [hb.size]) _)); exact below_alloc hb _)
          · have t2 : (f2 != 0) = true := by simp [h2]
            go_wp2_with fail
            all_goals
              first
              | (go_ret; refine ⟨ret_i64 HE3.out, ?_⟩; (repeat (refine Below.setCell ?_ (by simp [hb.size]) _)); exact below_alloc hb _)
    · obtain rfl : k = m := by omega
      have hE := HE.out
      rw [List.drop_of_length_le (by rw [HL.out]; exact Nat.le_refl _), List.map_nil, casesF] at hE
      subst hE
      go_wp2
      go_ret
      exact ⟨rfl, hb⟩
theorem progCases_any (A : Option Addr) (m cp : Nat) (hmc : m ≤ cp) (l : List (S84)) (hl : l.length = m) (w : World) (hr0 : Kd.C k84 w A m l) :
    Calls Try.prog 50 #[.slice A m cp] w fun e w' => e = .returned (.int .i64 (if m < 1 ∨ 4 < m then 18 else casesF [] (l.map tripP))) ∧ Below w.heap.size w w' := by
  by_cases h : m < 1 ∨ 4 < m
  · rw [if_pos h]
    exact progCases_bad A m cp w h
  · rw [if_neg h]
    exact progCases_ok A m cp hmc (by omega) (by omega) l hl w hr0
end Go.Proofs.Ytjnhahdelipebaa.XA
