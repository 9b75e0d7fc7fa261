/- One whose priority is raised above all is best, lowered below all he is last: the walk. -/
import Derived.Test.YtmjcolkpfblelaaRaisePure
import Derived.Test.YtmjcolkpfblelaaRowZ
import Derived.Test.YtmjcolkpfblelaaWaitKnown
namespace Go.Proofs.Ytmjcolkpfblelaa
set_option linter.unusedVariables false
set_option linter.unusedSimpArgs false
open Go.RowKit
theorem get_u8r (xs : List Int) (j : Nat) (h : j < xs.length) : (xs.map (Value.int .u8))[j]? = some (.int .u8 (xs.getD j 0)) := by
  rw [List.getElem?_map, List.getElem?_eq_getElem h]
  simp [List.getD, h]
theorem take_snoc_I {xs : List Int} {k : Nat} (hk : k < xs.length) : xs.take (k + 1) = xs.take k ++ [xs.getD k 0] := by
  rw [List.take_succ_eq_append_getElem hk]
  simp [List.getD, hk]
theorem types_ne : (3 : TypeId) ≠ 45 := by decide
set_option maxHeartbeats 16000000 in
set_option maxRecDepth 100000 in
theorem waitRaised_walk (a : Option Addr) (cap : Nat) (xs : List Int) (u : Int) (w : World) (hr : Rd w (.slice a xs.length cap) xs.length (xs.map (Value.int .u8))) (hx : ∀ n ∈ xs, (Lit.int .u8 n).wf = true) (hu8 : (Lit.int .u8 u).wf = true) :
    Calls Try.prog 6 #[.slice a xs.length cap, .int .u8 u] w fun e w' => e = .returned (.bool true) ∧ Upd [] w w' := by
  have hxb : ∀ j, j < xs.length → 0 ≤ xs.getD j 0 ∧ xs.getD j 0 ≤ 255 := fun j hj => wf_u8 (hx (xs.getD j 0) (by rw [List.getD_eq_getElem?_getD, List.getElem?_eq_getElem (by omega)]; simp))
  obtain ⟨m, hm⟩ : ∃ m, m = xs.length := ⟨_, rfl⟩
  have HRD := Lib.hid hr
  have HXB := Lib.hid hxb
  have HM := Lib.hid hm
  obtain ⟨hu0, hu1⟩ := wf_u8 hu8
  rw [← hm]
  clear hr hx hxb hm
  by_cases hsm : m < 1
  · have hd0 : decide ((m : Int) < 1) = true := decide_eq_true (by omega)
    go_enter Try.func6, Try.ntmps6
    go_wp2_with fail
    refine (known14_ok _).mono ?_
    rintro e w1 ⟨rfl, hU⟩
    go_wp2
    go_ret
    exact ⟨rfl, hU⟩
  have hd0 : decide ((m : Int) < 1) = false := decide_eq_false (by omega)
  by_cases hlg : 40 < m
  · have hd1 : decide (40 < (m : Int)) = true := decide_eq_true (by omega)
    go_enter Try.func6, Try.ntmps6
    go_wp2_with fail
    refine (known14_ok _).mono ?_
    rintro e w1 ⟨rfl, hU⟩
    go_wp2
    go_ret
    exact ⟨rfl, hU⟩
  have hd1 : decide (40 < (m : Int)) = false := decide_eq_false (by omega)
  have hlg : m ≤ 40 := by omega
  go_enter Try.func6, Try.ntmps6
  go_wp2_with fail
  refine (known14_ok _).mono ?_
  rintro e w1 ⟨rfl, hU⟩
  have HU := Lib.hid hU
  clear hU
  go_wp2
  go_loopw [5, 6, 7] (fun qv pv iv wr => ∃ (j : Nat), j ≤ m ∧ iv = .int .i64 j ∧ (∃ (va : Option Addr) (vc : Nat), qv = .slice va j vc) ∧ (∃ (va : Option Addr) (vc : Nat), pv = .slice va j vc) ∧ Hid (wr.ownsRow w.heap.size 45 4 qv j ((rowR j).flatMap Wt.enc)) ∧ Hid (wr.ownsRow w.heap.size 3 1 pv j ((xs.take j).map (Value.int .i64))) ∧ Hid (Upd [] w wr)) (fun _ _ iv _ => m - (intOf iv).toNat)
  case atStart => exact ⟨0, Nat.zero_le _, rfl, ⟨none, 0, rfl⟩, ⟨none, 0, rfl⟩, Lib.hid (World.ownsRow_nil _ _ _ _), Lib.hid (World.ownsRow_nil _ _ _ _), HU⟩
  case round =>
    clear HU
    obtain ⟨j, hj, rfl, ⟨qa, qc, rfl⟩, ⟨pa, pc, rfl⟩, HQ, HP, HU⟩ := hrel
    by_cases hlt : j < m
    · obtain ⟨hv0, hv1⟩ := HXB.out j (by rw [← HM.out]; exact hlt)
      have hc := get_u8r xs j (by rw [← HM.out]; exact hlt)
      have hnext := take_snoc_I (xs := xs) (k := j) (by rw [← HM.out]; exact hlt)
      generalize xs.getD j 0 = v at hv0 hv1 hc hnext
      obtain ⟨b', off, rfl, hcell⟩ := HRD.out.at (by rw [← HM.out]; omega)
      have gw := hcell j _ hc
      have hj0 : (0 : Int) ≤ (j : Int) := by omega
      have hj1 : (j : Int) < (m : Int) := by omega
      have hm1 : j + 1 ≤ maxLen := by unfold maxLen; omega
      have hm2 : (j + 1) * 32 ≤ 140737488355328 := by omega
      have hm3 : (j + 1) * 8 ≤ 140737488355328 := by omega
      have hsz := HU.out.size
      have HN := Lib.hid hnext
      have GW := Lib.hid gw
      clear hcell hc hnext gw
      go_wp2_with (first
        | (at_builtin; refine wp_push tWt rfl (.tmp 27) (.tmp 31) rfl HQ.out (Wt.enc (mkR j)) rfl rfl rfl (Wt.one1 _) hm1 hm2 hsz ?_; intro g3 c3 w3 hown3 hu3; have HP3 := Lib.hid (own_keep HP.out hu3 (own_apart HP.out HQ.out types_ne)); have hU3 : Upd [] w w3 := HU.out.trans hu3 (fun x hx hl => by have := (HQ.out.lt x (by simpa using hx)).1; omega); have HQ3 := Lib.hid hown3; have hsz3 := hU3.size; have g1 := hU3.cell GW.out (by simp); have HU3 := Lib.hid hU3; clear hown3 hu3 hU3)
        | (at_builtin; refine wp_push tInt rfl (.tmp 33) (.tmp 39) rfl HP3.out [.int .i64 v] rfl rfl rfl (by intro y hy; simp at hy; subst hy; rfl) hm1 hm3 hsz3 ?_; intro g4 c4 w4 hown4 hu4; have HQ4 := Lib.hid (own_keep HQ3.out hu4 (own_apart HQ3.out HP3.out types_ne.symm)); have hU4 : Upd [] w w4 := HU3.out.trans hu4 (fun x hx hl => by have := (HP3.out.lt x (by simpa using hx)).1; omega); have HP4 := Lib.hid hown4; have HU4 := Lib.hid hU4; clear hown4 hu4 hU4 g1))
      go_roundw
      case rel => exact ⟨j + 1, by omega, by go_num, ⟨_, _, rfl⟩, ⟨_, _, rfl⟩, Lib.hid (by have h := HQ4.out; rw [rowR_succ, enc_snoc]; exact h), Lib.hid (by have h := HP4.out; rw [HN.out, List.map_append]; exact h), HU4⟩
      case measure => simp [intOf]; omega
    · obtain rfl : j = m := by omega
      have hP : wr.ownsRow w.heap.size 3 1 (.slice pa xs.length pc) xs.length (xs.map fun z : Int => Value.int .i64 z) := by
        have h := HP.out
        rw [List.take_of_length_le (by rw [← HM.out]; exact Nat.le_refl _)] at h
        rw [← HM.out]
        exact h
      have hap := own_apart HQ.out HP.out types_ne.symm
      obtain ⟨g, pc2, he, hg, hcapm, hrow⟩ := RowZ.of_own hP (by rw [← HM.out]; omega)
      obtain ⟨rfl, rfl⟩ : pa = some ⟨g, 0, none⟩ ∧ pc = pc2 := by
        injection he with h1 h2 h3
        exact ⟨h1, h3⟩
      have hqg : ∀ k, (Value.slice qa j qc).ownBlock = some k → k ∉ [g] := by
        intro k hk
        have := hap k hk
        simpa [Value.ownBlock] using this
      obtain ⟨k, hk⟩ : ∃ k : Nat, k = (u % (j : Int)).toNat := ⟨_, rfl⟩
      have hmod0 := Int.emod_nonneg u (show (j : Int) ≠ 0 by omega)
      have hmod1 := Int.emod_lt_of_pos u (show (0 : Int) < (j : Int) by omega)
      have hk1 : u % (j : Int) = (k : Int) := by omega
      have hk2 : u.tmod (j : Int) = (k : Int) := by rw [Int.tmod_eq_emod_of_nonneg hu0]; exact hk1
      have hkj : k < j := by omega
      have hk3 : (0 : Int) ≤ (k : Int) := by omega
      have hk4 : (k : Int) < (j : Int) := by omega
      have c0 := hrow.cell (i := k) (by rw [← HM.out]; exact hkj)
      have f0 := hrow.frozen k
      have hr1 := hrow.set k 1000
      have hU1 : Upd [] w (wr.setCell ⟨g, k, none⟩ (.int .i64 1000)) := HU.out.setCell _ _ (fun h => by simp at h; omega)
      have hQ1 : (wr.setCell ⟨g, k, none⟩ (.int .i64 1000)).ownsRow w.heap.size 45 4 (.slice qa j qc) j ((rowR j).flatMap Wt.enc) := own_keep HQ.out ((Upd.refl [g] wr).setCell _ _ (fun _ => by simp)) hqg
      have HB : Hid (Calls Try.prog 10 #[.slice qa j qc, .slice (some ⟨g, 0, none⟩) j pc] (wr.setCell ⟨g, k, none⟩ (.int .i64 1000)) fun e w' => e = .returned (.int .i64 (k : Int)) ∧ Upd [] (wr.setCell ⟨g, k, none⟩ (.int .i64 1000)) w') := Lib.hid (by
        have hl : (xs.set k 1000).length = j := by rw [List.length_set]; exact HM.out.symm
        have hq := Rd.of_own hQ1
        have hp := hr1.rd hcapm
        have h := best_any qa (some ⟨g, 0, none⟩) qc pc (rowR j) (xs.set k 1000) _ (by rw [RdW, rowR_len]; exact hq) hp (by omega) (by rw [rowR_len]; omega)
        rw [rowR_len, hl, raise_best xs k j HM.out hkj (fun i hi => (HXB.out i (by rw [← HM.out]; exact hi)).2)] at h
        exact h)
      have HR1 := Lib.hid hr1
      have HU1 := Lib.hid hU1
      have HQ1 := Lib.hid hQ1
      have HQG := Lib.hid hqg
      have HG := Lib.hid hg
      have HCM := Lib.hid hcapm
      clear he hap hP hrow hr1 hU1 hQ1 hqg hk hmod0 hmod1 hg hcapm HP HQ HU
      go_wp2_with fail
      refine HB.out.mono ?_
      rintro e w2 ⟨rfl, hu2⟩
      have hU2 := HU1.out.trans0 hu2
      have hr2 := HR1.out.keep hu2 (by simp)
      have hQ2 := own_keep0 HQ1.out hu2
      have c2 := hr2.cell (i := k) (by rw [List.length_set, ← HM.out]; exact hkj)
      have f2 := hr2.frozen k
      have hr3 := hr2.set k (-1)
      rw [set_set_k] at hr3
      have hU3 : Upd [] w (w2.setCell ⟨g, k, none⟩ (.int .i64 (-1))) := hU2.setCell _ _ (fun h => by have := HG.out; simp at h; omega)
      have hQ3 : (w2.setCell ⟨g, k, none⟩ (.int .i64 (-1))).ownsRow w.heap.size 45 4 (.slice qa j qc) j ((rowR j).flatMap Wt.enc) := own_keep hQ2 ((Upd.refl [g] w2).setCell _ _ (fun _ => by simp)) HQG.out
      have HORD : Hid (Calls Try.prog 17 #[.slice qa j qc, .slice (some ⟨g, 0, none⟩) j pc] (w2.setCell ⟨g, k, none⟩ (.int .i64 (-1))) fun e w' => ∃ (g' c' : Nat), e = .returned (.slice (some ⟨g', 0, none⟩) j c') ∧ w'.cell? ⟨g', j - 1, none⟩ = some (.int .i64 (k : Nat)) ∧ Upd [] w w') := Lib.hid (by
        have hl : (xs.set k (-1)).length = j := by rw [List.length_set]; exact HM.out.symm
        have h := order_many qa (some ⟨g, 0, none⟩) qc pc (rowR j) (xs.set k (-1)) _ (by rw [RdW, rowR_len]; exact Rd.of_own hQ3) (hr3.rd HCM.out) (by omega) (by rw [rowR_len]; omega) (by rw [rowR_len]; omega)
        rw [rowR_len, hl] at h
        refine h.mono ?_
        rintro e w' ⟨g', c', M, rfl, hp, hR, ho, hu⟩
        have hlast := lower_last xs k j HM.out hkj (fun i hi => (HXB.out i (by rw [← HM.out]; exact hi)).1) M hp hR
        have hMl : M.length = j := by rw [hp.length_eq]; simp
        obtain ⟨b, off, he, hcell⟩ := (Rd.of_own ho).at (by omega)
        injection he with he
        injection he with h1 h2 _
        subst h1
        subst h2
        have hc := hcell (j - 1) (.int .i64 (k : Nat)) (by
          have e1 : M[j - 1]? = some k := by
            have h1 := hlast
            simp only [List.getD, List.getElem?_eq_getElem (show j - 1 < M.length by omega), Option.getD_some] at h1
            rw [List.getElem?_eq_getElem (show j - 1 < M.length by omega), h1]
          rw [List.getElem?_map, e1]
          rfl)
        rw [Nat.zero_add] at hc
        exact ⟨g', c', rfl, hc, hU3.trans0 hu⟩)
      clear hu2 hU2 hr2 hQ2 hr3 hU3 hQ3 HB HR1 HU1 HQ1 HQG HG HCM c0 f0
      go_wp2_with fail
      refine HORD.out.mono ?_
      rintro e w4 ⟨g4, c4, rfl, cl, hu4⟩
      have HU4 := Lib.hid hu4
      clear hu4 HORD
      obtain ⟨j1, hj1⟩ : ∃ j1, j1 = j - 1 := ⟨_, rfl⟩
      rw [← hj1] at cl
      have wj : IntKind.i64.wrap ((j : Int) - 1) = (j1 : Int) := by rw [IntWalk.i64_in _ (by omega)]; omega
      have q0 : (0 : Int) ≤ (j1 : Int) := by omega
      have q1 : (j1 : Int) < (j : Int) := by omega
      clear hj1
      go_wp2
      go_ret
      exact ⟨rfl, HU4.out⟩
end Go.Proofs.Ytmjcolkpfblelaa
