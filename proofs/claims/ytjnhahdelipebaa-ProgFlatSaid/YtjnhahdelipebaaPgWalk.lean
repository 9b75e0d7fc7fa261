/- prog.Check: the walk. -/
import Derived.Test.YtjnhahdelipebaaPgDef
import Derived.Test.YtjnhahdelipebaaOpPA
import Derived.WalkMore
import Derived.Scope
namespace Go.Proofs.Ytjnhahdelipebaa.XA
set_option linter.unusedVariables false
set_option linter.unusedSimpArgs false
open Go.RowKit Go.Proofs.YtjnhahdelipebaaW.PrintWords Go.Proofs.YtjnhahdelipebaaW.PrintLast Go.Proofs.YtjnhahdelipebaaW.PrintMore
open Go.Proofs.YtjnhahdelipebaaH (Upd Rd)
theorem ret_two2 {a b c d : Int} (h : (a, b) = (c, d)) : Ending.returned (.tuple #[.int .i64 a, .int .i64 b]) = .returned (.tuple #[.int .i64 c, .int .i64 d]) := by cases h; rfl
set_option maxHeartbeats 16000000 in
set_option maxRecDepth 100000 in
theorem progCheck_any (hOp : ∀ (k n v wt : Int) (A : Option Addr) (c : Nat) (l : List (S84)) (W : World), Kd.C k84 W A l.length l → l.length ≤ c → Calls Try.prog 33 #[.agg #[.int .i64 k, .int .i64 n, .int .i64 v, .int .i64 wt, .slice A l.length c]] W fun e w' => e = .returned (.int .i64 (chkOp k n v wt (l.map tripP))) ∧ Below W.heap.size W w')
    (A0 : Option Addr) (c0 N : Nat) (l0 : List (S52)) (hN : l0.length = N) (st r1 r2 : Int) (w : World) (hr0 : Kd.C k52 w A0 N l0) (hc0 : N ≤ c0) (hm : N ≤ 48)
    (hS : ∀ W, Below w.heap.size w W → Calls Try.prog 19 #[.slice A0 N c0] W fun e w' => e = .returned (.int .i64 st) ∧ Below W.heap.size W w')
    (hR : (badOp 0 (l0.map opTP)).getD (match runQ 0 (l0.map opTP) [] [] with | some i => (i, 11) | none => if 512 < st then (0, 4) else (0, 0)) = (r1, r2)) :
    Calls Try.prog 12 #[.slice A0 N c0] w fun e w' => e = .returned (.tuple #[.int .i64 r1, .int .i64 r2]) ∧ Below w.heap.size w w' := by
  have h48 : decide ((N : Int) > 48) = false := decide_eq_false (by omega)
  have h48b : decide (48 < (N : Int)) = false := decide_eq_false (by omega)
  obtain ⟨E0, hE0⟩ : ∃ E0 : Option Int → Int × Int, E0 = fun x => match x with | some i => (i, 11) | none => if 512 < st then (0, 4) else (0, 0) := ⟨_, rfl⟩
  have hR2 : (badOp 0 (l0.map opTP)).getD (E0 (runQ 0 (l0.map opTP) [] [])) = (r1, r2) := by rw [hE0]; exact hR
  have hE1 : ∀ i, E0 (some i) = (i, 11) := fun i => by rw [hE0]
  have hE2 : 512 < st → E0 none = (0, 4) := fun h => by rw [hE0]; exact if_pos h
  have hE3 : ¬ 512 < st → E0 none = (0, 0) := fun h => by rw [hE0]; exact if_neg h
  have HE1 := Lib.hid hE1
  have HE2 := Lib.hid hE2
  have HE3 := Lib.hid hE3
  have HR := Lib.hid hR2
  have HN := Lib.hid hN
  have HC := Lib.hid hr0
  have HS := Lib.hid hS
  have HOP := Lib.hid hOp
  clear hR hR2 hN hr0 hS hOp hE0 hE1 hE2 hE3
  go_enter Try.func12, Try.ntmps12
  iterate 3 ((try go_step3); (try go_wp2))
  go_loopw [15] (fun i wr => ∃ k : Nat, k ≤ N ∧ i = .int .i64 k ∧ Below w.heap.size w wr ∧ Hid ((badOp k ((l0.drop k).map opTP)).getD (E0 (runQ 0 (l0.map opTP) [] [])) = (r1, r2))) (fun i _ => N - (intOf i).toNat)
  case atStart => exact ⟨0, Nat.zero_le _, rfl, Below.refl _ _, Lib.hid HR.out⟩
  case round =>
    obtain ⟨k, hk, rfl, hb, HE⟩ := hrel
    by_cases hlt : k < N
    · have hkl : k < l0.length := by rw [HN.out]; exact hlt
      obtain ⟨ad, A4, c4, rfl, x0, x1, x2, x3, x4, hc4, hC4⟩ := at_T52 (Kd.C_below HC.out hb) k (by omega) (by omega)
      obtain ⟨o, ho⟩ : ∃ o, o = rd_T52 l0 k := ⟨_, rfl⟩
      rw [← ho] at x0 x1 x2 x3 x4 hc4 hC4
      simp only [Int.toNat_natCast] at x0 x1 x2 x3 x4
      have hdr : l0.drop k = o :: l0.drop (k + 1) := by
        rw [List.drop_eq_getElem_cons hkl, ho]
        simp [rd_T52, List.getD, hkl]
      have hE := HE.out
      rw [hdr, List.map_cons, badOp] at hE
      obtain ⟨q, hq⟩ : ∃ q, q = chkOpT (opTP o) := ⟨_, rfl⟩
      rw [← hq] at hE
      have hop : chkOp o.f0 o.f1 o.f2 o.f3 (o.f4.map tripP) = q := hq.symm
      have HE4 := Lib.hid hE
      have HOQ := Lib.hid hop
      have HC4 := Lib.hid hC4
      have HCC := Lib.hid hc4
      have hadl := World.block_lt_of_cell? wr _ x1
      clear hE hdr ho HE hq hop hC4 hc4
      go_wp2_with fail
      refine (HOP.out o.f0 o.f1 o.f2 o.f3 A4 c4 o.f4 _ (Kd.C_alloc HC4.out _) HCC.out).mono ?_
      rw [HOQ.out]
      rintro e w1 ⟨rfl, hb1⟩
      have hbb := below_step (below_alloc hb _) hb1
      clear x0 x1 x2 x3 x4 hb1 hadl
      by_cases hq0 : q = 0
      · have hE := HE4.out
        rw [if_pos hq0] at hE
        have HE3' := Lib.hid hE
        clear hE HE4
        subst hq0
        go_wp2
        go_roundw
        case rel => exact ⟨k + 1, by omega, by go_num, hbb, HE3'⟩
        case measure => simp [intOf]; omega
      · have hE := HE4.out
        rw [if_neg hq0] at hE
        have HE3' := Lib.hid hE
        have tq : (q != 0) = true := bne_iff_ne.2 hq0
        clear hE HE4 hq0
        go_wp2
        (try rw [Exit.noGoto_ret])
        go_ret2
        exact ⟨ret_two2 HE3'.out, hbb⟩
    · obtain rfl : N = k := by omega
      have hE := HE.out
      rw [List.drop_of_length_le (by rw [HN.out]; exact Nat.le_refl _), List.map_nil, badOp] at hE
      have HEQ := Lib.hid (show E0 (runQ 0 (l0.map opTP) [] []) = (r1, r2) from hE)
      clear hE HE
      iterate 3 ((try go_wp2); (try (first | go_step3 | rw [Exit.noGoto_normal] | rw [Exit.noGoto_exit])))
      (try go_wp2)
      obtain ⟨b, hbn⟩ : ∃ b, b = wr.heap.size := ⟨_, rfl⟩
      have hO0 := OrdAt.start hb
      rw [← hbn] at hO0
      have HO0 := Lib.hid hO0
      clear hO0
      go_loopw [31] (fun i wx => ∃ (k : Nat) (hv fv : Value) (h : List Int) (fs : List FrmP), k ≤ N ∧ i = .int .i64 k ∧ h.length ≤ k ∧ fs.length ≤ k ∧ OrdAt w wx b hv fv h fs ∧ Hid (E0 (runQ k ((l0.drop k).map opTP) h (fs.map (·.2))) = (r1, r2))) (fun i _ => N - (intOf i).toNat)
      case atStart => exact ⟨0, _, _, [], [], Nat.zero_le _, rfl, Nat.zero_le _, Nat.zero_le _, HO0.out, HEQ⟩
      case round =>
        obtain ⟨k, hv, fv, h, fs, hk2, rfl, hhk, hok, hP, HE⟩ := hrel
        subst hbn
        by_cases hlt : k < N
        · have hkl : k < l0.length := by rw [HN.out]; exact hlt
          obtain ⟨ad, A4, c4, rfl, x0, x1, x2, x3, x4, hc4, hC4⟩ := at_T52 (Kd.C_below HC.out hP.below) k (by omega) (by omega)
          obtain ⟨o, ho⟩ : ∃ o, o = rd_T52 l0 k := ⟨_, rfl⟩
          rw [← ho] at x0 x1 x2 x3 x4 hc4 hC4
          simp only [Int.toNat_natCast] at x0 x1 x2 x3 x4
          have hdr : l0.drop k = o :: l0.drop (k + 1) := by
            rw [List.drop_eq_getElem_cons hkl, ho]
            simp [rd_T52, List.getD, hkl]
          have hE := HE.out
          rw [hdr, List.map_cons, runQ] at hE
          have HE4 := Lib.hid (show E0 (match tStep o.f0 o.f1 o.f3 h (fs.map (·.2)) with | none => some (k : Int) | some (h', fs') => runQ (k + 1) ((l0.drop (k + 1)).map opTP) h' fs') = (r1, r2) from hE)
          have hadl := World.block_lt_of_cell? wr _ x1
          have HP := Lib.hid (fun (o' : Obj) => hP.step ((Upd.refl [] wr).alloc o'))
          clear hE hdr ho HE hC4 hc4 hP
          go_wp2_with fail
          refine (take_any w _ _ hv fv h fs (HP.out _) o.f0 o.f1 o.f2 o.f3 A4 _ c4 (by omega) (by omega)).mono ?_
          rintro e w1 ⟨rr, rfl, hbb, hrr, hsm⟩
          have HBB := Lib.hid hbb
          have HRR := Lib.hid hrr
          have HSM := Lib.hid hsm
          clear hbb hrr hsm x0 x1 x2 x3 x4 hadl
          cases rr
          · have hn : tStep o.f0 o.f1 o.f3 h (fs.map (·.2)) = none := by
              have := HRR.out
              cases hh : tStep o.f0 o.f1 o.f3 h (fs.map (·.2)) with
              | none => rfl
              | some p => rw [hh] at this; cases this
            have hE := HE4.out
            rw [hn] at hE
            have HE5 := Lib.hid ((HE1.out _).symm.trans hE)
            clear hE hn
            go_wp2
            (try rw [Exit.noGoto_ret])
            go_ret2
            exact ⟨ret_two2 HE5.out, HBB.out⟩
          · obtain ⟨p, hp⟩ : ∃ p, tStep o.f0 o.f1 o.f3 h (fs.map (·.2)) = some p := by
              have := HRR.out
              cases hh : tStep o.f0 o.f1 o.f3 h (fs.map (·.2)) with
              | none => rw [hh] at this; cases this
              | some p => exact ⟨p, rfl⟩
            have hE := HE4.out
            rw [hp] at hE
            obtain ⟨hv', fv', fs', hfs, hO'⟩ := HSM.out p hp
            have hln := tStep_len hp
            have HE5 := Lib.hid hE
            have HO' := Lib.hid hO'
            have HFS := Lib.hid hfs
            have HLN := Lib.hid hln
            clear hE hp hO' hfs hln
            go_wp2
            go_roundw
            case rel =>
              have h1 := HLN.out
              have h2 : fs'.length = p.2.length := by rw [← HFS.out, List.length_map]
              rw [List.length_map] at h1
              refine ⟨k + 1, hv', fv', p.1, fs', by omega, by go_num, by omega, by omega, HO'.out, ?_⟩
              rw [HFS.out]
              exact HE5
            case measure => simp [intOf]; omega
        · obtain rfl : N = k := by omega
          have hE := HE.out
          rw [List.drop_of_length_le (by rw [HN.out]; exact Nat.le_refl _), List.map_nil, runQ, List.length_map] at hE
          obtain ⟨va, vc, rfl, hvc⟩ := Go.Proofs.YtjnhahdelipebaaH.own_slice hP.held
          obtain ⟨oa, oc, rfl, hoc⟩ := Go.Proofs.YtjnhahdelipebaaH.own_slice hP.first
          obtain ⟨x0, x1, f0, f1, hltb⟩ := hP.cells
          have HB := Lib.hid hP.below
          obtain ⟨H, hH⟩ : ∃ H, H = h.length := ⟨_, rfl⟩
          obtain ⟨F, hF⟩ : ∃ F, F = fs.length := ⟨_, rfl⟩
          rw [← hH] at x0 hE
          rw [← hF] at x1 hE
          have HE4 := Lib.hid hE
          clear hE HE hP hvc hoc hH hF hhk hok
          by_cases hF0 : 0 < F
          · have hE := HE4.out
            rw [if_pos (.inl hF0)] at hE
            have HE5 := Lib.hid ((HE1.out _).symm.trans hE)
            have t1 : decide ((F : Int) > 0) = true := by simp; omega
            have t2 : decide (0 < F) = true := decide_eq_true hF0
            have hwr : IntKind.i64.wrap ((N : Int) - 1) = (N : Int) - 1 := IntWalk.i64_in _ (by omega)
            clear hE hF0
            go_wp2
            (try rw [Exit.noGoto_ret])
            go_ret2
            exact ⟨ret_two2 HE5.out, HB.out⟩
          · have t1 : decide ((F : Int) > 0) = false := by simp; omega
            have t2 : decide (0 < F) = false := decide_eq_false hF0
            by_cases hH0 : 0 < H
            · have hE := HE4.out
              rw [if_pos (.inr hH0)] at hE
              have HE5 := Lib.hid ((HE1.out _).symm.trans hE)
              have t3 : decide ((H : Int) > 0) = true := by simp; omega
              have t4 : decide (0 < H) = true := decide_eq_true hH0
              have hwr : IntKind.i64.wrap ((N : Int) - 1) = (N : Int) - 1 := IntWalk.i64_in _ (by omega)
              clear hE hF0 hH0
              go_wp2
              (try rw [Exit.noGoto_ret])
              go_ret2
              exact ⟨ret_two2 HE5.out, HB.out⟩
            · have hE := HE4.out
              rw [if_neg (by omega)] at hE
              have t3 : decide ((H : Int) > 0) = false := by simp; omega
              have t4 : decide (0 < H) = false := decide_eq_false hH0
              have HE5 := Lib.hid hE
              clear hE hF0 hH0
              go_wp2_with fail
              refine (HS.out _ HB.out).mono ?_
              rintro e w1 ⟨rfl, hb1⟩
              have HBB := Lib.hid (below_step HB.out hb1)
              by_cases hst : 512 < st
              · have t5 : decide (st > 512) = true := decide_eq_true hst
                have HE6 := Lib.hid ((HE2.out hst).symm.trans HE5.out)
                clear hst
                go_wp2
                (try rw [Exit.noGoto_ret])
                go_ret2
                exact ⟨ret_two2 HE6.out, HBB.out⟩
              · have t5 : decide (st > 512) = false := decide_eq_false hst
                have HE6 := Lib.hid ((HE3.out (by omega)).symm.trans HE5.out)
                clear hst
                go_wp2
                (try rw [Exit.noGoto_ret])
                go_ret2
                exact ⟨ret_two2 HE6.out, HBB.out⟩
end Go.Proofs.Ytjnhahdelipebaa.XA
