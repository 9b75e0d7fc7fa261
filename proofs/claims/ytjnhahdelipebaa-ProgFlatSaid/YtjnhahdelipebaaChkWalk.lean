/- watchbillref8.CheckProg: the walk. -/
import Derived.Test.YtjnhahdelipebaaChkAlike
import Derived.Test.YtjnhahdelipebaaOpRefS
import Derived.IntWalk
namespace Go.Proofs.Ytjnhahdelipebaa.XA
set_option linter.unusedVariables false
set_option linter.unusedSimpArgs false
open Go.RowKit Go.Proofs.YtjnhahdelipebaaW.PrintWords Go.Proofs.YtjnhahdelipebaaW.PrintLast Go.Proofs.YtjnhahdelipebaaW.PrintMore
open Go.Proofs.YtjnhahdelipebaaH (Upd Rd)
/-- An op of the reference, in plain words. -/
def opTR (o : S62) : OpT := (o.f0, o.f1, o.f2, o.f3, o.f4.map tripR)
theorem ret_two {a b c d : Int} (h : (a, b) = (c, d)) : Ending.returned (.tuple #[.int .i64 a, .int .i64 b]) = .returned (.tuple #[.int .i64 c, .int .i64 d]) := by cases h; rfl
set_option maxHeartbeats 16000000 in
set_option maxRecDepth 100000 in
theorem refProg_any (A0 : Option Addr) (c0 N : Nat) (l0 : List (S62)) (hN : l0.length = N) (r1 r2 : Int) (w : World) (hr0 : Kd.C k62 w A0 N l0) (hc0 : N ≤ c0) (hm : N ≤ 48) (hR : (badOp 0 (l0.map opTR)).getD (runP 0 (l0.map opTR) [] [] 0) = (r1, r2)) :
    Calls Try.prog 13 #[.slice A0 N c0] w fun e w' => e = .returned (.tuple #[.int .i64 r1, .int .i64 r2]) ∧ Below w.heap.size w w' := by
  have h48 : decide (48 < (N : Int)) = false := decide_eq_false (by omega)
  have HR := Lib.hid hR
  have HN := Lib.hid hN
  have HC := Lib.hid hr0
  clear hR hN hr0
  go_enter Try.func13, Try.ntmps13
  go_wp2
  go_loopw [4] (fun i wr => ∃ k : Nat, k ≤ N ∧ i = .int .i64 k ∧ Below w.heap.size w wr ∧ Hid ((badOp k ((l0.drop k).map opTR)).getD (runP 0 (l0.map opTR) [] [] 0) = (r1, r2))) (fun i _ => N - (intOf i).toNat)
  case atStart => exact ⟨0, Nat.zero_le _, rfl, Below.refl _ _, Lib.hid HR.out⟩
  case round =>
    obtain ⟨k, hk, rfl, hb, HE⟩ := hrel
    by_cases hlt : k < N
    · have hkl : k < l0.length := by rw [HN.out]; exact hlt
      obtain ⟨ad, A4, c4, rfl, x0, x1, x2, x3, x4, hc4, hC4⟩ := at_T62 (Kd.C_below HC.out hb) k (by omega) (by omega)
      obtain ⟨o, ho⟩ : ∃ o, o = rd_T62 l0 k := ⟨_, rfl⟩
      rw [← ho] at x0 x1 x2 x3 x4 hc4 hC4
      simp only [Int.toNat_natCast] at x0 x1 x2 x3 x4
      have hdr : l0.drop k = o :: l0.drop (k + 1) := by
        rw [List.drop_eq_getElem_cons hkl, ho]
        simp [rd_T62, List.getD, hkl]
      have hE := HE.out
      rw [hdr, List.map_cons, badOp] at hE
      obtain ⟨q, hq⟩ : ∃ q, q = chkOpT (opTR o) := ⟨_, rfl⟩
      rw [← hq] at hE
      have hop : chkOp o.f0 o.f1 o.f2 o.f3 (o.f4.map tripR) = q := hq.symm
      have HE2 := Lib.hid hE
      have HOP := Lib.hid hop
      have HC4 := Lib.hid hC4
      clear hE hdr ho HE hq hop hC4
      go_wp2_with fail
      refine (refOp_any o.f0 o.f1 o.f2 o.f3 A4 c4 o.f4 _ HC4.out).mono ?_
      rw [HOP.out]
      rintro e w1 ⟨rfl, hb1⟩
      have hbb := below_step hb hb1
      clear x0 x1 x2 x3 x4 hb1 HC4 HOP
      by_cases hq0 : q = 0
      · have hE := HE2.out
        rw [if_pos hq0] at hE
        have HE3 := Lib.hid hE
        clear hE HE2
        subst hq0
        go_wp2
        go_roundw
        case rel => exact ⟨k + 1, by omega, by go_num, hbb, HE3⟩
        case measure => simp [intOf]; omega
      · have hE := HE2.out
        rw [if_neg hq0] at hE
        have HE3 := Lib.hid hE
        have tq : (q != 0) = true := bne_iff_ne.2 hq0
        clear hE HE2 hq0
        go_wp2
        go_ret2
        exact ⟨ret_two HE3.out, hbb⟩
    · obtain rfl : N = k := by omega
      have hE := HE.out
      rw [List.drop_of_length_le (by rw [HN.out]; exact Nat.le_refl _), List.map_nil, badOp] at hE
      have HE2 := Lib.hid (show runP 0 (l0.map opTR) [] [] 0 = (r1, r2) from hE)
      clear hE HE
      go_wp2
      go_loopw [6, 7, 8, 9] (fun vl vo st i wr => ∃ (k : Nat) (h : List Int) (op : List OpenT) (s : Int), k ≤ N ∧ i = .int .i64 k ∧ st = .int .i64 s ∧ h.length ≤ k ∧ op.length ≤ k ∧ ProgAt w wr vl vo h op ∧ Hid (runP k ((l0.drop k).map opTR) h op s = (r1, r2))) (fun _ _ _ i _ => N - (intOf i).toNat)
      case atStart => exact ⟨0, [], [], 0, Nat.zero_le _, rfl, rfl, Nat.zero_le _, Nat.zero_le _, ⟨own_nil _ _ _ _, ⟨[], rfl, own_nil _ _ _ _, fun f hf => by cases hf⟩, hb⟩, HE2⟩
      case round =>
        obtain ⟨k, h, op, s, hk2, rfl, rfl, hhk, hok, hP, HE⟩ := hrel
        obtain ⟨va, vc, rfl, hvc⟩ := Go.Proofs.YtjnhahdelipebaaH.own_slice hP.held
        obtain ⟨oa, oc, rfl, hoc⟩ : ∃ oa oc, _ = Value.slice oa op.length oc ∧ op.length ≤ oc := by
          obtain ⟨fs, _, ho, _⟩ := hP.ex
          exact Go.Proofs.YtjnhahdelipebaaH.own_slice ho
        by_cases hlt : k < N
        · have hkl : k < l0.length := by rw [HN.out]; exact hlt
          obtain ⟨ad, A4, c4, rfl, x0, x1, x2, x3, x4, hc4, hC4⟩ := at_T62 (Kd.C_below HC.out hP.below) k (by omega) (by omega)
          obtain ⟨o, ho⟩ : ∃ o, o = rd_T62 l0 k := ⟨_, rfl⟩
          rw [← ho] at x0 x1 x2 x3 x4 hc4 hC4
          simp only [Int.toNat_natCast] at x0 x1 x2 x3 x4
          have hdr : l0.drop k = o :: l0.drop (k + 1) := by
            rw [List.drop_eq_getElem_cons hkl, ho]
            simp [rd_T62, List.getD, hkl]
          have hE := HE.out
          rw [hdr, List.map_cons, runP] at hE
          obtain ⟨on, hon⟩ : ∃ n, n = o.f1 := ⟨_, rfl⟩
          obtain ⟨ow, how⟩ : ∃ n, n = o.f3 := ⟨_, rfl⟩
          obtain ⟨okd, hokd⟩ : ∃ n, n = o.f0 := ⟨_, rfl⟩
          obtain ⟨ov, hov⟩ : ∃ n, n = o.f2 := ⟨_, rfl⟩
          have hE1 : (match pStep okd on ow h op s with | none => ((k : Int), (11 : Int)) | some (h', op', st') => runP (k + 1) ((l0.drop (k + 1)).map opTR) h' op' st') = (r1, r2) := by rw [hokd, hon, how]; exact hE
          rw [← hon] at x1
          rw [← how] at x3
          rw [← hokd] at x0
          rw [← hov] at x2
          have hadl := World.block_lt_of_cell? wr _ x1
          have HP := Lib.hid (hP.step ((Upd.refl [] wr).alloc (.cells #[.int .i64 okd, .int .i64 on, .int .i64 ov, .int .i64 ow, .slice A4 o.f4.length c4] 62)))
          have HC4 := Lib.hid (Kd.C_alloc hC4 (.cells #[.int .i64 okd, .int .i64 on, .int .i64 ov, .int .i64 ow, .slice A4 o.f4.length c4] 62))
          have HE1 := Lib.hid hE1
          clear hE1 hE HE hdr ho hon how hokd hov hC4 hP
          by_cases k8 : okd = 8
          · subst k8
            by_cases h3 : 3 ≤ op.length
            · have hE : ((k : Int), (11 : Int)) = (r1, r2) := by
                have h := HE1.out
                rw [pStep, if_pos rfl, if_pos h3] at h
                exact h
              have HE2 := Lib.hid hE
              clear hE HE1
              go_wp2
              go_ret2
              exact ⟨ret_two HE2.out, HP.out.below⟩
            · have hE : runP (k + 1) ((l0.drop (k + 1)).map opTR) h (op ++ [(h, on, s)]) 0 = (r1, r2) := by
                have h := HE1.out
                rw [pStep, if_pos rfl, if_neg h3] at h
                exact h
              have HE2 := Lib.hid hE
              obtain ⟨fs, hfs, hfo, hff⟩ := HP.out.ex
              have hbase := HP.out.below.size
              have hm1 : op.length + 1 ≤ maxLen := by unfold maxLen; omega
              have hm3 : (op.length + 1) * 40 ≤ 140737488355328 := by omega
              have HFS := Lib.hid hfs
              have HFF := Lib.hid hff
              have HFO := Lib.hid hfo
              have hone : ∀ u ∈ [Value.slice va h.length vc, .int .i64 on, .int .i64 s], u.oneCell' = true := by
                intro u hu
                simp at hu
                rcases hu with rfl | rfl | rfl <;> rfl
              have HONE := Lib.hid hone
              clear hE HE1 hfs hff hfo hone
              go_wp2_with (first
                | (at_builtin; refine Go.Proofs.YtjnhahdelipebaaH.wp_push_at tOpenP rfl (.tmp 51) (.tmp 56) rfl HFO.out [.slice va h.length vc, .int .i64 on, .int .i64 s] rfl rfl (World.size_alloc _ _).symm rfl HONE.out hm1 hm3 hbase ?_; intro g3 c3 w3 hown3 hu3))
              have HW3 := Lib.hid hown3
              have HU3 := Lib.hid hu3
              clear hown3 hu3
              go_wp2
              go_roundw
              case rel =>
                have hl : (op ++ [(h, on, s)]).length = op.length + 1 := by simp
                refine ⟨k + 1, h, op ++ [(h, on, s)], 0, by omega, by go_num, rfl, by omega, by omega, ?_, HE2⟩
                exact HP.out.push fs HFS.out HFO.out HFF.out HU3.out HW3.out
              case measure => simp [intOf]; omega
          · by_cases k9 : okd = 9
            · subst k9
              by_cases h0 : op.length = 0
              · have hE : ((k : Int), (11 : Int)) = (r1, r2) := by
                  have h := HE1.out
                  rw [pStep, if_neg (by decide), if_pos rfl, if_pos h0] at h
                  exact h
                have HE2 := Lib.hid hE
                clear hE HE1
                go_wp2
                go_ret2
                exact ⟨ret_two HE2.out, HP.out.below⟩
              · obtain ⟨g, gc, vh, he, hgc, y0, y1, y2, hvh⟩ := HP.out.last (by omega)
                cases he
                obtain ⟨xa, xc, rfl, -, hxc, hxC⟩ := own_C hvh
                obtain ⟨q, hq⟩ : ∃ q, q = op.length - 1 := ⟨_, rfl⟩
                rw [← hq] at y0 y1 y2
                obtain ⟨m, hm2⟩ : ∃ m, m = op.length := ⟨_, rfl⟩
                obtain ⟨-, -, -, -, hhc, hhC⟩ : ∃ A c, Value.slice va h.length vc = .slice A h.length c ∧ h.length = h.length ∧ h.length ≤ vc ∧ Kd.C (Kd.int .i64) _ va h.length h := by
                  obtain ⟨A, c, e, e2, e3, e4⟩ := own_C HP.out.held
                  cases e
                  exact ⟨_, _, rfl, rfl, e3, e4⟩
                have hlh : h.length ≤ 1000000000 := by omega
                have hq0 : (0 : Int) ≤ (q : Int) := by omega
                have hq1 : (q : Int) < (m : Int) := by omega
                have hqm : IntKind.i64.wrap ((m : Int) - 1) = (q : Int) := by rw [IntWalk.i64_in _ (by omega)]; omega
                have hm0 : 0 < m := by omega
                have HM := Lib.hid hm2
                have HQ := Lib.hid hq
                have HXC := Lib.hid hxC
                have HHC := Lib.hid hhC
                have HOK := Lib.hid hok
                rw [← hm2]
                rw [← hm2] at hgc
                by_cases heq : (lastO op).1 = h
                · have hE : runP (k + 1) ((l0.drop (k + 1)).map opTR) h (op.take q) (wrap64 ((lastO op).2.2 + wrap64 ((lastO op).2.1 * s))) = (r1, r2) := by
                    have h := HE1.out
                    rw [pStep, if_neg (by decide), if_pos rfl, if_neg h0, if_pos heq, ← hq] at h
                    exact h
                  have HE2 := Lib.hid hE
                  have HKK := Lib.hid (show true = decide ((lastO op).1 = h) from (decide_eq_true heq).symm)
                  have hup := fun W => run_uptoN tOpenP g m oc q (by omega) W
                  have HP2 := Lib.hid (HP.out.pop (u := q) (by omega))
                  clear hm2 hq h0 hxC hhC hvh hok hE HE1 heq
                  go_wp2_with fail
                  refine (alike_any xa xc (lastO op).1 va vc h _ HXC.out HHC.out hlh _ HKK.out).mono ?_
                  rintro e w1 ⟨rfl, nq, rfl⟩
                  go_wp2
                  go_roundw
                  case rel =>
                    have hl : (op.take q).length = q := by rw [List.length_take]; have := HM.out; omega
                    refine ⟨k + 1, h, op.take q, _, by omega, by go_num, rfl, by omega, by have := HM.out; have := HOK.out; omega, ?_, HE2⟩
                    exact HP2.out.step (((Upd.refl [] _).drewN _).alloc _)
                  case measure => simp [intOf]; omega
                · have hE : ((k : Int), (11 : Int)) = (r1, r2) := by
                    have h := HE1.out
                    rw [pStep, if_neg (by decide), if_pos rfl, if_neg h0, if_neg heq] at h
                    exact h
                  have HE2 := Lib.hid hE
                  have HKK := Lib.hid (show false = decide ((lastO op).1 = h) from (decide_eq_false heq).symm)
                  clear hm2 hq h0 hxC hhC hvh hok hE HE1 heq
                  go_wp2_with fail
                  refine (alike_any xa xc (lastO op).1 va vc h _ HXC.out HHC.out hlh _ HKK.out).mono ?_
                  rintro e w1 ⟨rfl, nq, rfl⟩
                  have hbb := pw_below_drewN HP.out.below nq
                  go_wp2
                  go_ret2
                  exact ⟨ret_two HE2.out, hbb⟩
            · by_cases k2 : okd = 2
              · subst k2
                by_cases hbd : 0 < h.length ∧ on ≤ lastH h
                · have hE : ((k : Int), (11 : Int)) = (r1, r2) := by
                    have h := HE1.out
                    rw [pStep, if_neg (by decide), if_neg (by decide), if_pos rfl, if_pos hbd] at h
                    exact h
                  have HE2 := Lib.hid hE
                  obtain ⟨hh0, hle⟩ := hbd
                  obtain ⟨g, gc, he, hgc, -, -⟩ := own_form HP.out.held hh0
                  cases he
                  have y := own_last HP.out.held hh0
                  obtain ⟨la, hla⟩ : ∃ la, la = lastH h := ⟨_, rfl⟩
                  rw [← hla] at y hle
                  obtain ⟨m, hm2⟩ : ∃ m, m = h.length := ⟨_, rfl⟩
                  rw [← hm2] at y hh0 hgc hhk ⊢
                  obtain ⟨q, hq⟩ : ∃ q, q = m - 1 := ⟨_, rfl⟩
                  rw [← hq] at y
                  have hq0 : (0 : Int) ≤ (q : Int) := by omega
                  have hq1 : (q : Int) < (m : Int) := by omega
                  have hqm : IntKind.i64.wrap ((m : Int) - 1) = (q : Int) := by rw [IntWalk.i64_in _ (by omega)]; omega
                  clear hE HE1 hla hm2 hq
                  go_wp2
                  go_ret2
                  exact ⟨ret_two HE2.out, HP.out.below⟩
                · have hE : runP (k + 1) ((l0.drop (k + 1)).map opTR) (h ++ [on]) op (wrap64 (s + 1)) = (r1, r2) := by
                    have h := HE1.out
                    rw [pStep, if_neg (by decide), if_neg (by decide), if_pos rfl, if_neg hbd] at h
                    exact h
                  have HE2 := Lib.hid hE
                  clear hE HE1
                  by_cases hh0 : 0 < h.length
                  · have hle : ¬ on ≤ lastH h := fun c => hbd ⟨hh0, c⟩
                    have HRD := Lib.hid (Go.Proofs.YtjnhahdelipebaaH.Rd.of_own HP.out.held)
                    have HLEN := Lib.hid (show (h.map (Value.int .i64)).length = h.length * 1 by simp)
                    have HONE := Lib.hid (Go.Proofs.YtjnhahdelipebaaH.one_ints h)
                    have HONE2 := Lib.hid (show ∀ u ∈ [Value.int .i64 on], u.oneCell' = true by intro u hu; simp at hu; subst hu; rfl)
                    have HMADE : Hid (World.ownsRow ((wr.alloc (.cells #[.int .i64 2, .int .i64 on, .int .i64 ov, .int .i64 ow, .slice A4 o.f4.length c4] 62)).alloc (.cells #[] 3)) (wr.heap.size + 1) 3 1 (.slice (some ⟨wr.heap.size + 1, 0, none⟩) 0 0) 0 []) := Lib.hid (by
                      have := World.ownsRow_made (base := wr.heap.size + 1) (e := 3) (size := 1) (wr.alloc (.cells #[.int .i64 2, .int .i64 on, .int .i64 ov, .int .i64 ow, .slice A4 o.f4.length c4] 62)) #[] 0 (by simp) (by unfold maxLen; omega) rfl
                      rwa [World.size_alloc] at this)
                    have hm1 : h.length ≤ maxLen := by unfold maxLen; omega
                    have hm2 : h.length * 8 ≤ 140737488355328 := by omega
                    have hm3 : h.length + 1 ≤ maxLen := by unfold maxLen; omega
                    have hm4 : (h.length + 1) * 8 ≤ 140737488355328 := by omega
                    obtain ⟨g, gc, he, hgc, -, -⟩ := own_form HP.out.held hh0
                    cases he
                    have y := own_last HP.out.held hh0
                    obtain ⟨la, hla⟩ : ∃ la, la = lastH h := ⟨_, rfl⟩
                    rw [← hla] at y hle
                    obtain ⟨q, hq⟩ : ∃ q, q = h.length - 1 := ⟨_, rfl⟩
                    rw [← hq] at y
                    have hq0 : (0 : Int) ≤ (q : Int) := by omega
                    have hq1 : (q : Int) < (h.length : Int) := by omega
                    have hqm : IntKind.i64.wrap ((h.length : Int) - 1) = (q : Int) := by rw [IntWalk.i64_in _ (by omega)]; omega
                    clear hbd hla hq
                    go_wp2_with (first
                      | (at_builtin; refine Go.Proofs.YtjnhahdelipebaaH.wp_copy tIntP rfl (.tmp 110) (.tmp 111) rfl HMADE.out rfl rfl (Go.Proofs.YtjnhahdelipebaaH.Rd.keep0 HRD.out ((Upd.refl _ _).alloc _)) HLEN.out HONE.out hm1 hm2 (by simp) ?_; intro a1 cp1 w1 hown1 hupd1; have HO1 := Lib.hid hown1; have HU1 := Lib.hid hupd1; clear hown1 hupd1)
                      | (at_builtin; refine Go.Proofs.YtjnhahdelipebaaH.wp_push tIntP rfl (.tmp 112) (.tmp 114) rfl HO1.out [.int .i64 on] rfl rfl rfl HONE2.out hm3 hm4 (by have := HU1.out.size; simp at this; omega) ?_; intro g3 c3 w3 hown3 hu3; have HO3 := Lib.hid hown3; have HU3 := Lib.hid hu3; clear hown3 hu3))
                    go_wp2
                    go_roundw
                    case rel =>
                      have hl : (h ++ [on]).length = h.length + 1 := by simp
                      refine ⟨k + 1, h ++ [on], op, _, by omega, by go_num, rfl, by omega, by omega, ?_, HE2⟩
                      have hu1 : Upd [] (wr.alloc (.cells #[.int .i64 2, .int .i64 on, .int .i64 ov, .int .i64 ow, .slice A4 o.f4.length c4] 62)) w1 := ((Upd.refl [] _).alloc _).trans HU1.out (fun x hx hlt => by simp [Value.ownBlock] at hx hlt; omega)
                      have hu3 := (hu1.alloc (.cells #[.int .i64 on] 3)).trans (Upd.refl [] _) (fun x hx => by cases hx)
                      have hw3 : Upd [] (wr.alloc (.cells #[.int .i64 2, .int .i64 on, .int .i64 ov, .int .i64 ow, .slice A4 o.f4.length c4] 62)) w3 := hu1.trans HU3.out (fun x hx hlt => by
                        have hb := own_base HO1.out x (by simpa using hx)
                        simp at hlt
                        omega)
                      refine HP.out.take hw3 ?_
                      rw [hl, List.map_append]
                      exact Go.Proofs.YtjnhahdelipebaaH.own_lower HO3.out (by have := HP.out.below.size; simp at this; omega)
                    case measure => simp [intOf]; omega
                  · have HRD := Lib.hid (Go.Proofs.YtjnhahdelipebaaH.Rd.of_own HP.out.held)
                    have HLEN := Lib.hid (show (h.map (Value.int .i64)).length = h.length * 1 by simp)
                    have HONE := Lib.hid (Go.Proofs.YtjnhahdelipebaaH.one_ints h)
                    have HONE2 := Lib.hid (show ∀ u ∈ [Value.int .i64 on], u.oneCell' = true by intro u hu; simp at hu; subst hu; rfl)
                    have HMADE : Hid (World.ownsRow ((wr.alloc (.cells #[.int .i64 2, .int .i64 on, .int .i64 ov, .int .i64 ow, .slice A4 o.f4.length c4] 62)).alloc (.cells #[] 3)) (wr.heap.size + 1) 3 1 (.slice (some ⟨wr.heap.size + 1, 0, none⟩) 0 0) 0 []) := Lib.hid (by
                      have := World.ownsRow_made (base := wr.heap.size + 1) (e := 3) (size := 1) (wr.alloc (.cells #[.int .i64 2, .int .i64 on, .int .i64 ov, .int .i64 ow, .slice A4 o.f4.length c4] 62)) #[] 0 (by simp) (by unfold maxLen; omega) rfl
                      rwa [World.size_alloc] at this)
                    have hm1 : h.length ≤ maxLen := by unfold maxLen; omega
                    have hm2 : h.length * 8 ≤ 140737488355328 := by omega
                    have hm3 : h.length + 1 ≤ maxLen := by unfold maxLen; omega
                    have hm4 : (h.length + 1) * 8 ≤ 140737488355328 := by omega
                    clear hbd
                    go_wp2_with (first
                      | (at_builtin; refine Go.Proofs.YtjnhahdelipebaaH.wp_copy tIntP rfl (.tmp 110) (.tmp 111) rfl HMADE.out rfl rfl (Go.Proofs.YtjnhahdelipebaaH.Rd.keep0 HRD.out ((Upd.refl _ _).alloc _)) HLEN.out HONE.out hm1 hm2 (by simp) ?_; intro a1 cp1 w1 hown1 hupd1; have HO1 := Lib.hid hown1; have HU1 := Lib.hid hupd1; clear hown1 hupd1)
                      | (at_builtin; refine Go.Proofs.YtjnhahdelipebaaH.wp_push tIntP rfl (.tmp 112) (.tmp 114) rfl HO1.out [.int .i64 on] rfl rfl rfl HONE2.out hm3 hm4 (by have := HU1.out.size; simp at this; omega) ?_; intro g3 c3 w3 hown3 hu3; have HO3 := Lib.hid hown3; have HU3 := Lib.hid hu3; clear hown3 hu3))
                    go_wp2
                    go_roundw
                    case rel =>
                      have hl : (h ++ [on]).length = h.length + 1 := by simp
                      refine ⟨k + 1, h ++ [on], op, _, by omega, by go_num, rfl, by omega, by omega, ?_, HE2⟩
                      have hu1 : Upd [] (wr.alloc (.cells #[.int .i64 2, .int .i64 on, .int .i64 ov, .int .i64 ow, .slice A4 o.f4.length c4] 62)) w1 := ((Upd.refl [] _).alloc _).trans HU1.out (fun x hx hlt => by simp [Value.ownBlock] at hx hlt; omega)
                      have hu3 := (hu1.alloc (.cells #[.int .i64 on] 3)).trans (Upd.refl [] _) (fun x hx => by cases hx)
                      have hw3 : Upd [] (wr.alloc (.cells #[.int .i64 2, .int .i64 on, .int .i64 ov, .int .i64 ow, .slice A4 o.f4.length c4] 62)) w3 := hu1.trans HU3.out (fun x hx hlt => by
                        have hb := own_base HO1.out x (by simpa using hx)
                        simp at hlt
                        omega)
                      refine HP.out.take hw3 ?_
                      rw [hl, List.map_append]
                      exact Go.Proofs.YtjnhahdelipebaaH.own_lower HO3.out (by have := HP.out.below.size; simp at this; omega)
                    case measure => simp [intOf]; omega
              · by_cases k3 : okd = 3
                · subst k3
                  by_cases h0 : h.length = 0
                  · have hE : ((k : Int), (11 : Int)) = (r1, r2) := by
                      have h := HE1.out
                      rw [pStep, if_neg (by decide), if_neg (by decide), if_neg (by decide), if_pos rfl, if_pos h0] at h
                      exact h
                    have HE2 := Lib.hid hE
                    clear hE HE1
                    go_wp2
                    go_ret2
                    exact ⟨ret_two HE2.out, HP.out.below⟩
                  · have hh0 : 0 < h.length := by omega
                    obtain ⟨g, gc, he, hgc, -, -⟩ := own_form HP.out.held hh0
                    cases he
                    have y := own_last HP.out.held hh0
                    obtain ⟨la, hla⟩ : ∃ la, la = lastH h := ⟨_, rfl⟩
                    rw [← hla] at y
                    obtain ⟨q, hq⟩ : ∃ q, q = h.length - 1 := ⟨_, rfl⟩
                    rw [← hq] at y
                    have hq0 : (0 : Int) ≤ (q : Int) := by omega
                    have hq1 : (q : Int) < (h.length : Int) := by omega
                    have hqm : IntKind.i64.wrap ((h.length : Int) - 1) = (q : Int) := by rw [IntWalk.i64_in _ (by omega)]; omega
                    by_cases hle : la = on
                    · have hE : runP (k + 1) ((l0.drop (k + 1)).map opTR) (h.take q) op (wrap64 (s + 1)) = (r1, r2) := by
                        have h := HE1.out
                        rw [pStep, if_neg (by decide), if_neg (by decide), if_neg (by decide), if_pos rfl, if_neg h0, if_pos (hla.symm.trans hle), ← hq] at h
                        exact h
                      have HE2 := Lib.hid hE
                      have tle : (la != on) = false := by simp [hle]
                      have hown := own_takeN HP.out.held (u := q) (by omega)
                      rw [Nat.mul_one, ← List.map_take] at hown
                      have HRD := Lib.hid (Go.Proofs.YtjnhahdelipebaaH.Rd.of_own hown)
                      have HLEN := Lib.hid (show ((h.take q).map (Value.int .i64)).length = q * 1 by rw [List.length_map, List.length_take]; omega)
                      have HONE := Lib.hid (Go.Proofs.YtjnhahdelipebaaH.one_ints (h.take q))
                      have hup := fun W => run_uptoN tIntP g h.length vc q (by omega) W
                      have HMADE : Hid (World.ownsRow ((wr.alloc (.cells #[.int .i64 3, .int .i64 on, .int .i64 ov, .int .i64 ow, .slice A4 o.f4.length c4] 62)).alloc (.cells #[] 3)) (wr.heap.size + 1) 3 1 (.slice (some ⟨wr.heap.size + 1, 0, none⟩) 0 0) 0 []) := Lib.hid (by
                        have := World.ownsRow_made (base := wr.heap.size + 1) (e := 3) (size := 1) (wr.alloc (.cells #[.int .i64 3, .int .i64 on, .int .i64 ov, .int .i64 ow, .slice A4 o.f4.length c4] 62)) #[] 0 (by simp) (by unfold maxLen; omega) rfl
                        rwa [World.size_alloc] at this)
                      have hm1 : q ≤ maxLen := by unfold maxLen; omega
                      have hm2 : q * 8 ≤ 140737488355328 := by omega
                      have HQ := Lib.hid hq
                      clear hE HE1 hla hq hown hle
                      go_wp2_with (first
                        | (at_builtin; refine Go.Proofs.YtjnhahdelipebaaH.wp_copy tIntP rfl (.tmp 132) (.tmp 137) rfl HMADE.out rfl rfl (Go.Proofs.YtjnhahdelipebaaH.Rd.keep0 HRD.out ((Upd.refl _ _).alloc _)) HLEN.out HONE.out hm1 hm2 (by simp) ?_; intro a1 cp1 w1 hown1 hupd1; have HO1 := Lib.hid hown1; have HU1 := Lib.hid hupd1; clear hown1 hupd1))
                      go_wp2
                      go_roundw
                      case rel =>
                        have hl : (h.take q).length = q := by rw [List.length_take]; omega
                        refine ⟨k + 1, h.take q, op, _, by omega, by go_num, rfl, by omega, by omega, ?_, HE2⟩
                        have hw1 : Upd [] (wr.alloc (.cells #[.int .i64 3, .int .i64 on, .int .i64 ov, .int .i64 ow, .slice A4 o.f4.length c4] 62)) w1 := ((Upd.refl [] _).alloc _).trans HU1.out (fun x hx hlt => by simp [Value.ownBlock] at hx hlt; omega)
                        refine HP.out.take hw1 ?_
                        rw [hl]
                        exact Go.Proofs.YtjnhahdelipebaaH.own_lower HO1.out (by have := HP.out.below.size; simp at this; omega)
                      case measure => simp [intOf]; omega
                    · have hE : ((k : Int), (11 : Int)) = (r1, r2) := by
                        have h := HE1.out
                        rw [pStep, if_neg (by decide), if_neg (by decide), if_neg (by decide), if_pos rfl, if_neg h0, if_neg (fun c => hle (hla.trans c))] at h
                        exact h
                      have HE2 := Lib.hid hE
                      have tle : (la != on) = true := by simp [hle]
                      clear hE HE1 hla hq hle
                      go_wp2
                      go_ret2
                      exact ⟨ret_two HE2.out, HP.out.below⟩
                · by_cases kw : okd = 4 ∨ okd = 5 ∨ okd = 7
                  · by_cases hw : ow ≠ 0 ∧ 0 < h.length
                    · obtain ⟨hw1, hw2⟩ := hw
                      have hE : ((k : Int), (11 : Int)) = (r1, r2) := by
                        have h := HE1.out
                        rw [pStep, if_neg k8, if_neg k9, if_neg k2, if_neg k3, if_pos ⟨kw, hw1, hw2⟩] at h
                        exact h
                      have HE2 := Lib.hid hE
                      have hop : (ow != 0) = true := bne_iff_ne.2 hw1
                      have HOP := Lib.hid hop
                      clear hE HE1 hop hw1
                      rcases kw with rfl | rfl | rfl
                      all_goals
                        go_wp2_with fail
                        refine (opWaits_any _ on ov ow A4 _ c4 _ (by decide) _ HOP.out).mono ?_
                        rintro e w1 ⟨rfl, hb1⟩
                        have hbb := below_step HP.out.below hb1
                        clear hb1
                        go_wp2
                        go_ret2
                        exact ⟨ret_two HE2.out, hbb⟩
                    · have hE : runP (k + 1) ((l0.drop (k + 1)).map opTR) h op (wrap64 (s + 1)) = (r1, r2) := by
                        have h := HE1.out
                        rw [pStep, if_neg k8, if_neg k9, if_neg k2, if_neg k3, if_neg (fun c => hw c.2)] at h
                        exact h
                      have HE2 := Lib.hid hE
                      clear hE HE1
                      by_cases hw1 : ow = 0
                      · have hwf : (ow != 0) = false := by simp [hw1]
                        have hop := hwf
                        have HOP := Lib.hid hop
                        clear hop hw1 hwf hw
                        rcases kw with rfl | rfl | rfl
                        all_goals
                          go_wp2_with fail
                          refine (opWaits_any _ on ov ow A4 _ c4 _ (by decide) _ HOP.out).mono ?_
                          rintro e w1 ⟨rfl, hb1⟩
                          have HP2 := Lib.hid (HP.out.step (Upd.of_below hb1))
                          clear hb1
                          go_wp2
                          go_roundw
                          case rel => exact ⟨k + 1, h, op, _, by omega, by go_num, rfl, by omega, by omega, HP2.out, HE2⟩
                          case measure => simp [intOf]; omega
                      · have hwt : (ow != 0) = true := bne_iff_ne.2 hw1
                        have hl0 : ¬ 0 < h.length := fun c => hw ⟨hw1, c⟩
                        have hop := hwt
                        have HOP := Lib.hid hop
                        clear hop hw1 hwt hw
                        rcases kw with rfl | rfl | rfl
                        all_goals
                          go_wp2_with fail
                          refine (opWaits_any _ on ov ow A4 _ c4 _ (by decide) _ HOP.out).mono ?_
                          rintro e w1 ⟨rfl, hb1⟩
                          have HP2 := Lib.hid (HP.out.step (Upd.of_below hb1))
                          clear hb1
                          go_wp2
                          go_roundw
                          case rel => exact ⟨k + 1, h, op, _, by omega, by go_num, rfl, by omega, by omega, HP2.out, HE2⟩
                          case measure => simp [intOf]; omega
                  · have hE : runP (k + 1) ((l0.drop (k + 1)).map opTR) h op (wrap64 (s + 1)) = (r1, r2) := by
                      have h := HE1.out
                      rw [pStep, if_neg k8, if_neg k9, if_neg k2, if_neg k3, if_neg (fun c => kw c.1)] at h
                      exact h
                    have HE2 := Lib.hid hE
                    have k4 : ¬ okd = 4 := fun c => kw (.inl c)
                    have k5 : ¬ okd = 5 := fun c => kw (.inr (.inl c))
                    have k7 : ¬ okd = 7 := fun c => kw (.inr (.inr c))
                    clear hE HE1 kw
                    go_wp2
                    go_roundw
                    case rel => exact ⟨k + 1, h, op, _, by omega, by go_num, rfl, by omega, by omega, HP.out, HE2⟩
                    case measure => simp [intOf]; omega
        · obtain rfl : N = k := by omega
          have hE := HE.out
          rw [List.drop_of_length_le (by rw [HN.out]; exact Nat.le_refl _), List.map_nil, runP] at hE
          have hb := hP.below
          by_cases h1 : 0 < op.length
          · rw [if_pos (.inl h1)] at hE
            have HE2 := Lib.hid hE
            clear hE HE
            go_wp2
            go_ret2
            exact ⟨ret_two HE2.out, hb⟩
          · by_cases h2 : 0 < h.length
            · rw [if_pos (.inr h2)] at hE
              have HE2 := Lib.hid hE
              clear hE HE
              go_wp2
              go_ret2
              exact ⟨ret_two HE2.out, hb⟩
            · rw [if_neg (by omega)] at hE
              by_cases h3 : 512 < s
              · rw [if_pos h3] at hE
                have HE2 := Lib.hid hE
                clear hE HE
                go_wp2
                go_ret2
                exact ⟨ret_two HE2.out, hb⟩
              · rw [if_neg h3] at hE
                have HE2 := Lib.hid hE
                clear hE HE
                go_wp2
                go_ret2
                exact ⟨ret_two HE2.out, hb⟩
end Go.Proofs.Ytjnhahdelipebaa.XA
