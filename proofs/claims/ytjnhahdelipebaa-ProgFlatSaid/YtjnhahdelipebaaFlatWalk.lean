/- Two programs one behind the other: the walk of ProgFlat. -/
import Derived.Test.YtjnhahdelipebaaFlatBoth
import Derived.Test.YtjnhahdelipebaaRowC
import Derived.Test.YtjnhahdelipebaaOpenSet
import Derived.Test.YtjnhahdelipebaaXAx5
namespace Go.Proofs.Ytjnhahdelipebaa.OpenK
set_option linter.unusedVariables false
set_option linter.unusedSimpArgs false
open Go.RowKit Go.Proofs.Ytjnhahdelipebaa.XA Go.Proofs.Ytjnhahdelipebaa.Prog Go.Proofs.Ytjnhahdelipebaa.Nest Go.Proofs.Ytjnhahdelipebaa.RowC Go.Proofs.YtjnhahdelipebaaW.PrintWords Go.Proofs.YtjnhahdelipebaaW.PrintLast Go.Proofs.YtjnhahdelipebaaW.PrintMore
set_option maxRecDepth 100000 in
theorem open_ops {H : Type} {enc0 : TypeId × Value → H} {W : World} {base fuel len cap : Nat} {held : Bool} {a : Option Addr} {y : DataW H × List MemPlace}
    (h : DataW.trod enc0 Try.prog W base (fun _ => true) held fuel 22 [.slice a len cap] = some y) :
    ∃ xs : List S62, len = xs.length ∧ xs.length ≤ cap ∧ Kd.C k62 W a xs.length xs ∧ ∀ x ∈ xs, ROp x := by
  haveI : Inhabited S62 := ⟨z62⟩
  exact open_rowK k62 ROp Try.underlying22 (by kernel_rfl) (fun _ _ _ hz => open_op hz) h
theorem cellB {w w1 : World} (b : Below w.heap.size w w1) {p : Addr} {u : Value} (h : w.cell? p = some u) : w1.cell? p = some u := pw_cell_below b h
theorem below_seq {w w1 w2 : World} (h : Below w.heap.size w w1) (k : Below w1.heap.size w1 w2) : Below w.heap.size w w2 :=
  ⟨k.os.trans h.os, k.tape.trans h.tape, k.output.trans h.output, Nat.le_trans h.size k.size, fun i hi => (k.block i (Nat.lt_of_lt_of_le hi h.size)).trans (h.block i hi)⟩
theorem below_grown {w w1 w2 : World} {v : Value} (h : Below w.heap.size w w1) (hg : w1.grownBy w2 v.ownBlock) (hb : ∀ k, v.ownBlock = some k → w.heap.size ≤ k) : Below w.heap.size w w2 :=
  h.grown hg h.size hb
set_option maxHeartbeats 64000000 in
set_option maxRecDepth 100000 in
theorem progFlat_long (a : Option Addr) (ca : Nat) (la : List S62) (b : Option Addr) (cb : Nat) (lb : List S62) (x : Int) (w : World) (hca : la.length ≤ ca) (hA : Kd.C k62 w a la.length la) (hxa : ∀ x ∈ la, ROp x) (hcb : lb.length ≤ cb) (hB : Kd.C k62 w b lb.length lb) (hxb : ∀ x ∈ lb, ROp x) (hx : (Lit.int .u8 x).wf = true) (hs : ¬ la.length + lb.length ≤ 48) :
    Calls Try.prog 5 #[.slice a la.length ca, .slice b lb.length cb, .int .u8 x] w fun e w' => e = .returned (.bool true) ∧ Below w.heap.size w w' := by
  obtain ⟨ra, ea, fa⟩ := fewOps_ev la
  obtain ⟨rb, eb, fb⟩ := fewOps_ev lb
  obtain ⟨na, hna⟩ := ea.rounds
  obtain ⟨nb, hnb⟩ := eb.rounds
  have HA := Lib.hid hA
  have HB := Lib.hid hB
  have HFA := Lib.hid fa
  have HFB := Lib.hid fb
  clear hA hB hxa hxb ea eb fa fb
  go_enter Try.func5, Try.ntmps5
  go_wp2_with fail
  refine (watchbilllaw6_known.calls true _ rfl).mono ?_
  rintro e w1 ⟨rfl, b1⟩
  have CA := Kd.C_below HA.out b1
  have CB := Kd.C_below HB.out b1
  by_cases hb : la.length ≤ 60 ∧ lb.length ≤ 60
  · go_wp2
    go_ret
    exact ⟨rfl, b1⟩
  · have hab : ra = false ∨ (ra = true ∧ rb = false) := by
      cases ra with
      | false => exact .inl rfl
      | true =>
        cases rb with
        | false => exact .inr ⟨rfl, rfl⟩
        | true => exact absurd ⟨(HFA.out rfl).1, (HFB.out rfl).1⟩ hb
    have HHB := Lib.hid hb
    have HHS := Lib.hid hs
    clear hb hs
    obtain ⟨sm, hS⟩ : ∃ sm : Int, (la.length : Int) + (lb.length : Int) = sm := ⟨_, rfl⟩
    rcases hab with rfl | ⟨rfl, rfl⟩
    · go_wp2_with (first
        | (go_at_call 10; refine (watchbilllaw6_Few.calls na a ca la false _ CA hca hna).mono ?_; rintro e w2 ⟨rfl, b2⟩))
      · go_ret
        exact ⟨rfl, below_seq b1 b2⟩
      · go_ret
        exact ⟨rfl, b1⟩
    · go_wp2_with (first
        | (have z_ := b2; go_at_call 10; refine (watchbilllaw6_Few.calls nb b cb lb false _ (Kd.C_below CB b2) hcb hnb).mono ?_; rintro e w3 ⟨rfl, b3⟩)
        | (go_at_call 10; refine (watchbilllaw6_Few.calls na a ca la true _ CA hca hna).mono ?_; rintro e w2 ⟨rfl, b2⟩))
      · go_ret
        exact ⟨rfl, below_seq (below_seq b1 b2) b3⟩
      · go_ret
        exact ⟨rfl, b1⟩
end Go.Proofs.Ytjnhahdelipebaa.OpenK
namespace Go.Proofs.Ytjnhahdelipebaa.OpenK
set_option linter.unusedVariables false
set_option linter.unusedSimpArgs false
open Go.RowKit Go.Proofs.Ytjnhahdelipebaa.XA Go.Proofs.Ytjnhahdelipebaa.Prog Go.Proofs.Ytjnhahdelipebaa.Nest Go.Proofs.Ytjnhahdelipebaa.RowC Go.Proofs.YtjnhahdelipebaaW.PrintWords Go.Proofs.YtjnhahdelipebaaW.PrintLast Go.Proofs.YtjnhahdelipebaaW.PrintMore
set_option maxHeartbeats 64000000 in
set_option maxRecDepth 100000 in
theorem progFlat_walk (a : Option Addr) (ca : Nat) (la : List S62) (b : Option Addr) (cb : Nat) (lb : List S62) (x : Int) (w : World) (hca : la.length ≤ ca) (hA : Kd.C k62 w a la.length la) (hxa : ∀ x ∈ la, ROp x) (hcb : lb.length ≤ cb) (hB : Kd.C k62 w b lb.length lb) (hxb : ∀ x ∈ lb, ROp x) (hx : (Lit.int .u8 x).wf = true) :
    Calls Try.prog 5 #[.slice a la.length ca, .slice b lb.length cb, .int .u8 x] w fun e w' => e = .returned (.bool true) ∧ Below w.heap.size w w' := by
  by_cases hs : la.length + lb.length ≤ 48
  case neg => exact progFlat_long a ca la b cb lb x w hca hA hxa hcb hB hxb hx hs
  obtain ⟨ra, ea, fa⟩ := fewOps_ev la
  obtain ⟨rb, eb, fb⟩ := fewOps_ev lb
  obtain ⟨na, hna⟩ := ea.rounds
  obtain ⟨nb, hnb⟩ := eb.rounds
  have HA := Lib.hid hA
  have HB := Lib.hid hB
  have HFA := Lib.hid fa
  have HFB := Lib.hid fb
  clear hA hB hxa hxb ea eb fa fb
  go_enter Try.func5, Try.ntmps5
  go_wp2_with fail
  refine (watchbilllaw6_known.calls true _ rfl).mono ?_
  rintro e w1 ⟨rfl, b1⟩
  have CA := Kd.C_below HA.out b1
  have CB := Kd.C_below HB.out b1
  cases ra with
  | false =>
    go_wp2_with fail
    refine (watchbilllaw6_Few.calls na a ca la false _ CA hca hna).mono ?_
    rintro e w2 ⟨rfl, b2⟩
    go_wp2
    go_ret
    exact ⟨rfl, below_seq b1 b2⟩
  | true =>
    go_wp2_with fail
    refine (watchbilllaw6_Few.calls na a ca la true _ CA hca hna).mono ?_
    rintro e w2 ⟨rfl, b2⟩
    have B2 := below_seq b1 b2
    cases rb with
    | false =>
      go_wp2_with fail
      refine (watchbilllaw6_Few.calls nb b cb lb false _ (Kd.C_below HB.out B2) hcb hnb).mono ?_
      rintro e w3 ⟨rfl, b3⟩
      go_wp2
      go_ret
      exact ⟨rfl, below_seq B2 b3⟩
    | true =>
      obtain ⟨ha60, ha20⟩ := HFA.out (by trivial)
      obtain ⟨hb60, hb20⟩ := HFB.out (by trivial)
      have HA20 := Lib.hid ha20
      have HB20 := Lib.hid hb20
      clear ha20 hb20
      go_wp2_with fail
      refine (watchbilllaw6_Few.calls nb b cb lb true _ (Kd.C_below HB.out B2) hcb hnb).mono ?_
      rintro e w3 ⟨rfl, b3⟩
      have B3 := below_seq B2 b3
      obtain ⟨ia, fa, hpa⟩ : ∃ i f, chkProg (la.map opTR) = (i, f) := ⟨_, _, rfl⟩
      obtain ⟨ib, fb, hpb⟩ : ∃ i f, chkProg (lb.map opTR) = (i, f) := ⟨_, _, rfl⟩
      go_wp2_with fail
      refine (watchbillref8_CheckProg.calls a ca la ia fa _ (Kd.C_below HA.out B3) hca (by unfold watchbillref8_CheckProg.f; rw [hpa])).mono ?_
      rintro e w4 ⟨rfl, b4⟩
      have B4 := below_seq B3 b4
      go_wp2_with fail
      refine (watchbillref8_CheckProg.calls b cb lb ib fb _ (Kd.C_below HB.out B4) hcb (by unfold watchbillref8_CheckProg.f; rw [hpb])).mono ?_
      rintro e w5 ⟨rfl, b5⟩
      have B5 := below_seq B4 b5
      obtain ⟨csA, eA, lA, nA, cellA⟩ := cells_of_C (Kd.C_below HA.out B5)
      obtain ⟨csB, eB, lB, nB, cellB⟩ := cells_of_C (Kd.C_below HB.out B5)
      have EA := Lib.hid eA
      have EB := Lib.hid eB
      have CLA := Lib.hid cellA
      have CLB := Lib.hid cellB
      have HPA := Lib.hid hpa
      have HPB := Lib.hid hpb
      clear eA eB cellA cellB hpa hpb b1 b2 b3 b4 b5 CA CB
      have hb6 : (w5.alloc (.cells #[] 62)).heap[w5.heap.size]? = some (.cells #[] 62 (0, 0)) := heap_alloc_new _ _
      have ho0 : (w5.alloc (.cells #[] 62)).ownsRow w5.heap.size 62 5 (.slice (some ⟨w5.heap.size, 0, none⟩) 0 0) 0 [] := ⟨rfl, .inr ⟨w5.heap.size, 0, #[], rfl, Nat.le_refl _, hb6, Nat.le_refl _, Nat.zero_le _, rfl, rfl⟩⟩
      have b6 : Below w5.heap.size w5 (w5.alloc (.cells #[] 62)) := below_alloc (Below.refl _ _) _
      by_cases hfa : fa = 0
      · subst hfa
        by_cases hfb : fb = 0
        · subst hfb
          obtain ⟨oa, ta⟩ := taken_of (l := la) (by rw [HPA.out])
          obtain ⟨ob, tb⟩ := taken_of (l := lb) (by rw [HPB.out])
          have tz := ta.append tb hs
          have hlz := tz.flat.len
          have hlz2 : (oa ++ ob).length ≤ 1572864 := by
            have h48 := tz.len
            have : (la ++ lb).length * 32 ^ 3 ≤ 48 * 32 ^ 3 := Nat.mul_le_mul_right _ h48
            omega
          obtain ⟨kf, hkf⟩ := (flat_ref tz.flat (by have := tz.len; omega) (by omega)).rounds
          have TA := Lib.hid ta
          have TB := Lib.hid tb
          have TZ := Lib.hid tz
          clear ta tb tz hlz
          go_wp2_with (first
            | (at_builtin; (refine wp_appC rfl (.tmp 46) (.tmp 47) 22 62 (.agg #[.int .i64 0, .int .i64 0, .int .i64 0, .int .i64 0, .slice none 0 0]) 5 56 rfl Try.underlying22 (by kernel_rfl) rfl (by decide) (by decide) w5.heap.size _ 0 [] rfl ho0 a la.length ca rfl csA lA nA (fun ad e j u hu => cellB b6 (CLA.out ad e j u hu)) (encC_one EA.out) (by omega) b6.size ?_); intro v1 w7 hown7 hg7; have b7 := below_grown b6 hg7 (fun k hk => by have := (ho0.lt k hk).1; omega))
            | (at_builtin; refine wp_appC rfl (.tmp 48) (.tmp 49) 22 62 (.agg #[.int .i64 0, .int .i64 0, .int .i64 0, .int .i64 0, .slice none 0 0]) 5 56 rfl Try.underlying22 (by kernel_rfl) rfl (by decide) (by decide) w5.heap.size v1 (0 + la.length) ([] ++ csA) rfl hown7 b lb.length cb rfl csB lB nB (fun ad e j u hu => cellB b7 (CLB.out ad e j u hu)) (encC_one EB.out) (by omega) b7.size ?_; intro v2 w8 hown8 hg8; have b8 := below_grown b7 hg8 (fun k hk => by have := (hown7.lt k hk).1; omega)))
          obtain ⟨A2, c2, rfl, hc2, hC2⟩ := C_of_own (d := k62) (l := la ++ lb) hown8 (encC_append (encC_append (l := []) (a := []) rfl (encC_below b8 EA.out)) (encC_below b8 EB.out)) (by simp) (by omega)
          have hn2 : 0 + la.length + lb.length = (la ++ lb).length := by simp
          rw [hn2] at hC2 hc2 ⊢
          have B8 := below_seq B5 b8
          have HC2 := Lib.hid hC2
          clear hown7 hown8 hg7 hg8 b6 b7 b8 hn2 hb6 ho0 hC2
          try rw [show Value.slice A2 (la.length + lb.length) c2 = Value.slice A2 (la ++ lb).length c2 by simp]
          refine (watchbillref8_Flat.calls kf (fun k_ => k_ < w8.heap.size) A2 c2 (la ++ lb) (oa ++ ob) w8 (Kd.V_mk hc2 (Kd.C_F k62_heap HC2.out)) hkf).mono ?_
          rintro e w9 ⟨v9, rfl, hN, b9⟩
          obtain ⟨A9, c9, rfl⟩ := Kd.V_slice (Kd.N_V (base' := 0) hN)
          have B9 := below_seq B8 b9
          have b89 := b9
          clear hN b9
          by_cases h512 : 512 < oa.length + ob.length
          · go_wp2
            go_ret
            exact ⟨rfl, B9⟩
          obtain ⟨X, hX⟩ : ∃ X, X = la.map cvOp := ⟨_, rfl⟩
          obtain ⟨Y, hY⟩ : ∃ Y, Y = lb.map cvOp := ⟨_, rfl⟩
          obtain ⟨Z, hZ⟩ : ∃ Z, Z = (la ++ lb).map cvOp := ⟨_, rfl⟩
          obtain ⟨kx, hkx⟩ := (toOps_ev la ha60 HA20.out).rounds
          obtain ⟨ky, hky⟩ := (toOps_ev lb hb60 HB20.out).rounds
          obtain ⟨kz, hkz⟩ := (toOps_ev (la ++ lb) (by simp; omega) (fun o ho => by rcases List.mem_append.1 ho with ho | ho; exact HA20.out o ho; exact HB20.out o ho)).rounds
          rw [← hX] at hkx
          rw [← hY] at hky
          rw [← hZ] at hkz
          have HXE := Lib.hid hX
          have HYE := Lib.hid hY
          have HZE := Lib.hid hZ
          clear hX hY hZ
          go_wp2_with fail
          refine (watchbilllaw5_ToAll.calls kx a ca la X _ (Kd.C_below HA.out B9) hca hkx).mono ?_
          rintro e w10 ⟨vx, rfl, hSx, b10⟩
          obtain ⟨Ax, cx, rfl⟩ := Kd.S_slice hSx
          obtain ⟨-, hcx, hCx⟩ := Kd.S_reads' hSx
          have B10 := below_seq B9 b10
          have HCX := Lib.hid hCx
          clear hSx hCx
          go_wp2_with fail
          refine (watchbilllaw5_ToAll.calls ky b cb lb Y _ (Kd.C_below HB.out B10) hcb hky).mono ?_
          rintro e w11 ⟨vy, rfl, hSy, b11⟩
          obtain ⟨Ay, cy, rfl⟩ := Kd.S_slice hSy
          obtain ⟨-, hcy, hCy⟩ := Kd.S_reads' hSy
          have B11 := below_seq B10 b11
          have HCY := Lib.hid hCy
          clear hSy hCy
          go_wp2_with fail
          rw [show Value.slice A2 (la.length + lb.length) c2 = Value.slice A2 (la ++ lb).length c2 by simp]
          refine (watchbilllaw5_ToAll.calls kz A2 c2 (la ++ lb) Z _ (Kd.C_below HC2.out (below_seq (below_seq b89 b10) b11)) hc2 hkz).mono ?_
          rintro e w12 ⟨vz, rfl, hSz, b12⟩
          obtain ⟨Az, cz, rfl⟩ := Kd.S_slice hSz
          obtain ⟨-, hcz, hCz⟩ := Kd.S_reads' hSz
          have B12 := below_seq B11 b12
          have HX := Lib.hid (Kd.C_below HCX.out (below_seq b11 b12))
          have HY := Lib.hid (Kd.C_below HCY.out b12)
          have HZ := Lib.hid hCz
          clear hSz hCz b10 b11 b12 b89
          have ho512 : (oa ++ ob).length ≤ 512 := by simp; omega
          have hoa : oa.length ≤ 512 := by simp at ho512; omega
          have hob : ob.length ≤ 512 := by simp at ho512; omega
          obtain ⟨e1, e2, e3⟩ := flat_both TA.out TB.out ((x.tmod 8))
          obtain ⟨lx, hlx⟩ : ∃ lx, lx = x.tmod 8 := ⟨_, rfl⟩
          have hx0 := (Go.Proofs.YtjnhahdelipebaaH.wf_u8 hx).1
          have hlx0 : 0 ≤ lx ∧ lx < 8 := by rw [hlx, Int.tmod_eq_emod_of_nonneg hx0]; omega
          rw [← hlx] at e2
          have s1 := TA.out.steps (by omega) 0
          have s2 := TB.out.steps (by omega) 0
          have s3 := TZ.out.steps (by omega) 0
          have q1 := TA.out.cost (by omega) 0
          have q2 := TB.out.cost (by omega) 0
          have q3 := TZ.out.cost (by omega) 0
          have u1 := sum_le _ TA.out.outOk
          have u2 := sum_le _ TB.out.outOk
          rw [List.length_map] at u1 u2
          have p1 := TA.out.waits
          have p2 := TB.out.waits
          have p3 := TZ.out.waits
          obtain ⟨m1, z1⟩ := (TA.out.section (by omega) lx).rounds
          obtain ⟨m2, z2⟩ := (TB.out.section (by omega) lx).rounds
          obtain ⟨m3, z3⟩ := (TZ.out.section (by omega) lx).rounds
          have k3 := TZ.out.check ho512
          rw [← HXE.out] at s1 q1 p1 z1 e3
          rw [← HYE.out] at s2 q2 p2 z2 e3
          rw [← HZE.out] at s3 q3 p3 z3 k3 e3
          rw [e1] at q3
          rw [e2] at z3
          rw [e3] at p3
          generalize sumW runW (oa.map cvOp) = r1 at q1 q3 u1
          generalize sumW runW (ob.map cvOp) = r2 at q2 q3 u2
          generalize secL lx (oa.map cvOp) = t1 at z1 z3
          generalize secL lx (ob.map cvOp) = t2 at z2 z3
          generalize X.any waitsO = y1 at p1 p3
          generalize Y.any waitsO = y2 at p2 p3
          rw [List.length_append] at s3
          generalize oa.length = o1 at s1 s3 u1 hoa
          generalize ob.length = o2 at s2 s3 u2 hob
          have hr1 : 0 ≤ r1 ∧ r1 ≤ 512000 := by omega
          have hr2 : 0 ≤ r2 ∧ r2 ≤ 512000 := by omega
          clear e1 e2 e3 u1 u2 hlz2 hkf hkx hky hkz h512 ho512
          have ht : x.tmod 8 = lx := hlx.symm
          clear hlx
          go_wp2_with fail
          refine (prog_Check.calls Az cz Z 0 0 _ HZ.out hcz k3).mono ?_
          rintro e w13 ⟨rfl, b13⟩
          have B13 := below_seq B12 b13
          clear k3
          have X13 := Kd.C_below HX.out b13
          have Y13 := Kd.C_below HY.out b13
          have Z13 := Kd.C_below HZ.out b13
          clear b13
          go_wp2_with fail
          refine (prog_Cost.calls 0 Az cz Z (r1 + r2) _ Z13 hcz q3).mono ?_
          rintro e w14 ⟨rfl, b14⟩
          have B14 := below_seq B13 b14
          have X14 := Kd.C_below X13 b14
          have Y14 := Kd.C_below Y13 b14
          have Z14 := Kd.C_below Z13 b14
          clear b14 X13 Y13 Z13 q3
          go_wp2_with fail
          refine (prog_Cost.calls 0 Ax cx X r1 _ X14 hcx q1).mono ?_
          rintro e w15 ⟨rfl, b15⟩
          have B15 := below_seq B14 b15
          have X15 := Kd.C_below X14 b15
          have Y15 := Kd.C_below Y14 b15
          have Z15 := Kd.C_below Z14 b15
          clear b15 X14 Y14 Z14 q1
          go_wp2_with fail
          refine (prog_Cost.calls 0 Ay cy Y r2 _ Y15 hcy q2).mono ?_
          rintro e w16 ⟨rfl, b16⟩
          have B16 := below_seq B15 b16
          have X16 := Kd.C_below X15 b16
          have Y16 := Kd.C_below Y15 b16
          have Z16 := Kd.C_below Z15 b16
          clear b16 X15 Y15 Z15 q2
          go_wp2_with fail
          refine (prog_Steps.calls 0 Az cz Z _ _ Z16 hcz s3).mono ?_
          rintro e w17 ⟨rfl, b17⟩
          have B17 := below_seq B16 b17
          have X17 := Kd.C_below X16 b17
          have Y17 := Kd.C_below Y16 b17
          have Z17 := Kd.C_below Z16 b17
          clear b17 X16 Y16 Z16 s3
          go_wp2_with fail
          refine (prog_Steps.calls 0 Ax cx X _ _ X17 hcx s1).mono ?_
          rintro e w18 ⟨rfl, b18⟩
          have B18 := below_seq B17 b18
          have X18 := Kd.C_below X17 b18
          have Y18 := Kd.C_below Y17 b18
          have Z18 := Kd.C_below Z17 b18
          clear b18 X17 Y17 Z17 s1
          go_wp2_with fail
          refine (prog_Steps.calls 0 Ay cy Y _ _ Y18 hcy s2).mono ?_
          rintro e w19 ⟨rfl, b19⟩
          have B19 := below_seq B18 b19
          have X19 := Kd.C_below X18 b19
          have Y19 := Kd.C_below Y18 b19
          have Z19 := Kd.C_below Z18 b19
          clear b19 X18 Y18 Z18 s2
          obtain ⟨M, hM, hM2⟩ : ∃ M, mx t1 t2 = M ∧ ((t1 < t2 ∧ M = t2) ∨ (t2 ≤ t1 ∧ M = t1)) := by
            unfold mx
            by_cases h : t1 < t2
            · exact ⟨t2, if_pos h, .inl ⟨h, rfl⟩⟩
            · exact ⟨t1, if_neg h, .inr ⟨by omega, rfl⟩⟩
          rw [hM] at z3
          clear hM
          rcases hM2 with ⟨hlt, rfl⟩ | ⟨hlt, rfl⟩
          · skip
            go_wp2_with fail
            refine (prog_Section.calls m3 Az cz Z lx _ _ Z19 hcz z3).mono ?_
            rintro e w20 ⟨rfl, b20⟩
            have B20 := below_seq B19 b20
            have X20 := Kd.C_below X19 b20
            have Y20 := Kd.C_below Y19 b20
            have Z20 := Kd.C_below Z19 b20
            clear b20 X19 Y19 Z19 z3
            go_wp2_with fail
            refine (prog_Section.calls m1 Ax cx X lx _ _ X20 hcx z1).mono ?_
            rintro e w21 ⟨rfl, b21⟩
            have B21 := below_seq B20 b21
            have X21 := Kd.C_below X20 b21
            have Y21 := Kd.C_below Y20 b21
            have Z21 := Kd.C_below Z20 b21
            clear b21 X20 Y20 Z20 z1
            go_wp2_with fail
            refine (prog_Section.calls m2 Ay cy Y lx _ _ Y21 hcy z2).mono ?_
            rintro e w22 ⟨rfl, b22⟩
            have B22 := below_seq B21 b22
            have X22 := Kd.C_below X21 b22
            have Y22 := Kd.C_below Y21 b22
            have Z22 := Kd.C_below Z21 b22
            clear b22 X21 Y21 Z21 z2
            go_wp2_with fail
            refine (prog_Waits.calls Az cz Z _ _ Z22 hcz p3).mono ?_
            rintro e w23 ⟨rfl, b23⟩
            have B23 := below_seq B22 b23
            have X23 := Kd.C_below X22 b23
            have Y23 := Kd.C_below Y22 b23
            clear b23 X22 Y22 Z22 p3
            go_wp2_with fail
            refine (prog_Waits.calls Ax cx X _ _ X23 hcx p1).mono ?_
            rintro e w24 ⟨rfl, b24⟩
            have B24 := below_seq B23 b24
            have Y24 := Kd.C_below Y23 b24
            clear b24 X23 Y23 p1
            cases y1 with
            | true =>
              go_wp2
              go_ret
              exact ⟨by simp, B24⟩
            | false =>
              go_wp2_with fail
              refine (prog_Waits.calls Ay cy Y _ _ Y24 hcy p2).mono ?_
              rintro e w25 ⟨rfl, b25⟩
              have B25 := below_seq B24 b25
              go_wp2
              go_ret
              exact ⟨by simp, B25⟩
          · skip
            go_wp2_with fail
            refine (prog_Section.calls m3 Az cz Z lx _ _ Z19 hcz z3).mono ?_
            rintro e w20 ⟨rfl, b20⟩
            have B20 := below_seq B19 b20
            have X20 := Kd.C_below X19 b20
            have Y20 := Kd.C_below Y19 b20
            have Z20 := Kd.C_below Z19 b20
            clear b20 X19 Y19 Z19 z3
            go_wp2_with fail
            refine (prog_Section.calls m1 Ax cx X lx _ _ X20 hcx z1).mono ?_
            rintro e w21 ⟨rfl, b21⟩
            have B21 := below_seq B20 b21
            have X21 := Kd.C_below X20 b21
            have Y21 := Kd.C_below Y20 b21
            have Z21 := Kd.C_below Z20 b21
            clear b21 X20 Y20 Z20 z1
            go_wp2_with fail
            refine (prog_Section.calls m2 Ay cy Y lx _ _ Y21 hcy z2).mono ?_
            rintro e w22 ⟨rfl, b22⟩
            have B22 := below_seq B21 b22
            have X22 := Kd.C_below X21 b22
            have Y22 := Kd.C_below Y21 b22
            have Z22 := Kd.C_below Z21 b22
            clear b22 X21 Y21 Z21 z2
            go_wp2_with fail
            refine (prog_Waits.calls Az cz Z _ _ Z22 hcz p3).mono ?_
            rintro e w23 ⟨rfl, b23⟩
            have B23 := below_seq B22 b23
            have X23 := Kd.C_below X22 b23
            have Y23 := Kd.C_below Y22 b23
            clear b23 X22 Y22 Z22 p3
            go_wp2_with fail
            refine (prog_Waits.calls Ax cx X _ _ X23 hcx p1).mono ?_
            rintro e w24 ⟨rfl, b24⟩
            have B24 := below_seq B23 b24
            have Y24 := Kd.C_below Y23 b24
            clear b24 X23 Y23 p1
            cases y1 with
            | true =>
              go_wp2
              go_ret
              exact ⟨by simp, B24⟩
            | false =>
              go_wp2_with fail
              refine (prog_Waits.calls Ay cy Y _ _ Y24 hcy p2).mono ?_
              rintro e w25 ⟨rfl, b25⟩
              have B25 := below_seq B24 b25
              go_wp2
              go_ret
              exact ⟨by simp, B25⟩
        · have t : (fb != 0) = true := by simpa using hfb
          go_wp2_with (first
            | (at_builtin; (refine wp_appC rfl (.tmp 46) (.tmp 47) 22 62 (.agg #[.int .i64 0, .int .i64 0, .int .i64 0, .int .i64 0, .slice none 0 0]) 5 56 rfl Try.underlying22 (by kernel_rfl) rfl (by decide) (by decide) w5.heap.size _ 0 [] rfl ho0 a la.length ca rfl csA lA nA (fun ad e j u hu => cellB b6 (CLA.out ad e j u hu)) (encC_one EA.out) (by omega) b6.size ?_); intro v1 w7 hown7 hg7; have b7 := below_grown b6 hg7 (fun k hk => by have := (ho0.lt k hk).1; omega))
            | (at_builtin; refine wp_appC rfl (.tmp 48) (.tmp 49) 22 62 (.agg #[.int .i64 0, .int .i64 0, .int .i64 0, .int .i64 0, .slice none 0 0]) 5 56 rfl Try.underlying22 (by kernel_rfl) rfl (by decide) (by decide) w5.heap.size v1 (0 + la.length) ([] ++ csA) rfl hown7 b lb.length cb rfl csB lB nB (fun ad e j u hu => cellB b7 (CLB.out ad e j u hu)) (encC_one EB.out) (by omega) b7.size ?_; intro v2 w8 hown8 hg8; have b8 := below_grown b7 hg8 (fun k hk => by have := (hown7.lt k hk).1; omega)))
          go_ret
          exact ⟨rfl, below_seq B5 b8⟩
      · have t : (fa != 0) = true := by simpa using hfa
        go_wp2_with (first
          | (at_builtin; (refine wp_appC rfl (.tmp 46) (.tmp 47) 22 62 (.agg #[.int .i64 0, .int .i64 0, .int .i64 0, .int .i64 0, .slice none 0 0]) 5 56 rfl Try.underlying22 (by kernel_rfl) rfl (by decide) (by decide) w5.heap.size _ 0 [] rfl ho0 a la.length ca rfl csA lA nA (fun ad e j u hu => cellB b6 (CLA.out ad e j u hu)) (encC_one EA.out) (by omega) b6.size ?_); intro v1 w7 hown7 hg7; have b7 := below_grown b6 hg7 (fun k hk => by have := (ho0.lt k hk).1; omega))
          | (at_builtin; refine wp_appC rfl (.tmp 48) (.tmp 49) 22 62 (.agg #[.int .i64 0, .int .i64 0, .int .i64 0, .int .i64 0, .slice none 0 0]) 5 56 rfl Try.underlying22 (by kernel_rfl) rfl (by decide) (by decide) w5.heap.size v1 (0 + la.length) ([] ++ csA) rfl hown7 b lb.length cb rfl csB lB nB (fun ad e j u hu => cellB b7 (CLB.out ad e j u hu)) (encC_one EB.out) (by omega) b7.size ?_; intro v2 w8 hown8 hg8; have b8 := below_grown b7 hg8 (fun k hk => by have := (hown7.lt k hk).1; omega)))
        go_ret
        exact ⟨rfl, below_seq B5 b8⟩
end Go.Proofs.Ytjnhahdelipebaa.OpenK
