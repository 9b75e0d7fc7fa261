/- CeilNested: the walk. -/
import Derived.Test.YtniphoeoeekpbaaCeilNestedSt
import Derived.IntWalk
namespace Go.Proofs.Ytniphoeoeekpbaa.Pure
set_option linter.unusedVariables false
set_option linter.unusedSimpArgs false
open Go.RowKit Go.Proofs.Ytniphoeoeekpbaa.XA Go.Proofs.YtniphoeoeekpbaaW.PrintWords Go.Proofs.YtniphoeoeekpbaaW.PrintLast Go.Proofs.YtniphoeoeekpbaaW.PrintMore
theorem spot_none {w : World} {a : Addr} {v : Value} (h : w.cell? a = some v) : a.spot = none := by
  simp only [World.cell?] at h
  split at h
  · split at h
    · simp at h
    · simpa using ‹¬ a.spot.isSome = true›
  · simp at h
set_option maxHeartbeats 8000000 in
set_option maxRecDepth 100000 in
theorem ceilNested_walk (a b c d : Int) (w : World) (ha : (Lit.int .u8 a).wf = true) (hb : (Lit.int .u8 b).wf = true) (hc : (Lit.int .u8 c).wf = true) (hd : (Lit.int .u8 d).wf = true) :
    Calls Try.prog 5 #[.int .u8 a, .int .u8 b, .int .u8 c, .int .u8 d] w fun e w' => e = .returned (.bool true) ∧ Below w.heap.size w w' := by
  have HB := Lib.hid (Below.refl w.heap.size w)
  obtain ⟨s, hs⟩ : ∃ s, s = w.heap.size := ⟨_, rfl⟩
  go_enter Try.func5, Try.ntmps5
  go_wp2_with fail
  refine (watchbilllaw10_known.calls 60 true _ known_true).mono ?_
  rintro e w1 ⟨rfl, hb1⟩
  replace HB := Lib.hid (below_step HB.out hb1)
  clear hb1
  go_wp2_with fail
  obtain ⟨q0, hq0⟩ : ∃ q, q = wrap64 (1 + wrap64 (a.tmod 50)) := ⟨_, rfl⟩
  obtain ⟨q1, hq1⟩ : ∃ q, q = wrap64 (1 + wrap64 (b.tmod 50)) := ⟨_, rfl⟩
  obtain ⟨q2, hq2⟩ : ∃ q, q = wrap64 (1 + wrap64 (c.tmod 50)) := ⟨_, rfl⟩
  obtain ⟨q3, hq3⟩ : ∃ q, q = wrap64 (1 + wrap64 (d.tmod 50)) := ⟨_, rfl⟩
  rw [← hq0, ← hq1, ← hq2, ← hq3]
  have B0 := Lib.hid (num_in ha hq0)
  have B1 := Lib.hid (num_in hb hq1)
  have B2 := Lib.hid (num_in hc hq2)
  have B3 := Lib.hid (num_in hd hq3)
  clear hq0 hq1 hq2 hq3
  obtain ⟨s1, hs1⟩ : ∃ g, g = w1.heap.size := ⟨_, rfl⟩
  obtain ⟨W1, hW1⟩ : ∃ W, W = w1.alloc (.cells #[.int .i64 q0, .int .i64 q1, .int .i64 q2, .int .i64 q3] 2) := ⟨_, rfl⟩
  have hn : W1.heap[s1]? = some (.cells #[.int .i64 q0, .int .i64 q1, .int .i64 q2, .int .i64 q3] 2 (0, 0)) := by rw [hW1, hs1]; exact heap_alloc_new w1 _
  rw [← hW1, ← hs1]
  replace HB := Lib.hid (show Below w.heap.size w W1 from hW1 ▸ below_alloc HB.out _)
  clear hs1 hW1 hs
  have c0 := (blk_cell hn 0).trans (show (#[Value.int .i64 q0, .int .i64 q1, .int .i64 q2, .int .i64 q3] : Array Value)[0]? = some (.int .i64 q0) from rfl)
  have c1 := (blk_cell hn 1).trans (show (#[Value.int .i64 q0, .int .i64 q1, .int .i64 q2, .int .i64 q3] : Array Value)[1]? = some (.int .i64 q1) from rfl)
  have c2 := (blk_cell hn 2).trans (show (#[Value.int .i64 q0, .int .i64 q1, .int .i64 q2, .int .i64 q3] : Array Value)[2]? = some (.int .i64 q2) from rfl)
  have c3 := (blk_cell hn 3).trans (show (#[Value.int .i64 q0, .int .i64 q1, .int .i64 q2, .int .i64 q3] : Array Value)[3]? = some (.int .i64 q3) from rfl)
  have f0 := blk_frozen hn 0
  have f1 := blk_frozen hn 1
  have f2 := blk_frozen hn 2
  have f3 := blk_frozen hn 3
  have hlt := blk_lt hn
  have HN := Lib.hid hn
  clear hn
  go_wp2_with fail
  go_region_held3 (fun w' => w'.cell? ⟨s1, 0, none⟩ = some (.int .i64 q0) ∧ w'.cell? ⟨s1, 1, none⟩ = some (.int .i64 q1) ∧ w'.cell? ⟨s1, 2, none⟩ = some (.int .i64 q2) ∧ w'.cell? ⟨s1, 3, none⟩ = some (.int .i64 q3)) (first | trivial | go_keep) (first | fail)
  go_wp2_with fail
  obtain ⟨g, hg⟩ : ∃ g, g = W1.heap.size := ⟨_, rfl⟩
  rw [← hg]
  generalize hW : World.drew _ = W2
  have HS := Lib.hid (St.mk' q0 q1 q2 q3 HN.out hg.symm HB.out hW.symm)
  clear hW hg c0 c1 c2 c3 f0 f1 f2 f3 HN HB hlt
  have c0 := HS.out.c0
  have c1 := HS.out.c1
  have c2 := HS.out.c2
  go_region_held3? (fun w' => w'.cell? ⟨g + 1 + 1, 0, none⟩ = some (.int .i64 3) ∧ w'.cell? ⟨g + 1 + 1, 1, none⟩ = some (.slice none 0 0) ∧ w'.cell? ⟨g + 1 + 1, 2, none⟩ = some (.slice (some ⟨g + 1, 0, none⟩) 1 1)) (first | trivial | go_keep) (first | (have z_ := S2; clear z_; go_at_call 14; refine (ceil_Sections.calls 60 3 none 0 [] (some ⟨g + 1, 0, none⟩) 1 (nestT q0 q1 q2 q3) 2 _ _ ?_ (Nat.le_refl _) ?_ (Nat.le_refl _) (nest_s2 q0 q1 q2 q3)).mono ?_; (first | exact S2.c | exact S2.drew.c | exact S2.drew.drew.c | exact S2.drew.drew.drew.c); (first | exact S2.t | exact S2.drew.t | exact S2.drew.drew.t | exact S2.drew.drew.drew.t); rintro e w5 ⟨v3, rfl, hR3, hb3⟩; obtain ⟨ad3, k3, rfl⟩ := Kd.R_slice hR3; have C33 := (Kd.R_reads' hR3).2.2; have C13 : Kd.C (Kd.int .i64) w5 ad1 1 _ := (by first | exact Kd.C_below C12 hb3 | exact Kd.C_below (Kd.C_below C12 (Below.refl _ _).drew) hb3 | exact Kd.C_below (Kd.C_below (Kd.C_below C12 (Below.refl _ _).drew) (Below.refl _ _).drew) hb3); have C23 : Kd.C (Kd.int .i64) w5 ad2 1 _ := (by first | exact Kd.C_below C22 hb3 | exact Kd.C_below (Kd.C_below C22 (Below.refl _ _).drew) hb3 | exact Kd.C_below (Kd.C_below (Kd.C_below C22 (Below.refl _ _).drew) (Below.refl _ _).drew) hb3); have S3 : St q0 q1 q2 q3 s1 g w w5 := (by first | exact S2.step hb3 | exact S2.drew.step hb3 | exact S2.drew.drew.drew.step hb3 | exact S2.drew.drew.step hb3); have e30 := S3.c0; have e31 := S3.c1; have e32 := S3.c2) | (have z_ := S1; clear z_; go_at_call 14; refine (ceil_Sections.calls 60 3 none 0 [] (some ⟨g + 1, 0, none⟩) 1 (nestT q0 q1 q2 q3) 1 _ _ ?_ (Nat.le_refl _) ?_ (Nat.le_refl _) (nest_s1 q0 q1 q2 q3)).mono ?_; (first | exact S1.c | exact S1.drew.c | exact S1.drew.drew.c | exact S1.drew.drew.drew.c); (first | exact S1.t | exact S1.drew.t | exact S1.drew.drew.t | exact S1.drew.drew.drew.t); rintro e w4 ⟨v2, rfl, hR2, hb2⟩; obtain ⟨ad2, k2, rfl⟩ := Kd.R_slice hR2; have C22 := (Kd.R_reads' hR2).2.2; have C12 : Kd.C (Kd.int .i64) w4 ad1 1 _ := (by first | exact Kd.C_below C11 hb2 | exact Kd.C_below (Kd.C_below C11 (Below.refl _ _).drew) hb2 | exact Kd.C_below (Kd.C_below (Kd.C_below C11 (Below.refl _ _).drew) (Below.refl _ _).drew) hb2); have S2 : St q0 q1 q2 q3 s1 g w w4 := (by first | exact S1.step hb2 | exact S1.drew.step hb2 | exact S1.drew.drew.drew.step hb2 | exact S1.drew.drew.step hb2); have e20 := S2.c0; have e21 := S2.c1; have e22 := S2.c2) | (go_at_call 14; refine (ceil_Sections.calls 60 3 none 0 [] (some ⟨g + 1, 0, none⟩) 1 (nestT q0 q1 q2 q3) 0 _ _ ?_ (Nat.le_refl _) ?_ (Nat.le_refl _) (nest_s0 q0 q1 q2 q3)).mono ?_; (first | exact HS.out.c | exact HS.out.drew.c | exact HS.out.drew.drew.c | exact HS.out.drew.drew.drew.c); (first | exact HS.out.t | exact HS.out.drew.t | exact HS.out.drew.drew.t | exact HS.out.drew.drew.drew.t); rintro e w3 ⟨v1, rfl, hR1, hb1⟩; obtain ⟨ad1, k1, rfl⟩ := Kd.R_slice hR1; have C11 := (Kd.R_reads' hR1).2.2; have S1 : St q0 q1 q2 q3 s1 g w w3 := (by first | exact HS.out.step hb1 | exact HS.out.drew.step hb1 | exact HS.out.drew.drew.drew.step hb1 | exact HS.out.drew.drew.step hb1); have e10 := S1.c0; have e11 := S1.c1; have e12 := S1.c2))
  go_wp2_with fail
  refine (ceil_Of.calls 60 3 none 0 [] (some ⟨g + 1, 0, none⟩) 1 (nestT q0 q1 q2 q3) [1, 1, 0] _ S3.c (Nat.le_refl _) S3.t (Nat.le_refl _) (nest_of q0 q1 q2 q3)).mono ?_
  rintro e w6 ⟨v4, rfl, hR4, hb4⟩
  obtain ⟨ad4, k4, rfl⟩ := Kd.R_slice hR4
  have S4 := Lib.hid (S3.step hb4)
  have D1 := Kd.C_below C13 hb4
  have D2 := Kd.C_below C23 hb4
  have D3 := Kd.C_below C33 hb4
  have D4 := (Kd.R_reads' hR4).2.2
  obtain ⟨E1, E2, E3⟩ := nest_eq q0 q1 q2 q3 B0.out B1.out B2.out B3.out
  rw [E1] at D1
  rw [E2] at D2
  rw [E3] at D3
  obtain ⟨z1, rfl, x1⟩ := Kd.at_int D1 0 (by decide) (by decide)
  obtain ⟨z2, rfl, x2⟩ := Kd.at_int D2 0 (by decide) (by decide)
  obtain ⟨z3, rfl, x3⟩ := Kd.at_int D3 0 (by decide) (by decide)
  obtain ⟨z4, rfl, x4⟩ := Kd.at_int D4 0 (by decide) (by decide)
  have x5 := Kd.foot_int D4 1 (by decide) (by decide)
  have x6 := Kd.foot_int D4 2 (by decide) (by decide)
  replace x1 : w6.cell? (z1.add 0) = some (.int .i64 (q1 + q2 + q3)) := x1
  replace x2 : w6.cell? (z2.add 0) = some (.int .i64 q2) := x2
  replace x3 : w6.cell? (z3.add 0) = some (.int .i64 0) := x3
  replace x4 : w6.cell? (z4.add 0) = some (.int .i64 1) := x4
  replace x5 : w6.cell? (z4.add 1) = some (.int .i64 1) := x5
  replace x6 : w6.cell? (z4.add 2) = some (.int .i64 0) := x6
  have y1 : w6.cell? ⟨s1, 1, none⟩ = some (.int .i64 q1) := (blk_cell S4.out.n 1).trans rfl
  have y2 : w6.cell? ⟨s1, 2, none⟩ = some (.int .i64 q2) := (blk_cell S4.out.n 2).trans rfl
  have y3 : w6.cell? ⟨s1, 3, none⟩ = some (.int .i64 q3) := (blk_cell S4.out.n 3).trans rfl
  obtain ⟨b1, b1'⟩ := B1.out
  obtain ⟨b2, b2'⟩ := B2.out
  obtain ⟨b3, b3'⟩ := B3.out
  have add0 : ∀ z : Addr, z.add 0 = z := fun z => by simp [Addr.add]
  rw [add0] at x1 x2 x3 x4
  obtain ⟨bz4, oz4, sz4⟩ := z4
  obtain rfl : sz4 = none := spot_none x4
  replace x5 : w6.cell? ⟨bz4, oz4 + 1, none⟩ = some (.int .i64 1) := x5
  replace x6 : w6.cell? ⟨bz4, oz4 + 2, none⟩ = some (.int .i64 0) := x6
  clear add0
  clear D1 D2 D3 D4 C12 C13 C22 C23 C33 hR1 hR2 hR3 hR4 E1 E2 E3 S1 S2 S3
  go_wp2_with fail
  simp only [List.append_eq, List.cons_append, List.nil_append]
  refine wp_region_quiet_lit (by kernel_rfl) (by kernel_rfl) ?_
  repeat (any_goals (first | go_big_quiet_step (fail) | quiet_step (fail)))
  refine wpQuiet_nil ?_
  intro _ hw'
  obtain ⟨nq, hw''⟩ := hw'
  subst hw''
  go_wp2
  go_ret
  exact ⟨rfl, by first | exact S4.out.b | exact pw_below_drewN S4.out.b _⟩
end Go.Proofs.Ytniphoeoeekpbaa.Pure
