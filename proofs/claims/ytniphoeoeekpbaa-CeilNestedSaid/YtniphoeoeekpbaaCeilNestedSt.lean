/- CeilNested: what stands in memory while its set is looked at. -/
import Derived.Test.YtniphoeoeekpbaaPureCeilNested
import Derived.Test.YtniphoeoeekpbaaXAx6
namespace Go.Proofs.Ytniphoeoeekpbaa.Pure
set_option linter.unusedVariables false
set_option linter.unusedSimpArgs false
open Go.RowKit Go.Proofs.Ytniphoeoeekpbaa.XA Go.Proofs.YtniphoeoeekpbaaW.PrintWords Go.Proofs.YtniphoeoeekpbaaW.PrintLast Go.Proofs.YtniphoeoeekpbaaW.PrintMore
set_option maxRecDepth 100000 in
theorem known_true : watchbilllaw10_known.f 60 = some true := by kernel_rfl
theorem num_in {a q : Int} (ha : (Lit.int .u8 a).wf = true) (h : q = wrap64 (1 + wrap64 (a.tmod 50))) : 1 ≤ q ∧ q ≤ 50 := by
  simp [Lit.wf, IntKind.min, IntKind.max, IntKind.bits, IntKind.signed] at ha
  have e : a.tmod 50 = a % 50 := Int.tmod_eq_emod_of_nonneg (by omega)
  rw [e] at h
  unfold wrap64 at h
  omega
structure St (q0 q1 q2 q3 : Int) (s1 g : Nat) (w0 w : World) : Prop where
  c : Kd.C k64 w none 0 []
  t : Kd.C k56 w (some ⟨g + 1, 0, none⟩) 1 (nestT q0 q1 q2 q3)
  h : w.heap[g + 1 + 1]? = some (.cells #[.int .i64 3, .slice none 0 0, .slice (some ⟨g + 1, 0, none⟩) 1 1] 33 (0, 0))
  b : Below w0.heap.size w0 w
  n : w.heap[s1]? = some (.cells #[.int .i64 q0, .int .i64 q1, .int .i64 q2, .int .i64 q3] 2 (0, 0))
theorem St.step {q0 q1 q2 q3 : Int} {s1 g : Nat} {w0 w w' : World} (h : St q0 q1 q2 q3 s1 g w0 w) (hb : Below w.heap.size w w') : St q0 q1 q2 q3 s1 g w0 w' :=
  ⟨Kd.C_below h.c hb, Kd.C_below h.t hb, (hb.block _ (blk_lt h.h)).trans h.h, below_step h.b hb, (hb.block _ (blk_lt h.n)).trans h.n⟩
theorem St.drew {q0 q1 q2 q3 : Int} {s1 g : Nat} {w0 w : World} (h : St q0 q1 q2 q3 s1 g w0 w) : St q0 q1 q2 q3 s1 g w0 w.drew := h.step (Below.refl _ _).drew
theorem St.c0 {q0 q1 q2 q3 : Int} {s1 g : Nat} {w0 w : World} (h : St q0 q1 q2 q3 s1 g w0 w) : w.cell? ⟨g + 1 + 1, 0, none⟩ = some (.int .i64 3) := (blk_cell h.h 0).trans rfl
theorem St.c1 {q0 q1 q2 q3 : Int} {s1 g : Nat} {w0 w : World} (h : St q0 q1 q2 q3 s1 g w0 w) : w.cell? ⟨g + 1 + 1, 1, none⟩ = some (.slice none 0 0) := (blk_cell h.h 1).trans rfl
theorem St.c2 {q0 q1 q2 q3 : Int} {s1 g : Nat} {w0 w : World} (h : St q0 q1 q2 q3 s1 g w0 w) : w.cell? ⟨g + 1 + 1, 2, none⟩ = some (.slice (some ⟨g + 1, 0, none⟩) 1 1) := (blk_cell h.h 2).trans rfl
set_option maxHeartbeats 4000000 in
set_option maxRecDepth 100000 in
theorem nest_ops (w : World) (base g : Nat) (ok : Nat → Prop) (a b c d : Int) (hbase : base ≤ g) (hok : ok g)
    (hg : w.heap[g]? = some (.cells #[.int .i64 1, .int .i64 a, .int .i64 0, .int .i64 0, .slice none 0 0, .int .i64 2, .int .i64 0, .int .i64 0, .int .i64 0, .slice none 0 0, .int .i64 1, .int .i64 b, .int .i64 0, .int .i64 0, .slice none 0 0, .int .i64 2, .int .i64 1, .int .i64 0, .int .i64 0, .slice none 0 0, .int .i64 1, .int .i64 c, .int .i64 0, .int .i64 0, .slice none 0 0, .int .i64 3, .int .i64 1, .int .i64 0, .int .i64 0, .slice none 0 0, .int .i64 1, .int .i64 d, .int .i64 0, .int .i64 0, .slice none 0 0, .int .i64 3, .int .i64 0, .int .i64 0, .int .i64 0, .slice none 0 0] 52 (0, 0))) :
    Kd.R k52 52 w base ok (.slice (some ⟨g, 0, none⟩) 8 8) (nest a b c d) := by
  refine R_of_blk hg hbase hok rfl (by unfold maxLen; simp [nest]) ⟨by kernel_rfl, fun j p hj => ?_⟩
  match j, hj with
  | 0, h => cases h; exact k52_mkM _ _ _ ⟨1, a, 0, 0, []⟩ (Kd.R_nil _ _ _ _ _)
  | 1, h => cases h; exact k52_mkM _ _ _ ⟨2, 0, 0, 0, []⟩ (Kd.R_nil _ _ _ _ _)
  | 2, h => cases h; exact k52_mkM _ _ _ ⟨1, b, 0, 0, []⟩ (Kd.R_nil _ _ _ _ _)
  | 3, h => cases h; exact k52_mkM _ _ _ ⟨2, 1, 0, 0, []⟩ (Kd.R_nil _ _ _ _ _)
  | 4, h => cases h; exact k52_mkM _ _ _ ⟨1, c, 0, 0, []⟩ (Kd.R_nil _ _ _ _ _)
  | 5, h => cases h; exact k52_mkM _ _ _ ⟨3, 1, 0, 0, []⟩ (Kd.R_nil _ _ _ _ _)
  | 6, h => cases h; exact k52_mkM _ _ _ ⟨1, d, 0, 0, []⟩ (Kd.R_nil _ _ _ _ _)
  | 7, h => cases h; exact k52_mkM _ _ _ ⟨3, 0, 0, 0, []⟩ (Kd.R_nil _ _ _ _ _)
theorem nest_task (w : World) (base g : Nat) (ok : Nat → Prop) (a : S56) (va : Value) (hbase : base ≤ g) (hok : ok g)
    (hg : w.heap[g]? = some (.cells #[.string a.f0, .int .i64 a.f1, .int .i64 a.f2, .int .i64 a.f3, va] 56 (0, 0)))
    (ha : Kd.R k52 52 w base (fun k => ok k ∧ some k ≠ some g) va a.f4) :
    Kd.R k56 56 w base ok (.slice (some ⟨g, 0, none⟩) 1 1) [a] := by
  refine R_of_blk hg hbase hok rfl (by unfold maxLen; simp) ⟨rfl, fun j p hj => ?_⟩
  match j, hj with
  | 0, h => cases h; exact k56_mkM _ _ _ a ha
theorem St.mk' (q0 q1 q2 q3 : Int) {s1 g : Nat} {w0 w W : World} (hn : w.heap[s1]? = some (.cells #[.int .i64 q0, .int .i64 q1, .int .i64 q2, .int .i64 q3] 2 (0, 0))) (hg : w.heap.size = g) (hb : Below w0.heap.size w0 w)
    (hW : W = (((w.alloc (.cells #[.int .i64 1, .int .i64 q0, .int .i64 0, .int .i64 0, .slice none 0 0, .int .i64 2, .int .i64 0, .int .i64 0, .int .i64 0, .slice none 0 0, .int .i64 1, .int .i64 q1, .int .i64 0, .int .i64 0, .slice none 0 0, .int .i64 2, .int .i64 1, .int .i64 0, .int .i64 0, .slice none 0 0, .int .i64 1, .int .i64 q2, .int .i64 0, .int .i64 0, .slice none 0 0, .int .i64 3, .int .i64 1, .int .i64 0, .int .i64 0, .slice none 0 0, .int .i64 1, .int .i64 q3, .int .i64 0, .int .i64 0, .slice none 0 0, .int .i64 3, .int .i64 0, .int .i64 0, .int .i64 0, .slice none 0 0] 52)).alloc (.cells #[.string ⟨#[97]⟩, .int .i64 900, .int .i64 900, .int .i64 900, .slice (some ⟨g, 0, none⟩) 8 8] 56)).alloc (.cells #[.int .i64 3, .slice none 0 0, .slice (some ⟨g + 1, 0, none⟩) 1 1] 33)).drew) : St q0 q1 q2 q3 s1 g w0 W := by
  have hR : Kd.R k56 56 W g (fun _ => True) (.slice (some ⟨g + 1, 0, none⟩) 1 1) (nestT q0 q1 q2 q3) := by
    refine nest_task W g (g + 1) _ ⟨⟨#[97]⟩, 900, 900, 900, nest q0 q1 q2 q3⟩ (.slice (some ⟨g, 0, none⟩) 8 8) (by omega) trivial ?_ (nest_ops W g g _ q0 q1 q2 q3 (by omega) ⟨trivial, by simp <;> omega⟩ ?_)
    · rw [hW]; show (World.alloc _ _).heap[_]? = _; repeat (first | exact al_new (by simp [hg]) | refine al_get (by simp [hg] <;> omega) ?_)
    · rw [hW]; show (World.alloc _ _).heap[_]? = _; repeat (first | exact al_new (by simp [hg]) | refine al_get (by simp [hg] <;> omega) ?_)
  refine ⟨(Kd.R_reads' (Kd.R_nil k64 64 W g (fun _ => True))).2.2, (Kd.R_reads' hR).2.2, ?_, ?_, ?_⟩
  · rw [hW]; show (World.alloc _ _).heap[_]? = _; exact al_new (by simp [hg])
  · rw [hW]; exact (below_alloc (below_alloc (below_alloc hb _) _) _).drew
  · rw [hW]; exact ((below_alloc (below_alloc (below_alloc (Below.refl _ w) _) _) _).drew.block _ (blk_lt hn)).trans hn
end Go.Proofs.Ytniphoeoeekpbaa.Pure
