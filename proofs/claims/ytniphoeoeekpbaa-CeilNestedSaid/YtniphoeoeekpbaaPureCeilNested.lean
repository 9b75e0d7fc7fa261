/- Of locks within one another: what the pure functions of the print tell of that one task. -/
import Derived.Test.YtniphoeoeekpbaaXAx2
import Derived.Test.YtniphoeoeekpbaaXAx5
namespace Go.Proofs.Ytniphoeoeekpbaa.Pure
set_option linter.unusedVariables false
set_option linter.unusedSimpArgs false
open Go.RowKit Go.Proofs.Ytniphoeoeekpbaa.XA Go.Proofs.YtniphoeoeekpbaaW.PrintWords Go.Proofs.YtniphoeoeekpbaaW.PrintLast Go.Proofs.YtniphoeoeekpbaaW.PrintMore
def nest (a b c d : Int) : List S52 := [⟨1, a, 0, 0, []⟩, ⟨2, 0, 0, 0, []⟩, ⟨1, b, 0, 0, []⟩, ⟨2, 1, 0, 0, []⟩, ⟨1, c, 0, 0, []⟩, ⟨3, 1, 0, 0, []⟩, ⟨1, d, 0, 0, []⟩, ⟨3, 0, 0, 0, []⟩]
def nestT (a b c d : Int) : List S56 := [⟨⟨#[97]⟩, 900, 900, 900, nest a b c d⟩]
def costN (a b c d : Int) : Int := wrap64 (wrap64 (wrap64 (wrap64 (0 + wrap64 (a * 1)) + wrap64 (b * 1)) + wrap64 (c * 1)) + wrap64 (d * 1))
def sec0 (b c d : Int) : Int := mx (mx (mx 0 (wrap64 (0 + b))) (wrap64 (wrap64 (0 + b) + c))) (wrap64 (wrap64 (wrap64 (0 + b) + c) + d))
set_option maxRecDepth 100000 in
theorem nest_cost (a b c d : Int) : prog_Cost.f 40 (nest a b c d) = some (costN a b c d) := by kernel_rfl
set_option maxRecDepth 100000 in
theorem nest_flat (a b c d : Int) : prog_Flat.f 40 (nest a b c d) = some (nest a b c d) := by kernel_rfl
set_option maxRecDepth 100000 in
theorem nest_sec0 (a b c d : Int) : prog_Section.f 40 (nest a b c d) 0 = some (sec0 b c d) := by kernel_rfl
set_option maxRecDepth 100000 in
theorem nest_sec1 (a b c d : Int) : prog_Section.f 40 (nest a b c d) 1 = some (mx 0 (wrap64 (0 + c))) := by kernel_rfl
set_option maxRecDepth 100000 in
theorem nest_sec2 (a b c d : Int) : prog_Section.f 40 (nest a b c d) 2 = some 0 := by kernel_rfl
set_option maxRecDepth 100000 in
theorem nest_s0 (a b c d : Int) : ceil_Sections.f 60 3 [] (nestT a b c d) 0 = some [mn (sec0 b c d) (mn (costN a b c d) 900)] := by kernel_rfl
set_option maxRecDepth 100000 in
theorem nest_s1 (a b c d : Int) : ceil_Sections.f 60 3 [] (nestT a b c d) 1 = some [mn (mx 0 (wrap64 (0 + c))) (mn (costN a b c d) 900)] := by kernel_rfl
set_option maxRecDepth 100000 in
theorem nest_s2 (a b c d : Int) : ceil_Sections.f 60 3 [] (nestT a b c d) 2 = some [mn 0 (mn (costN a b c d) 900)] := by kernel_rfl
set_option maxRecDepth 100000 in
theorem nest_of (a b c d : Int) : ceil_Of.f 60 3 [] (nestT a b c d) = some [1, 1, 0] := by kernel_rfl
theorem w64_in {x : Int} (h : 0 ≤ x ∧ x ≤ 1000) : wrap64 x = x := by
  unfold wrap64; omega
theorem nest_eq (a b c d : Int) (ha : 1 ≤ a ∧ a ≤ 50) (hb : 1 ≤ b ∧ b ≤ 50) (hc : 1 ≤ c ∧ c ≤ 50) (hd : 1 ≤ d ∧ d ≤ 50) :
    mn (sec0 b c d) (mn (costN a b c d) 900) = b + c + d ∧ mn (mx 0 (wrap64 (0 + c))) (mn (costN a b c d) 900) = c ∧ mn 0 (mn (costN a b c d) 900) = 0 := by
  have e : costN a b c d = a + b + c + d := by
    unfold costN
    simp only [Int.mul_one, Int.zero_add]
    rw [w64_in (x := a) (by omega), w64_in (x := a) (by omega), w64_in (x := b) (by omega), w64_in (x := c) (by omega), w64_in (x := d) (by omega), w64_in (x := a + b) (by omega), w64_in (x := a + b + c) (by omega), w64_in (x := a + b + c + d) (by omega)]
  have e0 : sec0 b c d = b + c + d := by
    unfold sec0
    simp only [Int.zero_add]
    rw [w64_in (x := b) (by omega), w64_in (x := b + c) (by omega), w64_in (x := b + c + d) (by omega)]
    unfold mx
    (repeat' split) <;> omega
  rw [e, e0, Int.zero_add, w64_in (x := c) (by omega)]
  unfold mn mx
  refine ⟨?_, ?_, ?_⟩ <;> (repeat' split) <;> omega
end Go.Proofs.Ytniphoeoeekpbaa.Pure
