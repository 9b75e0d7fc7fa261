
/- A set that came in (watchbillref8.Set), in the print's kinds. -/
import Derived.Test.YtjnhahdelipebaaOpenK
import Derived.Lib.SmallJoins
namespace Go.Proofs.Ytjnhahdelipebaa.OpenK
set_option linter.unusedVariables false
set_option linter.unusedSimpArgs false
open Go.RowKit Go.Deep Go.ChangeShapes Go.WideShapes Go.Proofs.Ytjnhahdelipebaa.XA Go.Proofs.YtjnhahdelipebaaW.PrintWords Go.Proofs.YtjnhahdelipebaaW.PrintLast
abbrev wfI (n : Int) : Prop := (Lit.int .i64 n).wf = true
def RCase (x : S85) : Prop := wfI x.f1 ∧ wfI x.f2
def ROp (x : S62) : Prop := wfI x.f0 ∧ wfI x.f1 ∧ wfI x.f2 ∧ wfI x.f3 ∧ ∀ c ∈ x.f4, RCase c
section
variable {H : Type} {enc0 : TypeId × Value → H} {P : Program} {W : World} {base : Nat} {held : Bool}
/-- A struct of five fields, one cell each. -/
theorem open_fields5 {t : TypeId} {f0 f1 f2 f3 f4 : Field} {fuel : Nat} {cs : List Value} {y : DataW H × List MemPlace} (ht : P.underlying t = some (.struct #[f0, f1, f2, f3, f4])) (hc : P.cellsOf t = 5)
    (o0 : f0.offset = 0) (o1 : f1.offset = 1) (o2 : f2.offset = 2) (o3 : f3.offset = 3) (o4 : f4.offset = 4) (s0 : P.cellsOf f0.type = 1) (s1 : P.cellsOf f1.type = 1) (s2 : P.cellsOf f2.type = 1) (s3 : P.cellsOf f3.type = 1) (s4 : P.cellsOf f4.type = 1)
    (h : DataW.trod enc0 P W base (fun _ => true) held fuel t cs = some y) :
    ∃ n v0 v1 v2 v3 v4 y0 y1 y2 y3 y4, cs = [v0, v1, v2, v3, v4] ∧ DataW.trod enc0 P W base (fun _ => true) held n f0.type [v0] = some y0 ∧ DataW.trod enc0 P W base (fun _ => true) held n f1.type [v1] = some y1 ∧ DataW.trod enc0 P W base (fun _ => true) held n f2.type [v2] = some y2 ∧ DataW.trod enc0 P W base (fun _ => true) held n f3.type [v3] = some y3 ∧ DataW.trod enc0 P W base (fun _ => true) held n f4.type [v4] = some y4 := by
  obtain ⟨xs, n, _, _, hl, hlen, hf⟩ := DataW.trod_struct ht h
  rw [hc] at hl
  match xs, hlen, cs, hl with
  | [y0, y1, y2, y3, y4], _, [v0, v1, v2, v3, v4], _ =>
    have h0 := hf 0 f0 rfl
    have h1 := hf 1 f1 rfl
    have h2 := hf 2 f2 rfl
    have h3 := hf 3 f3 rfl
    have h4 := hf 4 f4 rfl
    rw [o0, s0] at h0
    rw [o1, s1] at h1
    rw [o2, s2] at h2
    rw [o3, s3] at h3
    rw [o4, s4] at h4
    exact ⟨n, v0, v1, v2, v3, v4, y0, y1, y2, y3, y4, rfl, by simpa using h0, by simpa using h1, by simpa using h2, by simpa using h3, by simpa using h4⟩
theorem open_fields3 {t : TypeId} {f0 f1 f2 : Field} {fuel : Nat} {cs : List Value} {y : DataW H × List MemPlace} (ht : P.underlying t = some (.struct #[f0, f1, f2])) (hc : P.cellsOf t = 3)
    (o0 : f0.offset = 0) (o1 : f1.offset = 1) (o2 : f2.offset = 2) (s0 : P.cellsOf f0.type = 1) (s1 : P.cellsOf f1.type = 1) (s2 : P.cellsOf f2.type = 1)
    (h : DataW.trod enc0 P W base (fun _ => true) held fuel t cs = some y) :
    ∃ n v0 v1 v2 y0 y1 y2, cs = [v0, v1, v2] ∧ DataW.trod enc0 P W base (fun _ => true) held n f0.type [v0] = some y0 ∧ DataW.trod enc0 P W base (fun _ => true) held n f1.type [v1] = some y1 ∧ DataW.trod enc0 P W base (fun _ => true) held n f2.type [v2] = some y2 := by
  obtain ⟨xs, n, _, _, hl, hlen, hf⟩ := DataW.trod_struct ht h
  rw [hc] at hl
  match xs, hlen, cs, hl with
  | [y0, y1, y2], _, [v0, v1, v2], _ =>
    have h0 := hf 0 f0 rfl
    have h1 := hf 1 f1 rfl
    have h2 := hf 2 f2 rfl
    rw [o0, s0] at h0
    rw [o1, s1] at h1
    rw [o2, s2] at h2
    exact ⟨n, v0, v1, v2, y0, y1, y2, rfl, by simpa using h0, by simpa using h1, by simpa using h2⟩
theorem open_fields2 {t : TypeId} {f0 f1 : Field} {fuel : Nat} {cs : List Value} {y : DataW H × List MemPlace} (ht : P.underlying t = some (.struct #[f0, f1])) (hc : P.cellsOf t = 2)
    (o0 : f0.offset = 0) (o1 : f1.offset = 1) (s0 : P.cellsOf f0.type = 1) (s1 : P.cellsOf f1.type = 1)
    (h : DataW.trod enc0 P W base (fun _ => true) held fuel t cs = some y) :
    ∃ n v0 v1 y0 y1, cs = [v0, v1] ∧ DataW.trod enc0 P W base (fun _ => true) held n f0.type [v0] = some y0 ∧ DataW.trod enc0 P W base (fun _ => true) held n f1.type [v1] = some y1 := by
  obtain ⟨xs, n, _, _, hl, hlen, hf⟩ := DataW.trod_struct ht h
  rw [hc] at hl
  match xs, hlen, cs, hl with
  | [y0, y1], _, [v0, v1], _ =>
    have h0 := hf 0 f0 rfl
    have h1 := hf 1 f1 rfl
    rw [o0, s0] at h0
    rw [o1, s1] at h1
    exact ⟨n, v0, v1, y0, y1, rfl, by simpa using h0, by simpa using h1⟩
theorem open_int1 {t : TypeId} {n : Nat} {v : Value} {y : DataW H × List MemPlace} (ht : P.underlying t = some (.int .i64)) (h : DataW.trod enc0 P W base (fun _ => true) held n t [v] = some y) : ∃ a : Int, v = .int .i64 a ∧ wfI a := by
  obtain ⟨a, ha, _, wa⟩ := DataW.trod_int ht h
  exact ⟨a, by simpa using ha, wa⟩
set_option maxRecDepth 100000 in
theorem open_case {n : Nat} {cs : List Value} {y : DataW H × List MemPlace} (h : DataW.trod enc0 Try.prog W base (fun _ => true) held n 85 cs = some y) : ∃ x : S85, k85.K W x cs ∧ RCase x := by
  obtain ⟨n, v0, v1, v2, y0, y1, y2, rfl, h0, h1, h2⟩ := open_fields3 Try.underlying85 (by kernel_rfl) rfl rfl rfl (by kernel_rfl) (by kernel_rfl) (by kernel_rfl) h
  obtain ⟨b, hb, _⟩ := DataW.trod_bool Try.underlying4 h0
  obtain ⟨c, rfl, wc⟩ := open_int1 Try.underlying3 h1
  obtain ⟨d, rfl, wd⟩ := open_int1 Try.underlying2 h2
  obtain rfl : v0 = .bool b := by simpa using hb
  exact ⟨⟨b, c, d⟩, k85_mk W _, wc, wd⟩
set_option maxRecDepth 100000 in
theorem open_op {n : Nat} {cs : List Value} {y : DataW H × List MemPlace} (h : DataW.trod enc0 Try.prog W base (fun _ => true) held n 62 cs = some y) : ∃ x : S62, k62.K W x cs ∧ ROp x := by
  obtain ⟨n, v0, v1, v2, v3, v4, y0, y1, y2, y3, y4, rfl, h0, h1, h2, h3, h4⟩ := open_fields5 Try.underlying62 (by kernel_rfl) rfl rfl rfl rfl rfl (by kernel_rfl) (by kernel_rfl) (by kernel_rfl) (by kernel_rfl) (by kernel_rfl) h
  obtain ⟨a, rfl, wa⟩ := open_int1 Try.underlying3 h0
  obtain ⟨b, rfl, wb⟩ := open_int1 Try.underlying2 h1
  obtain ⟨c, rfl, wc⟩ := open_int1 Try.underlying2 h2
  obtain ⟨d, rfl, wd⟩ := open_int1 Try.underlying2 h3
  obtain ⟨A, len, cap, hv⟩ := Go.Joins.slice_form Try.underlying60 h4
  obtain rfl : v4 = .slice A len cap := by simpa using hv
  haveI : Inhabited S85 := ⟨z85⟩
  obtain ⟨xs, rfl, hc, hC, hR⟩ := open_rowK k85 RCase Try.underlying60 (by kernel_rfl) (fun _ _ _ hz => open_case hz) h4
  exact ⟨⟨a, b, c, d, xs⟩, k62_mk W ⟨a, b, c, d, xs⟩ hc hC, wa, wb, wc, wd, hR⟩
end
end Go.Proofs.Ytjnhahdelipebaa.OpenK
