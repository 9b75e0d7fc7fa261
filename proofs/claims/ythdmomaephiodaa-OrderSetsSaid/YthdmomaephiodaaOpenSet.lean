/- A set that came in (watchbillref8.Set), in the print's kinds. -/
import Derived.Test.YthdmomaephiodaaOpenK
import Derived.Lib.SmallJoins
namespace Go.Proofs.Ythdmomaephiodaa.OpenK
set_option linter.unusedVariables false
set_option linter.unusedSimpArgs false
open Go.RowKit Go.Deep Go.ChangeShapes Go.WideShapes Go.Proofs.Ythdmomaephiodaa.XA Go.Proofs.YthdmomaephiodaaW.PrintWords Go.Proofs.YthdmomaephiodaaW.PrintLast
abbrev wfI (n : Int) : Prop := (Lit.int .i64 n).wf = true
def RCase (x : S109) : Prop := wfI x.f1 ∧ wfI x.f2
def ROp (x : S92) : Prop := wfI x.f0 ∧ wfI x.f1 ∧ wfI x.f2 ∧ wfI x.f3 ∧ ∀ c ∈ x.f4, RCase c
def RChan (x : S63) : Prop := wfI x.f0 ∧ wfI x.f1
def RTask (x : S60) : Prop := x.f0.size ≤ maxLen ∧ wfI x.f1 ∧ wfI x.f2 ∧ wfI x.f3 ∧ ∀ o ∈ x.f4, ROp o
section
variable {H : Type} {enc0 : TypeId × Value → H} {P : Program} {W : World} {base : Nat} {held : Bool}
/-- A struct of five fields, one cell each. -/
theorem open_fields5 {t : TypeId} {f0 f1 f2 f3 f4 : Field} {fuel : Nat} {cs : List Value} {y : DataW H × List MemPlace} (ht : P.underlying t = some (.struct #[f0, f1, f2, f3, f4])) (hc : P.cellsOf t = 5)
    (o0 : f0.offset = 0) (o1 : f1.offset = 1) (o2 : f2.offset = 2) (o3 : f3.offset = 3) (o4 : f4.offset = 4) (s0 : P.cellsOf f0.type = 1) (s1 : P.cellsOf f1.type = 1) (s2 : P.cellsOf f2.type = 1) (s3 : P.cellsOf f3.type = 1) (s4 : P.cellsOf f4.type = 1)
    (h : DataW.trod enc0 P W base (fun _ => true) held fuel t cs = some y) :
    ∃ n v0 v1 v2 v3 v4 y0 y1 y2 y3 y4, cs = [v0, v1, v2, v3, v4] ∧ DataW.trod enc0 P W base (fun _ => true) held n f0.type [v0] = some y0 ∧ DataW.trod enc0 P W base (fun _ => true) held n f1.type [v1] = some y1 ∧ DataW.trod enc0 P W base (fun _ => true) held n f2.type [v2] = some y2 ∧ DataW.trod enc0 P W base (fun _ => true) held n f3.type [v3] = some y3 ∧ DataW.trod enc0 P W base (fun _ => true) held n f4.type [v4] = some y4 := by
  obtain ⟨xs, n, _, _, hl, hlen, hf⟩ := DataW.trod_struct ht h
  rw [hc] at hl
  match xs, hlen, cs, hl with
  | [y0, y1, y2, y3, y4], _, [v0, v1, v2, v3, v4], _ =>
    have h0 := hf 0 f0 rfl
    have h1 := hf 1 f1 rfl
    have h2 := hf 2 f2 rfl
    have h3 := hf 3 f3 rfl
    have h4 := hf 4 f4 rfl
    rw [o0, s0] at h0
    rw [o1, s1] at h1
    rw [o2, s2] at h2
    rw [o3, s3] at h3
    rw [o4, s4] at h4
    exact ⟨n, v0, v1, v2, v3, v4, y0, y1, y2, y3, y4, rfl, by simpa using h0, by simpa using h1, by simpa using h2, by simpa using h3, by simpa using h4⟩
theorem open_fields3 {t : TypeId} {f0 f1 f2 : Field} {fuel : Nat} {cs : List Value} {y : DataW H × List MemPlace} (ht : P.underlying t = some (.struct #[f0, f1, f2])) (hc : P.cellsOf t = 3)
    (o0 : f0.offset = 0) (o1 : f1.offset = 1) (o2 : f2.offset = 2) (s0 : P.cellsOf f0.type = 1) (s1 : P.cellsOf f1.type = 1) (s2 : P.cellsOf f2.type = 1)
    (h : DataW.trod enc0 P W base (fun _ => true) held fuel t cs = some y) :
    ∃ n v0 v1 v2 y0 y1 y2, cs = [v0, v1, v2] ∧ DataW.trod enc0 P W base (fun _ => true) held n f0.type [v0] = some y0 ∧ DataW.trod enc0 P W base (fun _ => true) held n f1.type [v1] = some y1 ∧ DataW.trod enc0 P W base (fun _ => true) held n f2.type [v2] = some y2 := by
  obtain ⟨xs, n, _, _, hl, hlen, hf⟩ := DataW.trod_struct ht h
  rw [hc] at hl
  match xs, hlen, cs, hl with
  | [y0, y1, y2], _, [v0, v1, v2], _ =>
    have h0 := hf 0 f0 rfl
    have h1 := hf 1 f1 rfl
    have h2 := hf 2 f2 rfl
    rw [o0, s0] at h0
    rw [o1, s1] at h1
    rw [o2, s2] at h2
    exact ⟨n, v0, v1, v2, y0, y1, y2, rfl, by simpa using h0, by simpa using h1, by simpa using h2⟩
theorem open_fields2 {t : TypeId} {f0 f1 : Field} {fuel : Nat} {cs : List Value} {y : DataW H × List MemPlace} (ht : P.underlying t = some (.struct #[f0, f1])) (hc : P.cellsOf t = 2)
    (o0 : f0.offset = 0) (o1 : f1.offset = 1) (s0 : P.cellsOf f0.type = 1) (s1 : P.cellsOf f1.type = 1)
    (h : DataW.trod enc0 P W base (fun _ => true) held fuel t cs = some y) :
    ∃ n v0 v1 y0 y1, cs = [v0, v1] ∧ DataW.trod enc0 P W base (fun _ => true) held n f0.type [v0] = some y0 ∧ DataW.trod enc0 P W base (fun _ => true) held n f1.type [v1] = some y1 := by
  obtain ⟨xs, n, _, _, hl, hlen, hf⟩ := DataW.trod_struct ht h
  rw [hc] at hl
  match xs, hlen, cs, hl with
  | [y0, y1], _, [v0, v1], _ =>
    have h0 := hf 0 f0 rfl
    have h1 := hf 1 f1 rfl
    rw [o0, s0] at h0
    rw [o1, s1] at h1
    exact ⟨n, v0, v1, y0, y1, rfl, by simpa using h0, by simpa using h1⟩
theorem open_int1 {t : TypeId} {n : Nat} {v : Value} {y : DataW H × List MemPlace} (ht : P.underlying t = some (.int .i64)) (h : DataW.trod enc0 P W base (fun _ => true) held n t [v] = some y) : ∃ a : Int, v = .int .i64 a ∧ wfI a := by
  obtain ⟨a, ha, _, wa⟩ := DataW.trod_int ht h
  exact ⟨a, by simpa using ha, wa⟩
set_option maxRecDepth 100000 in
theorem open_case {n : Nat} {cs : List Value} {y : DataW H × List MemPlace} (h : DataW.trod enc0 Try.prog W base (fun _ => true) held n 109 cs = some y) : ∃ x : S109, k109.K W x cs ∧ RCase x := by
  obtain ⟨n, v0, v1, v2, y0, y1, y2, rfl, h0, h1, h2⟩ := open_fields3 Try.underlying109 (by kernel_rfl) rfl rfl rfl (by kernel_rfl) (by kernel_rfl) (by kernel_rfl) h
  obtain ⟨b, hb, _⟩ := DataW.trod_bool Try.underlying4 h0
  obtain ⟨c, rfl, wc⟩ := open_int1 Try.underlying3 h1
  obtain ⟨d, rfl, wd⟩ := open_int1 Try.underlying2 h2
  obtain rfl : v0 = .bool b := by simpa using hb
  exact ⟨⟨b, c, d⟩, k109_mk W _, wc, wd⟩
set_option maxRecDepth 100000 in
theorem open_chan {n : Nat} {cs : List Value} {y : DataW H × List MemPlace} (h : DataW.trod enc0 Try.prog W base (fun _ => true) held n 63 cs = some y) : ∃ x : S63, k63.K W x cs ∧ RChan x := by
  obtain ⟨n, v0, v1, y0, y1, rfl, h0, h1⟩ := open_fields2 Try.underlying63 (by kernel_rfl) rfl rfl (by kernel_rfl) (by kernel_rfl) h
  obtain ⟨a, rfl, wa⟩ := open_int1 Try.underlying3 h0
  obtain ⟨b, rfl, wb⟩ := open_int1 Try.underlying3 h1
  exact ⟨⟨a, b⟩, k63_mk W _, wa, wb⟩
set_option maxRecDepth 100000 in
theorem open_op {n : Nat} {cs : List Value} {y : DataW H × List MemPlace} (h : DataW.trod enc0 Try.prog W base (fun _ => true) held n 92 cs = some y) : ∃ x : S92, k92.K W x cs ∧ ROp x := by
  obtain ⟨n, v0, v1, v2, v3, v4, y0, y1, y2, y3, y4, rfl, h0, h1, h2, h3, h4⟩ := open_fields5 Try.underlying92 (by kernel_rfl) rfl rfl rfl rfl rfl (by kernel_rfl) (by kernel_rfl) (by kernel_rfl) (by kernel_rfl) (by kernel_rfl) h
  obtain ⟨a, rfl, wa⟩ := open_int1 Try.underlying3 h0
  obtain ⟨b, rfl, wb⟩ := open_int1 Try.underlying2 h1
  obtain ⟨c, rfl, wc⟩ := open_int1 Try.underlying2 h2
  obtain ⟨d, rfl, wd⟩ := open_int1 Try.underlying2 h3
  obtain ⟨A, len, cap, hv⟩ := Go.Joins.slice_form Try.underlying90 h4
  obtain rfl : v4 = .slice A len cap := by simpa using hv
  haveI : Inhabited S109 := ⟨z109⟩
  obtain ⟨xs, rfl, hc, hC, hR⟩ := open_rowK k109 RCase Try.underlying90 (by kernel_rfl) (fun _ _ _ hz => open_case hz) h4
  exact ⟨⟨a, b, c, d, xs⟩, k92_mk W ⟨a, b, c, d, xs⟩ hc hC, wa, wb, wc, wd, hR⟩
set_option maxRecDepth 100000 in
theorem open_task {n : Nat} {cs : List Value} {y : DataW H × List MemPlace} (h : DataW.trod enc0 Try.prog W base (fun _ => true) held n 60 cs = some y) : ∃ x : S60, k60.K W x cs ∧ RTask x := by
  obtain ⟨n, v0, v1, v2, v3, v4, y0, y1, y2, y3, y4, rfl, h0, h1, h2, h3, h4⟩ := open_fields5 Try.underlying60 (by kernel_rfl) rfl rfl rfl rfl rfl (by kernel_rfl) (by kernel_rfl) (by kernel_rfl) (by kernel_rfl) (by kernel_rfl) h
  obtain ⟨s, hs, _, hsz⟩ := DataW.trod_string Try.underlying9 h0
  obtain rfl : v0 = .string s := by simpa using hs
  obtain ⟨b, rfl, wb⟩ := open_int1 Try.underlying2 h1
  obtain ⟨c, rfl, wc⟩ := open_int1 Try.underlying2 h2
  obtain ⟨d, rfl, wd⟩ := open_int1 Try.underlying2 h3
  obtain ⟨A, len, cap, hv⟩ := Go.Joins.slice_form Try.underlying58 h4
  obtain rfl : v4 = .slice A len cap := by simpa using hv
  haveI : Inhabited S92 := ⟨z92⟩
  obtain ⟨xs, rfl, hc, hC, hR⟩ := open_rowK k92 ROp Try.underlying58 (by kernel_rfl) (fun _ _ _ hz => open_op hz) h4
  exact ⟨⟨s, b, c, d, xs⟩, k60_mk W ⟨s, b, c, d, xs⟩ hc hC, hsz, wb, wc, wd, hR⟩
set_option maxRecDepth 100000 in
theorem open_set {r : Reach} {b0 : Nat} {v : Value} {d : DataW H} {p : List MemPlace} (hv : Value.okWide Try.prog W r b0 25 v) (h : DataW.Trod enc0 Try.prog W base (fun _ => true) held 25 v d p) :
    ∃ (a : Int) (A1 : Option Addr) (c1 : Nat) (cs : List S63) (A2 : Option Addr) (c2 : Nat) (ts : List S60), v = .agg #[.int .i64 a, .slice A1 cs.length c1, .slice A2 ts.length c2] ∧ wfI a ∧ cs.length ≤ c1 ∧ Kd.C k63 W A1 cs.length cs ∧ (∀ x ∈ cs, RChan x) ∧ ts.length ≤ c2 ∧ Kd.C k60 W A2 ts.length ts ∧ ∀ x ∈ ts, RTask x := by
  obtain ⟨v0, v1, v2, y0, y1, y2, n, rfl, -, -, h0, h1, h2⟩ := Go.Joins.open_agg3 Try.underlying25 (by kernel_rfl) (by kernel_rfl) hv h
  obtain ⟨a, rfl, wa⟩ := open_int1 Try.underlying3 h0
  obtain ⟨A1, l1, c1, e1⟩ := Go.Joins.slice_form Try.underlying22 h1
  obtain rfl : v1 = .slice A1 l1 c1 := by simpa using e1
  obtain ⟨A2, l2, c2, e2⟩ := Go.Joins.slice_form Try.underlying23 h2
  obtain rfl : v2 = .slice A2 l2 c2 := by simpa using e2
  haveI : Inhabited S63 := ⟨z63⟩
  haveI : Inhabited S60 := ⟨z60⟩
  obtain ⟨xs, rfl, hc, hC, hR⟩ := open_rowK k63 RChan Try.underlying22 (by kernel_rfl) (fun _ _ _ hz => open_chan hz) h1
  obtain ⟨ys, rfl, hc2, hC2, hR2⟩ := open_rowK k60 RTask Try.underlying23 (by kernel_rfl) (fun _ _ _ hz => open_task hz) h2
  exact ⟨a, A1, c1, xs, A2, c2, ys, rfl, wa, hc, hC, hR, hc2, hC2, hR2⟩
end
end Go.Proofs.Ythdmomaephiodaa.OpenK
