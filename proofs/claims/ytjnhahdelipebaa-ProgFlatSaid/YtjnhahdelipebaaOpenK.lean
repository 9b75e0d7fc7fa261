
/- Slices that came in, in the print's kinds. -/
import Derived.Test.YtjnhahdelipebaaXAx0
import Derived.Deep.Slices
import Derived.Deep.Grids
import Derived.ChangeSame
namespace Go.Proofs.Ytjnhahdelipebaa.OpenK
set_option linter.unusedVariables false
set_option linter.unusedSimpArgs false
open Go.RowKit Go.Deep Go.ChangeShapes Go.WideShapes Go.Proofs.Ytjnhahdelipebaa.XA Go.Proofs.YtjnhahdelipebaaW.PrintWords Go.Proofs.YtjnhahdelipebaaW.PrintLast

section
variable {H : Type} {enc0 : TypeId × Value → H} {P : Program} {W : World} {base : Nat} {held : Bool}

/-- A slice that came in, of whatever elements. -/
theorem open_rowK {α : Type} [Inhabited α] (d : Kd α) (R : α → Prop) {t e : TypeId} {fuel len cap : Nat} {a : Option Addr} {y : DataW H × List MemPlace} (ht : P.underlying t = some (.slice e)) (hc : P.cellsOf e = d.sz)
    (hel : ∀ n cs z, DataW.trod enc0 P W base (fun _ => true) held n e cs = some z → ∃ x : α, d.K W x cs ∧ R x)
    (h : DataW.trod enc0 P W base (fun _ => true) held fuel t [.slice a len cap] = some y) :
    ∃ xs : List α, len = xs.length ∧ xs.length ≤ cap ∧ d.C W a xs.length xs ∧ ∀ x ∈ xs, R x := by
  rcases open_slice ht h with ⟨hcs, _⟩ | ⟨x, l, c, m, n, D, Pl, hcs, _, hl, hm, hmm, _, hx⟩
  · simp at hcs
    obtain ⟨rfl, rfl, rfl⟩ := hcs
    exact ⟨[], rfl, Nat.le_refl _, Kd.C_nil _ _, fun x hx => by simp at hx⟩
  · simp at hcs
    obtain ⟨rfl, rfl, rfl⟩ := hcs
    simp only [if_true] at hmm
    subst hmm
    obtain ⟨F, hF⟩ := choose_lt (α := α) (n := m) (p := fun i u => ∃ cs', W.cells? base (x.add (i * d.sz)) d.sz = some cs' ∧ d.K W u cs' ∧ R u) (fun i hi => by
      obtain ⟨cs', h1, h2⟩ := hx i hi
      rw [hc] at h1
      obtain ⟨u, hu, hR⟩ := hel _ _ _ h2
      exact ⟨u, cs', h1, hu, hR⟩)
    have hlen : ((List.range len).map F).length = len := by simp
    refine ⟨(List.range len).map F, hlen.symm, by rw [hlen]; exact hl, ⟨rfl, by rw [hlen]; unfold maxLen at hm; omega, fun h0 => ⟨x, rfl, fun j p hj => ?_⟩⟩, fun z hz => ?_⟩
    · have hjl : j < len := by
        have := (List.getElem?_eq_some_iff.1 hj).1
        simpa using this
      obtain ⟨cs', h1, h2, h3⟩ := hF j (by omega)
      have hp : p = F j := by
        rw [List.getElem?_map, List.getElem?_range hjl] at hj
        simpa using hj.symm
      subst hp
      refine ⟨cs', d.K_len h2, h2, fun i u hu => ?_⟩
      have hil : i < d.sz := by
        have := (List.getElem?_eq_some_iff.1 hu).1
        rw [d.K_len h2] at this
        exact this
      have h4 := (World.cells?_some h1).2.2 i hil
      rw [hu] at h4
      have e : (x.add (j * d.sz)).add i = x.add (j * d.sz + i) := by
        unfold Addr.add
        split <;> split <;> simp_all <;> omega
      rw [← e]
      exact h4
    · simp only [List.mem_map, List.mem_range] at hz
      obtain ⟨i, hi, rfl⟩ := hz
      obtain ⟨_, _, _, h3⟩ := hF i (by omega)
      exact h3

/-- A struct of two whole numbers. -/
theorem open_ints2 {t : TypeId} {f0 f1 : Field} {fuel : Nat} {cs : List Value} {y : DataW H × List MemPlace} (ht : P.underlying t = some (.struct #[f0, f1])) (hc : P.cellsOf t = 2)
    (o0 : f0.offset = 0) (o1 : f1.offset = 1) (s0 : P.cellsOf f0.type = 1) (s1 : P.cellsOf f1.type = 1) (u0 : P.underlying f0.type = some (.int .i64)) (u1 : P.underlying f1.type = some (.int .i64))
    (h : DataW.trod enc0 P W base (fun _ => true) held fuel t cs = some y) :
    ∃ a b : Int, cs = [.int .i64 a, .int .i64 b] ∧ (Lit.int .i64 a).wf = true ∧ (Lit.int .i64 b).wf = true := by
  obtain ⟨y0, y1, n, -, hl, h0, h1⟩ := trod_struct2 ht h
  rw [hc] at hl
  rw [o0, s0] at h0
  rw [o1, s1] at h1
  match cs, hl with
  | [c0, c1], _ =>
    obtain ⟨a, ha, _, wa⟩ := DataW.trod_int u0 h0
    obtain ⟨b, hb, _, wb⟩ := DataW.trod_int u1 h1
    simp at ha hb
    exact ⟨a, b, by rw [ha, hb], wa, wb⟩
end
end Go.Proofs.Ytjnhahdelipebaa.OpenK
