/- Slices that came in, their elements of whatever type: what is read of them. -/
import Derived.Test.YthchclhleppdhaaBase
import Derived.Deep.Slices
import Derived.Deep.Grids
namespace Go.Proofs.Ythchclhleppdhaa
set_option linter.unusedVariables false
set_option linter.unusedSimpArgs false
open Go.RowKit Go.Deep Go.ChangeShapes Go.WideShapes

theorem spot_none {w : World} {x : Addr} {v : Value} (h : w.cell? x = some v) : x.spot = none := by
  unfold World.cell? at h
  split at h
  · split at h
    · cases h
    · rename_i hn
      simpa using hn
  · cases h
theorem add_off (b o i : Nat) : (⟨b, o, none⟩ : Addr).add i = ⟨b, o + i, none⟩ := by unfold Addr.add; split <;> simp_all
theorem add_none (x : Addr) : x.add 0 = x := by simp [Addr.add]

/-- A row of elements, each of so many cells, is read. -/
theorem Rd.of_rows {α : Type} {W : World} {cap size : Nat} (enc : α → List Value) (hs : ∀ x, (enc x).length = size) (hpos : 0 < size) (xs : List α) (x : Addr) (hl : xs.length ≤ cap) (hm : cap ≤ maxLen)
    (hc : ∀ i (h : i < xs.length) f, f < size → W.cell? ((x.add (i * size)).add f) = (enc xs[i])[f]?) : Rd W (.slice (some x) xs.length cap) xs.length (xs.flatMap enc) := by
  refine ⟨_, cap, rfl, hl, hm, (fun h => by cases h), ?_⟩
  rcases Nat.eq_zero_or_pos xs.length with h0 | h0
  · exact .inl ⟨h0, by rw [List.eq_nil_of_length_eq_zero h0]; rfl⟩
  · have c0 := hc 0 h0 0 hpos
    rw [List.getElem?_eq_getElem (by rw [hs]; exact hpos)] at c0
    rw [Nat.zero_mul, add_none, add_none] at c0
    have hsp := spot_none c0
    obtain ⟨b, off, spot⟩ := x
    simp only at hsp
    subst hsp
    refine .inr ⟨b, off, rfl, fun j u hj => ?_⟩
    have hlen : ∀ ys : List α, (ys.flatMap enc).length = ys.length * size := by
      intro ys
      induction ys with
      | nil => simp
      | cons y l ih => rw [List.flatMap_cons, List.length_append, ih, hs, List.length_cons, Nat.succ_mul]; omega
    have hjl : j < xs.length * size := by
      have := (List.getElem?_eq_some_iff.1 hj).1
      rwa [hlen] at this
    have hi : j / size < xs.length := Nat.div_lt_of_lt_mul (by rwa [Nat.mul_comm])
    have hf : j % size < size := Nat.mod_lt _ hpos
    have hg : ∀ (ys : List α) (i f : Nat) (h : i < ys.length), f < size → (ys.flatMap enc)[i * size + f]? = (enc ys[i])[f]? := by
      intro ys
      induction ys with
      | nil => intro i f h; simp at h
      | cons y l ih =>
        intro i f h hf
        cases i with
        | zero => simp only [Nat.zero_mul, Nat.zero_add, List.flatMap_cons, List.getElem_cons_zero]; rw [List.getElem?_append_left (by rw [hs]; exact hf)]
        | succ i =>
          rw [List.flatMap_cons, List.getElem?_append_right (by rw [hs, Nat.succ_mul]; omega), hs, show (i + 1) * size + f - size = i * size + f by rw [Nat.succ_mul]; omega, ih i f (by rw [List.length_cons] at h; omega) hf]
          rfl
    have hjj : j = j / size * size + j % size := by rw [Nat.mul_comm]; exact (Nat.div_add_mod j size).symm
    have key := hc (j / size) hi (j % size) hf
    rw [← hg xs _ _ hi hf, ← hjj, hj] at key
    have e2 : ((⟨b, off, none⟩ : Addr).add (j / size * size)).add (j % size) = ⟨b, off + j, none⟩ := by
      rw [add_off, add_off, Nat.add_assoc, ← hjj]
    rw [e2] at key
    exact key

theorem flat_one {k : IntKind} (xs : List Int) : xs.flatMap (fun n : Int => [Value.int k n]) = xs.map (Value.int k) := by
  induction xs with
  | nil => rfl
  | cons x l ih => rw [List.flatMap_cons, ih]; rfl
section
variable {H : Type} {enc0 : TypeId × Value → H} {P : Program} {W : World} {base : Nat} {held : Bool}

/-- A slice that came in, of whatever elements. -/
theorem open_row {α : Type} [Inhabited α] {t e : TypeId} {size fuel len cap : Nat} {a : Option Addr} {y : DataW H × List MemPlace} (enc : α → List Value) (R : α → Prop) (hs : ∀ x, (enc x).length = size) (hpos : 0 < size)
    (ht : P.underlying t = some (.slice e)) (hc : P.cellsOf e = size)
    (hel : ∀ n cs z, DataW.trod enc0 P W base (fun _ => true) held n e cs = some z → ∃ x : α, cs = enc x ∧ R x)
    (h : DataW.trod enc0 P W base (fun _ => true) held fuel t [.slice a len cap] = some y) :
    ∃ xs : List α, len = xs.length ∧ Rd W (.slice a xs.length cap) xs.length (xs.flatMap enc) ∧ ∀ x ∈ xs, R x := by
  rcases open_slice ht h with ⟨hcs, _⟩ | ⟨x, l, c, m, n, D, Pl, hcs, _, hl, hm, hmm, _, hx⟩
  · simp at hcs
    obtain ⟨rfl, rfl, rfl⟩ := hcs
    exact ⟨[], rfl, Rd.nil W, fun x hx => by simp at hx⟩
  · simp at hcs
    obtain ⟨rfl, rfl, rfl⟩ := hcs
    simp only [if_true] at hmm
    subst hmm
    obtain ⟨F, hF⟩ := choose_lt (α := α) (n := m) (p := fun i u => W.cells? base (x.add (i * size)) size = some (enc u) ∧ R u) (fun i hi => by
      obtain ⟨cs', h1, h2⟩ := hx i hi
      rw [hc] at h1
      obtain ⟨u, rfl, hu⟩ := hel _ _ _ h2
      exact ⟨u, h1, hu⟩)
    have hlen : ((List.range len).map F).length = len := by simp
    refine ⟨(List.range len).map F, hlen.symm, Rd.of_rows enc hs hpos _ x (by rw [hlen]; exact hl) hm (fun i hi f hf => ?_), fun z hz => ?_⟩
    · have hil : i < len := by simpa using hi
      have := (World.cells?_some (hF i (by omega)).1).2.2 f hf
      rw [this]
      simp
    · simp only [List.mem_map, List.mem_range] at hz
      obtain ⟨i, hi, rfl⟩ := hz
      exact (hF i (by omega)).2
/-- A value of a slice type is a slice. -/
theorem open_slice_val {t e : TypeId} {fuel : Nat} {cs : List Value} {y : DataW H × List MemPlace} (ht : P.underlying t = some (.slice e)) (h : DataW.trod enc0 P W base (fun _ => true) held fuel t cs = some y) :
    ∃ a len cap, cs = [.slice a len cap] := by
  rcases open_slice ht h with ⟨rfl, _⟩ | ⟨x, l, c, m, n, D, Pl, rfl, _⟩
  · exact ⟨_, _, _, rfl⟩
  · exact ⟨_, _, _, rfl⟩
/-- A slice of whole numbers within what came in. -/
theorem open_int_row {t e : TypeId} {k : IntKind} {fuel : Nat} {cs : List Value} {y : DataW H × List MemPlace} (ht : P.underlying t = some (.slice e)) (he : P.underlying e = some (.int k)) (hc : P.cellsOf e = 1) (h : DataW.trod enc0 P W base (fun _ => true) held fuel t cs = some y) :
    ∃ (a : Option Addr) (cap : Nat) (xs : List Int), cs = [.slice a xs.length cap] ∧ Rd W (.slice a xs.length cap) xs.length (xs.map (Value.int k)) ∧ ∀ n ∈ xs, (Lit.int k n).wf = true := by
  obtain ⟨a, len, cap, rfl⟩ := open_slice_val ht h
  obtain ⟨xs, rfl, hr, hw⟩ := open_row (enc0 := enc0) (fun n : Int => [Value.int k n]) (fun n => (Lit.int k n).wf = true) (fun _ => rfl) Nat.one_pos ht hc (fun n cs z hz => by
    obtain ⟨m, rfl, _, hm⟩ := DataW.trod_int he hz
    exact ⟨m, rfl, hm⟩) h
  refine ⟨a, cap, xs, rfl, ?_, hw⟩
  rwa [flat_one xs] at hr
/-- A struct of four fields, the first three one cell each. -/
theorem open_fields4 {t : TypeId} {f0 f1 f2 f3 : Field} {fuel : Nat} {cs : List Value} {y : DataW H × List MemPlace} (ht : P.underlying t = some (.struct #[f0, f1, f2, f3])) (hc : P.cellsOf t = 4)
    (o0 : f0.offset = 0) (o1 : f1.offset = 1) (o2 : f2.offset = 2) (o3 : f3.offset = 3) (s0 : P.cellsOf f0.type = 1) (s1 : P.cellsOf f1.type = 1) (s2 : P.cellsOf f2.type = 1) (s3 : P.cellsOf f3.type = 1)
    (h : DataW.trod enc0 P W base (fun _ => true) held fuel t cs = some y) :
    ∃ n v0 v1 v2 v3 y0 y1 y2 y3, cs = [v0, v1, v2, v3] ∧ DataW.trod enc0 P W base (fun _ => true) held n f0.type [v0] = some y0 ∧ DataW.trod enc0 P W base (fun _ => true) held n f1.type [v1] = some y1 ∧ DataW.trod enc0 P W base (fun _ => true) held n f2.type [v2] = some y2 ∧ DataW.trod enc0 P W base (fun _ => true) held n f3.type [v3] = some y3 := by
  obtain ⟨xs, n, _, _, hl, hlen, hf⟩ := DataW.trod_struct ht h
  rw [hc] at hl
  match xs, hlen, cs, hl with
  | [y0, y1, y2, y3], _, [v0, v1, v2, v3], _ =>
    have h0 := hf 0 f0 rfl
    have h1 := hf 1 f1 rfl
    have h2 := hf 2 f2 rfl
    have h3 := hf 3 f3 rfl
    rw [o0, s0] at h0
    rw [o1, s1] at h1
    rw [o2, s2] at h2
    rw [o3, s3] at h3
    exact ⟨n, v0, v1, v2, v3, y0, y1, y2, y3, rfl, by simpa using h0, by simpa using h1, by simpa using h2, by simpa using h3⟩
end
end Go.Proofs.Ythchclhleppdhaa
