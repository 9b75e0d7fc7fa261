/- What stands in memory while watchbillref8.CheckProg looks at ops. -/
import Derived.Test.YtjnhahdelipebaaChkDef
import Derived.Test.YtjnhahdelipebaaXAx0
import Derived.Test.YtjnhahdelipebaaHBase
namespace Go.Proofs.Ytjnhahdelipebaa.XA
set_option linter.unusedVariables false
set_option linter.unusedSimpArgs false
open Go.RowKit Go.Proofs.YtjnhahdelipebaaW.PrintWords Go.Proofs.YtjnhahdelipebaaW.PrintLast Go.Proofs.YtjnhahdelipebaaW.PrintMore
open Go.Proofs.YtjnhahdelipebaaH (Upd Rd)
theorem tIntP : Go.Proofs.YtjnhahdelipebaaH.ElemT Try.prog 42 3 (.int .i64 0) 1 8 :=
  ⟨Try.underlying42, by
    obtain ⟨i, hi, h⟩ := info_parts (show (Try.prog.info? 3).map (fun i => (i.zero, i.size, i.bytes)) = some (some (.int .i64 0), 1, 8) by kernel_rfl)
    exact ⟨i, hi, h⟩, rfl, by decide⟩
theorem tOpenP : Go.Proofs.YtjnhahdelipebaaH.ElemT Try.prog 71 73 (.agg #[.slice none 0 0, .int .i64 0, .int .i64 0]) 3 40 :=
  ⟨Try.underlying71, by
    obtain ⟨i, hi, h⟩ := info_parts (show (Try.prog.info? 73).map (fun i => (i.zero, i.size, i.bytes)) = some (some (.agg #[.slice none 0 0, .int .i64 0, .int .i64 0]), 3, 40) by kernel_rfl)
    exact ⟨i, hi, h⟩, rfl, by decide⟩
theorem own_takeN {w : World} {base g cap n u size : Nat} {e : TypeId} {cs : List Value} (h : w.ownsRow base e size (.slice (some ⟨g, 0, none⟩) n cap) n cs) (hu : u ≤ n) : w.ownsRow base e size (.slice (some ⟨g, 0, none⟩) u cap) u (cs.take (u * size)) := by
  rcases h.2 with ⟨he, h0⟩ | ⟨g', cap', cur, he, hb, hg, hn, hm, hs, ht⟩
  · injection he with h1; cases h1
  · injection he with h1 h2 h3
    cases h1
    subst h3
    have hl : cs.length = n * size := h.1
    have hus : u * size ≤ n * size := Nat.mul_le_mul_right _ hu
    refine ⟨by rw [List.length_take]; omega, .inr ⟨g, cap, cur, rfl, hb, hg, by omega, hm, hs, ?_⟩⟩
    rw [← ht, List.take_take]
    congr 1
    omega
theorem run_uptoN {P : Program} {t e : TypeId} {z : Value} {size bytes : Nat} (T : Go.Proofs.YtjnhahdelipebaaH.ElemT P t e z size bytes) (g n cap u : Nat) (hu : u ≤ cap) (W : World) :
    (Instr.slice t (.slice (some ⟨g, 0, none⟩) n cap) none (some (.int .i64 (u : Int))) none).run P W = .ok (.slice (some ⟨g, 0, none⟩) u cap) W := by
  obtain ⟨i, hi, hz, hsz, hby⟩ := T.info
  simp [Instr.slice, run_underlying T.und, Instr.sliceBounds, run_sliceBound, show (u : Int) ≤ (cap : Int) by omega, sizeOf, run_typeInfo _ hi, hsz, Addr.add]
theorem own_form {w : World} {base n size : Nat} {e : TypeId} {v : Value} {cs : List Value} (h : w.ownsRow base e size v n cs) (hn : 0 < n) : ∃ g c, v = .slice (some ⟨g, 0, none⟩) n c ∧ n ≤ c ∧ base ≤ g ∧ g < w.heap.size := by
  rcases h.2 with ⟨_, h0⟩ | ⟨g, cap, cur, he, hb, hg, hn', _⟩
  · omega
  · exact ⟨g, cap, he, hn', hb, blk_lt hg⟩
theorem own_C {w : World} {base n : Nat} {e : TypeId} {v : Value} {xs : List Int} (h : w.ownsRow base e 1 v n (xs.map (Value.int .i64))) : ∃ A c, v = .slice A xs.length c ∧ n = xs.length ∧ xs.length ≤ c ∧ Kd.C (Kd.int .i64) w A xs.length xs := by
  have hn : n = xs.length := by have := h.1; simpa using this.symm
  subst hn
  have hR : Kd.R (Kd.int .i64) e w base (fun _ => True) v xs := Kd.R_of_own (enc := Value.int .i64) (h1 := fun _ => rfl) h (fun _ _ => trivial)
  obtain ⟨A, c, rfl⟩ := Kd.R_slice hR
  obtain ⟨-, h2, h3⟩ := Kd.R_reads' hR
  exact ⟨A, c, rfl, rfl, h2, h3⟩
theorem own_last {w : World} {base g cap n : Nat} {e : TypeId} {xs : List Int} (h : w.ownsRow base e 1 (.slice (some ⟨g, 0, none⟩) n cap) n (xs.map (Value.int .i64))) (hn : 0 < n) : w.cell? ⟨g, n - 1, none⟩ = some (.int .i64 (lastH xs)) := by
  have hl : n = xs.length := by have := h.1; simpa using this.symm
  have := h.cells (g := g) rfl (n - 1) (.int .i64 (lastH xs)) (by
    rw [List.getElem?_map, List.getElem?_eq_getElem (by omega)]
    subst hl
    simp [lastH, List.getD, show xs.length - 1 < xs.length by omega])
  rwa [add_plain] at this

/-- A frame: where what was held lies, and the loop. -/
abbrev Frm := Value × OpenT
def encF (f : Frm) : List Value := [f.1, .int .i64 f.2.2.1, .int .i64 f.2.2.2]
theorem flatF_len : ∀ fs : List Frm, (fs.flatMap encF).length = fs.length * 3
  | [] => rfl
  | f :: fs => by rw [List.flatMap_cons, List.length_append, flatF_len fs]; simp [encF]; omega
theorem flatF_get (fs : List Frm) (i j : Nat) (h : i < fs.length) (hj : j < 3) : (fs.flatMap encF)[i * 3 + j]? = (encF fs[i])[j]? := by
  have e : fs = fs.take i ++ fs[i] :: fs.drop (i + 1) := by rw [List.getElem_cons_drop, List.take_append_drop]
  have hl : ((fs.take i).flatMap encF).length = i * 3 := by rw [flatF_len, List.length_take, Nat.min_eq_left (by omega)]
  conv => lhs; rw [e, List.flatMap_append, List.flatMap_cons]
  rw [List.getElem?_append_right (by omega), hl, show i * 3 + j - i * 3 = j by omega, List.getElem?_append_left (by simpa [encF] using hj)]
theorem flatF_take (fs : List Frm) (u : Nat) (hu : u ≤ fs.length) : (fs.flatMap encF).take (u * 3) = (fs.take u).flatMap encF := by
  conv => lhs; rw [← List.take_append_drop u fs, List.flatMap_append]
  have hl : ((fs.take u).flatMap encF).length = u * 3 := by rw [flatF_len, List.length_take, Nat.min_eq_left hu]
  rw [List.take_append_of_le_length (by omega), List.take_of_length_le (by omega)]

structure ProgAt (w0 w : World) (vl vo : Value) (h : List Int) (op : List OpenT) : Prop where
  held : w.ownsRow w0.heap.size 3 1 vl h.length (h.map (Value.int .i64))
  ex : ∃ fs : List Frm, op = fs.map (·.2) ∧ w.ownsRow w0.heap.size 73 3 vo op.length (fs.flatMap encF) ∧ ∀ f ∈ fs, w.ownsRow w0.heap.size 3 1 f.1 f.2.1.length (f.2.1.map (Value.int .i64))
  below : Below w0.heap.size w0 w
theorem ProgAt.start (w : World) : ProgAt w w (.slice none 0 0) (.slice none 0 0) [] [] :=
  ⟨own_nil _ _ _ _, ⟨[], rfl, own_nil _ _ _ _, fun f hf => by cases hf⟩, Below.refl _ _⟩
theorem below_upd {w0 w w' : World} (h : Below w0.heap.size w0 w) (hu : Upd [] w w') : Below w0.heap.size w0 w' := h.trans (hu.belowB h.size (by simp))
theorem ProgAt.step {w0 w w' : World} {vl vo : Value} {h : List Int} {op : List OpenT} (k : ProgAt w0 w vl vo h op) (hu : Upd [] w w') : ProgAt w0 w' vl vo h op := by
  obtain ⟨h1, ⟨fs, h2, h3, h4⟩, h5⟩ := k
  exact ⟨Go.Proofs.YtjnhahdelipebaaH.own_keep0 h1 hu, ⟨fs, h2, Go.Proofs.YtjnhahdelipebaaH.own_keep0 h3 hu, fun f hf => Go.Proofs.YtjnhahdelipebaaH.own_keep0 (h4 f hf) hu⟩, below_upd h5 hu⟩
/-- What is held is another row. -/
theorem ProgAt.take {w0 w w' : World} {vl vo vl' : Value} {h h' : List Int} {op : List OpenT} (k : ProgAt w0 w vl vo h op) (hu : Upd [] w w') (hl : w'.ownsRow w0.heap.size 3 1 vl' h'.length (h'.map (Value.int .i64))) : ProgAt w0 w' vl' vo h' op :=
  ⟨hl, (k.step hu).ex, below_upd k.below hu⟩
theorem ProgAt.pop {w0 w : World} {vl : Value} {h : List Int} {op : List OpenT} {g c u : Nat} (k : ProgAt w0 w vl (.slice (some ⟨g, 0, none⟩) op.length c) h op) (hu : u ≤ op.length) : ProgAt w0 w vl (.slice (some ⟨g, 0, none⟩) u c) h (op.take u) := by
  obtain ⟨h1, ⟨fs, h2, h3, h4⟩, h5⟩ := k
  have hlen : op.length = fs.length := by rw [h2, List.length_map]
  refine ⟨h1, ⟨fs.take u, by rw [h2, List.map_take], ?_, fun f hf => h4 f (List.mem_of_mem_take hf)⟩, h5⟩
  have := own_takeN h3 hu
  rw [flatF_take fs u (by omega)] at this
  have e : (op.take u).length = u := by rw [List.length_take]; omega
  rw [e]
  exact this
theorem ProgAt.push {w0 w w' : World} {vl vo vo' : Value} {h : List Int} {op : List OpenT} {n st : Int} (k : ProgAt w0 w vl vo h op) (fs : List Frm) (hfs : op = fs.map (·.2)) (ho : w.ownsRow w0.heap.size 73 3 vo op.length (fs.flatMap encF)) (hf : ∀ f ∈ fs, w.ownsRow w0.heap.size 3 1 f.1 f.2.1.length (f.2.1.map (Value.int .i64)))
    (hu : Upd vo.ownBlock.toList w w') (ho' : w'.ownsRow w0.heap.size 73 3 vo' (op.length + 1) (fs.flatMap encF ++ [vl, .int .i64 n, .int .i64 st])) : ProgAt w0 w' vl vo' h (op ++ [(h, n, st)]) := by
  have hkeep : ∀ {v : Value} {m : Nat} {cs : List Value}, w.ownsRow w0.heap.size 3 1 v m cs → w'.ownsRow w0.heap.size 3 1 v m cs := by
    intro v m cs hv
    refine Go.Proofs.YtjnhahdelipebaaH.own_keep hv hu (fun x hx hmem => ?_)
    rcases own_type_ne hv ho (by decide) with h1 | h1
    · rw [h1] at hx; cases hx
    · exact h1 (hx.trans (show vo.ownBlock = some x by simpa using hmem).symm)
  have hb : ∀ x ∈ vo.ownBlock.toList, w0.heap.size ≤ x := by
    intro x hx
    exact own_base ho x (by simpa using hx)
  refine ⟨hkeep k.held, ⟨fs ++ [(vl, h, n, st)], by rw [hfs, List.map_append]; rfl, ?_, fun f hf' => ?_⟩, k.below.trans (hu.belowB k.below.size hb)⟩
  · rw [List.length_append, List.flatMap_append]
    exact ho'
  · rcases List.mem_append.1 hf' with hf' | hf'
    · exact hkeep (hf f hf')
    · simp only [List.mem_cons, List.not_mem_nil, or_false] at hf'
      subst hf'
      exact hkeep k.held
/-- The loop that is open last. -/
theorem ProgAt.last {w0 w : World} {vl vo : Value} {h : List Int} {op : List OpenT} (k : ProgAt w0 w vl vo h op) (hn : 0 < op.length) :
    ∃ g c vh, vo = .slice (some ⟨g, 0, none⟩) op.length c ∧ op.length ≤ c ∧ w.cell? ⟨g, (op.length - 1) * 3, none⟩ = some vh ∧ w.cell? ⟨g, (op.length - 1) * 3 + 1, none⟩ = some (.int .i64 (lastO op).2.1) ∧ w.cell? ⟨g, (op.length - 1) * 3 + 2, none⟩ = some (.int .i64 (lastO op).2.2) ∧ w.ownsRow w0.heap.size 3 1 vh (lastO op).1.length ((lastO op).1.map (Value.int .i64)) := by
  obtain ⟨h1, ⟨fs, h2, h3, h4⟩, h5⟩ := k
  have hlen : op.length = fs.length := by rw [h2, List.length_map]
  obtain ⟨g, c, rfl, hc, _, _⟩ := own_form h3 hn
  have hi : fs.length - 1 < fs.length := by omega
  obtain ⟨f, hf⟩ : ∃ f, f = fs[fs.length - 1] := ⟨_, rfl⟩
  have hfm : f ∈ fs := by rw [hf]; exact List.getElem_mem hi
  have hlast : lastO op = f.2 := by
    have : op.getD (op.length - 1) ([], 0, 0) = f.2 := by
      rw [hlen, h2, List.getD, List.getElem?_map, List.getElem?_eq_getElem hi, hf]
      rfl
    exact this
  have hcell : ∀ j, j < 3 → ∀ u, (encF f)[j]? = some u → w.cell? ⟨g, (op.length - 1) * 3 + j, none⟩ = some u := by
    intro j hj u hu
    have := h3.cells (g := g) rfl ((op.length - 1) * 3 + j) u (by rw [hlen, flatF_get fs _ j hi hj, ← hf]; exact hu)
    rwa [add_plain] at this
  refine ⟨g, c, f.1, rfl, hc, hcell 0 (by decide) _ rfl, ?_, ?_, ?_⟩
  · rw [hlast]; exact hcell 1 (by decide) _ rfl
  · rw [hlast]; exact hcell 2 (by decide) _ rfl
  · rw [hlast]; exact h4 f hfm
end Go.Proofs.Ytjnhahdelipebaa.XA
