
/- Rows of one's own: cut, cleared, in whole. -/
import Derived.Test.YtjiepoeeahnbgaaBase
import Derived.Laws.CopyOwn
import Derived.Lib.AppendZerosOnto
import Derived.Lib.Overlaps
namespace Go.Proofs.Ytjiepoeeahnbgaa
set_option linter.unusedVariables false
set_option linter.unusedSimpArgs false
open Go.RowKit
theorem upd_setRow {S : List Nat} {w0 w : World} (h : Upd S w0 w) (g : Nat) (cs : Array Value) (hg : g < w0.heap.size → g ∈ S) : Upd S w0 (w.setRow g cs) :=
  ⟨h.os, h.tape, h.output, by rw [size_setRow]; exact h.size, fun k hk hn => by
    by_cases hkg : k = g
    · subst hkg; exact absurd (hg hk) hn
    · rw [setRow_other w g k cs hkg]; exact h.block k hk hn⟩
theorem splice_at {A B C : List Value} {n : Nat} (h : A.length = n) : splice (A ++ B) n C = A ++ (C ++ B.drop C.length) := by
  subst h
  simp [splice, List.drop_append]
theorem own_make {w : World} {base : Nat} {e : TypeId} {size n g cap : Nat} {cs R : List Value} (hg : w.heap[g]? = some (.cells (cs ++ R).toArray e (0, 0))) (hb : base ≤ g) (hl : cs.length = n * size) (hnc : n ≤ cap) (hcm : cap ≤ maxLen) (hsz : (cs ++ R).length = cap * size) :
    w.ownsRow base e size (.slice (some ⟨g, 0, none⟩) n cap) n cs :=
  ⟨hl, .inr ⟨g, cap, (cs ++ R).toArray, rfl, hb, hg, hnc, hcm, by simpa using hsz, by rw [← hl]; simp⟩⟩
theorem run_from {P : Program} {t e : TypeId} {z : Value} {size bytes : Nat} (T : ElemT P t e z size bytes) (g n cap l : Nat) (hl : l ≤ n) (hc : ¬ (cap = l)) {L : Int} (hL : L = (l : Int)) (W : World) :
    (Instr.slice t (.slice (some ⟨g, 0, none⟩) n cap) (some (.int .i64 L)) none none).run P W = .ok (.slice (some ⟨g, l * size, none⟩) (n - l) (cap - l)) W := by
  obtain ⟨i, hi, hz, hsz, hby⟩ := T.info
  subst hL
  have ha : (⟨g, 0, none⟩ : Addr).add (l * size) = ⟨g, l * size, none⟩ := by unfold Addr.add; split <;> simp_all
  simp [Instr.slice, run_underlying T.und, Instr.sliceBounds, run_sliceBound, hl, hc, sizeOf, run_typeInfo _ hi, hsz, ha]
theorem run_upto {P : Program} {t e : TypeId} {z : Value} {size bytes : Nat} (T : ElemT P t e z size bytes) (g n cap u : Nat) (hu : u ≤ cap) {U : Int} (hU : U = (u : Int)) (W : World) :
    (Instr.slice t (.slice (some ⟨g, 0, none⟩) n cap) none (some (.int .i64 U)) none).run P W = .ok (.slice (some ⟨g, 0, none⟩) u cap) W := by
  obtain ⟨i, hi, hz, hsz, hby⟩ := T.info
  subst hU
  simp [Instr.slice, run_underlying T.und, Instr.sliceBounds, run_sliceBound, show (u : Int) ≤ (cap : Int) by omega, sizeOf, run_typeInfo _ hi, hsz, Addr.add]
theorem run_clear_n {P : Program} {t e : TypeId} {z : Value} {size bytes : Nat} (T : ElemT P t e z size bytes) (hz1 : ∀ v ∈ z.cells.toList, v.oneCell' = true) (w : World) (ty : TypeId) (g off k cap : Nat) (cur : List Value) (u : TypeId)
    (hg : w.heap[g]? = some (.cells cur.toArray u (0, 0))) (hfit : off + k * size ≤ cur.length) (hk : 0 < k) :
    (Builtin.clear_ #[t] ty #[.slice (some ⟨g, off, none⟩) k cap]).run P w = .ok (.tuple #[]) (w.setRow g (splice cur off (Builtin.zeroCells z.cells k).toList).toArray) := by
  obtain ⟨i, hi, hz, hsz, hby⟩ := T.info
  have hl : (Builtin.zeroCells z.cells k).toList.length = k * size := by rw [Array.length_toList, size_zeroCells, T.zs]
  have h1 : ∀ v ∈ (Builtin.zeroCells z.cells k).toList, v.oneCell' = true := by
    intro v hv
    simp only [Builtin.zeroCells, Array.toList_map, List.mem_map] at hv
    obtain ⟨j, hj, rfl⟩ := hv
    have hp : 0 < z.cells.size := by rw [T.zs]; exact T.pos
    have hlt := Nat.mod_lt j hp
    rw [getElem!_pos z.cells _ hlt]
    exact hz1 _ (Array.getElem_mem_toList hlt)
  have hst := run_storeCells_at (P := P) g off u (Builtin.zeroCells z.cells k).toList 0 cur.toArray w hg (by rw [hl]; simpa using hfit) h1
  have hsp : cur.take (off + 0) ++ (Builtin.zeroCells z.cells k).toList ++ cur.drop (off + 0 + (Builtin.zeroCells z.cells k).toList.length) = splice cur off (Builtin.zeroCells z.cells k).toList := by simp [splice]
  rw [List.toList_toArray, hsp] at hst
  obtain ⟨k', rfl⟩ : ∃ k', k = k' + 1 := ⟨k - 1, by omega⟩
  simp [Builtin.clear_, run_underlying T.und, zeroValue, run_typeInfo _ hi, hz, hst]
theorem own_parts' {w : World} {base : Nat} {e : TypeId} {size n : Nat} {x : Addr} {cap : Nat} {cs : List Value} (h : w.ownsRow base e size (.slice (some x) n cap) n cs) :
    ∃ R, base ≤ x.block ∧ x = ⟨x.block, 0, none⟩ ∧ n ≤ cap ∧ cap ≤ maxLen ∧ w.heap[x.block]? = some (.cells (cs ++ R).toArray e (0, 0)) ∧ cs.length = n * size ∧ (cs ++ R).length = cap * size := by
  obtain ⟨hl, h2⟩ := h
  rcases h2 with ⟨h3, h4⟩ | ⟨g, c, cur, h3, hb, hg, hnc, hcm, hsz, htk⟩
  · cases h3
  · injection h3 with h5 _ h6
    subst h6
    cases h5
    have hc : cs ++ cur.toList.drop (n * size) = cur.toList := by rw [← htk]; exact List.take_append_drop _ _
    exact ⟨cur.toList.drop (n * size), hb, rfl, hnc, hcm, by rw [hc]; exact hg, hl, by rw [hc]; simpa using hsz⟩
theorem wpl_clear {P : Program} (w : World) {ops : Array Oper} {rest : List Oper} {o : Oper} {a : Act} {Q : Exit → Act → World → Prop} (hgd : o.guard = none) (s : Operand) (t : TypeId)
    (ho : o.op = .call { callee := .builtin .clear, args := #[s], argTypes := #[t] }) {v : Value} (hs : a.eval s = v) {v' : Value} {w' : World}
    (hr : (Builtin.clear_ #[t] o.type #[v]).run P w = .ok v' w') (h : wpList P ops Q rest (a.put o.dst v') w') : wpList P ops Q (o :: rest) a w :=
  wpList_plain hgd fun K hK => by
    unfold Oper.wp execOp
    simp only [ho, resolve, invoke, builtin, Sem.run_bind, Sem.run_pure, Result.andThen_ok, List.map_toArray, List.map_cons, List.map_nil, hs, hr]
    exact hK _ _ h
theorem run_from' {P : Program} {t e : TypeId} {z : Value} {size bytes : Nat} (T : ElemT P t e z size bytes) (g n cap l : Nat) (hl : l ≤ n) {L : Int} (hL : L = (l : Int)) (W : World) :
    (Instr.slice t (.slice (some ⟨g, 0, none⟩) n cap) (some (.int .i64 L)) none none).run P W = .ok (.slice (some ⟨g, if cap = l then 0 else l * size, none⟩) (n - l) (cap - l)) W := by
  by_cases hc : cap = l
  · obtain ⟨i, hi, hz, hsz, hby⟩ := T.info
    subst hL
    rw [if_pos hc]
    simp [Instr.slice, run_underlying T.und, Instr.sliceBounds, run_sliceBound, hl, hc, sizeOf, run_typeInfo _ hi, hsz]
  · rw [if_neg hc]
    exact run_from T g n cap l hl hc hL W
end Go.Proofs.Ytjiepoeeahnbgaa
