/- What a timer holds: who is due, and how many ticks behind the one ahead. Copies of rows whose elements have several cells. -/
import Derived.Test.YtkmjeadnkndhbaaBase
import Derived.Laws.CopyOwn
import Derived.Lib.AppendZerosOnto
import Derived.Lib.Overlaps
namespace Go.Proofs.Ytkmjeadnkndhbaa
set_option linter.unusedVariables false
set_option linter.unusedSimpArgs false
open Go.RowKit

structure Due where
  id : Int
  more : Int
instance : Inhabited Due := ⟨⟨0, 0⟩⟩
def Due.enc (x : Due) : List Value := [.int .i64 x.id, .int .i64 x.more]
theorem Due.enc_len (x : Due) : x.enc.length = 2 := rfl
theorem Due.one (xs : List Due) : ∀ u ∈ xs.flatMap Due.enc, u.oneCell' = true := by
  intro u hu
  obtain ⟨x, _, hx⟩ := List.mem_flatMap.1 hu
  simp only [Due.enc, List.mem_cons, List.not_mem_nil, or_false] at hx
  rcases hx with rfl | rfl <;> rfl
theorem Due.one1 (x : Due) : ∀ u ∈ x.enc, u.oneCell' = true := fun u hu => Due.one [x] u (by simpa using hu)
theorem addr_off (b o j : Nat) : (⟨b, o, none⟩ : Addr).add j = ⟨b, o + j, none⟩ := by unfold Addr.add; split <;> simp_all
theorem addr_off0 (b j : Nat) : (⟨b, 0, none⟩ : Addr).add j = ⟨b, j, none⟩ := by unfold Addr.add; split <;> simp_all
theorem due_len (xs : List Due) : (xs.flatMap Due.enc).length = xs.length * 2 := by
  induction xs with
  | nil => rfl
  | cons x l ih => rw [List.flatMap_cons, List.length_append, ih, Due.enc_len, List.length_cons]; omega

theorem due_info : (Try.prog.info? 55).map (fun i => (i.zero, i.size, i.bytes)) = some (some (.agg #[.int .i64 0, .int .i64 0]), 2, 16) := by kernel_rfl
theorem tDue : ElemT Try.prog 51 55 (.agg #[.int .i64 0, .int .i64 0]) 2 16 :=
  ⟨Try.underlying51, by
    obtain ⟨i, hi, h⟩ := info_parts due_info
    exact ⟨i, hi, h⟩, rfl, by omega⟩

/-- copy of elements of so many cells into a row that is known whole. -/
theorem run_copy_n {P : Program} {t e : TypeId} {z : Value} {size bytes : Nat} (T : ElemT P t e z size bytes) (w : World) (ty : TypeId) (g off dLen dCap : Nat) (ad : Addr) (sLen sCap : Nat) (cur : List Value) (u : TypeId) (cs : List Value)
    (hg : w.heap[g]? = some (.cells cur.toArray u (0, 0))) (hn : cs.length = Nat.min sLen dLen * size) (hsrc : ∀ j v, cs[j]? = some v → w.cell? (ad.add j) = some v) (hfit : off + cs.length ≤ cur.length) (h1 : ∀ v ∈ cs, v.oneCell' = true) :
    (Builtin.copy_ #[t, t] ty #[.slice (some ⟨g, off, none⟩) dLen dCap, .slice (some ad) sLen sCap]).run P w = .ok (goInt (Nat.min sLen dLen)) (w.setRow g (splice cur off cs).toArray) := by
  have hl := run_loadCells_list (P := P) w ad cs hsrc
  rw [hn] at hl
  have hst := run_storeCells_at (P := P) g off u cs 0 cur.toArray w hg (by simpa using hfit) h1
  obtain ⟨i, hi, hz, hsz, hby⟩ := T.info
  have hsp : cur.take (off + 0) ++ cs ++ cur.drop (off + 0 + cs.length) = splice cur off cs := by simp [splice]
  rw [List.toList_toArray, hsp] at hst
  simp [Builtin.copy_, run_underlying T.und, Builtin.lenOf, Builtin.firstCells, sizeOf, typeInfo, hi, hsz, hl, hst]

theorem upd_setRow {S : List Nat} {w0 w : World} (h : Upd S w0 w) (g : Nat) (cs : Array Value) (hg : g < w0.heap.size → g ∈ S) : Upd S w0 (w.setRow g cs) :=
  ⟨h.os, h.tape, h.output, by rw [size_setRow]; exact h.size, fun k hk hn => by
    by_cases hkg : k = g
    · subst hkg; exact absurd (hg hk) hn
    · rw [setRow_other w g k cs hkg]; exact h.block k hk hn⟩

/-- A copy whose run is known by an equation, at the head of a list of operations, and as a step of a region that draws its order. -/
theorem wpl_copy {P : Program} (w : World) {ops : Array Oper} {rest : List Oper} {o : Oper} {a : Act} {Q : Exit → Act → World → Prop} (hgd : o.guard = none) (d s : Operand) (t t' : TypeId)
    (ho : o.op = .call { callee := .builtin .copy, args := #[d, s], argTypes := #[t, t'] }) {v u : Value} (hd : a.eval d = v) (hs : a.eval s = u) {v' : Value} {w' : World}
    (hr : (Builtin.copy_ #[t, t'] o.type #[v, u]).run P w = .ok v' w') (h : wpList P ops Q rest (a.put o.dst v') w') : wpList P ops Q (o :: rest) a w :=
  wpList_plain hgd fun K hK => by
    unfold Oper.wp execOp
    simp only [ho, resolve, invoke, builtin, Sem.run_bind, Sem.run_pure, Result.andThen_ok, List.map_toArray, List.map_cons, List.map_nil, hd, hs, hr]
    exact hK _ _ h
theorem step_cp {P : Program} {ops : Array Oper} {o : Oper} {a : Act} {w : World} {K : Act → World → Prop} {Q : Exit → Act → World → Prop} {E : Prop}
    (hg : o.guard = none) (d x : Operand) (dT sT : TypeId) (hop : o.op = Op.call { callee := Callee.builtin Builtin.copy, args := #[d, x], argTypes := #[dT, sT] })
    {v u : Value} (hd : a.eval d = v) (hx : a.eval x = u) {v' : Value} {w' : World} (hr : (Builtin.copy_ #[dT, sT] o.type #[v, u]).run P w = .ok v' w') (hK : K (a.put o.dst v') w') :
    if Region.wanted o (yielded ops a.tmps) = true then Oper.wp P o a w K Q else E := by
  have hw : Region.wanted o (yielded ops a.tmps) = true := by simp [Region.wanted, hg]
  rw [if_pos hw]
  unfold Oper.wp
  simp [execOp, hop, resolve, invoke, builtin, hd, hx, hr, Result.andThen]
  exact hK

theorem splice_at {A B C : List Value} {n : Nat} (h : A.length = n) : splice (A ++ B) n C = A ++ (C ++ B.drop C.length) := by
  subst h
  simp [splice, List.drop_append]

/-- An own row that is not empty, its block at hand. -/
theorem own_parts {w : World} {base : Nat} {e : TypeId} {size n : Nat} {a : Option Addr} {cap : Nat} {cs : List Value} (h : w.ownsRow base e size (.slice a n cap) n cs) (hn : 0 < n) :
    ∃ g R, a = some ⟨g, 0, none⟩ ∧ base ≤ g ∧ n ≤ cap ∧ cap ≤ maxLen ∧ w.heap[g]? = some (.cells (cs ++ R).toArray e (0, 0)) ∧ cs.length = n * size ∧ (cs ++ R).length = cap * size := by
  obtain ⟨hl, h2⟩ := h
  rcases h2 with ⟨h3, h4⟩ | ⟨g, c, cur, h3, hb, hg, hnc, hcm, hsz, htk⟩
  · omega
  · injection h3 with h5 _ h6
    subst h6
    have hc : cs ++ cur.toList.drop (n * size) = cur.toList := by rw [← htk]; exact List.take_append_drop _ _
    exact ⟨g, cur.toList.drop (n * size), h5, hb, hnc, hcm, by rw [hc]; exact hg, hl, by rw [hc]; simpa using hsz⟩
theorem own_make {w : World} {base : Nat} {e : TypeId} {size n g cap : Nat} {cs R : List Value} (hg : w.heap[g]? = some (.cells (cs ++ R).toArray e (0, 0))) (hb : base ≤ g) (hl : cs.length = n * size) (hnc : n ≤ cap) (hcm : cap ≤ maxLen) (hsz : (cs ++ R).length = cap * size) :
    w.ownsRow base e size (.slice (some ⟨g, 0, none⟩) n cap) n cs :=
  ⟨hl, .inr ⟨g, cap, (cs ++ R).toArray, rfl, hb, hg, hnc, hcm, by simpa using hsz, by rw [← hl]; simp⟩⟩

/-- s[l:] and s[:u] of a row of the call's own. -/
theorem run_from {P : Program} {t e : TypeId} {z : Value} {size bytes : Nat} (T : ElemT P t e z size bytes) (g n cap l : Nat) (hl : l ≤ n) (hc : ¬ (cap = l)) {L : Int} (hL : L = (l : Int)) (W : World) :
    (Instr.slice t (.slice (some ⟨g, 0, none⟩) n cap) (some (.int .i64 L)) none none).run P W = .ok (.slice (some ⟨g, l * size, none⟩) (n - l) (cap - l)) W := by
  obtain ⟨i, hi, hz, hsz, hby⟩ := T.info
  subst hL
  have ha : (⟨g, 0, none⟩ : Addr).add (l * size) = ⟨g, l * size, none⟩ := by unfold Addr.add; split <;> simp_all
  simp [Instr.slice, run_underlying T.und, Instr.sliceBounds, run_sliceBound, hl, hc, sizeOf, run_typeInfo _ hi, hsz, ha]
theorem run_upto {P : Program} {t e : TypeId} {z : Value} {size bytes : Nat} (T : ElemT P t e z size bytes) (g n cap u : Nat) (hu : u ≤ cap) {U : Int} (hU : U = (u : Int)) (W : World) :
    (Instr.slice t (.slice (some ⟨g, 0, none⟩) n cap) none (some (.int .i64 U)) none).run P W = .ok (.slice (some ⟨g, 0, none⟩) u cap) W := by
  obtain ⟨i, hi, hz, hsz, hby⟩ := T.info
  subst hU
  simp [Instr.slice, run_underlying T.und, Instr.sliceBounds, run_sliceBound, show (u : Int) ≤ (cap : Int) by omega, sizeOf, run_typeInfo _ hi, hsz, Addr.add]
end Go.Proofs.Ytkmjeadnkndhbaa
