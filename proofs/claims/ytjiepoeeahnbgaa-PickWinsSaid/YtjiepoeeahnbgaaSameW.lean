
/- Two rows of those that wait, the program's and the reference's, are compared. -/
import Derived.Test.YtjiepoeeahnbgaaWaitHas
import Derived.IntWalk
import Derived.Laws.StructEq
namespace Go.Proofs.Ytjiepoeeahnbgaa
set_option linter.unusedVariables false
set_option linter.unusedSimpArgs false
open Go.RowKit
theorem take_succ_get {q : List Wt} {k : Nat} {x : Wt} (h : q[k]? = some x) : q.take (k + 1) = q.take k ++ [x] := by
  rw [List.take_add_one, h]
  rfl
theorem enc_snoc (l : List Wt) (x : Wt) : (l ++ [x]).flatMap Wt.enc = l.flatMap Wt.enc ++ x.enc := by simp
theorem tWr : ElemT Try.prog 26 66 (.agg #[.int .i64 0, .int .i64 0, .int .i64 0, .int .i64 0]) 4 32 :=
  ⟨Try.underlying26, by
    obtain ⟨i, hi, h⟩ := info_parts (show (Try.prog.info? 66).map (fun i => (i.zero, i.size, i.bytes)) = some (some (.agg #[.int .i64 0, .int .i64 0, .int .i64 0, .int .i64 0]), 4, 32) by kernel_rfl)
    exact ⟨i, hi, h⟩, rfl, by decide⟩

/-- A new block of one element is read. -/
theorem rd_new (W : World) (cs : List Value) (e : TypeId) : Rd (W.alloc (.cells cs.toArray e)) (.slice (some ⟨W.heap.size, 0, none⟩) 1 1) 1 cs := by
  refine ⟨_, 1, rfl, Nat.le_refl _, by unfold maxLen; omega, (fun h => by cases h), Or.inr ⟨_, _, rfl, fun j u hj => ?_⟩⟩
  rw [World.cell?_alloc_at _ _ _ _ rfl]
  simpa using hj

end Go.Proofs.Ytjiepoeeahnbgaa
