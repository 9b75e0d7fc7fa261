/- prog.Check in plain words. -/
import Derived.Test.YtjnhahdelipebaaTakeLoop
import Derived.Test.YtjnhahdelipebaaOpCasesW
namespace Go.Proofs.Ytjnhahdelipebaa.XA
set_option linter.unusedVariables false
set_option linter.unusedSimpArgs false
open Go.RowKit Go.Proofs.YtjnhahdelipebaaW.PrintWords Go.Proofs.YtjnhahdelipebaaW.PrintLast Go.Proofs.YtjnhahdelipebaaW.PrintMore
open Go.Proofs.YtjnhahdelipebaaH (Upd Rd)
/-- An op of the program, in plain words. -/
def opTP (o : S52) : OpT := (o.f0, o.f1, o.f2, o.f3, o.f4.map tripP)
/-- From an op on: which may not stand where it stands. -/
def runQ : Nat → List OpT → List Int → List (List Int) → Option Int
  | i, [], h, fs => if 0 < fs.length ∨ 0 < h.length then some ((i : Int) - 1) else none
  | i, o :: l, h, fs => match tStep o.1 o.2.1 o.2.2.2.1 h fs with
    | none => some (i : Int)
    | some (h', fs') => runQ (i + 1) l h' fs'
def chkProgP (l : List OpT) (st : Int) : Int × Int := if 48 < l.length then (0, 18) else (badOp 0 l).getD (match runQ 0 l [] [] with | some i => (i, 11) | none => if 512 < st then (0, 4) else (0, 0))
theorem tStep_len {k n wt : Int} {h : List Int} {fs : List (List Int)} {p} (e : tStep k n wt h fs = some p) : p.1.length ≤ h.length + 1 ∧ p.2.length ≤ fs.length + 1 := by
  unfold tStep at e
  (repeat' split at e) <;> first | (cases e; done) | (cases e; constructor <;> simp <;> omega)
theorem OrdAt.start {w0 w : World} (hB : Below w0.heap.size w0 w) : OrdAt w0 (w.alloc (.cells #[.slice none 0 0, .slice none 0 0] 68)) w.heap.size (.slice none 0 0) (.slice none 0 0) [] [] :=
  ⟨heap_alloc_new w _, hB.size, own_nil _ _ _ _, own_nil _ _ _ _, (fun f hf => by cases hf), below_alloc hB _⟩
end Go.Proofs.Ytjnhahdelipebaa.XA
