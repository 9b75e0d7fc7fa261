/- What is wrong with a program: plain words. -/
import Derived.Test.YtjnhahdelipebaaOpDef
namespace Go.Proofs.Ytjnhahdelipebaa.XA
set_option linter.unusedVariables false
set_option linter.unusedSimpArgs false
open Go.RowKit
/-- An op: kind, N, V, Wait, cases. -/
abbrev OpT := Int × Int × Int × Int × List (Bool × Int × Int)
/-- A loop that is open: what was held, its rounds, the steps ahead of it. -/
abbrev OpenT := List Int × Int × Int
def chkOpT (o : OpT) : Int := chkOp o.1 o.2.1 o.2.2.1 o.2.2.2.1 o.2.2.2.2
def lastH (h : List Int) : Int := h.getD (h.length - 1) 0
def lastO (op : List OpenT) : OpenT := op.getD (op.length - 1) ([], 0, 0)
/-- One op more; none: it may not stand here. -/
def pStep (k n wt : Int) (h : List Int) (op : List OpenT) (st : Int) : Option (List Int × List OpenT × Int) :=
  if k = 8 then (if 3 ≤ op.length then none else some (h, op ++ [(h, n, st)], 0))
  else if k = 9 then (if op.length = 0 then none else if (lastO op).1 = h then some (h, op.take (op.length - 1), wrap64 ((lastO op).2.2 + wrap64 ((lastO op).2.1 * st))) else none)
  else if k = 2 then (if 0 < h.length ∧ n ≤ lastH h then none else some (h ++ [n], op, wrap64 (st + 1)))
  else if k = 3 then (if h.length = 0 then none else if lastH h = n then some (h.take (h.length - 1), op, wrap64 (st + 1)) else none)
  else if (k = 4 ∨ k = 5 ∨ k = 7) ∧ wt ≠ 0 ∧ 0 < h.length then none else some (h, op, wrap64 (st + 1))
/-- From an op on: where it goes wrong, and how. -/
def runP : Nat → List OpT → List Int → List OpenT → Int → Int × Int
  | i, [], h, op, st => if 0 < op.length ∨ 0 < h.length then ((i : Int) - 1, 11) else if 512 < st then (0, 4) else (0, 0)
  | i, o :: l, h, op, st => match pStep o.1 o.2.1 o.2.2.2.1 h op st with
    | none => ((i : Int), 11)
    | some (h', op', st') => runP (i + 1) l h' op' st'
/-- The first op that is wrong by itself. -/
def badOp : Nat → List OpT → Option (Int × Int)
  | _, [] => none
  | i, o :: l => if chkOpT o = 0 then badOp (i + 1) l else some ((i : Int), chkOpT o)
def chkProg (l : List OpT) : Int × Int := if 48 < l.length then (0, 18) else (badOp 0 l).getD (runP 0 l [] [] 0)
theorem pStep_len {k n wt : Int} {h : List Int} {op : List OpenT} {st : Int} {h' op' st'} (e : pStep k n wt h op st = some (h', op', st')) : h'.length ≤ h.length + 1 ∧ op'.length ≤ op.length + 1 := by
  unfold pStep at e
  split at e
  · split at e
    · cases e
    · cases e; simp
  · split at e
    · split at e
      · cases e
      · split at e
        · cases e; simp; omega
        · cases e
    · split at e
      · split at e
        · cases e
        · cases e; simp
      · split at e
        · split at e
          · cases e
          · split at e
            · cases e; simp; omega
            · cases e
        · split at e
          · cases e
          · cases e; simp
end Go.Proofs.Ytjnhahdelipebaa.XA
