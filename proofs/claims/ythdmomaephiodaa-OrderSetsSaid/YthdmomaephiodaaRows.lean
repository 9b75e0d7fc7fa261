/-
  No cell of these rows narrows 'for every input' (looked for: loops, veiled, ifaces, maps, wideKeys, modest, calm, conditions, laid).
  DERIVED. THE GIVEN ROWS OF THIS SEAT. 4 by the template 'for every input the law returns true; each argument reads behind the call as it read before'; 0 by the template 'total and deterministic' (their statements: YthdmomaephiodaaTotals.lean).
  GIVEN WITH THE SEED: the statements are not yours to turn. If you find one false, say at which input.
  Laid BY PROGRAM, IN A SANDBOX (cutbox-rows.mjs): the forced cells as the released guide's own fill.sh prints them over the translation 90865a4fac0d1074… (all of the seat's roots in one cut). By AI agents, Wed Nov 11 2026. No macro, syntax, notation, axiom, sorry.
-/
import Derived.Test.YthdmomaephiodaaChecked
import GoSem.Claim
import GoSem.ClaimJoined
import GoSem.ClaimMapViews
import Derived.JoinedTies
import Derived.KernelRfl
namespace Go.Proofs.Ythdmomaephiodaa
/- THE CELL 'sum', in the pinned program and in every row, IS THE sha256 OF THE DUMP (.gsa) THAT YthdmomaephiodaaProg.lean LOADS. Nothing in Lean hashes anything: it is a label: what it is worth is what the hold of that sum in a sandbox is worth. -/
noncomputable def Try.pinned : Pinned := { name := "ythdmomaephiodaa", sum := "90865a4fac0d10741cdfc81ca4dadf6782428bec604e4ca34930089afc18113d", checked := Try.checked }
namespace Rows
def none {H : Type} : Left H := { results := [], args := [] }

/-- 'watchbilllaw9.OrderSets': WHATEVER THE INPUT: true; the input reads as it did. -/
def orderSetsSpec : ChangeSpec := { name := "orderSets", fn := fun _ => fun
  | [d1, d2] => { results := [.lit (.bool true)], args := [d1, d2] }
  | _ => none }
def orderSetsRow : OpenClaim := { program := "ythdmomaephiodaa", sum := "90865a4fac0d10741cdfc81ca4dadf6782428bec604e4ca34930089afc18113d", func := "watchbill/watchbilllaw9.OrderSets", spec := "orderSets", unfollowed := true, recurses := true, apart := false }
def OrderSetsSaid : Prop := orderSetsRow.holds Try.pinned (OpenSpec.ofChange orderSetsSpec)

/-- ITS FALSE NEIGHBOUR: 'it returns false'. Refute it at one input. -/
def orderSetsWrong : ChangeSpec := { name := "orderSets", fn := fun _ => fun
  | [d1, d2] => { results := [.lit (.bool false)], args := [d1, d2] }
  | _ => none }
def OrderSetsWrongFalsely : Prop := orderSetsRow.holds Try.pinned (OpenSpec.ofChange orderSetsWrong)

/-- 'watchbilllaw9.OrderDeadlines': WHATEVER THE INPUT: true; the input reads as it did. -/
def orderDeadlinesSpec : ChangeSpec := { name := "orderDeadlines", fn := fun _ => fun
  | [d] => { results := [.lit (.bool true)], args := [d] }
  | _ => none }
def orderDeadlinesRow : OpenClaim := { program := "ythdmomaephiodaa", sum := "90865a4fac0d10741cdfc81ca4dadf6782428bec604e4ca34930089afc18113d", func := "watchbill/watchbilllaw9.OrderDeadlines", spec := "orderDeadlines", unfollowed := true, recurses := true, apart := false }
def OrderDeadlinesSaid : Prop := orderDeadlinesRow.holds Try.pinned (OpenSpec.ofChange orderDeadlinesSpec)

/-- ITS FALSE NEIGHBOUR: 'it returns false'. Refute it at one input. -/
def orderDeadlinesWrong : ChangeSpec := { name := "orderDeadlines", fn := fun _ => fun
  | [d] => { results := [.lit (.bool false)], args := [d] }
  | _ => none }
def OrderDeadlinesWrongFalsely : Prop := orderDeadlinesRow.holds Try.pinned (OpenSpec.ofChange orderDeadlinesWrong)

/-- 'watchbilllaw9.OrderMoves': WHATEVER THE INPUT: true; the input reads as it did. -/
def orderMovesSpec : ChangeSpec := { name := "orderMoves", fn := fun _ => fun
  | [d1, d2, d3] => { results := [.lit (.bool true)], args := [d1, d2, d3] }
  | _ => none }
def orderMovesRow : OpenClaim := { program := "ythdmomaephiodaa", sum := "90865a4fac0d10741cdfc81ca4dadf6782428bec604e4ca34930089afc18113d", func := "watchbill/watchbilllaw9.OrderMoves", spec := "orderMoves", unfollowed := true, recurses := true, apart := false }
def OrderMovesSaid : Prop := orderMovesRow.holds Try.pinned (OpenSpec.ofChange orderMovesSpec)

/-- ITS FALSE NEIGHBOUR: 'it returns false'. Refute it at one input. -/
def orderMovesWrong : ChangeSpec := { name := "orderMoves", fn := fun _ => fun
  | [d1, d2, d3] => { results := [.lit (.bool false)], args := [d1, d2, d3] }
  | _ => none }
def OrderMovesWrongFalsely : Prop := orderMovesRow.holds Try.pinned (OpenSpec.ofChange orderMovesWrong)

/-- 'watchbilllaw9.OrderHeaps': WHATEVER THE INPUT: true; the input reads as it did. -/
def orderHeapsSpec : ChangeSpec := { name := "orderHeaps", fn := fun _ => fun
  | [d] => { results := [.lit (.bool true)], args := [d] }
  | _ => none }
def orderHeapsRow : OpenClaim := { program := "ythdmomaephiodaa", sum := "90865a4fac0d10741cdfc81ca4dadf6782428bec604e4ca34930089afc18113d", func := "watchbill/watchbilllaw9.OrderHeaps", spec := "orderHeaps", unfollowed := true, recurses := true, apart := false }
def OrderHeapsSaid : Prop := orderHeapsRow.holds Try.pinned (OpenSpec.ofChange orderHeapsSpec)

/-- ITS FALSE NEIGHBOUR: 'it returns false'. Refute it at one input. -/
def orderHeapsWrong : ChangeSpec := { name := "orderHeaps", fn := fun _ => fun
  | [d] => { results := [.lit (.bool false)], args := [d] }
  | _ => none }
def OrderHeapsWrongFalsely : Prop := orderHeapsRow.holds Try.pinned (OpenSpec.ofChange orderHeapsWrong)

/- THE SECOND FORM. 'bulk': how many values and letters a reading holds, each counted each time it is reached (what is shared counts as often as it is met; a slice's spare places count too). A statement '..UptoSaid' is the law's where the arguments, and the package variables that the reading takes, are together of bulk at most 1048576: NARROWER than '..Said'. Prove '..Said' where nothing that the law and all that it calls make is longer than what came in: it says more and counts as full. Else prove '..UptoSaid'. A law counts once. -/
mutual
def uptoBulk {H : Type} : DataW H → Nat
  | .lit (.string bytes) => bytes.length + 1
  | .lit _ => 1
  | .nil => 1
  | .ptr d => uptoBulk d + 1
  | .slice elems spare => uptoBulkAll elems + uptoBulkAll spare + 1
  | .agg parts => uptoBulkAll parts + 1
  | .iface _ d => uptoBulk d + 1
  | .map entries => uptoBulkEntries entries + 1
  | .held _ => 1
def uptoBulkAll {H : Type} : List (DataW H) → Nat
  | [] => 0
  | d :: r => uptoBulk d + uptoBulkAll r
def uptoBulkEntries {H : Type} : List (Lit × DataW H) → Nat
  | [] => 0
  | x :: r => uptoBulkEntry x + uptoBulkEntries r
def uptoBulkEntry {H : Type} : Lit × DataW H → Nat
  | (.string bytes, d) => bytes.length + uptoBulk d + 1
  | (_, d) => uptoBulk d + 1
 end
def uptoSmall : (H : Type) → List (DataW H) → Bool := fun _ ds => decide (uptoBulkAll ds ≤ 1048576)
def OpenSpec.upto (s : _root_.Go.ChangeSpec) : _root_.Go.OpenSpec := { _root_.Go.OpenSpec.ofChange s with cond := some uptoSmall }

/-- 'watchbilllaw9.OrderSets', WHERE WHAT IT READS IS OF BULK AT MOST 1048576: true; the input reads as it did. -/
def orderSetsUptoRow : OpenClaim := { program := "ythdmomaephiodaa", sum := "90865a4fac0d10741cdfc81ca4dadf6782428bec604e4ca34930089afc18113d", func := "watchbill/watchbilllaw9.OrderSets", spec := "orderSets", unfollowed := true, recurses := true, apart := false, narrowed := true }
def OrderSetsUptoSaid : Prop := orderSetsUptoRow.holds Try.pinned (OpenSpec.upto orderSetsSpec)

/-- 'watchbilllaw9.OrderDeadlines', WHERE WHAT IT READS IS OF BULK AT MOST 1048576: true; the input reads as it did. -/
def orderDeadlinesUptoRow : OpenClaim := { program := "ythdmomaephiodaa", sum := "90865a4fac0d10741cdfc81ca4dadf6782428bec604e4ca34930089afc18113d", func := "watchbill/watchbilllaw9.OrderDeadlines", spec := "orderDeadlines", unfollowed := true, recurses := true, apart := false, narrowed := true }
def OrderDeadlinesUptoSaid : Prop := orderDeadlinesUptoRow.holds Try.pinned (OpenSpec.upto orderDeadlinesSpec)

/-- 'watchbilllaw9.OrderMoves', WHERE WHAT IT READS IS OF BULK AT MOST 1048576: true; the input reads as it did. -/
def orderMovesUptoRow : OpenClaim := { program := "ythdmomaephiodaa", sum := "90865a4fac0d10741cdfc81ca4dadf6782428bec604e4ca34930089afc18113d", func := "watchbill/watchbilllaw9.OrderMoves", spec := "orderMoves", unfollowed := true, recurses := true, apart := false, narrowed := true }
def OrderMovesUptoSaid : Prop := orderMovesUptoRow.holds Try.pinned (OpenSpec.upto orderMovesSpec)

/-- 'watchbilllaw9.OrderHeaps', WHERE WHAT IT READS IS OF BULK AT MOST 1048576: true; the input reads as it did. -/
def orderHeapsUptoRow : OpenClaim := { program := "ythdmomaephiodaa", sum := "90865a4fac0d10741cdfc81ca4dadf6782428bec604e4ca34930089afc18113d", func := "watchbill/watchbilllaw9.OrderHeaps", spec := "orderHeaps", unfollowed := true, recurses := true, apart := false, narrowed := true }
def OrderHeapsUptoSaid : Prop := orderHeapsUptoRow.holds Try.pinned (OpenSpec.upto orderHeapsSpec)

end Rows
end Go.Proofs.Ythdmomaephiodaa
