/-
  No cell of these rows narrows 'for every input' (looked for: loops, veiled, ifaces, maps, wideKeys, modest, calm, conditions, laid).
  DERIVED. THE GIVEN ROWS OF THIS SEAT. 4 by the template 'for every input the law returns true; each argument reads behind the call as it read before'; 0 by the template 'total and deterministic' (their statements: YtjkacccmdccbnaaTotals.lean).
  GIVEN WITH THE SEED: the statements are not yours to turn. If you find one false, say at which input.
  Laid BY PROGRAM, IN A SANDBOX (cutbox-rows.mjs): the forced cells as the released guide's own fill.sh prints them over the translation a75e8c3c654ceb30… (all of the seat's roots in one cut). By AI agents, Wed Nov 11 2026. No macro, syntax, notation, axiom, sorry.
-/
import Derived.Test.YtjkacccmdccbnaaChecked
import GoSem.Claim
import GoSem.ClaimJoined
import GoSem.ClaimMapViews
import Derived.JoinedTies
import Derived.KernelRfl
namespace Go.Proofs.Ytjkacccmdccbnaa
/- THE CELL 'sum', in the pinned program and in every row, IS THE sha256 OF THE DUMP (.gsa) THAT YtjkacccmdccbnaaProg.lean LOADS. Nothing in Lean hashes anything: it is a label: what it is worth is what the hold of that sum in a sandbox is worth. -/
noncomputable def Try.pinned : Pinned := { name := "ytjkacccmdccbnaa", sum := "a75e8c3c654ceb3034f630c87f8e45713a3f2196d0ac0199c5baf5849fbc5199", checked := Try.checked }
namespace Rows
def none {H : Type} : Left H := { results := [], args := [] }

/-- 'watchbilllaw17.LockOnce': WHATEVER THE INPUT: true; the input reads as it did. -/
def lockOnceSpec : ChangeSpec := { name := "lockOnce", fn := fun _ => fun
  | [d] => { results := [.lit (.bool true)], args := [d] }
  | _ => none }
def lockOnceRow : OpenClaim := { program := "ytjkacccmdccbnaa", sum := "a75e8c3c654ceb3034f630c87f8e45713a3f2196d0ac0199c5baf5849fbc5199", func := "watchbill/watchbilllaw17.LockOnce", spec := "lockOnce", unfollowed := true, recurses := true, apart := false }
def LockOnceSaid : Prop := lockOnceRow.holds Try.pinned (OpenSpec.ofChange lockOnceSpec)

/-- ITS FALSE NEIGHBOUR: 'it returns false'. Refute it at one input. -/
def lockOnceWrong : ChangeSpec := { name := "lockOnce", fn := fun _ => fun
  | [d] => { results := [.lit (.bool false)], args := [d] }
  | _ => none }
def LockOnceWrongFalsely : Prop := lockOnceRow.holds Try.pinned (OpenSpec.ofChange lockOnceWrong)

/-- 'watchbilllaw17.LockLeaves': WHATEVER THE INPUT: true; the input reads as it did. -/
def lockLeavesSpec : ChangeSpec := { name := "lockLeaves", fn := fun _ => fun
  | [d1, d2] => { results := [.lit (.bool true)], args := [d1, d2] }
  | _ => none }
def lockLeavesRow : OpenClaim := { program := "ytjkacccmdccbnaa", sum := "a75e8c3c654ceb3034f630c87f8e45713a3f2196d0ac0199c5baf5849fbc5199", func := "watchbill/watchbilllaw17.LockLeaves", spec := "lockLeaves", unfollowed := true, recurses := true, apart := false }
def LockLeavesSaid : Prop := lockLeavesRow.holds Try.pinned (OpenSpec.ofChange lockLeavesSpec)

/-- ITS FALSE NEIGHBOUR: 'it returns false'. Refute it at one input. -/
def lockLeavesWrong : ChangeSpec := { name := "lockLeaves", fn := fun _ => fun
  | [d1, d2] => { results := [.lit (.bool false)], args := [d1, d2] }
  | _ => none }
def LockLeavesWrongFalsely : Prop := lockLeavesRow.holds Try.pinned (OpenSpec.ofChange lockLeavesWrong)

/-- 'watchbilllaw17.LockPlays': WHATEVER THE INPUT: true; the input reads as it did. -/
def lockPlaysSpec : ChangeSpec := { name := "lockPlays", fn := fun _ => fun
  | [d] => { results := [.lit (.bool true)], args := [d] }
  | _ => none }
def lockPlaysRow : OpenClaim := { program := "ytjkacccmdccbnaa", sum := "a75e8c3c654ceb3034f630c87f8e45713a3f2196d0ac0199c5baf5849fbc5199", func := "watchbill/watchbilllaw17.LockPlays", spec := "lockPlays", unfollowed := true, recurses := true, apart := false }
def LockPlaysSaid : Prop := lockPlaysRow.holds Try.pinned (OpenSpec.ofChange lockPlaysSpec)

/-- ITS FALSE NEIGHBOUR: 'it returns false'. Refute it at one input. -/
def lockPlaysWrong : ChangeSpec := { name := "lockPlays", fn := fun _ => fun
  | [d] => { results := [.lit (.bool false)], args := [d] }
  | _ => none }
def LockPlaysWrongFalsely : Prop := lockPlaysRow.holds Try.pinned (OpenSpec.ofChange lockPlaysWrong)

/-- 'watchbilllaw17.LockTwins': WHATEVER THE INPUT: true; the input reads as it did. -/
def lockTwinsSpec : ChangeSpec := { name := "lockTwins", fn := fun _ => fun
  | [d1, d2] => { results := [.lit (.bool true)], args := [d1, d2] }
  | _ => none }
def lockTwinsRow : OpenClaim := { program := "ytjkacccmdccbnaa", sum := "a75e8c3c654ceb3034f630c87f8e45713a3f2196d0ac0199c5baf5849fbc5199", func := "watchbill/watchbilllaw17.LockTwins", spec := "lockTwins", unfollowed := true, recurses := true, apart := false }
def LockTwinsSaid : Prop := lockTwinsRow.holds Try.pinned (OpenSpec.ofChange lockTwinsSpec)

/-- ITS FALSE NEIGHBOUR: 'it returns false'. Refute it at one input. -/
def lockTwinsWrong : ChangeSpec := { name := "lockTwins", fn := fun _ => fun
  | [d1, d2] => { results := [.lit (.bool false)], args := [d1, d2] }
  | _ => none }
def LockTwinsWrongFalsely : Prop := lockTwinsRow.holds Try.pinned (OpenSpec.ofChange lockTwinsWrong)

/- THE SECOND FORM. 'bulk': how many values and letters a reading holds, each counted each time it is reached (what is shared counts as often as it is met; a slice's spare places count too). A statement '..UptoSaid' is the law's where the arguments, and the package variables that the reading takes, are together of bulk at most 1048576: NARROWER than '..Said'. Prove '..Said' where nothing that the law and all that it calls make is longer than what came in: it says more and counts as full. Else prove '..UptoSaid'. A law counts once. -/
mutual
def uptoBulk {H : Type} : DataW H → Nat
  | .lit (.string bytes) => bytes.length + 1
  | .lit _ => 1
  | .nil => 1
  | .ptr d => uptoBulk d + 1
  | .slice elems spare => uptoBulkAll elems + uptoBulkAll spare + 1
  | .agg parts => uptoBulkAll parts + 1
  | .iface _ d => uptoBulk d + 1
  | .map entries => uptoBulkEntries entries + 1
  | .held _ => 1
def uptoBulkAll {H : Type} : List (DataW H) → Nat
  | [] => 0
  | d :: r => uptoBulk d + uptoBulkAll r
def uptoBulkEntries {H : Type} : List (Lit × DataW H) → Nat
  | [] => 0
  | x :: r => uptoBulkEntry x + uptoBulkEntries r
def uptoBulkEntry {H : Type} : Lit × DataW H → Nat
  | (.string bytes, d) => bytes.length + uptoBulk d + 1
  | (_, d) => uptoBulk d + 1
 end
def uptoSmall : (H : Type) → List (DataW H) → Bool := fun _ ds => decide (uptoBulkAll ds ≤ 1048576)
def OpenSpec.upto (s : _root_.Go.ChangeSpec) : _root_.Go.OpenSpec := { _root_.Go.OpenSpec.ofChange s with cond := some uptoSmall }

/-- 'watchbilllaw17.LockOnce', WHERE WHAT IT READS IS OF BULK AT MOST 1048576: true; the input reads as it did. -/
def lockOnceUptoRow : OpenClaim := { program := "ytjkacccmdccbnaa", sum := "a75e8c3c654ceb3034f630c87f8e45713a3f2196d0ac0199c5baf5849fbc5199", func := "watchbill/watchbilllaw17.LockOnce", spec := "lockOnce", unfollowed := true, recurses := true, apart := false, narrowed := true }
def LockOnceUptoSaid : Prop := lockOnceUptoRow.holds Try.pinned (OpenSpec.upto lockOnceSpec)

/-- 'watchbilllaw17.LockLeaves', WHERE WHAT IT READS IS OF BULK AT MOST 1048576: true; the input reads as it did. -/
def lockLeavesUptoRow : OpenClaim := { program := "ytjkacccmdccbnaa", sum := "a75e8c3c654ceb3034f630c87f8e45713a3f2196d0ac0199c5baf5849fbc5199", func := "watchbill/watchbilllaw17.LockLeaves", spec := "lockLeaves", unfollowed := true, recurses := true, apart := false, narrowed := true }
def LockLeavesUptoSaid : Prop := lockLeavesUptoRow.holds Try.pinned (OpenSpec.upto lockLeavesSpec)

/-- 'watchbilllaw17.LockPlays', WHERE WHAT IT READS IS OF BULK AT MOST 1048576: true; the input reads as it did. -/
def lockPlaysUptoRow : OpenClaim := { program := "ytjkacccmdccbnaa", sum := "a75e8c3c654ceb3034f630c87f8e45713a3f2196d0ac0199c5baf5849fbc5199", func := "watchbill/watchbilllaw17.LockPlays", spec := "lockPlays", unfollowed := true, recurses := true, apart := false, narrowed := true }
def LockPlaysUptoSaid : Prop := lockPlaysUptoRow.holds Try.pinned (OpenSpec.upto lockPlaysSpec)

/-- 'watchbilllaw17.LockTwins', WHERE WHAT IT READS IS OF BULK AT MOST 1048576: true; the input reads as it did. -/
def lockTwinsUptoRow : OpenClaim := { program := "ytjkacccmdccbnaa", sum := "a75e8c3c654ceb3034f630c87f8e45713a3f2196d0ac0199c5baf5849fbc5199", func := "watchbill/watchbilllaw17.LockTwins", spec := "lockTwins", unfollowed := true, recurses := true, apart := false, narrowed := true }
def LockTwinsUptoSaid : Prop := lockTwinsUptoRow.holds Try.pinned (OpenSpec.upto lockTwinsSpec)

end Rows
end Go.Proofs.Ytjkacccmdccbnaa
