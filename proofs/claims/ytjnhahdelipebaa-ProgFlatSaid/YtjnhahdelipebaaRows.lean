/-
  No cell of these rows narrows 'for every input' (looked for: loops, veiled, ifaces, maps, wideKeys, modest, calm, conditions, laid).
  DERIVED. THE GIVEN ROWS OF THIS SEAT. 6 by the template 'for every input the law returns true; each argument reads behind the call as it read before'; 0 by the template 'total and deterministic' (their statements: YtjnhahdelipebaaTotals.lean).
  GIVEN WITH THE SEED: the statements are not yours to turn. If you find one false, say at which input.
  Laid BY PROGRAM, IN A SANDBOX (cutbox-rows.mjs): the forced cells as the released guide's own fill.sh prints them over the translation 525fda8786f1275a… (all of the seat's roots in one cut). By AI agents, Wed Nov 11 2026. No macro, syntax, notation, axiom, sorry.
-/
import Derived.Test.YtjnhahdelipebaaChecked
import GoSem.Claim
import GoSem.ClaimJoined
import GoSem.ClaimMapViews
import Derived.JoinedTies
import Derived.KernelRfl
namespace Go.Proofs.Ytjnhahdelipebaa
/- THE CELL 'sum', in the pinned program and in every row, IS THE sha256 OF THE DUMP (.gsa) THAT YtjnhahdelipebaaProg.lean LOADS. Nothing in Lean hashes anything: it is a label: what it is worth is what the hold of that sum in a sandbox is worth. -/
noncomputable def Try.pinned : Pinned := { name := "ytjnhahdelipebaa", sum := "525fda8786f1275a2b8f5d235a0c44f5e1825ce25680d4f94649a8017cbb46b9", checked := Try.checked }
namespace Rows
def none {H : Type} : Left H := { results := [], args := [] }

/-- 'watchbilllaw6.ProgAny': WHATEVER THE INPUT: true; the input reads as it did. -/
def progAnySpec : ChangeSpec := { name := "progAny", fn := fun _ => fun
  | [d1, d2, d3] => { results := [.lit (.bool true)], args := [d1, d2, d3] }
  | _ => none }
def progAnyRow : OpenClaim := { program := "ytjnhahdelipebaa", sum := "525fda8786f1275a2b8f5d235a0c44f5e1825ce25680d4f94649a8017cbb46b9", func := "watchbill/watchbilllaw6.ProgAny", spec := "progAny", unfollowed := true, recurses := true, apart := false }
def ProgAnySaid : Prop := progAnyRow.holds Try.pinned (OpenSpec.ofChange progAnySpec)

/-- ITS FALSE NEIGHBOUR: 'it returns false'. Refute it at one input. -/
def progAnyWrong : ChangeSpec := { name := "progAny", fn := fun _ => fun
  | [d1, d2, d3] => { results := [.lit (.bool false)], args := [d1, d2, d3] }
  | _ => none }
def ProgAnyWrongFalsely : Prop := progAnyRow.holds Try.pinned (OpenSpec.ofChange progAnyWrong)

/-- 'watchbilllaw6.ProgLoops': WHATEVER THE INPUT: true; the input reads as it did. -/
def progLoopsSpec : ChangeSpec := { name := "progLoops", fn := fun _ => fun
  | [d1, d2] => { results := [.lit (.bool true)], args := [d1, d2] }
  | _ => none }
def progLoopsRow : OpenClaim := { program := "ytjnhahdelipebaa", sum := "525fda8786f1275a2b8f5d235a0c44f5e1825ce25680d4f94649a8017cbb46b9", func := "watchbill/watchbilllaw6.ProgLoops", spec := "progLoops", unfollowed := true, recurses := true, apart := false }
def ProgLoopsSaid : Prop := progLoopsRow.holds Try.pinned (OpenSpec.ofChange progLoopsSpec)

/-- ITS FALSE NEIGHBOUR: 'it returns false'. Refute it at one input. -/
def progLoopsWrong : ChangeSpec := { name := "progLoops", fn := fun _ => fun
  | [d1, d2] => { results := [.lit (.bool false)], args := [d1, d2] }
  | _ => none }
def ProgLoopsWrongFalsely : Prop := progLoopsRow.holds Try.pinned (OpenSpec.ofChange progLoopsWrong)

/-- 'watchbilllaw6.ProgFlat': WHATEVER THE INPUT: true; the input reads as it did. -/
def progFlatSpec : ChangeSpec := { name := "progFlat", fn := fun _ => fun
  | [d1, d2, d3] => { results := [.lit (.bool true)], args := [d1, d2, d3] }
  | _ => none }
def progFlatRow : OpenClaim := { program := "ytjnhahdelipebaa", sum := "525fda8786f1275a2b8f5d235a0c44f5e1825ce25680d4f94649a8017cbb46b9", func := "watchbill/watchbilllaw6.ProgFlat", spec := "progFlat", unfollowed := true, recurses := true, apart := false }
def ProgFlatSaid : Prop := progFlatRow.holds Try.pinned (OpenSpec.ofChange progFlatSpec)

/-- ITS FALSE NEIGHBOUR: 'it returns false'. Refute it at one input. -/
def progFlatWrong : ChangeSpec := { name := "progFlat", fn := fun _ => fun
  | [d1, d2, d3] => { results := [.lit (.bool false)], args := [d1, d2, d3] }
  | _ => none }
def ProgFlatWrongFalsely : Prop := progFlatRow.holds Try.pinned (OpenSpec.ofChange progFlatWrong)

/-- 'watchbilllaw6.ProgLocks': WHATEVER THE INPUT: true; the input reads as it did. -/
def progLocksSpec : ChangeSpec := { name := "progLocks", fn := fun _ => fun
  | [d1, d2] => { results := [.lit (.bool true)], args := [d1, d2] }
  | _ => none }
def progLocksRow : OpenClaim := { program := "ytjnhahdelipebaa", sum := "525fda8786f1275a2b8f5d235a0c44f5e1825ce25680d4f94649a8017cbb46b9", func := "watchbill/watchbilllaw6.ProgLocks", spec := "progLocks", unfollowed := true, recurses := true, apart := false }
def ProgLocksSaid : Prop := progLocksRow.holds Try.pinned (OpenSpec.ofChange progLocksSpec)

/-- ITS FALSE NEIGHBOUR: 'it returns false'. Refute it at one input. -/
def progLocksWrong : ChangeSpec := { name := "progLocks", fn := fun _ => fun
  | [d1, d2] => { results := [.lit (.bool false)], args := [d1, d2] }
  | _ => none }
def ProgLocksWrongFalsely : Prop := progLocksRow.holds Try.pinned (OpenSpec.ofChange progLocksWrong)

/-- 'watchbilllaw6.ProgOrder': WHATEVER THE INPUT: true; the input reads as it did. -/
def progOrderSpec : ChangeSpec := { name := "progOrder", fn := fun _ => fun
  | [d1, d2] => { results := [.lit (.bool true)], args := [d1, d2] }
  | _ => none }
def progOrderRow : OpenClaim := { program := "ytjnhahdelipebaa", sum := "525fda8786f1275a2b8f5d235a0c44f5e1825ce25680d4f94649a8017cbb46b9", func := "watchbill/watchbilllaw6.ProgOrder", spec := "progOrder", unfollowed := true, recurses := true, apart := false }
def ProgOrderSaid : Prop := progOrderRow.holds Try.pinned (OpenSpec.ofChange progOrderSpec)

/-- ITS FALSE NEIGHBOUR: 'it returns false'. Refute it at one input. -/
def progOrderWrong : ChangeSpec := { name := "progOrder", fn := fun _ => fun
  | [d1, d2] => { results := [.lit (.bool false)], args := [d1, d2] }
  | _ => none }
def ProgOrderWrongFalsely : Prop := progOrderRow.holds Try.pinned (OpenSpec.ofChange progOrderWrong)

/-- 'watchbilllaw6.ProgTwice': WHATEVER THE INPUT: true; the input reads as it did. -/
def progTwiceSpec : ChangeSpec := { name := "progTwice", fn := fun _ => fun
  | [d1, d2, d3] => { results := [.lit (.bool true)], args := [d1, d2, d3] }
  | _ => none }
def progTwiceRow : OpenClaim := { program := "ytjnhahdelipebaa", sum := "525fda8786f1275a2b8f5d235a0c44f5e1825ce25680d4f94649a8017cbb46b9", func := "watchbill/watchbilllaw6.ProgTwice", spec := "progTwice", unfollowed := true, recurses := true, apart := false }
def ProgTwiceSaid : Prop := progTwiceRow.holds Try.pinned (OpenSpec.ofChange progTwiceSpec)

/-- ITS FALSE NEIGHBOUR: 'it returns false'. Refute it at one input. -/
def progTwiceWrong : ChangeSpec := { name := "progTwice", fn := fun _ => fun
  | [d1, d2, d3] => { results := [.lit (.bool false)], args := [d1, d2, d3] }
  | _ => none }
def ProgTwiceWrongFalsely : Prop := progTwiceRow.holds Try.pinned (OpenSpec.ofChange progTwiceWrong)

/- THE SECOND FORM. 'bulk': how many values and letters a reading holds, each counted each time it is reached (what is shared counts as often as it is met; a slice's spare places count too). A statement '..UptoSaid' is the law's where the arguments, and the package variables that the reading takes, are together of bulk at most 1048576: NARROWER than '..Said'. Prove '..Said' where nothing that the law and all that it calls make is longer than what came in: it says more and counts as full. Else prove '..UptoSaid'. A law counts once. -/
mutual
def uptoBulk {H : Type} : DataW H → Nat
  | .lit (.string bytes) => bytes.length + 1
  | .lit _ => 1
  | .nil => 1
  | .ptr d => uptoBulk d + 1
  | .slice elems spare => uptoBulkAll elems + uptoBulkAll spare + 1
  | .agg parts => uptoBulkAll parts + 1
  | .iface _ d => uptoBulk d + 1
  | .map entries => uptoBulkEntries entries + 1
  | .held _ => 1
def uptoBulkAll {H : Type} : List (DataW H) → Nat
  | [] => 0
  | d :: r => uptoBulk d + uptoBulkAll r
def uptoBulkEntries {H : Type} : List (Lit × DataW H) → Nat
  | [] => 0
  | x :: r => uptoBulkEntry x + uptoBulkEntries r
def uptoBulkEntry {H : Type} : Lit × DataW H → Nat
  | (.string bytes, d) => bytes.length + uptoBulk d + 1
  | (_, d) => uptoBulk d + 1
 end
def uptoSmall : (H : Type) → List (DataW H) → Bool := fun _ ds => decide (uptoBulkAll ds ≤ 1048576)
def OpenSpec.upto (s : _root_.Go.ChangeSpec) : _root_.Go.OpenSpec := { _root_.Go.OpenSpec.ofChange s with cond := some uptoSmall }

/-- 'watchbilllaw6.ProgAny', WHERE WHAT IT READS IS OF BULK AT MOST 1048576: true; the input reads as it did. -/
def progAnyUptoRow : OpenClaim := { program := "ytjnhahdelipebaa", sum := "525fda8786f1275a2b8f5d235a0c44f5e1825ce25680d4f94649a8017cbb46b9", func := "watchbill/watchbilllaw6.ProgAny", spec := "progAny", unfollowed := true, recurses := true, apart := false, narrowed := true }
def ProgAnyUptoSaid : Prop := progAnyUptoRow.holds Try.pinned (OpenSpec.upto progAnySpec)

/-- 'watchbilllaw6.ProgLoops', WHERE WHAT IT READS IS OF BULK AT MOST 1048576: true; the input reads as it did. -/
def progLoopsUptoRow : OpenClaim := { program := "ytjnhahdelipebaa", sum := "525fda8786f1275a2b8f5d235a0c44f5e1825ce25680d4f94649a8017cbb46b9", func := "watchbill/watchbilllaw6.ProgLoops", spec := "progLoops", unfollowed := true, recurses := true, apart := false, narrowed := true }
def ProgLoopsUptoSaid : Prop := progLoopsUptoRow.holds Try.pinned (OpenSpec.upto progLoopsSpec)

/-- 'watchbilllaw6.ProgFlat', WHERE WHAT IT READS IS OF BULK AT MOST 1048576: true; the input reads as it did. -/
def progFlatUptoRow : OpenClaim := { program := "ytjnhahdelipebaa", sum := "525fda8786f1275a2b8f5d235a0c44f5e1825ce25680d4f94649a8017cbb46b9", func := "watchbill/watchbilllaw6.ProgFlat", spec := "progFlat", unfollowed := true, recurses := true, apart := false, narrowed := true }
def ProgFlatUptoSaid : Prop := progFlatUptoRow.holds Try.pinned (OpenSpec.upto progFlatSpec)

/-- 'watchbilllaw6.ProgLocks', WHERE WHAT IT READS IS OF BULK AT MOST 1048576: true; the input reads as it did. -/
def progLocksUptoRow : OpenClaim := { program := "ytjnhahdelipebaa", sum := "525fda8786f1275a2b8f5d235a0c44f5e1825ce25680d4f94649a8017cbb46b9", func := "watchbill/watchbilllaw6.ProgLocks", spec := "progLocks", unfollowed := true, recurses := true, apart := false, narrowed := true }
def ProgLocksUptoSaid : Prop := progLocksUptoRow.holds Try.pinned (OpenSpec.upto progLocksSpec)

/-- 'watchbilllaw6.ProgOrder', WHERE WHAT IT READS IS OF BULK AT MOST 1048576: true; the input reads as it did. -/
def progOrderUptoRow : OpenClaim := { program := "ytjnhahdelipebaa", sum := "525fda8786f1275a2b8f5d235a0c44f5e1825ce25680d4f94649a8017cbb46b9", func := "watchbill/watchbilllaw6.ProgOrder", spec := "progOrder", unfollowed := true, recurses := true, apart := false, narrowed := true }
def ProgOrderUptoSaid : Prop := progOrderUptoRow.holds Try.pinned (OpenSpec.upto progOrderSpec)

/-- 'watchbilllaw6.ProgTwice', WHERE WHAT IT READS IS OF BULK AT MOST 1048576: true; the input reads as it did. -/
def progTwiceUptoRow : OpenClaim := { program := "ytjnhahdelipebaa", sum := "525fda8786f1275a2b8f5d235a0c44f5e1825ce25680d4f94649a8017cbb46b9", func := "watchbill/watchbilllaw6.ProgTwice", spec := "progTwice", unfollowed := true, recurses := true, apart := false, narrowed := true }
def ProgTwiceUptoSaid : Prop := progTwiceUptoRow.holds Try.pinned (OpenSpec.upto progTwiceSpec)

end Rows
end Go.Proofs.Ytjnhahdelipebaa
