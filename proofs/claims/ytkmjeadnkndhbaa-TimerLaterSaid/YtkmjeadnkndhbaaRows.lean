/-
  No cell of these rows narrows 'for every input' (looked for: loops, veiled, ifaces, maps, wideKeys, modest, calm, conditions, laid).
  DERIVED. THE GIVEN ROWS OF THIS SEAT. 4 by the template 'for every input the law returns true; each argument reads behind the call as it read before'; 0 by the template 'total and deterministic' (their statements: YtkmjeadnkndhbaaTotals.lean).
  GIVEN WITH THE SEED: the statements are not yours to turn. If you find one false, say at which input.
  Laid BY PROGRAM, IN A SANDBOX (cutbox-rows.mjs): the forced cells as the released guide's own fill.sh prints them over the translation 37d90484c8008a97… (all of the seat's roots in one cut). By AI agents, Wed Nov 11 2026. No macro, syntax, notation, axiom, sorry.
-/
import Derived.Test.YtkmjeadnkndhbaaChecked
import GoSem.Claim
import GoSem.ClaimJoined
import GoSem.ClaimMapViews
import Derived.JoinedTies
import Derived.KernelRfl
namespace Go.Proofs.Ytkmjeadnkndhbaa
/- THE CELL 'sum', in the pinned program and in every row, IS THE sha256 OF THE DUMP (.gsa) THAT YtkmjeadnkndhbaaProg.lean LOADS. Nothing in Lean hashes anything: it is a label: what it is worth is what the hold of that sum in a sandbox is worth. -/
noncomputable def Try.pinned : Pinned := { name := "ytkmjeadnkndhbaa", sum := "37d90484c8008a974acd47c85374a439494b33e4d68894048fca95ed495e144f", checked := Try.checked }
namespace Rows
def none {H : Type} : Left H := { results := [], args := [] }

/-- 'watchbilllaw2.TimerDue': WHATEVER THE INPUT: true; the input reads as it did. -/
def timerDueSpec : ChangeSpec := { name := "timerDue", fn := fun _ => fun
  | [d] => { results := [.lit (.bool true)], args := [d] }
  | _ => none }
def timerDueRow : OpenClaim := { program := "ytkmjeadnkndhbaa", sum := "37d90484c8008a974acd47c85374a439494b33e4d68894048fca95ed495e144f", func := "watchbill/watchbilllaw2.TimerDue", spec := "timerDue", inPlace := ["slices.overlaps[watchbill/timer.due]"], unfollowed := true, recurses := true, apart := false }
def TimerDueSaid : Prop := timerDueRow.holds Try.pinned (OpenSpec.ofChange timerDueSpec)

/-- ITS FALSE NEIGHBOUR: 'it returns false'. Refute it at one input. -/
def timerDueWrong : ChangeSpec := { name := "timerDue", fn := fun _ => fun
  | [d] => { results := [.lit (.bool false)], args := [d] }
  | _ => none }
def TimerDueWrongFalsely : Prop := timerDueRow.holds Try.pinned (OpenSpec.ofChange timerDueWrong)

/-- 'watchbilllaw2.TimerLater': WHATEVER THE INPUT: true; the input reads as it did. -/
def timerLaterSpec : ChangeSpec := { name := "timerLater", fn := fun _ => fun
  | [d1, d2] => { results := [.lit (.bool true)], args := [d1, d2] }
  | _ => none }
def timerLaterRow : OpenClaim := { program := "ytkmjeadnkndhbaa", sum := "37d90484c8008a974acd47c85374a439494b33e4d68894048fca95ed495e144f", func := "watchbill/watchbilllaw2.TimerLater", spec := "timerLater", inPlace := ["slices.overlaps[watchbill/timer.due]"], unfollowed := true, recurses := true, apart := false }
def TimerLaterSaid : Prop := timerLaterRow.holds Try.pinned (OpenSpec.ofChange timerLaterSpec)

/-- ITS FALSE NEIGHBOUR: 'it returns false'. Refute it at one input. -/
def timerLaterWrong : ChangeSpec := { name := "timerLater", fn := fun _ => fun
  | [d1, d2] => { results := [.lit (.bool false)], args := [d1, d2] }
  | _ => none }
def TimerLaterWrongFalsely : Prop := timerLaterRow.holds Try.pinned (OpenSpec.ofChange timerLaterWrong)

/-- 'watchbilllaw2.TimerPlays': WHATEVER THE INPUT: true; the input reads as it did. -/
def timerPlaysSpec : ChangeSpec := { name := "timerPlays", fn := fun _ => fun
  | [d] => { results := [.lit (.bool true)], args := [d] }
  | _ => none }
def timerPlaysRow : OpenClaim := { program := "ytkmjeadnkndhbaa", sum := "37d90484c8008a974acd47c85374a439494b33e4d68894048fca95ed495e144f", func := "watchbill/watchbilllaw2.TimerPlays", spec := "timerPlays", inPlace := ["slices.overlaps[watchbill/timer.due]"], unfollowed := true, recurses := true, apart := false }
def TimerPlaysSaid : Prop := timerPlaysRow.holds Try.pinned (OpenSpec.ofChange timerPlaysSpec)

/-- ITS FALSE NEIGHBOUR: 'it returns false'. Refute it at one input. -/
def timerPlaysWrong : ChangeSpec := { name := "timerPlays", fn := fun _ => fun
  | [d] => { results := [.lit (.bool false)], args := [d] }
  | _ => none }
def TimerPlaysWrongFalsely : Prop := timerPlaysRow.holds Try.pinned (OpenSpec.ofChange timerPlaysWrong)

/-- 'watchbilllaw2.TimerTwins': WHATEVER THE INPUT: true; the input reads as it did. -/
def timerTwinsSpec : ChangeSpec := { name := "timerTwins", fn := fun _ => fun
  | [d1, d2] => { results := [.lit (.bool true)], args := [d1, d2] }
  | _ => none }
def timerTwinsRow : OpenClaim := { program := "ytkmjeadnkndhbaa", sum := "37d90484c8008a974acd47c85374a439494b33e4d68894048fca95ed495e144f", func := "watchbill/watchbilllaw2.TimerTwins", spec := "timerTwins", inPlace := ["slices.overlaps[watchbill/timer.due]"], unfollowed := true, recurses := true, apart := false }
def TimerTwinsSaid : Prop := timerTwinsRow.holds Try.pinned (OpenSpec.ofChange timerTwinsSpec)

/-- ITS FALSE NEIGHBOUR: 'it returns false'. Refute it at one input. -/
def timerTwinsWrong : ChangeSpec := { name := "timerTwins", fn := fun _ => fun
  | [d1, d2] => { results := [.lit (.bool false)], args := [d1, d2] }
  | _ => none }
def TimerTwinsWrongFalsely : Prop := timerTwinsRow.holds Try.pinned (OpenSpec.ofChange timerTwinsWrong)

/- THE SECOND FORM. 'bulk': how many values and letters a reading holds, each counted each time it is reached (what is shared counts as often as it is met; a slice's spare places count too). A statement '..UptoSaid' is the law's where the arguments, and the package variables that the reading takes, are together of bulk at most 1048576: NARROWER than '..Said'. Prove '..Said' where nothing that the law and all that it calls make is longer than what came in: it says more and counts as full. Else prove '..UptoSaid'. A law counts once. -/
mutual
def uptoBulk {H : Type} : DataW H → Nat
  | .lit (.string bytes) => bytes.length + 1
  | .lit _ => 1
  | .nil => 1
  | .ptr d => uptoBulk d + 1
  | .slice elems spare => uptoBulkAll elems + uptoBulkAll spare + 1
  | .agg parts => uptoBulkAll parts + 1
  | .iface _ d => uptoBulk d + 1
  | .map entries => uptoBulkEntries entries + 1
  | .held _ => 1
def uptoBulkAll {H : Type} : List (DataW H) → Nat
  | [] => 0
  | d :: r => uptoBulk d + uptoBulkAll r
def uptoBulkEntries {H : Type} : List (Lit × DataW H) → Nat
  | [] => 0
  | x :: r => uptoBulkEntry x + uptoBulkEntries r
def uptoBulkEntry {H : Type} : Lit × DataW H → Nat
  | (.string bytes, d) => bytes.length + uptoBulk d + 1
  | (_, d) => uptoBulk d + 1
 end
def uptoSmall : (H : Type) → List (DataW H) → Bool := fun _ ds => decide (uptoBulkAll ds ≤ 1048576)
def OpenSpec.upto (s : _root_.Go.ChangeSpec) : _root_.Go.OpenSpec := { _root_.Go.OpenSpec.ofChange s with cond := some uptoSmall }

/-- 'watchbilllaw2.TimerDue', WHERE WHAT IT READS IS OF BULK AT MOST 1048576: true; the input reads as it did. -/
def timerDueUptoRow : OpenClaim := { program := "ytkmjeadnkndhbaa", sum := "37d90484c8008a974acd47c85374a439494b33e4d68894048fca95ed495e144f", func := "watchbill/watchbilllaw2.TimerDue", spec := "timerDue", inPlace := ["slices.overlaps[watchbill/timer.due]"], unfollowed := true, recurses := true, apart := false, narrowed := true }
def TimerDueUptoSaid : Prop := timerDueUptoRow.holds Try.pinned (OpenSpec.upto timerDueSpec)

/-- 'watchbilllaw2.TimerLater', WHERE WHAT IT READS IS OF BULK AT MOST 1048576: true; the input reads as it did. -/
def timerLaterUptoRow : OpenClaim := { program := "ytkmjeadnkndhbaa", sum := "37d90484c8008a974acd47c85374a439494b33e4d68894048fca95ed495e144f", func := "watchbill/watchbilllaw2.TimerLater", spec := "timerLater", inPlace := ["slices.overlaps[watchbill/timer.due]"], unfollowed := true, recurses := true, apart := false, narrowed := true }
def TimerLaterUptoSaid : Prop := timerLaterUptoRow.holds Try.pinned (OpenSpec.upto timerLaterSpec)

/-- 'watchbilllaw2.TimerPlays', WHERE WHAT IT READS IS OF BULK AT MOST 1048576: true; the input reads as it did. -/
def timerPlaysUptoRow : OpenClaim := { program := "ytkmjeadnkndhbaa", sum := "37d90484c8008a974acd47c85374a439494b33e4d68894048fca95ed495e144f", func := "watchbill/watchbilllaw2.TimerPlays", spec := "timerPlays", inPlace := ["slices.overlaps[watchbill/timer.due]"], unfollowed := true, recurses := true, apart := false, narrowed := true }
def TimerPlaysUptoSaid : Prop := timerPlaysUptoRow.holds Try.pinned (OpenSpec.upto timerPlaysSpec)

/-- 'watchbilllaw2.TimerTwins', WHERE WHAT IT READS IS OF BULK AT MOST 1048576: true; the input reads as it did. -/
def timerTwinsUptoRow : OpenClaim := { program := "ytkmjeadnkndhbaa", sum := "37d90484c8008a974acd47c85374a439494b33e4d68894048fca95ed495e144f", func := "watchbill/watchbilllaw2.TimerTwins", spec := "timerTwins", inPlace := ["slices.overlaps[watchbill/timer.due]"], unfollowed := true, recurses := true, apart := false, narrowed := true }
def TimerTwinsUptoSaid : Prop := timerTwinsUptoRow.holds Try.pinned (OpenSpec.upto timerTwinsSpec)

end Rows
end Go.Proofs.Ytkmjeadnkndhbaa
