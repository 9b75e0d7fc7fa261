/-
  No cell of these rows narrows 'for every input' (looked for: loops, veiled, ifaces, maps, wideKeys, modest, calm, conditions, laid).
  DERIVED. THE GIVEN ROWS OF THIS SEAT. 4 by the template 'for every input the law returns true; each argument reads behind the call as it read before'; 0 by the template 'total and deterministic' (their statements: YtmjcolkpfblelaaTotals.lean).
  GIVEN WITH THE SEED: the statements are not yours to turn. If you find one false, say at which input.
  Laid BY PROGRAM, IN A SANDBOX (cutbox-rows.mjs): the forced cells as the released guide's own fill.sh prints them over the translation 99faad3558348785… (all of the seat's roots in one cut). By AI agents, Wed Nov 11 2026. No macro, syntax, notation, axiom, sorry.
-/
import Derived.Test.YtmjcolkpfblelaaChecked
import GoSem.Claim
import GoSem.ClaimJoined
import GoSem.ClaimMapViews
import Derived.JoinedTies
import Derived.KernelRfl
namespace Go.Proofs.Ytmjcolkpfblelaa
/- THE CELL 'sum', in the pinned program and in every row, IS THE sha256 OF THE DUMP (.gsa) THAT YtmjcolkpfblelaaProg.lean LOADS. Nothing in Lean hashes anything: it is a label: what it is worth is what the hold of that sum in a sandbox is worth. -/
noncomputable def Try.pinned : Pinned := { name := "ytmjcolkpfblelaa", sum := "99faad35583487858eaeec190b64364d8750cba36ee34fe2addf18920ce83815", checked := Try.checked }
namespace Rows
def none {H : Type} : Left H := { results := [], args := [] }

/-- 'watchbilllaw14.WaitAny': WHATEVER THE INPUT: true; the input reads as it did. -/
def waitAnySpec : ChangeSpec := { name := "waitAny", fn := fun _ => fun
  | [d1, d2, d3] => { results := [.lit (.bool true)], args := [d1, d2, d3] }
  | _ => none }
def waitAnyRow : OpenClaim := { program := "ytmjcolkpfblelaa", sum := "99faad35583487858eaeec190b64364d8750cba36ee34fe2addf18920ce83815", func := "watchbill/watchbilllaw14.WaitAny", spec := "waitAny", unfollowed := true, recurses := true, apart := false }
def WaitAnySaid : Prop := waitAnyRow.holds Try.pinned (OpenSpec.ofChange waitAnySpec)

/-- ITS FALSE NEIGHBOUR: 'it returns false'. Refute it at one input. -/
def waitAnyWrong : ChangeSpec := { name := "waitAny", fn := fun _ => fun
  | [d1, d2, d3] => { results := [.lit (.bool false)], args := [d1, d2, d3] }
  | _ => none }
def WaitAnyWrongFalsely : Prop := waitAnyRow.holds Try.pinned (OpenSpec.ofChange waitAnyWrong)

/-- 'watchbilllaw14.WaitGoes': WHATEVER THE INPUT: true; the input reads as it did. -/
def waitGoesSpec : ChangeSpec := { name := "waitGoes", fn := fun _ => fun
  | [d1, d2] => { results := [.lit (.bool true)], args := [d1, d2] }
  | _ => none }
def waitGoesRow : OpenClaim := { program := "ytmjcolkpfblelaa", sum := "99faad35583487858eaeec190b64364d8750cba36ee34fe2addf18920ce83815", func := "watchbill/watchbilllaw14.WaitGoes", spec := "waitGoes", unfollowed := true, recurses := true, apart := false }
def WaitGoesSaid : Prop := waitGoesRow.holds Try.pinned (OpenSpec.ofChange waitGoesSpec)

/-- ITS FALSE NEIGHBOUR: 'it returns false'. Refute it at one input. -/
def waitGoesWrong : ChangeSpec := { name := "waitGoes", fn := fun _ => fun
  | [d1, d2] => { results := [.lit (.bool false)], args := [d1, d2] }
  | _ => none }
def WaitGoesWrongFalsely : Prop := waitGoesRow.holds Try.pinned (OpenSpec.ofChange waitGoesWrong)

/-- 'watchbilllaw14.WaitSplits': WHATEVER THE INPUT: true; the input reads as it did. -/
def waitSplitsSpec : ChangeSpec := { name := "waitSplits", fn := fun _ => fun
  | [d] => { results := [.lit (.bool true)], args := [d] }
  | _ => none }
def waitSplitsRow : OpenClaim := { program := "ytmjcolkpfblelaa", sum := "99faad35583487858eaeec190b64364d8750cba36ee34fe2addf18920ce83815", func := "watchbill/watchbilllaw14.WaitSplits", spec := "waitSplits", unfollowed := true, recurses := true, apart := false }
def WaitSplitsSaid : Prop := waitSplitsRow.holds Try.pinned (OpenSpec.ofChange waitSplitsSpec)

/-- ITS FALSE NEIGHBOUR: 'it returns false'. Refute it at one input. -/
def waitSplitsWrong : ChangeSpec := { name := "waitSplits", fn := fun _ => fun
  | [d] => { results := [.lit (.bool false)], args := [d] }
  | _ => none }
def WaitSplitsWrongFalsely : Prop := waitSplitsRow.holds Try.pinned (OpenSpec.ofChange waitSplitsWrong)

/-- 'watchbilllaw14.WaitRaised': WHATEVER THE INPUT: true; the input reads as it did. -/
def waitRaisedSpec : ChangeSpec := { name := "waitRaised", fn := fun _ => fun
  | [d1, d2] => { results := [.lit (.bool true)], args := [d1, d2] }
  | _ => none }
def waitRaisedRow : OpenClaim := { program := "ytmjcolkpfblelaa", sum := "99faad35583487858eaeec190b64364d8750cba36ee34fe2addf18920ce83815", func := "watchbill/watchbilllaw14.WaitRaised", spec := "waitRaised", unfollowed := true, recurses := true, apart := false }
def WaitRaisedSaid : Prop := waitRaisedRow.holds Try.pinned (OpenSpec.ofChange waitRaisedSpec)

/-- ITS FALSE NEIGHBOUR: 'it returns false'. Refute it at one input. -/
def waitRaisedWrong : ChangeSpec := { name := "waitRaised", fn := fun _ => fun
  | [d1, d2] => { results := [.lit (.bool false)], args := [d1, d2] }
  | _ => none }
def WaitRaisedWrongFalsely : Prop := waitRaisedRow.holds Try.pinned (OpenSpec.ofChange waitRaisedWrong)

/- THE SECOND FORM. 'bulk': how many values and letters a reading holds, each counted each time it is reached (what is shared counts as often as it is met; a slice's spare places count too). A statement '..UptoSaid' is the law's where the arguments, and the package variables that the reading takes, are together of bulk at most 1048576: NARROWER than '..Said'. Prove '..Said' where nothing that the law and all that it calls make is longer than what came in: it says more and counts as full. Else prove '..UptoSaid'. A law counts once. -/
mutual
def uptoBulk {H : Type} : DataW H → Nat
  | .lit (.string bytes) => bytes.length + 1
  | .lit _ => 1
  | .nil => 1
  | .ptr d => uptoBulk d + 1
  | .slice elems spare => uptoBulkAll elems + uptoBulkAll spare + 1
  | .agg parts => uptoBulkAll parts + 1
  | .iface _ d => uptoBulk d + 1
  | .map entries => uptoBulkEntries entries + 1
  | .held _ => 1
def uptoBulkAll {H : Type} : List (DataW H) → Nat
  | [] => 0
  | d :: r => uptoBulk d + uptoBulkAll r
def uptoBulkEntries {H : Type} : List (Lit × DataW H) → Nat
  | [] => 0
  | x :: r => uptoBulkEntry x + uptoBulkEntries r
def uptoBulkEntry {H : Type} : Lit × DataW H → Nat
  | (.string bytes, d) => bytes.length + uptoBulk d + 1
  | (_, d) => uptoBulk d + 1
 end
def uptoSmall : (H : Type) → List (DataW H) → Bool := fun _ ds => decide (uptoBulkAll ds ≤ 1048576)
def OpenSpec.upto (s : _root_.Go.ChangeSpec) : _root_.Go.OpenSpec := { _root_.Go.OpenSpec.ofChange s with cond := some uptoSmall }

/-- 'watchbilllaw14.WaitAny', WHERE WHAT IT READS IS OF BULK AT MOST 1048576: true; the input reads as it did. -/
def waitAnyUptoRow : OpenClaim := { program := "ytmjcolkpfblelaa", sum := "99faad35583487858eaeec190b64364d8750cba36ee34fe2addf18920ce83815", func := "watchbill/watchbilllaw14.WaitAny", spec := "waitAny", unfollowed := true, recurses := true, apart := false, narrowed := true }
def WaitAnyUptoSaid : Prop := waitAnyUptoRow.holds Try.pinned (OpenSpec.upto waitAnySpec)

/-- 'watchbilllaw14.WaitGoes', WHERE WHAT IT READS IS OF BULK AT MOST 1048576: true; the input reads as it did. -/
def waitGoesUptoRow : OpenClaim := { program := "ytmjcolkpfblelaa", sum := "99faad35583487858eaeec190b64364d8750cba36ee34fe2addf18920ce83815", func := "watchbill/watchbilllaw14.WaitGoes", spec := "waitGoes", unfollowed := true, recurses := true, apart := false, narrowed := true }
def WaitGoesUptoSaid : Prop := waitGoesUptoRow.holds Try.pinned (OpenSpec.upto waitGoesSpec)

/-- 'watchbilllaw14.WaitSplits', WHERE WHAT IT READS IS OF BULK AT MOST 1048576: true; the input reads as it did. -/
def waitSplitsUptoRow : OpenClaim := { program := "ytmjcolkpfblelaa", sum := "99faad35583487858eaeec190b64364d8750cba36ee34fe2addf18920ce83815", func := "watchbill/watchbilllaw14.WaitSplits", spec := "waitSplits", unfollowed := true, recurses := true, apart := false, narrowed := true }
def WaitSplitsUptoSaid : Prop := waitSplitsUptoRow.holds Try.pinned (OpenSpec.upto waitSplitsSpec)

/-- 'watchbilllaw14.WaitRaised', WHERE WHAT IT READS IS OF BULK AT MOST 1048576: true; the input reads as it did. -/
def waitRaisedUptoRow : OpenClaim := { program := "ytmjcolkpfblelaa", sum := "99faad35583487858eaeec190b64364d8750cba36ee34fe2addf18920ce83815", func := "watchbill/watchbilllaw14.WaitRaised", spec := "waitRaised", unfollowed := true, recurses := true, apart := false, narrowed := true }
def WaitRaisedUptoSaid : Prop := waitRaisedUptoRow.holds Try.pinned (OpenSpec.upto waitRaisedSpec)

end Rows
end Go.Proofs.Ytmjcolkpfblelaa
