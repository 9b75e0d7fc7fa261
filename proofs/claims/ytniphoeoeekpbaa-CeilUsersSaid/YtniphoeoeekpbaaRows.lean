/-
  No cell of these rows narrows 'for every input' (looked for: loops, veiled, ifaces, maps, wideKeys, modest, calm, conditions, laid).
  DERIVED. THE GIVEN ROWS OF THIS SEAT. 3 by the template 'for every input the law returns true; each argument reads behind the call as it read before'; 0 by the template 'total and deterministic' (their statements: YtniphoeoeekpbaaTotals.lean).
  GIVEN WITH THE SEED: the statements are not yours to turn. If you find one false, say at which input.
  Laid BY PROGRAM, IN A SANDBOX (cutbox-rows.mjs): the forced cells as the released guide's own fill.sh prints them over the translation a648dbc07a96625d… (all of the seat's roots in one cut). By AI agents, Wed Nov 11 2026. No macro, syntax, notation, axiom, sorry.
-/
import Derived.Test.YtniphoeoeekpbaaChecked
import GoSem.Claim
import GoSem.ClaimJoined
import GoSem.ClaimMapViews
import Derived.JoinedTies
import Derived.KernelRfl
namespace Go.Proofs.Ytniphoeoeekpbaa
/- THE CELL 'sum', in the pinned program and in every row, IS THE sha256 OF THE DUMP (.gsa) THAT YtniphoeoeekpbaaProg.lean LOADS. Nothing in Lean hashes anything: it is a label: what it is worth is what the hold of that sum in a sandbox is worth. -/
noncomputable def Try.pinned : Pinned := { name := "ytniphoeoeekpbaa", sum := "a648dbc07a96625d433853877c6621e985b85fbbe6d7f6a0d5b928e1a5331ce9", checked := Try.checked }
namespace Rows
def none {H : Type} : Left H := { results := [], args := [] }

/-- 'watchbilllaw10.CeilSets': WHATEVER THE INPUT: true; the input reads as it did. -/
def ceilSetsSpec : ChangeSpec := { name := "ceilSets", fn := fun _ => fun
  | [d1, d2] => { results := [.lit (.bool true)], args := [d1, d2] }
  | _ => none }
def ceilSetsRow : OpenClaim := { program := "ytniphoeoeekpbaa", sum := "a648dbc07a96625d433853877c6621e985b85fbbe6d7f6a0d5b928e1a5331ce9", func := "watchbill/watchbilllaw10.CeilSets", spec := "ceilSets", unfollowed := true, recurses := true, apart := false }
def CeilSetsSaid : Prop := ceilSetsRow.holds Try.pinned (OpenSpec.ofChange ceilSetsSpec)

/-- ITS FALSE NEIGHBOUR: 'it returns false'. Refute it at one input. -/
def ceilSetsWrong : ChangeSpec := { name := "ceilSets", fn := fun _ => fun
  | [d1, d2] => { results := [.lit (.bool false)], args := [d1, d2] }
  | _ => none }
def CeilSetsWrongFalsely : Prop := ceilSetsRow.holds Try.pinned (OpenSpec.ofChange ceilSetsWrong)

/-- 'watchbilllaw10.CeilUsers': WHATEVER THE INPUT: true; the input reads as it did. -/
def ceilUsersSpec : ChangeSpec := { name := "ceilUsers", fn := fun _ => fun
  | [d1, d2, d3] => { results := [.lit (.bool true)], args := [d1, d2, d3] }
  | _ => none }
def ceilUsersRow : OpenClaim := { program := "ytniphoeoeekpbaa", sum := "a648dbc07a96625d433853877c6621e985b85fbbe6d7f6a0d5b928e1a5331ce9", func := "watchbill/watchbilllaw10.CeilUsers", spec := "ceilUsers", unfollowed := true, recurses := true, apart := false }
def CeilUsersSaid : Prop := ceilUsersRow.holds Try.pinned (OpenSpec.ofChange ceilUsersSpec)

/-- ITS FALSE NEIGHBOUR: 'it returns false'. Refute it at one input. -/
def ceilUsersWrong : ChangeSpec := { name := "ceilUsers", fn := fun _ => fun
  | [d1, d2, d3] => { results := [.lit (.bool false)], args := [d1, d2, d3] }
  | _ => none }
def CeilUsersWrongFalsely : Prop := ceilUsersRow.holds Try.pinned (OpenSpec.ofChange ceilUsersWrong)

/-- 'watchbilllaw10.CeilNested': WHATEVER THE INPUT: true; the input reads as it did. -/
def ceilNestedSpec : ChangeSpec := { name := "ceilNested", fn := fun _ => fun
  | [d1, d2, d3, d4] => { results := [.lit (.bool true)], args := [d1, d2, d3, d4] }
  | _ => none }
def ceilNestedRow : OpenClaim := { program := "ytniphoeoeekpbaa", sum := "a648dbc07a96625d433853877c6621e985b85fbbe6d7f6a0d5b928e1a5331ce9", func := "watchbill/watchbilllaw10.CeilNested", spec := "ceilNested", unfollowed := true, recurses := true, apart := false }
def CeilNestedSaid : Prop := ceilNestedRow.holds Try.pinned (OpenSpec.ofChange ceilNestedSpec)

/-- ITS FALSE NEIGHBOUR: 'it returns false'. Refute it at one input. -/
def ceilNestedWrong : ChangeSpec := { name := "ceilNested", fn := fun _ => fun
  | [d1, d2, d3, d4] => { results := [.lit (.bool false)], args := [d1, d2, d3, d4] }
  | _ => none }
def CeilNestedWrongFalsely : Prop := ceilNestedRow.holds Try.pinned (OpenSpec.ofChange ceilNestedWrong)

/- THE SECOND FORM. 'bulk': how many values and letters a reading holds, each counted each time it is reached (what is shared counts as often as it is met; a slice's spare places count too). A statement '..UptoSaid' is the law's where the arguments, and the package variables that the reading takes, are together of bulk at most 1048576: NARROWER than '..Said'. Prove '..Said' where nothing that the law and all that it calls make is longer than what came in: it says more and counts as full. Else prove '..UptoSaid'. A law counts once. -/
mutual
def uptoBulk {H : Type} : DataW H → Nat
  | .lit (.string bytes) => bytes.length + 1
  | .lit _ => 1
  | .nil => 1
  | .ptr d => uptoBulk d + 1
  | .slice elems spare => uptoBulkAll elems + uptoBulkAll spare + 1
  | .agg parts => uptoBulkAll parts + 1
  | .iface _ d => uptoBulk d + 1
  | .map entries => uptoBulkEntries entries + 1
  | .held _ => 1
def uptoBulkAll {H : Type} : List (DataW H) → Nat
  | [] => 0
  | d :: r => uptoBulk d + uptoBulkAll r
def uptoBulkEntries {H : Type} : List (Lit × DataW H) → Nat
  | [] => 0
  | x :: r => uptoBulkEntry x + uptoBulkEntries r
def uptoBulkEntry {H : Type} : Lit × DataW H → Nat
  | (.string bytes, d) => bytes.length + uptoBulk d + 1
  | (_, d) => uptoBulk d + 1
 end
def uptoSmall : (H : Type) → List (DataW H) → Bool := fun _ ds => decide (uptoBulkAll ds ≤ 1048576)
def OpenSpec.upto (s : _root_.Go.ChangeSpec) : _root_.Go.OpenSpec := { _root_.Go.OpenSpec.ofChange s with cond := some uptoSmall }

/-- 'watchbilllaw10.CeilSets', WHERE WHAT IT READS IS OF BULK AT MOST 1048576: true; the input reads as it did. -/
def ceilSetsUptoRow : OpenClaim := { program := "ytniphoeoeekpbaa", sum := "a648dbc07a96625d433853877c6621e985b85fbbe6d7f6a0d5b928e1a5331ce9", func := "watchbill/watchbilllaw10.CeilSets", spec := "ceilSets", unfollowed := true, recurses := true, apart := false, narrowed := true }
def CeilSetsUptoSaid : Prop := ceilSetsUptoRow.holds Try.pinned (OpenSpec.upto ceilSetsSpec)

/-- 'watchbilllaw10.CeilUsers', WHERE WHAT IT READS IS OF BULK AT MOST 1048576: true; the input reads as it did. -/
def ceilUsersUptoRow : OpenClaim := { program := "ytniphoeoeekpbaa", sum := "a648dbc07a96625d433853877c6621e985b85fbbe6d7f6a0d5b928e1a5331ce9", func := "watchbill/watchbilllaw10.CeilUsers", spec := "ceilUsers", unfollowed := true, recurses := true, apart := false, narrowed := true }
def CeilUsersUptoSaid : Prop := ceilUsersUptoRow.holds Try.pinned (OpenSpec.upto ceilUsersSpec)

/-- 'watchbilllaw10.CeilNested', WHERE WHAT IT READS IS OF BULK AT MOST 1048576: true; the input reads as it did. -/
def ceilNestedUptoRow : OpenClaim := { program := "ytniphoeoeekpbaa", sum := "a648dbc07a96625d433853877c6621e985b85fbbe6d7f6a0d5b928e1a5331ce9", func := "watchbill/watchbilllaw10.CeilNested", spec := "ceilNested", unfollowed := true, recurses := true, apart := false, narrowed := true }
def CeilNestedUptoSaid : Prop := ceilNestedUptoRow.holds Try.pinned (OpenSpec.upto ceilNestedSpec)

end Rows
end Go.Proofs.Ytniphoeoeekpbaa
