/-
  No cell of these rows narrows 'for every input' (looked for: loops, veiled, ifaces, maps, wideKeys, modest, calm, conditions, laid).
  DERIVED. THE GIVEN ROWS OF THIS SEAT. 5 by the template 'for every input the law returns true; each argument reads behind the call as it read before'; 0 by the template 'total and deterministic' (their statements: YthchclhleppdhaaTotals.lean).
  GIVEN WITH THE SEED: the statements are not yours to turn. If you find one false, say at which input.
  Laid BY PROGRAM, IN A SANDBOX (cutbox-rows.mjs): the forced cells as the released guide's own fill.sh prints them over the translation 34dedb3d3b48287f… (all of the seat's roots in one cut). By AI agents, Wed Nov 11 2026. No macro, syntax, notation, axiom, sorry.
-/
import Derived.Test.YthchclhleppdhaaChecked
import GoSem.Claim
import GoSem.ClaimJoined
import GoSem.ClaimMapViews
import Derived.JoinedTies
import Derived.KernelRfl
namespace Go.Proofs.Ythchclhleppdhaa
/- THE CELL 'sum', in the pinned program and in every row, IS THE sha256 OF THE DUMP (.gsa) THAT YthchclhleppdhaaProg.lean LOADS. Nothing in Lean hashes anything: it is a label: what it is worth is what the hold of that sum in a sandbox is worth. -/
noncomputable def Try.pinned : Pinned := { name := "ythchclhleppdhaa", sum := "34dedb3d3b48287f3ed926e010364f91e97ff8276f64fc29f37d220496da1e7d", checked := Try.checked }
namespace Rows
def none {H : Type} : Left H := { results := [], args := [] }

/-- 'watchbilllaw15.ChanFirst': WHATEVER THE INPUT: true; the input reads as it did. -/
def chanFirstSpec : ChangeSpec := { name := "chanFirst", fn := fun _ => fun
  | [d1, d2] => { results := [.lit (.bool true)], args := [d1, d2] }
  | _ => none }
def chanFirstRow : OpenClaim := { program := "ythchclhleppdhaa", sum := "34dedb3d3b48287f3ed926e010364f91e97ff8276f64fc29f37d220496da1e7d", func := "watchbill/watchbilllaw15.ChanFirst", spec := "chanFirst", unfollowed := true, recurses := true, apart := false }
def ChanFirstSaid : Prop := chanFirstRow.holds Try.pinned (OpenSpec.ofChange chanFirstSpec)

/-- ITS FALSE NEIGHBOUR: 'it returns false'. Refute it at one input. -/
def chanFirstWrong : ChangeSpec := { name := "chanFirst", fn := fun _ => fun
  | [d1, d2] => { results := [.lit (.bool false)], args := [d1, d2] }
  | _ => none }
def ChanFirstWrongFalsely : Prop := chanFirstRow.holds Try.pinned (OpenSpec.ofChange chanFirstWrong)

/-- 'watchbilllaw15.ChanCloses': WHATEVER THE INPUT: true; the input reads as it did. -/
def chanClosesSpec : ChangeSpec := { name := "chanCloses", fn := fun _ => fun
  | [d1, d2] => { results := [.lit (.bool true)], args := [d1, d2] }
  | _ => none }
def chanClosesRow : OpenClaim := { program := "ythchclhleppdhaa", sum := "34dedb3d3b48287f3ed926e010364f91e97ff8276f64fc29f37d220496da1e7d", func := "watchbill/watchbilllaw15.ChanCloses", spec := "chanCloses", unfollowed := true, recurses := true, apart := false }
def ChanClosesSaid : Prop := chanClosesRow.holds Try.pinned (OpenSpec.ofChange chanClosesSpec)

/-- ITS FALSE NEIGHBOUR: 'it returns false'. Refute it at one input. -/
def chanClosesWrong : ChangeSpec := { name := "chanCloses", fn := fun _ => fun
  | [d1, d2] => { results := [.lit (.bool false)], args := [d1, d2] }
  | _ => none }
def ChanClosesWrongFalsely : Prop := chanClosesRow.holds Try.pinned (OpenSpec.ofChange chanClosesWrong)

/-- 'watchbilllaw15.ChanFlows': WHATEVER THE INPUT: true; the input reads as it did. -/
def chanFlowsSpec : ChangeSpec := { name := "chanFlows", fn := fun _ => fun
  | [d1, d2] => { results := [.lit (.bool true)], args := [d1, d2] }
  | _ => none }
def chanFlowsRow : OpenClaim := { program := "ythchclhleppdhaa", sum := "34dedb3d3b48287f3ed926e010364f91e97ff8276f64fc29f37d220496da1e7d", func := "watchbill/watchbilllaw15.ChanFlows", spec := "chanFlows", unfollowed := true, recurses := true, apart := false }
def ChanFlowsSaid : Prop := chanFlowsRow.holds Try.pinned (OpenSpec.ofChange chanFlowsSpec)

/-- ITS FALSE NEIGHBOUR: 'it returns false'. Refute it at one input. -/
def chanFlowsWrong : ChangeSpec := { name := "chanFlows", fn := fun _ => fun
  | [d1, d2] => { results := [.lit (.bool false)], args := [d1, d2] }
  | _ => none }
def ChanFlowsWrongFalsely : Prop := chanFlowsRow.holds Try.pinned (OpenSpec.ofChange chanFlowsWrong)

/-- 'watchbilllaw15.ChanRooms': WHATEVER THE INPUT: true; the input reads as it did. -/
def chanRoomsSpec : ChangeSpec := { name := "chanRooms", fn := fun _ => fun
  | [d1, d2] => { results := [.lit (.bool true)], args := [d1, d2] }
  | _ => none }
def chanRoomsRow : OpenClaim := { program := "ythchclhleppdhaa", sum := "34dedb3d3b48287f3ed926e010364f91e97ff8276f64fc29f37d220496da1e7d", func := "watchbill/watchbilllaw15.ChanRooms", spec := "chanRooms", unfollowed := true, recurses := true, apart := false }
def ChanRoomsSaid : Prop := chanRoomsRow.holds Try.pinned (OpenSpec.ofChange chanRoomsSpec)

/-- ITS FALSE NEIGHBOUR: 'it returns false'. Refute it at one input. -/
def chanRoomsWrong : ChangeSpec := { name := "chanRooms", fn := fun _ => fun
  | [d1, d2] => { results := [.lit (.bool false)], args := [d1, d2] }
  | _ => none }
def ChanRoomsWrongFalsely : Prop := chanRoomsRow.holds Try.pinned (OpenSpec.ofChange chanRoomsWrong)

/-- 'watchbilllaw15.ChanPlays': WHATEVER THE INPUT: true; the input reads as it did. -/
def chanPlaysSpec : ChangeSpec := { name := "chanPlays", fn := fun _ => fun
  | [d1, d2] => { results := [.lit (.bool true)], args := [d1, d2] }
  | _ => none }
def chanPlaysRow : OpenClaim := { program := "ythchclhleppdhaa", sum := "34dedb3d3b48287f3ed926e010364f91e97ff8276f64fc29f37d220496da1e7d", func := "watchbill/watchbilllaw15.ChanPlays", spec := "chanPlays", unfollowed := true, recurses := true, apart := false }
def ChanPlaysSaid : Prop := chanPlaysRow.holds Try.pinned (OpenSpec.ofChange chanPlaysSpec)

/-- ITS FALSE NEIGHBOUR: 'it returns false'. Refute it at one input. -/
def chanPlaysWrong : ChangeSpec := { name := "chanPlays", fn := fun _ => fun
  | [d1, d2] => { results := [.lit (.bool false)], args := [d1, d2] }
  | _ => none }
def ChanPlaysWrongFalsely : Prop := chanPlaysRow.holds Try.pinned (OpenSpec.ofChange chanPlaysWrong)

/- THE SECOND FORM. 'bulk': how many values and letters a reading holds, each counted each time it is reached (what is shared counts as often as it is met; a slice's spare places count too). A statement '..UptoSaid' is the law's where the arguments, and the package variables that the reading takes, are together of bulk at most 1048576: NARROWER than '..Said'. Prove '..Said' where nothing that the law and all that it calls make is longer than what came in: it says more and counts as full. Else prove '..UptoSaid'. A law counts once. -/
mutual
def uptoBulk {H : Type} : DataW H → Nat
  | .lit (.string bytes) => bytes.length + 1
  | .lit _ => 1
  | .nil => 1
  | .ptr d => uptoBulk d + 1
  | .slice elems spare => uptoBulkAll elems + uptoBulkAll spare + 1
  | .agg parts => uptoBulkAll parts + 1
  | .iface _ d => uptoBulk d + 1
  | .map entries => uptoBulkEntries entries + 1
  | .held _ => 1
def uptoBulkAll {H : Type} : List (DataW H) → Nat
  | [] => 0
  | d :: r => uptoBulk d + uptoBulkAll r
def uptoBulkEntries {H : Type} : List (Lit × DataW H) → Nat
  | [] => 0
  | x :: r => uptoBulkEntry x + uptoBulkEntries r
def uptoBulkEntry {H : Type} : Lit × DataW H → Nat
  | (.string bytes, d) => bytes.length + uptoBulk d + 1
  | (_, d) => uptoBulk d + 1
 end
def uptoSmall : (H : Type) → List (DataW H) → Bool := fun _ ds => decide (uptoBulkAll ds ≤ 1048576)
def OpenSpec.upto (s : _root_.Go.ChangeSpec) : _root_.Go.OpenSpec := { _root_.Go.OpenSpec.ofChange s with cond := some uptoSmall }

/-- 'watchbilllaw15.ChanFirst', WHERE WHAT IT READS IS OF BULK AT MOST 1048576: true; the input reads as it did. -/
def chanFirstUptoRow : OpenClaim := { program := "ythchclhleppdhaa", sum := "34dedb3d3b48287f3ed926e010364f91e97ff8276f64fc29f37d220496da1e7d", func := "watchbill/watchbilllaw15.ChanFirst", spec := "chanFirst", unfollowed := true, recurses := true, apart := false, narrowed := true }
def ChanFirstUptoSaid : Prop := chanFirstUptoRow.holds Try.pinned (OpenSpec.upto chanFirstSpec)

/-- 'watchbilllaw15.ChanCloses', WHERE WHAT IT READS IS OF BULK AT MOST 1048576: true; the input reads as it did. -/
def chanClosesUptoRow : OpenClaim := { program := "ythchclhleppdhaa", sum := "34dedb3d3b48287f3ed926e010364f91e97ff8276f64fc29f37d220496da1e7d", func := "watchbill/watchbilllaw15.ChanCloses", spec := "chanCloses", unfollowed := true, recurses := true, apart := false, narrowed := true }
def ChanClosesUptoSaid : Prop := chanClosesUptoRow.holds Try.pinned (OpenSpec.upto chanClosesSpec)

/-- 'watchbilllaw15.ChanFlows', WHERE WHAT IT READS IS OF BULK AT MOST 1048576: true; the input reads as it did. -/
def chanFlowsUptoRow : OpenClaim := { program := "ythchclhleppdhaa", sum := "34dedb3d3b48287f3ed926e010364f91e97ff8276f64fc29f37d220496da1e7d", func := "watchbill/watchbilllaw15.ChanFlows", spec := "chanFlows", unfollowed := true, recurses := true, apart := false, narrowed := true }
def ChanFlowsUptoSaid : Prop := chanFlowsUptoRow.holds Try.pinned (OpenSpec.upto chanFlowsSpec)

/-- 'watchbilllaw15.ChanRooms', WHERE WHAT IT READS IS OF BULK AT MOST 1048576: true; the input reads as it did. -/
def chanRoomsUptoRow : OpenClaim := { program := "ythchclhleppdhaa", sum := "34dedb3d3b48287f3ed926e010364f91e97ff8276f64fc29f37d220496da1e7d", func := "watchbill/watchbilllaw15.ChanRooms", spec := "chanRooms", unfollowed := true, recurses := true, apart := false, narrowed := true }
def ChanRoomsUptoSaid : Prop := chanRoomsUptoRow.holds Try.pinned (OpenSpec.upto chanRoomsSpec)

/-- 'watchbilllaw15.ChanPlays', WHERE WHAT IT READS IS OF BULK AT MOST 1048576: true; the input reads as it did. -/
def chanPlaysUptoRow : OpenClaim := { program := "ythchclhleppdhaa", sum := "34dedb3d3b48287f3ed926e010364f91e97ff8276f64fc29f37d220496da1e7d", func := "watchbill/watchbilllaw15.ChanPlays", spec := "chanPlays", unfollowed := true, recurses := true, apart := false, narrowed := true }
def ChanPlaysUptoSaid : Prop := chanPlaysUptoRow.holds Try.pinned (OpenSpec.upto chanPlaysSpec)

end Rows
end Go.Proofs.Ythchclhleppdhaa
