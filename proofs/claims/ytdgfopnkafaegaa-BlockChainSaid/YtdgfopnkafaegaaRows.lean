/-
  No cell of these rows narrows 'for every input' (looked for: loops, veiled, ifaces, maps, wideKeys, modest, calm, conditions, laid).
  DERIVED. THE GIVEN ROWS OF THIS SEAT. 4 by the template 'for every input the law returns true; each argument reads behind the call as it read before'; 0 by the template 'total and deterministic' (their statements: YtdgfopnkafaegaaTotals.lean).
  GIVEN WITH THE SEED: the statements are not yours to turn. If you find one false, say at which input.
  Laid BY PROGRAM, IN A SANDBOX (cutbox-rows.mjs): the forced cells as the released guide's own fill.sh prints them over the translation 580c107f9ae8a7cc… (all of the seat's roots in one cut). By AI agents, Wed Nov 11 2026. No macro, syntax, notation, axiom, sorry.
-/
import Derived.Test.YtdgfopnkafaegaaChecked
import GoSem.Claim
import GoSem.ClaimJoined
import GoSem.ClaimMapViews
import Derived.JoinedTies
import Derived.KernelRfl
namespace Go.Proofs.Ytdgfopnkafaegaa
/- THE CELL 'sum', in the pinned program and in every row, IS THE sha256 OF THE DUMP (.gsa) THAT YtdgfopnkafaegaaProg.lean LOADS. Nothing in Lean hashes anything: it is a label: what it is worth is what the hold of that sum in a sandbox is worth. -/
noncomputable def Try.pinned : Pinned := { name := "ytdgfopnkafaegaa", sum := "580c107f9ae8a7cce36d7fba397feb7d0fe071661149095ccca9e717b04ea3b3", checked := Try.checked }
namespace Rows
def none {H : Type} : Left H := { results := [], args := [] }

/-- 'watchbilllaw11.BlockSets': WHATEVER THE INPUT: true; the input reads as it did. -/
def blockSetsSpec : ChangeSpec := { name := "blockSets", fn := fun _ => fun
  | [d] => { results := [.lit (.bool true)], args := [d] }
  | _ => none }
def blockSetsRow : OpenClaim := { program := "ytdgfopnkafaegaa", sum := "580c107f9ae8a7cce36d7fba397feb7d0fe071661149095ccca9e717b04ea3b3", func := "watchbill/watchbilllaw11.BlockSets", spec := "blockSets", unfollowed := true, recurses := true, apart := false }
def BlockSetsSaid : Prop := blockSetsRow.holds Try.pinned (OpenSpec.ofChange blockSetsSpec)

/-- ITS FALSE NEIGHBOUR: 'it returns false'. Refute it at one input. -/
def blockSetsWrong : ChangeSpec := { name := "blockSets", fn := fun _ => fun
  | [d] => { results := [.lit (.bool false)], args := [d] }
  | _ => none }
def BlockSetsWrongFalsely : Prop := blockSetsRow.holds Try.pinned (OpenSpec.ofChange blockSetsWrong)

/-- 'watchbilllaw11.BlockFree': WHATEVER THE INPUT: true; the input reads as it did. -/
def blockFreeSpec : ChangeSpec := { name := "blockFree", fn := fun _ => fun
  | [d] => { results := [.lit (.bool true)], args := [d] }
  | _ => none }
def blockFreeRow : OpenClaim := { program := "ytdgfopnkafaegaa", sum := "580c107f9ae8a7cce36d7fba397feb7d0fe071661149095ccca9e717b04ea3b3", func := "watchbill/watchbilllaw11.BlockFree", spec := "blockFree", unfollowed := true, recurses := true, apart := false }
def BlockFreeSaid : Prop := blockFreeRow.holds Try.pinned (OpenSpec.ofChange blockFreeSpec)

/-- ITS FALSE NEIGHBOUR: 'it returns false'. Refute it at one input. -/
def blockFreeWrong : ChangeSpec := { name := "blockFree", fn := fun _ => fun
  | [d] => { results := [.lit (.bool false)], args := [d] }
  | _ => none }
def BlockFreeWrongFalsely : Prop := blockFreeRow.holds Try.pinned (OpenSpec.ofChange blockFreeWrong)

/-- 'watchbilllaw11.BlockChain': WHATEVER THE INPUT: true; the input reads as it did. -/
def blockChainSpec : ChangeSpec := { name := "blockChain", fn := fun _ => fun
  | [d1, d2] => { results := [.lit (.bool true)], args := [d1, d2] }
  | _ => none }
def blockChainRow : OpenClaim := { program := "ytdgfopnkafaegaa", sum := "580c107f9ae8a7cce36d7fba397feb7d0fe071661149095ccca9e717b04ea3b3", func := "watchbill/watchbilllaw11.BlockChain", spec := "blockChain", unfollowed := true, recurses := true, apart := false }
def BlockChainSaid : Prop := blockChainRow.holds Try.pinned (OpenSpec.ofChange blockChainSpec)

/-- ITS FALSE NEIGHBOUR: 'it returns false'. Refute it at one input. -/
def blockChainWrong : ChangeSpec := { name := "blockChain", fn := fun _ => fun
  | [d1, d2] => { results := [.lit (.bool false)], args := [d1, d2] }
  | _ => none }
def BlockChainWrongFalsely : Prop := blockChainRow.holds Try.pinned (OpenSpec.ofChange blockChainWrong)

/-- 'watchbilllaw11.BlockBudgets': WHATEVER THE INPUT: true; the input reads as it did. -/
def blockBudgetsSpec : ChangeSpec := { name := "blockBudgets", fn := fun _ => fun
  | [d1, d2] => { results := [.lit (.bool true)], args := [d1, d2] }
  | _ => none }
def blockBudgetsRow : OpenClaim := { program := "ytdgfopnkafaegaa", sum := "580c107f9ae8a7cce36d7fba397feb7d0fe071661149095ccca9e717b04ea3b3", func := "watchbill/watchbilllaw11.BlockBudgets", spec := "blockBudgets", unfollowed := true, recurses := true, apart := false }
def BlockBudgetsSaid : Prop := blockBudgetsRow.holds Try.pinned (OpenSpec.ofChange blockBudgetsSpec)

/-- ITS FALSE NEIGHBOUR: 'it returns false'. Refute it at one input. -/
def blockBudgetsWrong : ChangeSpec := { name := "blockBudgets", fn := fun _ => fun
  | [d1, d2] => { results := [.lit (.bool false)], args := [d1, d2] }
  | _ => none }
def BlockBudgetsWrongFalsely : Prop := blockBudgetsRow.holds Try.pinned (OpenSpec.ofChange blockBudgetsWrong)

/- THE SECOND FORM. 'bulk': how many values and letters a reading holds, each counted each time it is reached (what is shared counts as often as it is met; a slice's spare places count too). A statement '..UptoSaid' is the law's where the arguments, and the package variables that the reading takes, are together of bulk at most 1048576: NARROWER than '..Said'. Prove '..Said' where nothing that the law and all that it calls make is longer than what came in: it says more and counts as full. Else prove '..UptoSaid'. A law counts once. -/
mutual
def uptoBulk {H : Type} : DataW H → Nat
  | .lit (.string bytes) => bytes.length + 1
  | .lit _ => 1
  | .nil => 1
  | .ptr d => uptoBulk d + 1
  | .slice elems spare => uptoBulkAll elems + uptoBulkAll spare + 1
  | .agg parts => uptoBulkAll parts + 1
  | .iface _ d => uptoBulk d + 1
  | .map entries => uptoBulkEntries entries + 1
  | .held _ => 1
def uptoBulkAll {H : Type} : List (DataW H) → Nat
  | [] => 0
  | d :: r => uptoBulk d + uptoBulkAll r
def uptoBulkEntries {H : Type} : List (Lit × DataW H) → Nat
  | [] => 0
  | x :: r => uptoBulkEntry x + uptoBulkEntries r
def uptoBulkEntry {H : Type} : Lit × DataW H → Nat
  | (.string bytes, d) => bytes.length + uptoBulk d + 1
  | (_, d) => uptoBulk d + 1
 end
def uptoSmall : (H : Type) → List (DataW H) → Bool := fun _ ds => decide (uptoBulkAll ds ≤ 1048576)
def OpenSpec.upto (s : _root_.Go.ChangeSpec) : _root_.Go.OpenSpec := { _root_.Go.OpenSpec.ofChange s with cond := some uptoSmall }

/-- 'watchbilllaw11.BlockSets', WHERE WHAT IT READS IS OF BULK AT MOST 1048576: true; the input reads as it did. -/
def blockSetsUptoRow : OpenClaim := { program := "ytdgfopnkafaegaa", sum := "580c107f9ae8a7cce36d7fba397feb7d0fe071661149095ccca9e717b04ea3b3", func := "watchbill/watchbilllaw11.BlockSets", spec := "blockSets", unfollowed := true, recurses := true, apart := false, narrowed := true }
def BlockSetsUptoSaid : Prop := blockSetsUptoRow.holds Try.pinned (OpenSpec.upto blockSetsSpec)

/-- 'watchbilllaw11.BlockFree', WHERE WHAT IT READS IS OF BULK AT MOST 1048576: true; the input reads as it did. -/
def blockFreeUptoRow : OpenClaim := { program := "ytdgfopnkafaegaa", sum := "580c107f9ae8a7cce36d7fba397feb7d0fe071661149095ccca9e717b04ea3b3", func := "watchbill/watchbilllaw11.BlockFree", spec := "blockFree", unfollowed := true, recurses := true, apart := false, narrowed := true }
def BlockFreeUptoSaid : Prop := blockFreeUptoRow.holds Try.pinned (OpenSpec.upto blockFreeSpec)

/-- 'watchbilllaw11.BlockChain', WHERE WHAT IT READS IS OF BULK AT MOST 1048576: true; the input reads as it did. -/
def blockChainUptoRow : OpenClaim := { program := "ytdgfopnkafaegaa", sum := "580c107f9ae8a7cce36d7fba397feb7d0fe071661149095ccca9e717b04ea3b3", func := "watchbill/watchbilllaw11.BlockChain", spec := "blockChain", unfollowed := true, recurses := true, apart := false, narrowed := true }
def BlockChainUptoSaid : Prop := blockChainUptoRow.holds Try.pinned (OpenSpec.upto blockChainSpec)

/-- 'watchbilllaw11.BlockBudgets', WHERE WHAT IT READS IS OF BULK AT MOST 1048576: true; the input reads as it did. -/
def blockBudgetsUptoRow : OpenClaim := { program := "ytdgfopnkafaegaa", sum := "580c107f9ae8a7cce36d7fba397feb7d0fe071661149095ccca9e717b04ea3b3", func := "watchbill/watchbilllaw11.BlockBudgets", spec := "blockBudgets", unfollowed := true, recurses := true, apart := false, narrowed := true }
def BlockBudgetsUptoSaid : Prop := blockBudgetsUptoRow.holds Try.pinned (OpenSpec.upto blockBudgetsSpec)

end Rows
end Go.Proofs.Ytdgfopnkafaegaa
