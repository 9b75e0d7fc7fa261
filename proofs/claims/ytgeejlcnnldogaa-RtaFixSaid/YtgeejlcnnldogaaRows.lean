/-
  No cell of these rows narrows 'for every input' (looked for: loops, veiled, ifaces, maps, wideKeys, modest, calm, conditions, laid).
  DERIVED. THE GIVEN ROWS OF THIS SEAT. 6 by the template 'for every input the law returns true; each argument reads behind the call as it read before'; 0 by the template 'total and deterministic' (their statements: YtgeejlcnnldogaaTotals.lean).
  GIVEN WITH THE SEED: the statements are not yours to turn. If you find one false, say at which input.
  Laid BY PROGRAM, IN A SANDBOX (cutbox-rows.mjs): the forced cells as the released guide's own fill.sh prints them over the translation 6154366c81bdc24c… (all of the seat's roots in one cut). By AI agents, Wed Nov 11 2026. No macro, syntax, notation, axiom, sorry.
-/
import Derived.Test.YtgeejlcnnldogaaChecked
import GoSem.Claim
import GoSem.ClaimJoined
import GoSem.ClaimMapViews
import Derived.JoinedTies
import Derived.KernelRfl
namespace Go.Proofs.Ytgeejlcnnldogaa
/- THE CELL 'sum', in the pinned program and in every row, IS THE sha256 OF THE DUMP (.gsa) THAT YtgeejlcnnldogaaProg.lean LOADS. Nothing in Lean hashes anything: it is a label: what it is worth is what the hold of that sum in a sandbox is worth. -/
noncomputable def Try.pinned : Pinned := { name := "ytgeejlcnnldogaa", sum := "6154366c81bdc24c49fd355ef6b48bfd42268b580c9c385600d51b81b645f32e", checked := Try.checked }
namespace Rows
def none {H : Type} : Left H := { results := [], args := [] }

/-- 'watchbilllaw12.RtaNext': WHATEVER THE INPUT: true; the input reads as it did. -/
def rtaNextSpec : ChangeSpec := { name := "rtaNext", fn := fun _ => fun
  | [d1, d2, d3] => { results := [.lit (.bool true)], args := [d1, d2, d3] }
  | _ => none }
def rtaNextRow : OpenClaim := { program := "ytgeejlcnnldogaa", sum := "6154366c81bdc24c49fd355ef6b48bfd42268b580c9c385600d51b81b645f32e", func := "watchbill/watchbilllaw12.RtaNext", spec := "rtaNext", unfollowed := true, recurses := true, apart := false }
def RtaNextSaid : Prop := rtaNextRow.holds Try.pinned (OpenSpec.ofChange rtaNextSpec)

/-- ITS FALSE NEIGHBOUR: 'it returns false'. Refute it at one input. -/
def rtaNextWrong : ChangeSpec := { name := "rtaNext", fn := fun _ => fun
  | [d1, d2, d3] => { results := [.lit (.bool false)], args := [d1, d2, d3] }
  | _ => none }
def RtaNextWrongFalsely : Prop := rtaNextRow.holds Try.pinned (OpenSpec.ofChange rtaNextWrong)

/-- 'watchbilllaw12.RtaFix': WHATEVER THE INPUT: true; the input reads as it did. -/
def rtaFixSpec : ChangeSpec := { name := "rtaFix", fn := fun _ => fun
  | [d1, d2, d3] => { results := [.lit (.bool true)], args := [d1, d2, d3] }
  | _ => none }
def rtaFixRow : OpenClaim := { program := "ytgeejlcnnldogaa", sum := "6154366c81bdc24c49fd355ef6b48bfd42268b580c9c385600d51b81b645f32e", func := "watchbill/watchbilllaw12.RtaFix", spec := "rtaFix", unfollowed := true, recurses := true, apart := false }
def RtaFixSaid : Prop := rtaFixRow.holds Try.pinned (OpenSpec.ofChange rtaFixSpec)

/-- ITS FALSE NEIGHBOUR: 'it returns false'. Refute it at one input. -/
def rtaFixWrong : ChangeSpec := { name := "rtaFix", fn := fun _ => fun
  | [d1, d2, d3] => { results := [.lit (.bool false)], args := [d1, d2, d3] }
  | _ => none }
def RtaFixWrongFalsely : Prop := rtaFixRow.holds Try.pinned (OpenSpec.ofChange rtaFixWrong)

/-- 'watchbilllaw12.RtaSets': WHATEVER THE INPUT: true; the input reads as it did. -/
def rtaSetsSpec : ChangeSpec := { name := "rtaSets", fn := fun _ => fun
  | [d1, d2] => { results := [.lit (.bool true)], args := [d1, d2] }
  | _ => none }
def rtaSetsRow : OpenClaim := { program := "ytgeejlcnnldogaa", sum := "6154366c81bdc24c49fd355ef6b48bfd42268b580c9c385600d51b81b645f32e", func := "watchbill/watchbilllaw12.RtaSets", spec := "rtaSets", unfollowed := true, recurses := true, apart := false }
def RtaSetsSaid : Prop := rtaSetsRow.holds Try.pinned (OpenSpec.ofChange rtaSetsSpec)

/-- ITS FALSE NEIGHBOUR: 'it returns false'. Refute it at one input. -/
def rtaSetsWrong : ChangeSpec := { name := "rtaSets", fn := fun _ => fun
  | [d1, d2] => { results := [.lit (.bool false)], args := [d1, d2] }
  | _ => none }
def RtaSetsWrongFalsely : Prop := rtaSetsRow.holds Try.pinned (OpenSpec.ofChange rtaSetsWrong)

/-- 'watchbilllaw12.RtaMore': WHATEVER THE INPUT: true; the input reads as it did. -/
def rtaMoreSpec : ChangeSpec := { name := "rtaMore", fn := fun _ => fun
  | [d1, d2, d3, d4] => { results := [.lit (.bool true)], args := [d1, d2, d3, d4] }
  | _ => none }
def rtaMoreRow : OpenClaim := { program := "ytgeejlcnnldogaa", sum := "6154366c81bdc24c49fd355ef6b48bfd42268b580c9c385600d51b81b645f32e", func := "watchbill/watchbilllaw12.RtaMore", spec := "rtaMore", unfollowed := true, recurses := true, apart := false }
def RtaMoreSaid : Prop := rtaMoreRow.holds Try.pinned (OpenSpec.ofChange rtaMoreSpec)

/-- ITS FALSE NEIGHBOUR: 'it returns false'. Refute it at one input. -/
def rtaMoreWrong : ChangeSpec := { name := "rtaMore", fn := fun _ => fun
  | [d1, d2, d3, d4] => { results := [.lit (.bool false)], args := [d1, d2, d3, d4] }
  | _ => none }
def RtaMoreWrongFalsely : Prop := rtaMoreRow.holds Try.pinned (OpenSpec.ofChange rtaMoreWrong)

/-- 'watchbilllaw12.RtaBounds': WHATEVER THE INPUT: true; the input reads as it did. -/
def rtaBoundsSpec : ChangeSpec := { name := "rtaBounds", fn := fun _ => fun
  | [d1, d2, d3] => { results := [.lit (.bool true)], args := [d1, d2, d3] }
  | _ => none }
def rtaBoundsRow : OpenClaim := { program := "ytgeejlcnnldogaa", sum := "6154366c81bdc24c49fd355ef6b48bfd42268b580c9c385600d51b81b645f32e", func := "watchbill/watchbilllaw12.RtaBounds", spec := "rtaBounds", unfollowed := true, recurses := true, apart := false }
def RtaBoundsSaid : Prop := rtaBoundsRow.holds Try.pinned (OpenSpec.ofChange rtaBoundsSpec)

/-- ITS FALSE NEIGHBOUR: 'it returns false'. Refute it at one input. -/
def rtaBoundsWrong : ChangeSpec := { name := "rtaBounds", fn := fun _ => fun
  | [d1, d2, d3] => { results := [.lit (.bool false)], args := [d1, d2, d3] }
  | _ => none }
def RtaBoundsWrongFalsely : Prop := rtaBoundsRow.holds Try.pinned (OpenSpec.ofChange rtaBoundsWrong)

/-- 'watchbilllaw12.RtaSums': WHATEVER THE INPUT: true; the input reads as it did. -/
def rtaSumsSpec : ChangeSpec := { name := "rtaSums", fn := fun _ => fun
  | [d1, d2, d3] => { results := [.lit (.bool true)], args := [d1, d2, d3] }
  | _ => none }
def rtaSumsRow : OpenClaim := { program := "ytgeejlcnnldogaa", sum := "6154366c81bdc24c49fd355ef6b48bfd42268b580c9c385600d51b81b645f32e", func := "watchbill/watchbilllaw12.RtaSums", spec := "rtaSums", unfollowed := true, recurses := true, apart := false }
def RtaSumsSaid : Prop := rtaSumsRow.holds Try.pinned (OpenSpec.ofChange rtaSumsSpec)

/-- ITS FALSE NEIGHBOUR: 'it returns false'. Refute it at one input. -/
def rtaSumsWrong : ChangeSpec := { name := "rtaSums", fn := fun _ => fun
  | [d1, d2, d3] => { results := [.lit (.bool false)], args := [d1, d2, d3] }
  | _ => none }
def RtaSumsWrongFalsely : Prop := rtaSumsRow.holds Try.pinned (OpenSpec.ofChange rtaSumsWrong)

/- THE SECOND FORM. 'bulk': how many values and letters a reading holds, each counted each time it is reached (what is shared counts as often as it is met; a slice's spare places count too). A statement '..UptoSaid' is the law's where the arguments, and the package variables that the reading takes, are together of bulk at most 1048576: NARROWER than '..Said'. Prove '..Said' where nothing that the law and all that it calls make is longer than what came in: it says more and counts as full. Else prove '..UptoSaid'. A law counts once. -/
mutual
def uptoBulk {H : Type} : DataW H → Nat
  | .lit (.string bytes) => bytes.length + 1
  | .lit _ => 1
  | .nil => 1
  | .ptr d => uptoBulk d + 1
  | .slice elems spare => uptoBulkAll elems + uptoBulkAll spare + 1
  | .agg parts => uptoBulkAll parts + 1
  | .iface _ d => uptoBulk d + 1
  | .map entries => uptoBulkEntries entries + 1
  | .held _ => 1
def uptoBulkAll {H : Type} : List (DataW H) → Nat
  | [] => 0
  | d :: r => uptoBulk d + uptoBulkAll r
def uptoBulkEntries {H : Type} : List (Lit × DataW H) → Nat
  | [] => 0
  | x :: r => uptoBulkEntry x + uptoBulkEntries r
def uptoBulkEntry {H : Type} : Lit × DataW H → Nat
  | (.string bytes, d) => bytes.length + uptoBulk d + 1
  | (_, d) => uptoBulk d + 1
 end
def uptoSmall : (H : Type) → List (DataW H) → Bool := fun _ ds => decide (uptoBulkAll ds ≤ 1048576)
def OpenSpec.upto (s : _root_.Go.ChangeSpec) : _root_.Go.OpenSpec := { _root_.Go.OpenSpec.ofChange s with cond := some uptoSmall }

/-- 'watchbilllaw12.RtaNext', WHERE WHAT IT READS IS OF BULK AT MOST 1048576: true; the input reads as it did. -/
def rtaNextUptoRow : OpenClaim := { program := "ytgeejlcnnldogaa", sum := "6154366c81bdc24c49fd355ef6b48bfd42268b580c9c385600d51b81b645f32e", func := "watchbill/watchbilllaw12.RtaNext", spec := "rtaNext", unfollowed := true, recurses := true, apart := false, narrowed := true }
def RtaNextUptoSaid : Prop := rtaNextUptoRow.holds Try.pinned (OpenSpec.upto rtaNextSpec)

/-- 'watchbilllaw12.RtaFix', WHERE WHAT IT READS IS OF BULK AT MOST 1048576: true; the input reads as it did. -/
def rtaFixUptoRow : OpenClaim := { program := "ytgeejlcnnldogaa", sum := "6154366c81bdc24c49fd355ef6b48bfd42268b580c9c385600d51b81b645f32e", func := "watchbill/watchbilllaw12.RtaFix", spec := "rtaFix", unfollowed := true, recurses := true, apart := false, narrowed := true }
def RtaFixUptoSaid : Prop := rtaFixUptoRow.holds Try.pinned (OpenSpec.upto rtaFixSpec)

/-- 'watchbilllaw12.RtaSets', WHERE WHAT IT READS IS OF BULK AT MOST 1048576: true; the input reads as it did. -/
def rtaSetsUptoRow : OpenClaim := { program := "ytgeejlcnnldogaa", sum := "6154366c81bdc24c49fd355ef6b48bfd42268b580c9c385600d51b81b645f32e", func := "watchbill/watchbilllaw12.RtaSets", spec := "rtaSets", unfollowed := true, recurses := true, apart := false, narrowed := true }
def RtaSetsUptoSaid : Prop := rtaSetsUptoRow.holds Try.pinned (OpenSpec.upto rtaSetsSpec)

/-- 'watchbilllaw12.RtaMore', WHERE WHAT IT READS IS OF BULK AT MOST 1048576: true; the input reads as it did. -/
def rtaMoreUptoRow : OpenClaim := { program := "ytgeejlcnnldogaa", sum := "6154366c81bdc24c49fd355ef6b48bfd42268b580c9c385600d51b81b645f32e", func := "watchbill/watchbilllaw12.RtaMore", spec := "rtaMore", unfollowed := true, recurses := true, apart := false, narrowed := true }
def RtaMoreUptoSaid : Prop := rtaMoreUptoRow.holds Try.pinned (OpenSpec.upto rtaMoreSpec)

/-- 'watchbilllaw12.RtaBounds', WHERE WHAT IT READS IS OF BULK AT MOST 1048576: true; the input reads as it did. -/
def rtaBoundsUptoRow : OpenClaim := { program := "ytgeejlcnnldogaa", sum := "6154366c81bdc24c49fd355ef6b48bfd42268b580c9c385600d51b81b645f32e", func := "watchbill/watchbilllaw12.RtaBounds", spec := "rtaBounds", unfollowed := true, recurses := true, apart := false, narrowed := true }
def RtaBoundsUptoSaid : Prop := rtaBoundsUptoRow.holds Try.pinned (OpenSpec.upto rtaBoundsSpec)

/-- 'watchbilllaw12.RtaSums', WHERE WHAT IT READS IS OF BULK AT MOST 1048576: true; the input reads as it did. -/
def rtaSumsUptoRow : OpenClaim := { program := "ytgeejlcnnldogaa", sum := "6154366c81bdc24c49fd355ef6b48bfd42268b580c9c385600d51b81b645f32e", func := "watchbill/watchbilllaw12.RtaSums", spec := "rtaSums", unfollowed := true, recurses := true, apart := false, narrowed := true }
def RtaSumsUptoSaid : Prop := rtaSumsUptoRow.holds Try.pinned (OpenSpec.upto rtaSumsSpec)

end Rows
end Go.Proofs.Ytgeejlcnnldogaa
