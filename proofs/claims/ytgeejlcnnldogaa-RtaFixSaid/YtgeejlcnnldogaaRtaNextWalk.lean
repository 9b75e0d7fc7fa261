/- RtaNext: one round of the program is the reference's, at whatever numbers. -/
import Derived.Test.YtgeejlcnnldogaaRtaRef
import Derived.Test.YtgeejlcnnldogaaOpenK
import Derived.Test.YtgeejlcnnldogaaXAx11
namespace Go.Proofs.Ytgeejlcnnldogaa.Pure
set_option linter.unusedVariables false
set_option linter.unusedSimpArgs false
open Go.RowKit Go.Proofs.Ytgeejlcnnldogaa.XA Go.Proofs.YtgeejlcnnldogaaW.PrintWords Go.Proofs.YtgeejlcnnldogaaW.PrintLast

/-- Both of a load's numbers are numbers of 64 bits. -/
def WfL (x : S58) : Prop := (Lit.int .i64 x.f0).wf = true ∧ (Lit.int .i64 x.f1).wf = true
theorem i64_of {x : Int} (h : (Lit.int .i64 x).wf = true) : -9223372036854775808 ≤ x ∧ x ≤ 9223372036854775807 := by
  simp [Lit.wf, IntKind.min, IntKind.max, IntKind.bits, IntKind.signed] at h
  omega
theorem RtaNext_ev (r own : Int) (l : List S58) (hr : (Lit.int .i64 r).wf = true) (ho : (Lit.int .i64 own).wf = true) (hl : ∀ x ∈ l, WfL x) : Ev (fun k => watchbilllaw12_RtaNext.f k r own l) true := by
  have hr' := i64_of hr
  have ho' := i64_of ho
  unfold watchbilllaw12_RtaNext.f watchbilllaw12_known.f
  simp only [Option.bind_some, if_true]
  by_cases h1 : (l.length : Int) > 30
  · exact Ev.congr (fun k => by rw [if_pos h1]) (Ev.now true)
  · refine Ev.congr (fun k => by rw [if_neg h1]) ?_
    have hup : ∀ x ∈ l, x.f1 ≤ 9223372036854775807 := fun x hx => (i64_of (hl x hx).2).2
    refine Ev.bind (next_any r own hr'.2 ho'.2 l hup (by omega)) (Ev.bind (loads_ev l (by omega)) (Ev.bind (ref_any r own hr'.2 ho'.2 l hup (by omega)) ?_))
    simp only [if_true, beq_self_eq_true]
    exact Ev.now true
theorem rtaNext_walk (r own : Int) (a : Option Addr) (cap : Nat) (l : List S58) (W : World) (hr : (Lit.int .i64 r).wf = true) (ho : (Lit.int .i64 own).wf = true) (hc : l.length ≤ cap) (h : Kd.C k58 W a l.length l) (hl : ∀ x ∈ l, WfL x) :
    Calls Try.prog 3 #[.int .i64 r, .int .i64 own, .slice a l.length cap] W fun e w' => e = .returned (.bool true) ∧ Below W.heap.size W w' := by
  obtain ⟨k, hk⟩ := (RtaNext_ev r own l hr ho hl).rounds
  exact watchbilllaw12_RtaNext.calls k r own a cap l true W h hc hk
open Go.ChangeShapes Go.WideShapes
theorem rd_loads {H : Type} {enc0 : TypeId × Value → H} {W : World} {base fuel len cap : Nat} {held : Bool} {a : Option Addr} {y : DataW H × List MemPlace} (h : DataW.trod enc0 Try.prog W base (fun _ => true) held fuel 22 [.slice a len cap] = some y) :
    ∃ xs : List S58, len = xs.length ∧ xs.length ≤ cap ∧ Kd.C k58 W a xs.length xs ∧ ∀ x ∈ xs, WfL x := by
  haveI : Inhabited S58 := ⟨z58⟩
  exact OpenK.open_rowK k58 WfL Try.underlying22 (by kernel_rfl) (fun n cs z hz => by
    obtain ⟨p, q, rfl, hp, hq⟩ := OpenK.open_ints2 Try.underlying58 (by kernel_rfl) rfl rfl (by kernel_rfl) (by kernel_rfl) Try.underlying2 Try.underlying2 hz
    exact ⟨⟨p, q⟩, k58_mk W ⟨p, q⟩, hp, hq⟩) h
end Go.Proofs.Ytgeejlcnnldogaa.Pure
