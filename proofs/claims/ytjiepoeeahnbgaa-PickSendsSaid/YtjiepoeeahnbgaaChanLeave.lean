
/- Leave, Twin of package chanq. -/
import Derived.Test.YtjiepoeeahnbgaaChanRecv
import Derived.Test.YtjiepoeeahnbgaaRefWaitW
import Derived.Test.YtjiepoeeahnbgaaRowZ
import Derived.Test.YtjiepoeeahnbgaaWaitWithout
import Derived.Test.YtjiepoeeahnbgaaWaitWithout
import Derived.Test.YtjiepoeeahnbgaaBetIff
import Derived.Deep.RegionHeldLaw
import Derived.Deep.RegionLaw
namespace Go.Proofs.Ytjiepoeeahnbgaa
set_option linter.unusedVariables false
set_option linter.unusedSimpArgs false
open Go.RowKit
theorem keepW_leave (q : List Wt) (t : Int) : (q.filter fun x => !(x.task == t)) = leave q t := rfl
set_option maxHeartbeats 6400000 in
set_option maxRecDepth 100000 in
theorem chanLeave_any (p rp c room : Nat) (xs : List Int) (sq rq : List Wt) (cl : Bool) (t : Int) (w : World) (h : ChanP w p rp c room xs sq rq cl) (hms : sq.length ≤ 100000) (hmr : rq.length ≤ 100000) :
    Calls Try.prog 28 #[.pointer (some ⟨p, 0, none⟩), .int .i64 t] w fun e w' => e = .returned (.tuple #[]) ∧ ChanP w' p rp c room xs (leave sq t) (leave rq t) cl ∧ Upd [p] w w' := by
  obtain ⟨sa, sc, ra, rc, h1, h2, h3⟩ := h.ch.ex
  obtain ⟨c0, c1, c2, c3⟩ := four_cells h1
  have cf := four_frozen h1
  have hpl := h.ch.lt
  have mk : ∀ (a : Option Addr) (k : Nat) (q : List Wt), w.ownsRow 0 68 4 (.slice a q.length k) q.length (q.flatMap Wt.enc) → q.length ≤ 100000 → ∀ W, Upd [] w W → Calls Try.prog 44 #[.slice a q.length k, .int .i64 t] W fun e w' => ∃ a1 k1, e = .returned (.slice a1 (leave q t).length k1) ∧ Hid (∀ W', Upd [] w' W' → W'.ownsRow 0 68 4 (.slice a1 (leave q t).length k1) (leave q t).length ((leave q t).flatMap Wt.enc)) ∧ Upd [] w w' ∧ Upd [] W w' := by
    intro a k q ho hq W hW
    refine (without_any a k q t W ((Rd.of_own ho).keep0 hW) hq).mono ?_
    rintro e w' ⟨a1, k1, rfl, ho1, hu⟩
    exact ⟨a1, k1, rfl, Lib.hid (fun W' hW' => own_keep0 (own_lower ho1 (Nat.zero_le _)) hW'), hW.trans0 hu, hu⟩
  have HS := Lib.hid (mk sa sc sq h2 hms)
  have HR := Lib.hid (mk ra rc rq h3 hmr)
  have HH := Lib.hid (fun W (hW : Upd [] w W) => h.keep0 hW)
  have HC := Lib.hid (fun W (hW : Upd [] w W) => four_cells (hW.keep h1 (by simp)))
  have HF := Lib.hid (fun W (hW : Upd [] w W) => four_frozen (hW.keep h1 (by simp)))
  have hu0 := Upd.refl [] w
  clear h h1 h2 h3 mk
  go_enter Try.func28, Try.ntmps28
  go_wp2
  go_region_law (first
    | (have z_ := hu1; go_simp; go_at_call 44; refine Calls.mono (HR.out _ (by repeat (first | exact hu1 | refine Upd.drewN ?_ _ | refine Upd.drew ?_))) ?_; rintro e w2 ⟨a2, k2, rfl, HO2, hu2, hk2⟩; obtain ⟨c0, c1, c2, c3⟩ := HC.out _ hu2; have cf := HF.out _ hu2; dsimp only)
    | (go_simp; go_at_call 44; refine Calls.mono (HS.out _ (by repeat (first | exact hu0 | refine Upd.drewN ?_ _ | refine Upd.drew ?_))) ?_; rintro e w1 ⟨a1, k1, rfl, HO1, hu1, hk1⟩; obtain ⟨c0, c1, c2, c3⟩ := HC.out _ hu1; have cf := HF.out _ hu1; dsimp only))
  all_goals
    have ho1 := HO1.out w2 (Upd.trans0 (by repeat (first | exact Upd.refl _ _ | refine Upd.drewN ?_ _ | refine Upd.drew ?_)) hk2)
    have ho2 := HO2.out w2 (Upd.refl _ _)
    have hc0 := HH.out _ hu2
    have nt : NotT w2 [p] 68 := hc0.ch.notT (by decide)
    have hA := (hc0.setS rfl ho1).setR rfl (own_keepT ho2 ((Upd.refl [p] w2).setCell ⟨p, 1, none⟩ (.slice a1 (leave sq t).length k1) (fun _ => by simp)) nt)
    have hB := (hc0.setR rfl ho2).setS rfl (own_keepT ho1 ((Upd.refl [p] w2).setCell ⟨p, 2, none⟩ (.slice a2 (leave rq t).length k2) (fun _ => by simp)) nt)
    have hup : Upd [p] w w2 := hu2.mono (fun z hz _ => by simp at hz)
    first | go_end0 | ((try simp only [Exit.inBlock, Exit.then]); refine bodyPost_ret (results_none rfl _ _ _) rfl ?_) | skip
    first
      | exact ⟨rfl, hA, (hup.setCell _ _ (fun _ => by simp)).setCell _ _ (fun _ => by simp)⟩
      | exact ⟨rfl, hB, (hup.setCell _ _ (fun _ => by simp)).setCell _ _ (fun _ => by simp)⟩
end Go.Proofs.Ytjiepoeeahnbgaa
