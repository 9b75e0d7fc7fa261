
/- The reference's channel: what it is; NewChan, CanSend, CanRecv, Leave. -/
import Derived.Test.YtjiepoeeahnbgaaChan
import Derived.Test.YtjiepoeeahnbgaaRefRingO
import Derived.Test.YtjiepoeeahnbgaaRefAt
namespace Go.Proofs.Ytjiepoeeahnbgaa
set_option linter.unusedVariables false
set_option linter.unusedSimpArgs false
open Go.RowKit
/-- The reference's channel at block q, its ring at block m. -/
structure ChanM (w : World) (q m room : Nat) (xs : List Int) (sq rq : List Wt) (cl : Bool) : Prop where
  ch : ChanAt w q 91 66 (.pointer (some ⟨m, 0, none⟩)) sq rq cl
  ring : RRing w m room xs
theorem ChanM.qm {w : World} {q m room : Nat} {xs : List Int} {sq rq : List Wt} {cl : Bool} (h : ChanM w q m room xs sq rq cl) : q ≠ m := by
  rintro rfl
  obtain ⟨_, _, _, _, h1, _⟩ := h.ch.ex
  obtain ⟨_, _, h2, _⟩ := h.ring.ex
  rw [h1] at h2
  injection (Option.some.inj h2) with _ h3 _
  exact absurd h3 (by decide)
theorem ChanM.keep {S : List Nat} {w w' : World} {q m room : Nat} {xs : List Int} {sq rq : List Wt} {cl : Bool} (h : ChanM w q m room xs sq rq cl) (hu : Upd S w w') (hq : q ∉ S) (hm : m ∉ S) (h1 : NotT w S 66) (h2 : NotT w S 2) : ChanM w' q m room xs sq rq cl :=
  ⟨h.ch.keep hu hq h1, h.ring.keep hu hm h2⟩
theorem ChanM.keep0 {w w' : World} {q m room : Nat} {xs : List Int} {sq rq : List Wt} {cl : Bool} (h : ChanM w q m room xs sq rq cl) (hu : Upd [] w w') : ChanM w' q m room xs sq rq cl := ⟨h.ch.keep0 hu, h.ring.keep0 hu⟩
theorem ChanM.turn {w w' : World} {q m room : Nat} {xs ys : List Int} {sq rq : List Wt} {cl : Bool} (h : ChanM w q m room xs sq rq cl) (hu : Upd [m] w w') (hr : RRing w' m room ys) : ChanM w' q m room ys sq rq cl :=
  ⟨h.ch.keep hu (by simp [h.qm]) (h.ring.notT (by decide)), hr⟩
theorem ChanM.setS {w : World} {q m room : Nat} {xs : List Int} {sq rq q' : List Wt} {cl : Bool} (h : ChanM w q m room xs sq rq cl) {a : Option Addr} {n cap base : Nat} (hn : n = q'.length) (h2 : w.ownsRow base 66 4 (.slice a n cap) n (q'.flatMap Wt.enc)) : ChanM (w.setCell ⟨q, 1, none⟩ (.slice a n cap)) q m room xs q' rq cl :=
  ⟨h.ch.setS (by decide) hn h2, h.ring.keep ((Upd.refl [q] w).setCell _ _ (fun _ => by simp)) (by simp [h.qm.symm]) (h.ch.notT (by decide))⟩
theorem ChanM.setR {w : World} {q m room : Nat} {xs : List Int} {sq rq q' : List Wt} {cl : Bool} (h : ChanM w q m room xs sq rq cl) {a : Option Addr} {n cap base : Nat} (hn : n = q'.length) (h2 : w.ownsRow base 66 4 (.slice a n cap) n (q'.flatMap Wt.enc)) : ChanM (w.setCell ⟨q, 2, none⟩ (.slice a n cap)) q m room xs sq q' cl :=
  ⟨h.ch.setR (by decide) hn h2, h.ring.keep ((Upd.refl [q] w).setCell _ _ (fun _ => by simp)) (by simp [h.qm.symm]) (h.ch.notT (by decide))⟩
theorem ChanM.setC {w : World} {q m room : Nat} {xs : List Int} {sq rq : List Wt} {cl : Bool} (h : ChanM w q m room xs sq rq cl) (cl' : Bool) : ChanM (w.setCell ⟨q, 3, none⟩ (.bool cl')) q m room xs sq rq cl' :=
  ⟨h.ch.setC (by decide) cl', h.ring.keep ((Upd.refl [q] w).setCell _ _ (fun _ => by simp)) (by simp [h.qm.symm]) (h.ch.notT (by decide))⟩
set_option maxHeartbeats 1600000 in
theorem refNew_ok (room : Nat) (hr : room ≤ 16) (w : World) :
    Calls Try.prog 18 #[.int .i64 room] w fun e w' => ∃ q m, e = .returned (.tuple #[.pointer (some ⟨q, 0, none⟩), .int .i64 0]) ∧ ChanM w' q m room [] [] [] false ∧ Upd [] w w' ∧ w.heap.size ≤ q ∧ w.heap.size ≤ m := by
  go_enter Try.func18, Try.ntmps18
  go_wp2_with fail
  refine (newrefO_ok room hr _).mono ?_
  rintro e w1 ⟨m, rfl, hR, hu, h1⟩
  have hs := hu.size
  go_wp2
  go_ret2
  refine ⟨_, m, rfl, ⟨⟨none, 0, none, 0, heap_alloc_new _ _, World.ownsRow_nil _ _ _ _, World.ownsRow_nil _ _ _ _⟩, hR.keep0 ((Upd.refl [] _).alloc _)⟩, hu.alloc _, ?_, h1⟩
  omega
set_option maxHeartbeats 1600000 in
theorem refNew_bad (room : Int) (hr : room < 0 ∨ 16 < room) (w : World) :
    Calls Try.prog 18 #[.int .i64 room] w fun e w' => e = .returned (.tuple #[.pointer none, .int .i64 1]) ∧ w = w' := by
  go_enter Try.func18, Try.ntmps18
  go_wp2_with fail
  refine (newref_bad room hr _).mono ?_
  rintro e w1 ⟨rfl, rfl⟩
  go_wp2
  go_ret2
  exact ⟨rfl, rfl⟩
set_option maxHeartbeats 3200000 in
theorem refCanSend_any (q m room : Nat) (xs : List Int) (sq rq : List Wt) (cl : Bool) (w : World) (h : ChanM w q m room xs sq rq cl) :
    Calls Try.prog 38 #[.pointer (some ⟨q, 0, none⟩)] w fun e w' => e = .returned (.bool (canS room xs rq cl)) ∧ Upd [] w w' := by
  obtain ⟨sa, sc, ra, rc, h1, h2, h3⟩ := h.ch.ex
  obtain ⟨c0, c1, c2, c3⟩ := four_cells h1
  obtain ⟨xa, xc, h4, h5⟩ := h.ring.ex
  obtain ⟨d0, d1, _, _⟩ := two_cells h4
  unfold canS
  cases cl with
  | true =>
    go_enter Try.func38, Try.ntmps38
    go_wp2
    go_quiet (fail)
    go_wp2
    go_ret
    exact ⟨by simp, (Upd.refl _ _).drewN _⟩
  | false =>
    by_cases hq : 0 < rq.length
    · have hd : decide ((0 : Int) < (rq.length : Int)) = true := decide_eq_true (by omega)
      have hd' : decide (0 < rq.length) = true := decide_eq_true hq
      go_enter Try.func38, Try.ntmps38
      go_wp2
      go_quiet (fail)
      go_wp2
      go_ret
      exact ⟨by simp [hd'], (Upd.refl _ _).drewN _⟩
    · have hd : decide ((0 : Int) < (rq.length : Int)) = false := decide_eq_false (by omega)
      have hd' : decide (0 < rq.length) = false := decide_eq_false hq
      go_enter Try.func38, Try.ntmps38
      go_wp2
      go_quiet (fail)
      go_wp2
      go_ret
      exact ⟨by simp [hd'], (Upd.refl _ _).drewN _⟩
set_option maxHeartbeats 3200000 in
theorem refCanRecv_any (q m room : Nat) (xs : List Int) (sq rq : List Wt) (cl : Bool) (w : World) (h : ChanM w q m room xs sq rq cl) :
    Calls Try.prog 39 #[.pointer (some ⟨q, 0, none⟩)] w fun e w' => e = .returned (.bool (canR xs sq cl)) ∧ w = w' := by
  obtain ⟨sa, sc, ra, rc, h1, h2, h3⟩ := h.ch.ex
  obtain ⟨c0, c1, c2, c3⟩ := four_cells h1
  obtain ⟨xa, xc, h4, h5⟩ := h.ring.ex
  obtain ⟨d0, d1, _, _⟩ := two_cells h4
  unfold canR
  cases cl with
  | true =>
    go_enter Try.func39, Try.ntmps39
    go_wp2
    go_ret
    exact ⟨by simp, rfl⟩
  | false =>
    by_cases hq : 0 < xs.length
    · have hd : decide ((0 : Int) < (xs.length : Int)) = true := decide_eq_true (by omega)
      have hd' : decide (0 < xs.length) = true := decide_eq_true hq
      go_enter Try.func39, Try.ntmps39
      go_wp2
      go_ret
      exact ⟨by simp [hd'], rfl⟩
    · have hd : decide ((0 : Int) < (xs.length : Int)) = false := decide_eq_false (by omega)
      have hd' : decide (0 < xs.length) = false := decide_eq_false hq
      go_enter Try.func39, Try.ntmps39
      go_wp2
      go_ret
      exact ⟨by simp [hd'], rfl⟩
end Go.Proofs.Ytjiepoeeahnbgaa
