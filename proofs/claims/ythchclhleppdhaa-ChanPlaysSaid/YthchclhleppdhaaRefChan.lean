/- The reference's channel: what it is; NewChan, CanSend, CanRecv, Leave. -/
import Derived.Test.YthchclhleppdhaaRefRing
import Derived.Test.YthchclhleppdhaaNotT
import Derived.Test.YthchclhleppdhaaChan
import Derived.Test.YthchclhleppdhaaRefAt
namespace Go.Proofs.Ythchclhleppdhaa
set_option linter.unusedVariables false
set_option linter.unusedSimpArgs false
open Go.RowKit Go.Conc
/-- The reference's ring at block m: so many at most, the values. -/
structure RRing (w : World) (m most : Nat) (xs : List Int) : Prop where
  ex : ∃ a cap, w.heap[m]? = some (.cells #[.int .i64 most, .slice a xs.length cap] 99 (0, 0)) ∧ w.ownsRow 0 2 1 (.slice a xs.length cap) xs.length (xs.map (Value.int .i64))
  le : xs.length ≤ most
  most : most ≤ 16
theorem RRing.lt {w : World} {m most : Nat} {xs : List Int} (h : RRing w m most xs) : m < w.heap.size := by
  obtain ⟨a, cap, h1, _⟩ := h.ex
  exact blk_lt h1
theorem RRing.keep {S : List Nat} {w w' : World} {m most : Nat} {xs : List Int} (h : RRing w m most xs) (hu : Upd S w w') (hm : m ∉ S) (hS : NotT w S 2) : RRing w' m most xs := by
  obtain ⟨a, cap, h1, h2⟩ := h.ex
  exact ⟨⟨a, cap, hu.keep h1 hm, own_keepT h2 hu hS⟩, h.le, h.most⟩
theorem RRing.keep0 {w w' : World} {m most : Nat} {xs : List Int} (h : RRing w m most xs) (hu : Upd [] w w') : RRing w' m most xs := h.keep hu (by simp) (NotT.nil _ _)
theorem RRing.notT {w : World} {m most : Nat} {xs : List Int} {e : TypeId} (h : RRing w m most xs) (hne : 99 ≠ e) : NotT w [m] e := by
  obtain ⟨a, cap, h1, _⟩ := h.ex
  exact NotT.one h1 hne
theorem newrefO_ok (room : Nat) (hr : room ≤ 16) (w : World) :
    Calls Try.prog 40 #[.int .i64 room] w fun e w' => ∃ m, e = .returned (.tuple #[.pointer (some ⟨m, 0, none⟩), .int .i64 0]) ∧ RRing w' m room [] ∧ Upd [] w w' ∧ w.heap.size ≤ m := by
  have h0 : decide ((room : Int) < 0) = false := by simp
  have h1 : decide ((16 : Int) < (room : Int)) = false := by simp; omega
  go_enter Try.func40, Try.ntmps40
  go_wp2
  go_ret2
  exact ⟨_, rfl, ⟨⟨none, 0, heap_alloc_new _ _, World.ownsRow_nil _ _ _ _⟩, by simp, hr⟩, (Upd.refl _ _).alloc _, by omega⟩

set_option maxHeartbeats 800000 in
set_option maxRecDepth 100000 in
theorem pushrefO_room (m most : Nat) (xs : List Int) (v : Int) (w : World) (hR : RRing w m most xs) (hlt : xs.length < most) :
    Calls Try.prog 43 #[.pointer (some ⟨m, 0, none⟩), .int .i64 v] w fun e w' => e = .returned (.bool true) ∧ RRing w' m most (xs ++ [v]) ∧ Upd [m] w w' := by
  have hmost := hR.most
  have hlm := hR.lt
  obtain ⟨a, cap, hblk, hown0⟩ := hR.ex
  have hrd := Rd.of_own hown0
  obtain ⟨c0, c1, f0, f1⟩ := two_cells hblk
  have hge : decide ((most : Int) ≤ (xs.length : Int)) = false := by simp; omega
  have hge2 : decide (most ≤ xs.length) = false := by simp; omega
  go_enter Try.func43, Try.ntmps43
  go_wp2
  go_quiet (fail)
  have hu0 : Upd [] w (w.drewN nq) := (Upd.refl _ _).drewN _
  generalize w.drewN nq = w0 at hu0
  have hblk0 := hu0.keep hblk (by simp)
  have hrd0 := hrd.keep0 hu0
  have hlm0 := hu0.lt hlm
  obtain ⟨c0, c1, f0, f1⟩ := two_cells hblk0
  have hm1 : xs.length ≤ maxLen := by unfold maxLen; omega
  have hm2 : xs.length * 8 ≤ 140737488355328 := by omega
  have hm3 : xs.length + 1 ≤ maxLen := by unfold maxLen; omega
  have hm4 : (xs.length + 1) * 8 ≤ 140737488355328 := by omega
  go_wp2_with (first
    | (at_builtin; refine wp_copy tI64 rfl (.tmp 16) (.tmp 20) rfl (base := w0.heap.size) (World.ownsRow_made _ #[] 0 (by simp) (by simp) rfl) rfl rfl (hrd0.keep0 ((Upd.refl _ _).alloc _)) (by simp) (one_ints xs) hm1 hm2 (by simp) ?_; intro a1 cp1 w1 hown1 hupd1)
    | (at_builtin; refine wp_push tI64 rfl (.tmp 21) (.tmp 23) rfl hown1 [.int .i64 v] rfl rfl rfl (one_ints [v]) hm3 hm4 (Nat.le_trans (by simp) hupd1.size) ?_; intro g2 cp2 w2 hown2 hupd2
       have hu2 : Upd [] w0 w2 := (((Upd.refl [] w0).alloc _).trans hupd1 (fun x hx hl => by simp [Value.ownBlock] at hx; omega)).trans hupd2 (fun x hx hl => by have := (hown1.lt x (by simpa using hx)).1; omega)
       have hblk2 := hu2.keep hblk0 (by simp)
       obtain ⟨d0, d1, e0, e1⟩ := two_cells hblk2
       clear hupd1 hupd2 hblk hrd hblk0 hrd0 hown1))
  go_ret
  refine ⟨rfl, ⟨⟨some ⟨g2, 0, none⟩, cp2, ?_, ?_⟩, by simp; omega, hmost⟩, ((hu0.trans0 hu2).mono (by simp)).setCell _ _ (fun _ => by simp)⟩
  · have := two_set1 (x := .slice (some ⟨g2, 0, none⟩) (xs.length + 1) cp2) hblk2
    simpa using this
  · have := own_keepT (own_lower hown2 (Nat.zero_le _)) ((Upd.refl [m] w2).setCell ⟨m, 1, none⟩ (.slice (some ⟨g2, 0, none⟩) (xs.length + 1) cp2) (fun _ => by simp)) (NotT.one hblk2 (by decide))
    simpa using this

set_option maxHeartbeats 800000 in
set_option maxRecDepth 100000 in
theorem pushrefO_full (m most : Nat) (xs : List Int) (v : Int) (w : World) (hR : RRing w m most xs) (hlt : most ≤ xs.length) :
    Calls Try.prog 43 #[.pointer (some ⟨m, 0, none⟩), .int .i64 v] w fun e w' => e = .returned (.bool false) ∧ ∃ n, w' = w.drewN n := by
  have hmost := hR.most
  obtain ⟨a, cap, hblk, hown0⟩ := hR.ex
  have hrd := Rd.of_own hown0
  obtain ⟨c0, c1, f0, f1⟩ := two_cells hblk
  have hge : decide ((most : Int) ≤ (xs.length : Int)) = true := by simp; omega
  have hge2 : decide (most ≤ xs.length) = true := by simp; omega
  go_enter Try.func43, Try.ntmps43
  go_wp2
  go_quiet (fail)
  go_wp2
  go_ret
  exact ⟨rfl, _, rfl⟩

theorem poprefO_none (m most : Nat) (w : World) (hR : RRing w m most []) :
    Calls Try.prog 45 #[.pointer (some ⟨m, 0, none⟩)] w fun e w' => e = .returned (.tuple #[.int .i64 0, .bool false]) ∧ w = w' := by
  obtain ⟨a, cap, hblk, hown0⟩ := hR.ex
  have hrd := Rd.of_own hown0
  simp only [List.length_nil] at hblk
  obtain ⟨c0, c1, f0, f1⟩ := two_cells hblk
  go_enter Try.func45, Try.ntmps45
  go_wp2
  go_ret2
  exact ⟨rfl, rfl⟩

set_option maxHeartbeats 800000 in
set_option maxRecDepth 100000 in
theorem poprefO_some (m most : Nat) (x : Int) (xs : List Int) (w : World) (hR : RRing w m most (x :: xs)) :
    Calls Try.prog 45 #[.pointer (some ⟨m, 0, none⟩)] w fun e w' => e = .returned (.tuple #[.int .i64 x, .bool true]) ∧ RRing w' m most xs ∧ Upd [m] w w' := by
  have hmost := hR.most
  have hle := hR.le
  have hlm := hR.lt
  obtain ⟨a, cap, hblk, hown0⟩ := hR.ex
  have hrd := Rd.of_own hown0
  simp only [List.length_cons] at hblk hrd hle
  obtain ⟨c0, c1, f0, f1⟩ := two_cells hblk
  have hz : ((xs.length : Int) + 1 == 0) = false := by simp; omega
  obtain ⟨b, off, rfl, hcells⟩ := hrd.at (by omega)
  have hx := hcells 0 (.int .i64 x) rfl
  simp only [Nat.add_zero] at hx
  obtain ⟨a', c', hrd1, hob, hsl0, hsl, hsl1⟩ := hrd.cut tI64 1 (xs.length + 1) (by omega) (by omega)
  replace hsl := hsl rfl
  clear hsl0 hsl1
  simp only [Nat.add_sub_cancel, Int.natCast_one] at hrd1 hsl hob
  have hcs : ((List.map (Value.int .i64) (x :: xs)).drop (1 * 1)).take (xs.length * 1) = xs.map (Value.int .i64) := by simp [List.take_of_length_le]
  rw [hcs] at hrd1
  have hm1 : xs.length ≤ maxLen := by unfold maxLen; omega
  have hm2 : xs.length * 8 ≤ 140737488355328 := by omega
  clear hcells hcs hrd
  go_enter Try.func45, Try.ntmps45
  go_wp2_with (first
    | (at_builtin; refine wp_copy tI64 rfl (.tmp 18) (.tmp 23) rfl (base := w.heap.size) (World.ownsRow_made _ #[] 0 (by simp) (by simp) rfl) rfl rfl (hrd1.keep0 ((Upd.refl _ _).alloc _)) (by simp) (one_ints xs) hm1 hm2 (by simp) ?_; intro a2 cp2 w2 hown2 hupd2
       have hu2 : Upd [] w w2 := ((Upd.refl [] w).alloc _).trans hupd2 (fun x hx hl => by simp [Value.ownBlock] at hx; omega)
       have hblk2 := hu2.keep hblk (by simp)
       obtain ⟨d0, d1, e0, e1⟩ := two_cells hblk2
       clear hupd2 hblk c0 c1 f0 f1 hx))
  go_ret2
  refine ⟨rfl, ⟨⟨a2, cp2, ?_, ?_⟩, by omega, hmost⟩, (hu2.mono (by simp)).setCell _ _ (fun _ => by simp)⟩
  · have := two_set1 (x := .slice a2 xs.length cp2) hblk2
    simpa using this
  · exact own_keepT (own_lower hown2 (Nat.zero_le _)) ((Upd.refl [m] w2).setCell ⟨m, 1, none⟩ _ (fun _ => by simp)) (NotT.one hblk2 (by decide))
end Go.Proofs.Ythchclhleppdhaa
namespace Go.Proofs.Ythchclhleppdhaa
set_option linter.unusedVariables false
set_option linter.unusedSimpArgs false
open Go.RowKit
/-- The reference's channel at block q, its ring at block m. -/
structure ChanM (w : World) (q m room : Nat) (xs : List Int) (sq rq : List Wt) (cl : Bool) : Prop where
  ch : ChanAt w q 91 55 (.pointer (some ⟨m, 0, none⟩)) sq rq cl
  ring : RRing w m room xs
theorem ChanM.qm {w : World} {q m room : Nat} {xs : List Int} {sq rq : List Wt} {cl : Bool} (h : ChanM w q m room xs sq rq cl) : q ≠ m := by
  rintro rfl
  obtain ⟨_, _, _, _, h1, _⟩ := h.ch.ex
  obtain ⟨_, _, h2, _⟩ := h.ring.ex
  rw [h1] at h2
  injection (Option.some.inj h2) with _ h3 _
  exact absurd h3 (by decide)
theorem ChanM.keep {S : List Nat} {w w' : World} {q m room : Nat} {xs : List Int} {sq rq : List Wt} {cl : Bool} (h : ChanM w q m room xs sq rq cl) (hu : Upd S w w') (hq : q ∉ S) (hm : m ∉ S) (h1 : NotT w S 55) (h2 : NotT w S 2) : ChanM w' q m room xs sq rq cl :=
  ⟨h.ch.keep hu hq h1, h.ring.keep hu hm h2⟩
theorem ChanM.keep0 {w w' : World} {q m room : Nat} {xs : List Int} {sq rq : List Wt} {cl : Bool} (h : ChanM w q m room xs sq rq cl) (hu : Upd [] w w') : ChanM w' q m room xs sq rq cl := ⟨h.ch.keep0 hu, h.ring.keep0 hu⟩
theorem ChanM.turn {w w' : World} {q m room : Nat} {xs ys : List Int} {sq rq : List Wt} {cl : Bool} (h : ChanM w q m room xs sq rq cl) (hu : Upd [m] w w') (hr : RRing w' m room ys) : ChanM w' q m room ys sq rq cl :=
  ⟨h.ch.keep hu (by simp [h.qm]) (h.ring.notT (by decide)), hr⟩
theorem ChanM.setS {w : World} {q m room : Nat} {xs : List Int} {sq rq q' : List Wt} {cl : Bool} (h : ChanM w q m room xs sq rq cl) {a : Option Addr} {n cap base : Nat} (hn : n = q'.length) (h2 : w.ownsRow base 55 4 (.slice a n cap) n (q'.flatMap Wt.enc)) : ChanM (w.setCell ⟨q, 1, none⟩ (.slice a n cap)) q m room xs q' rq cl :=
  ⟨h.ch.setS (by decide) hn h2, h.ring.keep ((Upd.refl [q] w).setCell _ _ (fun _ => by simp)) (by simp [h.qm.symm]) (h.ch.notT (by decide))⟩
theorem ChanM.setR {w : World} {q m room : Nat} {xs : List Int} {sq rq q' : List Wt} {cl : Bool} (h : ChanM w q m room xs sq rq cl) {a : Option Addr} {n cap base : Nat} (hn : n = q'.length) (h2 : w.ownsRow base 55 4 (.slice a n cap) n (q'.flatMap Wt.enc)) : ChanM (w.setCell ⟨q, 2, none⟩ (.slice a n cap)) q m room xs sq q' cl :=
  ⟨h.ch.setR (by decide) hn h2, h.ring.keep ((Upd.refl [q] w).setCell _ _ (fun _ => by simp)) (by simp [h.qm.symm]) (h.ch.notT (by decide))⟩
theorem ChanM.setC {w : World} {q m room : Nat} {xs : List Int} {sq rq : List Wt} {cl : Bool} (h : ChanM w q m room xs sq rq cl) (cl' : Bool) : ChanM (w.setCell ⟨q, 3, none⟩ (.bool cl')) q m room xs sq rq cl' :=
  ⟨h.ch.setC (by decide) cl', h.ring.keep ((Upd.refl [q] w).setCell _ _ (fun _ => by simp)) (by simp [h.qm.symm]) (h.ch.notT (by decide))⟩
set_option maxHeartbeats 1600000 in
theorem refNew_ok (room : Nat) (hr : room ≤ 16) (w : World) :
    Calls Try.prog 21 #[.int .i64 room] w fun e w' => ∃ q m, e = .returned (.tuple #[.pointer (some ⟨q, 0, none⟩), .int .i64 0]) ∧ ChanM w' q m room [] [] [] false ∧ Upd [] w w' ∧ w.heap.size ≤ q ∧ w.heap.size ≤ m := by
  go_enter Try.func21, Try.ntmps21
  go_wp2_with fail
  refine (newrefO_ok room hr _).mono ?_
  rintro e w1 ⟨m, rfl, hR, hu, h1⟩
  have hs := hu.size
  go_wp2
  go_ret2
  refine ⟨_, m, rfl, ⟨⟨none, 0, none, 0, heap_alloc_new _ _, World.ownsRow_nil _ _ _ _, World.ownsRow_nil _ _ _ _⟩, hR.keep0 ((Upd.refl [] _).alloc _)⟩, hu.alloc _, ?_, h1⟩
  omega
set_option maxHeartbeats 1600000 in
theorem refNew_bad (room : Int) (hr : room < 0 ∨ 16 < room) (w : World) :
    Calls Try.prog 21 #[.int .i64 room] w fun e w' => e = .returned (.tuple #[.pointer none, .int .i64 1]) ∧ w = w' := by
  go_enter Try.func21, Try.ntmps21
  go_wp2_with fail
  refine (newref_bad room hr _).mono ?_
  rintro e w1 ⟨rfl, rfl⟩
  go_wp2
  go_ret2
  exact ⟨rfl, rfl⟩
set_option maxHeartbeats 3200000 in
theorem refCanSend_any (q m room : Nat) (xs : List Int) (sq rq : List Wt) (cl : Bool) (w : World) (h : ChanM w q m room xs sq rq cl) :
    Calls Try.prog 47 #[.pointer (some ⟨q, 0, none⟩)] w fun e w' => e = .returned (.bool (canS room xs rq cl)) ∧ Upd [] w w' := by
  obtain ⟨sa, sc, ra, rc, h1, h2, h3⟩ := h.ch.ex
  obtain ⟨c0, c1, c2, c3⟩ := four_cells h1
  obtain ⟨xa, xc, h4, h5⟩ := h.ring.ex
  obtain ⟨d0, d1, _, _⟩ := two_cells h4
  unfold canS
  cases cl with
  | true =>
    go_enter Try.func47, Try.ntmps47
    go_wp2
    go_quiet (fail)
    go_wp2
    go_ret
    exact ⟨by simp, (Upd.refl _ _).drewN _⟩
  | false =>
    by_cases hq : 0 < rq.length
    · have hd : decide ((0 : Int) < (rq.length : Int)) = true := decide_eq_true (by omega)
      have hd' : decide (0 < rq.length) = true := decide_eq_true hq
      go_enter Try.func47, Try.ntmps47
      go_wp2
      go_quiet (fail)
      go_wp2
      go_ret
      exact ⟨by simp [hd'], (Upd.refl _ _).drewN _⟩
    · have hd : decide ((0 : Int) < (rq.length : Int)) = false := decide_eq_false (by omega)
      have hd' : decide (0 < rq.length) = false := decide_eq_false hq
      go_enter Try.func47, Try.ntmps47
      go_wp2
      go_quiet (fail)
      go_wp2
      go_ret
      exact ⟨by simp [hd'], (Upd.refl _ _).drewN _⟩
set_option maxHeartbeats 3200000 in
theorem refCanRecv_any (q m room : Nat) (xs : List Int) (sq rq : List Wt) (cl : Bool) (w : World) (h : ChanM w q m room xs sq rq cl) :
    Calls Try.prog 48 #[.pointer (some ⟨q, 0, none⟩)] w fun e w' => e = .returned (.bool (canR xs sq cl)) ∧ w = w' := by
  obtain ⟨sa, sc, ra, rc, h1, h2, h3⟩ := h.ch.ex
  obtain ⟨c0, c1, c2, c3⟩ := four_cells h1
  obtain ⟨xa, xc, h4, h5⟩ := h.ring.ex
  obtain ⟨d0, d1, _, _⟩ := two_cells h4
  unfold canR
  cases cl with
  | true =>
    go_enter Try.func48, Try.ntmps48
    go_wp2
    go_ret
    exact ⟨by simp, rfl⟩
  | false =>
    by_cases hq : 0 < xs.length
    · have hd : decide ((0 : Int) < (xs.length : Int)) = true := decide_eq_true (by omega)
      have hd' : decide (0 < xs.length) = true := decide_eq_true hq
      go_enter Try.func48, Try.ntmps48
      go_wp2
      go_ret
      exact ⟨by simp [hd'], rfl⟩
    · have hd : decide ((0 : Int) < (xs.length : Int)) = false := decide_eq_false (by omega)
      have hd' : decide (0 < xs.length) = false := decide_eq_false hq
      go_enter Try.func48, Try.ntmps48
      go_wp2
      go_ret
      exact ⟨by simp [hd'], rfl⟩
end Go.Proofs.Ythchclhleppdhaa
