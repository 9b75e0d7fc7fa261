
/- A channel of package chanq: what it is; the small calls on it, as contracts. -/
import Derived.Test.YtjiepoeeahnbgaaRing
import Derived.Test.YtjiepoeeahnbgaaNotT
import Derived.Test.YtjiepoeeahnbgaaWaitClone
import Derived.Deep.RegionHeld3
namespace Go.Proofs.Ytjiepoeeahnbgaa
set_option linter.unusedVariables false
set_option linter.unusedSimpArgs false
open Go.RowKit Go.Conc
theorem four_cells {w : World} {b : Nat} {u0 u1 u2 u3 : Value} {t : TypeId} (h : w.heap[b]? = some (.cells #[u0, u1, u2, u3] t (0, 0))) :
    w.cell? ⟨b, 0, none⟩ = some u0 ∧ w.cell? ⟨b, 1, none⟩ = some u1 ∧ w.cell? ⟨b, 2, none⟩ = some u2 ∧ w.cell? ⟨b, 3, none⟩ = some u3 := by
  simp [World.cell?, h]
theorem four_frozen {w : World} {b : Nat} {u0 u1 u2 u3 : Value} {t : TypeId} (h : w.heap[b]? = some (.cells #[u0, u1, u2, u3] t (0, 0))) (k : Nat) : w.frozen? ⟨b, k, none⟩ = false := by
  simp [World.frozen?, h]
theorem four_set1 {w : World} {b : Nat} {u0 u1 u2 u3 x : Value} {t : TypeId} (h : w.heap[b]? = some (.cells #[u0, u1, u2, u3] t (0, 0))) : (w.setCell ⟨b, 1, none⟩ x).heap[b]? = some (.cells #[u0, x, u2, u3] t (0, 0)) := by
  simp only [World.setCell, Array.getElem?_modify, if_true, h, Option.map_some]
  rfl
theorem four_set2 {w : World} {b : Nat} {u0 u1 u2 u3 x : Value} {t : TypeId} (h : w.heap[b]? = some (.cells #[u0, u1, u2, u3] t (0, 0))) : (w.setCell ⟨b, 2, none⟩ x).heap[b]? = some (.cells #[u0, u1, x, u3] t (0, 0)) := by
  simp only [World.setCell, Array.getElem?_modify, if_true, h, Option.map_some]
  rfl
theorem four_set3 {w : World} {b : Nat} {u0 u1 u2 u3 x : Value} {t : TypeId} (h : w.heap[b]? = some (.cells #[u0, u1, u2, u3] t (0, 0))) : (w.setCell ⟨b, 3, none⟩ x).heap[b]? = some (.cells #[u0, u1, u2, x] t (0, 0)) := by
  simp only [World.setCell, Array.getElem?_modify, if_true, h, Option.map_some]
  rfl

/-- A channel of type T at block p; those that wait are elements of type E. -/
structure ChanAt (w : World) (p : Nat) (T E : TypeId) (rv : Value) (sq rq : List Wt) (cl : Bool) : Prop where
  ex : ∃ sa sc ra rc, w.heap[p]? = some (.cells #[rv, .slice sa sq.length sc, .slice ra rq.length rc, .bool cl] T (0, 0)) ∧ w.ownsRow 0 E 4 (.slice sa sq.length sc) sq.length (sq.flatMap Wt.enc) ∧ w.ownsRow 0 E 4 (.slice ra rq.length rc) rq.length (rq.flatMap Wt.enc)
theorem ChanAt.lt {w : World} {p : Nat} {T E : TypeId} {rv : Value} {sq rq : List Wt} {cl : Bool} (h : ChanAt w p T E rv sq rq cl) : p < w.heap.size := by
  obtain ⟨_, _, _, _, h1, _⟩ := h.ex
  exact blk_lt h1
theorem ChanAt.keep {w w' : World} {p : Nat} {T E : TypeId} {rv : Value} {sq rq : List Wt} {cl : Bool} {S : List Nat} (h : ChanAt w p T E rv sq rq cl) (hu : Upd S w w') (hp : p ∉ S) (hS : NotT w S E) : ChanAt w' p T E rv sq rq cl := by
  obtain ⟨sa, sc, ra, rc, h1, h2, h3⟩ := h.ex
  exact ⟨sa, sc, ra, rc, hu.keep h1 hp, own_keepT h2 hu hS, own_keepT h3 hu hS⟩
theorem ChanAt.keep0 {w w' : World} {p : Nat} {T E : TypeId} {rv : Value} {sq rq : List Wt} {cl : Bool} (h : ChanAt w p T E rv sq rq cl) (hu : Upd [] w w') : ChanAt w' p T E rv sq rq cl := h.keep hu (by simp) (NotT.nil _ _)
theorem ChanAt.notT {w : World} {p : Nat} {T E F : TypeId} {rv : Value} {sq rq : List Wt} {cl : Bool} (h : ChanAt w p T E rv sq rq cl) (hne : T ≠ F) : NotT w [p] F := by
  obtain ⟨_, _, _, _, h1, _⟩ := h.ex
  exact NotT.one h1 hne
theorem ChanAt.setS {w : World} {p : Nat} {T E : TypeId} {rv : Value} {sq rq q' : List Wt} {cl : Bool} (h : ChanAt w p T E rv sq rq cl) (hne : T ≠ E) {a : Option Addr} {n cap base : Nat} (hn : n = q'.length) (h2 : w.ownsRow base E 4 (.slice a n cap) n (q'.flatMap Wt.enc)) : ChanAt (w.setCell ⟨p, 1, none⟩ (.slice a n cap)) p T E rv q' rq cl := by
  subst hn
  obtain ⟨sa, sc, ra, rc, h1, _, h3⟩ := h.ex
  have hu : Upd [p] w (w.setCell ⟨p, 1, none⟩ (.slice a q'.length cap)) := (Upd.refl [p] w).setCell _ _ (fun _ => by simp)
  exact ⟨a, cap, ra, rc, four_set1 h1, own_keepT (own_lower h2 (Nat.zero_le _)) hu (NotT.one h1 hne), own_keepT h3 hu (NotT.one h1 hne)⟩
theorem ChanAt.setR {w : World} {p : Nat} {T E : TypeId} {rv : Value} {sq rq q' : List Wt} {cl : Bool} (h : ChanAt w p T E rv sq rq cl) (hne : T ≠ E) {a : Option Addr} {n cap base : Nat} (hn : n = q'.length) (h2 : w.ownsRow base E 4 (.slice a n cap) n (q'.flatMap Wt.enc)) : ChanAt (w.setCell ⟨p, 2, none⟩ (.slice a n cap)) p T E rv sq q' cl := by
  subst hn
  obtain ⟨sa, sc, ra, rc, h1, h3, _⟩ := h.ex
  have hu : Upd [p] w (w.setCell ⟨p, 2, none⟩ (.slice a q'.length cap)) := (Upd.refl [p] w).setCell _ _ (fun _ => by simp)
  exact ⟨sa, sc, a, cap, four_set2 h1, own_keepT h3 hu (NotT.one h1 hne), own_keepT (own_lower h2 (Nat.zero_le _)) hu (NotT.one h1 hne)⟩
theorem ChanAt.setC {w : World} {p : Nat} {T E : TypeId} {rv : Value} {sq rq : List Wt} {cl : Bool} (h : ChanAt w p T E rv sq rq cl) (hne : T ≠ E) (cl' : Bool) : ChanAt (w.setCell ⟨p, 3, none⟩ (.bool cl')) p T E rv sq rq cl' := by
  obtain ⟨sa, sc, ra, rc, h1, h2, h3⟩ := h.ex
  have hu : Upd [p] w (w.setCell ⟨p, 3, none⟩ (.bool cl')) := (Upd.refl [p] w).setCell _ _ (fun _ => by simp)
  exact ⟨sa, sc, ra, rc, four_set3 h1, own_keepT h2 hu (NotT.one h1 hne), own_keepT h3 hu (NotT.one h1 hne)⟩
theorem NotT.chan {w : World} {c cap : Nat} {buf : Array Value} {cl tm : Bool} {s r : Nat} {e : TypeId} (h : w.heap[c]? = some (.chan cap buf cl s r tm)) : NotT w [c] e := by
  intro k hk cells hc
  simp only [List.mem_singleton] at hk
  subst hk
  rw [h] at hc
  cases hc
theorem RingAt.notT {w : World} {p c room : Nat} {xs : List Int} {e : TypeId} (h : RingAt w p c room xs) : NotT w [c] e := by
  obtain ⟨s, r, h2⟩ := h.chan
  exact NotT.chan h2

/-- The program's channel. -/
structure ChanP (w : World) (p rp c room : Nat) (xs : List Int) (sq rq : List Wt) (cl : Bool) : Prop where
  ch : ChanAt w p 76 68 (.pointer (some ⟨rp, 0, none⟩)) sq rq cl
  ring : RingAt w rp c room xs
theorem ChanP.pc {w : World} {p rp c room : Nat} {xs : List Int} {sq rq : List Wt} {cl : Bool} (h : ChanP w p rp c room xs sq rq cl) : p ≠ c := by
  rintro rfl
  obtain ⟨_, _, _, _, h1, _⟩ := h.ch.ex
  obtain ⟨s, r, h2⟩ := h.ring.chan
  rw [h1] at h2
  cases h2
theorem ChanP.pr {w : World} {p rp c room : Nat} {xs : List Int} {sq rq : List Wt} {cl : Bool} (h : ChanP w p rp c room xs sq rq cl) : p ≠ rp := by
  rintro rfl
  obtain ⟨_, _, _, _, h1, _⟩ := h.ch.ex
  have h2 := h.ring.obj
  rw [h1] at h2
  injection (Option.some.inj h2) with _ h3 _
  exact absurd h3 (by decide)
theorem ChanP.keep {S : List Nat} {w w' : World} {p rp c room : Nat} {xs : List Int} {sq rq : List Wt} {cl : Bool} (h : ChanP w p rp c room xs sq rq cl) (hu : Upd S w w') (hp : p ∉ S) (hr : rp ∉ S) (hc : c ∉ S) (hS : NotT w S 68) : ChanP w' p rp c room xs sq rq cl :=
  ⟨h.ch.keep hu hp hS, h.ring.keep hu hr hc⟩
theorem ChanP.keep0 {w w' : World} {p rp c room : Nat} {xs : List Int} {sq rq : List Wt} {cl : Bool} (h : ChanP w p rp c room xs sq rq cl) (hu : Upd [] w w') : ChanP w' p rp c room xs sq rq cl := ⟨h.ch.keep0 hu, h.ring.keep hu (by simp) (by simp)⟩
/-- The ring has turned. -/
theorem ChanP.turn {w w' : World} {p rp c room : Nat} {xs ys : List Int} {sq rq : List Wt} {cl : Bool} (h : ChanP w p rp c room xs sq rq cl) (hu : Upd [c] w w') (hr : RingAt w' rp c room ys) : ChanP w' p rp c room ys sq rq cl :=
  ⟨h.ch.keep hu (by simp [h.pc]) h.ring.notT, hr⟩
theorem ChanP.setS {w : World} {p rp c room : Nat} {xs : List Int} {sq rq q' : List Wt} {cl : Bool} (h : ChanP w p rp c room xs sq rq cl) {a : Option Addr} {n cap base : Nat} (hn : n = q'.length) (h2 : w.ownsRow base 68 4 (.slice a n cap) n (q'.flatMap Wt.enc)) : ChanP (w.setCell ⟨p, 1, none⟩ (.slice a n cap)) p rp c room xs q' rq cl :=
  ⟨h.ch.setS (by decide) hn h2, h.ring.keep ((Upd.refl [p] w).setCell _ _ (fun _ => by simp)) (by simp [h.pr.symm]) (by simp [h.pc.symm])⟩
theorem ChanP.setR {w : World} {p rp c room : Nat} {xs : List Int} {sq rq q' : List Wt} {cl : Bool} (h : ChanP w p rp c room xs sq rq cl) {a : Option Addr} {n cap base : Nat} (hn : n = q'.length) (h2 : w.ownsRow base 68 4 (.slice a n cap) n (q'.flatMap Wt.enc)) : ChanP (w.setCell ⟨p, 2, none⟩ (.slice a n cap)) p rp c room xs sq q' cl :=
  ⟨h.ch.setR (by decide) hn h2, h.ring.keep ((Upd.refl [p] w).setCell _ _ (fun _ => by simp)) (by simp [h.pr.symm]) (by simp [h.pc.symm])⟩
theorem ChanP.setC {w : World} {p rp c room : Nat} {xs : List Int} {sq rq : List Wt} {cl : Bool} (h : ChanP w p rp c room xs sq rq cl) (cl' : Bool) : ChanP (w.setCell ⟨p, 3, none⟩ (.bool cl')) p rp c room xs sq rq cl' :=
  ⟨h.ch.setC (by decide) cl', h.ring.keep ((Upd.refl [p] w).setCell _ _ (fun _ => by simp)) (by simp [h.pr.symm]) (by simp [h.pc.symm])⟩

set_option maxHeartbeats 1600000 in
theorem chanNew_ok (room : Nat) (hr : room ≤ 16) (w : World) :
    Calls Try.prog 17 #[.int .i64 room] w fun e w' => ∃ p rp c, e = .returned (.tuple #[.pointer (some ⟨p, 0, none⟩), .int .i64 0]) ∧ ChanP w' p rp c room [] [] [] false ∧ Upd [] w w' ∧ w.heap.size ≤ p ∧ w.heap.size ≤ rp ∧ w.heap.size ≤ c := by
  go_enter Try.func17, Try.ntmps17
  go_wp2_with fail
  refine (new_ok room hr _).mono ?_
  rintro e w1 ⟨rp, c, rfl, hR, hu, h1, h2⟩
  have hs := hu.size
  go_wp2
  go_ret2
  refine ⟨_, rp, c, rfl, ⟨⟨none, 0, none, 0, heap_alloc_new _ _, World.ownsRow_nil _ _ _ _, World.ownsRow_nil _ _ _ _⟩, hR.keep ((Upd.refl [] _).alloc _) (by simp) (by simp)⟩, hu.alloc _, ?_, h1, h2⟩
  omega
set_option maxHeartbeats 1600000 in
theorem chanNew_bad (room : Int) (hr : room < 0 ∨ 16 < room) (w : World) :
    Calls Try.prog 17 #[.int .i64 room] w fun e w' => e = .returned (.tuple #[.pointer none, .int .i64 1]) ∧ w = w' := by
  go_enter Try.func17, Try.ntmps17
  go_wp2_with fail
  refine (new_bad room hr _).mono ?_
  rintro e w1 ⟨rfl, rfl⟩
  go_wp2
  go_ret2
  exact ⟨rfl, rfl⟩
/-- Is a send, a receive done at once? -/
def canS (room : Nat) (xs : List Int) (rq : List Wt) (cl : Bool) : Bool := cl || decide (0 < rq.length) || decide (xs.length < room)
def canR (xs : List Int) (sq : List Wt) (cl : Bool) : Bool := cl || decide (0 < xs.length) || decide (0 < sq.length)
set_option maxHeartbeats 3200000 in
theorem canSend_any (p rp c room : Nat) (xs : List Int) (sq rq : List Wt) (cl : Bool) (w : World) (h : ChanP w p rp c room xs sq rq cl) :
    Calls Try.prog 12 #[.pointer (some ⟨p, 0, none⟩)] w fun e w' => e = .returned (.bool (canS room xs rq cl)) ∧ Upd [] w w' := by
  obtain ⟨sa, sc, ra, rc, h1, h2, h3⟩ := h.ch.ex
  obtain ⟨c0, c1, c2, c3⟩ := four_cells h1
  have hR := h.ring
  have hle := h.ring.le
  have hmo := h.ring.most
  unfold canS
  cases cl with
  | true =>
    go_enter Try.func12, Try.ntmps12
    go_wp2
    go_ret
    exact ⟨by simp, Upd.refl _ _⟩
  | false =>
    by_cases hq : 0 < rq.length
    · have hd : decide ((0 : Int) < (rq.length : Int)) = true := decide_eq_true (by omega)
      have hd' : decide (0 < rq.length) = true := decide_eq_true hq
      go_enter Try.func12, Try.ntmps12
      go_wp2
      go_ret
      exact ⟨by simp [hd'], Upd.refl _ _⟩
    · have hd : decide ((0 : Int) < (rq.length : Int)) = false := decide_eq_false (by omega)
      have hd' : decide (0 < rq.length) = false := decide_eq_false hq
      go_enter Try.func12, Try.ntmps12
      go_wp2_with fail
      refine (room_any rp c room xs _ hR).mono ?_
      rintro e w1 ⟨rfl, n, rfl⟩
      go_wp2
      go_ret
      refine ⟨?_, (Upd.refl _ _).drewN _⟩
      simp [hd']
set_option maxHeartbeats 3200000 in
theorem canRecv_any (p rp c room : Nat) (xs : List Int) (sq rq : List Wt) (cl : Bool) (w : World) (h : ChanP w p rp c room xs sq rq cl) :
    Calls Try.prog 31 #[.pointer (some ⟨p, 0, none⟩)] w fun e w' => e = .returned (.bool (canR xs sq cl)) ∧ Upd [] w w' := by
  obtain ⟨sa, sc, ra, rc, h1, h2, h3⟩ := h.ch.ex
  obtain ⟨c0, c1, c2, c3⟩ := four_cells h1
  have hR := h.ring
  unfold canR
  cases cl with
  | true =>
    go_enter Try.func31, Try.ntmps31
    go_wp2
    go_ret
    exact ⟨by simp, Upd.refl _ _⟩
  | false =>
    go_enter Try.func31, Try.ntmps31
    go_wp2_with fail
    refine (len_any rp c room xs _ hR).mono ?_
    rintro e w1 ⟨rfl, rfl⟩
    by_cases hq : 0 < xs.length
    · have hd : decide ((0 : Int) < (xs.length : Int)) = true := decide_eq_true (by omega)
      have hd' : decide (0 < xs.length) = true := decide_eq_true hq
      go_wp2
      go_ret
      exact ⟨by simp [hd'], Upd.refl _ _⟩
    · have hd : decide ((0 : Int) < (xs.length : Int)) = false := decide_eq_false (by omega)
      have hd' : decide (0 < xs.length) = false := decide_eq_false hq
      go_wp2
      go_ret
      exact ⟨by simp [hd'], Upd.refl _ _⟩
theorem chanReceivers_any (p rp c room : Nat) (xs : List Int) (sq rq : List Wt) (cl : Bool) (w : World) (h : ChanP w p rp c room xs sq rq cl) (hm : rq.length ≤ 1000000) :
    Calls Try.prog 10 #[.pointer (some ⟨p, 0, none⟩)] w fun e w' => ∃ a' c', e = .returned (.slice a' rq.length c') ∧ w'.ownsRow w.heap.size 68 4 (.slice a' rq.length c') rq.length (rq.flatMap Wt.enc) ∧ Upd [] w w' := by
  obtain ⟨sa, sc, ra, rc, h1, h2, h3⟩ := h.ch.ex
  obtain ⟨c0, c1, c2, c3⟩ := four_cells h1
  have hrd := Rd.of_own h3
  go_enter Try.func10, Try.ntmps10
  go_wp2_with fail
  refine (cloneQ_any ra rc rq _ hrd (by omega)).mono ?_
  rintro e w1 ⟨a', c', rfl, hown, hu⟩
  go_wp2
  go_ret
  exact ⟨a', c', rfl, hown, hu⟩
theorem chanValues_any (p rp c room : Nat) (xs : List Int) (sq rq : List Wt) (cl : Bool) (w : World) (h : ChanP w p rp c room xs sq rq cl) :
    Calls Try.prog 14 #[.pointer (some ⟨p, 0, none⟩)] w fun e w' => ∃ a cap, e = .returned (.slice a xs.length cap) ∧ w'.ownsRow w.heap.size 2 1 (.slice a xs.length cap) xs.length (xs.map (Value.int .i64)) ∧ ChanP w' p rp c room xs sq rq cl ∧ Upd [c] w w' := by
  obtain ⟨sa, sc, ra, rc, h1, h2, h3⟩ := h.ch.ex
  obtain ⟨c0, c1, c2, c3⟩ := four_cells h1
  go_enter Try.func14, Try.ntmps14
  go_wp2_with fail
  refine (all_any rp c room xs _ h.ring).mono ?_
  rintro e w1 ⟨a', c', rfl, hown, hR, hu⟩
  go_wp2
  go_ret
  exact ⟨a', c', rfl, hown, h.turn hu hR, hu⟩
end Go.Proofs.Ytjiepoeeahnbgaa
