/- What the functions of the reference's lock do. -/
import Derived.Test.YtjkacccmdccbnaaRefWait
import Derived.Test.YtjkacccmdccbnaaLock
namespace Go.Proofs.Ytjkacccmdccbnaa
set_option linter.unusedVariables false
set_option linter.unusedSimpArgs false
open Go.RowKit

/-- The reference's lock. -/
abbrev LockR (w : World) (p : Nat) (o : Int) (q : List Wt) : Prop := LockAt w p 50 62 o q
theorem LockR.notT {w : World} {p : Nat} {o : Int} {q : List Wt} (h : LockR w p o q) : NotT w [p] 62 := LockAt.notT h (by decide)
theorem LockR.notP {w : World} {p : Nat} {o : Int} {q : List Wt} (h : LockR w p o q) : NotT w [p] 59 := LockAt.notT h (by decide)
theorem LockP.notR {w : World} {p : Nat} {o : Int} {q : List Wt} (h : LockP w p o q) : NotT w [p] 62 := LockAt.notT h (by decide)

theorem newLockR_any (w : World) : Calls Try.prog 14 #[] w fun e w' => ∃ p, e = .returned (.pointer (some ⟨p, 0, none⟩)) ∧ LockR w' p (-1) [] ∧ Upd [] w w' ∧ w.heap.size ≤ p := by
  go_enter Try.func14, Try.ntmps14
  go_wp2
  go_ret
  exact ⟨_, rfl, ⟨none, 0, heap_alloc_new _ _, World.ownsRow_nil _ _ _ _⟩, (Upd.refl _ _).alloc _, Nat.le_refl _⟩

set_option maxHeartbeats 800000 in
theorem leaveLockR_any (p : Nat) (o : Int) (q : List Wt) (t : Int) (w : World) (hL : LockR w p o q) (hm : q.length ≤ 1000000) :
    Calls Try.prog 17 #[.pointer (some ⟨p, 0, none⟩), .int .i64 t] w fun e w' => e = .returned (.tuple #[]) ∧ LockR w' p o (leave q t) ∧ Upd [p] w w' := by
  obtain ⟨a, cap, h1, h2⟩ := hL.ex
  obtain ⟨c0, c1, f0, f1⟩ := two_cells h1
  have hrd := Rd.of_own h2
  go_enter Try.func17, Try.ntmps17
  go_wp2_with fail
  refine (without21_any a cap q t _ hrd hm).mono ?_
  rintro e w1 ⟨a', c', rfl, hown, hu1⟩
  obtain ⟨d0, d1, e0, e1⟩ := two_cells (hu1.keep h1 (by simp))
  have hL1 := hL.keep hu1 (by simp) (NotT.nil _ _)
  clear c0 c1 f0 f1
  go_wp2
  go_end0
  exact ⟨rfl, hL1.setQ (by decide) hown, (hu1.mono (by simp)).setCell _ _ (fun _ => by simp)⟩
theorem takeR_bad (p : Nat) (o : Int) (q : List Wt) (t sq : Int) (w : World) (ht : t < 0) :
    Calls Try.prog 15 #[.pointer (some ⟨p, 0, none⟩), .int .i64 t, .int .i64 sq] w fun e w' => e = .returned (.tuple #[.bool false, .int .i64 1]) ∧ w = w' := by
  have hd : decide (t < 0) = true := decide_eq_true ht
  clear ht
  go_enter Try.func15, Try.ntmps15
  go_wp2
  go_ret2
  exact ⟨rfl, rfl⟩

theorem takeR_twice (p : Nat) (o : Int) (q : List Wt) (t sq : Int) (w : World) (hL : LockR w p o q) (hm : q.length ≤ 1000000) (ht : 0 ≤ t) (hh : o = t ∨ (q.any fun x => x.task == t) = true) :
    Calls Try.prog 15 #[.pointer (some ⟨p, 0, none⟩), .int .i64 t, .int .i64 sq] w fun e w' => e = .returned (.tuple #[.bool false, .int .i64 6]) ∧ Upd [] w w' := by
  have hd : decide (t < 0) = false := decide_eq_false (by omega)
  obtain ⟨a, cap, h1, h2⟩ := hL.ex
  obtain ⟨c0, c1, f0, f1⟩ := two_cells h1
  have hrd := Rd.of_own h2
  by_cases hot : o = t
  · have hd1 : (o == t) = true := beq_iff_eq.2 hot
    clear hh hot
    go_enter Try.func15, Try.ntmps15
    go_wp2
    go_ret2
    exact ⟨rfl, Upd.refl _ _⟩
  · have hd1 : (o == t) = false := beq_eq_false_iff_ne.2 hot
    have hy : (q.any fun x => x.task == t) = true := hh.resolve_left hot
    have HY := Lib.hid hy
    clear hh hot hy
    go_enter Try.func15, Try.ntmps15
    go_wp2_with fail
    refine (has21_any a cap q t _ hrd (by omega)).mono ?_
    rintro e w1 ⟨rfl, hu1⟩
    rw [HY.out]
    go_wp2
    go_ret2
    exact ⟨rfl, hu1⟩

theorem takeR_free (p : Nat) (q : List Wt) (t sq : Int) (w : World) (hL : LockR w p (-1) q) (hm : q.length ≤ 1000000) (ht : 0 ≤ t) (hh : (q.any fun x => x.task == t) = false) :
    Calls Try.prog 15 #[.pointer (some ⟨p, 0, none⟩), .int .i64 t, .int .i64 sq] w fun e w' => e = .returned (.tuple #[.bool true, .int .i64 0]) ∧ LockR w' p t q ∧ Upd [p] w w' := by
  have hd : decide (t < 0) = false := decide_eq_false (by omega)
  obtain ⟨a, cap, h1, h2⟩ := hL.ex
  obtain ⟨c0, c1, f0, f1⟩ := two_cells h1
  have hrd := Rd.of_own h2
  have hd1 : ((-1 : Int) == t) = false := beq_eq_false_iff_ne.2 (by omega)
  have HH := Lib.hid hh
  clear hh
  go_enter Try.func15, Try.ntmps15
  go_wp2_with fail
  refine (has21_any a cap q t _ hrd (by omega)).mono ?_
  rintro e w1 ⟨rfl, hu1⟩
  rw [HH.out]
  have hL1 := hL.keep hu1 (by simp) (NotT.nil _ _)
  obtain ⟨d0, d1, e0, e1⟩ := two_cells (hu1.keep h1 (by simp))
  clear c0 c1 f0 f1
  go_wp2
  go_ret2
  exact ⟨rfl, hL1.setOwner (by decide) t, (hu1.mono (by simp)).setCell _ _ (fun _ => by simp)⟩


set_option maxHeartbeats 800000 in
theorem takeR_wait (p : Nat) (o : Int) (q : List Wt) (t sq : Int) (w : World) (hL : LockR w p o q) (hm : q.length ≤ 1000000) (ht : 0 ≤ t) (hot : o ≠ t) (ho : 0 ≤ o) (hh : (q.any fun x => x.task == t) = false) :
    Calls Try.prog 15 #[.pointer (some ⟨p, 0, none⟩), .int .i64 t, .int .i64 sq] w fun e w' => e = .returned (.tuple #[.bool false, .int .i64 0]) ∧ LockR w' p o (q ++ [⟨t, 0, sq, 0⟩]) ∧ Upd [p] w w' := by
  have hd : decide (t < 0) = false := decide_eq_false (by omega)
  have hd2 : decide (o < 0) = false := decide_eq_false (by omega)
  obtain ⟨a, cap, h1, h2⟩ := hL.ex
  obtain ⟨c0, c1, f0, f1⟩ := two_cells h1
  have hrd := Rd.of_own h2
  have hd1 : (o == t) = false := beq_eq_false_iff_ne.2 hot
  have HH := Lib.hid hh
  clear hh hot
  go_enter Try.func15, Try.ntmps15
  go_wp2_with fail
  refine (has21_any a cap q t _ hrd (by omega)).mono ?_
  rintro e w1 ⟨rfl, hu1⟩
  rw [HH.out]
  have hL1 := hL.keep hu1 (by simp) (NotT.nil _ _)
  have h11 := hu1.keep h1 (by simp)
  have hrd1 := hrd.keep0 hu1
  have hlp1 := hL1.lt
  obtain ⟨d0, d1, e0, e1⟩ := two_cells h11
  clear c0 c1 f0 f1
  have hm0 : q.length ≤ maxLen := by unfold maxLen; omega
  have hm00 : q.length * 32 ≤ 140737488355328 := by omega
  have hm1 : q.length + 1 ≤ maxLen := by unfold maxLen; omega
  have hm2 : (q.length + 1) * 32 ≤ 140737488355328 := by omega
  go_wp2_with (first
    | (at_builtin; refine wp_copy tWr rfl (.tmp 34) (.tmp 38) rfl (base := w1.heap.size) (World.ownsRow_made _ #[] 0 (by simp) (by simp) rfl) rfl rfl (hrd1.keep0 ((Upd.refl _ _).alloc _)) (flat_len Wt.enc 4 Wt.enc_len q) (Wt.one q) hm0 hm00 (by simp) ?_; intro a2 cp2 w2 hown2 hupd2
       have hu2 : Upd [] w1 w2 := ((Upd.refl [] w1).alloc _).trans hupd2 (fun x hx hl => by simp [Value.ownBlock] at hx; omega))
    | (at_builtin; refine wp_push tWr rfl (.tmp 39) (.tmp 43) rfl hown2 (Wt.enc ⟨t, 0, sq, 0⟩) rfl rfl rfl (Wt.one1 _) hm1 hm2 hu2.size ?_; intro g3 c3 w3 hown3 hu3
       have hu4 : Upd [] w1 w3 := hu2.trans hu3 (fun x hx hl => by have := (hown2.lt x (by simpa using hx)).1; omega)
       obtain ⟨d0, d1, e0, e1⟩ := two_cells (hu4.keep h11 (by simp))
       have hL3 := hL1.keep hu4 (by simp) (NotT.nil _ _)
       clear hu3 hupd2))
  go_ret2
  have hl1 : (q ++ [(⟨t, 0, sq, 0⟩ : Wt)]).length = q.length + 1 := by simp
  rw [← hl1, ← enc_snoc] at hown3
  have hset := hL3.setQ (by decide) hown3
  rw [hl1] at hset
  exact ⟨rfl, hset, ((hu1.trans0 hu4).mono (by simp)).setCell _ _ (fun _ => by simp)⟩

theorem giveR_bad (p : Nat) (o : Int) (q : List Wt) (t : Int) (pv : Value) (w : World) (hL : LockR w p o q) (ht : t < 0 ∨ o ≠ t) :
    Calls Try.prog 16 #[.pointer (some ⟨p, 0, none⟩), .int .i64 t, pv] w fun e w' => e = .returned (.tuple #[.int .i64 0, .int .i64 10]) ∧ w = w' := by
  obtain ⟨a, cap, h1, h2⟩ := hL.ex
  obtain ⟨c0, c1, f0, f1⟩ := two_cells h1
  by_cases hot : o = t
  · have hn : t < 0 := by rcases ht with h | h; exact h; exact absurd hot h
    have hd1 : (o != t) = false := bne_eq_false_iff_eq.2 hot
    have hd : decide (t < 0) = true := decide_eq_true hn
    clear ht hn hot
    go_enter Try.func16, Try.ntmps16
    go_wp2
    go_ret2
    exact ⟨rfl, rfl⟩
  · have hd1 : (o != t) = true := bne_iff_ne.2 hot
    clear ht hot
    go_enter Try.func16, Try.ntmps16
    go_wp2
    go_ret2
    exact ⟨rfl, rfl⟩

theorem giveR_none (p : Nat) (t : Int) (a : Option Addr) (cap : Nat) (ps : List Int) (w : World) (hL : LockR w p t []) (hp : RdI w (.slice a ps.length cap) ps) (hpm : ps.length ≤ 1000000) (ht : 0 ≤ t) :
    Calls Try.prog 16 #[.pointer (some ⟨p, 0, none⟩), .int .i64 t, .slice a ps.length cap] w fun e w' => e = .returned (.tuple #[.int .i64 (-1), .int .i64 0]) ∧ LockR w' p (-1) [] ∧ Upd [p] w w' := by
  obtain ⟨a1, cap1, h1, h2⟩ := hL.ex
  obtain ⟨c0, c1, f0, f1⟩ := two_cells h1
  have hrd : RdW w (.slice a1 0 cap1) [] := Rd.of_own h2
  have hd : decide (t < 0) = false := decide_eq_false (by omega)
  have hd1 : (t != t) = false := by simp
  simp only [List.length_nil] at c1
  go_enter Try.func16, Try.ntmps16
  go_wp2_with fail
  refine (best21_any a1 a cap1 cap [] ps _ hrd hp (by omega) (by simp)).mono ?_
  rintro e w2 ⟨rfl, hu2⟩
  obtain ⟨g0, g1, g2, g3⟩ := two_cells (hu2.keep h1 (by simp))
  have hL2 := hL.keep hu2 (by simp) (NotT.nil _ _)
  clear c0 c1 f0 f1
  simp only [List.length_nil, bestTo, optI]
  go_wp2
  go_ret2
  exact ⟨rfl, hL2.setOwner (by decide) (-1), (hu2.mono (by simp)).setCell _ _ (fun _ => by simp)⟩

set_option maxHeartbeats 800000 in
theorem giveR_some (p : Nat) (t : Int) (q : List Wt) (i : Nat) (x : Wt) (a : Option Addr) (cap : Nat) (ps : List Int) (w : World) (hL : LockR w p t q) (hm : q.length ≤ 1000000) (hp : RdI w (.slice a ps.length cap) ps) (hpm : ps.length ≤ 1000000) (ht : 0 ≤ t)
    (hi : bestTo ps q q.length = some i) (hx : q[i]? = some x) :
    Calls Try.prog 16 #[.pointer (some ⟨p, 0, none⟩), .int .i64 t, .slice a ps.length cap] w fun e w' => e = .returned (.tuple #[.int .i64 x.task, .int .i64 0]) ∧ LockR w' p x.task (q.eraseIdx i) ∧ Upd [p] w w' := by
  obtain ⟨a1, cap1, h1, h2⟩ := hL.ex
  obtain ⟨c0, c1, f0, f1⟩ := two_cells h1
  have hrd : RdW w (.slice a1 q.length cap1) q := Rd.of_own h2
  have hd : decide (t < 0) = false := decide_eq_false (by omega)
  have hd1 : (t != t) = false := by simp
  have HI := Lib.hid hi
  have HX := Lib.hid hx
  have hil : i < q.length := (List.getElem?_eq_some_iff.1 hx).1
  clear h2 hi hx
  go_enter Try.func16, Try.ntmps16
  go_wp2_with fail
  refine (best21_any a1 a cap1 cap q ps _ hrd hp (by omega) (by omega)).mono ?_
  rintro e w2 ⟨rfl, hu2⟩
  have h12 := hu2.keep h1 (by simp)
  obtain ⟨g0, g1, g2, g3⟩ := two_cells h12
  have hL2 := hL.keep hu2 (by simp) (NotT.nil _ _)
  have hrd2 := hrd.keep0 hu2
  obtain ⟨b, off, rfl, x0, x1, x2, x3⟩ := RdW.cells hrd2 HX.out
  have hL3 := hL2.setOwner (by decide) x.task
  have h13 := two_set0 (x := .int .i64 x.task) h12
  obtain ⟨j0, j1, _, _⟩ := two_cells h13
  have hu3 : Upd [p] w (w2.setCell ⟨p, 0, none⟩ (.int .i64 x.task)) := (hu2.mono (by simp)).setCell _ _ (fun _ => by simp)
  have hrd3 : RdW (w2.setCell ⟨p, 0, none⟩ (.int .i64 x.task)) (.slice (some ⟨b, off, none⟩) q.length cap1) q := by
    obtain ⟨a9, c9, h9, h10⟩ := hL3.ex
    rw [h13] at h9
    injection h9 with h9
    injection h9 with h9 _ _
    have : Value.slice (some ⟨b, off, none⟩) q.length cap1 = Value.slice a9 q.length c9 := by simpa using h9
    rw [this]
    exact Rd.of_own h10
  have hi0 : (0 : Int) ≤ (i : Int) := by omega
  have hi1 : (i : Int) < (q.length : Int) := by omega
  have hin : decide ((i : Int) < 0) = false := decide_eq_false (by omega)
  clear c0 c1 f0 f1 hrd hrd2 x1 x2 x3
  rw [HI.out]
  simp only [optI]
  go_wp2_with fail
  refine (at21_any _ cap1 q i _ hrd3 hm hil).mono ?_
  rintro e w4 ⟨a4, c4, rfl, hown4, hu4⟩
  have h14 := hu4.keep h13 (by simp)
  obtain ⟨k0, k1, k2, k3⟩ := two_cells h14
  have hL4 := hL3.keep hu4 (by simp) (NotT.nil _ _)
  have hset := hL4.setQ (by decide) hown4
  obtain ⟨m0, m1, _, _⟩ := two_cells (two_set1 (x := .slice a4 (q.eraseIdx i).length c4) h14)
  clear g0 g1 g2 g3 j0 j1 x0
  go_wp2
  go_ret2
  exact ⟨rfl, hset, (hu3.trans0 hu4).setCell _ _ (fun _ => by simp)⟩
end Go.Proofs.Ytjkacccmdccbnaa
