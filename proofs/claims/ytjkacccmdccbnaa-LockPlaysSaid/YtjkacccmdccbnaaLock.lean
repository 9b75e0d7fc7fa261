/- What the functions of package lockq do, as contracts. -/
import Derived.Test.YtjkacccmdccbnaaLockBase
import Derived.Test.YtjkacccmdccbnaaWaitHas
import Derived.Test.YtjkacccmdccbnaaWaitClone
namespace Go.Proofs.Ytjkacccmdccbnaa
set_option linter.unusedVariables false
set_option linter.unusedSimpArgs false
open Go.RowKit

/-- The program's lock. -/
abbrev LockP (w : World) (p : Nat) (o : Int) (q : List Wt) : Prop := LockAt w p 55 59 o q
theorem LockP.notT {w : World} {p : Nat} {o : Int} {q : List Wt} (h : LockP w p o q) : NotT w [p] 59 := LockAt.notT h (by decide)
theorem LockP.step {w w' : World} {p : Nat} {o : Int} {q : List Wt} (h : LockP w p o q) (hu : Upd [] w w') : LockP w' p o q := LockAt.keep0 h hu
/-- Another owner is written. -/
theorem LockAt.setOwner {w : World} {p : Nat} {T E : TypeId} {o : Int} {q : List Wt} (h : LockAt w p T E o q) (hne : T ≠ E) (o' : Int) : LockAt (w.setCell ⟨p, 0, none⟩ (.int .i64 o')) p T E o' q := by
  obtain ⟨a, cap, h1, h2⟩ := h.ex
  exact ⟨a, cap, two_set0 h1, own_keepT h2 ((Upd.refl [p] w).setCell _ _ (fun _ => by simp)) (NotT.one h1 hne)⟩
/-- Other ones that wait are written. -/
theorem LockAt.setQ {w : World} {p : Nat} {T E : TypeId} {o : Int} {q q' : List Wt} (h : LockAt w p T E o q) (hne : T ≠ E) {a : Option Addr} {cap base : Nat} (h2 : w.ownsRow base E 4 (.slice a q'.length cap) q'.length (q'.flatMap Wt.enc)) : LockAt (w.setCell ⟨p, 1, none⟩ (.slice a q'.length cap)) p T E o q' := by
  obtain ⟨a1, cap1, h1, _⟩ := h.ex
  exact ⟨a, cap, two_set1 h1, own_keepT (own_lower h2 (Nat.zero_le _)) ((Upd.refl [p] w).setCell _ _ (fun _ => by simp)) (NotT.one h1 hne)⟩

theorem newLock_any (w : World) : Calls Try.prog 8 #[] w fun e w' => ∃ p, e = .returned (.pointer (some ⟨p, 0, none⟩)) ∧ LockP w' p (-1) [] ∧ Upd [] w w' ∧ w.heap.size ≤ p := by
  go_enter Try.func8, Try.ntmps8
  go_wp2
  go_ret
  exact ⟨_, rfl, ⟨none, 0, heap_alloc_new _ _, World.ownsRow_nil _ _ _ _⟩, (Upd.refl _ _).alloc _, Nat.le_refl _⟩

theorem owner_any (p : Nat) (o : Int) (q : List Wt) (w : World) (h : LockP w p o q) :
    Calls Try.prog 10 #[.pointer (some ⟨p, 0, none⟩)] w fun e w' => e = .returned (.int .i64 o) ∧ w = w' := by
  obtain ⟨a, cap, h1, h2⟩ := h.ex
  obtain ⟨c0, c1, f0, f1⟩ := two_cells h1
  go_enter Try.func10, Try.ntmps10
  go_wp2
  go_ret
  exact ⟨rfl, rfl⟩

theorem waiters_any (p : Nat) (o : Int) (q : List Wt) (w : World) (h : LockP w p o q) (hm : q.length ≤ 1000000) :
    Calls Try.prog 13 #[.pointer (some ⟨p, 0, none⟩)] w fun e w' => ∃ a' c', e = .returned (.slice a' q.length c') ∧ w'.ownsRow w.heap.size 59 4 (.slice a' q.length c') q.length (q.flatMap Wt.enc) ∧ Upd [] w w' := by
  obtain ⟨a, cap, h1, h2⟩ := h.ex
  obtain ⟨c0, c1, f0, f1⟩ := two_cells h1
  have hrd := Rd.of_own h2
  go_enter Try.func13, Try.ntmps13
  go_wp2_with fail
  refine (cloneQ_any a cap q _ hrd (by omega)).mono ?_
  rintro e w1 ⟨a', c', rfl, hown, hu⟩
  go_wp2
  go_ret
  exact ⟨a', c', rfl, hown, hu⟩

set_option maxHeartbeats 1600000 in
set_option maxRecDepth 100000 in
theorem leaveLock_any (p : Nat) (o : Int) (q : List Wt) (t : Int) (w : World) (hL : LockP w p o q) (hm : q.length ≤ 1000000) :
    Calls Try.prog 12 #[.pointer (some ⟨p, 0, none⟩), .int .i64 t] w fun e w' => e = .returned (.tuple #[]) ∧ LockP w' p o (leave q t) ∧ Upd [p] w w' := by
  have hlp := hL.lt
  obtain ⟨a, cap, h1, h2⟩ := hL.ex
  obtain ⟨c0, c1, f0, f1⟩ := two_cells h1
  have hrd := Rd.of_own h2
  go_enter Try.func12, Try.ntmps12
  go_wp2
  go_step3
  go_wp2
  go_step3
  go_wp2
  go_loopw [4, 12] (fun r i wr => ∃ (k : Nat) (ra : Option Addr) (rc : Nat), k ≤ q.length ∧ i = .int .i64 k ∧ r = .slice ra (leave (q.take k) t).length rc ∧ wr.ownsRow w.heap.size 59 4 (.slice ra (leave (q.take k) t).length rc) (leave (q.take k) t).length ((leave (q.take k) t).flatMap Wt.enc) ∧ Upd [] w wr) (fun _ i _ => q.length - (intOf i).toNat)
  case atStart => exact ⟨0, none, 0, Nat.zero_le _, rfl, rfl, World.ownsRow_nil _ _ _ _, Upd.refl _ _⟩
  case round =>
    obtain ⟨k, ra, rc, hk, rfl, rfl, hown, hupd⟩ := hrel
    by_cases hlt : k < q.length
    · obtain ⟨x, hx⟩ : ∃ x, q[k]? = some x := ⟨_, List.getElem?_eq_getElem hlt⟩
      obtain ⟨b, off, rfl, x0, x1, x2, x3⟩ := RdW.cells (hrd.keep0 hupd) hx
      have hbl : b < wr.heap.size := block_lt_of_cell x0
      have hs : leave (q.take (k + 1)) t = leave (q.take k) t ++ (if x.task = t then [] else [x]) := by rw [take_succ_get hx, leave_snoc]
      have hll : (leave (q.take k) t).length ≤ k := Nat.le_trans (leave_len _ _) (List.length_take_le _ _)
      generalize leave (q.take k) t = l at hown hs hll
      have HS := Lib.hid hs
      clear hs hx
      by_cases ht : x.task = t
      · rw [if_pos ht, List.append_nil] at HS
        have hd : (x.task == t) = true := beq_iff_eq.2 ht
        clear ht
        go_wp2
        go_roundw
        case rel => exact ⟨k + 1, ra, rc, by omega, by go_num, by rw [HS.out], by rw [HS.out]; exact own_keep0 hown ((Upd.refl _ _).alloc _), hupd.alloc _⟩
        case measure => simp [intOf]; omega
      · rw [if_neg ht] at HS
        have hd : (x.task == t) = false := beq_eq_false_iff_ne.2 ht
        have hm1 : l.length + 1 ≤ maxLen := by unfold maxLen; omega
        have hm2 : (l.length + 1) * 32 ≤ 140737488355328 := by omega
        have hown0 := own_keep0 hown ((Upd.refl [] wr).alloc (.cells #[.int .i64 x.task, .int .i64 x.case_, .int .i64 x.seq, .int .i64 x.v] 59))
        have hbase2 : w.heap.size ≤ (wr.alloc (.cells #[.int .i64 x.task, .int .i64 x.case_, .int .i64 x.seq, .int .i64 x.v] 59)).heap.size := Nat.le_trans hupd.size (by simp)
        clear ht hown
        go_wp2_with (first
          | (at_builtin; refine wp_push_at tWt rfl (.tmp 20) (.tmp 22) rfl hown0 x.enc rfl rfl (World.size_alloc _ _).symm rfl (Wt.one1 x) hm1 hm2 hbase2 ?_; intro g3 c3 w3 hown3 hupd3))
        have hl1 : (l ++ [x]).length = l.length + 1 := by simp
        have hb0 := hown0.lt
        have hupd4 : Upd [] w w3 := (hupd.alloc _).trans hupd3 (fun y hy hl => by have := (hb0 y (by simpa using hy)).1; omega)
        go_roundw
        case rel => exact ⟨k + 1, some ⟨g3, 0, none⟩, c3, by omega, by go_num, by rw [HS.out, hl1], by rw [HS.out, hl1, enc_snoc]; exact hown3, hupd4⟩
        case measure => simp [intOf]; omega
    · obtain rfl : k = q.length := by omega
      rw [List.take_of_length_le (Nat.le_refl _)] at hown
      have hblk := hupd.keep h1 (by simp)
      obtain ⟨d0, d1, e0, e1⟩ := two_cells hblk
      rw [List.take_of_length_le (Nat.le_refl _)]
      clear c0 c1 f0 f1
      go_wp2
      rw [Exit.noGoto_normal]
      go_end0
      have hLr := hL.keep hupd (by simp) (NotT.nil _ _)
      exact ⟨rfl, hLr.setQ (by decide) hown, (hupd.mono (by simp)).setCell _ _ (fun _ => by simp)⟩

theorem take_bad (p : Nat) (o : Int) (q : List Wt) (t sq : Int) (w : World) (ht : t < 0) :
    Calls Try.prog 9 #[.pointer (some ⟨p, 0, none⟩), .int .i64 t, .int .i64 sq] w fun e w' => e = .returned (.tuple #[.bool false, .int .i64 1]) ∧ w = w' := by
  have hd : decide (t < 0) = true := decide_eq_true ht
  clear ht
  go_enter Try.func9, Try.ntmps9
  go_wp2
  go_ret2
  exact ⟨rfl, rfl⟩

theorem take_twice (p : Nat) (o : Int) (q : List Wt) (t sq : Int) (w : World) (hL : LockP w p o q) (hm : q.length ≤ 1000000) (ht : 0 ≤ t) (hh : o = t ∨ (q.any fun x => x.task == t) = true) :
    Calls Try.prog 9 #[.pointer (some ⟨p, 0, none⟩), .int .i64 t, .int .i64 sq] w fun e w' => e = .returned (.tuple #[.bool false, .int .i64 6]) ∧ Upd [] w w' := by
  have hd : decide (t < 0) = false := decide_eq_false (by omega)
  obtain ⟨a, cap, h1, h2⟩ := hL.ex
  obtain ⟨c0, c1, f0, f1⟩ := two_cells h1
  have hrd := Rd.of_own h2
  by_cases hot : o = t
  · have hd1 : (o == t) = true := beq_iff_eq.2 hot
    clear hh hot
    go_enter Try.func9, Try.ntmps9
    go_wp2
    go_ret2
    exact ⟨rfl, Upd.refl _ _⟩
  · have hd1 : (o == t) = false := beq_eq_false_iff_ne.2 hot
    have hy : (q.any fun x => x.task == t) = true := hh.resolve_left hot
    have HY := Lib.hid hy
    clear hh hot hy
    go_enter Try.func9, Try.ntmps9
    go_wp2_with fail
    refine (has_any a cap q t _ hrd (by omega)).mono ?_
    rintro e w1 ⟨rfl, hu1⟩
    rw [HY.out]
    go_wp2
    go_ret2
    exact ⟨rfl, hu1⟩

theorem take_free (p : Nat) (q : List Wt) (t sq : Int) (w : World) (hL : LockP w p (-1) q) (hm : q.length ≤ 1000000) (ht : 0 ≤ t) (hh : (q.any fun x => x.task == t) = false) :
    Calls Try.prog 9 #[.pointer (some ⟨p, 0, none⟩), .int .i64 t, .int .i64 sq] w fun e w' => e = .returned (.tuple #[.bool true, .int .i64 0]) ∧ LockP w' p t q ∧ Upd [p] w w' := by
  have hd : decide (t < 0) = false := decide_eq_false (by omega)
  obtain ⟨a, cap, h1, h2⟩ := hL.ex
  obtain ⟨c0, c1, f0, f1⟩ := two_cells h1
  have hrd := Rd.of_own h2
  have hd1 : ((-1 : Int) == t) = false := beq_eq_false_iff_ne.2 (by omega)
  have HH := Lib.hid hh
  clear hh
  go_enter Try.func9, Try.ntmps9
  go_wp2_with fail
  refine (has_any a cap q t _ hrd (by omega)).mono ?_
  rintro e w1 ⟨rfl, hu1⟩
  rw [HH.out]
  have hL1 := hL.keep hu1 (by simp) (NotT.nil _ _)
  obtain ⟨d0, d1, e0, e1⟩ := two_cells (hu1.keep h1 (by simp))
  clear c0 c1 f0 f1
  go_wp2
  go_ret2
  exact ⟨rfl, hL1.setOwner (by decide) t, (hu1.mono (by simp)).setCell _ _ (fun _ => by simp)⟩

set_option maxHeartbeats 800000 in
theorem take_wait (p : Nat) (o : Int) (q : List Wt) (t sq : Int) (w : World) (hL : LockP w p o q) (hm : q.length ≤ 1000000) (ht : 0 ≤ t) (hot : o ≠ t) (ho : o ≠ -1) (hh : (q.any fun x => x.task == t) = false) :
    Calls Try.prog 9 #[.pointer (some ⟨p, 0, none⟩), .int .i64 t, .int .i64 sq] w fun e w' => e = .returned (.tuple #[.bool false, .int .i64 0]) ∧ LockP w' p o (q ++ [⟨t, 0, sq, 0⟩]) ∧ Upd [p] w w' := by
  have hd : decide (t < 0) = false := decide_eq_false (by omega)
  obtain ⟨a, cap, h1, h2⟩ := hL.ex
  obtain ⟨c0, c1, f0, f1⟩ := two_cells h1
  have hrd := Rd.of_own h2
  have hd1 : (o == t) = false := beq_eq_false_iff_ne.2 hot
  have hd2 : (o == -1) = false := beq_eq_false_iff_ne.2 ho
  have HH := Lib.hid hh
  have hlp := hL.lt
  clear hh hot ho
  go_enter Try.func9, Try.ntmps9
  go_wp2_with fail
  refine (has_any a cap q t _ hrd (by omega)).mono ?_
  rintro e w1 ⟨rfl, hu1⟩
  rw [HH.out]
  have hL1 := hL.keep hu1 (by simp) (NotT.nil _ _)
  have h11 := hu1.keep h1 (by simp)
  obtain ⟨d0, d1, e0, e1⟩ := two_cells h11
  clear c0 c1 f0 f1
  go_wp2_with fail
  refine (cloneQ_any a cap q _ (hrd.keep0 hu1) (by omega)).mono ?_
  rintro e w2 ⟨a2, c2, rfl, hown2, hu2⟩
  have hL2 := hL1.keep hu2 (by simp) (NotT.nil _ _)
  have h12 := hu2.keep h11 (by simp)
  have hlp2 := hL2.lt
  clear d0 d1 e0 e1
  have hm1 : q.length + 1 ≤ maxLen := by unfold maxLen; omega
  have hm2 : (q.length + 1) * 32 ≤ 140737488355328 := by omega
  have hb2 := hu2.size
  go_wp2_with (first
    | (at_builtin; refine wp_push tWt rfl (.tmp 41) (.tmp 45) rfl hown2 (Wt.enc ⟨t, 0, sq, 0⟩) rfl rfl rfl (Wt.one1 _) hm1 hm2 hb2 ?_; intro g3 c3 w3 hown3 hu3
       have hu4 : Upd [] w1 w3 := hu2.trans hu3 (fun x hx hl => by have := (hown2.lt x (by simpa using hx)).1; omega)
       obtain ⟨d0, d1, e0, e1⟩ := two_cells (hu4.keep h11 (by simp))
       have hL3 := hL1.keep hu4 (by simp) (NotT.nil _ _)
       clear h12 hL2 hu3 hlp2))
  go_ret2
  have hl1 : (q ++ [(⟨t, 0, sq, 0⟩ : Wt)]).length = q.length + 1 := by simp
  rw [← hl1, ← enc_snoc] at hown3
  have hset := hL3.setQ (by decide) hown3
  rw [hl1] at hset
  exact ⟨rfl, hset, ((hu1.trans0 hu4).mono (by simp)).setCell _ _ (fun _ => by simp)⟩

theorem give_bad (p : Nat) (o : Int) (q : List Wt) (t : Int) (pv : Value) (w : World) (hL : LockP w p o q) (ht : t < 0 ∨ o ≠ t) :
    Calls Try.prog 11 #[.pointer (some ⟨p, 0, none⟩), .int .i64 t, pv] w fun e w' => e = .returned (.tuple #[.int .i64 0, .int .i64 10]) ∧ w = w' := by
  obtain ⟨a, cap, h1, h2⟩ := hL.ex
  obtain ⟨c0, c1, f0, f1⟩ := two_cells h1
  by_cases hn : t < 0
  · have hd : decide (t < 0) = true := decide_eq_true hn
    clear ht hn
    go_enter Try.func11, Try.ntmps11
    go_wp2
    go_ret2
    exact ⟨rfl, rfl⟩
  · have hd : decide (t < 0) = false := decide_eq_false hn
    have hd1 : (o != t) = true := bne_iff_ne.2 (ht.resolve_left hn)
    clear ht hn
    go_enter Try.func11, Try.ntmps11
    go_wp2
    go_ret2
    exact ⟨rfl, rfl⟩

theorem give_none (p : Nat) (t : Int) (a : Option Addr) (cap : Nat) (ps : List Int) (w : World) (hL : LockP w p t []) (hp : RdI w (.slice a ps.length cap) ps) (hpn : ∀ k, (Value.slice a ps.length cap).ownBlock = some k → 0 < ps.length → k ≠ p) (hpm : ps.length ≤ 1000000) (ht : 0 ≤ t) :
    Calls Try.prog 11 #[.pointer (some ⟨p, 0, none⟩), .int .i64 t, .slice a ps.length cap] w fun e w' => e = .returned (.tuple #[.int .i64 (-1), .int .i64 0]) ∧ LockP w' p (-1) [] ∧ Upd [p] w w' := by
  have hL1 := hL.setOwner (by decide) (-1)
  have hu1 : Upd [p] w (w.setCell ⟨p, 0, none⟩ (.int .i64 (-1))) := (Upd.refl _ _).setCell _ _ (fun _ => by simp)
  have hp1 := hp.keep hu1 (fun k hk hl => by have := hpn k hk (by simpa using hl); simpa using this)
  obtain ⟨a1, cap1, h1, h2⟩ := hL.ex
  have h11 := two_set0 (x := .int .i64 (-1)) h1
  obtain ⟨c0, c1, f0, f1⟩ := two_cells h1
  obtain ⟨d0, d1, e0, e1⟩ := two_cells h11
  obtain ⟨a1', cap1', h1', h2'⟩ := hL1.ex
  rw [h11] at h1'
  have hd : decide (t < 0) = false := decide_eq_false (by omega)
  have hd1 : (t != t) = false := by simp
  have hrd : RdW (w.setCell ⟨p, 0, none⟩ (.int .i64 (-1))) (.slice a1 0 cap1) [] := by
    injection h1' with h3
    injection h3 with h4 _ _
    simp at h4
    obtain ⟨rfl, rfl⟩ := h4
    exact Rd.of_own h2'
  clear h1' h2' h2
  go_enter Try.func11, Try.ntmps11
  go_wp2_with fail
  refine (best_any a1 a cap1 cap [] ps _ hrd hp1 (by omega) (by simp)).mono ?_
  rintro e w2 ⟨rfl, hu2⟩
  obtain ⟨g0, g1, _, _⟩ := two_cells (hu2.keep h11 (by simp))
  have hL2 := hL1.keep hu2 (by simp) (NotT.nil _ _)
  clear c0 c1 f0 f1 d0 d1 e0 e1
  simp only [List.length_nil, bestTo, optI]
  go_wp2
  go_ret2
  exact ⟨rfl, hL2, hu1.trans0 hu2⟩

set_option maxHeartbeats 800000 in
theorem give_some (p : Nat) (t : Int) (q : List Wt) (i : Nat) (x : Wt) (a : Option Addr) (cap : Nat) (ps : List Int) (w : World) (hL : LockP w p t q) (hm : q.length ≤ 1000000) (hp : RdI w (.slice a ps.length cap) ps) (hpn : ∀ k, (Value.slice a ps.length cap).ownBlock = some k → 0 < ps.length → k ≠ p) (hpm : ps.length ≤ 1000000) (ht : 0 ≤ t)
    (hi : bestTo ps q q.length = some i) (hx : q[i]? = some x) :
    Calls Try.prog 11 #[.pointer (some ⟨p, 0, none⟩), .int .i64 t, .slice a ps.length cap] w fun e w' => e = .returned (.tuple #[.int .i64 x.task, .int .i64 0]) ∧ LockP w' p x.task (leave q x.task) ∧ Upd [p] w w' := by
  have hL1 := hL.setOwner (by decide) (-1)
  have hu1 : Upd [p] w (w.setCell ⟨p, 0, none⟩ (.int .i64 (-1))) := (Upd.refl _ _).setCell _ _ (fun _ => by simp)
  have hp1 := hp.keep hu1 (fun k hk hl => by have := hpn k hk (by simpa using hl); simpa using this)
  obtain ⟨a1, cap1, h1, h2⟩ := hL.ex
  have hnt := hL.notT
  have h11 := two_set0 (x := .int .i64 (-1)) h1
  obtain ⟨c0, c1, f0, f1⟩ := two_cells h1
  obtain ⟨d0, d1, e0, e1⟩ := two_cells h11
  have hd : decide (t < 0) = false := decide_eq_false (by omega)
  have hd1 : (t != t) = false := by simp
  have hrd : RdW (w.setCell ⟨p, 0, none⟩ (.int .i64 (-1))) (.slice a1 q.length cap1) q := Rd.of_own (own_keepT h2 hu1 hnt)
  have HI := Lib.hid hi
  have HX := Lib.hid hx
  have hil : i < q.length := (List.getElem?_eq_some_iff.1 hx).1
  clear h2 hi hx
  go_enter Try.func11, Try.ntmps11
  go_wp2_with fail
  refine (best_any a1 a cap1 cap q ps _ hrd hp1 (by omega) (by omega)).mono ?_
  rintro e w2 ⟨rfl, hu2⟩
  have h12 := hu2.keep h11 (by simp)
  obtain ⟨g0, g1, g2, g3⟩ := two_cells h12
  have hL2 := hL1.keep hu2 (by simp) (NotT.nil _ _)
  obtain ⟨b, off, rfl, x0, x1, x2, x3⟩ := RdW.cells (hrd.keep0 hu2) HX.out
  have hL3 := hL2.setOwner (by decide) x.task
  have h13 := two_set0 (x := .int .i64 x.task) h12
  obtain ⟨j0, j1, _, _⟩ := two_cells h13
  have hu3 : Upd [p] w (w2.setCell ⟨p, 0, none⟩ (.int .i64 x.task)) := (hu1.trans0 hu2).setCell _ _ (fun _ => by simp)
  have hi0 : (0 : Int) ≤ (i : Int) := by omega
  have hi1 : (i : Int) < (q.length : Int) := by omega
  clear c0 c1 f0 f1 d0 d1 e0 e1 hrd hp1 x1 x2 x3
  rw [HI.out]
  simp only [optI]
  go_wp2_with fail
  refine (leaveLock_any p x.task q x.task _ hL3 hm).mono ?_
  rintro e w4 ⟨rfl, hL4, hu4⟩
  obtain ⟨a4, cap4, h14, _⟩ := hL4.ex
  obtain ⟨k0, k1, _, _⟩ := two_cells h14
  clear g0 g1 g2 g3 j0 j1 x0
  go_wp2
  go_ret2
  exact ⟨rfl, hL4, hu3.transS hu4⟩

set_option maxHeartbeats 800000 in
theorem twinLock_any (p : Nat) (o : Int) (q : List Wt) (w : World) (hL : LockP w p o q) (hm : q.length ≤ 1000000) :
    Calls Try.prog 18 #[.pointer (some ⟨p, 0, none⟩)] w fun e w' => ∃ p', e = .returned (.pointer (some ⟨p', 0, none⟩)) ∧ LockP w' p' o q ∧ Upd [] w w' ∧ w.heap.size ≤ p' := by
  obtain ⟨a, cap, h1, h2⟩ := hL.ex
  obtain ⟨c0, c1, f0, f1⟩ := two_cells h1
  have hrd := Rd.of_own h2
  have hud : Upd [] w w.drew := (Upd.refl _ _).drew
  have hrdd := hrd.keep0 hud
  go_enter Try.func18, Try.ntmps18
  go_wp2_with fail
  go_region_held3 (fun w' => w'.cell? ⟨p, 0, none⟩ = some (.int .i64 o) ∧ w'.cell? ⟨p, 1, none⟩ = some (.slice a q.length cap)) (go_keep) (first
    | (go_at_call 21; refine (cloneQ_any a cap q _ hrdd (by omega)).mono ?_; rintro e w2 ⟨a2, c2, rfl, hown2, hu2⟩; have d0 := (hud.trans0 hu2).cell c0 (by simp); have d1 := (hud.trans0 hu2).cell c1 (by simp); have hlp := block_lt_of_cell d0; dsimp only at hlp))
  go_wp2
  go_ret
  refine ⟨_, rfl, ⟨a2, c2, heap_alloc_new _ _, own_lower (hown2.alloc _) (Nat.zero_le _)⟩, (hud.trans0 hu2).alloc _, ?_⟩
  have := hu2.size
  simpa using this
end Go.Proofs.Ytjkacccmdccbnaa
