
/- What the functions of package waitq do, as contracts. -/
import Derived.Test.YtjiepoeeahnbgaaWaitBase
namespace Go.Proofs.Ytjiepoeeahnbgaa
set_option linter.unusedVariables false
set_option linter.unusedSimpArgs false
open Go.RowKit

theorem tInt : ElemT Try.prog 73 3 (.int .i64 0) 1 8 :=
  ⟨Try.underlying73, by
    obtain ⟨i, hi, h⟩ := info_parts (show (Try.prog.info? 3).map (fun i => (i.zero, i.size, i.bytes)) = some (some (.int .i64 0), 1, 8) by kernel_rfl)
    exact ⟨i, hi, h⟩, rfl, by decide⟩
theorem tWt : ElemT Try.prog 44 68 (.agg #[.int .i64 0, .int .i64 0, .int .i64 0, .int .i64 0]) 4 32 :=
  ⟨Try.underlying44, by
    obtain ⟨i, hi, h⟩ := info_parts (show (Try.prog.info? 68).map (fun i => (i.zero, i.size, i.bytes)) = some (some (.agg #[.int .i64 0, .int .i64 0, .int .i64 0, .int .i64 0]), 4, 32) by kernel_rfl)
    exact ⟨i, hi, h⟩, rfl, by decide⟩

/-- A row of priorities is read. -/
abbrev RdI (w : World) (v : Value) (xs : List Int) : Prop := Rd w v xs.length (xs.map (Value.int .i64))

theorem prio_any (a : Option Addr) (cap : Nat) (ps : List Int) (t : Int) (w : World) (h : RdI w (.slice a ps.length cap) ps) (hm : ps.length ≤ 9223372036854775807) :
    Calls Try.prog 50 #[.slice a ps.length cap, .int .i64 t] w fun e w' => e = .returned (.int .i64 (prioOf ps t)) ∧ w = w' := by
  unfold prioOf
  by_cases h1 : t < 0
  · have d1 : decide (t < 0) = true := decide_eq_true h1
    rw [if_pos h1]
    clear h1
    go_enter Try.func50, Try.ntmps50
    go_wp2
    go_ret
    exact ⟨rfl, rfl⟩
  · have d1 : decide (t < 0) = false := decide_eq_false h1
    rw [if_neg h1]
    by_cases h2 : (ps.length : Int) ≤ t
    · have d2 : decide ((ps.length : Int) ≤ t) = true := decide_eq_true h2
      rw [if_pos h2]
      clear h1 h2
      go_enter Try.func50, Try.ntmps50
      go_wp2
      go_ret
      exact ⟨rfl, rfl⟩
    · have d2 : decide ((ps.length : Int) ≤ t) = false := decide_eq_false h2
      rw [if_neg h2]
      obtain ⟨k, rfl⟩ := Int.eq_ofNat_of_zero_le (show 0 ≤ t by omega)
      have hk : k < ps.length := by omega
      have hc := get_ints hk
      rw [Int.toNat_natCast]
      generalize ps.getD k 0 = y at hc
      obtain ⟨b, off, rfl, hcell⟩ := h.at (by omega)
      have g1 := hcell k _ hc
      have d3 : decide (ps.length ≤ k) = false := decide_eq_false (by omega)
      clear hcell hc h1 h2
      go_enter Try.func50, Try.ntmps50
      go_wp2
      go_ret
      exact ⟨rfl, rfl⟩

set_option maxHeartbeats 800000 in
theorem or_two (b : Nat) (x y : Int) (w : World) (c0 : w.cell? ⟨b, 0, none⟩ = some (.int .i64 x)) (c1 : w.cell? ⟨b, 1, none⟩ = some (.int .i64 y)) :
    Calls Try.prog 48 #[.slice (some ⟨b, 0, none⟩) 2 2] w fun e w' => e = .returned (.int .i64 (orI x y)) ∧ w = w' := by
  unfold orI
  by_cases h1 : x = 0
  · subst h1
    rw [if_neg (by simp)]
    by_cases h2 : y = 0
    · subst h2
      go_enter Try.func48, Try.ntmps48
      go_wp2
      refine wp_loop_rounds 3 ?_
      rw [rounds_succ]
      go_wp2
      rw [rounds_succ]
      go_wp2
      rw [rounds_succ]
      go_wp2
      go_ret
      exact ⟨rfl, rfl⟩
    · have d2 : (y != 0) = true := bne_iff_ne.2 h2
      clear h2
      go_enter Try.func48, Try.ntmps48
      go_wp2
      refine wp_loop_rounds 2 ?_
      rw [rounds_succ]
      go_wp2
      rw [rounds_succ]
      go_wp2
      go_ret
      exact ⟨rfl, rfl⟩
  · have d2 : (x != 0) = true := bne_iff_ne.2 h1
    rw [if_pos h1]
    clear h1
    go_enter Try.func48, Try.ntmps48
    go_wp2
    refine wp_loop_rounds 1 ?_
    rw [rounds_succ]
    go_wp2
    go_ret
    exact ⟨rfl, rfl⟩

theorem or_new (n : Nat) (x y : Int) (W : World) (t : TypeId) (hn : n = W.heap.size) :
    Calls Try.prog 48 #[.slice (some ⟨n, 0, none⟩) 2 2] (W.alloc (.cells #[.int .i64 x, .int .i64 y] t)) fun e w' => e = .returned (.int .i64 (orI x y)) ∧ W.alloc (.cells #[.int .i64 x, .int .i64 y] t) = w' :=
  or_two n x y _ (by rw [World.cell?_alloc_at _ _ _ _ hn]; rfl) (by rw [World.cell?_alloc_at _ _ _ _ hn]; rfl)

/-- Does w go ahead of b? -/
def bet (ps : List Int) (b w : Wt) : Bool := decide (orI (cmpI (prioOf ps b.task) (prioOf ps w.task)) (cmpI w.seq b.seq) < 0)
/-- The best of the first k. -/
def bestTo (ps : List Int) (q : List Wt) : Nat → Option Nat
  | 0 => none
  | k + 1 => match bestTo ps q k with
    | none => some k
    | some b => match q[b]?, q[k]? with
      | some x, some y => if bet ps x y = true then some k else some b
      | _, _ => some b
def optI : Option Nat → Int
  | none => -1
  | some k => k
theorem bestTo_lt (ps : List Int) (q : List Wt) : ∀ (k b : Nat), bestTo ps q k = some b → b < k
  | 0, b, h => by simp [bestTo] at h
  | k + 1, b, h => by
    simp only [bestTo] at h
    split at h
    · cases h; omega
    · have := bestTo_lt ps q k _ ‹_›
      split at h
      · split at h <;> cases h <;> omega
      · cases h; omega

set_option maxHeartbeats 3200000 in
set_option maxRecDepth 100000 in
theorem best_any (a ap : Option Addr) (cap cp : Nat) (q : List Wt) (ps : List Int) (w : World) (hq : RdW w (.slice a q.length cap) q) (hp : RdI w (.slice ap ps.length cp) ps) (hm : ps.length ≤ 9223372036854775807) (hmq : q.length ≤ 9223372036854775807) :
    Calls Try.prog 42 #[.slice a q.length cap, .slice ap ps.length cp] w fun e w' => e = .returned (.int .i64 (optI (bestTo ps q q.length))) ∧ Upd [] w w' := by
  go_enter Try.func42, Try.ntmps42
  go_wp2
  go_step3
  go_wp2
  go_step3
  go_wp2
  go_loopw [5, 11] (fun b i wr => ∃ k : Nat, k ≤ q.length ∧ i = .int .i64 k ∧ b = .int .i64 (optI (bestTo ps q k)) ∧ Upd [] w wr) (fun _ i _ => q.length - (intOf i).toNat)
  case atStart => exact ⟨0, Nat.zero_le _, rfl, rfl, Upd.refl _ _⟩
  case round =>
    obtain ⟨k, hk, rfl, rfl, hupd⟩ := hrel
    by_cases hlt : k < q.length
    · obtain ⟨y, hy⟩ : ∃ y, q[k]? = some y := ⟨_, List.getElem?_eq_getElem hlt⟩
      obtain ⟨b, off, rfl, y0, y1, y2, y3⟩ := RdW.cells (hq.keep0 hupd) hy
      have hpk := hp.keep0 hupd
      have HY := Lib.hid hy
      clear hy
      cases hb : bestTo ps q k with
      | none =>
        have hn : bestTo ps q (k + 1) = some k := by simp [bestTo, hb]
        have HN := Lib.hid hn
        clear hn hb
        simp only [optI]
        go_wp2
        go_roundw
        case rel => exact ⟨k + 1, by omega, by go_num, by rw [HN.out], by repeat (first | exact hupd | refine Upd.alloc ?_ _)⟩
        case measure => (simp [intOf]; try omega)
      | some j =>
        have hj := bestTo_lt ps q k j hb
        obtain ⟨x, hx⟩ : ∃ x, q[j]? = some x := ⟨_, List.getElem?_eq_getElem (by omega)⟩
        obtain ⟨b', off', he, x0, x1, x2, x3⟩ := RdW.cells (hq.keep0 hupd) hx
        obtain ⟨rfl, rfl⟩ : b = b' ∧ off = off' := by simpa using he
        have hn : bestTo ps q (k + 1) = if bet ps x y = true then some k else some j := by simp [bestTo, hb, hx, HY.out]
        have HN := Lib.hid hn
        clear hn hb hx he
        simp only [optI]
        have hj0 : (0 : Int) ≤ (j : Int) := by omega
        have hj1 : (j : Int) < (q.length : Int) := by omega
        have hjn : decide ((j : Int) < 0) = false := decide_eq_false (by omega)
        have hbl : b < wr.heap.size := block_lt_of_cell y0
        go_upto_region 8 with (fail)
        have hpd := (hpk.keep0 (((Upd.refl [] wr).alloc (.cells #[.int .i64 y.task, .int .i64 y.case_, .int .i64 y.seq, .int .i64 y.v] 68)).alloc (.cells #[.int .i64 x.task, .int .i64 x.case_, .int .i64 x.seq, .int .i64 x.v] 68))).keep0 ((Upd.refl [] _).drew)
        have hsz : wr.heap.size + 2 = (World.drew ((wr.alloc (.cells #[.int .i64 y.task, .int .i64 y.case_, .int .i64 y.seq, .int .i64 y.v] 68)).alloc (.cells #[.int .i64 x.task, .int .i64 x.case_, .int .i64 x.seq, .int .i64 x.v] 68))).heap.size := by simp
        have HSZ := Lib.hid hsz
        clear hsz
        go_region_held3 (fun w' => w'.cell? ⟨wr.heap.size, 0, none⟩ = some (.int .i64 y.task) ∧ w'.cell? ⟨wr.heap.size, 2, none⟩ = some (.int .i64 y.seq) ∧ w'.cell? ⟨wr.heap.size + 1, 0, none⟩ = some (.int .i64 x.task) ∧ w'.cell? ⟨wr.heap.size + 1, 2, none⟩ = some (.int .i64 x.seq)) (go_keep) (first
          | (go_at_call 50; refine (prio_any ap cp ps _ _ hpd hm).mono ?_; rintro e w' ⟨rfl, rfl⟩)
          | (go_at_call 49; refine (cmp_int_any _ _ _).mono ?_; rintro e w' ⟨rfl, rfl⟩)
          | (go_at_call 51; refine (cmp_int64_any _ _ _).mono ?_; rintro e w' ⟨rfl, rfl⟩)
          | (go_at_call 48; refine (or_new _ _ _ _ _ HSZ.out).mono ?_; rintro e w' ⟨rfl, rfl⟩))
        have hU : Upd [] w (World.alloc (World.drew ((wr.alloc (.cells #[.int .i64 y.task, .int .i64 y.case_, .int .i64 y.seq, .int .i64 y.v] 68)).alloc (.cells #[.int .i64 x.task, .int .i64 x.case_, .int .i64 x.seq, .int .i64 x.v] 68))) (.cells #[.int .i64 (cmpI (prioOf ps x.task) (prioOf ps y.task)), .int .i64 (cmpI y.seq x.seq)] 3)) := (((hupd.alloc _).alloc _).drew).alloc _
        by_cases hbt : bet ps x y = true
        · rw [if_pos hbt] at HN
          have hd : orI (cmpI (prioOf ps x.task) (prioOf ps y.task)) (cmpI y.seq x.seq) < 0 := of_decide_eq_true hbt
          clear hbt hpd
          go_wp2
          go_roundw
          case rel => exact ⟨k + 1, by omega, by go_num, by rw [HN.out], hU⟩
          case measure => simp [intOf]; omega
        · rw [if_neg hbt] at HN
          have hd : 0 ≤ orI (cmpI (prioOf ps x.task) (prioOf ps y.task)) (cmpI y.seq x.seq) := by simpa [bet] using hbt
          clear hbt hpd
          go_wp2
          go_roundw
          case rel => exact ⟨k + 1, by omega, by go_num, by rw [HN.out], hU⟩
          case measure => simp [intOf]; omega
    · obtain rfl : k = q.length := by omega
      go_wp2
      rw [Exit.noGoto_ret]
      go_ret
      exact ⟨rfl, hupd⟩
end Go.Proofs.Ytjiepoeeahnbgaa
