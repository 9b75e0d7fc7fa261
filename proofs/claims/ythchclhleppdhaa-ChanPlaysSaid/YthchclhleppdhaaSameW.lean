/- Two rows of those that wait, the program's and the reference's, are compared. -/
import Derived.Test.YthchclhleppdhaaWaitHas
import Derived.IntWalk
import Derived.Laws.StructEq
namespace Go.Proofs.Ythchclhleppdhaa
set_option linter.unusedVariables false
set_option linter.unusedSimpArgs false
open Go.RowKit
theorem take_succ_get {q : List Wt} {k : Nat} {x : Wt} (h : q[k]? = some x) : q.take (k + 1) = q.take k ++ [x] := by
  rw [List.take_add_one, h]
  rfl
theorem enc_snoc (l : List Wt) (x : Wt) : (l ++ [x]).flatMap Wt.enc = l.flatMap Wt.enc ++ x.enc := by simp
theorem tWr : ElemT Try.prog 89 55 (.agg #[.int .i64 0, .int .i64 0, .int .i64 0, .int .i64 0]) 4 32 :=
  ⟨Try.underlying89, by
    obtain ⟨i, hi, h⟩ := info_parts (show (Try.prog.info? 55).map (fun i => (i.zero, i.size, i.bytes)) = some (some (.agg #[.int .i64 0, .int .i64 0, .int .i64 0, .int .i64 0]), 4, 32) by kernel_rfl)
    exact ⟨i, hi, h⟩, rfl, by decide⟩

/-- A new block of one element is read. -/
theorem rd_new (W : World) (cs : List Value) (e : TypeId) : Rd (W.alloc (.cells cs.toArray e)) (.slice (some ⟨W.heap.size, 0, none⟩) 1 1) 1 cs := by
  refine ⟨_, 1, rfl, Nat.le_refl _, by unfold maxLen; omega, (fun h => by cases h), Or.inr ⟨_, _, rfl, fun j u hj => ?_⟩⟩
  rw [World.cell?_alloc_at _ _ _ _ rfl]
  simpa using hj

set_option maxHeartbeats 3200000 in
set_option maxRecDepth 100000 in
theorem of_any (a : Option Addr) (cap : Nat) (q : List Wt) (w : World) (hrd : RdW w (.slice a q.length cap) q) (hm : q.length ≤ 1000000) :
    Calls Try.prog 59 #[.slice a q.length cap] w fun e w' => ∃ a' c', e = .returned (.slice a' q.length c') ∧ w'.ownsRow w.heap.size 55 4 (.slice a' q.length c') q.length (q.flatMap Wt.enc) ∧ Upd [] w w' := by
  have HRD := Lib.hid hrd
  go_enter Try.func59, Try.ntmps59
  go_wp2
  go_loopw [3, 4] (fun r i wr => ∃ (k : Nat) (ra : Option Addr) (rc : Nat), k ≤ q.length ∧ i = .int .i64 k ∧ r = .slice ra (q.take k).length rc ∧ wr.ownsRow w.heap.size 55 4 (.slice ra (q.take k).length rc) (q.take k).length ((q.take k).flatMap Wt.enc) ∧ Upd [] w wr) (fun _ i _ => q.length - (intOf i).toNat)
  case atStart => exact ⟨0, none, 0, Nat.zero_le _, rfl, rfl, World.ownsRow_nil _ _ _ _, Upd.refl _ _⟩
  case round =>
    obtain ⟨k, ra, rc, hk, rfl, rfl, hown, hupd⟩ := hrel
    by_cases hlt : k < q.length
    · obtain ⟨x, hx⟩ : ∃ x, q[k]? = some x := ⟨_, List.getElem?_eq_getElem hlt⟩
      obtain ⟨b, off, rfl, z0, z1, z2, z3⟩ := RdW.cells hrd hx
      have x0 := hupd.cell z0 (by simp)
      have x1 := hupd.cell z1 (by simp)
      have x2 := hupd.cell z2 (by simp)
      have x3 := hupd.cell z3 (by simp)
      have Z0 := Lib.hid z0
      have Z1 := Lib.hid z1
      have Z2 := Lib.hid z2
      have Z3 := Lib.hid z3
      clear z0 z1 z2 z3
      have hbl : b < wr.heap.size := block_lt_of_cell x0
      have hs : q.take (k + 1) = q.take k ++ [x] := take_succ_get hx
      have hll : (q.take k).length ≤ k := List.length_take_le _ _
      generalize q.take k = l at hown hs hll
      have HS := Lib.hid hs
      have hm1 : l.length + 1 ≤ maxLen := by unfold maxLen; omega
      have hm2 : (l.length + 1) * 32 ≤ 140737488355328 := by omega
      have hbase : w.heap.size ≤ wr.heap.size := hupd.size
      have n0 := World.new_ne wr ⟨b, off + k * 4, none⟩ x0
      have n1 := World.new_ne wr ⟨b, off + k * 4 + 1, none⟩ x1
      have n2 := World.new_ne wr ⟨b, off + k * 4 + 2, none⟩ x2
      have n3 := World.new_ne wr ⟨b, off + k * 4 + 3, none⟩ x3
      have HOWN := Lib.hid hown
      clear hs hx hown
      go_wp2_with fail
      go_region_held3 (fun w' => w'.cell? ⟨b, off + k * 4, none⟩ = some (.int .i64 x.task) ∧ w'.cell? ⟨b, off + k * 4 + 1, none⟩ = some (.int .i64 x.case_) ∧ w'.cell? ⟨b, off + k * 4 + 2, none⟩ = some (.int .i64 x.seq) ∧ w'.cell? ⟨b, off + k * 4 + 3, none⟩ = some (.int .i64 x.v)) (go_keep) (first
        | ((refine step_extend tWr rfl (.tmp 11) (.tmp 33) rfl (HOWN.out.alloc _) rfl rfl (rd_new _ x.enc _) rfl (Wt.one1 x) hm1 hm2 (Nat.le_trans hbase (by simp)) ?_); intro g3 c3 w3 hown3 hupd3; have hupd4 : Upd [] w w3 := ((hupd.alloc _).drew).trans hupd3 (fun y hy hl => by have := (HOWN.out.lt y (by simpa using hy)).1; omega); have d0 := hupd4.cell Z0.out (by simp); have d1 := hupd4.cell Z1.out (by simp); have d2 := hupd4.cell Z2.out (by simp); have d3 := hupd4.cell Z3.out (by simp)))
      go_wp2
      have hl1 : (l ++ [x]).length = l.length + 1 := by simp
      go_roundw
      case rel => exact ⟨k + 1, g3, c3, by omega, by go_num, by rw [HS.out, hl1], by rw [HS.out, hl1, enc_snoc]; exact hown3, hupd4⟩
      case measure => simp [intOf]; omega
    · obtain rfl : k = q.length := by omega
      rw [List.take_of_length_le (Nat.le_refl _)] at hown
      rw [List.take_of_length_le (Nat.le_refl _)]
      go_wp2
      go_ret
      exact ⟨ra, rc, rfl, hown, hupd⟩

set_option maxHeartbeats 3200000 in
set_option maxRecDepth 100000 in
theorem same_any (a1 a2 : Option Addr) (c1 c2 : Nat) (q : List Wt) (w : World) (h1 : RdW w (.slice a1 q.length c1) q) (h2 : RdW w (.slice a2 q.length c2) q) (hm : q.length ≤ 1000000) :
    Calls Try.prog 52 #[.slice a1 q.length c1, .slice a2 q.length c2] w fun e w' => e = .returned (.bool true) ∧ Upd [] w w' := by
  have hd0 : ((q.length : Int) != (q.length : Int)) = false := by simp
  have H2 := Lib.hid h2
  go_enter Try.func52, Try.ntmps52
  go_wp2_with fail
  refine (of_any a1 c1 q _ h1 hm).mono ?_
  rintro e w1 ⟨a3, c3, rfl, hown, hu⟩
  have hr3 : RdW w1 (.slice a3 q.length c3) q := Rd.of_own hown
  have H3 := Lib.hid hr3
  clear h1 h2 hown hr3
  go_wp2
  go_loopw [6] (fun i wr => ∃ (k : Nat), k ≤ q.length ∧ i = .int .i64 k ∧ Upd [] w1 wr) (fun i _ => q.length - (intOf i).toNat)
  case atStart => exact ⟨0, Nat.zero_le _, rfl, Upd.refl _ _⟩
  case round =>
    obtain ⟨k, hk, rfl, hupd⟩ := hrel
    by_cases hlt : k < q.length
    · obtain ⟨x, hx⟩ : ∃ x, q[k]? = some x := ⟨_, List.getElem?_eq_getElem hlt⟩
      obtain ⟨b, off, he, x0, x1, x2, x3⟩ := RdW.cells (H3.out.keep0 hupd) hx
      obtain ⟨b', off', he', y0, y1, y2, y3⟩ := RdW.cells ((H2.out.keep0 hu).keep0 hupd) hx
      subst he
      subst he'
      clear hx
      go_wp2
      go_quiet (fail)
      go_wp2
      go_roundw
      case rel => exact ⟨k + 1, by omega, by go_num, hupd.drewN _⟩
      case measure => simp [intOf]; omega
    · obtain rfl : k = q.length := by omega
      go_wp2
      go_ret
      exact ⟨rfl, hu.trans0 hupd⟩
end Go.Proofs.Ythchclhleppdhaa
