/- The law's own words: To, prio; the queue that came in. -/
import Derived.Test.YtmjcolkpfblelaaRefWaitW
import Derived.Test.YtmjcolkpfblelaaOpen
namespace Go.Proofs.Ytmjcolkpfblelaa
set_option linter.unusedVariables false
set_option linter.unusedSimpArgs false
open Go.RowKit
set_option maxHeartbeats 3200000 in
set_option maxRecDepth 100000 in
theorem to_any (a : Option Addr) (cap : Nat) (q : List Wt) (w : World) (hrd : RdW w (.slice a q.length cap) q) (hm : q.length ≤ 1000000) :
    Calls Try.prog 8 #[.slice a q.length cap] w fun e w' => ∃ a' c', e = .returned (.slice a' q.length c') ∧ w'.ownsRow w.heap.size 45 4 (.slice a' q.length c') q.length (q.flatMap Wt.enc) ∧ Upd [] w w' := by
  have HRD := Lib.hid hrd
  go_enter Try.func8, Try.ntmps8
  go_wp2
  go_loopw [3, 4] (fun r i wr => ∃ (k : Nat) (ra : Option Addr) (rc : Nat), k ≤ q.length ∧ i = .int .i64 k ∧ r = .slice ra (q.take k).length rc ∧ wr.ownsRow w.heap.size 45 4 (.slice ra (q.take k).length rc) (q.take k).length ((q.take k).flatMap Wt.enc) ∧ Upd [] w wr) (fun _ i _ => q.length - (intOf i).toNat)
  case atStart => exact ⟨0, none, 0, Nat.zero_le _, rfl, rfl, World.ownsRow_nil _ _ _ _, Upd.refl _ _⟩
  case round =>
    obtain ⟨k, ra, rc, hk, rfl, rfl, hown, hupd⟩ := hrel
    by_cases hlt : k < q.length
    · obtain ⟨x, hx⟩ : ∃ x, q[k]? = some x := ⟨_, List.getElem?_eq_getElem hlt⟩
      obtain ⟨b, off, rfl, z0, z1, z2, z3⟩ := RdW.cells hrd hx
      have x0 := hupd.cell z0 (by simp)
      have x1 := hupd.cell z1 (by simp)
      have x2 := hupd.cell z2 (by simp)
      have x3 := hupd.cell z3 (by simp)
      have Z0 := Lib.hid z0
      have Z1 := Lib.hid z1
      have Z2 := Lib.hid z2
      have Z3 := Lib.hid z3
      clear z0 z1 z2 z3
      have hbl : b < wr.heap.size := block_lt_of_cell x0
      have hs : q.take (k + 1) = q.take k ++ [x] := take_succ_get hx
      have hll : (q.take k).length ≤ k := List.length_take_le _ _
      generalize q.take k = l at hown hs hll
      have HS := Lib.hid hs
      have hm1 : l.length + 1 ≤ maxLen := by unfold maxLen; omega
      have hm2 : (l.length + 1) * 32 ≤ 140737488355328 := by omega
      have hbase : w.heap.size ≤ wr.heap.size := hupd.size
      have n0 := World.new_ne wr ⟨b, off + k * 4, none⟩ x0
      have n1 := World.new_ne wr ⟨b, off + k * 4 + 1, none⟩ x1
      have n2 := World.new_ne wr ⟨b, off + k * 4 + 2, none⟩ x2
      have n3 := World.new_ne wr ⟨b, off + k * 4 + 3, none⟩ x3
      have HOWN := Lib.hid hown
      clear hs hx hown
      go_wp2_with fail
      go_region_held3 (fun w' => w'.cell? ⟨b, off + k * 4, none⟩ = some (.int .i64 x.task) ∧ w'.cell? ⟨b, off + k * 4 + 1, none⟩ = some (.int .i64 x.case_) ∧ w'.cell? ⟨b, off + k * 4 + 2, none⟩ = some (.int .i64 x.seq) ∧ w'.cell? ⟨b, off + k * 4 + 3, none⟩ = some (.int .i64 x.v)) (go_keep) (first
        | ((refine step_extend tWt rfl (.tmp 11) (.tmp 33) rfl (HOWN.out.alloc _) rfl rfl (rd_new _ x.enc _) rfl (Wt.one1 x) hm1 hm2 (Nat.le_trans hbase (by simp)) ?_); intro g3 c3 w3 hown3 hupd3; have hupd4 : Upd [] w w3 := ((hupd.alloc _).drew).trans hupd3 (fun y hy hl => by have := (HOWN.out.lt y (by simpa using hy)).1; omega); have d0 := hupd4.cell Z0.out (by simp); have d1 := hupd4.cell Z1.out (by simp); have d2 := hupd4.cell Z2.out (by simp); have d3 := hupd4.cell Z3.out (by simp)))
      go_wp2
      have hl1 : (l ++ [x]).length = l.length + 1 := by simp
      go_roundw
      case rel => exact ⟨k + 1, g3, c3, by omega, by go_num, by rw [HS.out, hl1], by rw [HS.out, hl1, enc_snoc]; exact hown3, hupd4⟩
      case measure => simp [intOf]; omega
    · obtain rfl : k = q.length := by omega
      rw [List.take_of_length_le (Nat.le_refl _)] at hown
      rw [List.take_of_length_le (Nat.le_refl _)]
      go_wp2
      go_ret
      exact ⟨ra, rc, rfl, hown, hupd⟩

theorem prio14_any (a : Option Addr) (cap : Nat) (ps : List Int) (t : Int) (w : World) (h : RdI w (.slice a ps.length cap) ps) (hm : ps.length ≤ 9223372036854775807) :
    Calls Try.prog 19 #[.slice a ps.length cap, .int .i64 t] w fun e w' => e = .returned (.int .i64 (prioOf ps t)) ∧ w = w' := by
  unfold prioOf
  by_cases h1 : t < 0
  · have d1 : decide (t < 0) = true := decide_eq_true h1
    rw [if_pos h1]
    clear h1
    go_enter Try.func19, Try.ntmps19
    go_wp2
    go_ret
    exact ⟨rfl, rfl⟩
  · have d1 : decide (t < 0) = false := decide_eq_false h1
    rw [if_neg h1]
    by_cases h2 : (ps.length : Int) ≤ t
    · have d2 : decide ((ps.length : Int) ≤ t) = true := decide_eq_true h2
      rw [if_pos h2]
      clear h1 h2
      go_enter Try.func19, Try.ntmps19
      go_wp2
      go_ret
      exact ⟨rfl, rfl⟩
    · have d2 : decide ((ps.length : Int) ≤ t) = false := decide_eq_false h2
      rw [if_neg h2]
      obtain ⟨k, rfl⟩ := Int.eq_ofNat_of_zero_le (show 0 ≤ t by omega)
      have hk : k < ps.length := by omega
      have hc := get_ints hk
      rw [Int.toNat_natCast]
      generalize ps.getD k 0 = y at hc
      obtain ⟨b, off, rfl, hcell⟩ := h.at (by omega)
      have g1 := hcell k _ hc
      have d3 : decide (ps.length ≤ k) = false := decide_eq_false (by omega)
      clear hcell hc h1 h2
      go_enter Try.func19, Try.ntmps19
      go_wp2
      go_ret
      exact ⟨rfl, rfl⟩


open Go.Deep Go.ChangeShapes Go.WideShapes in
theorem rd_waiters {H : Type} {enc0 : TypeId × Value → H} {W : World} {base fuel len cap : Nat} {held : Bool} {a : Option Addr} {y : DataW H × List MemPlace}
    (h : DataW.trod enc0 Try.prog W base (fun _ => true) held fuel 22 [.slice a len cap] = some y) :
    ∃ xs : List Wt, len = xs.length ∧ Rd W (.slice a xs.length cap) xs.length (xs.flatMap Wt.enc) ∧ ∀ x ∈ xs, True := by
  haveI : Inhabited Wt := ⟨⟨0, 0, 0, 0⟩⟩
  refine open_row (enc0 := enc0) Wt.enc (fun x => True) Wt.enc_len (by omega) Try.underlying22 (by kernel_rfl) (fun n cs z hz => ?_) h
  obtain ⟨m, v0, v1, v2, v3, y0, y1, y2, y3, rfl, h0, h1, h2, h3⟩ := open_fields4 Try.underlying42 (by kernel_rfl) rfl rfl rfl rfl (by kernel_rfl) (by kernel_rfl) (by kernel_rfl) (by kernel_rfl) hz
  obtain ⟨n0, e0, _, _⟩ := DataW.trod_int Try.underlying3 h0
  obtain ⟨n1, e1, _, _⟩ := DataW.trod_int Try.underlying3 h1
  obtain ⟨n2, e2, _, _⟩ := DataW.trod_int Try.underlying2 h2
  obtain ⟨n3, e3, _, _⟩ := DataW.trod_int Try.underlying2 h3
  simp only [List.cons.injEq, and_true] at e0 e1 e2 e3
  subst e0
  subst e1
  subst e2
  subst e3
  exact ⟨⟨n0, n1, n2, n3⟩, rfl, trivial⟩
end Go.Proofs.Ytmjcolkpfblelaa
