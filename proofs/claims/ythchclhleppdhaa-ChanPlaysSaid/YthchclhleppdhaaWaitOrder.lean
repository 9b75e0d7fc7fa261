/- waitq.Order of a queue of fewer than twenty. -/
import Derived.Test.YthchclhleppdhaaWait
import Derived.Test.YthchclhleppdhaaSortW
import Derived.Deep.RegionHeld3
namespace Go.Proofs.Ythchclhleppdhaa
set_option linter.unusedVariables false
set_option linter.unusedSimpArgs false
open Go.RowKit
def wAt (q : List Wt) (x : Nat) : Wt := q.getD x ⟨0, 0, 0, 0⟩
def cfW (q : List Wt) (ps : List Int) (x y : Nat) : Int := orI (cmpI (prioOf ps (wAt q y).task) (prioOf ps (wAt q x).task)) (cmpI (wAt q x).seq (wAt q y).seq)
theorem wAt_get {q : List Wt} {x : Nat} (h : x < q.length) : q[x]? = some (wAt q x) := by simp [wAt, List.getD, h]
set_option maxHeartbeats 16000000 in
set_option maxRecDepth 100000 in
theorem orderClosure_any (bq bp : Nat) (a ap : Option Addr) (cap cp : Nat) (q : List Wt) (ps : List Int) (x y : Nat) (hx : x < q.length) (hy : y < q.length) (W : World) (hbq : W.cell? ⟨bq, 0, none⟩ = some (.slice a q.length cap)) (hbp : W.cell? ⟨bp, 0, none⟩ = some (.slice ap ps.length cp)) (hq : RdW W (.slice a q.length cap) q) (hp : RdI W (.slice ap ps.length cp) ps) (hm : ps.length ≤ 9223372036854775807) :
    Calls Try.prog 65 #[.int .i64 x, .int .i64 y, .pointer (some ⟨bp, 0, none⟩), .pointer (some ⟨bq, 0, none⟩)] W fun e w' => e = .returned (.int .i64 (cfW q ps x y)) ∧ Upd [] W w' := by
  obtain ⟨b, off, rfl, x0, x1, x2, x3⟩ := RdW.cells hq (wAt_get hx)
  obtain ⟨b', off', he, y0, y1, y2, y3⟩ := RdW.cells hq (wAt_get hy)
  obtain ⟨rfl, rfl⟩ : b = b' ∧ off = off' := by simpa using he
  have hpd := hp.keep0 ((Upd.refl [] W).drew)
  unfold cfW
  generalize wAt q x = X at *
  generalize wAt q y = Y at *
  obtain ⟨n, hn⟩ : ∃ n, n = q.length := ⟨_, rfl⟩
  rw [← hn] at hbq hx hy
  have hx0 : (0 : Int) ≤ (x : Int) := by omega
  have hx1' : (x : Int) < (n : Int) := by omega
  have hy0 : (0 : Int) ≤ (y : Int) := by omega
  have hy1' : (y : Int) < (n : Int) := by omega
  have hsz : W.heap.size = W.drew.heap.size := by simp
  have HSZ := Lib.hid hsz
  have e1 := block_lt_of_cell hbq
  have e2 := block_lt_of_cell hbp
  have e3 := block_lt_of_cell x0
  clear he hsz hq hp hn
  go_enter Try.func65, Try.ntmps65
  go_wp2_with fail
  go_region_held3 (fun w' => w'.cell? ⟨bq, 0, none⟩ = some (.slice (some ⟨b, off, none⟩) n cap) ∧ w'.cell? ⟨bp, 0, none⟩ = some (.slice ap ps.length cp) ∧ w'.cell? ⟨b, off + x * 4, none⟩ = some (.int .i64 X.task) ∧ w'.cell? ⟨b, off + x * 4 + 2, none⟩ = some (.int .i64 X.seq) ∧ w'.cell? ⟨b, off + y * 4, none⟩ = some (.int .i64 Y.task) ∧ w'.cell? ⟨b, off + y * 4 + 2, none⟩ = some (.int .i64 Y.seq)) (go_keep) (first
    | (go_at_call 62; refine (prio_any ap cp ps _ _ hpd hm).mono ?_; rintro e w' ⟨rfl, rfl⟩)
    | (go_at_call 61; refine (cmp_int_any _ _ _).mono ?_; rintro e w' ⟨rfl, rfl⟩)
    | (go_at_call 63; refine (cmp_int64_any _ _ _).mono ?_; rintro e w' ⟨rfl, rfl⟩)
    | (go_at_call 60; refine (or_new _ _ _ _ _ HSZ.out).mono ?_; rintro e w' ⟨rfl, rfl⟩))
  all_goals
    go_wp2
    go_ret
    exact ⟨rfl, ((Upd.refl [] W).drew).alloc _⟩
end Go.Proofs.Ythchclhleppdhaa
