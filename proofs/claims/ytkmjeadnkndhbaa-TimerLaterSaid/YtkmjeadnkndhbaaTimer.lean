/- A timer in memory, and what its functions do. -/
import Derived.Test.YtkmjeadnkndhbaaDueMore
import Derived.WalkSpells
namespace Go.Proofs.Ytkmjeadnkndhbaa
set_option linter.unusedVariables false
set_option linter.unusedSimpArgs false
open Go.RowKit

theorem one_cell {w : World} {b : Nat} {u : Value} {t : TypeId} (h : w.heap[b]? = some (.cells #[u] t (0, 0))) : w.cell? ⟨b, 0, none⟩ = some u ∧ w.frozen? ⟨b, 0, none⟩ = false := by
  simp [World.cell?, World.frozen?, h]
theorem one_set {w : World} {b : Nat} {u x : Value} {t : TypeId} (h : w.heap[b]? = some (.cells #[u] t (0, 0))) : (w.setCell ⟨b, 0, none⟩ x).heap[b]? = some (.cells #[x] t (0, 0)) := by
  simp only [World.setCell, Array.getElem?_modify, if_true, h, Option.map_some]
  rfl
/-- A row of those that are due is read. -/
abbrev RdD (w : World) (v : Value) (xs : List Due) : Prop := Rd w v xs.length (xs.flatMap Due.enc)
theorem RdD.cells {w : World} {a : Option Addr} {cap : Nat} {xs : List Due} (h : RdD w (.slice a xs.length cap) xs) {k : Nat} {x : Due} (hk : xs[k]? = some x) :
    ∃ b off, a = some ⟨b, off, none⟩ ∧ w.cell? ⟨b, off + k * 2, none⟩ = some (.int .i64 x.id) ∧ w.cell? ⟨b, off + k * 2 + 1, none⟩ = some (.int .i64 x.more) := by
  have hl := (List.getElem?_eq_some_iff.1 hk).1
  obtain ⟨b, off, rfl, hc⟩ := h.at (by omega)
  have hxs : xs = xs.take k ++ (x :: xs.drop (k + 1)) := by
    rw [List.getElem?_eq_getElem hl] at hk
    cases hk
    rw [List.getElem_cons_drop, List.take_append_drop]
  have hg : ∀ f, f < 2 → (xs.flatMap Due.enc)[k * 2 + f]? = x.enc[f]? := by
    intro f hf
    have hA := take_flat (ds := xs) (i := k) (by omega)
    rw [hxs, flat_due, List.flatMap_cons]
    rw [List.getElem?_append_right (by rw [hA]; omega), hA, show k * 2 + f - k * 2 = f by omega, List.getElem?_append_left (by rw [Due.enc_len]; omega)]
  refine ⟨b, off, rfl, ?_, ?_⟩
  · have := hc (k * 2 + 0) _ (hg 0 (by omega))
    simpa using this
  · have := hc (k * 2 + 1) _ (hg 1 (by omega))
    simpa [Nat.add_assoc] using this

/-- A timer at block p, its row at block b (or nowhere). -/
structure TimAt (w : World) (p : Nat) (b : Option Nat) (ds : List Due) : Prop where
  ex : ∃ a cap, w.heap[p]? = some (.cells #[.slice a ds.length cap] 53 (0, 0)) ∧ w.ownsRow 0 55 2 (.slice a ds.length cap) ds.length (ds.flatMap Due.enc) ∧ (Value.slice a ds.length cap).ownBlock = b
theorem TimAt.lt {w : World} {p : Nat} {b : Option Nat} {ds : List Due} (h : TimAt w p b ds) : p < w.heap.size := by
  obtain ⟨a, cap, h1, _⟩ := h.ex
  exact blk_lt h1
theorem TimAt.rowLt {w : World} {p : Nat} {b : Option Nat} {ds : List Due} (h : TimAt w p b ds) : ∀ k, b = some k → k < w.heap.size := by
  obtain ⟨a, cap, h1, h2, h3⟩ := h.ex
  exact fun k hk => (h2.lt k (by rw [h3, hk])).2
theorem TimAt.keep {w w' : World} {p : Nat} {b : Option Nat} {ds : List Due} {S : List Nat} (h : TimAt w p b ds) (hu : Upd S w w') (hp : p ∉ S) (hb : ∀ k, b = some k → k ∉ S) : TimAt w' p b ds := by
  obtain ⟨a, cap, h1, h2, h3⟩ := h.ex
  exact ⟨a, cap, hu.keep h1 hp, own_keep h2 hu (fun k hk => hb k (by rw [← h3]; exact hk)), h3⟩
theorem TimAt.step {w w' : World} {p : Nat} {b : Option Nat} {ds : List Due} (h : TimAt w p b ds) (hu : Upd [] w w') : TimAt w' p b ds := h.keep hu (by simp) (fun _ _ => by simp)

theorem newTimer_any (w : World) : Calls Try.prog 8 #[] w fun e w' => ∃ p, e = .returned (.pointer (some ⟨p, 0, none⟩)) ∧ TimAt w' p none [] ∧ Upd [] w w' ∧ w.heap.size ≤ p := by
  go_enter Try.func8, Try.ntmps8
  go_wp2
  go_ret
  exact ⟨_, rfl, ⟨none, 0, heap_alloc_new _ _, World.ownsRow_nil _ _ _ _, rfl⟩, (Upd.refl _ _).alloc _, Nat.le_refl _⟩

theorem lenTimer_any (p : Nat) (b : Option Nat) (ds : List Due) (w : World) (h : TimAt w p b ds) :
    Calls Try.prog 11 #[.pointer (some ⟨p, 0, none⟩)] w fun e w' => e = .returned (.int .i64 ds.length) ∧ w = w' := by
  obtain ⟨a, cap, h1, h2, _⟩ := h.ex
  obtain ⟨c0, f0⟩ := one_cell h1
  go_enter Try.func11, Try.ntmps11
  go_wp2
  go_ret
  exact ⟨rfl, rfl⟩

/-- Where an id stands. -/
def idxD (ds : List Due) (id : Int) : Option Nat := ds.findIdx? fun d => d.id == id
def optD : Option Nat → Int
  | none => -1
  | some k => k

theorem findClosure_any (x : Due) (bt : Nat) (t : Int) (W : World) (hb : W.cell? ⟨bt, 0, none⟩ = some (.int .i64 t)) :
    Calls Try.prog 26 #[.agg #[.int .i64 x.id, .int .i64 x.more], .pointer (some ⟨bt, 0, none⟩)] W fun e w' => e = .returned (.bool (x.id == t)) ∧ Upd [] W w' := by
  have hlt : bt < W.heap.size := block_lt_of_cell hb
  go_enter Try.func26, Try.ntmps26
  go_wp2
  go_ret
  exact ⟨rfl, (Upd.refl _ _).alloc _⟩

set_option maxHeartbeats 1600000 in
set_option maxRecDepth 100000 in
theorem indexD_any (bt : Nat) (id : Int) (a : Option Addr) (cap : Nat) (q : List Due) (w : World) (hq : RdD w (.slice a q.length cap) q) (hmq : q.length ≤ 9223372036854775807) (hb : w.cell? ⟨bt, 0, none⟩ = some (.int .i64 id)) :
    Calls Try.prog 25 #[.slice a q.length cap, .func (.func 26) #[] #[.pointer (some ⟨bt, 0, none⟩)]] w fun e w' => e = .returned (.int .i64 (optD (idxD q id))) ∧ Upd [] w w' := by
  have HB := Lib.hid hb
  clear hb
  go_enter Try.func25, Try.ntmps25
  go_wp2
  go_loopw [8] (fun i wr => ∃ k : Nat, k ≤ q.length ∧ i = .int .i64 k ∧ Upd [] w wr ∧ ∀ j x, j < k → q[j]? = some x → (x.id == id) = false) (fun i _ => q.length - (intOf i).toNat)
  case atStart => exact ⟨0, Nat.zero_le _, rfl, Upd.refl _ _, fun j x hj => by omega⟩
  case round =>
    obtain ⟨k, hk, rfl, hupd, hno⟩ := hrel
    have HNO := Lib.hid hno
    clear hno
    by_cases hlt : k < q.length
    · obtain ⟨y, hy⟩ : ∃ y, q[k]? = some y := ⟨_, List.getElem?_eq_getElem hlt⟩
      obtain ⟨b, off, rfl, y0, y1⟩ := RdD.cells (hq.keep0 hupd) hy
      have HY := Lib.hid hy
      clear hy
      go_wp2_with fail
      refine (findClosure_any y bt id _ (hupd.cell HB.out (by simp))).mono ?_
      rintro e w1 ⟨rfl, hu1⟩
      have hupd1 := hupd.trans0 hu1
      clear y0 y1 hu1
      cases hpr : (y.id == id) with
      | true =>
        have HPR := Lib.hid hpr
        clear hpr
        go_wp2
        go_ret
        refine ⟨?_, hupd1⟩
        have : idxD q id = some k := by
          rw [idxD, List.findIdx?_eq_some_iff_getElem]
          refine ⟨hlt, ?_, fun j hj => ?_⟩
          · have := HY.out
            rw [List.getElem?_eq_getElem hlt] at this
            cases this
            exact HPR.out
          · have := HNO.out j q[j] hj (List.getElem?_eq_getElem _)
            simp [this]
        rw [this]
        rfl
      | false =>
        have HPR := Lib.hid hpr
        clear hpr
        go_wp2
        go_roundw
        case rel =>
          refine ⟨k + 1, by omega, by go_num, hupd1, fun j x hj hx => ?_⟩
          rcases Nat.lt_or_ge j k with h | h
          · exact HNO.out j x h hx
          · obtain rfl : j = k := by omega
            rw [HY.out] at hx
            cases hx
            exact HPR.out
        case measure => simp [intOf]; omega
    · obtain rfl : k = q.length := by omega
      go_wp2
      go_ret
      refine ⟨?_, hupd⟩
      have : idxD q id = none := by
        rw [idxD, List.findIdx?_eq_none_iff]
        intro x hx
        obtain ⟨j, hj, rfl⟩ := List.getElem_of_mem hx
        exact HNO.out j _ hj (List.getElem?_eq_getElem hj)
      rw [this]
      rfl

theorem find_any (p : Nat) (b : Option Nat) (ds : List Due) (id : Int) (w : World) (h : TimAt w p b ds) (hm : ds.length ≤ 100000) :
    Calls Try.prog 20 #[.pointer (some ⟨p, 0, none⟩), .int .i64 id] w fun e w' => e = .returned (.int .i64 (optD (idxD ds id))) ∧ Upd [] w w' := by
  obtain ⟨a, cap, h1, h2, _⟩ := h.ex
  have hu0 : Upd [] w (w.alloc (.cells #[.int .i64 id] 3)) := (Upd.refl _ _).alloc _
  obtain ⟨c0, f0⟩ := one_cell (hu0.keep h1 (by simp))
  have hc : (w.alloc (.cells #[.int .i64 id] 3)).cell? ⟨w.heap.size, 0, none⟩ = some (.int .i64 id) := by rw [World.cell?_alloc_at _ _ _ _ rfl]; rfl
  have hmf : ∀ (fn : Fn) (first cap : Array Value) (w : World), (Instr.makeFunc fn first cap).run Try.prog w = .ok (.func fn first cap) w := fun _ _ _ _ => rfl
  have HC := Lib.hid hc
  have hrd : RdD w (.slice a ds.length cap) ds := Rd.of_own h2
  clear hc h1
  go_enter Try.func20, Try.ntmps20
  go_wp2_with fail
  refine (indexD_any w.heap.size id a cap ds _ (hrd.keep0 hu0) (by omega) HC.out).mono ?_
  rintro e w1 ⟨rfl, hu1⟩
  go_wp2
  go_ret
  exact ⟨rfl, hu0.trans0 hu1⟩
end Go.Proofs.Ytkmjeadnkndhbaa
