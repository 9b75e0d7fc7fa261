/- The reference's timer in memory, and what its functions do. -/
import Derived.Test.YtkmjeadnkndhbaaTimerCancel
namespace Go.Proofs.Ytkmjeadnkndhbaa
set_option linter.unusedVariables false
set_option linter.unusedSimpArgs false
open Go.RowKit

theorem tDueR : ElemT Try.prog 42 59 (.agg #[.int .i64 0, .int .i64 0]) 2 16 :=
  ⟨Try.underlying42, by
    obtain ⟨i, hi, h⟩ := info_parts (show (Try.prog.info? 59).map (fun i => (i.zero, i.size, i.bytes)) = some (some (.agg #[.int .i64 0, .int .i64 0]), 2, 16) by kernel_rfl)
    exact ⟨i, hi, h⟩, rfl, by omega⟩
/-- The reference's timer at block m: its row as it was put. -/
structure RefT (w : World) (m : Nat) (ds : List Due) : Prop where
  ex : ∃ a cap, w.heap[m]? = some (.cells #[.slice a ds.length cap] 44 (0, 0)) ∧ w.ownsRow 0 59 2 (.slice a ds.length cap) ds.length (ds.flatMap Due.enc)
theorem RefT.lt {w : World} {m : Nat} {ds : List Due} (h : RefT w m ds) : m < w.heap.size := by
  obtain ⟨a, cap, h1, _⟩ := h.ex
  exact blk_lt h1
theorem RefT.step {w w' : World} {m : Nat} {ds : List Due} (h : RefT w m ds) (hu : Upd [] w w') : RefT w' m ds := by
  obtain ⟨a, cap, h1, h2⟩ := h.ex
  exact ⟨a, cap, hu.keep h1 (by simp), own_keep0 h2 hu⟩

set_option maxHeartbeats 1600000 in
set_option maxRecDepth 100000 in
theorem findR_any (m : Nat) (ds : List Due) (id : Int) (w : World) (h : RefT w m ds) (hm : ds.length ≤ 100000) :
    Calls Try.prog 23 #[.pointer (some ⟨m, 0, none⟩), .int .i64 id] w fun e w' => e = .returned (.int .i64 (optD (idxD ds id))) ∧ w = w' := by
  obtain ⟨a, cap, h1, h2⟩ := h.ex
  obtain ⟨c0, f0⟩ := one_cell h1
  have hrd : RdD w (.slice a ds.length cap) ds := Rd.of_own h2
  clear h1 h2
  go_enter Try.func23, Try.ntmps23
  go_wp2
  go_loopw [5] (fun i wr => ∃ k : Nat, k ≤ ds.length ∧ i = .int .i64 k ∧ (∀ j x, j < k → ds[j]? = some x → (x.id == id) = false) ∧ w = wr) (fun i _ => ds.length - (intOf i).toNat)
  case atStart => exact ⟨0, Nat.zero_le _, rfl, fun j x hj => by omega, rfl⟩
  case round =>
    obtain ⟨k, hk, rfl, hno, rfl⟩ := hrel
    have HNO := Lib.hid hno
    clear hno
    by_cases hlt : k < ds.length
    · obtain ⟨y, hy⟩ : ∃ y, ds[k]? = some y := ⟨_, List.getElem?_eq_getElem hlt⟩
      obtain ⟨b, off, rfl, y0, y1⟩ := RdD.cells hrd hy
      have HY := Lib.hid hy
      clear hy
      cases hpr : (y.id == id) with
      | true =>
        go_wp2
        go_ret
        refine ⟨?_, rfl⟩
        have : idxD ds id = some k := by
          rw [idxD, List.findIdx?_eq_some_iff_getElem]
          refine ⟨hlt, ?_, fun j hj => ?_⟩
          · have := HY.out
            rw [List.getElem?_eq_getElem hlt] at this
            cases this
            exact hpr
          · have := HNO.out j ds[j] hj (List.getElem?_eq_getElem _)
            simp [this]
        rw [this]
        rfl
      | false =>
        go_wp2
        go_roundw
        case rel =>
          refine ⟨k + 1, by omega, by go_num, fun j x hj hx => ?_, by first | rfl | trivial⟩
          rcases Nat.lt_or_ge j k with h | h
          · exact HNO.out j x h hx
          · obtain rfl : j = k := by omega
            rw [HY.out] at hx
            cases hx
            exact hpr
        case measure => simp [intOf]; omega
    · obtain rfl : k = ds.length := by omega
      go_wp2
      go_ret
      refine ⟨?_, rfl⟩
      have : idxD ds id = none := by
        rw [idxD, List.findIdx?_eq_none_iff]
        intro x hx
        obtain ⟨j, hj, rfl⟩ := List.getElem_of_mem hx
        exact HNO.out j _ hj (List.getElem?_eq_getElem hj)
      rw [this]
      rfl

theorem leftR_none (m : Nat) (ds : List Due) (id : Int) (w : World) (h : RefT w m ds) (hm : ds.length ≤ 100000) (hk : idxD ds id = none) :
    Calls Try.prog 19 #[.pointer (some ⟨m, 0, none⟩), .int .i64 id] w fun e w' => e = .returned (.tuple #[.int .i64 0, .bool false]) ∧ w = w' := by
  have HK := Lib.hid hk
  clear hk
  go_enter Try.func19, Try.ntmps19
  go_wp2_with fail
  refine (findR_any m ds id _ h hm).mono ?_
  rintro e w1 ⟨rfl, rfl⟩
  rw [HK.out]
  simp only [optD]
  go_wp2
  go_ret2
  exact ⟨rfl, rfl⟩
theorem leftR_some (m : Nat) (ds : List Due) (id : Int) (k : Nat) (x : Due) (w : World) (h : RefT w m ds) (hm : ds.length ≤ 100000) (hk : idxD ds id = some k) (hx : ds[k]? = some x) :
    Calls Try.prog 19 #[.pointer (some ⟨m, 0, none⟩), .int .i64 id] w fun e w' => e = .returned (.tuple #[.int .i64 x.more, .bool true]) ∧ w = w' := by
  have HK := Lib.hid hk
  clear hk
  obtain ⟨a, cap, h1, h2⟩ := h.ex
  obtain ⟨c0, f0⟩ := one_cell h1
  obtain ⟨b, off, rfl, y0, y1⟩ := RdD.cells (Rd.of_own h2) hx
  have hkl := (List.getElem?_eq_some_iff.1 hx).1
  clear h1 h2
  go_enter Try.func19, Try.ntmps19
  go_wp2_with fail
  refine (findR_any m ds id _ h hm).mono ?_
  rintro e w1 ⟨rfl, rfl⟩
  rw [HK.out]
  simp only [optD]
  go_wp2
  go_ret2
  exact ⟨rfl, rfl⟩

theorem putR_bad (m : Nat) (id n : Int) (w : World) (h : id < 0 ∨ 255 < id ∨ n < 1 ∨ 1099511627776 < n) :
    Calls Try.prog 15 #[.pointer (some ⟨m, 0, none⟩), .int .i64 id, .int .i64 n] w fun e w' => e = .returned (.int .i64 1) ∧ w = w' := by
  by_cases h1 : id < 0
  · have d1 : decide (id < 0) = true := decide_eq_true h1
    clear h h1
    go_enter Try.func15, Try.ntmps15
    go_wp2
    go_ret
    exact ⟨rfl, rfl⟩
  · have d1 : decide (id < 0) = false := decide_eq_false h1
    by_cases h2 : 255 < id
    · have d2 : decide (255 < id) = true := decide_eq_true h2
      clear h h1 h2
      go_enter Try.func15, Try.ntmps15
      go_wp2
      go_ret
      exact ⟨rfl, rfl⟩
    · have d2 : decide (255 < id) = false := decide_eq_false h2
      by_cases h3 : n < 1
      · have d3 : decide (n < 1) = true := decide_eq_true h3
        clear h h1 h2 h3
        go_enter Try.func15, Try.ntmps15
        go_wp2
        go_ret
        exact ⟨rfl, rfl⟩
      · have d3 : decide (n < 1) = false := decide_eq_false h3
        have d4 : decide (1099511627776 < n) = true := decide_eq_true (by omega)
        clear h h1 h2 h3
        go_enter Try.func15, Try.ntmps15
        go_wp2
        go_ret
        exact ⟨rfl, rfl⟩

theorem putR_twice (m : Nat) (ds : List Due) (k : Nat) (id n : Int) (w : World) (h : RefT w m ds) (hm : ds.length ≤ 100000) (h1 : 0 ≤ id) (h2 : id ≤ 255) (h3 : 1 ≤ n) (h4 : n ≤ 1099511627776) (hk : idxD ds id = some k) :
    Calls Try.prog 15 #[.pointer (some ⟨m, 0, none⟩), .int .i64 id, .int .i64 n] w fun e w' => e = .returned (.int .i64 6) ∧ w = w' := by
  have HK := Lib.hid hk
  clear hk
  go_enter Try.func15, Try.ntmps15
  go_wp2_with fail
  refine (findR_any m ds id _ h hm).mono ?_
  rintro e w1 ⟨rfl, rfl⟩
  rw [HK.out]
  simp only [optD]
  go_wp2
  go_ret
  exact ⟨rfl, rfl⟩

set_option maxHeartbeats 800000 in
theorem putR_ok (m : Nat) (ds : List Due) (id n : Int) (w : World) (h : RefT w m ds) (hm : ds.length ≤ 99999) (h1 : 0 ≤ id) (h2 : id ≤ 255) (h3 : 1 ≤ n) (h4 : n ≤ 1099511627776) (hk : idxD ds id = none) :
    Calls Try.prog 15 #[.pointer (some ⟨m, 0, none⟩), .int .i64 id, .int .i64 n] w fun e w' => e = .returned (.int .i64 0) ∧ RefT w' m (ds ++ [⟨id, n⟩]) ∧ Upd [m] w w' := by
  have HK := Lib.hid hk
  clear hk
  have hml := h.lt
  obtain ⟨a, cap, hp1, hown⟩ := h.ex
  have hrd : RdD w (.slice a ds.length cap) ds := Rd.of_own hown
  obtain ⟨c0, f0⟩ := one_cell hp1
  have hm0 : ds.length ≤ maxLen := by unfold maxLen; omega
  have hm00 : ds.length * 16 ≤ 140737488355328 := by omega
  have hm1 : ds.length + 1 ≤ maxLen := by unfold maxLen; omega
  have hm2 : (ds.length + 1) * 16 ≤ 140737488355328 := by omega
  clear hown
  go_enter Try.func15, Try.ntmps15
  go_wp2_with fail
  refine (findR_any m ds id _ h (by omega)).mono ?_
  rintro e w1 ⟨rfl, rfl⟩
  rw [HK.out]
  simp only [optD]
  go_wp2_with (first
    | (at_builtin; refine wp_copy tDueR rfl (.tmp 26) (.tmp 30) rfl (base := w.heap.size) (World.ownsRow_made _ #[] 0 (by simp) (by simp) rfl) rfl rfl (hrd.keep0 ((Upd.refl _ _).alloc _)) (due_len ds) (Due.one ds) hm0 hm00 (by simp) ?_; intro a2 cp2 w2 hown2 hupd2
       have hu2 : Upd [] w w2 := ((Upd.refl [] w).alloc _).trans hupd2 (fun x hx hl => by simp [Value.ownBlock] at hx; omega))
    | (at_builtin; refine wp_push tDueR rfl (.tmp 31) (.tmp 35) rfl hown2 (Due.enc ⟨id, n⟩) rfl rfl rfl (Due.one1 _) hm1 hm2 hu2.size ?_; intro g3 c3 w3 hown3 hu3
       have hu4 : Upd [] w w3 := hu2.trans hu3 (fun x hx hl => by have := (hown2.lt x (by simpa using hx)).1; omega)
       have hp3 := hu4.keep hp1 (by simp)
       obtain ⟨d0, t0⟩ := one_cell hp3
       clear hu3 hupd2 c0 f0))
  go_ret
  have hl1 : (ds ++ [(⟨id, n⟩ : Due)]).length = ds.length + 1 := by simp
  have hfl : (ds ++ [(⟨id, n⟩ : Due)]).flatMap Due.enc = ds.flatMap Due.enc ++ Due.enc ⟨id, n⟩ := by simp
  have hu5 : Upd [m] w3 (w3.setCell ⟨m, 0, none⟩ (.slice (some ⟨g3, 0, none⟩) (ds.length + 1) c3)) := (Upd.refl _ _).setCell _ _ (fun _ => by simp)
  refine ⟨rfl, ⟨some ⟨g3, 0, none⟩, c3, by rw [hl1]; exact one_set hp3, ?_⟩, (hu4.mono (by simp)).transS hu5⟩
  rw [hl1, hfl]
  exact own_lower (own_keep hown3 hu5 (fun q hq => by have := (hown3.lt q hq).1; simp; omega)) (Nat.zero_le _)
end Go.Proofs.Ytkmjeadnkndhbaa
