/- slices.IndexFunc, ContainsFunc, Clone over waiters; waitq.Has. -/
import Derived.Test.YtmjcolkpfblelaaWait
namespace Go.Proofs.Ytmjcolkpfblelaa
set_option linter.unusedVariables false
set_option linter.unusedSimpArgs false
open Go.RowKit

/-- Where the first stands of which pr holds. -/
def idxOf (pr : Wt → Bool) (q : List Wt) : Option Nat := q.findIdx? pr

set_option maxHeartbeats 1600000 in
set_option maxRecDepth 100000 in
theorem indexFunc_any (bt : Nat) (pr : Wt → Bool) (a : Option Addr) (cap : Nat) (q : List Wt) (w : World) (hq : RdW w (.slice a q.length cap) q) (hmq : q.length ≤ 9223372036854775807)
    (hcl : ∀ (x : Wt) (W : World), Upd [] w W → Calls Try.prog 30 #[.agg #[.int .i64 x.task, .int .i64 x.case_, .int .i64 x.seq, .int .i64 x.v], .pointer (some ⟨bt, 0, none⟩)] W fun e w' => e = .returned (.bool (pr x)) ∧ Upd [] W w') :
    Calls Try.prog 33 #[.slice a q.length cap, .func (.func 30) #[] #[.pointer (some ⟨bt, 0, none⟩)]] w fun e w' => e = .returned (.int .i64 (optI (idxOf pr q))) ∧ Upd [] w w' := by
  have HCL := Lib.hid hcl
  clear hcl
  go_enter Try.func33, Try.ntmps33
  go_wp2
  go_loopw [8] (fun i wr => ∃ k : Nat, k ≤ q.length ∧ i = .int .i64 k ∧ Upd [] w wr ∧ ∀ j x, j < k → q[j]? = some x → pr x = false) (fun i _ => q.length - (intOf i).toNat)
  case atStart => exact ⟨0, Nat.zero_le _, rfl, Upd.refl _ _, fun j x hj => by omega⟩
  case round =>
    obtain ⟨k, hk, rfl, hupd, hno⟩ := hrel
    have HNO := Lib.hid hno
    clear hno
    by_cases hlt : k < q.length
    · obtain ⟨y, hy⟩ : ∃ y, q[k]? = some y := ⟨_, List.getElem?_eq_getElem hlt⟩
      obtain ⟨b, off, rfl, y0, y1, y2, y3⟩ := RdW.cells (hq.keep0 hupd) hy
      have HY := Lib.hid hy
      clear hy
      go_wp2_with fail
      refine (HCL.out y _ hupd).mono ?_
      rintro e w1 ⟨rfl, hu1⟩
      have hupd1 := hupd.trans0 hu1
      clear y0 y1 y2 y3 hu1
      cases hpr : pr y with
      | true =>
        have HPR := Lib.hid hpr
        clear hpr
        go_wp2
        go_ret
        refine ⟨?_, hupd1⟩
        have : idxOf pr q = some k := by
          rw [idxOf, List.findIdx?_eq_some_iff_getElem]
          refine ⟨hlt, ?_, fun j hj => ?_⟩
          · have := HY.out
            rw [List.getElem?_eq_getElem hlt] at this
            cases this
            exact HPR.out
          · have := HNO.out j q[j] hj (List.getElem?_eq_getElem _)
            simp [this]
        rw [this]
        rfl
      | false =>
        have HPR := Lib.hid hpr
        clear hpr
        go_wp2
        go_roundw
        case rel =>
          refine ⟨k + 1, by omega, by go_num, hupd1, fun j x hj hx => ?_⟩
          rcases Nat.lt_or_ge j k with h | h
          · exact HNO.out j x h hx
          · obtain rfl : j = k := by omega
            rw [HY.out] at hx
            cases hx
            exact HPR.out
        case measure => simp [intOf]; omega
    · obtain rfl : k = q.length := by omega
      go_wp2
      go_ret
      refine ⟨?_, hupd⟩
      have : idxOf pr q = none := by
        rw [idxOf, List.findIdx?_eq_none_iff]
        intro x hx
        obtain ⟨j, hj, rfl⟩ := List.getElem_of_mem hx
        exact HNO.out j _ hj (List.getElem?_eq_getElem hj)
      rw [this]
      rfl

theorem idx_any (pr : Wt → Bool) (q : List Wt) : decide (0 ≤ optI (idxOf pr q)) = q.any pr := by
  cases h : idxOf pr q with
  | none =>
    rw [idxOf, List.findIdx?_eq_none_iff] at h
    have : q.any pr = false := by
      rw [List.any_eq_false]
      intro x hx
      simp [h x hx]
    rw [this]
    rfl
  | some k =>
    rw [idxOf, List.findIdx?_eq_some_iff_getElem] at h
    obtain ⟨hk, hp, _⟩ := h
    have : q.any pr = true := List.any_eq_true.2 ⟨_, List.getElem_mem hk, hp⟩
    rw [this]
    simp [optI]

theorem containsFunc_any (bt : Nat) (pr : Wt → Bool) (a : Option Addr) (cap : Nat) (q : List Wt) (w : World) (hq : RdW w (.slice a q.length cap) q) (hmq : q.length ≤ 9223372036854775807)
    (hcl : ∀ (x : Wt) (W : World), Upd [] w W → Calls Try.prog 30 #[.agg #[.int .i64 x.task, .int .i64 x.case_, .int .i64 x.seq, .int .i64 x.v], .pointer (some ⟨bt, 0, none⟩)] W fun e w' => e = .returned (.bool (pr x)) ∧ Upd [] W w') :
    Calls Try.prog 29 #[.slice a q.length cap, .func (.func 30) #[] #[.pointer (some ⟨bt, 0, none⟩)]] w fun e w' => e = .returned (.bool (q.any pr)) ∧ Upd [] w w' := by
  have HCL := Lib.hid hcl
  clear hcl
  go_enter Try.func29, Try.ntmps29
  go_wp2_with fail
  refine (indexFunc_any bt pr a cap q w hq hmq HCL.out).mono ?_
  rintro e w1 ⟨rfl, hu1⟩
  go_wp2
  go_ret
  exact ⟨by rw [← idx_any]; rfl, hu1⟩

theorem hasClosure_any (x : Wt) (bt : Nat) (t : Int) (W : World) (hb : W.cell? ⟨bt, 0, none⟩ = some (.int .i64 t)) :
    Calls Try.prog 30 #[.agg #[.int .i64 x.task, .int .i64 x.case_, .int .i64 x.seq, .int .i64 x.v], .pointer (some ⟨bt, 0, none⟩)] W fun e w' => e = .returned (.bool (x.task == t)) ∧ Upd [] W w' := by
  have hlt : bt < W.heap.size := block_lt_of_cell hb
  go_enter Try.func30, Try.ntmps30
  go_wp2
  go_ret
  exact ⟨rfl, (Upd.refl _ _).alloc _⟩

theorem has_any (a : Option Addr) (cap : Nat) (q : List Wt) (t : Int) (w : World) (hq : RdW w (.slice a q.length cap) q) (hmq : q.length ≤ 9223372036854775807) :
    Calls Try.prog 14 #[.slice a q.length cap, .int .i64 t] w fun e w' => e = .returned (.bool (q.any fun x => x.task == t)) ∧ Upd [] w w' := by
  have hu0 : Upd [] w (w.alloc (.cells #[.int .i64 t] 3)) := (Upd.refl _ _).alloc _
  have hc : (w.alloc (.cells #[.int .i64 t] 3)).cell? ⟨w.heap.size, 0, none⟩ = some (.int .i64 t) := by rw [World.cell?_alloc_at _ _ _ _ rfl]; rfl
  have hmf : ∀ (fn : Fn) (first cap : Array Value) (w : World), (Instr.makeFunc fn first cap).run Try.prog w = .ok (.func fn first cap) w := fun _ _ _ _ => rfl
  have HC := Lib.hid hc
  clear hc
  go_enter Try.func14, Try.ntmps14
  go_wp2_with fail
  refine (containsFunc_any w.heap.size (fun x => x.task == t) a cap q _ (hq.keep0 hu0) hmq (fun x W hu => hasClosure_any x _ t W (hu.cell HC.out (by simp)))).mono ?_
  rintro e w1 ⟨rfl, hu1⟩
  go_wp2
  go_ret
  exact ⟨rfl, hu0.trans0 hu1⟩
end Go.Proofs.Ytmjcolkpfblelaa
