
/- slices.DeleteFunc over waiters; waitq.Without. -/
import Derived.Test.YtjiepoeeahnbgaaWaitClone
import Derived.Test.YtjiepoeeahnbgaaWaitHas
import Derived.Test.YtjiepoeeahnbgaaRowMore
import Derived.IntWalk
namespace Go.Proofs.Ytjiepoeeahnbgaa
set_option linter.unusedVariables false
set_option linter.unusedSimpArgs false
open Go.RowKit
set_option maxHeartbeats 1600000 in
set_option maxRecDepth 100000 in
theorem indexFuncD_any (bt : Nat) (pr : Wt → Bool) (a : Option Addr) (cap : Nat) (q : List Wt) (w : World) (hq : RdW w (.slice a q.length cap) q) (hmq : q.length ≤ 9223372036854775807)
    (hcl : ∀ (x : Wt) (W : World), Upd [] w W → Calls Try.prog 53 #[.agg #[.int .i64 x.task, .int .i64 x.case_, .int .i64 x.seq, .int .i64 x.v], .pointer (some ⟨bt, 0, none⟩)] W fun e w' => e = .returned (.bool (pr x)) ∧ Upd [] W w') :
    Calls Try.prog 58 #[.slice a q.length cap, .func (.func 53) #[] #[.pointer (some ⟨bt, 0, none⟩)]] w fun e w' => e = .returned (.int .i64 (optI (idxOf pr q))) ∧ Upd [] w w' := by
  have HCL := Lib.hid hcl
  clear hcl
  go_enter Try.func58, Try.ntmps58
  go_wp2
  go_loopw [8] (fun i wr => ∃ k : Nat, k ≤ q.length ∧ i = .int .i64 k ∧ Upd [] w wr ∧ ∀ j x, j < k → q[j]? = some x → pr x = false) (fun i _ => q.length - (intOf i).toNat)
  case atStart => exact ⟨0, Nat.zero_le _, rfl, Upd.refl _ _, fun j x hj => by omega⟩
  case round =>
    obtain ⟨k, hk, rfl, hupd, hno⟩ := hrel
    have HNO := Lib.hid hno
    clear hno
    by_cases hlt : k < q.length
    · obtain ⟨y, hy⟩ : ∃ y, q[k]? = some y := ⟨_, List.getElem?_eq_getElem hlt⟩
      obtain ⟨b, off, rfl, y0, y1, y2, y3⟩ := RdW.cells (hq.keep0 hupd) hy
      have HY := Lib.hid hy
      clear hy
      go_wp2_with fail
      refine (HCL.out y _ hupd).mono ?_
      rintro e w1 ⟨rfl, hu1⟩
      have hupd1 := hupd.trans0 hu1
      clear y0 y1 y2 y3 hu1
      cases hpr : pr y with
      | true =>
        have HPR := Lib.hid hpr
        clear hpr
        go_wp2
        go_ret
        refine ⟨?_, hupd1⟩
        have : idxOf pr q = some k := by
          rw [idxOf, List.findIdx?_eq_some_iff_getElem]
          refine ⟨hlt, ?_, fun j hj => ?_⟩
          · have := HY.out
            rw [List.getElem?_eq_getElem hlt] at this
            cases this
            exact HPR.out
          · have := HNO.out j q[j] hj (List.getElem?_eq_getElem _)
            simp [this]
        rw [this]
        rfl
      | false =>
        have HPR := Lib.hid hpr
        clear hpr
        go_wp2
        go_roundw
        case rel =>
          refine ⟨k + 1, by omega, by go_num, hupd1, fun j x hj hx => ?_⟩
          rcases Nat.lt_or_ge j k with h | h
          · exact HNO.out j x h hx
          · obtain rfl : j = k := by omega
            rw [HY.out] at hx
            cases hx
            exact HPR.out
        case measure => simp [intOf]; omega
    · obtain rfl : k = q.length := by omega
      go_wp2
      go_ret
      refine ⟨?_, hupd⟩
      have : idxOf pr q = none := by
        rw [idxOf, List.findIdx?_eq_none_iff]
        intro x hx
        obtain ⟨j, hj, rfl⟩ := List.getElem_of_mem hx
        exact HNO.out j _ hj (List.getElem?_eq_getElem hj)
      rw [this]
      rfl

theorem set_right {α : Type} (A B : List α) (k : Nat) (v : α) : (A ++ B).set (A.length + k) v = A ++ B.set k v := by
  rw [List.set_append_right _ _ (by omega)]
  congr 2
  omega
theorem set4 (C : List Wt) (i : Nat) (hi : i < C.length) (x : Wt) (R : List Value) : ((((C.flatMap Wt.enc ++ R).set (i * 4) (.int .i64 x.task)).set (i * 4 + 1) (.int .i64 x.case_)).set (i * 4 + 2) (.int .i64 x.seq)).set (i * 4 + 3) (.int .i64 x.v) = (C.set i x).flatMap Wt.enc ++ R := by
  have e : C = C.take i ++ C[i] :: C.drop (i + 1) := by rw [List.getElem_cons_drop, List.take_append_drop]
  have hl : ((C.take i).flatMap Wt.enc).length = i * 4 := by rw [flat_len Wt.enc 4 Wt.enc_len, List.length_take, Nat.min_eq_left (by omega)]
  have es : C.set i x = C.take i ++ x :: C.drop (i + 1) := by
    conv => lhs; rw [e]
    have : (C.take i).length = i := by rw [List.length_take, Nat.min_eq_left (by omega)]
    rw [List.set_append_right _ _ (by omega), this, Nat.sub_self]
    rfl
  rw [es]
  conv => lhs; rw [e]
  simp only [List.flatMap_append, List.flatMap_cons, List.append_assoc]
  generalize (C.take i).flatMap Wt.enc = A at hl
  rw [← hl, show A.length = A.length + 0 by omega, set_right, show A.length + 0 + 1 = A.length + 1 by omega, set_right, show A.length + 0 + 2 = A.length + 2 by omega, set_right, show A.length + 0 + 3 = A.length + 3 by omega, set_right]
  rfl
theorem setc {w : World} {b : Nat} {cs : List Value} {t : TypeId} (h : w.heap[b]? = some (.cells cs.toArray t (0, 0))) (k : Nat) (v : Value) : (w.setCell ⟨b, k, none⟩ v).heap[b]? = some (.cells (cs.set k v).toArray t (0, 0)) := by
  simp [World.setCell, Array.getElem?_modify, h]
/-- The row with one element turned. -/
theorem own_set4 {w : World} {base g cap : Nat} {C : List Wt} (h : w.ownsRow base 68 4 (.slice (some ⟨g, 0, none⟩) C.length cap) C.length (C.flatMap Wt.enc)) (i : Nat) (hi : i < C.length) (x : Wt) :
    ((((w.setCell ⟨g, i * 4, none⟩ (.int .i64 x.task)).setCell ⟨g, i * 4 + 1, none⟩ (.int .i64 x.case_)).setCell ⟨g, i * 4 + 2, none⟩ (.int .i64 x.seq)).setCell ⟨g, i * 4 + 3, none⟩ (.int .i64 x.v)).ownsRow base 68 4 (.slice (some ⟨g, 0, none⟩) (C.set i x).length cap) (C.set i x).length ((C.set i x).flatMap Wt.enc) := by
  obtain ⟨R, hb, _, hnc, hcm, hg, hl, hsz⟩ := own_parts' h
  simp only at hb hg
  have h4 := setc (setc (setc (setc hg (i * 4) (.int .i64 x.task)) (i * 4 + 1) (.int .i64 x.case_)) (i * 4 + 2) (.int .i64 x.seq)) (i * 4 + 3) (.int .i64 x.v)
  rw [set4 C i hi x R] at h4
  have hle : (C.set i x).length = C.length := List.length_set
  have hf : ((C.set i x).flatMap Wt.enc).length = C.length * 4 := by rw [flat_len Wt.enc 4 Wt.enc_len, hle]
  rw [hle]
  refine own_make h4 hb hf hnc hcm ?_
  rw [List.length_append, hf]
  rw [List.length_append, hl] at hsz
  exact hsz
end Go.Proofs.Ytjiepoeeahnbgaa
