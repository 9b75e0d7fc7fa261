/- pick.known and pick.Ready: the first case that can. -/
import Derived.Test.YtjiepoeeahnbgaaChans
import Derived.WalkMore
namespace Go.Proofs.Ytjiepoeeahnbgaa
set_option linter.unusedVariables false
set_option linter.unusedSimpArgs false
open Go.RowKit
set_option maxHeartbeats 3200000 in
set_option maxRecDepth 100000 in
theorem pickKnown_any (c : Cs) (a : Option Addr) (n cap : Nat) (w : World) (hn : n ≤ 1000000) :
    Calls Try.prog 24 #[.agg #[.bool c.send, .int .i64 c.chan, .int .i64 c.v], .slice a n cap] w fun e w' => e = .returned (.bool (knownOf n c)) ∧ Upd [] w w' := by
  obtain ⟨s, ch, v⟩ := c
  unfold knownOf
  simp only
  go_enter Try.func24, Try.ntmps24
  by_cases h0 : 0 ≤ ch
  · by_cases h1 : ch < n
    · go_wp2
      go_ret
      exact ⟨by simp [h0, h1], (Upd.refl [] w).alloc _⟩
    · go_wp2
      go_ret
      exact ⟨by simp [h0, h1], (Upd.refl [] w).alloc _⟩
  · go_wp2
    go_ret
    exact ⟨by simp; intro; omega, (Upd.refl [] w).alloc _⟩
theorem three_cells {w : World} {b : Nat} {u0 u1 u2 : Value} {t : TypeId} (h : w.heap[b]? = some (.cells #[u0, u1, u2] t (0, 0))) :
    w.cell? ⟨b, 0, none⟩ = some u0 ∧ w.cell? ⟨b, 1, none⟩ = some u1 ∧ w.cell? ⟨b, 2, none⟩ = some u2 := by
  simp [World.cell?, h]
theorem idx_first {α : Type} {p : α → Bool} {l : List α} {i : Nat} {x : α} (hx : l[i]? = some x) (hp : p x = true) (hno : ∀ (j : Nat) (c : α), j < i → l[j]? = some c → p c = false) : l.findIdx? p = some i := by
  obtain ⟨hl, rfl⟩ := List.getElem?_eq_some_iff.1 hx
  rw [List.findIdx?_eq_some_iff_getElem]
  exact ⟨hl, hp, fun j hj => by have := hno j l[j] hj (List.getElem?_eq_getElem (by omega)); simpa using this⟩
theorem idx_none {α : Type} {p : α → Bool} {l : List α} (hno : ∀ (j : Nat) (c : α), j < l.length → l[j]? = some c → p c = false) : l.findIdx? p = none := by
  rw [List.findIdx?_eq_none_iff]
  intro x hx
  obtain ⟨j, hj⟩ := List.getElem?_of_mem hx
  exact hno j x (List.getElem?_eq_some_iff.1 hj).1 hj
set_option maxHeartbeats 32000000 in
set_option maxRecDepth 100000 in
theorem ready_any (al : Option Addr) (kl : Nat) (l : List Cs) (a : Option Addr) (cap : Nat) (st : List ChSt) (w : World) (hl : RdCs w (.slice al l.length kl) l) (hm : l.length ≤ 1000000) (hms : st.length ≤ 1000000) (h : Chans w a cap st) :
    Calls Try.prog 15 #[.slice al l.length kl, .slice a st.length cap] w fun e w' => e = .returned (.int .i64 (optI (l.findIdx? (canOf st)))) ∧ Upd [] w w' := by
  have HL := Lib.hid hl
  have HC := Lib.hid h
  clear hl h
  go_enter Try.func15, Try.ntmps15
  go_wp2
  go_step3
  go_wp2
  go_step3
  go_wp2
  go_loopw [9] (fun iv wr => ∃ i : Nat, iv = .int .i64 i ∧ i ≤ l.length ∧ (∀ (j : Nat) (c : Cs), j < i → l[j]? = some c → canOf st c = false) ∧ Upd [] w wr) (fun iv _ => l.length - (intOf iv).toNat)
  case atStart => exact ⟨0, rfl, Nat.zero_le _, fun j c hj => by omega, Upd.refl _ _⟩
  case round =>
    obtain ⟨i, rfl, hi, hno, hU⟩ := hrel
    have HNO := Lib.hid hno
    clear hno
    by_cases hlt : i < l.length
    · obtain ⟨x, hx⟩ : ∃ x, l[i]? = some x := ⟨_, List.getElem?_eq_getElem hlt⟩
      obtain ⟨b, off, rfl, x0, x1, x2⟩ := RdCs.cells (HL.out.keep0 hU) hx
      have HX := Lib.hid hx
      have hnext : canOf st x = false → ∀ (j : Nat) (c : Cs), j < i + 1 → l[j]? = some c → canOf st c = false := fun hf j c hj hc => by
        by_cases he : j = i
        · subst he
          rw [HX.out] at hc
          cases hc
          exact hf
        · exact HNO.out j c (by omega) hc
      have HN := Lib.hid hnext
      clear hx hnext
      go_wp2_with fail
      refine (pickKnown_any x a st.length cap _ hms).mono ?_
      rintro e w1 ⟨rfl, hu1⟩
      cases hk : knownOf st.length x with
      | false =>
        have hU1 : Upd [] w w1 := (hU.alloc _).trans0 hu1
        go_wp2
        go_roundw
        case rel => exact ⟨i + 1, by go_num, by omega, HN.out (by unfold canOf; rw [hk]; rfl), hU1⟩
        case measure => simp [intOf]; omega
      | true =>
        obtain ⟨j, s, hj, hs⟩ := knownOf_at hk
        have hjl := (List.getElem?_eq_some_iff.1 hs).1
        have hU1 : Upd [] w w1 := (hU.alloc _).trans0 hu1
        obtain ⟨g, o2, rfl, hcell⟩ := Chans.cell (HC.out.keep0 hU1) hs
        have hat := (HC.out.keep0 hU1).all j s hs
        have HCA := Lib.hid (canOf_at hj hs)
        have hb1 := hu1.keep (heap_alloc_new wr (.cells #[.bool x.send, .int .i64 x.chan, .int .i64 x.v] 30)) (by simp)
        obtain ⟨sd, ch, v⟩ := x
        simp only at hj x0 x1 x2 hk hb1
        subst hj
        obtain ⟨d0, d1, d2⟩ := three_cells hb1
        cases sd with
        | true =>
          go_wp2_with fail
          refine (canSend_any s.p s.rp s.c s.room s.X s.S s.R s.cl _ hat).mono ?_
          rintro e w2 ⟨rfl, hu2⟩
          have hU2 := hU1.trans0 hu2
          obtain ⟨d3, d4, d5⟩ := three_cells (hu2.keep hb1 (by simp))
          cases hcan : canS s.room s.X s.R s.cl with
          | false =>
            go_wp2
            go_roundw
            case rel => exact ⟨i + 1, by go_num, by omega, HN.out (by rw [HCA.out]; unfold canAt; simpa using hcan), hU2⟩
            case measure => simp [intOf]; omega
          | true =>
            go_wp2
            try rw [Exit.noGoto_ret]
            go_ret
            exact ⟨by rw [idx_first HX.out (by rw [HCA.out]; unfold canAt; simpa using hcan) HNO.out]; rfl, hU2⟩
        | false =>
          go_wp2_with fail
          refine (canRecv_any s.p s.rp s.c s.room s.X s.S s.R s.cl _ hat).mono ?_
          rintro e w2 ⟨rfl, hu2⟩
          have hU2 := hU1.trans0 hu2
          obtain ⟨d3, d4, d5⟩ := three_cells (hu2.keep hb1 (by simp))
          cases hcan : canR s.X s.S s.cl with
          | false =>
            go_wp2
            go_roundw
            case rel => exact ⟨i + 1, by go_num, by omega, HN.out (by rw [HCA.out]; unfold canAt; simpa using hcan), hU2⟩
            case measure => simp [intOf]; omega
          | true =>
            go_wp2
            try rw [Exit.noGoto_ret]
            go_ret
            exact ⟨by rw [idx_first HX.out (by rw [HCA.out]; unfold canAt; simpa using hcan) HNO.out]; rfl, hU2⟩
    · obtain rfl : i = l.length := by omega
      go_wp2
      try rw [Exit.noGoto_ret]
      go_ret
      exact ⟨by rw [idx_none HNO.out]; rfl, hU⟩
end Go.Proofs.Ytjiepoeeahnbgaa
