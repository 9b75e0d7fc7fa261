/- pick.Wait by one who waits already; pick.Leave. -/
import Derived.Test.YtjiepoeeahnbgaaPickWait
namespace Go.Proofs.Ytjiepoeeahnbgaa
set_option linter.unusedVariables false
set_option linter.unusedSimpArgs false
open Go.RowKit
set_option maxHeartbeats 16000000 in
set_option maxRecDepth 100000 in
theorem pickWait_twice (al : Option Addr) (kl : Nat) (l : List Cs) (a : Option Addr) (cap : Nat) (st : List ChSt) (task seq : Int) (w : World) (hl : RdCs w (.slice al l.length kl) l) (hm : l.length ≤ 1000000) (hms : st.length ≤ 1000000) (h : Chans w a cap st)
    (hkn : ∀ (i : Nat) (x : Cs), l[i]? = some x → knownOf st.length x = true) (hn : l.findIdx? (canOf st) = none) (v : Int) (s : ChSt) (hx : l[0]? = some ⟨false, 0, v⟩) (hs : st[0]? = some s) (hcan : canR s.X s.S s.cl = false) (hR : s.R.length ≤ 100000) (h2 : has2 s.R ⟨task, 0, seq, v⟩ = true) :
    Calls Try.prog 8 #[.slice al l.length kl, .slice a st.length cap, .int .i64 task, .int .i64 seq] w fun e w' => e = .returned (.int .i64 6) ∧ Upd (blks st) w w' := by
  have HL := Lib.hid hl
  have HC := Lib.hid h
  clear hl h
  go_enter Try.func8, Try.ntmps8
  go_wp2
  go_step3
  go_wp2
  go_loopw [16] (fun iv wr => ∃ i : Nat, iv = .int .i64 i ∧ i ≤ l.length ∧ Upd [] w wr) (fun iv _ => l.length - (intOf iv).toNat)
  case atStart => exact ⟨0, rfl, Nat.zero_le _, Upd.refl _ _⟩
  case round =>
    obtain ⟨i, rfl, hi, hU⟩ := hrel
    by_cases hlt : i < l.length
    · obtain ⟨x, hx⟩ : ∃ x, l[i]? = some x := ⟨_, List.getElem?_eq_getElem hlt⟩
      obtain ⟨b, off, rfl, x0, x1, x2⟩ := RdCs.cells (HL.out.keep0 hU) hx
      have hk := hkn i x hx
      clear hx
      go_wp2_with fail
      refine (pickKnown_any x a st.length cap _ hms).mono ?_
      rintro e w1 ⟨rfl, hu1⟩
      have hU1 : Upd [] w w1 := (hU.alloc _).trans0 hu1
      rw [hk]
      go_wp2
      go_roundw
      case rel => exact ⟨i + 1, by go_num, by omega, hU1⟩
      case measure => simp [intOf]; omega
    · go_wp2_with fail
      refine (ready_any al kl l a cap st _ (HL.out.keep0 hU) hm hms (HC.out.keep0 hU)).mono ?_
      rintro e w1 ⟨rfl, hu1⟩
      have hU1 : Upd [] w w1 := hU.trans0 hu1
      rw [hn]
      simp only [optI]
      go_wp2
      go_step3
      go_wp2
      clear hkn hu1 hi hlt hU
      go_loopw [31] (fun iv wr => iv = .int .i64 0 ∧ Upd [] w wr) (fun iv _ => l.length - (intOf iv).toNat)
      case atStart => exact ⟨rfl, hU1⟩
      case round =>
        clear hU1
        obtain ⟨rfl, hU⟩ := hrel
        have hlt : 0 < l.length := (List.getElem?_eq_some_iff.1 hx).1
        obtain ⟨b, off, rfl, x0, x1, x2⟩ := RdCs.cells (HL.out.keep0 hU) hx
        have hua : Upd [] w (wr.alloc (.cells #[.bool false, .int .i64 0, .int .i64 v] 30)) := hU.alloc _
        have hCa := HC.out.keep0 hua
        obtain ⟨g, o2, rfl, hcell⟩ := Chans.cell hCa hs
        have hat := hCa.all 0 s hs
        have hb1 := heap_alloc_new wr (.cells #[.bool false, .int .i64 0, .int .i64 v] 30)
        have hbl : ∀ z ∈ [s.p, s.c], z ∈ blks st := fun z hz => mem_blks hs z hz
        have hil : 0 < st.length := (List.getElem?_eq_some_iff.1 hs).1
        obtain ⟨p, rp, c, room, X, S, R, cl⟩ := s
        simp only [Nat.zero_mul, Nat.add_zero] at x0 x1 x2 hcell h2 hcan hR
        have HX := Lib.hid hx
        have HS := Lib.hid hs
        clear hx hs
        go_wp2_with fail
        obtain ⟨A, hA⟩ : ∃ A, A = wr.heap.size := ⟨_, rfl⟩
        rw [← hA] at hb1 ⊢
        obtain ⟨wa, hwa⟩ : ∃ wa, wa = wr.alloc (.cells #[.bool false, .int .i64 0, .int .i64 v] 30) := ⟨_, rfl⟩
        rw [← hwa] at hb1 hcell hua hat hCa ⊢
        have HA := Lib.hid hA
        clear hA hwa x0 x1 x2 hU
        obtain ⟨d0, d1, d2⟩ := three_cells hb1
        go_region_held3 (fun w' => w'.cell? ⟨A, 0, none⟩ = some (.bool false) ∧ w'.cell? ⟨A, 1, none⟩ = some (.int .i64 0) ∧ w'.cell? ⟨A, 2, none⟩ = some (.int .i64 v) ∧ w'.cell? ⟨g, o2, none⟩ = some (.pointer (some ⟨p, 0, none⟩))) (first | trivial | go_keep) (first
          | (go_at_call 20; refine (chanWaitR_any p rp c room X S R cl ⟨task, 0, seq, v⟩ _ (ChanP.keep0 hat (by repeat (first | exact Upd.refl _ _ | refine Upd.drewN ?_ _ | refine Upd.drew ?_))) hcan hR).mono ?_; rintro e w2 ⟨rfl, hC2, hu20⟩; have hu2 : Upd [p] wa w2 := Upd.transS (by repeat (first | exact Upd.refl _ _ | refine Upd.drewN ?_ _ | refine Upd.drew ?_)) hu20; obtain ⟨e0, e1, e2⟩ := three_cells (hu2.keep hb1 (fun hh => ne_chan hat hb1 (by simpa using hh))); have q0 := hCa.cellT HS.out hu2 (hat.ch.notT (by decide))))
        simp only [h2, if_true] at hC2 ⊢
        go_wp2
        have hup : Upd [p, c] wa w2 := hu2.mono (fun z hz _ => by simp at hz; simp [hz])
        have hUn : Upd (blks st) w w2 := (hua.mono (fun z hz _ => by simp at hz)).trans hup (fun z hz _ => hbl z hz)
        try rw [Exit.noGoto_ret]
        go_ret
        exact ⟨rfl, hUn.trans0 (by repeat (first | exact Upd.refl _ _ | refine Upd.drewN ?_ _ | refine Upd.drew ?_))⟩
/-- What becomes of a channel that a task leaves. -/
def leaveSt (t : Int) (s : ChSt) : ChSt := { s with S := leave s.S t, R := leave s.R t }
set_option maxHeartbeats 6400000 in
set_option maxRecDepth 100000 in
theorem pickLeave_any (a : Option Addr) (cap : Nat) (st : List ChSt) (t : Int) (w : World) (hms : st.length ≤ 1000000) (h : Chans w a cap st) (hlen : ∀ (i : Nat) (s : ChSt), st[i]? = some s → s.S.length ≤ 100000 ∧ s.R.length ≤ 100000) :
    Calls Try.prog 11 #[.slice a st.length cap, .int .i64 t] w fun e w' => e = .returned (.tuple #[]) ∧ Chans w' a cap (st.map (leaveSt t)) ∧ Upd (blks st) w w' := by
  have HC := Lib.hid h
  clear h
  go_enter Try.func11, Try.ntmps11
  go_wp2
  go_loopw [8] (fun iv wr => ∃ (i : Nat) (st' : List ChSt), iv = .int .i64 i ∧ i ≤ st.length ∧ st'.length = st.length ∧ (∀ (j : Nat) (s : ChSt), st[j]? = some s → st'[j]? = some (if j < i then leaveSt t s else s)) ∧ Chans wr a cap st' ∧ Upd (blks st) w wr) (fun iv _ => st.length - (intOf iv).toNat)
  case atStart => exact ⟨0, st, rfl, Nat.zero_le _, rfl, fun j s hs => by simpa using hs, HC.out, Upd.refl _ _⟩
  case round =>
    obtain ⟨i, st', rfl, hi, hl', hT, hC, hU⟩ := hrel
    by_cases hlt : i < st.length
    · obtain ⟨s, hs⟩ : ∃ s, st[i]? = some s := ⟨_, List.getElem?_eq_getElem hlt⟩
      have hs' : st'[i]? = some s := by have := hT i s hs; simpa using this
      obtain ⟨g, o2, rfl, hcell⟩ := Chans.cell hC hs'
      have hat := hC.all i s hs'
      have hle := hlen i s hs
      have hT' : ∀ (j : Nat) (u : ChSt), st[j]? = some u → (st'.set i (leaveSt t s))[j]? = some (if j < i + 1 then leaveSt t u else u) := fun j u hu => by
        rw [List.getElem?_set]
        by_cases he : i = j
        · subst he
          rw [hs] at hu
          cases hu
          simp [hl', hlt]
        · rw [if_neg he, hT j u hu]
          by_cases hj : j < i
          · rw [if_pos hj, if_pos (by omega)]
          · rw [if_neg hj, if_neg (by omega)]
      have hbl : ∀ z ∈ [s.p, s.c], z ∈ blks st := fun z hz => mem_blks hs z hz
      have HT := Lib.hid hT'
      have HL := Lib.hid hl'
      clear hT hT' hl'
      go_wp2_with fail
      refine (chanLeave_any s.p s.rp s.c s.room s.X s.S s.R s.cl t _ hat hle.1 hle.2).mono ?_
      rintro e w2 ⟨rfl, hC2, hu2⟩
      have hup : Upd [s.p, s.c] wr w2 := hu2.mono (fun z hz _ => by simp at hz; simp [hz])
      have hnew := hC.upd (t := leaveSt t s) hs' hup hC2 rfl rfl
      have hUn := hU.trans hup (fun z hz _ => hbl z hz)
      go_wp2
      go_roundw
      case rel => exact ⟨i + 1, _, by go_num, by omega, by rw [List.length_set]; exact HL.out, HT.out, hnew, hUn⟩
      case measure => simp [intOf]; omega
    · obtain rfl : i = st.length := by omega
      have he : st' = st.map (leaveSt t) := by
        apply List.ext_getElem?
        intro j
        rw [List.getElem?_map]
        by_cases hj : j < st.length
        · have := hT j _ (List.getElem?_eq_getElem hj)
          rw [this, List.getElem?_eq_getElem hj, if_pos hj]
          rfl
        · rw [List.getElem?_eq_none (by omega), List.getElem?_eq_none (by omega)]
          rfl
      go_wp2
      go_end0
      exact ⟨rfl, he ▸ hC, hU⟩
end Go.Proofs.Ytjiepoeeahnbgaa
