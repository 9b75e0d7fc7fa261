/- pick.Wait: a channel that is none; one that can; all wait; who waits there already. pick.Leave. -/
import Derived.Test.YtjiepoeeahnbgaaPickDo
namespace Go.Proofs.Ytjiepoeeahnbgaa
set_option linter.unusedVariables false
set_option linter.unusedSimpArgs false
open Go.RowKit
set_option maxHeartbeats 6400000 in
set_option maxRecDepth 100000 in
theorem pickWait_arg (al : Option Addr) (kl : Nat) (l : List Cs) (a : Option Addr) (cap : Nat) (st : List ChSt) (task seq : Int) (w : World) (hl : RdCs w (.slice al l.length kl) l) (hm : l.length ≤ 1000000) (hms : st.length ≤ 1000000) (h : Chans w a cap st) (x : Cs) (hx : l[0]? = some x) (hk : knownOf st.length x = false) :
    Calls Try.prog 8 #[.slice al l.length kl, .slice a st.length cap, .int .i64 task, .int .i64 seq] w fun e w' => e = .returned (.int .i64 1) ∧ Upd [] w w' := by
  have HL := Lib.hid hl
  have HC := Lib.hid h
  clear hl h
  go_enter Try.func8, Try.ntmps8
  go_wp2
  go_step3
  go_wp2
  go_loopw [16] (fun iv wr => iv = .int .i64 0 ∧ Upd [] w wr) (fun iv _ => l.length - (intOf iv).toNat)
  case atStart => exact ⟨rfl, Upd.refl _ _⟩
  case round =>
    obtain ⟨rfl, hU⟩ := hrel
    have hlt : 0 < l.length := (List.getElem?_eq_some_iff.1 hx).1
    obtain ⟨b, off, rfl, x0, x1, x2⟩ := RdCs.cells (HL.out.keep0 hU) hx
    simp only [Nat.zero_mul, Nat.add_zero] at x0 x1 x2
    go_wp2_with fail
    refine (pickKnown_any x a st.length cap _ hms).mono ?_
    rintro e w1 ⟨rfl, hu1⟩
    have hU1 : Upd [] w w1 := (hU.alloc _).trans0 hu1
    rw [hk]
    go_wp2
    try rw [Exit.noGoto_ret]
    go_ret
    exact ⟨rfl, hU1⟩
set_option maxHeartbeats 6400000 in
set_option maxRecDepth 100000 in
theorem pickWait_state (al : Option Addr) (kl : Nat) (l : List Cs) (a : Option Addr) (cap : Nat) (st : List ChSt) (task seq : Int) (w : World) (hl : RdCs w (.slice al l.length kl) l) (hm : l.length ≤ 1000000) (hms : st.length ≤ 1000000) (h : Chans w a cap st) (hkn : ∀ (i : Nat) (x : Cs), l[i]? = some x → knownOf st.length x = true) (j : Nat) (hn : l.findIdx? (canOf st) = some j) :
    Calls Try.prog 8 #[.slice al l.length kl, .slice a st.length cap, .int .i64 task, .int .i64 seq] w fun e w' => e = .returned (.int .i64 10) ∧ Upd [] w w' := by
  have HL := Lib.hid hl
  have HC := Lib.hid h
  clear hl h
  go_enter Try.func8, Try.ntmps8
  go_wp2
  go_step3
  go_wp2
  go_loopw [16] (fun iv wr => ∃ i : Nat, iv = .int .i64 i ∧ i ≤ l.length ∧ Upd [] w wr) (fun iv _ => l.length - (intOf iv).toNat)
  case atStart => exact ⟨0, rfl, Nat.zero_le _, Upd.refl _ _⟩
  case round =>
    obtain ⟨i, rfl, hi, hU⟩ := hrel
    by_cases hlt : i < l.length
    · obtain ⟨x, hx⟩ : ∃ x, l[i]? = some x := ⟨_, List.getElem?_eq_getElem hlt⟩
      obtain ⟨b, off, rfl, x0, x1, x2⟩ := RdCs.cells (HL.out.keep0 hU) hx
      have hk := hkn i x hx
      clear hx
      go_wp2_with fail
      refine (pickKnown_any x a st.length cap _ hms).mono ?_
      rintro e w1 ⟨rfl, hu1⟩
      have hU1 : Upd [] w w1 := (hU.alloc _).trans0 hu1
      rw [hk]
      go_wp2
      go_roundw
      case rel => exact ⟨i + 1, by go_num, by omega, hU1⟩
      case measure => simp [intOf]; omega
    · go_wp2_with fail
      refine (ready_any al kl l a cap st _ (HL.out.keep0 hU) hm hms (HC.out.keep0 hU)).mono ?_
      rintro e w1 ⟨rfl, hu1⟩
      have hU1 : Upd [] w w1 := hU.trans0 hu1
      rw [hn]
      simp only [optI]
      go_wp2
      try rw [Exit.noGoto_ret]
      go_ret
      exact ⟨rfl, hU1⟩
/-- What becomes of a channel at which a case waits. -/
def waitSt (task seq : Int) (i : Nat) (c : Cs) (s : ChSt) : ChSt := if c.send then { s with S := [⟨task, i, seq, c.v⟩] } else { s with R := [⟨task, i, seq, c.v⟩] }
theorem waitSt_p (task seq : Int) (i : Nat) (c : Cs) (s : ChSt) : (waitSt task seq i c s).p = s.p := by unfold waitSt; split <;> rfl
theorem waitSt_c (task seq : Int) (i : Nat) (c : Cs) (s : ChSt) : (waitSt task seq i c s).c = s.c := by unfold waitSt; split <;> rfl
/-- The first k channels, each with its case waiting. -/
def WaitTo (task seq : Int) (l : List Cs) (k : Nat) (st st' : List ChSt) : Prop :=
  st'.length = st.length ∧ ∀ (j : Nat) (s : ChSt), st[j]? = some s → (∀ c, l[j]? = some c → j < k → st'[j]? = some (waitSt task seq j c s)) ∧ (k ≤ j → st'[j]? = some s)
theorem WaitTo.start (task seq : Int) (l : List Cs) (st : List ChSt) : WaitTo task seq l 0 st st := ⟨rfl, fun j s hs => ⟨fun c _ h => by omega, fun _ => hs⟩⟩
theorem WaitTo.step {task seq : Int} {l : List Cs} {k : Nat} {st st' : List ChSt} (h : WaitTo task seq l k st st') {c : Cs} {s : ChSt} (hc : l[k]? = some c) (hs : st[k]? = some s) : WaitTo task seq l (k + 1) st (st'.set k (waitSt task seq k c s)) := by
  have hk := (List.getElem?_eq_some_iff.1 hs).1
  refine ⟨by rw [List.length_set, h.1], fun j t ht => ⟨fun d hd hj => ?_, fun hj => ?_⟩⟩
  · by_cases e : k = j
    · subst e
      rw [hs] at ht
      cases ht
      rw [hc] at hd
      cases hd
      rw [List.getElem?_set]
      simp [h.1, hk]
    · rw [List.getElem?_set, if_neg e]
      exact (h.2 j t ht).1 d hd (by omega)
  · rw [List.getElem?_set, if_neg (by omega)]
    exact (h.2 j t ht).2 (by omega)
theorem WaitTo.blks {task seq : Int} {l : List Cs} {k : Nat} {st st' : List ChSt} (h : WaitTo task seq l k st st') (hl : ∀ j, j < k → j < l.length) : blks st' = blks st :=
  blks_congr h.1 fun j s t hs ht => by
    by_cases hj : j < k
    · have := (h.2 j s hs).1 (l[j]'(hl j hj)) (List.getElem?_eq_getElem (hl j hj)) hj
      rw [this] at ht
      cases ht
      exact ⟨waitSt_p .., waitSt_c ..⟩
    · have := (h.2 j s hs).2 (by omega)
      rw [this] at ht
      cases ht
      exact ⟨rfl, rfl⟩
theorem ne_chan {w : World} {s : ChSt} (h : s.lies w) {A : Nat} {u0 u1 u2 : Value} (hb : w.heap[A]? = some (.cells #[u0, u1, u2] 30 (0, 0))) : A ≠ s.p := fun e => by
  obtain ⟨_, _, _, _, h1, _⟩ := h.ch.ex
  rw [← e, hb] at h1
  injection (Option.some.inj h1) with _ h2 _
  exact absurd h2 (by decide)
set_option maxHeartbeats 16000000 in
set_option maxRecDepth 100000 in
theorem pickWait_fresh (al : Option Addr) (kl : Nat) (l : List Cs) (a : Option Addr) (cap : Nat) (st : List ChSt) (task seq : Int) (w : World) (hl : RdCs w (.slice al l.length kl) l) (hm : l.length ≤ 1000000) (hms : st.length ≤ 1000000) (h : Chans w a cap st) (hlb : ∀ k, (Value.slice al l.length kl).ownBlock = some k → k ∉ blks st) (hlen : l.length ≤ st.length) (hch : ∀ (i : Nat) (x : Cs), l[i]? = some x → x.chan = i) (hf : ∀ (i : Nat) (s : ChSt), st[i]? = some s → s.S = [] ∧ s.R = []) (hn : l.findIdx? (canOf st) = none) :
    Calls Try.prog 8 #[.slice al l.length kl, .slice a st.length cap, .int .i64 task, .int .i64 seq] w fun e w' => ∃ st', e = .returned (.int .i64 0) ∧ WaitTo task seq l l.length st st' ∧ Chans w' a cap st' ∧ Upd (blks st) w w' := by
  have hkn : ∀ (i : Nat) (x : Cs), l[i]? = some x → knownOf st.length x = true := fun i x hx => by
    have h1 := hch i x hx
    have h2 := (List.getElem?_eq_some_iff.1 hx).1
    simp only [knownOf, Bool.and_eq_true, decide_eq_true_eq]
    omega
  have HL := Lib.hid hl
  have HC := Lib.hid h
  clear hl h
  go_enter Try.func8, Try.ntmps8
  go_wp2
  go_step3
  go_wp2
  go_loopw [16] (fun iv wr => ∃ i : Nat, iv = .int .i64 i ∧ i ≤ l.length ∧ Upd [] w wr) (fun iv _ => l.length - (intOf iv).toNat)
  case atStart => exact ⟨0, rfl, Nat.zero_le _, Upd.refl _ _⟩
  case round =>
    obtain ⟨i, rfl, hi, hU⟩ := hrel
    by_cases hlt : i < l.length
    · obtain ⟨x, hx⟩ : ∃ x, l[i]? = some x := ⟨_, List.getElem?_eq_getElem hlt⟩
      obtain ⟨b, off, rfl, x0, x1, x2⟩ := RdCs.cells (HL.out.keep0 hU) hx
      have hk := hkn i x hx
      clear hx
      go_wp2_with fail
      refine (pickKnown_any x a st.length cap _ hms).mono ?_
      rintro e w1 ⟨rfl, hu1⟩
      have hU1 : Upd [] w w1 := (hU.alloc _).trans0 hu1
      rw [hk]
      go_wp2
      go_roundw
      case rel => exact ⟨i + 1, by go_num, by omega, hU1⟩
      case measure => simp [intOf]; omega
    · go_wp2_with fail
      refine (ready_any al kl l a cap st _ (HL.out.keep0 hU) hm hms (HC.out.keep0 hU)).mono ?_
      rintro e w1 ⟨rfl, hu1⟩
      have hU1 : Upd [] w w1 := hU.trans0 hu1
      have hno := List.findIdx?_eq_none_iff.1 hn
      rw [hn]
      simp only [optI]
      go_wp2
      go_step3
      go_wp2
      have HN := Lib.hid hno
      clear hno hkn hu1 hi hlt hU
      go_loopw [31] (fun iv wr => ∃ (i : Nat) (st' : List ChSt), iv = .int .i64 i ∧ i ≤ l.length ∧ WaitTo task seq l i st st' ∧ Chans wr a cap st' ∧ Upd (blks st) w wr) (fun iv _ => l.length - (intOf iv).toNat)
      case atStart => exact ⟨0, st, rfl, Nat.zero_le _, WaitTo.start .., HC.out.keep0 hU1, hU1.mono (fun z hz _ => by simp at hz)⟩
      case round =>
        clear hU1
        obtain ⟨i, st', rfl, hi, hT, hC, hU⟩ := hrel
        by_cases hlt : i < l.length
        · obtain ⟨x, hx⟩ : ∃ x, l[i]? = some x := ⟨_, List.getElem?_eq_getElem hlt⟩
          obtain ⟨s, hs⟩ : ∃ s, st[i]? = some s := ⟨_, List.getElem?_eq_getElem (by omega)⟩
          obtain ⟨b, off, rfl, x0, x1, x2⟩ := RdCs.cells (Rd.keep HL.out hU (fun k hk _ => hlb k hk)) hx
          have hs' := (hT.2 i s hs).2 (Nat.le_refl _)
          have hcan : canAt s x = false := by rw [← canOf_at (hch i x hx) hs]; exact HN.out x (List.mem_of_getElem? hx)
          have hcx := hch i x hx
          have hT' := hT.step hx hs
          have hbe := hT.blks (fun j hj => by omega)
          obtain ⟨f1, f2⟩ := hf i s hs
          have hua : Upd [] wr (wr.alloc (.cells #[.bool x.send, .int .i64 x.chan, .int .i64 x.v] 30)) := (Upd.refl _ _).alloc _
          have hUa := hU.trans0 hua
          have hCa := hC.keep0 hua
          obtain ⟨g, o2, rfl, hcell⟩ := Chans.cell hCa hs'
          have hat := hCa.all i s hs'
          have hb1 := heap_alloc_new wr (.cells #[.bool x.send, .int .i64 x.chan, .int .i64 x.v] 30)
          have hbl : ∀ z ∈ [s.p, s.c], z ∈ blks st := fun z hz => mem_blks hs z hz
          have hil : i < st.length := by omega
          obtain ⟨sd, ch, v⟩ := x
          simp only at hcx x0 x1 x2 hua hUa hCa hcell hat hb1
          subst hcx
          obtain ⟨p, rp, c, room, X, S, R, cl⟩ := s
          simp only at f1 f2
          subst f1 f2
          have hpt : ∀ {u : ChSt}, u.p = p → u.c = c → True := fun _ _ => trivial
          have HX := Lib.hid hx
          have HS := Lib.hid hs
          have HT := Lib.hid hT'
          have HBE := Lib.hid hbe
          clear hx hs hT hT' hbe hpt hC
          go_wp2_with fail
          obtain ⟨A, hA⟩ : ∃ A, A = wr.heap.size := ⟨_, rfl⟩
          rw [← hA] at hb1 ⊢
          obtain ⟨wa, hwa⟩ : ∃ wa, wa = wr.alloc (.cells #[.bool sd, .int .i64 i, .int .i64 v] 30) := ⟨_, rfl⟩
          rw [← hwa] at hb1 hcell hua hat hUa hCa ⊢
          have HA := Lib.hid hA
          clear hA hwa x0 x1 x2 hua hU
          obtain ⟨d0, d1, d2⟩ := three_cells hb1
          cases sd with
          | true =>
            simp only [canAt, if_true] at hcan
            go_region_held3 (fun w' => w'.cell? ⟨A, 0, none⟩ = some (.bool true) ∧ w'.cell? ⟨A, 1, none⟩ = some (.int .i64 i) ∧ w'.cell? ⟨A, 2, none⟩ = some (.int .i64 v) ∧ w'.cell? ⟨g, o2 + i, none⟩ = some (.pointer (some ⟨p, 0, none⟩))) (first | trivial | go_keep) (first
              | (go_at_call 20; refine (chanWaitS_any p rp c room X [] [] cl ⟨task, i, seq, v⟩ _ (ChanP.keep0 hat (by repeat (first | exact Upd.refl _ _ | refine Upd.drewN ?_ _ | refine Upd.drew ?_))) hcan (Nat.zero_le _)).mono ?_; rintro e w2 ⟨rfl, hC2, hu20⟩; have hu2 : Upd [p] wa w2 := Upd.transS (by repeat (first | exact Upd.refl _ _ | refine Upd.drewN ?_ _ | refine Upd.drew ?_)) hu20; obtain ⟨e0, e1, e2⟩ := three_cells (hu2.keep hb1 (fun hh => ne_chan hat hb1 (by simpa using hh))); have q0 := hCa.cellT hs' hu2 (hat.ch.notT (by decide))))
            simp only [has2, List.any_nil, Bool.false_eq_true, if_false, List.nil_append] at hC2 ⊢
            go_wp2
            have hup : Upd [p, c] wa w2 := hu2.mono (fun z hz _ => by simp at hz; simp [hz])
            have hnew := hCa.upd (t := ⟨p, rp, c, room, X, [⟨task, i, seq, v⟩], [], cl⟩) hs' hup hC2 rfl rfl
            have hUn := hUa.trans hup (fun z hz _ => hbl z hz)
            go_roundw
            case rel => exact ⟨i + 1, _, by go_num, by omega, HT.out, hnew.keep0 (by repeat (first | exact Upd.refl _ _ | refine Upd.drewN ?_ _ | refine Upd.drew ?_)), hUn.trans0 (by repeat (first | exact Upd.refl _ _ | refine Upd.drewN ?_ _ | refine Upd.drew ?_))⟩
            case measure => simp [intOf]; omega
          | false =>
            simp only [canAt, Bool.false_eq_true, if_false] at hcan
            go_region_held3 (fun w' => w'.cell? ⟨A, 0, none⟩ = some (.bool false) ∧ w'.cell? ⟨A, 1, none⟩ = some (.int .i64 i) ∧ w'.cell? ⟨A, 2, none⟩ = some (.int .i64 v) ∧ w'.cell? ⟨g, o2 + i, none⟩ = some (.pointer (some ⟨p, 0, none⟩))) (first | trivial | go_keep) (first
              | (go_at_call 20; refine (chanWaitR_any p rp c room X [] [] cl ⟨task, i, seq, v⟩ _ (ChanP.keep0 hat (by repeat (first | exact Upd.refl _ _ | refine Upd.drewN ?_ _ | refine Upd.drew ?_))) hcan (Nat.zero_le _)).mono ?_; rintro e w2 ⟨rfl, hC2, hu20⟩; have hu2 : Upd [p] wa w2 := Upd.transS (by repeat (first | exact Upd.refl _ _ | refine Upd.drewN ?_ _ | refine Upd.drew ?_)) hu20; obtain ⟨e0, e1, e2⟩ := three_cells (hu2.keep hb1 (fun hh => ne_chan hat hb1 (by simpa using hh))); have q0 := hCa.cellT hs' hu2 (hat.ch.notT (by decide))))
            simp only [has2, List.any_nil, Bool.false_eq_true, if_false, List.nil_append] at hC2 ⊢
            go_wp2
            have hup : Upd [p, c] wa w2 := hu2.mono (fun z hz _ => by simp at hz; simp [hz])
            have hnew := hCa.upd (t := ⟨p, rp, c, room, X, [], [⟨task, i, seq, v⟩], cl⟩) hs' hup hC2 rfl rfl
            have hUn := hUa.trans hup (fun z hz _ => hbl z hz)
            go_roundw
            case rel => exact ⟨i + 1, _, by go_num, by omega, HT.out, hnew.keep0 (by repeat (first | exact Upd.refl _ _ | refine Upd.drewN ?_ _ | refine Upd.drew ?_)), hUn.trans0 (by repeat (first | exact Upd.refl _ _ | refine Upd.drewN ?_ _ | refine Upd.drew ?_))⟩
            case measure => simp [intOf]; omega
        · obtain rfl : i = l.length := by omega
          go_wp2
          try rw [Exit.noGoto_ret]
          go_ret
          exact ⟨st', rfl, hT, hC, hU⟩
end Go.Proofs.Ytjiepoeeahnbgaa
