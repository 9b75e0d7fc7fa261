/- pick.Do: none can; the first that can is received; the first that can is sent. -/
import Derived.Test.YtjiepoeeahnbgaaPickReady
import Derived.Deep.RegionHeld3
namespace Go.Proofs.Ytjiepoeeahnbgaa
set_option linter.unusedVariables false
set_option linter.unusedSimpArgs false
open Go.RowKit
theorem results_tmp4 {fn : Func} {t u v x : Tmp} (h : fn.results = #[.tmp t, .tmp u, .tmp v, .tmp x]) (tmps : Array Value) (P : Program) (w : World) :
    (results fn tmps).run P w = .ok (.tuple #[tmps.getD t undef, tmps.getD u undef, tmps.getD v undef, tmps.getD x undef]) w := by
  simp [results, h]
/-- The blocks that may turn. -/
def blks (st : List ChSt) : List Nat := st.flatMap fun s => [s.p, s.c]
theorem mem_blks {st : List ChSt} {i : Nat} {s : ChSt} (hi : st[i]? = some s) : ∀ x ∈ [s.p, s.c], x ∈ blks st := fun x hx =>
  List.mem_flatMap.2 ⟨s, List.mem_of_getElem? hi, hx⟩
theorem blks_congr {st st' : List ChSt} (h : st'.length = st.length) (hp : ∀ (i : Nat) (s t : ChSt), st[i]? = some s → st'[i]? = some t → t.p = s.p ∧ t.c = s.c) : blks st' = blks st := by
  have e : st'.map (fun s => [s.p, s.c]) = st.map (fun s => [s.p, s.c]) := by
    apply List.ext_getElem?
    intro k
    rw [List.getElem?_map, List.getElem?_map]
    by_cases hk : k < st.length
    · rw [List.getElem?_eq_getElem hk, List.getElem?_eq_getElem (h ▸ hk)]
      have := hp k _ _ (List.getElem?_eq_getElem hk) (List.getElem?_eq_getElem (h ▸ hk))
      simp [this.1, this.2]
    · rw [List.getElem?_eq_none (by omega), List.getElem?_eq_none (by omega)]
  unfold blks
  rw [List.flatMap_def, List.flatMap_def, e]
theorem blks_set {st : List ChSt} {i : Nat} {s t : ChSt} (hi : st[i]? = some s) (hp : t.p = s.p) (hc : t.c = s.c) : blks (st.set i t) = blks st :=
  blks_congr (List.length_set ..) fun k u v hu hv => by
    rw [List.getElem?_set] at hv
    split at hv
    · rename_i e
      subst e
      rw [hi] at hu
      cases hu
      have hl := (List.getElem?_eq_some_iff.1 hi).1
      simp only [hl, if_true, Option.some.injEq] at hv
      subst hv
      exact ⟨hp, hc⟩
    · rw [hu] at hv
      cases hv
      exact ⟨rfl, rfl⟩
theorem Chans.cellT {S : List Nat} {w w' : World} {b off cap : Nat} {st : List ChSt} (h : Chans w (some ⟨b, off, none⟩) cap st) {i : Nat} {s : ChSt} (hi : st[i]? = some s) (hu : Upd S w w') (hS : NotT w S 39) :
    w'.cell? ⟨b, off + i, none⟩ = some (.pointer (some ⟨s.p, 0, none⟩)) := by
  have hl := (List.getElem?_eq_some_iff.1 hi).1
  obtain ⟨b', off', e, hc⟩ := (Rd.of_own (own_keepT h.row hu hS)).at (by omega)
  cases e
  exact hc i _ (by rw [List.getElem?_map, hi]; rfl)
theorem Chans.notT {w : World} {a : Option Addr} {cap : Nat} {st : List ChSt} (h : Chans w a cap st) {e : TypeId} (he : (76 : TypeId) ≠ e) : NotT w (blks st) e := by
  intro k hk
  obtain ⟨s, hs, hm⟩ := List.mem_flatMap.1 hk
  obtain ⟨i, hi⟩ := List.getElem?_of_mem hs
  have hat := h.all i s hi
  exact NotT.two (hat.ch.notT he) hat.ring.notT k hm
set_option maxHeartbeats 3200000 in
set_option maxRecDepth 100000 in
theorem do_none (al : Option Addr) (kl : Nat) (l : List Cs) (a : Option Addr) (cap : Nat) (st : List ChSt) (ap : Option Addr) (pl cp : Nat) (w : World) (hl : RdCs w (.slice al l.length kl) l) (hm : l.length ≤ 1000000) (hms : st.length ≤ 1000000) (h : Chans w a cap st) (hn : l.findIdx? (canOf st) = none) :
    Calls Try.prog 13 #[.slice al l.length kl, .slice a st.length cap, .slice ap pl cp] w fun e w' => e = .returned (.tuple #[.int .i64 (-1), .int .i64 0, .slice none 0 0, .int .i64 8]) ∧ Upd [] w w' := by
  have HL := Lib.hid hl
  have HC := Lib.hid h
  clear hl h
  go_enter Try.func13, Try.ntmps13
  go_wp2_with fail
  refine (ready_any al kl l a cap st _ HL.out hm hms HC.out).mono ?_
  rintro e w1 ⟨rfl, hu1⟩
  rw [hn]
  simp only [optI]
  go_wp2
  (try simp only [Exit.inBlock, Exit.then])
  refine bodyPost_ret (results_tmp4 rfl _ _ _) rfl ?_
  exact ⟨rfl, hu1⟩
set_option maxHeartbeats 3200000 in
set_option maxRecDepth 100000 in
theorem do_recv (al : Option Addr) (kl : Nat) (l : List Cs) (a : Option Addr) (cap : Nat) (st : List ChSt) (ap : Option Addr) (pl cp : Nat) (w : World) (hl : RdCs w (.slice al l.length kl) l) (hm : l.length ≤ 1000000) (hms : st.length ≤ 1000000) (h : Chans w a cap st)
    (i j : Nat) (v y : Int) (X : List Int) (s : ChSt) (hn : l.findIdx? (canOf st) = some i) (hx : l[i]? = some ⟨false, j, v⟩) (hs : st[j]? = some s) (hX : s.X = y :: X) (hS : s.S = []) :
    Calls Try.prog 13 #[.slice al l.length kl, .slice a st.length cap, .slice ap pl cp] w fun e w' => e = .returned (.tuple #[.int .i64 i, .int .i64 y, .slice none 0 0, .int .i64 0]) ∧ Chans w' a cap (st.set j { s with X := X }) ∧ Upd (blks st) w w' := by
  have HL := Lib.hid hl
  have HC := Lib.hid h
  have hil := (List.getElem?_eq_some_iff.1 hx).1
  have hjl := (List.getElem?_eq_some_iff.1 hs).1
  clear hl h
  go_enter Try.func13, Try.ntmps13
  go_wp2_with fail
  refine (ready_any al kl l a cap st _ HL.out hm hms HC.out).mono ?_
  rintro e w1 ⟨rfl, hu1⟩
  rw [hn]
  simp only [optI]
  obtain ⟨b, off, rfl, x0, x1, x2⟩ := RdCs.cells (HL.out.keep0 hu1) hx
  have hua : Upd [] w (w1.alloc (.cells #[.bool false, .int .i64 j, .int .i64 v] 30)) := hu1.alloc _
  obtain ⟨g, o2, rfl, hcell⟩ := Chans.cell (HC.out.keep0 hua) hs
  have hat := (HC.out.keep0 hua).all j s hs
  obtain ⟨p, rp, c, room, X0, S, R, cl⟩ := s
  simp only at hX hS hcell x0 x1 x2
  subst hX hS
  go_wp2_with fail
  refine (chanRecv_val p rp c room y X R cl ap pl cp _ hat).mono ?_
  rintro e w2 ⟨rfl, hC2, hu2⟩
  go_wp2
  (try simp only [Exit.inBlock, Exit.then])
  refine bodyPost_ret (results_tmp4 rfl _ _ _) rfl ?_
  have hu : Upd [c] w w2 := (hua.mono (fun _ hz _ => by simp at hz)).transS hu2
  have hu' : Upd [p, c] w w2 := hu.mono (fun z hz _ => by simp at hz; simp [hz])
  exact ⟨rfl, HC.out.upd hs hu' hC2 rfl rfl, hu'.mono (fun z hz _ => mem_blks hs z hz)⟩
set_option maxHeartbeats 6400000 in
set_option maxRecDepth 100000 in
theorem do_push (al : Option Addr) (kl : Nat) (l : List Cs) (a : Option Addr) (cap : Nat) (st : List ChSt) (ap : Option Addr) (pl cp : Nat) (w : World) (hl : RdCs w (.slice al l.length kl) l) (hm : l.length ≤ 1000000) (hms : st.length ≤ 1000000) (h : Chans w a cap st)
    (i j : Nat) (v : Int) (s : ChSt) (hn : l.findIdx? (canOf st) = some i) (hx : l[i]? = some ⟨true, j, v⟩) (hs : st[j]? = some s) (hX : s.X.length < s.room) (hR : s.R = []) (hcl : s.cl = false) :
    Calls Try.prog 13 #[.slice al l.length kl, .slice a st.length cap, .slice ap pl cp] w fun e w' => e = .returned (.tuple #[.int .i64 i, .int .i64 v, .slice none 0 0, .int .i64 0]) ∧ Chans w' a cap (st.set j { s with X := s.X ++ [v] }) ∧ Upd (blks st) w w' := by
  have HL := Lib.hid hl
  have HC := Lib.hid h
  have hil := (List.getElem?_eq_some_iff.1 hx).1
  have hjl := (List.getElem?_eq_some_iff.1 hs).1
  clear hl h
  go_enter Try.func13, Try.ntmps13
  go_wp2_with fail
  refine (ready_any al kl l a cap st _ HL.out hm hms HC.out).mono ?_
  rintro e w1 ⟨rfl, hu1⟩
  rw [hn]
  simp only [optI]
  obtain ⟨b, off, rfl, x0, x1, x2⟩ := RdCs.cells (HL.out.keep0 hu1) hx
  have hua : Upd [] w (w1.alloc (.cells #[.bool true, .int .i64 j, .int .i64 v] 30)) := hu1.alloc _
  obtain ⟨g, o2, rfl, hcell⟩ := Chans.cell (HC.out.keep0 hua) hs
  have hat := (HC.out.keep0 hua).all j s hs
  have hb1 := heap_alloc_new w1 (.cells #[.bool true, .int .i64 j, .int .i64 v] 30)
  obtain ⟨p, rp, c, room, X, S, R, cl⟩ := s
  simp only at hX hR hcell x0 x1 x2 hcl
  subst hR hcl
  go_wp2_with fail
  obtain ⟨A, hA⟩ : ∃ A, A = w1.heap.size := ⟨_, rfl⟩
  rw [← hA] at hb1 ⊢
  obtain ⟨wa, hwa⟩ : ∃ wa, wa = w1.alloc (.cells #[.bool true, .int .i64 j, .int .i64 v] 30) := ⟨_, rfl⟩
  rw [← hwa] at hb1 hcell hua hat ⊢
  have HA := Lib.hid hA
  clear hA
  obtain ⟨d0, d1, d2⟩ := three_cells hb1
  clear hwa x0 x1 x2
  have hAc : A ∉ [c] := fun hh => by
    obtain ⟨_, _, hch⟩ := hat.ring.chan
    simp only [List.mem_singleton] at hh
    simp only at hch
    rw [hh, hch] at hb1
    cases hb1
  go_region_held3 (fun w' => w'.cell? ⟨A, 1, none⟩ = some (.int .i64 j) ∧ w'.cell? ⟨A, 2, none⟩ = some (.int .i64 v) ∧ w'.cell? ⟨g, o2 + j, none⟩ = some (.pointer (some ⟨p, 0, none⟩))) (first | trivial | go_keep) (first
    | (go_at_call 9; refine (chanSend_push p rp c room X S v ap pl cp _ (hat.keep0 (by repeat (first | exact Upd.refl _ _ | refine Upd.drewN ?_ _ | refine Upd.drew ?_))) hX).mono ?_; rintro e w2 ⟨rfl, hC2, hu20⟩; have hu2 : Upd [c] wa w2 := Upd.transS (by repeat (first | exact Upd.refl _ _ | refine Upd.drewN ?_ _ | refine Upd.drew ?_)) hu20; obtain ⟨e0, e1, e2⟩ := three_cells (hu2.keep hb1 hAc); have q0 := (HC.out.keep0 hua).cellT hs hu2 hat.ring.notT))
  go_wp2
  go_region_held3 (fun w' => w'.cell? ⟨A, 2, none⟩ = some (.int .i64 v)) (first | trivial | go_keep) (first | fail)
  go_wp2
  (try simp only [Exit.inBlock, Exit.then])
  refine bodyPost_ret (results_tmp4 rfl _ _ _) rfl ?_
  have hu : Upd [c] w w2 := (hua.mono (fun _ hz _ => by simp at hz)).transS hu2
  have hu' : Upd [p, c] w w2 := hu.mono (fun z hz _ => by simp at hz; simp [hz])
  exact ⟨rfl, HC.out.upd hs (hu'.trans0 (by repeat (first | exact Upd.refl _ _ | refine Upd.drewN ?_ _ | refine Upd.drew ?_))) (ChanP.keep0 hC2 (by repeat (first | exact Upd.refl _ _ | refine Upd.drewN ?_ _ | refine Upd.drew ?_))) rfl rfl, (hu'.mono (fun z hz _ => mem_blks hs z hz)).trans0 (by repeat (first | exact Upd.refl _ _ | refine Upd.drewN ?_ _ | refine Upd.drew ?_))⟩
end Go.Proofs.Ytjiepoeeahnbgaa
