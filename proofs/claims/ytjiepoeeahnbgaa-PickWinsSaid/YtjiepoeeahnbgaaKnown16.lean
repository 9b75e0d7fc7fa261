/- law16's known(): two channels, two cases. -/
import Derived.Test.YtjiepoeeahnbgaaMade
namespace Go.Proofs.Ytjiepoeeahnbgaa
set_option linter.unusedVariables false
set_option linter.unusedSimpArgs false
open Go.RowKit
theorem sz_alloc (w : World) (cs : Array Value) (t : TypeId) : (w.alloc (.cells cs t)).heap.size = w.heap.size + 1 := by simp
theorem rd_cells {w : World} {g : Nat} {cs : List Value} {t : TypeId} (h : w.heap[g]? = some (.cells cs.toArray t (0, 0))) (n : Nat) (hn : n ≤ maxLen) : Rd w (.slice (some ⟨g, 0, none⟩) n n) n cs :=
  ⟨_, n, rfl, Nat.le_refl _, hn, (fun e => by cases e), .inr ⟨g, 0, rfl, fun j u hj => by simp [World.cell?, h, hj]⟩⟩
theorem Chans.notin {w : World} {a : Option Addr} {cap : Nat} {st : List ChSt} (h : Chans w a cap st) {g : Nat} {cs : Array Value} (hg : w.heap[g]? = some (.cells cs 30 (0, 0))) : g ∉ blks st :=
  fun hm => (h.notT (e := 30) (by decide)) g hm cs hg
theorem begun_two {xs : List Sx} {B : Nat} {st : List ChSt} (h : Begun xs B st) (hl : st.length = xs.length) {x y : Sx} (hx : xs = [x, y]) :
    ∃ p0 rp0 c0 p1 rp1 c1, st = [⟨p0, rp0, c0, x.room % 5, x.vs, [], [], false⟩, ⟨p1, rp1, c1, y.room % 5, y.vs, [], [], false⟩] ∧ B ≤ p0 ∧ B ≤ c0 ∧ B ≤ p1 ∧ B ≤ c1 := by
  subst hx
  match st, hl with
  | [s, t], _ =>
    obtain ⟨b1, b2, x', hx', e1, e2, e3, e4, e5⟩ := h 0 s rfl
    obtain ⟨b3, b4, y', hy', f1, f2, f3, f4, f5⟩ := h 1 t rfl
    cases hx'
    cases hy'
    obtain ⟨p0, rp0, c0, r0, X0, S0, R0, l0⟩ := s
    obtain ⟨p1, rp1, c1, r1, X1, S1, R1, l1⟩ := t
    simp only at *
    subst e1 e2 e3 e4 e5 f1 f2 f3 f4 f5
    exact ⟨p0, rp0, c0, p1, rp1, c1, rfl, b1, b2, b3, b4⟩
set_option maxHeartbeats 64000000 in
set_option maxRecDepth 100000 in
theorem known16_ok (w : World) :
    Calls Try.prog 6 #[] w fun e w' => e = .returned (.bool true) ∧ Upd [] w w' := by
  go_enter Try.func6, Try.ntmps6
  go_wp2_with fail
  obtain ⟨g, hg⟩ : ∃ g, g = w.heap.size := ⟨_, rfl⟩
  obtain ⟨wa, hwa⟩ : ∃ wa, wa = (w.alloc (.cells #[.int .i64 4] 2)).alloc (.cells #[.int .u8 1, .slice none 0 0, .slice none 0 0, .slice none 0 0, .bool false, .int .u8 2, .slice (some ⟨w.heap.size, 0, none⟩) 1 1, .slice none 0 0, .slice none 0 0, .bool false] 28) := ⟨_, rfl⟩
  rw [← hwa]
  have hu0 : Upd [] w wa := by rw [hwa]; exact ((Upd.refl [] w).alloc _).alloc _
  have hb1 : wa.heap[w.heap.size + 1]? = some (.cells #[.int .u8 1, .slice none 0 0, .slice none 0 0, .slice none 0 0, .bool false, .int .u8 2, .slice (some ⟨g, 0, none⟩) 1 1, .slice none 0 0, .slice none 0 0, .bool false] 28 (0, 0)) := by
    have := heap_alloc_new (w.alloc (.cells #[.int .i64 4] 2)) (.cells #[.int .u8 1, .slice none 0 0, .slice none 0 0, .slice none 0 0, .bool false, .int .u8 2, .slice (some ⟨w.heap.size, 0, none⟩) 1 1, .slice none 0 0, .slice none 0 0, .bool false] 28)
    rw [sz_alloc] at this
    rw [hwa, hg]
    exact this
  have hb0 : wa.heap[g]? = some (.cells #[.int .i64 4] 2 (0, 0)) := by
    rw [hwa, hg]
    exact ((Upd.refl [] _).alloc _).keep (heap_alloc_new w (.cells #[.int .i64 4] 2)) (by simp)
  have hr : RdSx wa (.slice (some ⟨w.heap.size + 1, 0, none⟩) 2 2) [⟨1, none, 0, []⟩, ⟨2, some ⟨g, 0, none⟩, 1, [4]⟩] := rd_cells hb1 2 (by unfold maxLen; omega)
  have hv : ∀ x ∈ ([⟨1, none, 0, []⟩, ⟨2, some ⟨g, 0, none⟩, 1, [4]⟩] : List Sx), RdI wa (.slice x.va x.vs.length x.vc) x.vs ∧ x.vs.length ≤ x.room % 5 ∧ x.room < 256 := by
    intro x hx
    simp only [List.mem_cons, List.not_mem_nil, or_false] at hx
    rcases hx with rfl | rfl
    · exact ⟨Rd.nil _, by simp, by simp⟩
    · exact ⟨rd_cells hb0 1 (by unfold maxLen; omega), by simp, by simp⟩
  have hsz := hu0.size
  clear hwa hb0 hb1 hg
  refine (made_any _ _ _ wa hr hv (by simp)).mono ?_
  rintro e w1 ⟨a1, k1, a2, k2, st, rfl, hl, hB, hC, hu⟩
  obtain ⟨p0, rp0, c0, p1, rp1, c1, rfl, b0, b1, b2, b3⟩ := begun_two hB hl rfl
  simp only [List.length_cons, List.length_nil, Nat.reduceMod, Nat.reduceAdd, Nat.zero_add] at hC ⊢
  have hU : Upd [] w w1 := hu0.trans0 hu
  have hf : ∀ z ∈ [p0, c0, p1, c1], w.heap.size ≤ z := fun z hz => by simp at hz; omega
  clear hr hv hl hB hu hu0 b0 b1 b2 b3 hsz
  obtain ⟨L, hL⟩ : ∃ L, L = w1.heap.size := ⟨_, rfl⟩
  obtain ⟨w2, hw2⟩ : ∃ w2, w2 = w1.alloc (.cells #[.bool true, .int .i64 0, .int .i64 8, .bool false, .int .i64 1, .int .i64 0] 30) := ⟨_, rfl⟩
  have hbl : w2.heap[L]? = some (.cells #[.bool true, .int .i64 0, .int .i64 8, .bool false, .int .i64 1, .int .i64 0] 30 (0, 0)) := by rw [hw2, hL]; exact heap_alloc_new _ _
  have hu2 : Upd [] w1 w2 := by rw [hw2]; exact (Upd.refl _ _).alloc _
  have hC2 := hC.keep0 hu2
  have hU2 := hU.trans0 hu2
  clear hC hU hu2
  go_wp2_with fail
  rw [← hL, ← hw2]
  have HLL := Lib.hid hL
  clear hL hw2
  have rdl : ∀ {W : World}, W.heap[L]? = some (.cells #[.bool true, .int .i64 0, .int .i64 8, .bool false, .int .i64 1, .int .i64 0] 30 (0, 0)) → RdCs W (.slice (some ⟨L, 0, none⟩) 2 2) [⟨true, 0, 8⟩, ⟨false, 1, 0⟩] := fun h => rd_cells h 2 (by unfold maxLen; omega)
  have fresh : ∀ {W W' : World} {z : List ChSt}, blks z = [p0, c0, p1, c1] → Upd [] w W → Upd (blks z) W W' → Upd [] w W' := fun hz h h' => h.trans h' (fun y hy hl => by rw [hz] at hy; have := hf y hy; omega)
  -- Ready
  refine (ready_any _ _ [⟨true, 0, 8⟩, ⟨false, 1, 0⟩] a1 k1 [⟨p0, rp0, c0, 1, [], [], [], false⟩, ⟨p1, rp1, c1, 2, [4], [], [], false⟩] _ (rdl hbl) (by simp) (by simp) hC2).mono ?_
  rintro e w3 ⟨rfl, hu3⟩
  have hbl3 := hu3.keep hbl (by simp)
  have hC3 := hC2.keep0 hu3
  have hU3 := hU2.trans0 hu3
  clear hbl hC2 hU2 hu3
  rw [show List.findIdx? (canOf [⟨p0, rp0, c0, 1, [], [], [], false⟩, ⟨p1, rp1, c1, 2, [4], [], [], false⟩]) [⟨true, 0, 8⟩, ⟨false, 1, 0⟩] = some 0 from rfl]
  simp only [optI]
  go_wp2_with fail
  -- Do: sends
  refine (do_push _ _ [⟨true, 0, 8⟩, ⟨false, 1, 0⟩] a1 k1 [⟨p0, rp0, c0, 1, [], [], [], false⟩, ⟨p1, rp1, c1, 2, [4], [], [], false⟩] none 0 0 _ (rdl hbl3) (by simp) (by simp) hC3 0 0 8 ⟨p0, rp0, c0, 1, [], [], [], false⟩ rfl rfl rfl (by simp) rfl rfl).mono ?_
  rintro e w4 ⟨rfl, hC4, hu4⟩
  have hbl4 := hu4.keep hbl3 (hC3.notin hbl3)
  have hU4 := fresh rfl hU3 hu4
  replace hC4 : Chans w4 a1 k1 [⟨p0, rp0, c0, 1, [8], [], [], false⟩, ⟨p1, rp1, c1, 2, [4], [], [], false⟩] := hC4
  clear hbl3 hC3 hU3 hu4
  go_wp2_with fail
  -- Do: receives
  refine (do_recv _ _ [⟨true, 0, 8⟩, ⟨false, 1, 0⟩] a1 k1 [⟨p0, rp0, c0, 1, [8], [], [], false⟩, ⟨p1, rp1, c1, 2, [4], [], [], false⟩] none 0 0 _ (rdl hbl4) (by simp) (by simp) hC4 1 1 0 4 [] ⟨p1, rp1, c1, 2, [4], [], [], false⟩ rfl rfl rfl rfl rfl).mono ?_
  rintro e w5 ⟨rfl, hC5, hu5⟩
  have hbl5 := hu5.keep hbl4 (hC4.notin hbl4)
  have hU5 := fresh rfl hU4 hu5
  replace hC5 : Chans w5 a1 k1 [⟨p0, rp0, c0, 1, [8], [], [], false⟩, ⟨p1, rp1, c1, 2, [], [], [], false⟩] := hC5
  clear hbl4 hC4 hU4 hu5
  go_wp2_with fail
  -- Do: none
  refine (do_none _ _ [⟨true, 0, 8⟩, ⟨false, 1, 0⟩] a1 k1 [⟨p0, rp0, c0, 1, [8], [], [], false⟩, ⟨p1, rp1, c1, 2, [], [], [], false⟩] none 0 0 _ (rdl hbl5) (by simp) (by simp) hC5 rfl).mono ?_
  rintro e w6 ⟨rfl, hu6⟩
  have hbl6 := hu6.keep hbl5 (by simp)
  have hC6 := hC5.keep0 hu6
  have hU6 := hU5.trans0 hu6
  clear hbl5 hC5 hU5 hu6
  go_wp2_with fail
  -- Wait: one can
  have hux : Upd [] w6 (w6.alloc (.cells #[.bool false, .int .i64 0, .int .i64 0] 30)) := (Upd.refl _ _).alloc _
  refine (pickWait_state _ _ [⟨false, 0, 0⟩] a1 k1 [⟨p0, rp0, c0, 1, [8], [], [], false⟩, ⟨p1, rp1, c1, 2, [], [], [], false⟩] 1 1 _ (rd_cells (heap_alloc_new w6 (.cells #[.bool false, .int .i64 0, .int .i64 0] 30)) 1 (by unfold maxLen; omega)) (by simp) (by simp) (hC6.keep0 hux) (fun i x hx => by
    have hi := (List.getElem?_eq_some_iff.1 hx).1
    obtain rfl : i = 0 := by simp at hi; omega
    cases hx
    rfl) 0 rfl).mono ?_
  rintro e w7 ⟨rfl, hu7⟩
  have hux7 := hux.trans0 hu7
  have hbl7 := hux7.keep hbl6 (by simp)
  have hC7 := hC6.keep0 hux7
  have hU7 := hU6.trans0 hux7
  clear hbl6 hC6 hU6 hu7 hux hux7
  go_wp2_with fail
  -- Wait: both wait
  refine (pickWait_fresh _ _ [⟨true, 0, 8⟩, ⟨false, 1, 0⟩] a1 k1 [⟨p0, rp0, c0, 1, [8], [], [], false⟩, ⟨p1, rp1, c1, 2, [], [], [], false⟩] 1 1 _ (rdl hbl7) (by simp) (by simp) hC7 (fun k hk => by simp [Value.ownBlock] at hk; subst hk; exact hC7.notin hbl7) (by simp) (fun i x hx => by
    match i, hx with
    | 0, hx => cases hx; rfl
    | 1, hx => cases hx; rfl
    | k + 2, hx => simp at hx) (fun i s hs => by
    match i, hs with
    | 0, hs => cases hs; exact ⟨rfl, rfl⟩
    | 1, hs => cases hs; exact ⟨rfl, rfl⟩
    | k + 2, hs => simp at hs) rfl).mono ?_
  rintro e w8 ⟨st8, rfl, hT8, hC8, hu8⟩
  obtain rfl : st8 = [⟨p0, rp0, c0, 1, [8], [⟨1, 0, 1, 8⟩], [], false⟩, ⟨p1, rp1, c1, 2, [], [], [⟨1, 1, 1, 0⟩], false⟩] := by
    have h0 := (hT8.2 0 _ rfl).1 _ rfl (by simp)
    have h1 := (hT8.2 1 _ rfl).1 _ rfl (by simp)
    have hl := hT8.1
    match st8, hl, h0, h1 with
    | [s, t], _, h0, h1 =>
      cases h0
      cases h1
      rfl
  have hU8 := fresh rfl hU7 hu8
  clear hbl7 hC7 hU7 hu8 hT8
  go_wp2_with fail
  -- Wait: no channel
  have huy : Upd [] w8 (w8.alloc (.cells #[.bool false, .int .i64 2, .int .i64 0] 30)) := (Upd.refl _ _).alloc _
  refine (pickWait_arg _ _ [⟨false, 2, 0⟩] a1 k1 [⟨p0, rp0, c0, 1, [8], [⟨1, 0, 1, 8⟩], [], false⟩, ⟨p1, rp1, c1, 2, [], [], [⟨1, 1, 1, 0⟩], false⟩] 1 1 _ (rd_cells (heap_alloc_new w8 (.cells #[.bool false, .int .i64 2, .int .i64 0] 30)) 1 (by unfold maxLen; omega)) (by simp) (by simp) (hC8.keep0 huy) ⟨false, 2, 0⟩ rfl rfl).mono ?_
  rintro e w9 ⟨rfl, hu9⟩
  have hC9 := hC8.keep0 (huy.trans0 hu9)
  have hU9 := hU8.trans0 (huy.trans0 hu9)
  clear hC8 hU8 hu9 huy
  obtain ⟨ga, oa, rfl, hcell⟩ := hC9.cell (i := 1) rfl
  go_wp2_with fail
  -- who waits to receive
  refine (chanReceivers_any p1 rp1 c1 2 [] [] [⟨1, 1, 1, 0⟩] false _ (hC9.all 1 _ rfl) (by simp)).mono ?_
  rintro e w10 ⟨a3, k3, rfl, _, hu10⟩
  have hC10 := hC9.keep0 hu10
  have hU10 := hU9.trans0 hu10
  clear hC9 hU9 hu10 hcell
  go_wp2_with fail
  -- Leave
  refine (pickLeave_any _ _ [⟨p0, rp0, c0, 1, [8], [⟨1, 0, 1, 8⟩], [], false⟩, ⟨p1, rp1, c1, 2, [], [], [⟨1, 1, 1, 0⟩], false⟩] 1 _ (by simp) hC10 (fun i s hs => by
    match i, hs with
    | 0, hs => cases hs; exact ⟨by simp, by simp⟩
    | 1, hs => cases hs; exact ⟨by simp, by simp⟩
    | k + 2, hs => simp at hs)).mono ?_
  rintro e w11 ⟨rfl, hC11, hu11⟩
  have hU11 := fresh rfl hU10 hu11
  replace hC11 : Chans w11 (some ⟨ga, oa, none⟩) k1 [⟨p0, rp0, c0, 1, [8], [], [], false⟩, ⟨p1, rp1, c1, 2, [], [], [], false⟩] := hC11
  clear hC10 hU10 hu11
  obtain ⟨ga', oa', e1, hcell⟩ := hC11.cell (i := 1) rfl
  cases e1
  go_wp2_with fail
  refine (chanReceivers_any p1 rp1 c1 2 [] [] [] false _ (hC11.all 1 _ rfl) (by simp)).mono ?_
  rintro e w12 ⟨a4, k4, rfl, _, hu12⟩
  go_wp2
  go_ret
  exact ⟨rfl, hU11.trans0 hu12⟩
end Go.Proofs.Ytjiepoeeahnbgaa
