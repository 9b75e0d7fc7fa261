/- Any calls on a timer: the walk. -/
import Derived.Test.YtkmjeadnkndhbaaTimerMem
import Derived.Test.YtkmjeadnkndhbaaTimerKnown
import Derived.Deep.RegionHeld3
import Derived.Deep.DeepCutAuto
import Derived.Deep.CutBlock
namespace Go.Proofs.Ytkmjeadnkndhbaa
set_option linter.unusedVariables false
set_option linter.unusedSimpArgs false
open Go.RowKit
theorem three_cells {w : World} {b : Nat} {u0 u1 u2 : Value} {t : TypeId} (h : w.heap[b]? = some (.cells #[u0, u1, u2] t (0, 0))) :
    w.cell? ⟨b, 0, none⟩ = some u0 ∧ w.cell? ⟨b, 1, none⟩ = some u1 ∧ w.cell? ⟨b, 2, none⟩ = some u2 := by
  simp [World.cell?, h]
/-- Put on a timer that is left behind. -/
theorem putQ_any (w0 w : World) (p : Nat) (b : Option Nat) (ds : List Due) (h : TimAt w p b ds) (hm : ds.length ≤ 1000) (hdo : DOk ds) (id n : Int) :
    Calls Try.prog 9 #[.pointer (some ⟨p, 0, none⟩), .int .i64 id, .int .i64 n] w fun e w' => ∃ c, e = .returned (.int .i64 c) ∧ Upd (p :: b.toList) w w' := by
  by_cases hb : badP id n
  · refine (put_bad p id n w hb).mono ?_
    rintro e w' ⟨rfl, rfl⟩
    exact ⟨1, rfl, Upd.refl _ _⟩
  · unfold badP at hb
    by_cases hk : idxD ds id = Option.none
    · refine (put_ok p b ds id n w h (by omega) hdo (by omega) (by omega) (by omega) (by omega) hk).mono ?_
      rintro e w' ⟨b', rfl, ht, hu, hf⟩
      exact ⟨0, rfl, hu⟩
    · obtain ⟨k, hk3⟩ := some_of hk
      refine (put_twice p b ds k id n w h (by omega) (by omega) (by omega) (by omega) (by omega) hk3).mono ?_
      rintro e w' ⟨rfl, hu⟩
      exact ⟨6, rfl, hu.mono (by simp)⟩
set_option maxHeartbeats 16000000 in
set_option maxRecDepth 100000 in
theorem timerPlays_walk (a : Option Addr) (cap : Nat) (xs : List ActT) (w : World) (hr : Rd w (.slice a xs.length cap) xs.length (xs.flatMap ActT.enc)) (hx : ∀ x ∈ xs, True) :
    Calls Try.prog 5 #[.slice a xs.length cap] w fun e w' => e = .returned (.bool true) ∧ Upd [] w w' := by
  clear hx
  go_enter Try.func5, Try.ntmps5
  go_wp2_with fail
  refine (known2_ok _).mono ?_
  rintro e w1 ⟨rfl, hU⟩
  by_cases hbad : 80 < xs.length
  · go_wp2_with fail
    go_ret
    exact ⟨rfl, hU⟩
  have HRD := Lib.hid hr
  clear hr
  go_wp2_with fail
  refine (newTimer_any _).mono ?_
  rintro e w2 ⟨p, rfl, hT2, hu, hp⟩
  have hB : MemB w (w2.alloc (.cells #[.slice none 0 0] 44)) p none w2.heap.size [] [] := by
    refine ⟨hT2.step ((Upd.refl _ _).alloc _), ⟨none, 0, heap_alloc_new w2 _, World.ownsRow_nil _ _ _ _⟩, Nat.le_trans hU.size hp, by simp, ?_, (hU.trans0 hu).alloc _⟩
    exact (hU.trans0 hu).size
  have HB := Lib.hid hB
  clear hB hT2 hu hp hU
  go_wp2
  go_loopw [3, 5] (fun tv iv wr => ∃ (j p : Nat) (b : Option Nat) (ds L : List Due), j ≤ xs.length ∧ iv = .int .i64 j ∧ tv = .pointer (some ⟨p, 0, none⟩) ∧ L.length ≤ j ∧ MemB w wr p b w2.heap.size ds L ∧ Hid (Rel ds L)) (fun _ iv _ => xs.length - (intOf iv).toNat)
  case atStart => exact ⟨0, p, none, [], [], Nat.zero_le _, rfl, rfl, Nat.zero_le _, HB.out, Lib.hid Rel.nil⟩
  case round =>
    clear HB
    obtain ⟨j, p, b, ds, L, hj, rfl, rfl, hLj, hB, HR⟩ := hrel
    by_cases hlt : j < xs.length
    · obtain ⟨x, hx⟩ : ∃ x, xs[j]? = some x := ⟨_, List.getElem?_eq_getElem hlt⟩
      obtain ⟨ab, off, rfl, y0, y1, y2⟩ := ActT.cells (HRD.out.keep0 hB.upd) hx
      obtain ⟨o, i, n⟩ := x
      simp only at y0 y1 y2
      obtain ⟨B, hBq⟩ : ∃ B, B = wr.heap.size := ⟨_, rfl⟩
      have hB1 := hB.step ((Upd.refl [] wr).alloc (.cells #[.int .i64 o, .int .i64 i, .int .i64 n] 46))
      have hblk := heap_alloc_new wr (.cells #[.int .i64 o, .int .i64 i, .int .i64 n] 46)
      have habl : ab < wr.heap.size := World.block_lt_of_cell? wr _ y0
      have HREL := HR
      have HB1 := Lib.hid hB1
      have HBLK := Lib.hid hblk
      have hBl : wr.heap.size < wr.heap.size + 1 := Nat.lt_succ_self _
      clear hB hB1 hblk hx hBq
      obtain ⟨c0, c1, c2⟩ := three_cells HBLK.out
      go_upto_block 2 with fail
      go_cut [3] (fun s3 wx => ∃ (p b : _) (ds L : List Due), s3 = .pointer (some ⟨p, 0, none⟩) ∧ L.length ≤ j + 1 ∧ MemB w wx p b w2.heap.size ds L ∧ wx.heap[wr.heap.size]? = some (.cells #[.int .i64 o, .int .i64 i, .int .i64 n] 46 (0, 0)) ∧ Hid (Rel ds L))
      case first =>
        have hL1000 : L.length ≤ 1000 := by omega
        have DROP := Lib.hid (show ∀ W, MemB w W p b w2.heap.size ds L → MemB w W.drew p b w2.heap.size ds L from fun W h => h.step ((Upd.refl _ _).drew))
        by_cases k1 : o = 1
        · subst k1
          have tcc : (putC L i n != putC L i n) = false := by simp
          go_wp2_with fail
          go_region_held3 (fun w' => w'.cell? ⟨wr.heap.size, 1, none⟩ = some (.int .i64 i) ∧ w'.cell? ⟨wr.heap.size, 2, none⟩ = some (.int .i64 n)) (go_keep) (first
            | (go_at_call 15; refine (putR_any w _ p _ b3 (putDs ds i n) L HB3.out hL1000 i n).mono ?_; rintro e w4 ⟨rfl, hB4, hk4⟩; have HB4 := Lib.hid hB4; have hbk4 := hk4 _ _ _ HK3.out; have HK4 := Lib.hid hbk4; obtain ⟨d0, d1, d2⟩ := three_cells hbk4; clear hB4 hk4 hbk4)
            | (go_at_call 9; refine (putP_any w _ p _ b ds L (DROP.out _ HB1.out) HREL.out hL1000 i n).mono ?_; rintro e w3 ⟨rfl, ⟨b3, hB3⟩, hk3⟩; have HB3 := Lib.hid hB3; have hbk3 := hk3 _ _ _ (show (World.drew _).heap[wr.heap.size]? = some _ from HBLK.out); have HK3 := Lib.hid hbk3; obtain ⟨e0, e1, e2⟩ := three_cells hbk3; clear hB3 hk3 hbk3))
          all_goals
            go_wp2
            go_meet
            exact ⟨p, b3, putDs ds i n, putL L i n, rfl, by have := putL_len L i n; omega, HB4.out, HK4.out, Lib.hid (HREL.out.putS i n)⟩
        · have t1 : (o == 1) = false := beq_eq_false_iff_ne.2 k1
          by_cases k2 : o = 2
          · subst k2
            have tcc : (cutC L i != cutC L i) = false := by simp
            go_wp2_with fail
            go_region_held3 (fun w' => w'.cell? ⟨wr.heap.size, 1, none⟩ = some (.int .i64 i) ∧ w'.cell? ⟨wr.heap.size, 2, none⟩ = some (.int .i64 n)) (go_keep) (first
              | (go_at_call 16; refine (cutR_any w _ p _ b (cutDs ds i) L HB3.out hL1000 i).mono ?_; rintro e w4 ⟨rfl, hB4, hk4⟩; have HB4 := Lib.hid hB4; have hbk4 := hk4 _ _ _ HK3.out; have HK4 := Lib.hid hbk4; obtain ⟨d0, d1, d2⟩ := three_cells hbk4; clear hB4 hk4 hbk4)
              | (go_at_call 13; refine (cutP_any w _ p _ b ds L (DROP.out _ HB1.out) HREL.out hL1000 i).mono ?_; rintro e w3 ⟨rfl, hB3, hk3⟩; have HB3 := Lib.hid hB3; have hbk3 := hk3 _ _ _ (show (World.drew _).heap[wr.heap.size]? = some _ from HBLK.out); have HK3 := Lib.hid hbk3; obtain ⟨e0, e1, e2⟩ := three_cells hbk3; clear hB3 hk3 hbk3))
            all_goals
              go_wp2
              go_meet
              exact ⟨p, b, cutDs ds i, cutL L i, rfl, by have := cutL_len L i; omega, HB4.out, HK4.out, Lib.hid (HREL.out.cutS i)⟩
          · have t2 : (o == 2) = false := beq_eq_false_iff_ne.2 k2
            by_cases k3 : o = 3
            · subst k3
              have hRT := HREL.out.tick
              have hlen := HREL.out.len
              go_wp2_with fail
              refine (tick_any p b ds _ HB1.out.tim (by omega) HREL.out.dok).mono ?_
              rintro e w3 ⟨oa, oc, rfl, ho3, hT3, hu3⟩
              have hB3 := HB1.out.tim' hT3 hu3 (fun k hk => .inl hk)
              have hbk3 := KeepA.tim HB1.out.tim hu3 _ _ _ HBLK.out
              rw [hRT.1] at ho3 ⊢
              have HB3 := Lib.hid hB3
              have HK3 := Lib.hid hbk3
              have HO3 := Lib.hid ho3
              have HRT := Lib.hid hRT.2
              clear hRT hlen hB3 hbk3 hT3 hu3 ho3 c0 c1 c2
              go_wp2_with fail
              refine (tickR_any w2.heap.size L _ HB3.out.ref (by omega) (fun d hd => by have := HREL.out.rng d hd; omega)).mono ?_
              rintro e w4 ⟨ra, rc, rfl, ho4, hr4, hu4⟩
              have hB4 := HB3.out.ref' hr4 hu4
              have hbk4 := KeepA.ref HB3.out.ref hu4 _ _ _ HK3.out
              have ho34 : w4.ownsRow 0 3 1 (.slice oa (outR L).length oc) (outR L).length ((outR L).map (Value.int .i64)) := own_keep (own_lower HO3.out (Nat.zero_le _)) hu4 (fun q hq => by
                obtain ⟨cq, hcq⟩ := own_block' HO3.out hq
                obtain ⟨am, capm, hm1, -⟩ := HB3.out.ref.ex
                simp
                exact fun e => ne_types hcq hm1 (by decide) e)
              have HB4 := Lib.hid hB4
              have HK4 := Lib.hid hbk4
              have HO4 := Lib.hid ho4
              have HO34 := Lib.hid ho34
              clear hB4 hbk4 hr4 hu4 ho4 ho34
              go_wp2_with fail
              refine (ints_eq oa ra oc rc (outR L) _ (Rd.of_own HO34.out) (Rd.of_own HO4.out) (by have := outR_len L; omega)).mono ?_
              rintro e w5 ⟨rfl, nq, rfl⟩
              have hu5 : Upd [] w4 (w4.drewN nq) := (Upd.refl _ _).drewN _
              go_wp2
              go_meet
              exact ⟨p, b, (tickD ds).2, restR L, rfl, by have := restR_len L; omega, HB4.out.step hu5, hu5.keep HK4.out (by simp), HRT⟩
            · have t3 : (o == 3) = false := beq_eq_false_iff_ne.2 k3
              by_cases k4 : o = 4
              · subst k4
                have hlen := HREL.out.len
                obtain ⟨s, hs⟩ : ∃ s, s = (wr.alloc (.cells #[.int .i64 4, .int .i64 i, .int .i64 n] 46)).heap.size := ⟨_, rfl⟩
                have hps : p < s := by rw [hs]; exact HB1.out.tim.lt
                have hbs : ∀ k, b = some k → k < s := fun k hk => by rw [hs]; exact HB1.out.tim.rowLt k hk
                have hws : w.heap.size ≤ s := by rw [hs]; exact HB1.out.upd.size
                go_wp2_with fail
                refine (twinTimer_any p b ds _ HB1.out.tim (by omega)).mono ?_
                rintro e w3 ⟨q, bq, rfl, hTq, hu3, hq, hbq⟩
                rw [← hs] at hq hbq
                have hB3 := HB1.out.step hu3
                have hQ3 : MemB w w3 q bq w2.heap.size ds L := ⟨hTq, hB3.ref, by omega, fun k hk => by have := hbq k hk; omega, hB3.hm, hB3.upd⟩
                have hbk3 := hu3.keep HBLK.out (by simp)
                have HB3 := Lib.hid hB3
                have HQ3 := Lib.hid hQ3
                have HK3 := Lib.hid hbk3
                have HBQ := Lib.hid hbq
                have HBS := Lib.hid hbs
                clear hs hB3 hQ3 hbk3 hTq hu3 hbq hbs c0 c1 c2
                go_wp2_with fail
                refine (tick_any p b ds _ HB3.out.tim (by omega) HREL.out.dok).mono ?_
                rintro e w4 ⟨oa, oc, rfl, ho4, hT4, hu4⟩
                have hQ4 := HQ3.out.asideUp HB3.out.tim HB3.out.hp HB3.out.hb s hq HBQ.out hps HBS.out hu4
                have hB4 := HB3.out.tim' hT4 hu4 (fun k hk => .inl hk)
                have hbk4 := KeepA.tim HB3.out.tim hu4 _ _ _ HK3.out
                obtain ⟨d0, d1, d2⟩ := three_cells hbk4
                have HB4 := Lib.hid hB4
                have HQ4 := Lib.hid hQ4
                have HK4 := Lib.hid hbk4
                clear hQ4 hB4 hbk4 hT4 hu4 ho4
                go_wp2_with fail
                refine (putQ_any w _ p b (tickD ds).2 HB4.out.tim (by rw [HREL.out.tick.2.len]; have := restR_len L; omega) HREL.out.tick.2.dok i 3).mono ?_
                rintro e w5 ⟨c5, rfl, hu5⟩
                have hQ5 := HQ4.out.asideUp HB4.out.tim HB4.out.hp HB4.out.hb s hq HBQ.out hps HBS.out hu5
                have hbk5 := KeepA.tim HB4.out.tim hu5 _ _ _ HK4.out
                have HQ5 := Lib.hid hQ5
                have HK5 := Lib.hid hbk5
                clear hQ5 hbk5 hu5
                go_wp2
                go_meet
                exact ⟨q, bq, ds, L, rfl, by omega, HQ5.out, HK5.out, HREL⟩
              · have t4 : (o == 4) = false := beq_eq_false_iff_ne.2 k4
                go_wp2
                go_meet
                exact ⟨p, b, ds, L, rfl, by omega, HB1.out, HBLK.out, HREL⟩
      case rest =>
        obtain ⟨p, b, ds, L, rfl, hLj2, hB, hblk, HR⟩ := hcut
        have hL1000 : L.length ≤ 1000 := by omega
        have HB := Lib.hid hB
        have HK := Lib.hid hblk
        clear HB1 HBLK HREL c0 c1 c2
        obtain ⟨c0, c1, c2⟩ := three_cells hblk
        clear hB hblk
        obtain ⟨lv, hlv⟩ : ∃ lv, lv = (leftL L i).1 := ⟨_, rfl⟩
        obtain ⟨lb, hlb⟩ : ∃ lb, lb = (leftL L i).2 := ⟨_, rfl⟩
        have LP := Lib.hid (leftP_any w _ p w2.heap.size b ds L HB.out HR.out hL1000 i)
        have LR := Lib.hid (fun W (hW : MemB w W p b w2.heap.size ds L) => leftR_any w W p w2.heap.size b ds L hW hL1000 i)
        rw [← hlv, ← hlb] at LP LR
        clear hlv hlb
        go_wp2_with fail
        refine LP.out.mono ?_
        rintro e w3 ⟨rfl, hB3, hk3⟩
        have hbk3 := hk3 _ _ _ HK.out
        obtain ⟨d0, d1, d2⟩ := three_cells hbk3
        have HB3 := Lib.hid hB3
        have HK3 := Lib.hid hbk3
        clear hB3 hk3 hbk3 c0 c1 c2
        go_wp2_with fail
        refine (LR.out _ HB3.out).mono ?_
        rintro e w4 ⟨rfl, hB4, hk4⟩
        obtain ⟨am, capm, hm1, -⟩ := hB4.ref.ex
        obtain ⟨m0, m1⟩ := one_cell hm1
        have hlen := HR.out.len
        have HB4 := Lib.hid hB4
        have HL4 := Lib.hid (show ∀ W, Upd [] w4 W → Calls Try.prog 11 #[.pointer (some ⟨p, 0, none⟩)] W fun e w' => e = .returned (.int .i64 L.length) ∧ W = w' from fun W hW => by
          have := lenTimer_any p b ds W (hB4.tim.step hW)
          rw [hlen] at this
          exact this)
        obtain ⟨Q, hQ⟩ : ∃ Q, Q = L.length := ⟨_, rfl⟩
        rw [← hQ] at m0 HL4
        have HQ := Lib.hid hQ
        have tv : (lv != lv) = false := by simp
        have tb : (lb != lb) = false := by simp
        have tq : ((Q : Int) != (Q : Int)) = false := by simp
        clear hB4 hk4 hm1 hlen hQ d0 d1 d2
        go_wp2_with fail
        go_region_held3 (fun w' => w'.cell? ⟨w2.heap.size, 0, none⟩ = some (.slice am Q capm)) (go_keep) (first
          | (go_at_call 11; refine (HL4.out _ (by repeat (first | refine Upd.drewN ?_ _ | refine Upd.drew ?_ | exact Upd.refl _ _))).mono ?_; rintro e w5 ⟨rfl, rfl⟩))
        all_goals
          go_wp2
          go_roundw
          case rel => exact ⟨j + 1, p, b, ds, L, by omega, by go_num, rfl, by omega, HB4.out.step (by repeat (first | refine Upd.drewN ?_ _ | refine Upd.drew ?_ | exact Upd.refl _ _)), HR⟩
          case measure => simp [intOf]; omega
    · obtain rfl : j = xs.length := by omega
      go_wp2
      go_ret
      exact ⟨rfl, hB.upd⟩
end Go.Proofs.Ytkmjeadnkndhbaa
