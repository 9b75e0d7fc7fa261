/- A twin is due as the one itself, and neither changes the other. -/
import Derived.Test.YtkmjeadnkndhbaaTimerDue
namespace Go.Proofs.Ytkmjeadnkndhbaa
set_option linter.unusedVariables false
set_option linter.unusedSimpArgs false
open Go.RowKit

set_option maxHeartbeats 800000 in
set_option maxRecDepth 100000 in
theorem cloneD_any (a : Option Addr) (cap : Nat) (q : List Due) (w : World) (hq : RdD w (.slice a q.length cap) q) (hm : q.length ≤ 1000000) :
    Calls Try.prog 24 #[.slice a q.length cap] w fun e w' => ∃ a' c', e = .returned (.slice a' q.length c') ∧ w'.ownsRow w.heap.size 55 2 (.slice a' q.length c') q.length (q.flatMap Due.enc) ∧ Upd [] w w' := by
  cases a with
  | none =>
    obtain ⟨a1, c1, he, h1, h2, h3, _⟩ := hq
    cases he
    have hn := h3 rfl
    have h0 : q.length = 0 := by omega
    have hq0 : q = [] := List.eq_nil_of_length_eq_zero h0
    subst hq0
    subst hn
    have hnil := fun W => Lib.run_eql_slice_nil (P := Try.prog) W 51 55 none 0 0 0 0 Try.underlying51
    simp only [Option.isNone_none] at hnil
    simp only [List.length_nil]
    go_enter Try.func24, Try.ntmps24
    go_wp2
    go_ret
    exact ⟨none, 0, rfl, World.ownsRow_nil _ _ _ _, Upd.refl _ _⟩
  | some ad =>
    have hm1 : q.length ≤ maxLen := by unfold maxLen; omega
    have hm2 : q.length * 16 ≤ 140737488355328 := by omega
    have hnil := fun W => Lib.run_eql_slice_nil (P := Try.prog) W 51 55 (some ad) q.length cap 0 0 Try.underlying51
    simp only [Option.isNone_some] at hnil
    go_enter Try.func24, Try.ntmps24
    go_wp2_with (first
      | (at_builtin; refine wp_copy tDue rfl (.tmp 5) (.tmp 6) rfl (base := w.heap.size) (World.ownsRow_made _ #[] 0 (by simp) (by simp) rfl) rfl rfl (hq.keep0 ((Upd.refl _ _).alloc _)) (due_len q) (Due.one q) hm1 hm2 (by simp) ?_; intro a1 cp1 w1 hown1 hupd1))
    go_ret
    exact ⟨a1, cp1, rfl, hown1, ((Upd.refl [] w).alloc _).trans hupd1 (fun x hx hl => by simp [Value.ownBlock] at hx; omega)⟩

theorem twinTimer_any (p : Nat) (b : Option Nat) (ds : List Due) (w : World) (h : TimAt w p b ds) (hm : ds.length ≤ 99999) :
    Calls Try.prog 18 #[.pointer (some ⟨p, 0, none⟩)] w fun e w' => ∃ p' b', e = .returned (.pointer (some ⟨p', 0, none⟩)) ∧ TimAt w' p' b' ds ∧ Upd [] w w' ∧ w.heap.size ≤ p' ∧ ∀ k, b' = some k → w.heap.size ≤ k := by
  obtain ⟨a, cap, hp1, hown, hab⟩ := h.ex
  obtain ⟨c0, f0⟩ := one_cell hp1
  go_enter Try.func18, Try.ntmps18
  go_wp2_with fail
  refine (cloneD_any a cap ds _ (Rd.of_own hown) (by omega)).mono ?_
  rintro e w2 ⟨a2, c2, rfl, hown2, hu2⟩
  go_wp2
  go_ret
  exact ⟨_, _, rfl, ⟨a2, c2, heap_alloc_new _ _, own_lower (hown2.alloc _) (Nat.zero_le _), rfl⟩, hu2.alloc _, hu2.size, fun k hk => (hown2.lt k hk).1⟩

theorem sched_empty {T : Nat → Nat} {n k c : Nat} (h : ∀ i, i < n → T i < k) : sched T n k c = [] := by
  rw [List.eq_nil_iff_forall_not_mem]
  intro x hx
  obtain ⟨i, t, _, hi, ht, h3, _⟩ := mem_sched hx
  have := h i hi
  omega
/-- One tick. -/
theorem tick_step {T : Nat → Nat} {N k c : Nat} {ds : List Due} (habs : absD ds (k : Int) = sched T N (k + 1) (c + 1)) : absD (tickD ds).2 ((k + 1 : Nat) : Int) = sched T N (k + 2) c ∧ (DOk ds → DOk (tickD ds).2 ∧ (tickD ds).2.length ≤ ds.length) := by
  have hsp := sched_split T N (k + 1) 1 c
  rw [show 1 + c = c + 1 by omega] at hsp
  rw [hsp] at habs
  have hA : ∀ x ∈ sched T N (k + 1) 1, x.2 = (k : Int) + 1 := fun x hx => by
    obtain ⟨i, t, rfl, _, _, h3, h4⟩ := mem_sched hx
    simp only
    omega
  have hB : ∀ x ∈ sched T N (k + 1 + 1) c, (k : Int) + 1 < x.2 := fun x hx => by
    obtain ⟨i, t, rfl, _, _, h3, h4⟩ := mem_sched hx
    simp only
    omega
  obtain ⟨h1, h2⟩ := tickD_abs ds (k : Int) _ _ habs hA hB
  refine ⟨h2, fun hdo => tickD_ok (b := (k : Int)) hdo (fun x hx => ?_)⟩
  rw [habs] at hx
  rcases List.mem_append.1 hx with hx | hx
  · have := hA x hx; omega
  · have := hB x hx; omega
theorem popD_out (ds : List Due) : (popD ds).1.length ≤ ds.length := by
  induction ds with
  | nil => simp [popD]
  | cons d l ih =>
    unfold popD
    split
    · simp; omega
    · simp
theorem tickD_out (ds : List Due) : (tickD ds).1.length ≤ ds.length := by
  cases ds with
  | nil => simp [tickD]
  | cons d l => exact popD_out (⟨d.id, d.more - 1⟩ :: l)
/-- Another timer's call leaves this one as it was. -/
theorem TimAt.apart {w w' : World} {p q : Nat} {b c : Option Nat} {ds : List Due} (h : TimAt w p b ds) (hu : Upd (q :: c.toList) w w') (h1 : p ≠ q) (h2 : c ≠ Option.some p) (h3 : b ≠ Option.some q) (h4 : ∀ k, b = Option.some k → c ≠ Option.some k) : TimAt w' p b ds :=
  h.keep hu (fun hm => by
    rcases List.mem_cons.1 hm with rfl | hm
    · exact h1 rfl
    · exact h2 (by simpa using hm)) (fun k hk hm => by
    rcases List.mem_cons.1 hm with rfl | hm
    · exact h3 hk
    · exact h4 k hk (by simpa using hm))
theorem TimAt.below {w w' : World} {p q s : Nat} {b c : Option Nat} {ds : List Due} (h : TimAt w p b ds) (hu : Upd (q :: c.toList) w w') (hp : p < s) (hb : ∀ k, b = Option.some k → k < s) (hq : s ≤ q) (hc : ∀ k, c = Option.some k → s ≤ k) : TimAt w' p b ds :=
  h.apart hu (by omega) (fun h => by have := hc p h; omega) (fun h => by have := hb q h; omega) (fun k h h' => by have := hb k h; have := hc k h'; omega)
theorem TimAt.above {w w' : World} {p q s : Nat} {b c : Option Nat} {ds : List Due} (h : TimAt w p b ds) (hu : Upd (q :: c.toList) w w') (hp : s ≤ p) (hb : ∀ k, b = Option.some k → s ≤ k) (hq : q < s) (hc : ∀ k, c = Option.some k → k < s) : TimAt w' p b ds :=
  h.apart hu (by omega) (fun h => by have := hc p h; omega) (fun h => by have := hb q h; omega) (fun k h h' => by have := hb k h; have := hc k h'; omega)

set_option maxHeartbeats 6400000 in
set_option maxRecDepth 100000 in
theorem timerTwins_walk (a : Option Addr) (cap : Nat) (xs : List Int) (ahead : Int) (w : World) (hr : Rd w (.slice a xs.length cap) xs.length (xs.map (Value.int .u8))) (hx : ∀ n ∈ xs, (Lit.int .u8 n).wf = true) (hah : (Lit.int .u8 ahead).wf = true) :
    Calls Try.prog 6 #[.slice a xs.length cap, .int .u8 ahead] w fun e w' => e = .returned (.bool true) ∧ Upd [] w w' := by
  obtain ⟨ha0, ha1⟩ := wf_u8 hah
  clear hah
  obtain ⟨ah, hah⟩ := Int.eq_ofNat_of_zero_le (show 0 ≤ ahead % 30 by omega)
  have hah30 : ah ≤ 29 := by omega
  go_enter Try.func6, Try.ntmps6
  go_wp2_with fail
  refine (known2_ok _).mono ?_
  rintro e w1 ⟨rfl, hU⟩
  by_cases hbad : 40 < xs.length
  · go_wp2_with fail
    go_ret
    exact ⟨rfl, hU⟩
  have HR := Lib.hid hr
  clear hr
  obtain ⟨T, hT⟩ : ∃ T : Nat → Nat, ∀ j, j < xs.length → ∃ m : Nat, xs.getD j 0 % 30 = (m : Int) ∧ (1 : Int) + (m : Int) = (T j : Int) ∧ 1 ≤ T j ∧ T j ≤ 30 ∧ 0 ≤ xs.getD j 0 ∧ xs.getD j 0 ≤ 255 := by
    refine ⟨fun j => 1 + (xs.getD j 0 % 30).toNat, fun j hj => ⟨(xs.getD j 0 % 30).toNat, ?_⟩⟩
    have hw := wf_u8 (hx (xs.getD j 0) (by rw [List.getD_eq_getElem?_getD, List.getElem?_eq_getElem hj]; simp))
    have h1 : 0 ≤ xs.getD j 0 % 30 := by omega
    refine ⟨?_, ?_, ?_, ?_, hw.1, hw.2⟩ <;> (try dsimp only) <;> omega
  have HT := Lib.hid hT
  clear hT hx
  go_wp2_with fail
  refine (newTimer_any _).mono ?_
  rintro e w2 ⟨p, rfl, hT2, hu, hp⟩
  have hpw : w.heap.size ≤ p := Nat.le_trans hU.size hp
  replace hU : Upd [] w w2 := hU.trans0 hu
  clear hu hp
  go_wp2
  go_loopw [6] (fun iv wr => ∃ (j : Nat) (b : Option Nat) (ds : List Due), j ≤ xs.length ∧ iv = .int .i64 j ∧ TimAt wr p b ds ∧ DOk ds ∧ ds.length = j ∧ absD ds 0 = sched T j 1 40 ∧ (∀ k, b = some k → w.heap.size ≤ k) ∧ Upd [] w wr) (fun iv _ => xs.length - (intOf iv).toNat)
  case atStart => exact ⟨0, none, [], Nat.zero_le _, rfl, hT2, by intro d hd; simp at hd, rfl, by simp [absD, sched, cls], by simp, hU⟩
  case round =>
    clear hT2 hU
    obtain ⟨j, b, ds, hj, rfl, hTm, hdo, hlen, habs, hfr, hU⟩ := hrel
    have HABS := Lib.hid habs
    have HDO := Lib.hid hdo
    have HFR := Lib.hid hfr
    have HLEN := Lib.hid hlen
    clear habs hdo hfr hlen
    by_cases hlt : j < xs.length
    · obtain ⟨m, hm1, hm2, ht1, ht2, hv0, hv1⟩ := HT.out j hlt
      have hc := get_u8 hlt
      generalize xs.getD j 0 = v at hm1 hc hv0 hv1
      obtain ⟨b', off, rfl, hcell⟩ := (HR.out.keep0 hU).at (by omega)
      have g1 := hcell j _ hc
      clear hcell hc
      go_wp2_with fail
      refine (put_ok p b ds j (T j) _ hTm (by rw [HLEN.out]; omega) HDO.out (by omega) (by omega) (by omega) (by omega) (idx_none HABS.out)).mono ?_
      rintro e w3 ⟨b3, rfl, hT3, hu3, hf3⟩
      have hU3 := hU.far hu3 hpw HFR.out
      have hF3 := fresh_next (c := w3) hU HFR.out hf3
      clear hTm hu3 hf3 hU g1
      go_wp2
      go_roundw
      case rel =>
        obtain ⟨A, B, e1, e2, e3, e4⟩ := sched_put T j ht1 (by omega)
        refine ⟨j + 1, b3, putD ds j (T j), by omega, by go_num, hT3, putD_ok HDO.out (by omega) (by omega), by rw [putD_len, HLEN.out], ?_, hF3, hU3⟩
        rw [e4]
        have := absD_put ds j 0 (T j) A B (by rw [HABS.out, e1]) (fun x hx => by have := e2 x hx; omega) (fun x hx => by have := e3 x hx; omega)
        rw [this, Int.zero_add]
      case measure => simp [intOf]; omega
    · obtain rfl : j = xs.length := by omega
      clear hlt hj
      have h100 : absD ds ((0 : Nat) : Int) = sched T xs.length 1 100 := by
        have h1 := sched_split T xs.length 1 40 60
        rw [sched_empty (k := 1 + 40) (fun i hi => by obtain ⟨m, _, _, _, h4, _⟩ := HT.out i hi; omega), List.append_nil] at h1
        rw [show (40 + 60 : Nat) = 100 from rfl] at h1
        rw [h1]
        exact HABS.out
      go_wp2
      go_loopw [7] (fun iv wr => ∃ (k : Nat) (ds : List Due), iv = .int .i64 k ∧ k ≤ ah ∧ TimAt wr p b ds ∧ DOk ds ∧ ds.length ≤ xs.length ∧ absD ds (k : Int) = sched T xs.length (k + 1) (100 - k) ∧ Upd [] w wr) (fun iv _ => ah - (intOf iv).toNat)
      case atStart => exact ⟨0, ds, rfl, Nat.zero_le _, hTm, HDO.out, by rw [HLEN.out]; omega, h100, hU⟩
      case round =>
        clear hTm hU HABS HDO HLEN h100
        obtain ⟨k, ds, rfl, hk, hTm, hdo, hlen, habs, hU⟩ := hrel
        have HABS := Lib.hid habs
        have HDO := Lib.hid hdo
        clear habs hdo
        by_cases hlt : k < ah
        · go_wp2_with fail
          refine (tick_any p b ds _ hTm (by omega) HDO.out).mono ?_
          rintro e w5 ⟨oa, oc, rfl, _, hT5, hu5⟩
          have hU5 := hU.far hu5 hpw HFR.out
          clear hTm hU hu5
          go_wp2
          go_roundw
          case rel =>
            have hst := tick_step (T := T) (N := xs.length) (k := k) (c := 99 - k) (ds := ds) (by rw [HABS.out]; congr 1; omega)
            have hok := hst.2 HDO.out
            exact ⟨k + 1, (tickD ds).2, by go_num, by omega, hT5, hok.1, by have := hok.2; omega, by rw [hst.1]; congr 1; omega, hU5⟩
          case measure => simp [intOf]; omega
        · obtain rfl : k = ah := by omega
          obtain ⟨s, hs⟩ : ∃ s, s = wr.heap.size := ⟨_, rfl⟩
          have hps : p < s := by rw [hs]; exact hTm.lt
          have hbs : ∀ q, b = some q → q < s := fun q hq => by rw [hs]; exact hTm.rowLt q hq
          have hws : w.heap.size ≤ s := by rw [hs]; exact hU.size
          go_wp2_with fail
          refine (twinTimer_any p b ds _ hTm (by omega)).mono ?_
          rintro e w5 ⟨pu, bu, rfl, hTu, hu5, hpu, hbu⟩
          have hT5 := hTm.step hu5
          have hU5 := hU.trans0 hu5
          rw [← hs] at hpu hbu
          clear hTm hU hu5 hs
          obtain ⟨s2, hs2⟩ : ∃ s2, s2 = w5.heap.size := ⟨_, rfl⟩
          have hpu2 : pu < s2 := by rw [hs2]; exact hTu.lt
          have hbu2 : ∀ q, bu = some q → q < s2 := fun q hq => by rw [hs2]; exact hTu.rowLt q hq
          go_wp2_with fail
          refine (twinTimer_any p b ds _ hT5 (by omega)).mono ?_
          rintro e w6 ⟨pv, bv, rfl, hTv, hu6, hpv, hbv⟩
          have hT6 := hT5.step hu6
          have hTu6 := hTu.step hu6
          have hU6 := hU5.trans0 hu6
          rw [← hs2] at hpv hbv
          clear hT5 hTu hU5 hu6 hs2
          have HFRV := Lib.hid (show ∀ q, bv = some q → w.heap.size ≤ q from fun q hq => by have := hbv q hq; omega)
          have HFRU := Lib.hid (show ∀ q, bu = some q → w.heap.size ≤ q from fun q hq => by have := hbu q hq; omega)
          have HBS := Lib.hid hbs
          have HBU := Lib.hid hbu
          have HBU2 := Lib.hid hbu2
          have HBV := Lib.hid hbv
          clear hbs hbu hbu2 hbv
          go_wp2
          go_loopw [10] (fun iv wr => ∃ (i : Nat) (dv : List Due), iv = .int .i64 i ∧ i ≤ 31 ∧ TimAt wr pv bv dv ∧ DOk dv ∧ dv.length ≤ xs.length ∧ absD dv ((k + i : Nat) : Int) = sched T xs.length (k + i + 1) (100 - (k + i)) ∧ TimAt wr p b ds ∧ TimAt wr pu bu ds ∧ Upd [] w wr) (fun iv _ => 31 - (intOf iv).toNat)
          case atStart => exact ⟨0, ds, rfl, by omega, hTv, HDO.out, hlen, HABS.out, hT6, hTu6, hU6⟩
          case round =>
            clear hTv hT6 hTu6 hU6
            obtain ⟨i, dv, rfl, hi, hTv, hdv, hlv, habs, hTt, hTu, hU⟩ := hrel
            have HABV := Lib.hid habs
            have HDV := Lib.hid hdv
            clear habs hdv
            by_cases hlt : i < 31
            · go_wp2_with fail
              refine (tick_any pv bv dv _ hTv (by omega) HDV.out).mono ?_
              rintro e w7 ⟨oa, oc, rfl, _, hT7, hu7⟩
              have hU7 := hU.far hu7 (by omega) HFRV.out
              have hTt7 := hTt.below (s := s2) hu7 (by omega) (fun q hq => by have := HBS.out q hq; omega) hpv HBV.out
              have hTu7 := hTu.below (s := s2) hu7 hpu2 HBU2.out hpv HBV.out
              clear hTv hTt hTu hU hu7
              go_wp2
              go_roundw
              case rel =>
                have hst := tick_step (T := T) (N := xs.length) (k := k + i) (c := 99 - (k + i)) (ds := dv) (by rw [HABV.out]; congr 1; omega)
                have hok := hst.2 HDV.out
                exact ⟨i + 1, (tickD dv).2, by go_num, by omega, hT7, hok.1, by have := hok.2; omega, by rw [show k + (i + 1) = k + i + 1 by omega, hst.1]; congr 1; omega, hTt7, hTu7, hU7⟩
              case measure => simp [intOf]; omega
            · obtain rfl : i = 31 := by omega
              obtain rfl : dv = [] := absD_nil (by rw [HABV.out]; exact sched_empty (fun i hi => by obtain ⟨m, _, _, _, h4, _⟩ := HT.out i hi; omega))
              go_wp2_with fail
              refine (lenTimer_any pv bv [] _ hTv).mono ?_
              rintro e w7 ⟨rfl, rfl⟩
              simp only [List.length_nil]
              go_wp2_with fail
              refine (put_ok pv bv [] 0 5 _ hTv (by simp) (by intro d hd; simp at hd) (by omega) (by omega) (by omega) (by omega) rfl).mono ?_
              rintro e w7 ⟨bv2, rfl, hTv7, hu7, hfv⟩
              have hU7 := hU.far hu7 (by omega) HFRV.out
              have hTt7 := hTt.below (s := s2) hu7 (by omega) (fun q hq => by have := HBS.out q hq; omega) hpv HBV.out
              have hTu7 := hTu.below (s := s2) hu7 hpu2 HBU2.out hpv HBV.out
              have hbv2 : ∀ q, bv2 = some q → s2 ≤ q := fun q hq => by
                rcases hfv q hq with h | h
                · exact HBV.out q h
                · have := hTv.lt; omega
              have HBV2 := Lib.hid hbv2
              rw [show putD [] 0 5 = [⟨0, 5⟩] from rfl] at hTv7
              clear hTv hTt hTu hU hu7 hfv hbv2
              go_wp2
              go_loopw [11] (fun iv wr => ∃ (i : Nat) (dt : List Due), iv = .int .i64 i ∧ i ≤ 31 ∧ TimAt wr p b dt ∧ TimAt wr pu bu dt ∧ TimAt wr pv bv2 [⟨0, 5⟩] ∧ DOk dt ∧ dt.length ≤ xs.length ∧ absD dt ((k + i : Nat) : Int) = sched T xs.length (k + i + 1) (100 - (k + i)) ∧ Upd [] w wr) (fun iv _ => 31 - (intOf iv).toNat)
              case atStart => exact ⟨0, ds, rfl, by omega, hTt7, hTu7, hTv7, HDO.out, hlen, HABS.out, hU7⟩
              case round =>
                clear hTt7 hTu7 hTv7 hU7
                obtain ⟨i, dt, rfl, hi2, hTt, hTu, hTv, hdt, hlt2, habs, hU⟩ := hrel
                have HABT := Lib.hid habs
                have HDT := Lib.hid hdt
                clear habs hdt
                by_cases hlt : i < 31
                · have hd1 : ((dt.length : Int) != (dt.length : Int)) = false := by simp
                  go_wp2_with fail
                  refine (lenTimer_any p b dt _ hTt).mono ?_
                  rintro e w8 ⟨rfl, rfl⟩
                  go_wp2_with fail
                  refine (lenTimer_any pu bu dt _ hTu).mono ?_
                  rintro e w8 ⟨rfl, rfl⟩
                  go_wp2_with fail
                  refine (tick_any p b dt _ hTt (by omega) HDT.out).mono ?_
                  rintro e w8 ⟨oa, oc, rfl, ho8, hT8, hu8⟩
                  have hU8 := hU.far hu8 hpw HFR.out
                  have hTu8 := hTu.above (s := s) hu8 hpu HBU.out hps HBS.out
                  have hTv8 := hTv.above (s := s2) hu8 hpv HBV2.out (by omega) (fun q hq => by have := HBS.out q hq; omega)
                  have hus := hTu.rowLt
                  have huz := hTu.lt
                  clear hTt hTu hTv hU hu8
                  go_wp2_with fail
                  refine (tick_any pu bu dt _ hTu8 (by omega) HDT.out).mono ?_
                  rintro e w9 ⟨oa2, oc2, rfl, ho9, hT9, hu9⟩
                  have hU9 := hU8.far hu9 (by omega) HFRU.out
                  have hTt9 := hT8.below (s := s) hu9 hps HBS.out hpu HBU.out
                  have hTv9 := hTv8.above (s := s2) hu9 hpv HBV2.out hpu2 HBU2.out
                  have ho89 := own_keep ho8 hu9 (fun q hq hm => by
                    have h1 := (ho8.lt q hq).1
                    rcases List.mem_cons.1 hm with rfl | hm
                    · omega
                    · have := hus q (by simpa using hm); omega)
                  have hr1 := Rd.of_own ho89
                  have hr2 := Rd.of_own ho9
                  have hln : (tickD dt).1.length ≤ 9223372036854775807 := by
                    have := tickD_out dt
                    omega
                  clear hT8 hTu8 hTv8 hU8 hu9 ho8 ho9 ho89 hus huz
                  go_wp2_with fail
                  refine (ints_eq oa oa2 oc oc2 (tickD dt).1 _ hr1 hr2 hln).mono ?_
                  rintro e w10 ⟨rfl, m, hw10⟩
                  have hu10 : Upd [] w9 w10 := by rw [hw10]; exact (Upd.refl _ _).drewN m
                  have hTt10 := hTt9.step hu10
                  have hTu10 := hT9.step hu10
                  have hTv10 := hTv9.step hu10
                  have hU10 := hU9.trans0 hu10
                  clear hr1 hr2 hln hw10 hu10 hTt9 hT9 hTv9 hU9
                  go_wp2
                  go_roundw
                  case rel =>
                    have hst := tick_step (T := T) (N := xs.length) (k := k + i) (c := 99 - (k + i)) (ds := dt) (by rw [HABT.out]; congr 1; omega)
                    have hok := hst.2 HDT.out
                    exact ⟨i + 1, (tickD dt).2, by go_num, by omega, hTt10, hTu10, hTv10, hok.1, by have := hok.2; omega, by rw [show k + (i + 1) = k + i + 1 by omega, hst.1]; congr 1; omega, hU10⟩
                  case measure => simp [intOf]; omega
                · obtain rfl : i = 31 := by omega
                  obtain rfl : dt = [] := absD_nil (by rw [HABT.out]; exact sched_empty (fun i hi => by obtain ⟨m, _, _, _, h4, _⟩ := HT.out i hi; omega))
                  go_wp2_with fail
                  refine (lenTimer_any p b [] _ hTt).mono ?_
                  rintro e w8 ⟨rfl, rfl⟩
                  simp only [List.length_nil]
                  go_wp2_with fail
                  refine (lenTimer_any pv bv2 [⟨0, 5⟩] _ hTv).mono ?_
                  rintro e w8 ⟨rfl, rfl⟩
                  simp only [List.length_cons, List.length_nil, Nat.zero_add]
                  go_wp2
                  go_ret
                  exact ⟨rfl, hU⟩
end Go.Proofs.Ytkmjeadnkndhbaa
