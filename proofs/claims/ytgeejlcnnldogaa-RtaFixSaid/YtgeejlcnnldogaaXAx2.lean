-- PRINTED by print.py (a twelfth state) out of the translation. Not trusted: Lean checks it.
import Derived.Test.YtgeejlcnnldogaaXAx0
namespace Go.Proofs.Ytgeejlcnnldogaa.XA
open Go.RowKit Go.Proofs.YtgeejlcnnldogaaW.PrintWords Go.Proofs.YtgeejlcnnldogaaW.PrintLast Go.Proofs.YtgeejlcnnldogaaW.PrintMore
attribute [local go_sem] max2_int min2_int max_two min_two max_three min_three max_four min_four   -- for this text's walks alone
set_option linter.unusedVariables false
set_option linter.unusedSimpArgs false

/-! ### order_Prios: function 40 -/
open Go.Proofs.YtgeejlcnnldogaaH (Upd Rd RowN dcmp ahead dlt prios)
def dls (l : List S75) : List Int := l.map (·.f2)
theorem dls_get (l : List S75) (i : Nat) (h : i < l.length) : (dls l).getD i 0 = (rd_T75 l i).f2 := by
  simp [dls, rd_T75, List.getD, h]
theorem prios_closure (x y bx : Nat) (A : Option Addr) (l : List S75) (c : Nat) (W : World) (hb : W.cell? ⟨bx, 2, none⟩ = some (.slice A l.length c)) (hl : Kd.C k75 W A l.length l) (hx : x < l.length) (hy : y < l.length) (hm : l.length ≤ 9223372036854775807) :
    Calls Try.prog 57 #[.int .i64 x, .int .i64 y, .pointer (some ⟨bx, 0, none⟩)] W fun e w' => e = .returned (.int .i64 (dcmp (dls l) x y)) ∧ Upd [] W w' := by
  obtain ⟨ad, A4, c4, rfl, x0, x1, x2, x3, x4, -, -⟩ := at_T75 hl x (by omega) (by omega)
  obtain ⟨ad', B4, d4, he, y0, y1, y2, y3, y4, -, -⟩ := at_T75 hl y (by omega) (by omega)
  obtain rfl : ad = ad' := by injection he
  have hd : dcmp (dls l) x y = Go.Proofs.YtgeejlcnnldogaaH.cmpI (rd_T75 l x).f2 (rd_T75 l y).f2 := by
    unfold dcmp Go.Proofs.YtgeejlcnnldogaaH.cmpI
    rw [dls_get l x hx, dls_get l y hy]
  rw [hd]
  clear hd he x0 x1 x3 x4 y0 y1 y3 y4 hl
  obtain ⟨u, hu⟩ : ∃ u, u = (rd_T75 l x).f2 := ⟨_, rfl⟩
  obtain ⟨v, hv⟩ : ∃ v, v = (rd_T75 l y).f2 := ⟨_, rfl⟩
  rw [← hu] at x2 ⊢
  rw [← hv] at y2 ⊢
  obtain ⟨n, hn⟩ : ∃ n, n = l.length := ⟨_, rfl⟩
  rw [← hn] at hb hx hy hm
  clear hu hv hn
  have hx0 : (0 : Int) ≤ (x : Int) := by omega
  have hx1 : (x : Int) < (n : Int) := by omega
  have hy0 : (0 : Int) ≤ (y : Int) := by omega
  have hy1 : (y : Int) < (n : Int) := by omega
  simp only [Int.toNat_natCast] at x2 y2
  go_enter Try.func57, Try.ntmps57
  go_wp2
  go_region_held3 (fun w' => w'.cell? ⟨bx, 2, none⟩ = some (.slice (some ad) n c) ∧ w'.cell? ⟨(ad.add (x * 5)).block, (ad.add (x * 5)).off + 2, none⟩ = some (.int .i64 u) ∧ w'.cell? ⟨(ad.add (y * 5)).block, (ad.add (y * 5)).off + 2, none⟩ = some (.int .i64 v)) (first | trivial | go_keep) (first
    | (go_at_call 58; refine (Go.Proofs.YtgeejlcnnldogaaH.cmp_int64_any _ _ _).mono ?_; rintro e w1 ⟨rfl, rfl⟩))
  go_wp2
  go_ret
  exact ⟨rfl, by repeat (first | exact Upd.refl _ _ | refine Upd.drewN ?_ _ | refine Upd.drew ?_)⟩
def order_Prios.f (a0_0 : Int) (l0_1 : List (S79)) (l0_2 : List (S75)) : Option (List Int) := if 1 ≤ l0_2.length ∧ l0_2.length < 20 then some (prios (dls l0_2)) else none
theorem infoP : (Try.prog.info? 3).map (fun i => (i.zero, i.size, i.bytes)) = some (some (.int .i64 0), 1, 8) := by kernel_rfl
theorem tIntP : Go.Proofs.YtgeejlcnnldogaaH.ElemT Try.prog 71 3 (.int .i64 0) 1 8 :=
  ⟨Try.underlying71, by
    obtain ⟨i, hi, h⟩ := info_parts (show (Try.prog.info? 3).map (fun i => (i.zero, i.size, i.bytes)) = some (some (.int .i64 0), 1, 8) by kernel_rfl)
    exact ⟨i, hi, h⟩, rfl, by decide⟩
theorem R_of_rowI {wr : World} {g n base : Nat} {f : Nat → Value} {e : Nat} {xs : List Int} (h : wr.rowIs g e n f) (hb : base ≤ g) (hm : n ≤ maxLen) (hl : xs.length = n) (hf : ∀ x, x < n → f x = .int .i64 (xs.getD x 0)) : Kd.R (Kd.int .i64) e wr base (fun _ => True) (.slice (some ⟨g, 0, none⟩) n n) xs := by
  obtain ⟨c, hg, hs, hc⟩ := h
  refine Kd.R_of_own (enc := Value.int .i64) (h1 := fun _ => rfl) ?_ (fun _ _ => trivial)
  refine ⟨by simp [encs], .inr ⟨g, n, c, by rw [hl], hb, hg, by omega, hm, by omega, ?_⟩⟩
  apply List.ext_getElem?
  intro i
  simp only [Nat.mul_one, List.getElem?_take, encs, List.getElem?_map]
  by_cases hi : i < xs.length
  · rw [if_pos hi, Array.getElem?_toList, hc i (by omega), hf i (by omega)]
    simp [List.getD, hi]
  · rw [if_neg hi]
    simp [List.getElem?_eq_none (Nat.not_lt.1 hi)]
set_option maxHeartbeats 8000000 in
set_option maxRecDepth 100000 in
theorem order_Prios.calls (a0_0 : Int) (A0_1 : Option Addr) (c0_1 : Nat) (l0_1 : List (S79)) (A0_2 : Option Addr) (c0_2 : Nat) (l0_2 : List (S75)) (r : List Int) (w : World) (hr0_1 : Kd.C k79 w A0_1 l0_1.length l0_1) (hc0_1 : l0_1.length ≤ c0_1) (hr0_2 : Kd.C k75 w A0_2 l0_2.length l0_2) (hc0_2 : l0_2.length ≤ c0_2) (h : order_Prios.f a0_0 l0_1 l0_2 = some r) :
    Calls Try.prog 40 #[.agg #[.int .i64 a0_0, .slice A0_1 l0_1.length c0_1, .slice A0_2 l0_2.length c0_2]] w fun e w' => ∃ v0_ : Value, e = .returned (v0_) ∧ Kd.R (Kd.int .i64) 3 w' w.heap.size (fun _ => True) v0_ r ∧ Below w.heap.size w w' := by
  unfold order_Prios.f at h
  split at h
  case isFalse => cases h
  case isTrue hn12 =>
  obtain ⟨hn1, hn2⟩ := hn12
  injection h with h
  subst h
  obtain ⟨n, hn⟩ : ∃ n, n = l0_2.length := ⟨_, rfl⟩
  have HN := Lib.hid hn
  have HR := Lib.hid hr0_2
  rw [← hn] at hn1 hn2
  clear hr0_1 hc0_1 hc0_2
  obtain ⟨bx, hbx⟩ : ∃ bx, bx = w.heap.size := ⟨_, rfl⟩
  have HBX := Lib.hid hbx
  obtain ⟨wb, hwb⟩ : ∃ wb, wb = w.alloc (.cells #[.int .i64 a0_0, .slice A0_1 l0_1.length c0_1, .slice A0_2 l0_2.length c0_2] 48) := ⟨_, rfl⟩
  have hbox : wb.heap[bx]? = some (.cells #[.int .i64 a0_0, .slice A0_1 l0_1.length c0_1, .slice A0_2 l0_2.length c0_2] 48 (0, 0)) := by rw [hwb, hbx]; exact heap_alloc_new w _
  have hu0 : Upd [] w wb := by rw [hwb]; exact (Upd.refl _ _).alloc _
  have hwbs : wb.heap.size = bx + 1 := by rw [hwb, hbx]; simp
  rw [← hn] at hbox hwb
  clear hr0_2
  have HWB := Lib.hid hwb
  clear hwb hbx
  rw [← hn]
  clear hn
  go_enter Try.func40, Try.ntmps40
  go_wp2
  rw [← HBX.out, ← HWB.out]
  go_loopw [3, 11] (fun v i wr => ∃ k : Nat, k ≤ n ∧ i = .int .i64 k ∧ Upd [] wb wr ∧ wr.ownsRow (bx + 1) 3 1 v (List.range k).length ((List.range k).map fun j : Nat => Value.int .i64 j)) (fun _ i _ => n - (intOf i).toNat)
  case atStart => exact ⟨0, Nat.zero_le _, rfl, Upd.refl _ _, ⟨by simp, .inl ⟨rfl, rfl⟩⟩⟩
  case round =>
    obtain ⟨k, hk, rfl, hu, hown⟩ := hrel
    have hbox2 := hu.keep hbox (by simp)
    have hsz := hu.size
    by_cases hlt : k < n
    · have hm1 : (List.range k).length + 1 ≤ maxLen := by unfold maxLen; simp; omega
      have hm2 : ((List.range k).length + 1) * 8 ≤ 140737488355328 := by simp; omega
      have hb2 : bx + 1 ≤ wr.heap.size := by omega
      go_wp2_with (first
        | (at_builtin; refine Go.Proofs.YtgeejlcnnldogaaH.wp_push tIntP rfl (.tmp 14) (.tmp 16) rfl hown [.int .i64 k] rfl rfl rfl (by intro u hu; simp at hu; subst hu; rfl) hm1 hm2 hb2 ?_; intro g3 c3 w3 hown3 hu3))
      go_roundw
      case rel =>
        refine ⟨k + 1, by omega, by go_num, ?_, ?_⟩
        · have hu4 := hu.trans hu3 (fun x hx hl => by
            rcases hown.2 with ⟨rfl, _⟩ | ⟨g, cap, cur, rfl, hb, _⟩
            · simp [Value.ownBlock] at hx
            · simp [Value.ownBlock] at hx
              omega)
          exact hu4
        · simpa [List.range_succ] using hown3
      case measure => simp [intOf]; omega
    · obtain rfl : k = n := by omega
      obtain ⟨g, cap, rfl, hg, hcap, hrow⟩ := RowN.of_own hown (by simp; omega)
      simp only [List.length_range] at *
      have hl1 := Go.Proofs.YtgeejlcnnldogaaH.range_inc k
      have hcb : wr.cell? ⟨bx, 2, none⟩ = some (.slice A0_2 k c0_2) := (blk_cell hbox2 2).trans rfl
      have hdl : (dls l0_2).length = k := by rw [HN.out]; simp [dls]
      have hbl := hu0.below
      have htk : Kd.C k75 wr A0_2 l0_2.length l0_2 := Kd.C_below HR.out ((hu0.trans0 hu).below)
      have hsort := Go.Proofs.YtgeejlcnnldogaaH.sortStable_few k (dcmp (dls l0_2)) _ (by have := Go.Proofs.YtgeejlcnnldogaaH.ord_ds (dls l0_2); rw [hdl] at this; exact this) #[.pointer (some ⟨bx, 0, none⟩)] g cap (List.range k) wr hrow (by simp; omega) hl1 (by simp) (by omega) (by simp; omega) (fun x y W hx hy hW => prios_closure x y bx A0_2 l0_2 c0_2 W (by rw [← HN.out]; exact hW.cell hcb (by simp; omega)) (Kd.C_below HR.out ((hu0.trans0 hu).trans hW (fun z hz hl => by simp at hz; have := HBX.out; omega)).below) (by rw [← HN.out]; exact hx) (by rw [← HN.out]; exact hy) (by rw [← HN.out]; omega))
      simp only [List.length_range] at hsort
      have HL1 := Lib.hid hl1
      have HDL := Lib.hid hdl
      have HSORT := Lib.hid hsort
      have HHU0 := Lib.hid hu0
      have HHU := Lib.hid hu
      clear hl1 hdl hbl hsort htk hu0 hu hown hrow
      have hmk := fun (W : World) => run_make_row' (P := Try.prog) 71 3 (.int .i64 0) 8 Try.underlying71 infoP rfl .i64 .i64 k (by omega) (by omega) W
      go_wp2_with fail
      refine HSORT.out.mono ?_
      rintro e w1 ⟨rfl, M', hp, hR, hr, hu1⟩
      have hMl : M'.length = k := by rw [hp.length_eq]; simp
      have HP := Lib.hid hp
      have HRR := Lib.hid hR
      have HML := Lib.hid hMl
      have hsz1 := hu1.size
      have hgl := hr.lt
      obtain ⟨g2, hg2⟩ : ∃ g2, g2 = w1.heap.size := ⟨_, rfl⟩
      have hrow2 := World.rowIs_made w1 (.int .i64 0) k 3
      rw [← hg2] at hrow2
      obtain ⟨w2, hw2⟩ : ∃ w2, w2 = w1.alloc (.cells (madeCells #[.int .i64 0] k) 3) := ⟨_, rfl⟩
      rw [← hw2] at hrow2
      have hu2 : Upd [] w1 w2 := by rw [hw2]; exact (Upd.refl _ _).alloc _
      have hr2 := hr.keep hu2 (by simp)
      have HU1 := Lib.hid hu1
      have HU2 := Lib.hid hu2
      have HG2 := Lib.hid hg2
      have HW2 := Lib.hid hw2
      have hgg : g ≠ g2 := by omega
      clear hp hR hMl hu1 hr hu2 hg2 hw2
      go_wp2
      rw [← HG2.out, ← HW2.out]
      clear HSORT hmk
      go_loopw [27] (fun i wr => ∃ q : Nat, q ≤ k ∧ i = .int .i64 q ∧ Upd [g2] w2 wr ∧ wr.rowIs g2 3 k (fun x => .int .i64 (if x ∈ M'.take q then (k : Int) - (Go.Proofs.YtgeejlcnnldogaaH.ahead (dls l0_2) x : Nat) else 0))) (fun i _ => k - (intOf i).toNat)
      case atStart => exact ⟨0, Nat.zero_le _, rfl, Upd.refl _ _, hrow2.congr (fun x hx => by simp)⟩
      case round =>
        obtain ⟨q, hq, rfl, hu3, hrow3⟩ := hrel
        have hr3 := hr2.keep hu3 (by simp [hgg])
        by_cases hlt : q < k
        · obtain ⟨x, hx⟩ : ∃ x, x = M'.getD q 0 := ⟨_, rfl⟩
          have hc := hr3.cell (i := q) (by rw [HML.out]; exact hlt)
          rw [← hx] at hc
          have hxk : x < k := by
            have := HP.out.mem_iff.1 (by rw [hx]; exact Go.Proofs.YtgeejlcnnldogaaH.getD_mem (by rw [HML.out]; exact hlt) : x ∈ M')
            simpa using this
          have hst := hrow3.cell hxk
          have hfz := hrow3.frozen x
          have hx0 : (0 : Int) ≤ (x : Int) := by omega
          have hx1 : (x : Int) < (k : Int) := by omega
          have HX := Lib.hid hx
          have HROW := Lib.hid hrow3
          clear hx hrow3
          go_wp2
          go_roundw
          case rel =>
            refine ⟨q + 1, by omega, by go_num, ?_, ?_⟩
            · exact hu3.setCell _ _ (by simp)
            · refine (HROW.out.set x (.int .i64 ((k : Int) - q))).congr (fun z hz => ?_)
              have htk := Go.Proofs.YtgeejlcnnldogaaH.take_snoc_getD (M := M') (k := q) (by rw [HML.out]; exact hlt)
              rw [htk, ← HX.out]
              by_cases hzx : z = x
              · subst hzx
                have hpl := Go.Proofs.YtgeejlcnnldogaaH.sorted_place (dls l0_2) M' (by rw [HDL.out]; exact HP.out) HRR.out q (by rw [HML.out]; exact hlt)
                rw [← HX.out] at hpl
                simp [hpl]
              · simp [hzx]
          case measure => simp [intOf]; omega
        · obtain rfl : q = k := by omega
          go_wp2
          go_ret
          refine ⟨_, rfl, ?_, ?_⟩
          · refine R_of_rowI hrow3 (by have := HU2.out.size; have := HG2.out; have := HBX.out; omega) (by unfold maxLen; omega) (by rw [Go.Proofs.YtgeejlcnnldogaaH.prios_len, HDL.out]) (fun x hx => ?_)
            have hm : x ∈ M'.take q := by
              rw [List.take_of_length_le (by rw [HML.out]; omega)]
              exact HP.out.mem_iff.2 (by simpa using hx)
            rw [if_pos hm, Go.Proofs.YtgeejlcnnldogaaH.prios_get _ _ (by rw [HDL.out]; exact hx), HDL.out]
          · have h1 : Upd [] w wr := ((((HHU0.out.trans0 HHU.out).trans HU1.out (fun z hz hl => by simp at hz; have := HBX.out; omega)).trans0 HU2.out)).trans hu3 (fun z hz hl => by simp at hz; have := HG2.out; have := HBX.out; have := HU1.out.size; omega)
            exact h1.below


/-! ### cmp_isNaN_int: function 65 -/
def cmp_isNaN_int.f (a0 : Int) : Option (Bool) := some (a0 != a0)
set_option maxHeartbeats 8000000 in
set_option maxRecDepth 100000 in
theorem cmp_isNaN_int.calls (a0 : Int) (r : Bool) (w : World) (h : cmp_isNaN_int.f a0 = some r) :
    Calls Try.prog 65 #[.int .i64 a0] w fun e w' => e = .returned (.bool r) ∧ Drawn0 w w' := by
  have H : (some (a0 != a0)) = some r := h
  clear h
  obtain rfl := Option.some.inj H
  go_enter Try.func65, Try.ntmps65
  go_wp2
  go_ret
  exact ⟨by first | rfl | (simp; done) | (simp [*]; done) | (simp [Int.tdiv_eq_ediv_of_nonneg]; done), by repeat (first | exact Drawn0.refl _ | apply Drawn0.step)⟩

/-! ### cmp_Compare_int: function 53 -/
def cmp_Compare_int.f (a0 : Int) (a1 : Int) : Option (Int) := (cmp_isNaN_int.f a0).bind fun t115 => ((cmp_isNaN_int.f a1).bind fun t116 => (if t115 = true then (if t116 = true then (some 0) else (some (-1))) else (if t116 = true then (some 1) else (if a0 < a1 then (some (-1)) else (if a0 > a1 then (some 1) else (some 0))))))
set_option maxHeartbeats 8000000 in
set_option maxRecDepth 100000 in
theorem cmp_Compare_int.calls (a0 : Int) (a1 : Int) (r : Int) (w : World) (h : cmp_Compare_int.f a0 a1 = some r) :
    Calls Try.prog 53 #[.int .i64 a0, .int .i64 a1] w fun e w' => e = .returned (.int .i64 r) ∧ Drawn0 w w' := by
  have H : ((cmp_isNaN_int.f a0).bind fun t115 => ((cmp_isNaN_int.f a1).bind fun t116 => (if t115 = true then (if t116 = true then (some 0) else (some (-1))) else (if t116 = true then (some 1) else (if a0 < a1 then (some (-1)) else (if a0 > a1 then (some 1) else (some 0))))))) = some r := h
  clear h
  replace H := Option.bind_eq_some_iff.mp H
  obtain ⟨t115, A30, H⟩ := H
  replace H : ((cmp_isNaN_int.f a1).bind fun t116 => (if t115 = true then (if t116 = true then (some 0) else (some (-1))) else (if t116 = true then (some 1) else (if a0 < a1 then (some (-1)) else (if a0 > a1 then (some 1) else (some 0)))))) = some r := H
  have A3 := Aside0.mk A30
  clear A30
  replace H := Option.bind_eq_some_iff.mp H
  obtain ⟨t116, A40, H⟩ := H
  replace H : (if t115 = true then (if t116 = true then (some 0) else (some (-1))) else (if t116 = true then (some 1) else (if a0 < a1 then (some (-1)) else (if a0 > a1 then (some 1) else (some 0))))) = some r := H
  have A4 := Aside0.mk A40
  clear A40
  by_cases c5 : t115 = true
  · subst c5
    have H1 : (if t116 = true then (some 0) else (some (-1))) = some r := by rw [if_pos rfl] at H; exact H
    clear H
    have H := H1
    clear H1
    by_cases c6 : t116 = true
    · subst c6
      have H1 : (some 0) = some r := by rw [if_pos rfl] at H; exact H
      clear H
      have H := H1
      clear H1
      obtain rfl := Option.some.inj H
      go_enter Try.func53, Try.ntmps53
      go_wp2_with (first | ((with_reducible refine gate_callee (f := 65) rfl ?_); refine goesL_ (some 8) rfl rfl Try.func65 (by kernel_rfl) rfl #[.int .i64 a0] rfl (by (try simp only [List.map_toArray, List.map_cons, List.map_nil]); first | done | rfl | (simp only [List.length_drop, List.length_take]; rfl)) ?_; (with_reducible refine (cmp_isNaN_int.calls a0 true _ A3.out).mono ?_); rintro e w' ⟨rfl, ⟨nd, rfl⟩⟩; refine ⟨_, rfl, ?_⟩) | ((with_reducible refine gate_callee (f := 65) rfl ?_); refine goesL_ (some 10) rfl rfl Try.func65 (by kernel_rfl) rfl #[.int .i64 a1] rfl (by (try simp only [List.map_toArray, List.map_cons, List.map_nil]); first | done | rfl | (simp only [List.length_drop, List.length_take]; rfl)) ?_; (with_reducible refine (cmp_isNaN_int.calls a1 true _ A4.out).mono ?_); rintro e w' ⟨rfl, ⟨nd, rfl⟩⟩; refine ⟨_, rfl, ?_⟩))
      go_ret
      exact ⟨by first | rfl | (simp; done) | (simp [*]; done) | (simp [Int.tdiv_eq_ediv_of_nonneg]; done), by repeat (first | exact Drawn0.refl _ | apply Drawn0.step)⟩
    · replace c6 := Bool.eq_false_iff.mpr c6
      subst c6
      have H1 : (some (-1)) = some r := by rw [if_neg (show ¬ (false = true) by decide)] at H; exact H
      clear H
      have H := H1
      clear H1
      obtain rfl := Option.some.inj H
      go_enter Try.func53, Try.ntmps53
      go_wp2_with (first | ((with_reducible refine gate_callee (f := 65) rfl ?_); refine goesL_ (some 8) rfl rfl Try.func65 (by kernel_rfl) rfl #[.int .i64 a0] rfl (by (try simp only [List.map_toArray, List.map_cons, List.map_nil]); first | done | rfl | (simp only [List.length_drop, List.length_take]; rfl)) ?_; (with_reducible refine (cmp_isNaN_int.calls a0 true _ A3.out).mono ?_); rintro e w' ⟨rfl, ⟨nd, rfl⟩⟩; refine ⟨_, rfl, ?_⟩) | ((with_reducible refine gate_callee (f := 65) rfl ?_); refine goesL_ (some 10) rfl rfl Try.func65 (by kernel_rfl) rfl #[.int .i64 a1] rfl (by (try simp only [List.map_toArray, List.map_cons, List.map_nil]); first | done | rfl | (simp only [List.length_drop, List.length_take]; rfl)) ?_; (with_reducible refine (cmp_isNaN_int.calls a1 false _ A4.out).mono ?_); rintro e w' ⟨rfl, ⟨nd, rfl⟩⟩; refine ⟨_, rfl, ?_⟩))
      go_ret
      exact ⟨by first | rfl | (simp; done) | (simp [*]; done) | (simp [Int.tdiv_eq_ediv_of_nonneg]; done), by repeat (first | exact Drawn0.refl _ | apply Drawn0.step)⟩
  · replace c5 := Bool.eq_false_iff.mpr c5
    subst c5
    have H1 : (if t116 = true then (some 1) else (if a0 < a1 then (some (-1)) else (if a0 > a1 then (some 1) else (some 0)))) = some r := by rw [if_neg (show ¬ (false = true) by decide)] at H; exact H
    clear H
    have H := H1
    clear H1
    by_cases c7 : t116 = true
    · subst c7
      have H1 : (some 1) = some r := by rw [if_pos rfl] at H; exact H
      clear H
      have H := H1
      clear H1
      obtain rfl := Option.some.inj H
      go_enter Try.func53, Try.ntmps53
      go_wp2_with (first | ((with_reducible refine gate_callee (f := 65) rfl ?_); refine goesL_ (some 8) rfl rfl Try.func65 (by kernel_rfl) rfl #[.int .i64 a0] rfl (by (try simp only [List.map_toArray, List.map_cons, List.map_nil]); first | done | rfl | (simp only [List.length_drop, List.length_take]; rfl)) ?_; (with_reducible refine (cmp_isNaN_int.calls a0 false _ A3.out).mono ?_); rintro e w' ⟨rfl, ⟨nd, rfl⟩⟩; refine ⟨_, rfl, ?_⟩) | ((with_reducible refine gate_callee (f := 65) rfl ?_); refine goesL_ (some 10) rfl rfl Try.func65 (by kernel_rfl) rfl #[.int .i64 a1] rfl (by (try simp only [List.map_toArray, List.map_cons, List.map_nil]); first | done | rfl | (simp only [List.length_drop, List.length_take]; rfl)) ?_; (with_reducible refine (cmp_isNaN_int.calls a1 true _ A4.out).mono ?_); rintro e w' ⟨rfl, ⟨nd, rfl⟩⟩; refine ⟨_, rfl, ?_⟩))
      go_ret
      exact ⟨by first | rfl | (simp; done) | (simp [*]; done) | (simp [Int.tdiv_eq_ediv_of_nonneg]; done), by repeat (first | exact Drawn0.refl _ | apply Drawn0.step)⟩
    · replace c7 := Bool.eq_false_iff.mpr c7
      subst c7
      have H1 : (if a0 < a1 then (some (-1)) else (if a0 > a1 then (some 1) else (some 0))) = some r := by rw [if_neg (show ¬ (false = true) by decide)] at H; exact H
      clear H
      have H := H1
      clear H1
      by_cases c8 : a0 < a1
      · rw [if_pos c8] at H
        have c8b0 : decide (a0 < a1) = true := decide_eq_true c8
        clear c8
        obtain rfl := Option.some.inj H
        go_enter Try.func53, Try.ntmps53
        go_wp2_with (first | ((with_reducible refine gate_callee (f := 65) rfl ?_); refine goesL_ (some 8) rfl rfl Try.func65 (by kernel_rfl) rfl #[.int .i64 a0] rfl (by (try simp only [List.map_toArray, List.map_cons, List.map_nil]); first | done | rfl | (simp only [List.length_drop, List.length_take]; rfl)) ?_; (with_reducible refine (cmp_isNaN_int.calls a0 false _ A3.out).mono ?_); rintro e w' ⟨rfl, ⟨nd, rfl⟩⟩; refine ⟨_, rfl, ?_⟩) | ((with_reducible refine gate_callee (f := 65) rfl ?_); refine goesL_ (some 10) rfl rfl Try.func65 (by kernel_rfl) rfl #[.int .i64 a1] rfl (by (try simp only [List.map_toArray, List.map_cons, List.map_nil]); first | done | rfl | (simp only [List.length_drop, List.length_take]; rfl)) ?_; (with_reducible refine (cmp_isNaN_int.calls a1 false _ A4.out).mono ?_); rintro e w' ⟨rfl, ⟨nd, rfl⟩⟩; refine ⟨_, rfl, ?_⟩))
        go_ret
        exact ⟨by first | rfl | (simp; done) | (simp [*]; done) | (simp [Int.tdiv_eq_ediv_of_nonneg]; done), by repeat (first | exact Drawn0.refl _ | apply Drawn0.step)⟩
      · rw [if_neg c8] at H
        have c8b0 : decide (a0 < a1) = false := decide_eq_false c8
        clear c8
        by_cases c9 : a0 > a1
        · rw [if_pos c9] at H
          have c9b0 : decide (a1 < a0) = true := decide_eq_true c9
          clear c9
          obtain rfl := Option.some.inj H
          go_enter Try.func53, Try.ntmps53
          go_wp2_with (first | ((with_reducible refine gate_callee (f := 65) rfl ?_); refine goesL_ (some 8) rfl rfl Try.func65 (by kernel_rfl) rfl #[.int .i64 a0] rfl (by (try simp only [List.map_toArray, List.map_cons, List.map_nil]); first | done | rfl | (simp only [List.length_drop, List.length_take]; rfl)) ?_; (with_reducible refine (cmp_isNaN_int.calls a0 false _ A3.out).mono ?_); rintro e w' ⟨rfl, ⟨nd, rfl⟩⟩; refine ⟨_, rfl, ?_⟩) | ((with_reducible refine gate_callee (f := 65) rfl ?_); refine goesL_ (some 10) rfl rfl Try.func65 (by kernel_rfl) rfl #[.int .i64 a1] rfl (by (try simp only [List.map_toArray, List.map_cons, List.map_nil]); first | done | rfl | (simp only [List.length_drop, List.length_take]; rfl)) ?_; (with_reducible refine (cmp_isNaN_int.calls a1 false _ A4.out).mono ?_); rintro e w' ⟨rfl, ⟨nd, rfl⟩⟩; refine ⟨_, rfl, ?_⟩))
          go_ret
          exact ⟨by first | rfl | (simp; done) | (simp [*]; done) | (simp [Int.tdiv_eq_ediv_of_nonneg]; done), by repeat (first | exact Drawn0.refl _ | apply Drawn0.step)⟩
        · rw [if_neg c9] at H
          have c9b0 : decide (a1 < a0) = false := decide_eq_false c9
          clear c9
          obtain rfl := Option.some.inj H
          go_enter Try.func53, Try.ntmps53
          go_wp2_with (first | ((with_reducible refine gate_callee (f := 65) rfl ?_); refine goesL_ (some 8) rfl rfl Try.func65 (by kernel_rfl) rfl #[.int .i64 a0] rfl (by (try simp only [List.map_toArray, List.map_cons, List.map_nil]); first | done | rfl | (simp only [List.length_drop, List.length_take]; rfl)) ?_; (with_reducible refine (cmp_isNaN_int.calls a0 false _ A3.out).mono ?_); rintro e w' ⟨rfl, ⟨nd, rfl⟩⟩; refine ⟨_, rfl, ?_⟩) | ((with_reducible refine gate_callee (f := 65) rfl ?_); refine goesL_ (some 10) rfl rfl Try.func65 (by kernel_rfl) rfl #[.int .i64 a1] rfl (by (try simp only [List.map_toArray, List.map_cons, List.map_nil]); first | done | rfl | (simp only [List.length_drop, List.length_take]; rfl)) ?_; (with_reducible refine (cmp_isNaN_int.calls a1 false _ A4.out).mono ?_); rintro e w' ⟨rfl, ⟨nd, rfl⟩⟩; refine ⟨_, rfl, ?_⟩))
          go_ret
          exact ⟨by first | rfl | (simp; done) | (simp [*]; done) | (simp [Int.tdiv_eq_ediv_of_nonneg]; done), by repeat (first | exact Drawn0.refl _ | apply Drawn0.step)⟩

/-! ### order_which: function 38 -/
mutual
def order_which.j0 : Nat → Int → Int → List Int → Bool → Option (List Int)
  | 0, _, _, _, _ => none
  | k + 1, x1, x2, x7, x19 => if x19 = true then (some ([] : List Int)) else (order_which.l0 k x1 x2 x7 ([] : List Int) (x7.length : Int) 0)
def order_which.l0 : Nat → Int → Int → List Int → List Int → Int → Int → Option (List Int)
  | 0, _, _, _, _, _, _ => none
  | k + 1, x1, x2, x7, x8, x21, x22 => if x22 < x21 then (if 0 ≤ x22 then (if x22 < (x7.length : Int) then (if 0 ≤ x1 then (if x1 < (x7.length : Int) then ((cmp_Compare_int.f (rd x7 x22) (rd x7 x1)).bind fun t123 => (if t123 = x2 then (if x8.length < 17592186044416 then (order_which.l0 k x1 x2 x7 (x8 ++ [x22]) x21 (wrap64 (x22 + 1))) else (none)) else (order_which.l0 k x1 x2 x7 x8 x21 (wrap64 (x22 + 1))))) else (none)) else (none)) else (none)) else (none)) else (some x8)
end
def order_which.f (k : Nat) (a0_0 : Int) (l0_1 : List (S79)) (l0_2 : List (S75)) (a1 : Int) (a2 : Int) : Option (List Int) := (order_Prios.f a0_0 l0_1 l0_2).bind fun t118 => (if a1 < 0 then (order_which.j0 k a1 a2 t118 true) else (order_which.j0 k a1 a2 t118 (decide (a1 ≥ (t118.length : Int)))))
theorem order_which.mono_l : ∀ k, (∀ y0 y1 y2 y3, LeO (order_which.j0 k y0 y1 y2 y3) (order_which.j0 (k + 1) y0 y1 y2 y3)) ∧ (∀ y0 y1 y2 y3 y4 y5, LeO (order_which.l0 k y0 y1 y2 y3 y4 y5) (order_which.l0 (k + 1) y0 y1 y2 y3 y4 y5))
  | 0 => ⟨fun _ _ _ _ r h => by simp [order_which.j0] at h, fun _ _ _ _ _ _ r h => by simp [order_which.l0] at h⟩
  | k + 1 => by
    obtain ⟨ih0, ih1⟩ := order_which.mono_l k
    refine ⟨?_, ?_⟩
    · intro y0 y1 y2 y3
      unfold order_which.j0
      repeat' first
      | (with_reducible exact ih0 _ _ _ _)
      | (with_reducible exact ih1 _ _ _ _ _ _)
      | (with_reducible exact LeO.refl _)
      | (with_reducible exact LeO.none _)
      | (with_reducible refine LeO.ite ?_ ?_)
      | (with_reducible refine LeO.bind ?_ (fun _ => ?_))
      | exact ih0 _ _ _ _
      | exact ih1 _ _ _ _ _ _
      | exact LeO.none _
      | refine LeO.ite ?_ ?_
      | refine LeO.bind ?_ (fun _ => ?_)
    · intro y0 y1 y2 y3 y4 y5
      unfold order_which.l0
      repeat' first
      | (with_reducible exact ih0 _ _ _ _)
      | (with_reducible exact ih1 _ _ _ _ _ _)
      | (with_reducible exact LeO.refl _)
      | (with_reducible exact LeO.none _)
      | (with_reducible refine LeO.ite ?_ ?_)
      | (with_reducible refine LeO.bind ?_ (fun _ => ?_))
      | exact ih0 _ _ _ _
      | exact ih1 _ _ _ _ _ _
      | exact LeO.none _
      | refine LeO.ite ?_ ?_
      | refine LeO.bind ?_ (fun _ => ?_)
theorem order_which.mono : ∀ a0 a1 a2 a3 a4 k, LeO (order_which.f k a0 a1 a2 a3 a4) (order_which.f (k + 1) a0 a1 a2 a3 a4) := by
  intro a0 a1 a2 a3 a4 k
  obtain ⟨ih0, ih1⟩ := order_which.mono_l k
  unfold order_which.f
  repeat' first
      | (with_reducible exact ih0 _ _ _ _)
      | (with_reducible exact ih1 _ _ _ _ _ _)
      | (with_reducible exact LeO.refl _)
      | (with_reducible exact LeO.none _)
      | (with_reducible refine LeO.ite ?_ ?_)
      | (with_reducible refine LeO.bind ?_ (fun _ => ?_))
      | exact ih0 _ _ _ _
      | exact ih1 _ _ _ _ _ _
      | exact LeO.none _
      | refine LeO.ite ?_ ?_
      | refine LeO.bind ?_ (fun _ => ?_)
set_option maxHeartbeats 8000000 in
set_option maxRecDepth 100000 in
theorem order_which.calls (k : Nat) (a0_0 : Int) (A0_1 : Option Addr) (c0_1 : Nat) (l0_1 : List (S79)) (A0_2 : Option Addr) (c0_2 : Nat) (l0_2 : List (S75)) (a1 : Int) (a2 : Int) (r : List Int) (w : World) (hr0_1 : Kd.C k79 w A0_1 l0_1.length l0_1) (hc0_1 : l0_1.length ≤ c0_1) (hr0_2 : Kd.C k75 w A0_2 l0_2.length l0_2) (hc0_2 : l0_2.length ≤ c0_2) (h : order_which.f k a0_0 l0_1 l0_2 a1 a2 = some r) :
    Calls Try.prog 38 #[.agg #[.int .i64 a0_0, .slice A0_1 l0_1.length c0_1, .slice A0_2 l0_2.length c0_2], .int .i64 a1, .int .i64 a2] w fun e w' => ∃ v0_ : Value, e = .returned (v0_) ∧ Kd.R (Kd.int .i64) 3 w' w.heap.size (fun _ => True) v0_ r ∧ Below w.heap.size w w' := by
  have hu48 := Try.underlying48
  have HR0_1 := Aside0.mk hr0_1
  have HC0_1 := Aside0.mk hc0_1
  clear hr0_1 hc0_1
  have HR0_2 := Aside0.mk hr0_2
  have HC0_2 := Aside0.mk hc0_2
  clear hr0_2 hc0_2
  have HB := Aside0.mk (Below.refl w.heap.size w)
  have H : ((order_Prios.f a0_0 l0_1 l0_2).bind fun t118 => (if a1 < 0 then (order_which.j0 k a1 a2 t118 true) else (order_which.j0 k a1 a2 t118 (decide (a1 ≥ (t118.length : Int)))))) = some r := h
  clear h
  replace H := Option.bind_eq_some_iff.mp H
  obtain ⟨t118, A40, H⟩ := H
  replace H : (if a1 < 0 then (order_which.j0 k a1 a2 t118 true) else (order_which.j0 k a1 a2 t118 (decide (a1 ≥ (t118.length : Int))))) = some r := H
  have A4 := Aside0.mk A40
  clear A40
  have HC5 := Aside0.mk H
  clear H
  go_enter Try.func38, Try.ntmps38
  (try go_step3)
  iterate 2 ((try go_step3); (try (go_upto_region 2 with (first | ((with_reducible refine gate_dst (N := 3) rfl ?_); refine box_event ?hg (N := 3) ?hd (cs := #[.int .i64 a0_0, .slice A0_1 l0_1.length c0_1, .slice A0_2 l0_2.length c0_2]) (t := 48) ?hr ?_; (case hd => rfl); (case hg => rfl); (case hr => first | (go_simp; done) | (go_simp; rfl)); intro gb117 hg w6 hbox hb; have n0_ := Aside0.mk (below_step (by repeat (first | (with_reducible first | exact HB.out | apply below_alloc | apply pw_below_drewN | apply below_drew1) | exact HB.out)) hb); have n1_ := Aside0.mk (hbox); have n2_ := Aside0.mk ((by rw [hg]; exact (below_size (by repeat (first | (with_reducible first | exact HB.out | apply below_alloc | apply pw_below_drewN | apply below_drew1) | exact HB.out))) : w.heap.size ≤ gb117)); have n3_ := Aside0.mk ((by rw [hg]; exact (below_size (by repeat (first | (with_reducible first | exact HB.out | apply below_alloc | apply pw_below_drewN | apply below_drew1) | exact HB.out))) : w.heap.size ≤ gb117)); clear HB; have HB := n0_; have BK117 := n1_; have GW117 := n2_; have GE117 := n3_; clear n0_ n1_ n2_ n3_; clear hb hbox hg; have hcz7_0 : w6.cell? ⟨gb117, 0, none⟩ = some (.int .i64 a0_0) := (blk_cell BK117.out 0).trans rfl; have hcz7_1 : w6.cell? ⟨gb117, 1, none⟩ = some (.slice A0_1 l0_1.length c0_1) := (blk_cell BK117.out 1).trans rfl; have hcz7_2 : w6.cell? ⟨gb117, 2, none⟩ = some (.slice A0_2 l0_2.length c0_2) := (blk_cell BK117.out 2).trans rfl; have hfz7_0 := blk_frozen BK117.out 0; have hfz7_1 := blk_frozen BK117.out 1; have hfz7_2 := blk_frozen BK117.out 2) | (go_at_call 40; (with_reducible refine (order_Prios.calls a0_0 _ _ l0_1 _ _ l0_2 t118 _ ?side1 ?side2 ?side3 ?side4 A4.out).mono ?_); (case side1 => repeat (first | exact (Kd.C_below HR0_1.out HB.out) | (with_reducible refine Kd.C_alloc ?_ _) | (with_reducible refine Kd.C_drewN ?_ _) | (with_reducible refine Kd.C_drew ?_))); (case side2 => exact HC0_1.out); (case side3 => repeat (first | exact (Kd.C_below HR0_2.out HB.out) | (with_reducible refine Kd.C_alloc ?_ _) | (with_reducible refine Kd.C_drewN ?_ _) | (with_reducible refine Kd.C_drew ?_))); (case side4 => exact HC0_2.out); rintro e w8 ⟨v119, rfl, ho0, hb⟩; have n0_ := Aside0.mk (Kd.R_lower ho0 (below_size (by repeat (first | (with_reducible first | exact HB.out | apply below_alloc | apply pw_below_drewN | apply below_drew1 | refine below_set ?_ GE117.out) | exact HB.out)))); have n1_ := Aside0.mk (blk_below (g := gb117) (o := .cells #[.int .i64 a0_0, .slice A0_1 l0_1.length c0_1, .slice A0_2 l0_2.length c0_2] 48 (0, 0)) (by (with_reducible repeat (first | refine blk_drewN ?_ _ | refine blk_drew ?_ | refine blk_alloc ?_ _)); exact BK117.out) hb); have n2_ := Aside0.mk (below_step (by repeat (first | (with_reducible first | exact HB.out | apply below_alloc | apply pw_below_drewN | apply below_drew1 | refine below_set ?_ GE117.out) | exact HB.out)) hb); clear BK117; clear HB; have HO120 := n0_; have BK117 := n1_; have HB := n2_; clear n0_ n1_ n2_; (try clear hb); (try clear hb2); (try clear hk); (try clear hi); (try clear ho0))))))
  repeat (go_quiet (first | ((with_reducible refine gate_dst (N := 3) rfl ?_); refine box_event ?hg (N := 3) ?hd (cs := #[.int .i64 a0_0, .slice A0_1 l0_1.length c0_1, .slice A0_2 l0_2.length c0_2]) (t := 48) ?hr ?_; (case hd => rfl); (case hg => rfl); (case hr => first | (go_simp; done) | (go_simp; rfl)); intro gb117 hg w6 hbox hb; have n0_ := Aside0.mk (below_step (by repeat (first | (with_reducible first | exact HB.out | apply below_alloc | apply pw_below_drewN | apply below_drew1) | exact HB.out)) hb); have n1_ := Aside0.mk (hbox); have n2_ := Aside0.mk ((by rw [hg]; exact (below_size (by repeat (first | (with_reducible first | exact HB.out | apply below_alloc | apply pw_below_drewN | apply below_drew1) | exact HB.out))) : w.heap.size ≤ gb117)); have n3_ := Aside0.mk ((by rw [hg]; exact (below_size (by repeat (first | (with_reducible first | exact HB.out | apply below_alloc | apply pw_below_drewN | apply below_drew1) | exact HB.out))) : w.heap.size ≤ gb117)); clear HB; have HB := n0_; have BK117 := n1_; have GW117 := n2_; have GE117 := n3_; clear n0_ n1_ n2_ n3_; clear hb hbox hg; have hcz7_0 : w6.cell? ⟨gb117, 0, none⟩ = some (.int .i64 a0_0) := (blk_cell BK117.out 0).trans rfl; have hcz7_1 : w6.cell? ⟨gb117, 1, none⟩ = some (.slice A0_1 l0_1.length c0_1) := (blk_cell BK117.out 1).trans rfl; have hcz7_2 : w6.cell? ⟨gb117, 2, none⟩ = some (.slice A0_2 l0_2.length c0_2) := (blk_cell BK117.out 2).trans rfl; have hfz7_0 := blk_frozen BK117.out 0; have hfz7_1 := blk_frozen BK117.out 1; have hfz7_2 := blk_frozen BK117.out 2) | (go_at_call 40; (with_reducible refine (order_Prios.calls a0_0 _ _ l0_1 _ _ l0_2 t118 _ ?side1 ?side2 ?side3 ?side4 A4.out).mono ?_); (case side1 => repeat (first | exact (Kd.C_below HR0_1.out HB.out) | (with_reducible refine Kd.C_alloc ?_ _) | (with_reducible refine Kd.C_drewN ?_ _) | (with_reducible refine Kd.C_drew ?_))); (case side2 => exact HC0_1.out); (case side3 => repeat (first | exact (Kd.C_below HR0_2.out HB.out) | (with_reducible refine Kd.C_alloc ?_ _) | (with_reducible refine Kd.C_drewN ?_ _) | (with_reducible refine Kd.C_drew ?_))); (case side4 => exact HC0_2.out); rintro e w8 ⟨v119, rfl, ho0, hb⟩; have n0_ := Aside0.mk (Kd.R_lower ho0 (below_size (by repeat (first | (with_reducible first | exact HB.out | apply below_alloc | apply pw_below_drewN | apply below_drew1 | refine below_set ?_ GE117.out) | exact HB.out)))); have n1_ := Aside0.mk (blk_below (g := gb117) (o := .cells #[.int .i64 a0_0, .slice A0_1 l0_1.length c0_1, .slice A0_2 l0_2.length c0_2] 48 (0, 0)) (by (with_reducible repeat (first | refine blk_drewN ?_ _ | refine blk_drew ?_ | refine blk_alloc ?_ _)); exact BK117.out) hb); have n2_ := Aside0.mk (below_step (by repeat (first | (with_reducible first | exact HB.out | apply below_alloc | apply pw_below_drewN | apply below_drew1 | refine below_set ?_ GE117.out) | exact HB.out)) hb); clear BK117; clear HB; have HO120 := n0_; have BK117 := n1_; have HB := n2_; clear n0_ n1_ n2_; (try clear hb); (try clear hb2); (try clear hk); (try clear hi); (try clear ho0))); go_upto_region 2 with (first | ((with_reducible refine gate_dst (N := 3) rfl ?_); refine box_event ?hg (N := 3) ?hd (cs := #[.int .i64 a0_0, .slice A0_1 l0_1.length c0_1, .slice A0_2 l0_2.length c0_2]) (t := 48) ?hr ?_; (case hd => rfl); (case hg => rfl); (case hr => first | (go_simp; done) | (go_simp; rfl)); intro gb117 hg w6 hbox hb; have n0_ := Aside0.mk (below_step (by repeat (first | (with_reducible first | exact HB.out | apply below_alloc | apply pw_below_drewN | apply below_drew1) | exact HB.out)) hb); have n1_ := Aside0.mk (hbox); have n2_ := Aside0.mk ((by rw [hg]; exact (below_size (by repeat (first | (with_reducible first | exact HB.out | apply below_alloc | apply pw_below_drewN | apply below_drew1) | exact HB.out))) : w.heap.size ≤ gb117)); have n3_ := Aside0.mk ((by rw [hg]; exact (below_size (by repeat (first | (with_reducible first | exact HB.out | apply below_alloc | apply pw_below_drewN | apply below_drew1) | exact HB.out))) : w.heap.size ≤ gb117)); clear HB; have HB := n0_; have BK117 := n1_; have GW117 := n2_; have GE117 := n3_; clear n0_ n1_ n2_ n3_; clear hb hbox hg; have hcz7_0 : w6.cell? ⟨gb117, 0, none⟩ = some (.int .i64 a0_0) := (blk_cell BK117.out 0).trans rfl; have hcz7_1 : w6.cell? ⟨gb117, 1, none⟩ = some (.slice A0_1 l0_1.length c0_1) := (blk_cell BK117.out 1).trans rfl; have hcz7_2 : w6.cell? ⟨gb117, 2, none⟩ = some (.slice A0_2 l0_2.length c0_2) := (blk_cell BK117.out 2).trans rfl; have hfz7_0 := blk_frozen BK117.out 0; have hfz7_1 := blk_frozen BK117.out 1; have hfz7_2 := blk_frozen BK117.out 2) | (go_at_call 40; (with_reducible refine (order_Prios.calls a0_0 _ _ l0_1 _ _ l0_2 t118 _ ?side1 ?side2 ?side3 ?side4 A4.out).mono ?_); (case side1 => repeat (first | exact (Kd.C_below HR0_1.out HB.out) | (with_reducible refine Kd.C_alloc ?_ _) | (with_reducible refine Kd.C_drewN ?_ _) | (with_reducible refine Kd.C_drew ?_))); (case side2 => exact HC0_1.out); (case side3 => repeat (first | exact (Kd.C_below HR0_2.out HB.out) | (with_reducible refine Kd.C_alloc ?_ _) | (with_reducible refine Kd.C_drewN ?_ _) | (with_reducible refine Kd.C_drew ?_))); (case side4 => exact HC0_2.out); rintro e w8 ⟨v119, rfl, ho0, hb⟩; have n0_ := Aside0.mk (Kd.R_lower ho0 (below_size (by repeat (first | (with_reducible first | exact HB.out | apply below_alloc | apply pw_below_drewN | apply below_drew1 | refine below_set ?_ GE117.out) | exact HB.out)))); have n1_ := Aside0.mk (blk_below (g := gb117) (o := .cells #[.int .i64 a0_0, .slice A0_1 l0_1.length c0_1, .slice A0_2 l0_2.length c0_2] 48 (0, 0)) (by (with_reducible repeat (first | refine blk_drewN ?_ _ | refine blk_drew ?_ | refine blk_alloc ?_ _)); exact BK117.out) hb); have n2_ := Aside0.mk (below_step (by repeat (first | (with_reducible first | exact HB.out | apply below_alloc | apply pw_below_drewN | apply below_drew1 | refine below_set ?_ GE117.out) | exact HB.out)) hb); clear BK117; clear HB; have HO120 := n0_; have BK117 := n1_; have HB := n2_; clear n0_ n1_ n2_; (try clear hb); (try clear hb2); (try clear hk); (try clear hi); (try clear ho0))))
  (try simp only [Act.put, List.setIfInBounds_toArray, List.set_cons_zero, List.set_cons_succ])
  go_cut [19] (fun v19 wc => ∃ (kq : Nat) (x19_4 : Bool), v19 = .bool x19_4 ∧ Aside0 (order_which.j0 kq a1 a2 t118 x19_4 = some r) ∧ Aside0 (kq ≤ k) ∧ Aside0 (Kd.R (Kd.int .i64) 3 wc w.heap.size (fun _ => True) v119 t118) ∧ Aside0 (wc.heap[gb117]? = some (.cells #[.int .i64 a0_0, (.slice A0_1 l0_1.length c0_1), (.slice A0_2 l0_2.length c0_2)] 48 (0, 0))) ∧ Aside0 (Below w.heap.size w wc))
  case first =>
    have H := HC5.out
    clear HC5
    by_cases c9 : a1 < 0
    · rw [if_pos c9] at H
      have c9b0 : decide (a1 < 0) = true := decide_eq_true c9
      clear c9
      (first | rw [c9b0] | (simp only [i64_w, i32_w]; rw [c9b0]) | skip)
      have H' := Aside0.mk H
      clear H
      iterate 3 ((try go_wp2); (repeat (go_quiet (fail); try go_wp2)); (try (first | go_step3 | rw [Exit.noGoto_normal] | rw [Exit.noGoto_exit])))
      (try go_wp2)
      go_meet
      case rel => exact ⟨_, (true), (by first | rfl | (simp; done) | (simp [*]; done) | (simp [Int.tdiv_eq_ediv_of_nonneg]; done)), H', ⟨by first | omega | exact Nat.le_refl _⟩, ⟨by (with_reducible repeat (first | apply Kd.R_alloc | apply Kd.R_drewN | apply Kd.R_drew)); exact HO120.out⟩, ⟨by (with_reducible repeat (first | refine blk_drewN ?_ _ | refine blk_drew ?_ | refine blk_alloc ?_ _)); exact BK117.out⟩, ⟨by repeat (first | (with_reducible first | exact HB.out | apply below_alloc | apply pw_below_drewN | apply below_drew1 | refine below_set ?_ GE117.out) | exact HB.out)⟩⟩
    · rw [if_neg c9] at H
      have c9b0 : decide (a1 < 0) = false := decide_eq_false c9
      clear c9
      (first | rw [c9b0] | (simp only [i64_w, i32_w]; rw [c9b0]) | skip)
      have H' := Aside0.mk H
      clear H
      obtain ⟨Ao10, co10, eo10⟩ := Kd.R_slice HO120.out
      subst eo10
      iterate 3 ((try go_wp2); (repeat (go_quiet (fail); try go_wp2)); (try (first | go_step3 | rw [Exit.noGoto_normal] | rw [Exit.noGoto_exit])))
      (try go_wp2)
      go_meet
      case rel => exact ⟨_, (decide (a1 ≥ (t118.length : Int))), (by first | rfl | (simp; done) | (simp [*]; done) | (simp [Int.tdiv_eq_ediv_of_nonneg]; done)), H', ⟨by first | omega | exact Nat.le_refl _⟩, ⟨by (with_reducible repeat (first | apply Kd.R_alloc | apply Kd.R_drewN | apply Kd.R_drew)); exact HO120.out⟩, ⟨by (with_reducible repeat (first | refine blk_drewN ?_ _ | refine blk_drew ?_ | refine blk_alloc ?_ _)); exact BK117.out⟩, ⟨by repeat (first | (with_reducible first | exact HB.out | apply below_alloc | apply pw_below_drewN | apply below_drew1 | refine below_set ?_ GE117.out) | exact HB.out)⟩⟩
  case rest =>
    clear HC5
    try clear p2
    try clear c3
    try clear p3
    try clear c9
    try clear c9b0
    try clear hcz7_0
    try clear hcz7_1
    try clear hcz7_2
    try clear hfz7_0
    try clear hfz7_1
    try clear hfz7_2
    obtain ⟨kq, x19_4, rfl, HA, HJ4, HO_7, BK117, HB⟩ := hcut
    cases kq with
    | zero => exact absurd HA.out (by simp [order_which.j0])
    | succ kj4 =>
      have H := HA.out
      clear HA
      simp only [order_which.j0] at H
      by_cases c11 : x19_4 = true
      · subst c11
        have H1 : (some ([] : List Int)) = some r := by rw [if_pos rfl] at H; exact H
        clear H
        have H := H1
        clear H1
        obtain rfl := Option.some.inj H
        iterate 3 ((try go_wp2); (repeat (go_quiet (fail); try go_wp2)); (try (first | go_step3 | rw [Exit.noGoto_normal] | rw [Exit.noGoto_exit])))
        (try go_wp2)
        (try rw [Exit.noGoto_ret])
        go_ret
        exact ⟨_, by first | rfl | (simp [errW_none, errW_some] <;> rfl) | (simp [*, errW_none, errW_some] <;> rfl), by first | exact Kd.R_nil _ _ _ _ _ | exact Kd.N_nil _ _ _ _ _ | exact Kd.V_nil _ _ _ _ _ | exact Kd.Q_nil _ _ _ _ _ | exact Kd.S_nil _ _ _ _ _, by repeat (first | (with_reducible first | exact HB.out | apply below_alloc | apply pw_below_drewN | apply below_drew1 | refine below_set ?_ GE117.out) | exact HB.out)⟩
      · replace c11 := Bool.eq_false_iff.mpr c11
        subst c11
        have H1 : (order_which.l0 kj4 a1 a2 t118 ([] : List Int) (t118.length : Int) 0) = some r := by rw [if_neg (show ¬ (false = true) by decide)] at H; exact H
        clear H
        have H := H1
        clear H1
        have H' := Aside0.mk H
        clear H
        obtain ⟨Ao12, co12, eo12⟩ := Kd.R_slice HO_7.out
        subst eo12
        iterate 3 ((try go_wp2); (repeat (go_quiet (fail); try go_wp2)); (try (first | go_step3 | rw [Exit.noGoto_normal] | rw [Exit.noGoto_exit])))
        (try go_wp2)
        go_loopg [8, 22] kj4 (fun kq v8 v22 w' => ∃ (x8_2 : List Int) (x22_2 : Int), v22 = .int .i64 x22_2 ∧ Aside0 (order_which.l0 kq a1 a2 t118 x8_2 (t118.length : Int) x22_2 = some r) ∧ Aside0 (kq ≤ kj4) ∧ Aside0 (Kd.R (Kd.int .i64) 3 w' w.heap.size (fun k_ => some k_ ≠ (v8 : Value).ownBlock) (.slice Ao12 t118.length co12) t118) ∧ Aside0 (Kd.R (Kd.int .i64) 3 w' w.heap.size (fun k_ => some k_ ≠ ((.slice Ao12 t118.length co12) : Value).ownBlock) v8 x8_2) ∧ Aside0 (w'.heap[gb117]? = some (.cells #[.int .i64 a0_0, (.slice A0_1 l0_1.length c0_1), (.slice A0_2 l0_2.length c0_2)] 48 (0, 0))) ∧ Aside0 (Below w.heap.size w w'))
        case atStart => exact ⟨(([] : List Int)), (0), (by first | rfl | (simp; done) | (simp [*]; done) | (simp [Int.tdiv_eq_ediv_of_nonneg]; done)), H', ⟨Nat.le_refl _⟩, ⟨by (with_reducible repeat (first | apply Kd.R_alloc | apply Kd.R_drewN | apply Kd.R_drew)); exact Kd.R_mono HO_7.out (fun _ hk => (by simp [Value.ownBlock]))⟩, ⟨by first | exact Kd.R_nil _ _ _ _ _ | exact Kd.N_nil _ _ _ _ _ | exact Kd.V_nil _ _ _ _ _ | exact Kd.Q_nil _ _ _ _ _ | exact Kd.S_nil _ _ _ _ _⟩, ⟨by (with_reducible repeat (first | refine blk_drewN ?_ _ | refine blk_drew ?_ | refine blk_alloc ?_ _)); exact BK117.out⟩, ⟨by repeat (first | (with_reducible first | exact HB.out | apply below_alloc | apply pw_below_drewN | apply below_drew1 | refine below_set ?_ GE117.out) | exact HB.out)⟩⟩
        case round =>
          clear H'
          try clear c1
          try clear p2
          try clear c3
          try clear p3
          try clear c9
          try clear c9b0
          try clear c11
          try clear hcz7_0
          try clear hcz7_1
          try clear hcz7_2
          try clear hfz7_0
          try clear hfz7_1
          try clear hfz7_2
          try clear p2
          try clear p3
          obtain ⟨x8_2, x22_2, rfl, HA, HK2, HO_7, HO_8, BK117, HB⟩ := hrel
          cases gk with
          | zero => exact absurd HA.out (by simp [order_which.l0])
          | succ k2 =>
            have H := HA.out
            clear HA
            simp only [order_which.l0] at H
            by_cases c13 : x22_2 < (t118.length : Int)
            · rw [if_pos c13] at H
              have c13b0 : decide (x22_2 < (t118.length : Int)) = true := decide_eq_true c13
              clear c13
              by_cases c14 : 0 ≤ x22_2
              · rw [if_pos c14] at H
                have c14b0 : decide (0 ≤ x22_2) = true := decide_eq_true c14
                clear c14
                by_cases c15 : x22_2 < (t118.length : Int)
                · rw [if_pos c15] at H
                  have c15b0 : decide (x22_2 < (t118.length : Int)) = true := decide_eq_true c15
                  clear c15
                  by_cases c16 : 0 ≤ a1
                  · rw [if_pos c16] at H
                    have c16b0 : decide (0 ≤ a1) = true := decide_eq_true c16
                    clear c16
                    by_cases c17 : a1 < (t118.length : Int)
                    · rw [if_pos c17] at H
                      have c17b0 : decide (a1 < (t118.length : Int)) = true := decide_eq_true c17
                      clear c17
                      replace H := Option.bind_eq_some_iff.mp H
                      obtain ⟨t123, A180, H⟩ := H
                      replace H : (if t123 = a2 then (if x8_2.length < 17592186044416 then (order_which.l0 k2 a1 a2 t118 (x8_2 ++ [x22_2]) (t118.length : Int) (wrap64 (x22_2 + 1))) else (none)) else (order_which.l0 k2 a1 a2 t118 x8_2 (t118.length : Int) (wrap64 (x22_2 + 1)))) = some r := H
                      have A18 := Aside0.mk A180
                      clear A180
                      by_cases c19 : t123 = a2
                      · rw [if_pos c19] at H
                        have c19b0 : (t123 == a2) = true := beq_iff_eq.mpr c19
                        have c19b1 : (t123 != a2) = false := bne_eq_false_iff_eq.mpr c19
                        clear c19
                        by_cases c20 : x8_2.length < 17592186044416
                        · rw [if_pos c20] at H
                          have LMc20 := Aside0.mk c20
                          clear c20
                          obtain ⟨y124, hy124⟩ : ∃ y_ : List Int, y_ = (x8_2 ++ [x22_2]) := ⟨_, rfl⟩
                          replace H : (order_which.l0 k2 a1 a2 t118 y124 (t118.length : Int) (wrap64 (x22_2 + 1))) = some r := by first | (rw [hy124]; with_reducible exact H) | (have H2_ := (Option.bind_some _ _).symm.trans H; rw [hy124]; with_reducible exact H2_) | (have H2_ := (Option.bind_some _ _).symm.trans H; with_reducible exact H2_) | with_reducible exact H | (rw [hy124]; exact H) | exact H
                          have Ny124 := Aside0.mk hy124
                          clear hy124
                          have H' := Aside0.mk H
                          clear H
                          have p121 : 0 ≤ (x22_2 : Int) := of_decide_eq_true (by first | (with_reducible assumption) | assumption)
                          have q121 : x22_2 < (t118.length : Int) := of_decide_eq_true (by first | (with_reducible assumption) | assumption)
                          obtain ⟨ad121, e121, hx121_0⟩ := Kd.at_int (Kd.R_reads' HO_7.out).2.2 x22_2 p121 q121
                          cases e121
                          replace p121 := eq_true p121
                          replace q121 := eq_true q121
                          have p122 : 0 ≤ (a1 : Int) := of_decide_eq_true (by first | (with_reducible assumption) | assumption)
                          have q122 : a1 < (t118.length : Int) := of_decide_eq_true (by first | (with_reducible assumption) | assumption)
                          obtain ⟨ad122, e122, hx122_0⟩ := Kd.at_int (Kd.R_reads' HO_7.out).2.2 a1 p122 q122
                          obtain rfl : ad121 = ad122 := (by injection e122)
                          replace p122 := eq_true p122
                          replace q122 := eq_true q122
                          iterate 3 ((try go_wp2_with (first | (go_at_call 53; (with_reducible refine (cmp_Compare_int.calls (rd t118 x22_2) (rd t118 a1) t123 _ A18.out).mono ?_); rintro e w' ⟨rfl, ⟨nd, rfl⟩⟩; (try first | exact ⟨rfl, _, World.drewN_drewN _ _ _⟩ | exact ⟨rfl, _, Eq.trans (World.drewN_drewN _ _ _) (congrArg (World.drewN _) (Nat.add_assoc _ _ _))⟩)) | ((with_reducible refine gate_builtin (b := .append) (xs := #[.tmp 36, .tmp 38]) rfl ?_); at_builtin; refine Kd.R_append (Kd.int .i64) (w0 := w) w.heap.size rfl (.tmp 36) (.tmp 38) 71 3 (.int .i64 0) 8 rfl Try.underlying71 info3 rfl (by decide) (by omega) u8 x8_2 x22_2 [.int .i64 x22_2] (fun k_ => some k_ ≠ (.slice (some ad121) t118.length co12 : Value).ownBlock) (fun _ => False) rfl rfl ?aP (fun _ hk => hk.elim) ?aF ?aO ?aB ?aS ?aL ?_; (case aP => exact rfl); (case aB => exact (by repeat (first | (with_reducible first | exact HB.out | apply below_alloc | apply pw_below_drewN | apply below_drew1 | refine below_set ?_ GE117.out) | exact HB.out))); (case aF => exact (fun k_ hk => Kd.fresh' (Kd.R_lt (by (with_reducible repeat (first | apply Kd.R_alloc | apply Kd.R_drewN | apply Kd.R_drew)); exact HO_7.out)) k_ hk)); (case aO => exact (by (with_reducible repeat (first | apply Kd.R_alloc | apply Kd.R_drewN | apply Kd.R_drew)); exact HO_8.out)); (case aS => exact (below_size (by repeat (first | (with_reducible first | exact HB.out | apply below_alloc | apply pw_below_drewN | apply below_drew1 | refine below_set ?_ GE117.out) | exact HB.out)))); (case aL => have := LMc20.out; omega); intro v125 w21 ho hb hg hat; rw [← Ny124.out] at ho; have n0_ := Aside0.mk (Kd.R_after (ok := (fun _ => True)) (by (with_reducible repeat (first | apply Kd.R_alloc | apply Kd.R_drewN | apply Kd.R_drew)); exact Kd.R_mono HO_7.out (fun _ hk => ⟨trivial, hk⟩)) hg hat); have n1_ := Aside0.mk (blk_grown (g := gb117) (o := .cells #[.int .i64 a0_0, .slice A0_1 l0_1.length c0_1, .slice A0_2 l0_2.length c0_2] 48 (0, 0)) (by (with_reducible repeat (first | refine blk_drewN ?_ _ | refine blk_drew ?_ | refine blk_alloc ?_ _)); exact BK117.out) hg (Kd.R_ne HO_8.out BK117.out (by decide))); have n2_ := Aside0.mk (hb); have n3_ := Aside0.mk (ho); clear HO_7; clear BK117; clear HB; clear HO_8; have HO_7 := n0_; have BK117 := n1_; have HB := n2_; have HO126 := n3_; clear n0_ n1_ n2_ n3_; clear ho hb hg hat))); (repeat (go_quiet (first | (go_at_call 53; (with_reducible refine (cmp_Compare_int.calls (rd t118 x22_2) (rd t118 a1) t123 _ A18.out).mono ?_); rintro e w' ⟨rfl, ⟨nd, rfl⟩⟩; (try first | exact ⟨rfl, _, World.drewN_drewN _ _ _⟩ | exact ⟨rfl, _, Eq.trans (World.drewN_drewN _ _ _) (congrArg (World.drewN _) (Nat.add_assoc _ _ _))⟩)) | ((with_reducible refine gate_builtin (b := .append) (xs := #[.tmp 36, .tmp 38]) rfl ?_); at_builtin; refine Kd.R_append (Kd.int .i64) (w0 := w) w.heap.size rfl (.tmp 36) (.tmp 38) 71 3 (.int .i64 0) 8 rfl Try.underlying71 info3 rfl (by decide) (by omega) u8 x8_2 x22_2 [.int .i64 x22_2] (fun k_ => some k_ ≠ (.slice (some ad121) t118.length co12 : Value).ownBlock) (fun _ => False) rfl rfl ?aP (fun _ hk => hk.elim) ?aF ?aO ?aB ?aS ?aL ?_; (case aP => exact rfl); (case aB => exact (by repeat (first | (with_reducible first | exact HB.out | apply below_alloc | apply pw_below_drewN | apply below_drew1 | refine below_set ?_ GE117.out) | exact HB.out))); (case aF => exact (fun k_ hk => Kd.fresh' (Kd.R_lt (by (with_reducible repeat (first | apply Kd.R_alloc | apply Kd.R_drewN | apply Kd.R_drew)); exact HO_7.out)) k_ hk)); (case aO => exact (by (with_reducible repeat (first | apply Kd.R_alloc | apply Kd.R_drewN | apply Kd.R_drew)); exact HO_8.out)); (case aS => exact (below_size (by repeat (first | (with_reducible first | exact HB.out | apply below_alloc | apply pw_below_drewN | apply below_drew1 | refine below_set ?_ GE117.out) | exact HB.out)))); (case aL => have := LMc20.out; omega); intro v125 w21 ho hb hg hat; rw [← Ny124.out] at ho; have n0_ := Aside0.mk (Kd.R_after (ok := (fun _ => True)) (by (with_reducible repeat (first | apply Kd.R_alloc | apply Kd.R_drewN | apply Kd.R_drew)); exact Kd.R_mono HO_7.out (fun _ hk => ⟨trivial, hk⟩)) hg hat); have n1_ := Aside0.mk (blk_grown (g := gb117) (o := .cells #[.int .i64 a0_0, .slice A0_1 l0_1.length c0_1, .slice A0_2 l0_2.length c0_2] 48 (0, 0)) (by (with_reducible repeat (first | refine blk_drewN ?_ _ | refine blk_drew ?_ | refine blk_alloc ?_ _)); exact BK117.out) hg (Kd.R_ne HO_8.out BK117.out (by decide))); have n2_ := Aside0.mk (hb); have n3_ := Aside0.mk (ho); clear HO_7; clear BK117; clear HB; clear HO_8; have HO_7 := n0_; have BK117 := n1_; have HB := n2_; have HO126 := n3_; clear n0_ n1_ n2_ n3_; clear ho hb hg hat)); try go_wp2_with (first | (go_at_call 53; (with_reducible refine (cmp_Compare_int.calls (rd t118 x22_2) (rd t118 a1) t123 _ A18.out).mono ?_); rintro e w' ⟨rfl, ⟨nd, rfl⟩⟩; (try first | exact ⟨rfl, _, World.drewN_drewN _ _ _⟩ | exact ⟨rfl, _, Eq.trans (World.drewN_drewN _ _ _) (congrArg (World.drewN _) (Nat.add_assoc _ _ _))⟩)) | ((with_reducible refine gate_builtin (b := .append) (xs := #[.tmp 36, .tmp 38]) rfl ?_); at_builtin; refine Kd.R_append (Kd.int .i64) (w0 := w) w.heap.size rfl (.tmp 36) (.tmp 38) 71 3 (.int .i64 0) 8 rfl Try.underlying71 info3 rfl (by decide) (by omega) u8 x8_2 x22_2 [.int .i64 x22_2] (fun k_ => some k_ ≠ (.slice (some ad121) t118.length co12 : Value).ownBlock) (fun _ => False) rfl rfl ?aP (fun _ hk => hk.elim) ?aF ?aO ?aB ?aS ?aL ?_; (case aP => exact rfl); (case aB => exact (by repeat (first | (with_reducible first | exact HB.out | apply below_alloc | apply pw_below_drewN | apply below_drew1 | refine below_set ?_ GE117.out) | exact HB.out))); (case aF => exact (fun k_ hk => Kd.fresh' (Kd.R_lt (by (with_reducible repeat (first | apply Kd.R_alloc | apply Kd.R_drewN | apply Kd.R_drew)); exact HO_7.out)) k_ hk)); (case aO => exact (by (with_reducible repeat (first | apply Kd.R_alloc | apply Kd.R_drewN | apply Kd.R_drew)); exact HO_8.out)); (case aS => exact (below_size (by repeat (first | (with_reducible first | exact HB.out | apply below_alloc | apply pw_below_drewN | apply below_drew1 | refine below_set ?_ GE117.out) | exact HB.out)))); (case aL => have := LMc20.out; omega); intro v125 w21 ho hb hg hat; rw [← Ny124.out] at ho; have n0_ := Aside0.mk (Kd.R_after (ok := (fun _ => True)) (by (with_reducible repeat (first | apply Kd.R_alloc | apply Kd.R_drewN | apply Kd.R_drew)); exact Kd.R_mono HO_7.out (fun _ hk => ⟨trivial, hk⟩)) hg hat); have n1_ := Aside0.mk (blk_grown (g := gb117) (o := .cells #[.int .i64 a0_0, .slice A0_1 l0_1.length c0_1, .slice A0_2 l0_2.length c0_2] 48 (0, 0)) (by (with_reducible repeat (first | refine blk_drewN ?_ _ | refine blk_drew ?_ | refine blk_alloc ?_ _)); exact BK117.out) hg (Kd.R_ne HO_8.out BK117.out (by decide))); have n2_ := Aside0.mk (hb); have n3_ := Aside0.mk (ho); clear HO_7; clear BK117; clear HB; clear HO_8; have HO_7 := n0_; have BK117 := n1_; have HB := n2_; have HO126 := n3_; clear n0_ n1_ n2_ n3_; clear ho hb hg hat)))); (try (first | go_step3 | rw [Exit.noGoto_normal] | rw [Exit.noGoto_exit])))
                          go_roundg k2
                          case measure => have := HJ4.out; have := HK2.out; omega
                          case rel => exact ⟨(y124), (wrap64 (x22_2 + 1)), (by first | rfl | (simp; done) | (simp [*]; done) | (simp [Int.tdiv_eq_ediv_of_nonneg]; done)), H', ⟨by have := HJ4.out; have := HK2.out; omega⟩, ⟨by (with_reducible repeat (first | apply Kd.R_alloc | apply Kd.R_drewN | apply Kd.R_drew)); exact Kd.R_mono HO_7.out (fun _ hk => hk.2)⟩, ⟨by (with_reducible repeat (first | apply Kd.R_alloc | apply Kd.R_drewN | apply Kd.R_drew)); exact HO126.out⟩, ⟨by (with_reducible repeat (first | refine blk_drewN ?_ _ | refine blk_drew ?_ | refine blk_alloc ?_ _)); exact BK117.out⟩, ⟨by repeat (first | (with_reducible first | exact HB.out | apply below_alloc | apply pw_below_drewN | apply below_drew1 | refine below_set ?_ GE117.out) | exact HB.out)⟩⟩
                        · rw [if_neg c20] at H
                          exact absurd H (by simp)
                      · rw [if_neg c19] at H
                        have c19b0 : (t123 == a2) = false := beq_eq_false_iff_ne.mpr c19
                        have c19b1 : (t123 != a2) = true := bne_iff_ne.mpr c19
                        have H' := Aside0.mk H
                        clear H
                        have p121 : 0 ≤ (x22_2 : Int) := of_decide_eq_true (by first | (with_reducible assumption) | assumption)
                        have q121 : x22_2 < (t118.length : Int) := of_decide_eq_true (by first | (with_reducible assumption) | assumption)
                        obtain ⟨ad121, e121, hx121_0⟩ := Kd.at_int (Kd.R_reads' HO_7.out).2.2 x22_2 p121 q121
                        cases e121
                        replace p121 := eq_true p121
                        replace q121 := eq_true q121
                        have p122 : 0 ≤ (a1 : Int) := of_decide_eq_true (by first | (with_reducible assumption) | assumption)
                        have q122 : a1 < (t118.length : Int) := of_decide_eq_true (by first | (with_reducible assumption) | assumption)
                        obtain ⟨ad122, e122, hx122_0⟩ := Kd.at_int (Kd.R_reads' HO_7.out).2.2 a1 p122 q122
                        obtain rfl : ad121 = ad122 := (by injection e122)
                        replace p122 := eq_true p122
                        replace q122 := eq_true q122
                        iterate 3 ((try go_wp2_with (first | (go_at_call 53; (with_reducible refine (cmp_Compare_int.calls (rd t118 x22_2) (rd t118 a1) t123 _ A18.out).mono ?_); rintro e w' ⟨rfl, ⟨nd, rfl⟩⟩; (try first | exact ⟨rfl, _, World.drewN_drewN _ _ _⟩ | exact ⟨rfl, _, Eq.trans (World.drewN_drewN _ _ _) (congrArg (World.drewN _) (Nat.add_assoc _ _ _))⟩)))); (repeat (go_quiet (first | (go_at_call 53; (with_reducible refine (cmp_Compare_int.calls (rd t118 x22_2) (rd t118 a1) t123 _ A18.out).mono ?_); rintro e w' ⟨rfl, ⟨nd, rfl⟩⟩; (try first | exact ⟨rfl, _, World.drewN_drewN _ _ _⟩ | exact ⟨rfl, _, Eq.trans (World.drewN_drewN _ _ _) (congrArg (World.drewN _) (Nat.add_assoc _ _ _))⟩))); try go_wp2_with (first | (go_at_call 53; (with_reducible refine (cmp_Compare_int.calls (rd t118 x22_2) (rd t118 a1) t123 _ A18.out).mono ?_); rintro e w' ⟨rfl, ⟨nd, rfl⟩⟩; (try first | exact ⟨rfl, _, World.drewN_drewN _ _ _⟩ | exact ⟨rfl, _, Eq.trans (World.drewN_drewN _ _ _) (congrArg (World.drewN _) (Nat.add_assoc _ _ _))⟩))))); (try (first | go_step3 | rw [Exit.noGoto_normal] | rw [Exit.noGoto_exit])))
                        go_roundg k2
                        case measure => have := HJ4.out; have := HK2.out; omega
                        case rel => exact ⟨(x8_2), (wrap64 (x22_2 + 1)), (by first | rfl | (simp; done) | (simp [*]; done) | (simp [Int.tdiv_eq_ediv_of_nonneg]; done)), H', ⟨by have := HJ4.out; have := HK2.out; omega⟩, ⟨by (with_reducible repeat (first | apply Kd.R_alloc | apply Kd.R_drewN | apply Kd.R_drew)); exact HO_7.out⟩, ⟨by (with_reducible repeat (first | apply Kd.R_alloc | apply Kd.R_drewN | apply Kd.R_drew)); exact HO_8.out⟩, ⟨by (with_reducible repeat (first | refine blk_drewN ?_ _ | refine blk_drew ?_ | refine blk_alloc ?_ _)); exact BK117.out⟩, ⟨by repeat (first | (with_reducible first | exact HB.out | apply below_alloc | apply pw_below_drewN | apply below_drew1 | refine below_set ?_ GE117.out) | exact HB.out)⟩⟩
                    · rw [if_neg c17] at H
                      exact absurd H (by simp)
                  · rw [if_neg c16] at H
                    exact absurd H (by simp)
                · rw [if_neg c15] at H
                  exact absurd H (by simp)
              · rw [if_neg c14] at H
                exact absurd H (by simp)
            · rw [if_neg c13] at H
              have c13b0 : decide (x22_2 < (t118.length : Int)) = false := decide_eq_false c13
              clear c13
              obtain rfl := Option.some.inj H
              iterate 3 ((try go_wp2); (repeat (go_quiet (fail); try go_wp2)); (try (first | go_step3 | rw [Exit.noGoto_normal] | rw [Exit.noGoto_exit])))
              (try go_wp2)
              (try rw [Exit.noGoto_ret])
              go_ret
              exact ⟨_, by first | rfl | (simp [errW_none, errW_some] <;> rfl) | (simp [*, errW_none, errW_some] <;> rfl), by (with_reducible repeat (first | apply Kd.R_alloc | apply Kd.R_drewN | apply Kd.R_drew)); exact Kd.R_mono HO_8.out (fun _ hk => trivial), by repeat (first | (with_reducible first | exact HB.out | apply below_alloc | apply pw_below_drewN | apply below_drew1 | refine below_set ?_ GE117.out) | exact HB.out)⟩

/-! ### order_Higher: function 26 -/
def order_Higher.f (k : Nat) (a0_0 : Int) (l0_1 : List (S79)) (l0_2 : List (S75)) (a1 : Int) : Option (List Int) := (order_which.f k a0_0 l0_1 l0_2 a1 1).bind fun t128 => (some t128)
theorem order_Higher.mono : ∀ a0 a1 a2 a3 k, LeO (order_Higher.f k a0 a1 a2 a3) (order_Higher.f (k + 1) a0 a1 a2 a3) := by
  intro a0 a1 a2 a3 k
  unfold order_Higher.f
  repeat' first
      | (with_reducible exact order_which.mono _ _ _ _ _ _)
      | (with_reducible exact LeO.refl _)
      | (with_reducible exact LeO.none _)
      | (with_reducible refine LeO.ite ?_ ?_)
      | (with_reducible refine LeO.bind ?_ (fun _ => ?_))
      | exact order_which.mono _ _ _ _ _ _
      | exact LeO.none _
      | refine LeO.ite ?_ ?_
      | refine LeO.bind ?_ (fun _ => ?_)
set_option maxHeartbeats 8000000 in
set_option maxRecDepth 100000 in
theorem order_Higher.calls (k : Nat) (a0_0 : Int) (A0_1 : Option Addr) (c0_1 : Nat) (l0_1 : List (S79)) (A0_2 : Option Addr) (c0_2 : Nat) (l0_2 : List (S75)) (a1 : Int) (r : List Int) (w : World) (hr0_1 : Kd.C k79 w A0_1 l0_1.length l0_1) (hc0_1 : l0_1.length ≤ c0_1) (hr0_2 : Kd.C k75 w A0_2 l0_2.length l0_2) (hc0_2 : l0_2.length ≤ c0_2) (h : order_Higher.f k a0_0 l0_1 l0_2 a1 = some r) :
    Calls Try.prog 26 #[.agg #[.int .i64 a0_0, .slice A0_1 l0_1.length c0_1, .slice A0_2 l0_2.length c0_2], .int .i64 a1] w fun e w' => ∃ v0_ : Value, e = .returned (v0_) ∧ Kd.R (Kd.int .i64) 3 w' w.heap.size (fun _ => True) v0_ r ∧ Below w.heap.size w w' := by
  have hu48 := Try.underlying48
  have HR0_1 := Aside0.mk hr0_1
  have HC0_1 := Aside0.mk hc0_1
  clear hr0_1 hc0_1
  have HR0_2 := Aside0.mk hr0_2
  have HC0_2 := Aside0.mk hc0_2
  clear hr0_2 hc0_2
  have HB := Aside0.mk (Below.refl w.heap.size w)
  have H : ((order_which.f k a0_0 l0_1 l0_2 a1 1).bind fun t128 => (some t128)) = some r := h
  clear h
  replace H := Option.bind_eq_some_iff.mp H
  obtain ⟨t128, A30, H⟩ := H
  replace H : (some t128) = some r := H
  have A3 := Aside0.mk A30
  clear A30
  obtain rfl := Option.some.inj H
  go_enter Try.func26, Try.ntmps26
  go_wp2_with (first | ((with_reducible refine gate_dst (N := 2) rfl ?_); refine box_event ?hg (N := 2) ?hd (cs := #[.int .i64 a0_0, .slice A0_1 l0_1.length c0_1, .slice A0_2 l0_2.length c0_2]) (t := 48) ?hr ?_; (case hd => rfl); (case hg => rfl); (case hr => first | (go_simp; done) | (go_simp; rfl)); intro gb127 hg w4 hbox hb; have n0_ := Aside0.mk (below_step (by repeat (first | (with_reducible first | exact HB.out | apply below_alloc | apply pw_below_drewN | apply below_drew1) | exact HB.out)) hb); have n1_ := Aside0.mk (hbox); have n2_ := Aside0.mk ((by rw [hg]; exact (below_size (by repeat (first | (with_reducible first | exact HB.out | apply below_alloc | apply pw_below_drewN | apply below_drew1) | exact HB.out))) : w.heap.size ≤ gb127)); have n3_ := Aside0.mk ((by rw [hg]; exact (below_size (by repeat (first | (with_reducible first | exact HB.out | apply below_alloc | apply pw_below_drewN | apply below_drew1) | exact HB.out))) : w.heap.size ≤ gb127)); clear HB; have HB := n0_; have BK127 := n1_; have GW127 := n2_; have GE127 := n3_; clear n0_ n1_ n2_ n3_; clear hb hbox hg; have hcz5_0 : w4.cell? ⟨gb127, 0, none⟩ = some (.int .i64 a0_0) := (blk_cell BK127.out 0).trans rfl; have hcz5_1 : w4.cell? ⟨gb127, 1, none⟩ = some (.slice A0_1 l0_1.length c0_1) := (blk_cell BK127.out 1).trans rfl; have hcz5_2 : w4.cell? ⟨gb127, 2, none⟩ = some (.slice A0_2 l0_2.length c0_2) := (blk_cell BK127.out 2).trans rfl; have hfz5_0 := blk_frozen BK127.out 0; have hfz5_1 := blk_frozen BK127.out 1; have hfz5_2 := blk_frozen BK127.out 2) | ((with_reducible refine gate_callee (f := 38) rfl ?_); refine goesL_ (some 7) rfl rfl Try.func38 (by kernel_rfl) rfl #[.agg #[.int .i64 a0_0, .slice A0_1 l0_1.length c0_1, .slice A0_2 l0_2.length c0_2], .int .i64 a1, .int .i64 1] rfl (by (try simp only [List.map_toArray, List.map_cons, List.map_nil]); first | done | rfl | (simp only [List.length_drop, List.length_take]; rfl)) ?_; (with_reducible refine (order_which.calls k a0_0 _ _ l0_1 _ _ l0_2 a1 1 t128 _ ?side1 ?side2 ?side3 ?side4 A3.out).mono ?_); (case side1 => repeat (first | exact (Kd.C_below HR0_1.out HB.out) | (with_reducible refine Kd.C_alloc ?_ _) | (with_reducible refine Kd.C_drewN ?_ _) | (with_reducible refine Kd.C_drew ?_))); (case side2 => exact HC0_1.out); (case side3 => repeat (first | exact (Kd.C_below HR0_2.out HB.out) | (with_reducible refine Kd.C_alloc ?_ _) | (with_reducible refine Kd.C_drewN ?_ _) | (with_reducible refine Kd.C_drew ?_))); (case side4 => exact HC0_2.out); rintro e w6 ⟨v129, rfl, ho0, hb⟩; refine ⟨_, rfl, ?_⟩; have n0_ := Aside0.mk (Kd.R_lower ho0 (below_size (by repeat (first | (with_reducible first | exact HB.out | apply below_alloc | apply pw_below_drewN | apply below_drew1 | refine below_set ?_ GE127.out) | exact HB.out)))); have n1_ := Aside0.mk (blk_below (g := gb127) (o := .cells #[.int .i64 a0_0, .slice A0_1 l0_1.length c0_1, .slice A0_2 l0_2.length c0_2] 48 (0, 0)) (by (with_reducible repeat (first | refine blk_drewN ?_ _ | refine blk_drew ?_ | refine blk_alloc ?_ _)); exact BK127.out) hb); have n2_ := Aside0.mk (below_step (by repeat (first | (with_reducible first | exact HB.out | apply below_alloc | apply pw_below_drewN | apply below_drew1 | refine below_set ?_ GE127.out) | exact HB.out)) hb); clear BK127; clear HB; have HO130 := n0_; have BK127 := n1_; have HB := n2_; clear n0_ n1_ n2_; (try clear hb); (try clear hb2); (try clear hk); (try clear hi); (try clear ho0)))
  go_ret
  exact ⟨_, by first | rfl | (simp [errW_none, errW_some] <;> rfl) | (simp [*, errW_none, errW_some] <;> rfl), by (with_reducible repeat (first | apply Kd.R_alloc | apply Kd.R_drewN | apply Kd.R_drew)); exact HO130.out, by repeat (first | (with_reducible first | exact HB.out | apply below_alloc | apply pw_below_drewN | apply below_drew1 | refine below_set ?_ GE127.out) | exact HB.out)⟩

/-! ### prog_Cost: function 39 -/
open Go.Proofs.YtgeejlcnnldogaaH (Upd Rd)
def lastI (ts : List Int) : Int := ts.getD (ts.length - 1) 0
/-- Through all ops, with how often each is done. -/
def eachF (see : S86 → Int → Int → Int) : List S86 → List Int → Int → Int
  | [], _, n => n
  | o :: l, ts, n => if o.f0 = 8 then eachF see l (ts ++ [wrap64 (lastI ts * o.f1)]) n else if o.f0 = 9 then eachF see l (ts.take (max (ts.length - 1) 1)) n else eachF see l ts (see o (lastI ts) n)
theorem tIntC : Go.Proofs.YtgeejlcnnldogaaH.ElemT Try.prog 71 3 (.int .i64 0) 1 8 :=
  ⟨Try.underlying71, by
    obtain ⟨i, hi, h⟩ := info_parts (show (Try.prog.info? 3).map (fun i => (i.zero, i.size, i.bytes)) = some (some (.int .i64 0), 1, 8) by kernel_rfl)
    exact ⟨i, hi, h⟩, rfl, by decide⟩
theorem run_uptoC {P : Program} {t e : TypeId} {z : Value} {size bytes : Nat} (T : Go.Proofs.YtgeejlcnnldogaaH.ElemT P t e z size bytes) (g n cap u : Nat) (hu : u ≤ cap) {U : Int} (hU : U = (u : Int)) (W : World) :
    (Instr.slice t (.slice (some ⟨g, 0, none⟩) n cap) none (some (.int .i64 U)) none).run P W = .ok (.slice (some ⟨g, 0, none⟩) u cap) W := by
  obtain ⟨i, hi, hz, hsz, hby⟩ := T.info
  subst hU
  simp [Instr.slice, run_underlying T.und, Instr.sliceBounds, run_sliceBound, show (u : Int) ≤ (cap : Int) by omega, sizeOf, run_typeInfo _ hi, hsz, Addr.add]
theorem own_take {w : World} {base g cap n u : Nat} {e : TypeId} {ts : List Int} (h : w.ownsRow base e 1 (.slice (some ⟨g, 0, none⟩) n cap) n (ts.map (Value.int .i64))) (hu : u ≤ n) : w.ownsRow base e 1 (.slice (some ⟨g, 0, none⟩) u cap) u ((ts.take u).map (Value.int .i64)) := by
  rcases h.2 with ⟨he, h0⟩ | ⟨g', cap', cur, he, hb, hg, hn, hm, hs, ht⟩
  · injection he with h1; cases h1
  · injection he with h1 h2 h3
    cases h1
    subst h3
    have hl : ts.length = n := by have := h.1; simpa using this
    refine ⟨by simp; omega, .inr ⟨g, cap, cur, rfl, hb, hg, by omega, hm, hs, ?_⟩⟩
    rw [List.map_take, ← ht, List.take_take]
    congr 1
    omega
theorem own_get {w : World} {base g cap n : Nat} {e : TypeId} {ts : List Int} (h : w.ownsRow base e 1 (.slice (some ⟨g, 0, none⟩) n cap) n (ts.map (Value.int .i64))) {i : Nat} (hi : i < ts.length) : w.cell? ⟨g, i, none⟩ = some (.int .i64 (ts.getD i 0)) := by
  have := h.cells (g := g) rfl i (.int .i64 (ts.getD i 0)) (by simp [List.getD, hi])
  rwa [add_plain] at this
set_option maxHeartbeats 8000000 in
set_option maxRecDepth 100000 in
theorem each_any (see : S86 → Int → Int → Int) (T nb : Nat) (A : Option Addr) (c : Nat) (l : List S86) (n0 : Int) (w0 w : World) (hl : Kd.C k86 w0 A l.length l) (hb0 : Below w0.heap.size w0 w) (hnb0 : w0.heap.size ≤ nb) (hc : l.length ≤ c) (hm : l.length ≤ 1000000000)
    (hnb : w.heap[nb]? = some (.cells #[.int .i64 n0] T (0, 0)))
    (hcl : ∀ (o : S86) (B : Option Addr) (d : Nat) (t n : Int) (W : World), Upd [nb] w W → W.heap[nb]? = some (.cells #[.int .i64 n] T (0, 0)) → Calls Try.prog 55 #[.agg #[.int .i64 o.f0, .int .i64 o.f1, .int .i64 o.f2, .int .i64 o.f3, .slice B o.f4.length d], .int .i64 t, .pointer (some ⟨nb, 0, none⟩)] W fun e w' => e = .returned (.tuple #[]) ∧ w'.heap[nb]? = some (.cells #[.int .i64 (see o t n)] T (0, 0)) ∧ Upd [nb] W w') :
    Calls Try.prog 54 #[.slice A l.length c, .func (.func 55) #[] #[.pointer (some ⟨nb, 0, none⟩)]] w fun e w' => e = .returned (.tuple #[]) ∧ w'.heap[nb]? = some (.cells #[.int .i64 (eachF see l [1] n0)] T (0, 0)) ∧ Upd [nb] w w' := by
  obtain ⟨R, hR⟩ : ∃ R, R = eachF see l [1] n0 := ⟨_, rfl⟩
  rw [← hR]
  have HR := Lib.hid hR
  have HCL := Lib.hid hcl
  have HL := Lib.hid hl
  have HNB := Lib.hid hnb
  obtain ⟨N, hN⟩ : ∃ N, N = l.length := ⟨_, rfl⟩
  have HN := Lib.hid hN
  rw [← hN] at hm ⊢
  clear hR hcl hl hnb hN hc
  go_enter Try.func54, Try.ntmps54
  go_wp2
  go_loopw [4, 11] (fun v i wr => ∃ (k g cap : Nat) (ts : List Int) (n : Int), k ≤ N ∧ i = .int .i64 k ∧ v = .slice (some ⟨g, 0, none⟩) ts.length cap ∧ 1 ≤ ts.length ∧ ts.length ≤ k + 1 ∧ wr.ownsRow w.heap.size 3 1 (.slice (some ⟨g, 0, none⟩) ts.length cap) ts.length (ts.map (Value.int .i64)) ∧ wr.heap[nb]? = some (.cells #[.int .i64 n] T (0, 0)) ∧ Upd [nb] w wr ∧ Hid (eachF see (l.drop k) ts n = R)) (fun _ i _ => N - (intOf i).toNat)
  case atStart =>
    refine ⟨0, w.heap.size, 1, [1], n0, Nat.zero_le _, rfl, rfl, by simp, by simp, ?_, ?_, (Upd.refl _ _).alloc _, Lib.hid (by rw [List.drop_zero]; exact HR.out.symm)⟩
    · exact ⟨rfl, .inr ⟨w.heap.size, 1, _, rfl, Nat.le_refl _, heap_alloc_new w _, Nat.le_refl _, by unfold maxLen; omega, rfl, rfl⟩⟩
    · exact ((Upd.refl [] w).alloc _).keep HNB.out (by simp)
  case round =>
    obtain ⟨k, g, cap, ts, n, hk, rfl, rfl, ht1, ht2, hown, hnb, hu, HE⟩ := hrel
    have hbw : Below w0.heap.size w0 wr := hb0.trans (hu.belowB hb0.size (by simpa using hnb0))
    by_cases hlt : k < N
    · have hkl : k < l.length := by rw [← HN.out]; exact hlt
      obtain ⟨ad, A4, c4, rfl, x0, x1, x2, x3, x4, -, -⟩ := at_T86 (Kd.C_below HL.out hbw) k (by omega) (by omega)
      obtain ⟨o, ho⟩ : ∃ o, o = rd_T86 l k := ⟨_, rfl⟩
      rw [← ho] at x0 x1 x2 x3 x4
      simp only [Int.toNat_natCast] at x0 x1 x2 x3 x4
      have hdr : l.drop k = o :: l.drop (k + 1) := by
        rw [List.drop_eq_getElem_cons hkl, ho]
        simp [rd_T86, List.getD, hkl]
      have hE := HE.out
      rw [hdr, eachF] at hE
      have hlast := own_get hown (i := ts.length - 1) (by omega)
      have hli : ts.getD (ts.length - 1) 0 = lastI ts := rfl
      rw [hli] at hlast
      obtain ⟨m, hm2⟩ : ∃ m, m = ts.length := ⟨_, rfl⟩
      rw [← hm2] at hlast hown ht1 ht2 ⊢
      obtain ⟨q, hq⟩ : ∃ q, q = m - 1 := ⟨_, rfl⟩
      rw [← hq] at hlast
      have hq0 : (0 : Int) ≤ (q : Int) := by omega
      have hq1 : (q : Int) < (m : Int) := by omega
      have hqm : IntKind.i64.wrap ((m : Int) - 1) = (q : Int) := by rw [IntWalk.i64_in _ (by omega)]; omega
      obtain ⟨la, hla⟩ : ∃ la, la = lastI ts := ⟨_, rfl⟩
      rw [← hla] at hlast hE
      have HE2 := Lib.hid hE
      have HLA := Lib.hid hla
      have HM := Lib.hid hm2
      have HQ := Lib.hid hq
      have HO := Lib.hid ho
      have hadl := World.block_lt_of_cell? wr _ x1
      have hbl := World.block_lt_of_cell? wr _ hlast
      clear hE hla hm2 hq hdr hli HE ho
      by_cases h8 : o.f0 = 8
      · have t8 : (o.f0 == 8) = true := beq_iff_eq.2 h8
        have hE2 := HE2.out
        rw [if_pos h8] at hE2
        have HE3 := Lib.hid hE2
        clear HE2 hE2 h8
        have hm1 : m + 1 ≤ maxLen := by unfold maxLen; omega
        have hm3 : (m + 1) * 8 ≤ 140737488355328 := by omega
        have hown2 := Go.Proofs.YtgeejlcnnldogaaH.own_keep0 hown ((Upd.refl [] wr).alloc (.cells #[.int .i64 o.f0, .int .i64 o.f1, .int .i64 o.f2, .int .i64 o.f3, .slice A4 o.f4.length c4] 86))
        have hb2 : w.heap.size ≤ (wr.alloc (.cells #[.int .i64 o.f0, .int .i64 o.f1, .int .i64 o.f2, .int .i64 o.f3, .slice A4 o.f4.length c4] 86)).heap.size := by have := hu.size; simp; omega
        go_wp2_with (first
          | (at_builtin; refine Go.Proofs.YtgeejlcnnldogaaH.wp_push_at tIntC rfl (.tmp 29) (.tmp 34) rfl hown2 [.int .i64 (wrap64 (la * o.f1))] rfl rfl (World.size_alloc _ _).symm rfl (by intro u hu; simp at hu; subst hu; rfl) hm1 hm3 hb2 ?_; intro g3 c3 w3 hown3 hu3))
        have hgw := (hown.lt g rfl).1
        have hnbw := blk_lt HNB.out
        have HU3 := Lib.hid hu3
        have HOWN3 := Lib.hid hown3
        clear hu3 hown3 hown2
        go_wp2
        go_roundw
        case rel =>
          have hlen : (ts ++ [wrap64 (la * o.f1)]).length = m + 1 := by rw [List.length_append, HM.out]; rfl
          refine ⟨k + 1, g3, c3, ts ++ [wrap64 (la * o.f1)], n, by omega, by go_num, by rw [hlen], by omega, by omega, ?_, ?_, ?_, Lib.hid (by rw [HLA.out] at HE3 ⊢; exact HE3.out)⟩
          · rw [hlen]
            simpa using HOWN3.out
          · exact HU3.out.keep (((Upd.refl [] wr).alloc _).keep hnb (by simp)) (by simp [Value.ownBlock]; omega)
          · exact (hu.alloc _).trans HU3.out (fun x hx hl => by simp [Value.ownBlock] at hx; omega)
        case measure => simp [intOf]; omega
      · have t8 : (o.f0 == 8) = false := beq_eq_false_iff_ne.2 h8
        have hE2 := HE2.out
        rw [if_neg h8] at hE2
        by_cases h9 : o.f0 = 9
        · have t9 : (o.f0 == 9) = true := beq_iff_eq.2 h9
          rw [if_pos h9] at hE2
          have HE3 := Lib.hid hE2
          obtain ⟨u, hu1⟩ : ∃ u, u = max (m - 1) 1 := ⟨_, rfl⟩
          have hum : u ≤ m := by omega
          have hmc : m ≤ cap := by
            obtain ⟨a', c', he, hle⟩ := Go.Proofs.YtgeejlcnnldogaaH.own_slice hown
            injection he with _ _ h3
            omega
          have htk := own_take hown hum
          have HTK := Lib.hid htk
          have HU1 := Lib.hid hu1
          have hrun := fun W => run_uptoC (P := Try.prog) tIntC g m cap u (by omega) (U := (u : Int)) rfl W
          have hmx : (if (1 : Int) > (q : Int) then (1 : Int) else (q : Int)) = (u : Int) := by have := HQ.out; split <;> omega
          have hmx2 : (if (q : Int) < 1 then (1 : Int) else (q : Int)) = (u : Int) := by have := HQ.out; split <;> omega
          have hmx3 : max (q : Int) 1 = (u : Int) := by have := HQ.out; omega
          clear HE2 hE2 h8 h9 hu1 htk
          go_wp2
          go_roundw
          case rel =>
            have hlen : (ts.take u).length = u := by rw [List.length_take, ← HM.out]; omega
            refine ⟨k + 1, g, cap, ts.take u, n, by omega, by go_num, by rw [hlen], by have := HU1.out; omega, by omega, by rw [hlen]; exact Go.Proofs.YtgeejlcnnldogaaH.own_keep0 HTK.out ((Upd.refl [] wr).alloc _), ((Upd.refl [] wr).alloc _).keep hnb (by simp), hu.alloc _, Lib.hid (by rw [HU1.out, HM.out]; exact HE3.out)⟩
          case measure => simp [intOf]; omega
        · have t9 : (o.f0 == 9) = false := beq_eq_false_iff_ne.2 h9
          rw [if_neg h9] at hE2
          have HE3 := Lib.hid hE2
          clear HE2 hE2 h8 h9
          have hnb2 := ((Upd.refl [] wr).alloc (.cells #[.int .i64 o.f0, .int .i64 o.f1, .int .i64 o.f2, .int .i64 o.f3, .slice A4 o.f4.length c4] 86)).keep hnb (by simp)
          have hgw := (hown.lt g rfl).1
          have hnbw := blk_lt HNB.out
          go_wp2_with fail
          refine (HCL.out o A4 c4 la n _ (hu.alloc _) hnb2).mono ?_
          rintro e w1 ⟨rfl, hnb3, hu3⟩
          have HU3 := Lib.hid hu3
          have HNB3 := Lib.hid hnb3
          clear hu3 hnb3
          go_wp2
          go_roundw
          case rel =>
            refine ⟨k + 1, g, cap, ts, _, by omega, by go_num, by rw [HM.out], by have := HM.out; omega, by have := HM.out; omega, ?_, HNB3.out, (hu.alloc _).transS HU3.out, HE3⟩
            rw [← HM.out]
            exact Go.Proofs.YtgeejlcnnldogaaH.own_keep (Go.Proofs.YtgeejlcnnldogaaH.own_keep0 hown ((Upd.refl [] wr).alloc _)) HU3.out (fun x hx => by simp [Value.ownBlock] at hx; simp; omega)
          case measure => simp [intOf]; omega
    · obtain rfl : k = N := by omega
      have hE := HE.out
      rw [List.drop_of_length_le (by rw [← HN.out]; exact Nat.le_refl _), eachF] at hE
      subst hE
      go_wp2
      first | go_end0 | ((try simp only [Exit.inBlock, Exit.then]); refine bodyPost_ret (results_none rfl _ _ _) rfl ?_)
      exact ⟨rfl, hnb, hu⟩
def costSee (o : S86) (t n : Int) : Int := if o.f0 = 1 then wrap64 (n + wrap64 (o.f1 * t)) else n
set_option maxHeartbeats 4000000 in
set_option maxRecDepth 100000 in
theorem cost_closure (nb : Nat) (o : S86) (B : Option Addr) (d : Nat) (t n : Int) (W : World) (hnb : W.heap[nb]? = some (.cells #[.int .i64 n] 2 (0, 0))) :
    Calls Try.prog 55 #[.agg #[.int .i64 o.f0, .int .i64 o.f1, .int .i64 o.f2, .int .i64 o.f3, .slice B o.f4.length d], .int .i64 t, .pointer (some ⟨nb, 0, none⟩)] W fun e w' => e = .returned (.tuple #[]) ∧ w'.heap[nb]? = some (.cells #[.int .i64 (costSee o t n)] 2 (0, 0)) ∧ Upd [nb] W w' := by
  have hc := (blk_cell hnb 0).trans (show (#[Value.int .i64 n] : Array Value)[0]? = some (.int .i64 n) from rfl)
  have hf := blk_frozen hnb 0
  have hlt := blk_lt hnb
  have hnb2 := ((Upd.refl [] W).alloc (.cells #[.int .i64 o.f0, .int .i64 o.f1, .int .i64 o.f2, .int .i64 o.f3, .slice B o.f4.length d] 86)).keep hnb (by simp)
  have HNB2 := Lib.hid hnb2
  have HNB1 := Lib.hid hnb
  unfold costSee
  by_cases h1 : o.f0 = 1
  · have t1 : (o.f0 == 1) = true := beq_iff_eq.2 h1
    rw [if_pos h1]
    clear h1 hnb hnb2
    go_enter Try.func55, Try.ntmps55
    go_wp2
    first | go_end0 | ((try simp only [Exit.inBlock, Exit.then]); refine bodyPost_ret (results_none rfl _ _ _) rfl ?_)
    exact ⟨rfl, ((Upd.refl [] _).alloc _).keep (by simpa using blk_set HNB1.out 0 (.int .i64 (wrap64 (n + wrap64 (o.f1 * t))))) (by simp), ((Upd.refl [nb] W).setCell _ _ (by simp)).alloc _⟩
  · have t1 : (o.f0 == 1) = false := beq_eq_false_iff_ne.2 h1
    rw [if_neg h1]
    clear h1 hnb hnb2
    go_enter Try.func55, Try.ntmps55
    go_wp2
    first | go_end0 | ((try simp only [Exit.inBlock, Exit.then]); refine bodyPost_ret (results_none rfl _ _ _) rfl ?_)
    exact ⟨rfl, HNB2.out, (Upd.refl _ _).alloc _⟩
def prog_Cost.f (k : Nat) (l0 : List (S86)) : Option (Int) := if l0.length ≤ 1000000000 then some (eachF costSee l0 [1] 0) else none
theorem prog_Cost.mono : ∀ a0 k, LeO (prog_Cost.f k a0) (prog_Cost.f (k + 1) a0) := fun _ _ => LeO.refl _
set_option maxHeartbeats 4000000 in
set_option maxRecDepth 100000 in
theorem prog_Cost.calls (k : Nat) (A0 : Option Addr) (c0 : Nat) (l0 : List (S86)) (r : Int) (w : World) (hr0 : Kd.C k86 w A0 l0.length l0) (hc0 : l0.length ≤ c0) (h : prog_Cost.f k l0 = some r) :
    Calls Try.prog 39 #[.slice A0 l0.length c0] w fun e w' => e = .returned (.int .i64 r) ∧ Below w.heap.size w w' := by
  unfold prog_Cost.f at h
  split at h
  case isFalse => cases h
  case isTrue hm =>
  injection h with h
  have hB0 : Below w.heap.size w (w.alloc (.cells #[.int .i64 0] 2)) := (Below.refl _ _).alloc (Nat.le_refl _) _
  have hnb0 : (w.alloc (.cells #[.int .i64 0] 2)).heap[w.heap.size]? = some (.cells #[.int .i64 0] 2 (0, 0)) := heap_alloc_new w _
  have heach := each_any costSee 2 w.heap.size A0 c0 l0 0 w _ hr0 hB0 (Nat.le_refl _) hc0 hm hnb0 (fun o B d t n W _ hn => cost_closure w.heap.size o B d t n W hn)
  rw [h] at heach
  have HB0 := Lib.hid hB0
  have HE := Lib.hid heach
  clear h hr0 hc0 hm hnb0 heach hB0
  have hmf : ∀ (fn : Fn) (first cap : Array Value) (w : World), (Instr.makeFunc fn first cap).run Try.prog w = .ok (.func fn first cap) w := fun _ _ _ _ => rfl
  go_enter Try.func39, Try.ntmps39
  go_wp2_with fail
  refine HE.out.mono ?_
  rintro e w1 ⟨rfl, hnb, hu⟩
  have hc := (blk_cell hnb 0).trans (show (#[Value.int .i64 r] : Array Value)[0]? = some (.int .i64 r) from rfl)
  go_wp2
  go_ret
  exact ⟨rfl, HB0.out.trans (hu.belowB HB0.out.size (by simp))⟩


end Go.Proofs.Ytgeejlcnnldogaa.XA
