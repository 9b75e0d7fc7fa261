-- PRINTED by print.py (a twelfth state) out of the translation. Not trusted: Lean checks it.
import Derived.Test.YtniphoeoeekpbaaXAx0
namespace Go.Proofs.Ytniphoeoeekpbaa.XA
open Go.RowKit Go.Proofs.YtniphoeoeekpbaaW.PrintWords Go.Proofs.YtniphoeoeekpbaaW.PrintLast Go.Proofs.YtniphoeoeekpbaaW.PrintMore
attribute [local go_sem] max2_int min2_int max_two min_two max_three min_three max_four min_four   -- for this text's walks alone
set_option linter.unusedVariables false
set_option linter.unusedSimpArgs false

/-! ### order_Prios: function 16 -/
open Go.Proofs.YtniphoeoeekpbaaH (Upd Rd RowN dcmp ahead dlt prios)
def dls (l : List S56) : List Int := l.map (·.f2)
theorem dls_get (l : List S56) (i : Nat) (h : i < l.length) : (dls l).getD i 0 = (rd_T56 l i).f2 := by
  simp [dls, rd_T56, List.getD, h]
theorem prios_closure (x y bx : Nat) (A : Option Addr) (l : List S56) (c : Nat) (W : World) (hb : W.cell? ⟨bx, 2, none⟩ = some (.slice A l.length c)) (hl : Kd.C k56 W A l.length l) (hx : x < l.length) (hy : y < l.length) (hm : l.length ≤ 9223372036854775807) :
    Calls Try.prog 30 #[.int .i64 x, .int .i64 y, .pointer (some ⟨bx, 0, none⟩)] W fun e w' => e = .returned (.int .i64 (dcmp (dls l) x y)) ∧ Upd [] W w' := by
  obtain ⟨ad, A4, c4, rfl, x0, x1, x2, x3, x4, -, -⟩ := at_T56 hl x (by omega) (by omega)
  obtain ⟨ad', B4, d4, he, y0, y1, y2, y3, y4, -, -⟩ := at_T56 hl y (by omega) (by omega)
  obtain rfl : ad = ad' := by injection he
  have hd : dcmp (dls l) x y = Go.Proofs.YtniphoeoeekpbaaH.cmpI (rd_T56 l x).f2 (rd_T56 l y).f2 := by
    unfold dcmp Go.Proofs.YtniphoeoeekpbaaH.cmpI
    rw [dls_get l x hx, dls_get l y hy]
  rw [hd]
  clear hd he x0 x1 x3 x4 y0 y1 y3 y4 hl
  obtain ⟨u, hu⟩ : ∃ u, u = (rd_T56 l x).f2 := ⟨_, rfl⟩
  obtain ⟨v, hv⟩ : ∃ v, v = (rd_T56 l y).f2 := ⟨_, rfl⟩
  rw [← hu] at x2 ⊢
  rw [← hv] at y2 ⊢
  obtain ⟨n, hn⟩ : ∃ n, n = l.length := ⟨_, rfl⟩
  rw [← hn] at hb hx hy hm
  clear hu hv hn
  have hx0 : (0 : Int) ≤ (x : Int) := by omega
  have hx1 : (x : Int) < (n : Int) := by omega
  have hy0 : (0 : Int) ≤ (y : Int) := by omega
  have hy1 : (y : Int) < (n : Int) := by omega
  simp only [Int.toNat_natCast] at x2 y2
  go_enter Try.func30, Try.ntmps30
  go_wp2
  go_region_held3 (fun w' => w'.cell? ⟨bx, 2, none⟩ = some (.slice (some ad) n c) ∧ w'.cell? ⟨(ad.add (x * 5)).block, (ad.add (x * 5)).off + 2, none⟩ = some (.int .i64 u) ∧ w'.cell? ⟨(ad.add (y * 5)).block, (ad.add (y * 5)).off + 2, none⟩ = some (.int .i64 v)) (first | trivial | go_keep) (first
    | (go_at_call 31; refine (Go.Proofs.YtniphoeoeekpbaaH.cmp_int64_any _ _ _).mono ?_; rintro e w1 ⟨rfl, rfl⟩))
  go_wp2
  go_ret
  exact ⟨rfl, by repeat (first | exact Upd.refl _ _ | refine Upd.drewN ?_ _ | refine Upd.drew ?_)⟩
def order_Prios.f (a0_0 : Int) (l0_1 : List (S64)) (l0_2 : List (S56)) : Option (List Int) := if 1 ≤ l0_2.length ∧ l0_2.length < 20 then some (prios (dls l0_2)) else none
theorem infoP : (Try.prog.info? 3).map (fun i => (i.zero, i.size, i.bytes)) = some (some (.int .i64 0), 1, 8) := by kernel_rfl
theorem tIntP : Go.Proofs.YtniphoeoeekpbaaH.ElemT Try.prog 35 3 (.int .i64 0) 1 8 :=
  ⟨Try.underlying35, by
    obtain ⟨i, hi, h⟩ := info_parts (show (Try.prog.info? 3).map (fun i => (i.zero, i.size, i.bytes)) = some (some (.int .i64 0), 1, 8) by kernel_rfl)
    exact ⟨i, hi, h⟩, rfl, by decide⟩
theorem R_of_rowI {wr : World} {g n base : Nat} {f : Nat → Value} {e : Nat} {xs : List Int} (h : wr.rowIs g e n f) (hb : base ≤ g) (hm : n ≤ maxLen) (hl : xs.length = n) (hf : ∀ x, x < n → f x = .int .i64 (xs.getD x 0)) : Kd.R (Kd.int .i64) e wr base (fun _ => True) (.slice (some ⟨g, 0, none⟩) n n) xs := by
  obtain ⟨c, hg, hs, hc⟩ := h
  refine Kd.R_of_own (enc := Value.int .i64) (h1 := fun _ => rfl) ?_ (fun _ _ => trivial)
  refine ⟨by simp [encs], .inr ⟨g, n, c, by rw [hl], hb, hg, by omega, hm, by omega, ?_⟩⟩
  apply List.ext_getElem?
  intro i
  simp only [Nat.mul_one, List.getElem?_take, encs, List.getElem?_map]
  by_cases hi : i < xs.length
  · rw [if_pos hi, Array.getElem?_toList, hc i (by omega), hf i (by omega)]
    simp [List.getD, hi]
  · rw [if_neg hi]
    simp [List.getElem?_eq_none (Nat.not_lt.1 hi)]
set_option maxHeartbeats 8000000 in
set_option maxRecDepth 100000 in
theorem order_Prios.calls (a0_0 : Int) (A0_1 : Option Addr) (c0_1 : Nat) (l0_1 : List (S64)) (A0_2 : Option Addr) (c0_2 : Nat) (l0_2 : List (S56)) (r : List Int) (w : World) (hr0_1 : Kd.C k64 w A0_1 l0_1.length l0_1) (hc0_1 : l0_1.length ≤ c0_1) (hr0_2 : Kd.C k56 w A0_2 l0_2.length l0_2) (hc0_2 : l0_2.length ≤ c0_2) (h : order_Prios.f a0_0 l0_1 l0_2 = some r) :
    Calls Try.prog 16 #[.agg #[.int .i64 a0_0, .slice A0_1 l0_1.length c0_1, .slice A0_2 l0_2.length c0_2]] w fun e w' => ∃ v0_ : Value, e = .returned (v0_) ∧ Kd.R (Kd.int .i64) 3 w' w.heap.size (fun _ => True) v0_ r ∧ Below w.heap.size w w' := by
  unfold order_Prios.f at h
  split at h
  case isFalse => cases h
  case isTrue hn12 =>
  obtain ⟨hn1, hn2⟩ := hn12
  injection h with h
  subst h
  obtain ⟨n, hn⟩ : ∃ n, n = l0_2.length := ⟨_, rfl⟩
  have HN := Lib.hid hn
  have HR := Lib.hid hr0_2
  rw [← hn] at hn1 hn2
  clear hr0_1 hc0_1 hc0_2
  obtain ⟨bx, hbx⟩ : ∃ bx, bx = w.heap.size := ⟨_, rfl⟩
  have HBX := Lib.hid hbx
  obtain ⟨wb, hwb⟩ : ∃ wb, wb = w.alloc (.cells #[.int .i64 a0_0, .slice A0_1 l0_1.length c0_1, .slice A0_2 l0_2.length c0_2] 33) := ⟨_, rfl⟩
  have hbox : wb.heap[bx]? = some (.cells #[.int .i64 a0_0, .slice A0_1 l0_1.length c0_1, .slice A0_2 l0_2.length c0_2] 33 (0, 0)) := by rw [hwb, hbx]; exact heap_alloc_new w _
  have hu0 : Upd [] w wb := by rw [hwb]; exact (Upd.refl _ _).alloc _
  have hwbs : wb.heap.size = bx + 1 := by rw [hwb, hbx]; simp
  rw [← hn] at hbox hwb
  clear hr0_2
  have HWB := Lib.hid hwb
  clear hwb hbx
  rw [← hn]
  clear hn
  go_enter Try.func16, Try.ntmps16
  go_wp2
  rw [← HBX.out, ← HWB.out]
  go_loopw [3, 11] (fun v i wr => ∃ k : Nat, k ≤ n ∧ i = .int .i64 k ∧ Upd [] wb wr ∧ wr.ownsRow (bx + 1) 3 1 v (List.range k).length ((List.range k).map fun j : Nat => Value.int .i64 j)) (fun _ i _ => n - (intOf i).toNat)
  case atStart => exact ⟨0, Nat.zero_le _, rfl, Upd.refl _ _, ⟨by simp, .inl ⟨rfl, rfl⟩⟩⟩
  case round =>
    obtain ⟨k, hk, rfl, hu, hown⟩ := hrel
    have hbox2 := hu.keep hbox (by simp)
    have hsz := hu.size
    by_cases hlt : k < n
    · have hm1 : (List.range k).length + 1 ≤ maxLen := by unfold maxLen; simp; omega
      have hm2 : ((List.range k).length + 1) * 8 ≤ 140737488355328 := by simp; omega
      have hb2 : bx + 1 ≤ wr.heap.size := by omega
      go_wp2_with (first
        | (at_builtin; refine Go.Proofs.YtniphoeoeekpbaaH.wp_push tIntP rfl (.tmp 14) (.tmp 16) rfl hown [.int .i64 k] rfl rfl rfl (by intro u hu; simp at hu; subst hu; rfl) hm1 hm2 hb2 ?_; intro g3 c3 w3 hown3 hu3))
      go_roundw
      case rel =>
        refine ⟨k + 1, by omega, by go_num, ?_, ?_⟩
        · have hu4 := hu.trans hu3 (fun x hx hl => by
            rcases hown.2 with ⟨rfl, _⟩ | ⟨g, cap, cur, rfl, hb, _⟩
            · simp [Value.ownBlock] at hx
            · simp [Value.ownBlock] at hx
              omega)
          exact hu4
        · simpa [List.range_succ] using hown3
      case measure => simp [intOf]; omega
    · obtain rfl : k = n := by omega
      obtain ⟨g, cap, rfl, hg, hcap, hrow⟩ := RowN.of_own hown (by simp; omega)
      simp only [List.length_range] at *
      have hl1 := Go.Proofs.YtniphoeoeekpbaaH.range_inc k
      have hcb : wr.cell? ⟨bx, 2, none⟩ = some (.slice A0_2 k c0_2) := (blk_cell hbox2 2).trans rfl
      have hdl : (dls l0_2).length = k := by rw [HN.out]; simp [dls]
      have hbl := hu0.below
      have htk : Kd.C k56 wr A0_2 l0_2.length l0_2 := Kd.C_below HR.out ((hu0.trans0 hu).below)
      have hsort := Go.Proofs.YtniphoeoeekpbaaH.sortStable_few k (dcmp (dls l0_2)) _ (by have := Go.Proofs.YtniphoeoeekpbaaH.ord_ds (dls l0_2); rw [hdl] at this; exact this) #[.pointer (some ⟨bx, 0, none⟩)] g cap (List.range k) wr hrow (by simp; omega) hl1 (by simp) (by omega) (by simp; omega) (fun x y W hx hy hW => prios_closure x y bx A0_2 l0_2 c0_2 W (by rw [← HN.out]; exact hW.cell hcb (by simp; omega)) (Kd.C_below HR.out ((hu0.trans0 hu).trans hW (fun z hz hl => by simp at hz; have := HBX.out; omega)).below) (by rw [← HN.out]; exact hx) (by rw [← HN.out]; exact hy) (by rw [← HN.out]; omega))
      simp only [List.length_range] at hsort
      have HL1 := Lib.hid hl1
      have HDL := Lib.hid hdl
      have HSORT := Lib.hid hsort
      have HHU0 := Lib.hid hu0
      have HHU := Lib.hid hu
      clear hl1 hdl hbl hsort htk hu0 hu hown hrow
      have hmk := fun (W : World) => run_make_row' (P := Try.prog) 35 3 (.int .i64 0) 8 Try.underlying35 infoP rfl .i64 .i64 k (by omega) (by omega) W
      go_wp2_with fail
      refine HSORT.out.mono ?_
      rintro e w1 ⟨rfl, M', hp, hR, hr, hu1⟩
      have hMl : M'.length = k := by rw [hp.length_eq]; simp
      have HP := Lib.hid hp
      have HRR := Lib.hid hR
      have HML := Lib.hid hMl
      have hsz1 := hu1.size
      have hgl := hr.lt
      obtain ⟨g2, hg2⟩ : ∃ g2, g2 = w1.heap.size := ⟨_, rfl⟩
      have hrow2 := World.rowIs_made w1 (.int .i64 0) k 3
      rw [← hg2] at hrow2
      obtain ⟨w2, hw2⟩ : ∃ w2, w2 = w1.alloc (.cells (madeCells #[.int .i64 0] k) 3) := ⟨_, rfl⟩
      rw [← hw2] at hrow2
      have hu2 : Upd [] w1 w2 := by rw [hw2]; exact (Upd.refl _ _).alloc _
      have hr2 := hr.keep hu2 (by simp)
      have HU1 := Lib.hid hu1
      have HU2 := Lib.hid hu2
      have HG2 := Lib.hid hg2
      have HW2 := Lib.hid hw2
      have hgg : g ≠ g2 := by omega
      clear hp hR hMl hu1 hr hu2 hg2 hw2
      go_wp2
      rw [← HG2.out, ← HW2.out]
      clear HSORT hmk
      go_loopw [27] (fun i wr => ∃ q : Nat, q ≤ k ∧ i = .int .i64 q ∧ Upd [g2] w2 wr ∧ wr.rowIs g2 3 k (fun x => .int .i64 (if x ∈ M'.take q then (k : Int) - (Go.Proofs.YtniphoeoeekpbaaH.ahead (dls l0_2) x : Nat) else 0))) (fun i _ => k - (intOf i).toNat)
      case atStart => exact ⟨0, Nat.zero_le _, rfl, Upd.refl _ _, hrow2.congr (fun x hx => by simp)⟩
      case round =>
        obtain ⟨q, hq, rfl, hu3, hrow3⟩ := hrel
        have hr3 := hr2.keep hu3 (by simp [hgg])
        by_cases hlt : q < k
        · obtain ⟨x, hx⟩ : ∃ x, x = M'.getD q 0 := ⟨_, rfl⟩
          have hc := hr3.cell (i := q) (by rw [HML.out]; exact hlt)
          rw [← hx] at hc
          have hxk : x < k := by
            have := HP.out.mem_iff.1 (by rw [hx]; exact Go.Proofs.YtniphoeoeekpbaaH.getD_mem (by rw [HML.out]; exact hlt) : x ∈ M')
            simpa using this
          have hst := hrow3.cell hxk
          have hfz := hrow3.frozen x
          have hx0 : (0 : Int) ≤ (x : Int) := by omega
          have hx1 : (x : Int) < (k : Int) := by omega
          have HX := Lib.hid hx
          have HROW := Lib.hid hrow3
          clear hx hrow3
          go_wp2
          go_roundw
          case rel =>
            refine ⟨q + 1, by omega, by go_num, ?_, ?_⟩
            · exact hu3.setCell _ _ (by simp)
            · refine (HROW.out.set x (.int .i64 ((k : Int) - q))).congr (fun z hz => ?_)
              have htk := Go.Proofs.YtniphoeoeekpbaaH.take_snoc_getD (M := M') (k := q) (by rw [HML.out]; exact hlt)
              rw [htk, ← HX.out]
              by_cases hzx : z = x
              · subst hzx
                have hpl := Go.Proofs.YtniphoeoeekpbaaH.sorted_place (dls l0_2) M' (by rw [HDL.out]; exact HP.out) HRR.out q (by rw [HML.out]; exact hlt)
                rw [← HX.out] at hpl
                simp [hpl]
              · simp [hzx]
          case measure => simp [intOf]; omega
        · obtain rfl : q = k := by omega
          go_wp2
          go_ret
          refine ⟨_, rfl, ?_, ?_⟩
          · refine R_of_rowI hrow3 (by have := HU2.out.size; have := HG2.out; have := HBX.out; omega) (by unfold maxLen; omega) (by rw [Go.Proofs.YtniphoeoeekpbaaH.prios_len, HDL.out]) (fun x hx => ?_)
            have hm : x ∈ M'.take q := by
              rw [List.take_of_length_le (by rw [HML.out]; omega)]
              exact HP.out.mem_iff.2 (by simpa using hx)
            rw [if_pos hm, Go.Proofs.YtniphoeoeekpbaaH.prios_get _ _ (by rw [HDL.out]; exact hx), HDL.out]
          · have h1 : Upd [] w wr := ((((HHU0.out.trans0 HHU.out).trans HU1.out (fun z hz hl => by simp at hz; have := HBX.out; omega)).trans0 HU2.out)).trans hu3 (fun z hz hl => by simp at hz; have := HG2.out; have := HBX.out; have := HU1.out.size; omega)
            exact h1.below


/-! ### slices_Index_int_int: function 39 -/
def slices_Index_int_int.l0 : Nat → List Int → Int → Int → Int → Option (Int)
  | 0, _, _, _, _ => none
  | k + 1, x0, x1, x7, x8 => if x8 < x7 then (if 0 ≤ x8 then (if x8 < (x0.length : Int) then (if x1 = (rd x0 x8) then (some x8) else (slices_Index_int_int.l0 k x0 x1 x7 (wrap64 (x8 + 1)))) else (none)) else (none)) else (some (-1))
def slices_Index_int_int.f (k : Nat) (l0 : List Int) (a1 : Int) : Option (Int) := slices_Index_int_int.l0 k l0 a1 (l0.length : Int) 0
theorem slices_Index_int_int.mono_l : ∀ k, (∀ y0 y1 y2 y3, LeO (slices_Index_int_int.l0 k y0 y1 y2 y3) (slices_Index_int_int.l0 (k + 1) y0 y1 y2 y3))
  | 0 => fun _ _ _ _ r h => by simp [slices_Index_int_int.l0] at h
  | k + 1 => by
    have ih0 := slices_Index_int_int.mono_l k
    · intro y0 y1 y2 y3
      unfold slices_Index_int_int.l0
      repeat' first
      | (with_reducible exact ih0 _ _ _ _)
      | (with_reducible exact LeO.refl _)
      | (with_reducible exact LeO.none _)
      | (with_reducible refine LeO.ite ?_ ?_)
      | (with_reducible refine LeO.bind ?_ (fun _ => ?_))
      | exact ih0 _ _ _ _
      | exact LeO.none _
      | refine LeO.ite ?_ ?_
      | refine LeO.bind ?_ (fun _ => ?_)
theorem slices_Index_int_int.mono : ∀ a0 a1 k, LeO (slices_Index_int_int.f k a0 a1) (slices_Index_int_int.f (k + 1) a0 a1) := by
  intro a0 a1 k
  have ih0 := slices_Index_int_int.mono_l k
  unfold slices_Index_int_int.f
  repeat' first
      | (with_reducible exact ih0 _ _ _ _)
      | (with_reducible exact LeO.refl _)
      | (with_reducible exact LeO.none _)
      | (with_reducible refine LeO.ite ?_ ?_)
      | (with_reducible refine LeO.bind ?_ (fun _ => ?_))
      | exact ih0 _ _ _ _
      | exact LeO.none _
      | refine LeO.ite ?_ ?_
      | refine LeO.bind ?_ (fun _ => ?_)
set_option maxHeartbeats 8000000 in
set_option maxRecDepth 100000 in
theorem slices_Index_int_int.calls (k : Nat) (A0 : Option Addr) (c0 : Nat) (l0 : List Int) (a1 : Int) (r : Int) (w : World) (hr0 : Kd.C (Kd.int .i64) w A0 l0.length l0) (hc0 : l0.length ≤ c0) (h : slices_Index_int_int.f k l0 a1 = some r) :
    Calls Try.prog 39 #[.slice A0 l0.length c0, .int .i64 a1] w fun e w' => e = .returned (.int .i64 r) ∧ Drawn0 w w' := by
  have HR0 := Aside0.mk hr0
  have HC0 := Aside0.mk hc0
  clear hr0 hc0
  have H : (slices_Index_int_int.l0 k l0 a1 (l0.length : Int) 0) = some r := h
  clear h
  have H' := Aside0.mk H
  clear H
  go_enter Try.func39, Try.ntmps39
  go_wp2
  go_loopg [8] k (fun kq v8 w' => ∃ (x8_1 : Int), v8 = .int .i64 x8_1 ∧ Aside0 (slices_Index_int_int.l0 kq l0 a1 (l0.length : Int) x8_1 = some r) ∧ Aside0 (kq ≤ k) ∧ Drawn0 w w')
  case atStart => exact ⟨(0), (by first | rfl | (simp; done) | (simp [*]; done) | (simp [Int.tdiv_eq_ediv_of_nonneg]; done)), H', ⟨Nat.le_refl _⟩, by repeat (first | exact Drawn0.refl _ | apply Drawn0.step)⟩
  case round =>
    clear H'
    try clear p2
    obtain ⟨x8_1, rfl, HA, HK1, ⟨m1, rfl⟩⟩ := hrel
    cases gk with
    | zero => exact absurd HA.out (by simp [slices_Index_int_int.l0])
    | succ k1 =>
      have H := HA.out
      clear HA
      simp only [slices_Index_int_int.l0] at H
      by_cases c3 : x8_1 < (l0.length : Int)
      · rw [if_pos c3] at H
        have c3b0 : decide (x8_1 < (l0.length : Int)) = true := decide_eq_true c3
        clear c3
        by_cases c4 : 0 ≤ x8_1
        · rw [if_pos c4] at H
          have c4b0 : decide (0 ≤ x8_1) = true := decide_eq_true c4
          clear c4
          by_cases c5 : x8_1 < (l0.length : Int)
          · rw [if_pos c5] at H
            have c5b0 : decide (x8_1 < (l0.length : Int)) = true := decide_eq_true c5
            clear c5
            by_cases c6 : a1 = (rd l0 x8_1)
            · rw [if_pos c6] at H
              have c6b0 : (a1 == (rd l0 x8_1)) = true := beq_iff_eq.mpr c6
              have c6b1 : (a1 != (rd l0 x8_1)) = false := bne_eq_false_iff_eq.mpr c6
              clear c6
              obtain rfl := Option.some.inj H
              have p101 : 0 ≤ (x8_1 : Int) := of_decide_eq_true (by first | (with_reducible assumption) | assumption)
              have q101 : x8_1 < (l0.length : Int) := of_decide_eq_true (by first | (with_reducible assumption) | assumption)
              obtain ⟨ad101, e101, hx101_0⟩ := Kd.at_int HR0.out x8_1 p101 q101
              cases e101
              replace p101 := eq_true p101
              replace q101 := eq_true q101
              go_wp2
              go_ret
              exact ⟨by first | rfl | (simp; done) | (simp [*]; done) | (simp [Int.tdiv_eq_ediv_of_nonneg]; done), by repeat (first | exact Drawn0.refl _ | apply Drawn0.step)⟩
            · rw [if_neg c6] at H
              have c6b0 : (a1 == (rd l0 x8_1)) = false := beq_eq_false_iff_ne.mpr c6
              have c6b1 : (a1 != (rd l0 x8_1)) = true := bne_iff_ne.mpr c6
              have H' := Aside0.mk H
              clear H
              have p101 : 0 ≤ (x8_1 : Int) := of_decide_eq_true (by first | (with_reducible assumption) | assumption)
              have q101 : x8_1 < (l0.length : Int) := of_decide_eq_true (by first | (with_reducible assumption) | assumption)
              obtain ⟨ad101, e101, hx101_0⟩ := Kd.at_int HR0.out x8_1 p101 q101
              cases e101
              replace p101 := eq_true p101
              replace q101 := eq_true q101
              go_wp2
              go_roundg k1
              case measure => have := HK1.out; omega
              case rel => exact ⟨(wrap64 (x8_1 + 1)), (by first | rfl | (simp; done) | (simp [*]; done) | (simp [Int.tdiv_eq_ediv_of_nonneg]; done)), H', ⟨by have := HK1.out; omega⟩, by repeat (first | exact Drawn0.refl _ | apply Drawn0.step)⟩
          · rw [if_neg c5] at H
            exact absurd H (by simp)
        · rw [if_neg c4] at H
          exact absurd H (by simp)
      · rw [if_neg c3] at H
        have c3b0 : decide (x8_1 < (l0.length : Int)) = false := decide_eq_false c3
        clear c3
        obtain rfl := Option.some.inj H
        go_wp2
        go_ret
        exact ⟨by first | rfl | (simp; done) | (simp [*]; done) | (simp [Int.tdiv_eq_ediv_of_nonneg]; done), by repeat (first | exact Drawn0.refl _ | apply Drawn0.step)⟩

/-! ### slices_Contains_int_int: function 23 -/
def slices_Contains_int_int.f (k : Nat) (l0 : List Int) (a1 : Int) : Option (Bool) := (slices_Index_int_int.f k l0 a1).bind fun t102 => (some (decide (t102 ≥ 0)))
theorem slices_Contains_int_int.mono : ∀ a0 a1 k, LeO (slices_Contains_int_int.f k a0 a1) (slices_Contains_int_int.f (k + 1) a0 a1) := by
  intro a0 a1 k
  unfold slices_Contains_int_int.f
  repeat' first
      | (with_reducible exact slices_Index_int_int.mono _ _ _)
      | (with_reducible exact LeO.refl _)
      | (with_reducible exact LeO.none _)
      | (with_reducible refine LeO.ite ?_ ?_)
      | (with_reducible refine LeO.bind ?_ (fun _ => ?_))
      | exact slices_Index_int_int.mono _ _ _
      | exact LeO.none _
      | refine LeO.ite ?_ ?_
      | refine LeO.bind ?_ (fun _ => ?_)
set_option maxHeartbeats 8000000 in
set_option maxRecDepth 100000 in
theorem slices_Contains_int_int.calls (k : Nat) (A0 : Option Addr) (c0 : Nat) (l0 : List Int) (a1 : Int) (r : Bool) (w : World) (hr0 : Kd.C (Kd.int .i64) w A0 l0.length l0) (hc0 : l0.length ≤ c0) (h : slices_Contains_int_int.f k l0 a1 = some r) :
    Calls Try.prog 23 #[.slice A0 l0.length c0, .int .i64 a1] w fun e w' => e = .returned (.bool r) ∧ Drawn0 w w' := by
  have HR0 := Aside0.mk hr0
  have HC0 := Aside0.mk hc0
  clear hr0 hc0
  have H : ((slices_Index_int_int.f k l0 a1).bind fun t102 => (some (decide (t102 ≥ 0)))) = some r := h
  clear h
  replace H := Option.bind_eq_some_iff.mp H
  obtain ⟨t102, A30, H⟩ := H
  replace H : (some (decide (t102 ≥ 0))) = some r := H
  have A3 := Aside0.mk A30
  clear A30
  obtain rfl := Option.some.inj H
  go_enter Try.func23, Try.ntmps23
  go_wp2_with (first | ((with_reducible refine gate_callee (f := 39) rfl ?_); refine goesL_ (some 7) rfl rfl Try.func39 (by kernel_rfl) rfl #[.slice A0 l0.length c0, .int .i64 a1] rfl (by (try simp only [List.map_toArray, List.map_cons, List.map_nil]); first | done | rfl | (simp only [List.length_drop, List.length_take]; rfl)) ?_; (with_reducible refine (slices_Index_int_int.calls k _ _ l0 a1 t102 _ ?side1 ?side2 A3.out).mono ?_); (case side1 => repeat (first | exact HR0.out | (with_reducible refine Kd.C_alloc ?_ _) | (with_reducible refine Kd.C_drewN ?_ _) | (with_reducible refine Kd.C_drew ?_))); (case side2 => exact HC0.out); rintro e w' ⟨rfl, ⟨nd, rfl⟩⟩; refine ⟨_, rfl, ?_⟩))
  go_ret
  exact ⟨by first | rfl | (simp; done) | (simp [*]; done) | (simp [Int.tdiv_eq_ediv_of_nonneg]; done), by repeat (first | exact Drawn0.refl _ | apply Drawn0.step)⟩

/-! ### prog_Locks: function 24 -/
open Go.Proofs.YtniphoeoeekpbaaH (Upd Rd)
def locksL (l : List S52) : List Int := (l.filter fun o => o.f0 == 2).map (·.f1)
def prog_Locks.f (k : Nat) (l0 : List (S52)) : Option (List Int) := if l0.length ≤ 1000000000 ∧ (locksL l0).length ≤ 12 ∧ (locksL l0).Pairwise (· < ·) then some (locksL l0) else none
theorem prog_Locks.mono : ∀ a0 k, LeO (prog_Locks.f k a0) (prog_Locks.f (k + 1) a0) := fun _ _ => LeO.refl _
theorem tIntL : Go.Proofs.YtniphoeoeekpbaaH.ElemT Try.prog 35 3 (.int .i64 0) 1 8 :=
  ⟨Try.underlying35, by
    obtain ⟨i, hi, h⟩ := info_parts (show (Try.prog.info? 3).map (fun i => (i.zero, i.size, i.bytes)) = some (some (.int .i64 0), 1, 8) by kernel_rfl)
    exact ⟨i, hi, h⟩, rfl, by decide⟩
theorem R_of_ownI {w : World} {base n : Nat} {v : Value} {e : Nat} {xs : List Int} (h : w.ownsRow base e 1 v n (xs.map (Value.int .i64))) : Kd.R (Kd.int .i64) e w base (fun _ => True) v xs := by
  have hn : n = xs.length := by have := h.1; simpa using this.symm
  subst hn
  exact Kd.R_of_own (enc := Value.int .i64) (h1 := fun _ => rfl) h (fun _ _ => trivial)
set_option maxHeartbeats 8000000 in
set_option maxRecDepth 100000 in
theorem prog_Locks.calls (k : Nat) (A0 : Option Addr) (c0 : Nat) (l0 : List (S52)) (r : List Int) (w : World) (hr0 : Kd.C k52 w A0 l0.length l0) (hc0 : l0.length ≤ c0) (h : prog_Locks.f k l0 = some r) :
    Calls Try.prog 24 #[.slice A0 l0.length c0] w fun e w' => ∃ v0_ : Value, e = .returned (v0_) ∧ Kd.R (Kd.int .i64) 3 w' w.heap.size (fun _ => True) v0_ r ∧ Below w.heap.size w w' := by
  unfold prog_Locks.f at h
  split at h
  case isFalse => cases h
  case isTrue hm =>
  injection h with h
  subst h
  obtain ⟨hm, hf, hinc⟩ := hm
  have HF := Lib.hid hf
  have HINC := Lib.hid hinc
  have HR := Lib.hid hr0
  obtain ⟨N, hN⟩ : ∃ N, N = l0.length := ⟨_, rfl⟩
  have HN := Lib.hid hN
  rw [← hN] at hm ⊢
  clear hf hinc hr0 hc0 hN
  go_enter Try.func24, Try.ntmps24
  go_wp2
  go_loopw [3, 8] (fun v i wr => ∃ (k : Nat), k ≤ N ∧ i = .int .i64 k ∧ wr.ownsRow w.heap.size 3 1 v (locksL (l0.take k)).length ((locksL (l0.take k)).map (Value.int .i64)) ∧ Upd [] w wr) (fun _ i _ => N - (intOf i).toNat)
  case atStart => exact ⟨0, Nat.zero_le _, rfl, by simpa [locksL] using own_nil w w.heap.size 3 1, Upd.refl _ _⟩
  case round =>
    obtain ⟨k, hk, rfl, hown, hu⟩ := hrel
    by_cases hlt : k < N
    · have hkl : k < l0.length := by rw [← HN.out]; exact hlt
      obtain ⟨ad, A4, c4, rfl, x0, x1, x2, x3, x4, -, -⟩ := at_T52 (Kd.C_below HR.out hu.below) k (by omega) (by omega)
      obtain ⟨o, ho⟩ : ∃ o, o = rd_T52 l0 k := ⟨_, rfl⟩
      rw [← ho] at x0 x1 x2 x3 x4
      simp only [Int.toNat_natCast] at x0 x1 x2 x3 x4
      have htk : l0.take (k + 1) = l0.take k ++ [o] := by
        rw [List.take_succ_eq_append_getElem hkl, ho]
        simp [rd_T52, List.getD, hkl]
      have hll : (locksL (l0.take k)).length ≤ k := by
        have h1 := List.length_filter_le (fun o : S52 => o.f0 == 2) (l0.take k)
        have h2 : (l0.take k).length ≤ k := List.length_take_le _ _
        simp only [locksL, List.length_map]
        omega
      have hsz := hu.size
      have HTK := Lib.hid htk
      have HO := Lib.hid ho
      clear htk ho
      obtain ⟨m, hm2⟩ : ∃ m, m = (locksL (l0.take k)).length := ⟨_, rfl⟩
      rw [← hm2] at hown hll
      have HM := Lib.hid hm2
      clear hm2
      obtain ⟨vo, cap, rfl, hcap⟩ := Go.Proofs.YtniphoeoeekpbaaH.own_slice hown
      by_cases h2 : o.f0 = 2
      · have t2 : (o.f0 == 2) = true := beq_iff_eq.2 h2
        have HL : Hid (locksL (l0.take (k + 1)) = locksL (l0.take k) ++ [o.f1]) := Lib.hid (by rw [HTK.out]; simp [locksL, h2])
        have hm1 : m + 1 ≤ maxLen := by unfold maxLen; omega
        have hm3 : (m + 1) * 8 ≤ 140737488355328 := by omega
        have hown2 := Go.Proofs.YtniphoeoeekpbaaH.own_keep0 hown ((Upd.refl [] wr).alloc (.cells #[.int .i64 o.f0, .int .i64 o.f1, .int .i64 o.f2, .int .i64 o.f3, .slice A4 o.f4.length c4] 52))
        have hb2 : w.heap.size ≤ (wr.alloc (.cells #[.int .i64 o.f0, .int .i64 o.f1, .int .i64 o.f2, .int .i64 o.f3, .slice A4 o.f4.length c4] 52)).heap.size := by simp; omega
        clear h2
        go_wp2_with (first
          | (at_builtin; refine Go.Proofs.YtniphoeoeekpbaaH.wp_push_at tIntL rfl (.tmp 15) (.tmp 18) rfl hown2 [.int .i64 o.f1] rfl rfl (World.size_alloc _ _).symm rfl (by intro u hu; simp at hu; subst hu; rfl) hm1 hm3 hb2 ?_; intro g3 c3 w3 hown3 hu3))
        have HU3 := Lib.hid hu3
        have HOWN3 := Lib.hid hown3
        have HOWN := Lib.hid hown
        clear hu3 hown3 hown2 hown
        go_wp2
        go_roundw
        case rel =>
          refine ⟨k + 1, by omega, by go_num, ?_, ?_⟩
          · rw [HL.out, List.length_append, ← HM.out]
            simpa using HOWN3.out
          · exact (hu.alloc _).trans HU3.out (fun x hx hl => by
              have := (HOWN.out.lt x (by simpa using hx)).1
              omega)
        case measure => simp [intOf]; omega
      · have t2 : (o.f0 == 2) = false := beq_eq_false_iff_ne.2 h2
        have HL : Hid (locksL (l0.take (k + 1)) = locksL (l0.take k)) := Lib.hid (by rw [HTK.out]; simp [locksL, h2])
        clear h2
        go_wp2
        go_roundw
        case rel => exact ⟨k + 1, by omega, by go_num, by rw [HL.out, ← HM.out]; exact Go.Proofs.YtniphoeoeekpbaaH.own_keep0 hown ((Upd.refl [] wr).alloc _), hu.alloc _⟩
        case measure => simp [intOf]; omega
    · obtain rfl : k = N := by omega
      have htk : l0.take k = l0 := List.take_of_length_le (by rw [← HN.out]; exact Nat.le_refl _)
      rw [htk] at hown
      obtain ⟨n, hn⟩ : ∃ n, n = (locksL l0).length := ⟨_, rfl⟩
      have hn12 : n ≤ 12 := by rw [hn]; exact HF.out
      rw [← hn] at hown
      have HNN := Lib.hid hn
      clear htk hn
      rcases hown.2 with ⟨rfl, h0⟩ | ⟨g, cap, cur, rfl, hb, -⟩
      · have HO := Lib.hid hown
        have H0 := Lib.hid h0
        clear hown h0
        go_wp2_with fail
        refine (Go.Proofs.YtniphoeoeekpbaaH.sort_nil _).mono ?_
        rintro e w1 ⟨rfl, rfl⟩
        go_wp2_with fail
        refine (Go.Proofs.YtniphoeoeekpbaaH.compact_nil _).mono ?_
        rintro e w1 ⟨rfl, rfl⟩
        go_wp2
        go_ret
        exact ⟨_, rfl, R_of_ownI HO.out, hu.below⟩
      · have hs := Go.Proofs.YtniphoeoeekpbaaH.sort_inc g cap w.heap.size (locksL l0) wr n HNN.out hown HINC.out hn12
        have HS := Lib.hid hs
        have HO := Lib.hid hown
        clear hs hown
        go_wp2_with fail
        refine HS.out.mono ?_
        rintro e w1 ⟨rfl, hu1⟩
        have hc := Go.Proofs.YtniphoeoeekpbaaH.compact_inc g cap w.heap.size (locksL l0) w1 n HNN.out (Go.Proofs.YtniphoeoeekpbaaH.own_keep0 HO.out hu1) HINC.out hn12
        have HC := Lib.hid hc
        have HU1 := Lib.hid hu1
        clear hc hu1
        go_wp2_with fail
        refine HC.out.mono ?_
        rintro e w2 ⟨rfl, hu2⟩
        go_wp2
        go_ret
        exact ⟨_, rfl, R_of_ownI (Go.Proofs.YtniphoeoeekpbaaH.own_keep0 HO.out (HU1.out.trans0 hu2)), ((hu.trans0 HU1.out).trans0 hu2).below⟩


end Go.Proofs.Ytniphoeoeekpbaa.XA
