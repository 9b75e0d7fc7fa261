/- Of those that wait at a channel the greatest goes first: the walk. -/
import Derived.Test.YthchclhleppdhaaChanRow
import Derived.Test.YthchclhleppdhaaChanKnown
import Derived.Test.YthchclhleppdhaaRowZ
namespace Go.Proofs.Ythchclhleppdhaa
set_option linter.unusedVariables false
set_option linter.unusedSimpArgs false
open Go.RowKit
def mkC (i : Nat) : Wt := ⟨i, 0, i, 100 + i⟩
theorem mkC_fn : RowFn mkC := ⟨fun _ => rfl, fun _ => rfl, fun _ => rfl⟩
theorem get_u8c (xs : List Int) (j : Nat) (h : j < xs.length) : (xs.map (Value.int .u8))[j]? = some (.int .u8 (xs.getD j 0)) := by
  rw [List.getElem?_map, List.getElem?_eq_getElem h]
  simp [List.getD, h]
theorem take_snoc_C {xs : List Int} {k : Nat} (hk : k < xs.length) : xs.take (k + 1) = xs.take k ++ [xs.getD k 0] := by
  rw [List.take_succ_eq_append_getElem hk]
  simp [List.getD, hk]
theorem prioC (ps : List Int) (i : Nat) (h : i < ps.length) : prioOf ps (i : Int) = ps.getD i 0 := by
  unfold prioOf
  rw [if_neg (by omega), if_neg (by omega)]
  simp
set_option maxHeartbeats 16000000 in
set_option maxRecDepth 100000 in
theorem chanFirst_send (a : Option Addr) (cap : Nat) (xs : List Int) (w : World) (hr : Rd w (.slice a xs.length cap) xs.length (xs.map (Value.int .u8))) (hx : ∀ n ∈ xs, (Lit.int .u8 n).wf = true) :
    Calls Try.prog 3 #[.slice a xs.length cap, .bool true] w fun e w' => e = .returned (.bool true) ∧ Upd [] w w' := by
  have hxb : ∀ j, j < xs.length → 0 ≤ xs.getD j 0 ∧ xs.getD j 0 ≤ 255 := fun j hj => wf_u8 (hx (xs.getD j 0) (by rw [List.getD_eq_getElem?_getD, List.getElem?_eq_getElem (by omega)]; simp))
  obtain ⟨m, hm⟩ : ∃ m, m = xs.length := ⟨_, rfl⟩
  have HRD := Lib.hid hr
  have HXB := Lib.hid hxb
  have HM := Lib.hid hm
  rw [← hm]
  clear hr hx hxb hm
  by_cases hsm : m < 1
  · have hd0 : decide ((m : Int) < 1) = true := decide_eq_true (by omega)
    go_enter Try.func3, Try.ntmps3
    go_wp2_with fail
    refine (known15_ok _).mono ?_
    rintro e w1 ⟨rfl, hU⟩
    go_wp2
    go_ret
    exact ⟨rfl, hU⟩
  have hd0 : decide ((m : Int) < 1) = false := decide_eq_false (by omega)
  by_cases hlg : 40 < m
  · have hd1 : decide (40 < (m : Int)) = true := decide_eq_true (by omega)
    go_enter Try.func3, Try.ntmps3
    go_wp2_with fail
    refine (known15_ok _).mono ?_
    rintro e w1 ⟨rfl, hU⟩
    go_wp2
    go_ret
    exact ⟨rfl, hU⟩
  have hd1 : decide (40 < (m : Int)) = false := decide_eq_false (by omega)
  have hlg : m ≤ 40 := by omega
  have hmk : ∀ W : World, (Instr.makeSlice 32 (.int .i64 (m : Int)) (.int .i64 (m : Int))).run Try.prog W = .ok (.slice (some ⟨W.heap.size, 0, none⟩) m m) (W.alloc (.cells (madeCells #[.bool false] m) 4)) :=
    fun W => run_make_row' 32 4 (.bool false) 1 Try.underlying32 bool_info14 rfl .i64 .i64 m (by omega) (by omega) W
  go_enter Try.func3, Try.ntmps3
  go_wp2_with fail
  refine (known15_ok _).mono ?_
  rintro e w1 ⟨rfl, hU1⟩
  go_wp2_with fail
  refine (chanNew_ok 0 (by decide) _).mono ?_
  rintro e w2 ⟨p, rp, c, rfl, hC, hu2, hp2, hrp2, hc2⟩
  have hU2 := hU1.trans0 hu2
  have hwp : w.heap.size ≤ p := Nat.le_trans hU1.size hp2
  have hwc : w.heap.size ≤ c := Nat.le_trans hU1.size hc2
  have HU := Lib.hid hU2
  have HC := Lib.hid (show ChanP w2 p rp c 0 [] (rowF mkC 0 (fun _ => true)) [] false from hC)
  clear hC hu2 hU1 hU2 hp2 hrp2 hc2
  go_wp2
  go_loopw [7, 8] (fun pv iv wr => ∃ (j : Nat) (pa : Option Addr) (pc : Nat), iv = .int .i64 j ∧ pv = .slice pa j pc ∧ j ≤ m ∧ Hid (wr.ownsRow w.heap.size 3 1 (.slice pa j pc) j ((xs.take j).map (Value.int .i64))) ∧ Hid (ChanP wr p rp c 0 [] (rowF mkC j (fun _ => true)) [] false) ∧ Hid (Upd [] w wr)) (fun _ iv _ => m - (intOf iv).toNat)
  case atStart => exact ⟨0, none, 0, rfl, rfl, Nat.zero_le _, Lib.hid (World.ownsRow_nil _ _ _ _), HC, HU⟩
  case round =>
    clear HC HU
    obtain ⟨j, pa, pc, rfl, rfl, hj, HP, HC, HU⟩ := hrel
    by_cases hlt : j < m
    · obtain ⟨hv0, hv1⟩ := HXB.out j (by rw [← HM.out]; exact hlt)
      have hc := get_u8c xs j (by rw [← HM.out]; exact hlt)
      have hnext := take_snoc_C (xs := xs) (k := j) (by rw [← HM.out]; exact hlt)
      generalize xs.getD j 0 = v at hv0 hv1 hc hnext
      obtain ⟨b', off, rfl, hcell⟩ := HRD.out.at (by rw [← HM.out]; omega)
      have gw := HU.out.cell (hcell j _ hc) (by simp)
      have hj0 : (0 : Int) ≤ (j : Int) := by omega
      have hj1 : (j : Int) < (m : Int) := by omega
      have hm1 : j + 1 ≤ maxLen := by unfold maxLen; omega
      have hm3 : (j + 1) * 8 ≤ 140737488355328 := by omega
      have hsz := HU.out.size
      have HN := Lib.hid hnext
      have w100 : IntKind.i64.wrap (100 + (j : Int)) = 100 + (j : Int) := by rw [IntWalk.i64_in _ (by omega)]
      clear hcell hc hnext
      go_wp2_with (first
        | (at_builtin; refine wp_push tInt rfl (.tmp 44) (.tmp 50) rfl HP.out [.int .i64 v] rfl rfl rfl (by intro y hy; simp at hy; subst hy; rfl) hm1 hm3 hsz ?_; intro g3 c3 w3 hown3 hu3; have HC3 := Lib.hid (HC.out.beside HP.out (by decide) (by decide) (by decide) hu3); have HU3 := Lib.hid (HU.out.trans hu3 (fun x hx hl => by have := (HP.out.lt x (by simpa using hx)).1; omega)); have HP3 := Lib.hid hown3; clear hown3 hu3))
      have hno := rowF_has2 mkC_fn j (fun _ => true) j (Nat.le_refl j)
      refine (chanWaitS_any p rp c 0 [] ((rowF mkC j (fun _ => true))) [] false (mkC j) _ HC3.out (by simp [canS, canR]) (by rw [rowF_all_len]; omega)).mono ?_
      simp only [hno, Bool.false_eq_true, if_false]
      rintro e w4 ⟨rfl, hC4, hu4⟩
      rw [← rowF_all_succ] at hC4
      have HP4 := Lib.hid (HC3.out.row HP3.out (by decide) hu4.pc1)
      have HU4 := Lib.hid (HU3.out.fresh hu4.pc1 hwp hwc)
      have HC4 := Lib.hid hC4
      clear hC4 hu4 hno gw
      go_wp2
      go_roundw
      case rel => exact ⟨j + 1, _, _, by go_num, rfl, by omega, Lib.hid (by rw [HN.out, List.map_append]; exact HP4.out), HC4, HU4⟩
      case measure => simp [intOf]; omega
    · obtain rfl : j = m := by omega
      obtain ⟨g, hg⟩ : ∃ g, g = wr.heap.size := ⟨_, rfl⟩
      have hrow := World.rowIs_made wr (.bool false) j 4
      rw [← hg] at hrow
      have hua := (Upd.refl [] wr).alloc (.cells (madeCells #[.bool false] j) 4)
      have hP0 := own_keep0 HP.out hua
      rw [List.take_of_length_le (by rw [← HM.out]; exact Nat.le_refl _)] at hP0
      have hC0 := HC.out.keep0 hua
      have hU0 := HU.out.trans0 hua
      have hgw : w.heap.size ≤ g := by rw [hg]; exact HU.out.size
      have HG := Lib.hid hg
      have HROW := Lib.hid hrow
      have HP0 := Lib.hid hP0
      have HC0 := Lib.hid hC0
      have HU0 := Lib.hid hU0
      clear hP0 hC0 hU0 hrow hg hua HP HC HU
      go_wp2
      rw [← HG.out]
      obtain ⟨wm, hwm⟩ : ∃ wm, wm = wr.alloc (.cells (madeCells #[.bool false] j) 4) := ⟨_, rfl⟩
      rw [← hwm] at HROW HP0 HC0 HU0 ⊢
      clear hwm HG hmk hlt hj
      go_loopw [10, 11] (fun lv nv wr => ∃ (n : Nat) (z : Int) (P : Nat → Bool), nv = .int .i64 n ∧ lv = .int .i64 z ∧ n ≤ j ∧ Hid (z = -1 ∨ ∃ l : Nat, z = l ∧ l < j ∧ ∀ x, x < j → P x = true → xs.getD x 0 < xs.getD l 0 ∨ (xs.getD x 0 = xs.getD l 0 ∧ l < x)) ∧ Hid ((rowF mkC j P).length + n = j) ∧ Hid (wr.ownsRow w.heap.size 3 1 (.slice pa j pc) j (xs.map (Value.int .i64))) ∧ Hid (wr.rowIs g 4 j (fun x => .bool (!P x))) ∧ Hid (ChanP wr p rp c 0 [] ((rowF mkC j P)) [] false) ∧ Hid (Upd [] w wr)) (fun _ nv _ => j - (intOf nv).toNat)
      case atStart => exact ⟨0, -1, fun _ => true, rfl, rfl, Nat.zero_le _, Lib.hid (.inl rfl), Lib.hid (by rw [rowF_all_len]; rfl), HP0, Lib.hid (HROW.out.congr fun x hx => by simp), HC0, HU0⟩
      case round =>
        clear HP0 HROW HC0 HU0
        obtain ⟨n, z, P, rfl, rfl, hn, HZ, HL, HP, HROW, HC, HU⟩ := hrel
        by_cases hlt : n < j
        · obtain ⟨i, k, hbest, hik, hkj, hPk, hmax⟩ := rowF_best mkC_fn xs j P (rowF_some (f := mkC) (n := j) (P := P) (by have := HL.out; omega))
          have hps : RdI wr (.slice pa xs.length pc) xs := by have h := Rd.of_own HP.out; rw [HM.out] at h; exact h
          have her := rowF_erase mkC_fn j P i k hik
          have HCALL := Lib.hid (chanRecv_hand p rp c 0 (rowF mkC j P) [] pa pc xs i (mkC k) wr HC.out hps (by rw [← HM.out]; omega) (by have := rowF_len mkC j P; omega) hbest hik)
          rw [her, ← HM.out] at HCALL
          have hlen : (rowF mkC j P).length - 1 = (rowF mkC j (fun x => P x && !(x == k))).length := by
            rw [← her, List.length_eraseIdx, if_pos (bestTo_lt _ _ _ _ hbest)]
          have hlen2 : (rowF mkC j (fun x => P x && !(x == k))).length + (n + 1) = j := by have := HL.out; omega
          have hnew : ∀ x, x < j → (P x && !(x == k)) = true → xs.getD x 0 < xs.getD k 0 ∨ (xs.getD x 0 = xs.getD k 0 ∧ k < x) := by
            intro x hx hPx
            rw [Bool.and_eq_true] at hPx
            have h1 := hmax x hx hPx.1
            have h2 : x ≠ k := by simpa using hPx.2
            rw [prioC xs x (by rw [← HM.out]; exact hx), prioC xs k (by rw [← HM.out]; exact hkj)] at h1
            omega
          have HNEW := Lib.hid hnew
          have HLEN := Lib.hid hlen2
          have HPK := Lib.hid hPk
          have k0 : (0 : Int) ≤ (k : Int) := by omega
          have k1 : (k : Int) < (j : Int) := by omega
          have kd0 : decide ((k : Int) < 0) = false := decide_eq_false (by omega)
          have kd1 : decide ((j : Int) ≤ (k : Int)) = false := decide_eq_false (by omega)
          have kd2 : decide (j ≤ k) = false := decide_eq_false (by omega)
          have hf1 : (mkC k).task = k := rfl
          have hf2 : (mkC k).case_ = 0 := rfl
          have hf3 : (mkC k).v = 100 + (k : Int) := rfl
          simp only [hf1, hf2, hf3] at HCALL
          have w100 : IntKind.i64.wrap (100 + (k : Int)) = 100 + (k : Int) := by rw [IntWalk.i64_in _ (by omega)]
          clear hbest hik hPk hmax her hlen hlen2 hnew hps hf1 hf2 hf3
          go_wp2_with fail
          refine HCALL.out.mono ?_
          rintro e w5 ⟨g5, rfl, hg5, h5, hC5, hu5⟩
          obtain ⟨y0, y1, y2, y3⟩ := four_cells h5
          have hrow5 := HC.out.bools HROW.out (by decide) hu5.pc1
          have hP5 := HC.out.row HP.out (by decide) hu5.pc1
          have hU5 := HU.out.fresh hu5.pc1 hwp hwc
          have ch : w5.cell? ⟨g, k, none⟩ = some (.bool false) := by
            have h1 := hrow5.cell hkj
            simp only [HPK.out, Bool.not_true] at h1
            exact h1
          have fh := hrow5.frozen k
          have hgw5 : g < w5.heap.size := hrow5.lt
          obtain ⟨b', off, hbe, hcell⟩ := (Rd.of_own hP5).at (by omega)
          have ck := hcell k _ (get_ints (xs := xs) (by rw [← HM.out]; exact hkj))
          subst hbe
          have HGW5 := Lib.hid hgw5
          have FIN : Hid (∀ q, ∃ (n' : Nat) (z' : Int) (P' : Nat → Bool), (Value.int IntKind.i64 ((n : Int) + 1)) = .int .i64 n' ∧ (Value.int IntKind.i64 (k : Int)) = .int .i64 z' ∧ n' ≤ j ∧ Hid (z' = -1 ∨ ∃ l : Nat, z' = l ∧ l < j ∧ ∀ x, x < j → P' x = true → xs.getD x 0 < xs.getD l 0 ∨ (xs.getD x 0 = xs.getD l 0 ∧ l < x)) ∧ Hid ((rowF mkC j P').length + n' = j) ∧ Hid (((w5.drewN q).setCell ⟨g, k, none⟩ (.bool true)).ownsRow w.heap.size 3 1 (.slice (some ⟨b', off, none⟩) j pc) j (xs.map (Value.int .i64))) ∧ Hid (((w5.drewN q).setCell ⟨g, k, none⟩ (.bool true)).rowIs g 4 j (fun x => .bool (!P' x))) ∧ Hid (ChanP ((w5.drewN q).setCell ⟨g, k, none⟩ (.bool true)) p rp c 0 [] ((rowF mkC j P')) [] false) ∧ Hid (Upd [] w ((w5.drewN q).setCell ⟨g, k, none⟩ (.bool true)))) := Lib.hid (fun q => by
            have hud : Upd [] w5 (w5.drewN q) := (Upd.refl _ _).drewN q
            have hr5 := rowIs_keep14 hrow5 hud (by simp)
            have hp5 := own_keep0 hP5 hud
            have hc5 := hC5.keep0 hud
            have hrow6 : ((w5.drewN q).setCell ⟨g, k, none⟩ (.bool true)).rowIs g 4 j (fun x => .bool (!(P x && !(x == k)))) := (hr5.set k (.bool true)).congr fun x hx => by
              by_cases hxk : x = k
              · subst hxk; simp
              · have : (x == k) = false := beq_eq_false_iff_ne.2 hxk
                simp [hxk, this]
            have hu6 : Upd [g] (w5.drewN q) ((w5.drewN q).setCell ⟨g, k, none⟩ (.bool true)) := (Upd.refl [g] _).setCell _ _ (fun _ => by simp)
            have hna := row_apart hr5 hp5 types_ne2
            have hP6 := own_keep hp5 hu6 (fun q hq => by intro h; simp at h; subst h; exact hna (by simp [hq]))
            have hC6 := hc5.besideB hr5 (by decide) (by decide) (by decide) hu6
            have hU6 : Upd [] w ((w5.drewN q).setCell ⟨g, k, none⟩ (.bool true)) := (hU5.trans0 hud).setCell _ _ (fun h => by exfalso; dsimp only at h; omega)
            exact ⟨n + 1, k, fun x => P x && !(x == k), by go_num, rfl, by omega, Lib.hid (.inr ⟨k, rfl, hkj, HNEW.out⟩), Lib.hid HLEN.out, Lib.hid hP6, Lib.hid hrow6, Lib.hid hC6, Lib.hid hU6⟩)
          clear hrow5 hP5 hU5 h5 hC5 hu5 HCALL
          rcases HZ.out with hz | ⟨l, hz, hlj, hlast⟩
          · subst hz
            clear hcell
            go_wp2
            go_quiet (fail)
            go_wp2
            go_roundw
            case rel => exact FIN.out _
            case measure => simp [intOf]; omega
          · subst hz
            have hl := hlast k hkj HPK.out
            have cl := hcell l _ (get_ints (xs := xs) (by rw [← HM.out]; exact hlj))
            have z0 : (0 : Int) ≤ (l : Int) := by omega
            have z1 : (l : Int) < (j : Int) := by omega
            have zd : decide ((l : Int) ≥ 0) = true := decide_eq_true (by omega)
            have zd' : decide ((0 : Int) ≤ (l : Int)) = true := decide_eq_true (by omega)
            clear hcell hlast
            generalize xs.getD k 0 = pk at *
            generalize xs.getD l 0 = pl at *
            by_cases heq : pk = pl
            · have e1 : decide (pl < pk) = false := decide_eq_false (by omega)
              have e2 : (pk == pl) = true := beq_iff_eq.2 heq
              have e3 : decide ((k : Int) < (l : Int)) = false := decide_eq_false (by omega)
              have e4 : decide (k < l) = false := decide_eq_false (by omega)
              clear hl heq
              go_wp2
              go_quiet (fail)
              go_wp2
              go_roundw
              case rel => exact FIN.out _
              case measure => simp [intOf]; omega
            · have e1 : decide (pl < pk) = false := decide_eq_false (by omega)
              have e2 : (pk == pl) = false := beq_eq_false_iff_ne.2 heq
              clear hl heq
              go_wp2
              go_quiet (fail)
              go_wp2
              go_roundw
              case rel => exact FIN.out _
              case measure => simp [intOf]; omega
        · have hnj : n = j := by omega
          have hemp : rowF mkC j P = [] := List.eq_nil_of_length_eq_zero (by have := HL.out; omega)
          have hC := HC.out
          rw [hemp] at hC
          have HC' := Lib.hid hC
          clear hC
          go_wp2_with fail
          refine (chanSenders_any p rp c 0 [] [] [] false _ HC'.out (by decide)).mono ?_
          rintro e w5 ⟨a5, c5, rfl, ho5, hu5⟩
          have HC5 := Lib.hid (HC'.out.keep0 hu5)
          have HU5 := Lib.hid (HU.out.trans0 hu5)
          clear ho5 hu5
          go_wp2_with fail
          refine (chanReceivers_any p rp c 0 [] [] [] false _ HC5.out (by decide)).mono ?_
          rintro e w6 ⟨a6, c6, rfl, ho6, hu6⟩
          go_wp2
          go_ret
          exact ⟨rfl, HU5.out.trans0 hu6⟩
set_option maxHeartbeats 16000000 in
set_option maxRecDepth 100000 in
theorem chanFirst_recv (a : Option Addr) (cap : Nat) (xs : List Int) (w : World) (hr : Rd w (.slice a xs.length cap) xs.length (xs.map (Value.int .u8))) (hx : ∀ n ∈ xs, (Lit.int .u8 n).wf = true) :
    Calls Try.prog 3 #[.slice a xs.length cap, .bool false] w fun e w' => e = .returned (.bool true) ∧ Upd [] w w' := by
  have hxb : ∀ j, j < xs.length → 0 ≤ xs.getD j 0 ∧ xs.getD j 0 ≤ 255 := fun j hj => wf_u8 (hx (xs.getD j 0) (by rw [List.getD_eq_getElem?_getD, List.getElem?_eq_getElem (by omega)]; simp))
  obtain ⟨m, hm⟩ : ∃ m, m = xs.length := ⟨_, rfl⟩
  have HRD := Lib.hid hr
  have HXB := Lib.hid hxb
  have HM := Lib.hid hm
  rw [← hm]
  clear hr hx hxb hm
  by_cases hsm : m < 1
  · have hd0 : decide ((m : Int) < 1) = true := decide_eq_true (by omega)
    go_enter Try.func3, Try.ntmps3
    go_wp2_with fail
    refine (known15_ok _).mono ?_
    rintro e w1 ⟨rfl, hU⟩
    go_wp2
    go_ret
    exact ⟨rfl, hU⟩
  have hd0 : decide ((m : Int) < 1) = false := decide_eq_false (by omega)
  by_cases hlg : 40 < m
  · have hd1 : decide (40 < (m : Int)) = true := decide_eq_true (by omega)
    go_enter Try.func3, Try.ntmps3
    go_wp2_with fail
    refine (known15_ok _).mono ?_
    rintro e w1 ⟨rfl, hU⟩
    go_wp2
    go_ret
    exact ⟨rfl, hU⟩
  have hd1 : decide (40 < (m : Int)) = false := decide_eq_false (by omega)
  have hlg : m ≤ 40 := by omega
  have hmk : ∀ W : World, (Instr.makeSlice 32 (.int .i64 (m : Int)) (.int .i64 (m : Int))).run Try.prog W = .ok (.slice (some ⟨W.heap.size, 0, none⟩) m m) (W.alloc (.cells (madeCells #[.bool false] m) 4)) :=
    fun W => run_make_row' 32 4 (.bool false) 1 Try.underlying32 bool_info14 rfl .i64 .i64 m (by omega) (by omega) W
  go_enter Try.func3, Try.ntmps3
  go_wp2_with fail
  refine (known15_ok _).mono ?_
  rintro e w1 ⟨rfl, hU1⟩
  go_wp2_with fail
  refine (chanNew_ok 0 (by decide) _).mono ?_
  rintro e w2 ⟨p, rp, c, rfl, hC, hu2, hp2, hrp2, hc2⟩
  have hU2 := hU1.trans0 hu2
  have hwp : w.heap.size ≤ p := Nat.le_trans hU1.size hp2
  have hwc : w.heap.size ≤ c := Nat.le_trans hU1.size hc2
  have HU := Lib.hid hU2
  have HC := Lib.hid (show ChanP w2 p rp c 0 [] [] (rowF mkC 0 (fun _ => true)) false from hC)
  clear hC hu2 hU1 hU2 hp2 hrp2 hc2
  go_wp2
  go_loopw [7, 8] (fun pv iv wr => ∃ (j : Nat) (pa : Option Addr) (pc : Nat), iv = .int .i64 j ∧ pv = .slice pa j pc ∧ j ≤ m ∧ Hid (wr.ownsRow w.heap.size 3 1 (.slice pa j pc) j ((xs.take j).map (Value.int .i64))) ∧ Hid (ChanP wr p rp c 0 [] [] (rowF mkC j (fun _ => true)) false) ∧ Hid (Upd [] w wr)) (fun _ iv _ => m - (intOf iv).toNat)
  case atStart => exact ⟨0, none, 0, rfl, rfl, Nat.zero_le _, Lib.hid (World.ownsRow_nil _ _ _ _), HC, HU⟩
  case round =>
    clear HC HU
    obtain ⟨j, pa, pc, rfl, rfl, hj, HP, HC, HU⟩ := hrel
    by_cases hlt : j < m
    · obtain ⟨hv0, hv1⟩ := HXB.out j (by rw [← HM.out]; exact hlt)
      have hc := get_u8c xs j (by rw [← HM.out]; exact hlt)
      have hnext := take_snoc_C (xs := xs) (k := j) (by rw [← HM.out]; exact hlt)
      generalize xs.getD j 0 = v at hv0 hv1 hc hnext
      obtain ⟨b', off, rfl, hcell⟩ := HRD.out.at (by rw [← HM.out]; omega)
      have gw := HU.out.cell (hcell j _ hc) (by simp)
      have hj0 : (0 : Int) ≤ (j : Int) := by omega
      have hj1 : (j : Int) < (m : Int) := by omega
      have hm1 : j + 1 ≤ maxLen := by unfold maxLen; omega
      have hm3 : (j + 1) * 8 ≤ 140737488355328 := by omega
      have hsz := HU.out.size
      have HN := Lib.hid hnext
      have w100 : IntKind.i64.wrap (100 + (j : Int)) = 100 + (j : Int) := by rw [IntWalk.i64_in _ (by omega)]
      clear hcell hc hnext
      go_wp2_with (first
        | (at_builtin; refine wp_push tInt rfl (.tmp 44) (.tmp 50) rfl HP.out [.int .i64 v] rfl rfl rfl (by intro y hy; simp at hy; subst hy; rfl) hm1 hm3 hsz ?_; intro g3 c3 w3 hown3 hu3; have HC3 := Lib.hid (HC.out.beside HP.out (by decide) (by decide) (by decide) hu3); have HU3 := Lib.hid (HU.out.trans hu3 (fun x hx hl => by have := (HP.out.lt x (by simpa using hx)).1; omega)); have HP3 := Lib.hid hown3; clear hown3 hu3))
      have hno := rowF_has2 mkC_fn j (fun _ => true) j (Nat.le_refl j)
      refine (chanWaitR_any p rp c 0 [] [] ((rowF mkC j (fun _ => true))) false (mkC j) _ HC3.out (by simp [canS, canR]) (by rw [rowF_all_len]; omega)).mono ?_
      simp only [hno, Bool.false_eq_true, if_false]
      rintro e w4 ⟨rfl, hC4, hu4⟩
      rw [← rowF_all_succ] at hC4
      have HP4 := Lib.hid (HC3.out.row HP3.out (by decide) hu4.pc1)
      have HU4 := Lib.hid (HU3.out.fresh hu4.pc1 hwp hwc)
      have HC4 := Lib.hid hC4
      clear hC4 hu4 hno gw
      go_wp2
      go_roundw
      case rel => exact ⟨j + 1, _, _, by go_num, rfl, by omega, Lib.hid (by rw [HN.out, List.map_append]; exact HP4.out), HC4, HU4⟩
      case measure => simp [intOf]; omega
    · obtain rfl : j = m := by omega
      obtain ⟨g, hg⟩ : ∃ g, g = wr.heap.size := ⟨_, rfl⟩
      have hrow := World.rowIs_made wr (.bool false) j 4
      rw [← hg] at hrow
      have hua := (Upd.refl [] wr).alloc (.cells (madeCells #[.bool false] j) 4)
      have hP0 := own_keep0 HP.out hua
      rw [List.take_of_length_le (by rw [← HM.out]; exact Nat.le_refl _)] at hP0
      have hC0 := HC.out.keep0 hua
      have hU0 := HU.out.trans0 hua
      have hgw : w.heap.size ≤ g := by rw [hg]; exact HU.out.size
      have HG := Lib.hid hg
      have HROW := Lib.hid hrow
      have HP0 := Lib.hid hP0
      have HC0 := Lib.hid hC0
      have HU0 := Lib.hid hU0
      clear hP0 hC0 hU0 hrow hg hua HP HC HU
      go_wp2
      rw [← HG.out]
      obtain ⟨wm, hwm⟩ : ∃ wm, wm = wr.alloc (.cells (madeCells #[.bool false] j) 4) := ⟨_, rfl⟩
      rw [← hwm] at HROW HP0 HC0 HU0 ⊢
      clear hwm HG hmk hlt hj
      go_loopw [10, 11] (fun lv nv wr => ∃ (n : Nat) (z : Int) (P : Nat → Bool), nv = .int .i64 n ∧ lv = .int .i64 z ∧ n ≤ j ∧ Hid (z = -1 ∨ ∃ l : Nat, z = l ∧ l < j ∧ ∀ x, x < j → P x = true → xs.getD x 0 < xs.getD l 0 ∨ (xs.getD x 0 = xs.getD l 0 ∧ l < x)) ∧ Hid ((rowF mkC j P).length + n = j) ∧ Hid (wr.ownsRow w.heap.size 3 1 (.slice pa j pc) j (xs.map (Value.int .i64))) ∧ Hid (wr.rowIs g 4 j (fun x => .bool (!P x))) ∧ Hid (ChanP wr p rp c 0 [] [] ((rowF mkC j P)) false) ∧ Hid (Upd [] w wr)) (fun _ nv _ => j - (intOf nv).toNat)
      case atStart => exact ⟨0, -1, fun _ => true, rfl, rfl, Nat.zero_le _, Lib.hid (.inl rfl), Lib.hid (by rw [rowF_all_len]; rfl), HP0, Lib.hid (HROW.out.congr fun x hx => by simp), HC0, HU0⟩
      case round =>
        clear HP0 HROW HC0 HU0
        obtain ⟨n, z, P, rfl, rfl, hn, HZ, HL, HP, HROW, HC, HU⟩ := hrel
        by_cases hlt : n < j
        · obtain ⟨i, k, hbest, hik, hkj, hPk, hmax⟩ := rowF_best mkC_fn xs j P (rowF_some (f := mkC) (n := j) (P := P) (by have := HL.out; omega))
          have hps : RdI wr (.slice pa xs.length pc) xs := by have h := Rd.of_own HP.out; rw [HM.out] at h; exact h
          have her := rowF_erase mkC_fn j P i k hik
          have HCALL := Lib.hid (chanSend_hand p rp c 0 [] [] (rowF mkC j P) (n : Int) pa pc xs i (mkC k) wr HC.out hps (by rw [← HM.out]; omega) (by have := rowF_len mkC j P; omega) hbest hik)
          rw [her, ← HM.out] at HCALL
          have hlen : (rowF mkC j P).length - 1 = (rowF mkC j (fun x => P x && !(x == k))).length := by
            rw [← her, List.length_eraseIdx, if_pos (bestTo_lt _ _ _ _ hbest)]
          have hlen2 : (rowF mkC j (fun x => P x && !(x == k))).length + (n + 1) = j := by have := HL.out; omega
          have hnew : ∀ x, x < j → (P x && !(x == k)) = true → xs.getD x 0 < xs.getD k 0 ∨ (xs.getD x 0 = xs.getD k 0 ∧ k < x) := by
            intro x hx hPx
            rw [Bool.and_eq_true] at hPx
            have h1 := hmax x hx hPx.1
            have h2 : x ≠ k := by simpa using hPx.2
            rw [prioC xs x (by rw [← HM.out]; exact hx), prioC xs k (by rw [← HM.out]; exact hkj)] at h1
            omega
          have HNEW := Lib.hid hnew
          have HLEN := Lib.hid hlen2
          have HPK := Lib.hid hPk
          have k0 : (0 : Int) ≤ (k : Int) := by omega
          have k1 : (k : Int) < (j : Int) := by omega
          have kd0 : decide ((k : Int) < 0) = false := decide_eq_false (by omega)
          have kd1 : decide ((j : Int) ≤ (k : Int)) = false := decide_eq_false (by omega)
          have kd2 : decide (j ≤ k) = false := decide_eq_false (by omega)
          have hf1 : (mkC k).task = k := rfl
          have hf2 : (mkC k).case_ = 0 := rfl
          have hf3 : (mkC k).v = 100 + (k : Int) := rfl
          simp only [hf1, hf2, hf3] at HCALL
          have w100 : IntKind.i64.wrap (100 + (k : Int)) = 100 + (k : Int) := by rw [IntWalk.i64_in _ (by omega)]
          clear hbest hik hPk hmax her hlen hlen2 hnew hps hf1 hf2 hf3
          go_wp2_with fail
          refine HCALL.out.mono ?_
          rintro e w5 ⟨g5, rfl, hg5, h5, hC5, hu5⟩
          obtain ⟨y0, y1, y2, y3⟩ := four_cells h5
          have hrow5 := HC.out.bools HROW.out (by decide) hu5.pc1
          have hP5 := HC.out.row HP.out (by decide) hu5.pc1
          have hU5 := HU.out.fresh hu5.pc1 hwp hwc
          have ch : w5.cell? ⟨g, k, none⟩ = some (.bool false) := by
            have h1 := hrow5.cell hkj
            simp only [HPK.out, Bool.not_true] at h1
            exact h1
          have fh := hrow5.frozen k
          have hgw5 : g < w5.heap.size := hrow5.lt
          obtain ⟨b', off, hbe, hcell⟩ := (Rd.of_own hP5).at (by omega)
          have ck := hcell k _ (get_ints (xs := xs) (by rw [← HM.out]; exact hkj))
          subst hbe
          have HGW5 := Lib.hid hgw5
          have FIN : Hid (∀ q, ∃ (n' : Nat) (z' : Int) (P' : Nat → Bool), (Value.int IntKind.i64 ((n : Int) + 1)) = .int .i64 n' ∧ (Value.int IntKind.i64 (k : Int)) = .int .i64 z' ∧ n' ≤ j ∧ Hid (z' = -1 ∨ ∃ l : Nat, z' = l ∧ l < j ∧ ∀ x, x < j → P' x = true → xs.getD x 0 < xs.getD l 0 ∨ (xs.getD x 0 = xs.getD l 0 ∧ l < x)) ∧ Hid ((rowF mkC j P').length + n' = j) ∧ Hid (((w5.drewN q).setCell ⟨g, k, none⟩ (.bool true)).ownsRow w.heap.size 3 1 (.slice (some ⟨b', off, none⟩) j pc) j (xs.map (Value.int .i64))) ∧ Hid (((w5.drewN q).setCell ⟨g, k, none⟩ (.bool true)).rowIs g 4 j (fun x => .bool (!P' x))) ∧ Hid (ChanP ((w5.drewN q).setCell ⟨g, k, none⟩ (.bool true)) p rp c 0 [] [] ((rowF mkC j P')) false) ∧ Hid (Upd [] w ((w5.drewN q).setCell ⟨g, k, none⟩ (.bool true)))) := Lib.hid (fun q => by
            have hud : Upd [] w5 (w5.drewN q) := (Upd.refl _ _).drewN q
            have hr5 := rowIs_keep14 hrow5 hud (by simp)
            have hp5 := own_keep0 hP5 hud
            have hc5 := hC5.keep0 hud
            have hrow6 : ((w5.drewN q).setCell ⟨g, k, none⟩ (.bool true)).rowIs g 4 j (fun x => .bool (!(P x && !(x == k)))) := (hr5.set k (.bool true)).congr fun x hx => by
              by_cases hxk : x = k
              · subst hxk; simp
              · have : (x == k) = false := beq_eq_false_iff_ne.2 hxk
                simp [hxk, this]
            have hu6 : Upd [g] (w5.drewN q) ((w5.drewN q).setCell ⟨g, k, none⟩ (.bool true)) := (Upd.refl [g] _).setCell _ _ (fun _ => by simp)
            have hna := row_apart hr5 hp5 types_ne2
            have hP6 := own_keep hp5 hu6 (fun q hq => by intro h; simp at h; subst h; exact hna (by simp [hq]))
            have hC6 := hc5.besideB hr5 (by decide) (by decide) (by decide) hu6
            have hU6 : Upd [] w ((w5.drewN q).setCell ⟨g, k, none⟩ (.bool true)) := (hU5.trans0 hud).setCell _ _ (fun h => by exfalso; dsimp only at h; omega)
            exact ⟨n + 1, k, fun x => P x && !(x == k), by go_num, rfl, by omega, Lib.hid (.inr ⟨k, rfl, hkj, HNEW.out⟩), Lib.hid HLEN.out, Lib.hid hP6, Lib.hid hrow6, Lib.hid hC6, Lib.hid hU6⟩)
          clear hrow5 hP5 hU5 h5 hC5 hu5 HCALL
          rcases HZ.out with hz | ⟨l, hz, hlj, hlast⟩
          · subst hz
            clear hcell
            go_wp2
            go_quiet (fail)
            go_wp2
            go_roundw
            case rel => exact FIN.out _
            case measure => simp [intOf]; omega
          · subst hz
            have hl := hlast k hkj HPK.out
            have cl := hcell l _ (get_ints (xs := xs) (by rw [← HM.out]; exact hlj))
            have z0 : (0 : Int) ≤ (l : Int) := by omega
            have z1 : (l : Int) < (j : Int) := by omega
            have zd : decide ((l : Int) ≥ 0) = true := decide_eq_true (by omega)
            have zd' : decide ((0 : Int) ≤ (l : Int)) = true := decide_eq_true (by omega)
            clear hcell hlast
            generalize xs.getD k 0 = pk at *
            generalize xs.getD l 0 = pl at *
            by_cases heq : pk = pl
            · have e1 : decide (pl < pk) = false := decide_eq_false (by omega)
              have e2 : (pk == pl) = true := beq_iff_eq.2 heq
              have e3 : decide ((k : Int) < (l : Int)) = false := decide_eq_false (by omega)
              have e4 : decide (k < l) = false := decide_eq_false (by omega)
              clear hl heq
              go_wp2
              go_quiet (fail)
              go_wp2
              go_roundw
              case rel => exact FIN.out _
              case measure => simp [intOf]; omega
            · have e1 : decide (pl < pk) = false := decide_eq_false (by omega)
              have e2 : (pk == pl) = false := beq_eq_false_iff_ne.2 heq
              clear hl heq
              go_wp2
              go_quiet (fail)
              go_wp2
              go_roundw
              case rel => exact FIN.out _
              case measure => simp [intOf]; omega
        · have hnj : n = j := by omega
          have hemp : rowF mkC j P = [] := List.eq_nil_of_length_eq_zero (by have := HL.out; omega)
          have hC := HC.out
          rw [hemp] at hC
          have HC' := Lib.hid hC
          clear hC
          go_wp2_with fail
          refine (chanSenders_any p rp c 0 [] [] [] false _ HC'.out (by decide)).mono ?_
          rintro e w5 ⟨a5, c5, rfl, ho5, hu5⟩
          have HC5 := Lib.hid (HC'.out.keep0 hu5)
          have HU5 := Lib.hid (HU.out.trans0 hu5)
          clear ho5 hu5
          go_wp2_with fail
          refine (chanReceivers_any p rp c 0 [] [] [] false _ HC5.out (by decide)).mono ?_
          rintro e w6 ⟨a6, c6, rfl, ho6, hu6⟩
          go_wp2
          go_ret
          exact ⟨rfl, HU5.out.trans0 hu6⟩
theorem chanFirst_walk (a : Option Addr) (cap : Nat) (xs : List Int) (s : Bool) (w : World) (hr : Rd w (.slice a xs.length cap) xs.length (xs.map (Value.int .u8))) (hx : ∀ n ∈ xs, (Lit.int .u8 n).wf = true) :
    Calls Try.prog 3 #[.slice a xs.length cap, .bool s] w fun e w' => e = .returned (.bool true) ∧ Upd [] w w' := by
  cases s with
  | true => exact chanFirst_send a cap xs w hr hx
  | false => exact chanFirst_recv a cap xs w hr hx
end Go.Proofs.Ythchclhleppdhaa
