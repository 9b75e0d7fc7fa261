/- What is received is what was sent, in order, whoever waits: the walk. -/
import Derived.Test.YthchclhleppdhaaFlowPure
namespace Go.Proofs.Ythchclhleppdhaa
set_option linter.unusedVariables false
set_option linter.unusedSimpArgs false
open Go.RowKit
theorem blk_apart {w : World} {k : Nat} {cells : Array Value} {t e : TypeId} (hk : w.heap[k]? = some (.cells cells t (0, 0))) {base size n : Nat} {v : Value} {cs : List Value} (ho : w.ownsRow base e size v n cs) (hne : t ≠ e) : k ∉ v.ownBlock.toList := by
  intro hm
  obtain ⟨cc, hc⟩ := own_block ho (by simpa using hm)
  rw [hk] at hc
  injection (Option.some.inj hc) with _ h4 _
  exact hne h4
theorem get_u8f (xs : List Int) (j : Nat) (h : j < xs.length) : (xs.map (Value.int .u8))[j]? = some (.int .u8 (xs.getD j 0)) := by
  rw [List.getElem?_map, List.getElem?_eq_getElem h]
  simp [List.getD, h]
set_option maxHeartbeats 16000000 in
set_option maxRecDepth 100000 in
theorem chanFlows_walk (room : Int) (a : Option Addr) (cap : Nat) (xs : List Int) (w : World) (hroom : (Lit.int .u8 room).wf = true) (hr : Rd w (.slice a xs.length cap) xs.length (xs.map (Value.int .u8))) (hx : ∀ n ∈ xs, (Lit.int .u8 n).wf = true) :
    Calls Try.prog 5 #[.int .u8 room, .slice a xs.length cap] w fun e w' => e = .returned (.bool true) ∧ Upd [] w w' := by
  obtain ⟨hr0, hr1⟩ := wf_u8 hroom
  have hxb : ∀ j, j < xs.length → 0 ≤ xs.getD j 0 ∧ xs.getD j 0 ≤ 255 := fun j hj => wf_u8 (hx (xs.getD j 0) (by rw [List.getD_eq_getElem?_getD, List.getElem?_eq_getElem (by omega)]; simp))
  obtain ⟨m, hm⟩ : ∃ m, m = xs.length := ⟨_, rfl⟩
  have HRD := Lib.hid hr
  have HXB := Lib.hid hxb
  have HM := Lib.hid hm
  rw [← hm]
  clear hr hm hroom hx hxb
  by_cases hml : 100 < m
  · have hd0 : decide (100 < (m : Int)) = true := decide_eq_true (by omega)
    go_enter Try.func5, Try.ntmps5
    go_wp2_with fail
    refine (known15_ok _).mono ?_
    rintro e w1 ⟨rfl, hU⟩
    go_wp2
    go_ret
    exact ⟨rfl, hU⟩
  have hd0 : decide (100 < (m : Int)) = false := decide_eq_false (by omega)
  have hml : m ≤ 100 := by omega
  obtain ⟨n, hn⟩ : ∃ n : Nat, n = (room % 5).toNat := ⟨_, rfl⟩
  have hn1 : room % 5 = (n : Int) := by omega
  have hn2 : room.tmod 5 = (n : Int) := by rw [Int.tmod_eq_emod_of_nonneg hr0]; exact hn1
  have hn16 : n ≤ 16 := by omega
  clear hn
  go_enter Try.func5, Try.ntmps5
  go_wp2_with fail
  refine (known15_ok _).mono ?_
  rintro e w1 ⟨rfl, hU1⟩
  go_wp2_with fail
  refine (chanNew_ok n hn16 _).mono ?_
  rintro e w2 ⟨p, rp, c, rfl, hC, hu2, hp2, hrp2, hc2⟩
  have hU2 := hU1.trans0 hu2
  have hwp : w.heap.size ≤ p := Nat.le_trans hU1.size hp2
  have hwc : w.heap.size ≤ c := Nat.le_trans hU1.size hc2
  have HU := Lib.hid hU2
  have HC := Lib.hid hC
  clear hC hu2 hU1 hU2 hp2 hrp2 hc2
  go_wp2
  go_loopw [7, 8, 9] (fun sv cv iv wr => ∃ (i : Nat) (X : List Int) (P Q : Nat → Bool) (s t : List Int) (sa : Option Addr) (sc : Nat) (ta : Option Addr) (tc : Nat), iv = .int .i64 i ∧ sv = .slice sa s.length sc ∧ cv = .slice ta t.length tc ∧ i ≤ m ∧ Hid (FlowOk n i X P Q s t) ∧ Hid (wr.ownsRow w.heap.size 2 1 (.slice sa s.length sc) s.length (s.map (Value.int .i64))) ∧ Hid (wr.ownsRow w.heap.size 2 1 (.slice ta t.length tc) t.length (t.map (Value.int .i64))) ∧ Hid (Apart (.slice sa s.length sc) (.slice ta t.length tc)) ∧ Hid (ChanP wr p rp c n X (rowF fS i P) (rowF fR i Q) false) ∧ Hid (Upd [] w wr)) (fun _ _ iv _ => m - (intOf iv).toNat)
  case atStart => exact ⟨0, [], fun _ => false, fun _ => false, [], [], none, 0, none, 0, rfl, rfl, rfl, Nat.zero_le _, Lib.hid (FlowOk.start n), Lib.hid (World.ownsRow_nil _ _ _ _), Lib.hid (World.ownsRow_nil _ _ _ _), Lib.hid (apart_nil _), HC, HU⟩
  case round =>
    clear HC HU
    obtain ⟨i, X, P, Q, s, t, sa, sc, ta, tc, rfl, rfl, rfl, hi, HF, HS, HT, HA, HC, HU⟩ := hrel
    have hfew := HF.out.few
    have htl : t.length ≤ s.length := by have := congrArg List.length HF.out.seq; rw [List.length_append] at this; omega
    by_cases hlt : i < m
    · obtain ⟨hv0, hv1⟩ := HXB.out i (by rw [← HM.out]; exact hlt)
      have hc := get_u8f xs i (by rw [← HM.out]; exact hlt)
      generalize xs.getD i 0 = y at hv0 hv1 hc
      obtain ⟨b', off, rfl, hcell⟩ := HRD.out.at (by rw [← HM.out]; omega)
      have gw := HU.out.cell (hcell i _ hc) (by simp)
      have hi0 : (0 : Int) ≤ (i : Int) := by omega
      have hi1 : (i : Int) < (m : Int) := by omega
      have hs1 : s.length + 1 ≤ maxLen := by unfold maxLen; omega
      have hs3 : (s.length + 1) * 8 ≤ 140737488355328 := by omega
      have ht1 : t.length + 1 ≤ maxLen := by unfold maxLen; omega
      have ht3 : (t.length + 1) * 8 ≤ 140737488355328 := by omega
      have hrS := rowF_len fS i P
      have hrR := rowF_len fR i Q
      clear hcell hc
      by_cases hev : y % 2 = 0
      · have hd1 : y.tmod 2 = 0 := by rw [Int.tmod_eq_emod_of_nonneg hv0]; exact hev
        by_cases hQ : ∃ q, Q q = true
        · have hX := (HF.out.none hQ).1
          have hP := (HF.out.none hQ).2
          obtain ⟨r, k, hb, hq, hki, hQk, her⟩ := flow_best fR_fn HF.out.hQ hQ
          have hpos : 0 < (rowF fR i Q).length := by have := bestTo_lt _ _ _ _ hb; omega
          have hcs : canS n X (rowF fR i Q) false = true := by unfold canS; simp [hpos]
          have HCALL := Lib.hid (fun W (hW : ChanP W p rp c n X (rowF fS i P) (rowF fR i Q) false) => chanSend_hand p rp c n X (rowF fS i P) (rowF fR i Q) (i : Int) none 0 [] r (fR k) W hW (rdI_nil _) (by decide) (by omega) hb hq)
          simp only [her] at HCALL
          have HFLOW := Lib.hid (HF.out.handR k (i : Int) hQ)
          have HPI := Lib.hid (HF.out.hP i (Nat.le_refl i))
          clear hb hq her hX hP hpos hQ hQk
          go_wp2_with fail
          refine (canSend_any p rp c n X _ _ false _ HC.out).mono ?_
          rw [hcs]
          rintro e w4 ⟨rfl, hu4⟩
          have HC4 := Lib.hid (HC.out.keep0 hu4)
          have HU4 := Lib.hid (HU.out.trans0 hu4)
          have HS4 := Lib.hid (own_keep0 HS.out hu4)
          have HT4 := Lib.hid (own_keep0 HT.out hu4)
          clear HC HU HS HT hu4 gw hcs
          go_wp2_with fail
          refine (HCALL.out _ HC4.out).mono ?_
          rintro e w5 ⟨g5, rfl, hg5, h5, hC5, hu5⟩
          rw [← row_keep fS HPI.out] at hC5
          have HC5 := Lib.hid hC5
          have HS := Lib.hid (HC4.out.row HS4.out (by decide) hu5.pc1)
          have HT := Lib.hid (HC4.out.row HT4.out (by decide) hu5.pc1)
          have HU5 := Lib.hid (HU4.out.fresh hu5.pc1 hwp hwc)
          have HG := Lib.hid h5
          have hsz := HU5.out.size
          clear hC5 hu5 h5 HC4 HS4 HT4 HU4 HCALL
          go_wp2_with (first
            | (at_builtin; refine wp_push2 tI64 rfl (.tmp 69) (.tmp 71) rfl HS.out [.int .i64 (i : Int)] rfl rfl rfl rfl (by intro y hy; simp at hy; subst hy; rfl) hs1 hs3 hsz ?_; intro g3 c3 w3 hown3 hu3 hat3; have HT3 := Lib.hid (own_keep HT.out hu3 (HA.out.symm.notin)); have HA3 := Lib.hid (HA.out.push HT.out hat3 (m := s.length + 1) (c := c3)); have HC3 := Lib.hid (HC5.out.beside HS.out (by decide) (by decide) (by decide) hu3); have HG3 := Lib.hid (hu3.keep HG.out (blk_apart HG.out HS.out (by decide))); obtain ⟨q0, q1, q2, q3⟩ := four_cells HG3.out; have HU3 := Lib.hid (HU5.out.trans hu3 (fun x hx hl => by have := (HS.out.lt x (by simpa using hx)).1; omega)); have HS3 := Lib.hid hown3; have hsz3 := HU3.out.size; clear hown3 hu3 hat3)
            | (at_builtin; refine wp_push2 tI64 rfl (.tmp 76) (.tmp 81) rfl HT3.out [.int .i64 (i : Int)] rfl rfl rfl rfl (by intro y hy; simp at hy; subst hy; rfl) ht1 ht3 hsz3 ?_; intro g4 c4 w4 hown4 hu4 hat4; have HS4 := Lib.hid (own_keep HS3.out hu4 (HA3.out.notin)); have HA4 := Lib.hid ((HA3.out.symm.push HS3.out hat4 (m := t.length + 1) (c := c4)).symm); have HC4 := Lib.hid (HC3.out.beside HT3.out (by decide) (by decide) (by decide) hu4); have HU4 := Lib.hid (HU3.out.trans hu4 (fun x hx hl => by have := (HT3.out.lt x (by simpa using hx)).1; omega)); have HT4 := Lib.hid hown4; clear hown4 hu4 hat4))
          go_roundw
          case rel => exact ⟨i + 1, X, P, _, _, _, _, _, _, _, by go_num, (by rw [List.length_append]; rfl), (by rw [List.length_append]; rfl), by omega, Lib.hid (HFLOW.out), Lib.hid (by rw [List.length_append, List.map_append]; exact HS4.out), Lib.hid (by rw [List.length_append, List.map_append]; exact HT4.out), Lib.hid (by rw [List.length_append, List.length_append]; exact HA4.out), HC4, HU4⟩
          case measure => simp [intOf]; omega
        · have hQ0 : ∀ q, Q q = false := fun q => by cases h : Q q with | false => rfl | true => exact absurd ⟨q, h⟩ hQ
          have hemp := row_emp fR (i := i) hQ0
          have hC := HC.out
          rw [hemp] at hC
          have HC' := Lib.hid hC
          by_cases hXn : X.length < n
          · have hcs : canS n X [] false = true := by unfold canS; simp; omega
            have HFLOW := Lib.hid (HF.out.push (i : Int) hQ0 hXn)
            have HPI := Lib.hid (HF.out.hP i (Nat.le_refl i))
            have HE := Lib.hid (row_emp fR (i := i + 1) hQ0)
            clear hC HC hemp hQ hQ0
            go_wp2_with fail
            refine (canSend_any p rp c n X _ _ false _ HC'.out).mono ?_
            rw [hcs]
            rintro e w4 ⟨rfl, hu4⟩
            have HC4 := Lib.hid (HC'.out.keep0 hu4)
            have HU4 := Lib.hid (HU.out.trans0 hu4)
            have HS4 := Lib.hid (own_keep0 HS.out hu4)
            have HT4 := Lib.hid (own_keep0 HT.out hu4)
            clear HC' HU HS HT hu4 gw hcs
            go_wp2_with fail
            refine (chanSend_push p rp c n X _ (i : Int) none 0 0 _ HC4.out hXn).mono ?_
            rintro e w5 ⟨rfl, hC5, hu5⟩
            rw [← row_keep fS HPI.out, ← HE.out] at hC5
            have HC5 := Lib.hid hC5
            have HS := Lib.hid (HC4.out.row HS4.out (by decide) hu5.pc2)
            have HT := Lib.hid (HC4.out.row HT4.out (by decide) hu5.pc2)
            have HU5 := Lib.hid (HU4.out.fresh hu5.pc2 hwp hwc)
            have hsz := HU5.out.size
            clear hC5 hu5 HC4 HS4 HT4 HU4
            go_wp2_with (first
              | (at_builtin; refine wp_push2 tI64 rfl (.tmp 69) (.tmp 71) rfl HS.out [.int .i64 (i : Int)] rfl rfl rfl rfl (by intro y hy; simp at hy; subst hy; rfl) hs1 hs3 hsz ?_; intro g3 c3 w3 hown3 hu3 hat3; have HT3 := Lib.hid (own_keep HT.out hu3 (HA.out.symm.notin)); have HA3 := Lib.hid (HA.out.push HT.out hat3 (m := s.length + 1) (c := c3)); have HC3 := Lib.hid (HC5.out.beside HS.out (by decide) (by decide) (by decide) hu3); have HU3 := Lib.hid (HU5.out.trans hu3 (fun x hx hl => by have := (HS.out.lt x (by simpa using hx)).1; omega)); have HS3 := Lib.hid hown3; have hsz3 := HU3.out.size; clear hown3 hu3 hat3))
            go_roundw
            case rel => exact ⟨i + 1, _, P, Q, _, t, _, _, _, _, by go_num, (by rw [List.length_append]; rfl), rfl, by omega, Lib.hid (HFLOW.out), Lib.hid (by rw [List.length_append, List.map_append]; exact HS3.out), HT3, Lib.hid (by rw [List.length_append]; exact HA3.out), HC3, HU3⟩
            case measure => simp [intOf]; omega
          · have hcs : canS n X [] false = false := by unfold canS; simp; omega
            have HFLOW := Lib.hid (HF.out.waitS hQ0 hXn)
            have HE := Lib.hid (row_emp fR (i := i + 1) hQ0)
            have HNO := Lib.hid (rowF_has2 fS_fn i P i (Nat.le_refl i))
            clear hC HC hemp hQ hQ0
            go_wp2_with fail
            refine (canSend_any p rp c n X _ _ false _ HC'.out).mono ?_
            rw [hcs]
            rintro e w4 ⟨rfl, hu4⟩
            have HC4 := Lib.hid (HC'.out.keep0 hu4)
            have HU4 := Lib.hid (HU.out.trans0 hu4)
            have HS4 := Lib.hid (own_keep0 HS.out hu4)
            have HT4 := Lib.hid (own_keep0 HT.out hu4)
            clear HC' HU HS HT hu4 gw
            go_wp2_with fail
            refine (chanWaitS_any p rp c n X _ [] false (fS i) _ HC4.out hcs (by omega)).mono ?_
            simp only [HNO.out, Bool.false_eq_true, if_false]
            rintro e w5 ⟨rfl, hC5, hu5⟩
            rw [← row_add, ← HE.out] at hC5
            have HC5 := Lib.hid hC5
            have HS := Lib.hid (HC4.out.row HS4.out (by decide) hu5.pc1)
            have HT := Lib.hid (HC4.out.row HT4.out (by decide) hu5.pc1)
            have HU5 := Lib.hid (HU4.out.fresh hu5.pc1 hwp hwc)
            clear hC5 hu5 HC4 HS4 HT4 HU4 hcs
            go_wp2
            go_roundw
            case rel => exact ⟨i + 1, X, _, Q, s, t, _, _, _, _, by go_num, rfl, rfl, by omega, Lib.hid (HFLOW.out), HS, HT, HA, HC5, HU5⟩
            case measure => simp [intOf]; omega
      · have hev1 : y % 2 = 1 := by omega
        have hd1 : y.tmod 2 = 1 := by rw [Int.tmod_eq_emod_of_nonneg hv0]; exact hev1
        clear hev
        by_cases hP : ∃ q, P q = true
        · obtain ⟨r, k, hb, hq, hki, hPk, her⟩ := flow_best fS_fn HF.out.hP hP
          have hpos : 0 < (rowF fS i P).length := by have := bestTo_lt _ _ _ _ hb; omega
          have hcr : canR X (rowF fS i P) false = true := by unfold canR; simp [hpos]
          have HQI := Lib.hid (HF.out.hQ i (Nat.le_refl i))
          cases X with
          | nil =>
            have HCALL := Lib.hid (fun W (hW : ChanP W p rp c n [] (rowF fS i P) (rowF fR i Q) false) => chanRecv_hand p rp c n (rowF fS i P) (rowF fR i Q) none 0 [] r (fS k) W hW (rdI_nil _) (by decide) (by omega) hb hq)
            simp only [her] at HCALL
            have HFLOW := Lib.hid (HF.out.handS k (k : Int) hP)
            clear hb hq her hpos hPk hP
            go_wp2_with fail
            refine (canRecv_any p rp c n [] _ _ false _ HC.out).mono ?_
            rw [hcr]
            rintro e w4 ⟨rfl, hu4⟩
            have HC4 := Lib.hid (HC.out.keep0 hu4)
            have HU4 := Lib.hid (HU.out.trans0 hu4)
            have HS4 := Lib.hid (own_keep0 HS.out hu4)
            have HT4 := Lib.hid (own_keep0 HT.out hu4)
            clear HC HU HS HT hu4 gw hcr
            go_wp2_with fail
            refine (HCALL.out _ HC4.out).mono ?_
            rintro e w5 ⟨g5, rfl, hg5, h5, hC5, hu5⟩
            rw [← row_keep fR HQI.out] at hC5
            have HC5 := Lib.hid hC5
            have HS := Lib.hid (HC4.out.row HS4.out (by decide) hu5.pc1)
            have HT := Lib.hid (HC4.out.row HT4.out (by decide) hu5.pc1)
            have HU5 := Lib.hid (HU4.out.fresh hu5.pc1 hwp hwc)
            have HG := Lib.hid h5
            have hsz := HU5.out.size
            clear hC5 hu5 h5 HC4 HS4 HT4 HU4 HCALL
            go_wp2_with (first
              | (at_builtin; refine wp_push2 tI64 rfl (.tmp 104) (.tmp 106) rfl HT.out [.int .i64 (fS k).v] rfl rfl rfl rfl (by intro y hy; simp at hy; subst hy; rfl) ht1 ht3 hsz ?_; intro g3 c3 w3 hown3 hu3 hat3; have HS3 := Lib.hid (own_keep HS.out hu3 (HA.out.notin)); have HA3 := Lib.hid ((HA.out.symm.push HS.out hat3 (m := t.length + 1) (c := c3)).symm); have HC3 := Lib.hid (HC5.out.beside HT.out (by decide) (by decide) (by decide) hu3); have HG3 := Lib.hid (hu3.keep HG.out (blk_apart HG.out HT.out (by decide))); obtain ⟨q0, q1, q2, q3⟩ := four_cells HG3.out; have HU3 := Lib.hid (HU5.out.trans hu3 (fun x hx hl => by have := (HT.out.lt x (by simpa using hx)).1; omega)); have HT3 := Lib.hid hown3; have hsz3 := HU3.out.size; clear hown3 hu3 hat3)
              | (at_builtin; refine wp_push2 tI64 rfl (.tmp 111) (.tmp 116) rfl HS3.out [.int .i64 (fS k).v] rfl rfl rfl rfl (by intro y hy; simp at hy; subst hy; rfl) hs1 hs3 hsz3 ?_; intro g4 c4 w4 hown4 hu4 hat4; have HT4 := Lib.hid (own_keep HT3.out hu4 (HA3.out.symm.notin)); have HA4 := Lib.hid (HA3.out.push HT3.out hat4 (m := s.length + 1) (c := c4)); have HC4 := Lib.hid (HC3.out.beside HS3.out (by decide) (by decide) (by decide) hu4); have HU4 := Lib.hid (HU3.out.trans hu4 (fun x hx hl => by have := (HS3.out.lt x (by simpa using hx)).1; omega)); have HS4 := Lib.hid hown4; clear hown4 hu4 hat4))
            go_roundw
            case rel => exact ⟨i + 1, [], _, Q, _, _, _, _, _, _, by go_num, (by rw [List.length_append]; rfl), (by rw [List.length_append]; rfl), by omega, Lib.hid (HFLOW.out), Lib.hid (by rw [List.length_append, List.map_append]; exact HS4.out), Lib.hid (by rw [List.length_append, List.map_append]; exact HT4.out), Lib.hid (by rw [List.length_append, List.length_append]; exact HA4.out), HC4, HU4⟩
            case measure => simp [intOf]; omega
          | cons x X =>
            have HCALL := Lib.hid (fun W (hW : ChanP W p rp c n (x :: X) (rowF fS i P) (rowF fR i Q) false) => chanRecv_both p rp c n x X (rowF fS i P) (rowF fR i Q) false none 0 [] r (fS k) W hW (rdI_nil _) (by decide) (by omega) hb hq)
            simp only [her] at HCALL
            have HFLOW := Lib.hid (HF.out.both k (k : Int) hP)
            clear hb hq her hpos hPk hP
            go_wp2_with fail
            refine (canRecv_any p rp c n (x :: X) _ _ false _ HC.out).mono ?_
            rw [hcr]
            rintro e w4 ⟨rfl, hu4⟩
            have HC4 := Lib.hid (HC.out.keep0 hu4)
            have HU4 := Lib.hid (HU.out.trans0 hu4)
            have HS4 := Lib.hid (own_keep0 HS.out hu4)
            have HT4 := Lib.hid (own_keep0 HT.out hu4)
            clear HC HU HS HT hu4 gw hcr
            go_wp2_with fail
            refine (HCALL.out _ HC4.out).mono ?_
            rintro e w5 ⟨g5, rfl, hg5, h5, hC5, hu5⟩
            rw [← row_keep fR HQI.out] at hC5
            have HC5 := Lib.hid hC5
            have HS := Lib.hid (HC4.out.row HS4.out (by decide) hu5)
            have HT := Lib.hid (HC4.out.row HT4.out (by decide) hu5)
            have HU5 := Lib.hid (HU4.out.fresh hu5 hwp hwc)
            have HG := Lib.hid h5
            have hsz := HU5.out.size
            clear hC5 hu5 h5 HC4 HS4 HT4 HU4 HCALL
            go_wp2_with (first
              | (at_builtin; refine wp_push2 tI64 rfl (.tmp 104) (.tmp 106) rfl HT.out [.int .i64 x] rfl rfl rfl rfl (by intro y hy; simp at hy; subst hy; rfl) ht1 ht3 hsz ?_; intro g3 c3 w3 hown3 hu3 hat3; have HS3 := Lib.hid (own_keep HS.out hu3 (HA.out.notin)); have HA3 := Lib.hid ((HA.out.symm.push HS.out hat3 (m := t.length + 1) (c := c3)).symm); have HC3 := Lib.hid (HC5.out.beside HT.out (by decide) (by decide) (by decide) hu3); have HG3 := Lib.hid (hu3.keep HG.out (blk_apart HG.out HT.out (by decide))); obtain ⟨q0, q1, q2, q3⟩ := four_cells HG3.out; have HU3 := Lib.hid (HU5.out.trans hu3 (fun x hx hl => by have := (HT.out.lt x (by simpa using hx)).1; omega)); have HT3 := Lib.hid hown3; have hsz3 := HU3.out.size; clear hown3 hu3 hat3)
              | (at_builtin; refine wp_push2 tI64 rfl (.tmp 111) (.tmp 116) rfl HS3.out [.int .i64 (fS k).v] rfl rfl rfl rfl (by intro y hy; simp at hy; subst hy; rfl) hs1 hs3 hsz3 ?_; intro g4 c4 w4 hown4 hu4 hat4; have HT4 := Lib.hid (own_keep HT3.out hu4 (HA3.out.symm.notin)); have HA4 := Lib.hid (HA3.out.push HT3.out hat4 (m := s.length + 1) (c := c4)); have HC4 := Lib.hid (HC3.out.beside HS3.out (by decide) (by decide) (by decide) hu4); have HU4 := Lib.hid (HU3.out.trans hu4 (fun x hx hl => by have := (HS3.out.lt x (by simpa using hx)).1; omega)); have HS4 := Lib.hid hown4; clear hown4 hu4 hat4))
            go_roundw
            case rel => exact ⟨i + 1, _, _, Q, _, _, _, _, _, _, by go_num, (by rw [List.length_append]; rfl), (by rw [List.length_append]; rfl), by omega, Lib.hid (HFLOW.out), Lib.hid (by rw [List.length_append, List.map_append]; exact HS4.out), Lib.hid (by rw [List.length_append, List.map_append]; exact HT4.out), Lib.hid (by rw [List.length_append, List.length_append]; exact HA4.out), HC4, HU4⟩
            case measure => simp [intOf]; omega
        · have hP0 : ∀ q, P q = false := fun q => by cases h : P q with | false => rfl | true => exact absurd ⟨q, h⟩ hP
          have hemp := row_emp fS (i := i) hP0
          have hC := HC.out
          rw [hemp] at hC
          have HC' := Lib.hid hC
          have HE := Lib.hid (row_emp fS (i := i + 1) hP0)
          cases X with
          | nil =>
            have HFLOW := Lib.hid (HF.out.waitR hP0)
            have HNO := Lib.hid (rowF_has2 fR_fn i Q i (Nat.le_refl i))
            clear hC HC hemp hP hP0
            go_wp2_with fail
            refine (canRecv_any p rp c n [] _ _ false _ HC'.out).mono ?_
            rw [show canR [] [] false = false from rfl]
            rintro e w4 ⟨rfl, hu4⟩
            have HC4 := Lib.hid (HC'.out.keep0 hu4)
            have HU4 := Lib.hid (HU.out.trans0 hu4)
            have HS4 := Lib.hid (own_keep0 HS.out hu4)
            have HT4 := Lib.hid (own_keep0 HT.out hu4)
            clear HC' HU HS HT hu4 gw
            go_wp2_with fail
            refine (chanWaitR_any p rp c n [] [] _ false (fR i) _ HC4.out rfl (by omega)).mono ?_
            simp only [HNO.out, Bool.false_eq_true, if_false]
            rintro e w5 ⟨rfl, hC5, hu5⟩
            rw [← row_add, ← HE.out] at hC5
            have HC5 := Lib.hid hC5
            have HS := Lib.hid (HC4.out.row HS4.out (by decide) hu5.pc1)
            have HT := Lib.hid (HC4.out.row HT4.out (by decide) hu5.pc1)
            have HU5 := Lib.hid (HU4.out.fresh hu5.pc1 hwp hwc)
            clear hC5 hu5 HC4 HS4 HT4 HU4
            go_wp2
            go_roundw
            case rel => exact ⟨i + 1, [], P, _, s, t, _, _, _, _, by go_num, rfl, rfl, by omega, Lib.hid (HFLOW.out), HS, HT, HA, HC5, HU5⟩
            case measure => simp [intOf]; omega
          | cons x X =>
            have HFLOW := Lib.hid (HF.out.recv hP0)
            have HQI := Lib.hid (HF.out.hQ i (Nat.le_refl i))
            have hcr : canR (x :: X) [] false = true := by unfold canR; simp
            clear hC HC hemp hP hP0
            go_wp2_with fail
            refine (canRecv_any p rp c n (x :: X) _ _ false _ HC'.out).mono ?_
            rw [hcr]
            rintro e w4 ⟨rfl, hu4⟩
            have HC4 := Lib.hid (HC'.out.keep0 hu4)
            have HU4 := Lib.hid (HU.out.trans0 hu4)
            have HS4 := Lib.hid (own_keep0 HS.out hu4)
            have HT4 := Lib.hid (own_keep0 HT.out hu4)
            clear HC' HU HS HT hu4 gw hcr
            go_wp2_with fail
            refine (chanRecv_val p rp c n x X _ false none 0 0 _ HC4.out).mono ?_
            rintro e w5 ⟨rfl, hC5, hu5⟩
            rw [← row_keep fR HQI.out, ← HE.out] at hC5
            have HC5 := Lib.hid hC5
            have HS := Lib.hid (HC4.out.row HS4.out (by decide) hu5.pc2)
            have HT := Lib.hid (HC4.out.row HT4.out (by decide) hu5.pc2)
            have HU5 := Lib.hid (HU4.out.fresh hu5.pc2 hwp hwc)
            have hsz := HU5.out.size
            clear hC5 hu5 HC4 HS4 HT4 HU4
            go_wp2_with (first
              | (at_builtin; refine wp_push2 tI64 rfl (.tmp 104) (.tmp 106) rfl HT.out [.int .i64 x] rfl rfl rfl rfl (by intro y hy; simp at hy; subst hy; rfl) ht1 ht3 hsz ?_; intro g3 c3 w3 hown3 hu3 hat3; have HS3 := Lib.hid (own_keep HS.out hu3 (HA.out.notin)); have HA3 := Lib.hid ((HA.out.symm.push HS.out hat3 (m := t.length + 1) (c := c3)).symm); have HC3 := Lib.hid (HC5.out.beside HT.out (by decide) (by decide) (by decide) hu3); have HU3 := Lib.hid (HU5.out.trans hu3 (fun x hx hl => by have := (HT.out.lt x (by simpa using hx)).1; omega)); have HT3 := Lib.hid hown3; have hsz3 := HU3.out.size; clear hown3 hu3 hat3))
            go_roundw
            case rel => exact ⟨i + 1, X, P, Q, s, _, _, _, _, _, by go_num, rfl, (by rw [List.length_append]; rfl), by omega, Lib.hid (HFLOW.out), HS3, Lib.hid (by rw [List.length_append, List.map_append]; exact HT3.out), Lib.hid (by rw [List.length_append]; exact HA3.out), HC3, HU3⟩
            case measure => simp [intOf]; omega
    · obtain rfl : i = m := by omega
      have hseq := HF.out.seq
      have hXn := HF.out.len
      have hd1 : decide (s.length < t.length) = false := decide_eq_false (by omega)
      have hd1' : decide ((s.length : Int) < (t.length : Int)) = false := decide_eq_false (by omega)
      have hsl : s.length = t.length + X.length := by rw [hseq, List.length_append]
      obtain ⟨z, hz⟩ : ∃ z, z = X.length := ⟨_, rfl⟩
      have wz : IntKind.i64.wrap ((s.length : Int) - (t.length : Int)) = (z : Int) := by rw [IntWalk.i64_in _ (by omega)]; omega
      have hd2 : decide ((n : Int) < (z : Int)) = false := decide_eq_false (by omega)
      have hd2' : decide (n < z) = false := decide_eq_false (by omega)
      obtain ⟨a1, c1, hrd1, _, _, _, hsl1⟩ := (Rd.of_own HS.out).cut tI64 0 t.length (by omega) htl
      obtain ⟨a2, c2, hrd2, _, _, hsl2, _⟩ := (Rd.of_own HS.out).cut tI64 t.length s.length htl (Nat.le_refl _)
      replace hsl1 := hsl1 rfl
      replace hsl2 := hsl2 rfl
      have hw1 : ((s.map (Value.int .i64)).drop (0 * 1)).take ((t.length - 0) * 1) = t.map (Value.int .i64) := by
        rw [hseq]
        simp
      have hw2 : ((s.map (Value.int .i64)).drop (t.length * 1)).take ((s.length - t.length) * 1) = X.map (Value.int .i64) := by
        rw [hseq]
        simp
        exact List.take_of_length_le (by simp)
      rw [hw1] at hrd1
      rw [hw2, show s.length - t.length = z by omega] at hrd2
      rw [show s.length - t.length = z by omega] at hsl2
      rw [Nat.sub_zero] at hrd1 hsl1
      have hu0 := Upd.refl [] wr
      have H1 : Hid (∀ W, Upd [] wr W → Calls Try.prog 19 #[.slice ta t.length tc, .slice a1 t.length c1] W fun e w' => e = .returned (.bool true) ∧ Upd [] wr w') := Lib.hid (fun W hW => by
        refine (toUpd (row_eq ta a1 tc c1 t W ((Rd.of_own HT.out).keep0 hW) (hrd1.keep0 hW) (by omega))).mono ?_
        rintro e w' ⟨rfl, hu⟩
        exact ⟨rfl, hW.trans0 hu⟩)
      have H2 : Hid (∀ W, Upd [] wr W → Calls Try.prog 20 #[.pointer (some ⟨p, 0, none⟩)] W fun e w' => ∃ a3 c3, e = .returned (.slice a3 z c3) ∧ Rd w' (.slice a3 z c3) z (X.map (Value.int .i64)) ∧ Rd w' (.slice a2 z c2) z (X.map (Value.int .i64)) ∧ Upd [] w w') := Lib.hid (fun W hW => by
        refine (chanValues_any p rp c n X _ _ false W (HC.out.keep0 hW)).mono ?_
        rw [← hz]
        rintro e w' ⟨a3, c3, rfl, ho3, hC3, hu⟩
        refine ⟨a3, c3, rfl, Rd.of_own ho3, ?_, (HU.out.trans0 hW).fresh hu.pc2 hwp hwc⟩
        refine (hrd2.keep0 hW).keep hu (fun k hk hl => ?_)
        intro hm
        simp only [List.mem_singleton] at hm
        subst hm
        obtain ⟨cc, tt, ff, h5⟩ := (hrd2.keep0 hW).blk hk hl
        obtain ⟨sx, rx, h6⟩ := (HC.out.keep0 hW).ring.chan
        rw [h5] at h6
        cases h6)
      have H3 : Hid (∀ W a3 c3, Rd W (.slice a3 z c3) z (X.map (Value.int .i64)) → Rd W (.slice a2 z c2) z (X.map (Value.int .i64)) → Upd [] w W → Calls Try.prog 19 #[.slice a3 z c3, .slice a2 z c2] W fun e w' => e = .returned (.bool true) ∧ Upd [] w w') := Lib.hid (fun W a3 c3 h3 h4 hW => by
        have h := row_eq a3 a2 c3 c2 X W (by rw [← hz]; exact h3) (by rw [← hz]; exact h4) (by omega)
        rw [← hz] at h
        refine (toUpd h).mono ?_
        rintro e w' ⟨rfl, hu⟩
        exact ⟨rfl, hW.trans0 hu⟩)
      clear hrd1 hrd2 hw1 hw2 hz hseq hsl
      go_wp2_with fail
      go_region_held3 (fun _ => True) (first | trivial | go_keep) (first
        | (have z_ := hV7; go_at_call 19; refine (H3.out _ _ _ (hV7.keep0 (by repeat (first | exact Upd.refl _ _ | refine Upd.drewN ?_ _ | refine Upd.drew ?_))) (hV8.keep0 (by repeat (first | exact Upd.refl _ _ | refine Upd.drewN ?_ _ | refine Upd.drew ?_))) (by repeat (first | exact hU7 | refine Upd.drewN ?_ _ | refine Upd.drew ?_))).mono ?_; rintro e w9 ⟨rfl, hU9⟩)
        | (go_at_call 20; refine (H2.out _ (by repeat (first | exact hu6 | refine Upd.drewN ?_ _ | refine Upd.drew ?_))).mono ?_; rintro e w7 ⟨a7, c7, rfl, hV7, hV8, hU7⟩)
        | (go_at_call 19; refine (H1.out _ (by repeat (first | exact hu0 | refine Upd.drewN ?_ _ | refine Upd.drew ?_))).mono ?_; rintro e w6 ⟨rfl, hu6⟩))
      all_goals
        go_wp2
        go_ret
        exact ⟨rfl, by repeat (first | exact hU9 | refine Upd.drewN ?_ _ | refine Upd.drew ?_)⟩
end Go.Proofs.Ythchclhleppdhaa
