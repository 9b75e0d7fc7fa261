/- Taken one by one nobody goes ahead of one of a greater priority, or of one as great that came earlier: the walk. -/
import Derived.Test.YtmjcolkpfblelaaOrderNil
namespace Go.Proofs.Ytmjcolkpfblelaa
set_option linter.unusedVariables false
set_option linter.unusedSimpArgs false
open Go.RowKit
theorem bool_info14 : (Try.prog.info? 4).map (fun i => (i.zero, i.size, i.bytes)) = some (some (.bool false), 1, 1) := by kernel_rfl
theorem rowIs_keep14 {w w' : World} {b : Nat} {t : TypeId} {n : Nat} {f : Nat → Value} {S : List Nat} (h : w.rowIs b t n f) (hu : Upd S w w') (hb : b ∉ S) : w'.rowIs b t n f :=
  h.of_block (hu.block _ h.lt hb)
/-- The order, whoever waits. -/
theorem order_all (a ap : Option Addr) (cap cp : Nat) (q : List Wt) (ps : List Int) (w : World) (hq : RdW w (.slice a q.length cap) q) (hp : RdI w (.slice ap ps.length cp) ps) (hm : ps.length ≤ 9223372036854775807) (h20 : q.length ≤ 1000000) :
    Calls Try.prog 17 #[.slice a q.length cap, .slice ap ps.length cp] w fun e w' => ∃ (a' : Option Addr) (c : Nat) (M : List Nat), e = .returned (.slice a' q.length c) ∧ M.Perm (List.range q.length) ∧ M.Pairwise (goesW q ps) ∧ Rd w' (.slice a' q.length c) q.length (M.map fun j : Nat => Value.int .i64 j) ∧ (∀ k, (Value.slice a' q.length c).ownBlock = some k → w.heap.size ≤ k) ∧ Upd [] w w' := by
  by_cases h0 : 0 < q.length
  · refine (order_many a ap cap cp q ps w hq hp hm h0 h20).mono ?_
    rintro e w' ⟨g, c, M, rfl, h1, h2, h3, h4⟩
    exact ⟨_, c, M, rfl, h1, h2, Rd.of_own h3, fun k hk => (h3.lt k hk).1, h4⟩
  · obtain rfl : q = [] := List.eq_nil_of_length_eq_zero (by omega)
    refine (order_nil a cap ap ps.length cp w).mono ?_
    rintro e w' ⟨rfl, hu⟩
    exact ⟨none, 0, [], rfl, List.Perm.refl _, List.Pairwise.nil, Rd.nil _, fun k hk => by simp [Value.ownBlock] at hk, hu⟩
set_option maxHeartbeats 16000000 in
set_option maxRecDepth 100000 in
theorem waitGoes_walk (a : Option Addr) (cap : Nat) (q : List Wt) (ap : Option Addr) (cp : Nat) (ps : List Int) (w : World) (hq : Rd w (.slice a q.length cap) q.length (q.flatMap Wt.enc)) (_ : ∀ x ∈ q, True) (hp : Rd w (.slice ap ps.length cp) ps.length (ps.map (Value.int .i64))) (_ : ∀ n ∈ ps, (Lit.int .i64 n).wf = true) :
    Calls Try.prog 4 #[.slice a q.length cap, .slice ap ps.length cp] w fun e w' => e = .returned (.bool true) ∧ Upd [] w w' := by
  obtain ⟨m, hm⟩ : ∃ m, m = q.length := ⟨_, rfl⟩
  obtain ⟨l, hl⟩ : ∃ l, l = ps.length := ⟨_, rfl⟩
  have HQ := Lib.hid hq
  have HP := Lib.hid hp
  have HM := Lib.hid hm
  have HL := Lib.hid hl
  rw [← hm, ← hl]
  clear hq hp hm hl
  by_cases hbig : 60 < m
  · have hd0 : decide (60 < (m : Int)) = true := decide_eq_true (by omega)
    go_enter Try.func4, Try.ntmps4
    go_wp2_with fail
    refine (known14_ok _).mono ?_
    rintro e w1 ⟨rfl, hU⟩
    go_wp2
    go_ret
    exact ⟨rfl, hU⟩
  have hd0 : decide (60 < (m : Int)) = false := decide_eq_false (by omega)
  by_cases hbig2 : 60 < l
  · have hd1 : decide (60 < (l : Int)) = true := decide_eq_true (by omega)
    go_enter Try.func4, Try.ntmps4
    go_wp2_with fail
    refine (known14_ok _).mono ?_
    rintro e w1 ⟨rfl, hU⟩
    go_wp2
    go_ret
    exact ⟨rfl, hU⟩
  have hd1 : decide (60 < (l : Int)) = false := decide_eq_false (by omega)
  have hmk : ∀ W : World, (Instr.makeSlice 39 (.int .i64 (m : Int)) (.int .i64 (m : Int))).run Try.prog W = .ok (.slice (some ⟨W.heap.size, 0, none⟩) m m) (W.alloc (.cells (madeCells #[.bool false] m) 4)) :=
    fun W => run_make_row' 39 4 (.bool false) 1 Try.underlying39 bool_info14 rfl .i64 .i64 m (by omega) (by omega) W
  have hmm : ((m : Int) != (m : Int)) = false := by simp
  have HTO : Hid (∀ W, Upd [] w W → Calls Try.prog 8 #[.slice a m cap] W fun e w' => ∃ a' c', e = .returned (.slice a' m c') ∧ Rd w' (.slice a' m c') q.length (q.flatMap Wt.enc) ∧ Upd [] w w') := Lib.hid (fun W hW => by
    have h := to_any a cap q W (HQ.out.keep0 hW) (by rw [← HM.out]; omega)
    rw [← HM.out] at h
    refine h.mono ?_
    rintro e w' ⟨a', c', rfl, ho, hu⟩
    have := Rd.of_own ho
    rw [HM.out] at this
    exact ⟨a', c', rfl, by rw [HM.out]; exact this, hW.trans0 hu⟩)
  have HOR : Hid (∀ W a' c', Upd [] w W → Rd W (.slice a' m c') q.length (q.flatMap Wt.enc) → Calls Try.prog 17 #[.slice a' m c', .slice ap l cp] W fun e w' => ∃ (b : Option Addr) (c : Nat) (M : List Nat), e = .returned (.slice b m c) ∧ M.length = m ∧ M.Nodup ∧ (∀ x ∈ M, x < m) ∧ M.Pairwise (goesW q ps) ∧ Rd w' (.slice b m c) m (M.map fun j : Nat => Value.int .i64 j) ∧ Upd [] w w') := Lib.hid (fun W a' c' hW hr => by
    rw [HM.out] at hr
    have h := order_all a' ap c' cp q ps W hr (HP.out.keep0 hW) (by rw [← HL.out]; omega) (by rw [← HM.out]; omega)
    rw [← HM.out, ← HL.out] at h
    refine h.mono ?_
    rintro e w' ⟨b, c, M, rfl, h1, h2, h3, h4, h5⟩
    exact ⟨b, c, M, rfl, by rw [h1.length_eq]; simp, h1.nodup_iff.2 List.nodup_range, fun x hx => List.mem_range.1 (h1.mem_iff.1 hx), h2, h3, hW.trans0 h5⟩)
  go_enter Try.func4, Try.ntmps4
  go_wp2_with fail
  refine (known14_ok _).mono ?_
  rintro e w1 ⟨rfl, hU⟩
  have HU := Lib.hid hU
  clear hU
  go_wp2_with fail
  refine (HTO.out _ HU.out).mono ?_
  rintro e w2 ⟨a2, c2, rfl, hr2, hU2⟩
  have HR2 := Lib.hid hr2
  have HU2 := Lib.hid hU2
  clear hr2 hU2
  go_wp2_with fail
  refine (HOR.out _ _ _ HU2.out HR2.out).mono ?_
  rintro e w3 ⟨b3, c3, M, rfl, hMl, hMn, hMm, hMR, hr3, hU3⟩
  have HML := Lib.hid hMl
  have HMN := Lib.hid hMn
  have HMM := Lib.hid hMm
  have HMR := Lib.hid hMR
  obtain ⟨g, hg⟩ : ∃ g, g = w3.heap.size := ⟨_, rfl⟩
  have hrow := World.rowIs_made w3 (.bool false) m 4
  have hU4 := hU3.alloc (.cells (madeCells #[.bool false] m) 4)
  rw [← hg] at hrow
  have hr4 := hr3.keep0 ((Upd.refl [] w3).alloc (.cells (madeCells #[.bool false] m) 4))
  have hgw : w.heap.size ≤ g := by rw [hg]; exact hU3.size
  have hg3 : ∀ k, (Value.slice b3 m c3).ownBlock = some k → 0 < m → k ≠ g := fun k hk h0 => by
    have := hr3.lt hk (by simp; omega)
    omega
  have HG := Lib.hid hg
  have HG3 := Lib.hid hg3
  clear hMl hMn hMm hMR hr3 hU3 hg hg3
  go_wp2
  rw [← HG.out]
  obtain ⟨wm, hwm⟩ : ∃ wm, wm = w3.alloc (.cells (madeCells #[.bool false] m) 4) := ⟨_, rfl⟩
  rw [← hwm] at hrow hr4 hU4 ⊢
  clear hwm HG hmk
  have HR4 := Lib.hid hr4
  have HU4 := Lib.hid hU4
  have HROW := Lib.hid hrow
  clear hr4 hU4 hrow
  go_loopw [7, 8] (fun lv iv wr => ∃ (j : Nat) (z : Int), iv = .int .i64 j ∧ lv = .int .i64 z ∧ j ≤ m ∧ Hid (z = if j = 0 then -1 else ((M.getD (j - 1) 0 : Nat) : Int)) ∧ Hid (Upd [] w wr) ∧ Hid (Rd wr (.slice b3 m c3) m (M.map fun j : Nat => Value.int .i64 j)) ∧ Hid (wr.rowIs g 4 m (fun x => .bool (decide (x ∈ M.take j))))) (fun _ iv _ => m - (intOf iv).toNat)
  case atStart => exact ⟨0, -1, rfl, rfl, Nat.zero_le _, Lib.hid rfl, HU4, HR4, Lib.hid (HROW.out.congr fun x hx => by simp)⟩
  case round =>
    clear HU4 HR4 HROW
    obtain ⟨j, z, rfl, rfl, hj, HZ, HU, HR, HROW⟩ := hrel
    by_cases hlt : j < m
    · obtain ⟨k, hk⟩ : ∃ k, k = M.getD j 0 := ⟨_, rfl⟩
      have hjl : j < M.length := by rw [HML.out]; exact hlt
      have hkM : k ∈ M := by rw [hk]; exact getD_mem hjl
      have hkm : k < m := HMM.out k hkM
      have hts : M.take (j + 1) = M.take j ++ [k] := by rw [hk]; exact take_snoc_getD hjl
      have hkt : k ∉ M.take j := by
        have h1 : (M.take (j + 1)).Nodup := HMN.out.sublist (List.take_sublist _ _)
        rw [hts, List.nodup_append] at h1
        intro h2
        exact h1.2.2 k h2 k (by simp) rfl
      obtain ⟨bb, off, hbb, hcell⟩ := HR.out.at (by omega)
      have cl := hcell j (.int .i64 (k : Nat)) (by rw [List.getElem?_map, List.getElem?_eq_getElem hjl, hk]; simp [List.getD, hjl])
      have ch : wr.cell? ⟨g, k, none⟩ = some (.bool false) := by
        have h1 := HROW.out.cell hkm
        rw [decide_eq_false hkt] at h1
        simpa using h1
      have fh := HROW.out.frozen k
      have hrow1 : (wr.setCell ⟨g, k, none⟩ (.bool true)).rowIs g 4 m (fun x => .bool (decide (x ∈ M.take (j + 1)))) := (HROW.out.set k (.bool true)).congr fun x hx => by
        rw [hts]
        by_cases hxk : x = k
        · subst hxk; simp
        · simp [hxk]
      have hu1 : Upd [g] wr (wr.setCell ⟨g, k, none⟩ (.bool true)) := (Upd.refl [g] wr).setCell _ _ (fun _ => by simp)
      have hU1 : Upd [] w (wr.setCell ⟨g, k, none⟩ (.bool true)) := HU.out.setCell _ _ (fun h => by exfalso; dsimp only at h; omega)
      have hR1 := HR.out.keep hu1 (fun k hk hl => by have := HG3.out k hk (by omega); simp; omega)
      have HROW1 := Lib.hid hrow1
      have HU1 := Lib.hid hU1
      have HR1 := Lib.hid hR1
      have HK := Lib.hid hk
      have k0 : (0 : Int) ≤ (k : Int) := by omega
      have k1 : (k : Int) < (m : Int) := by omega
      have kd0 : decide ((k : Int) < 0) = false := decide_eq_false (by omega)
      have kd1 : decide ((m : Int) ≤ (k : Int)) = false := decide_eq_false (by omega)
      have kd2 : decide (m ≤ k) = false := decide_eq_false (by omega)
      have j0 : (0 : Int) ≤ (j : Int) := by omega
      have j1 : (j : Int) < (m : Int) := by omega
      subst hbb
      clear hcell hrow1 hu1 hU1 hR1 hk hts hkt HR HROW HU hkM
      obtain ⟨W1, hW1⟩ : ∃ W1, W1 = wr.setCell ⟨g, k, none⟩ (.bool true) := ⟨_, rfl⟩
      rw [← hW1] at HROW1 HU1 HR1
      have HW1 := Lib.hid hW1
      clear hW1
      rcases j with _ | j
      · have hz : z = -1 := HZ.out
        subst hz
        rw [Nat.add_zero] at cl
        go_wp2
        rw [← HW1.out]
        go_roundw
        case rel => exact ⟨1, k, by go_num, rfl, by omega, Lib.hid (by rw [if_neg (by omega), HK.out]), HU1, HR1, HROW1⟩
        case measure => simp [intOf]; omega
      · obtain ⟨z', hz'⟩ : ∃ z', z' = M.getD j 0 := ⟨_, rfl⟩
        have hz : z = (z' : Int) := by rw [hz']; have := HZ.out; rw [if_neg (by omega)] at this; simpa using this
        subst hz
        have hzM : z' ∈ M := by rw [hz']; exact getD_mem (by omega)
        have hzm : z' < m := HMM.out z' hzM
        have hgo : goesW q ps z' k := by
          rw [hz', HK.out]
          have h1 := List.pairwise_iff_getElem.1 HMR.out j (j + 1) (by omega) hjl (by omega)
          simpa [List.getD, hjl, show j < M.length by omega] using h1
        obtain ⟨x, hx⟩ : ∃ x, q[z']? = some x := ⟨_, List.getElem?_eq_getElem (by rw [← HM.out]; exact hzm)⟩
        obtain ⟨y, hy⟩ : ∃ y, q[k]? = some y := ⟨_, List.getElem?_eq_getElem (by rw [← HM.out]; exact hkm)⟩
        have ex : wAt q z' = x := by have := wAt_get (q := q) (x := z') (by rw [← HM.out]; exact hzm); rw [hx] at this; exact (Option.some.inj this).symm
        have ey : wAt q k = y := by have := wAt_get (q := q) (x := k) (by rw [← HM.out]; exact hkm); rw [hy] at this; exact (Option.some.inj this).symm
        obtain ⟨b, o, hab, x0, x1, x2, x3⟩ := RdW.cells (HQ.out.keep0 HU1.out) hx
        obtain ⟨b', o', hab', y0, y1, y2, y3⟩ := RdW.cells (HQ.out.keep0 HU1.out) hy
        subst hab
        obtain ⟨rfl, rfl⟩ : b = b' ∧ o = o' := by simpa using hab'
        have HPR : Hid (∀ (t : Int) (W : World), Upd [] w W → Calls Try.prog 19 #[.slice ap l cp, .int .i64 t] W fun e w' => e = .returned (.int .i64 (prioOf ps t)) ∧ W = w') := Lib.hid (fun t W hW => by
          have h := prio14_any ap cp ps t W (HP.out.keep0 hW) (by rw [← HL.out]; omega)
          rw [← HL.out] at h
          exact h)
        unfold goesW at hgo
        rw [ex, ey] at hgo
        have zd0 : decide ((z' : Int) ≥ 0) = true := decide_eq_true (by omega)
        have zd1 : decide ((0 : Int) ≤ (z' : Int)) = true := decide_eq_true (by omega)
        have z0 : (z' : Int) < (m : Int) := by omega
        have HGO := Lib.hid hgo
        clear hgo ex ey hx hy hzM hz' hab'
        go_wp2
        rw [← HW1.out]
        go_quiet (((go_at_call 19; exact quiet_same (HPR.out _ _ (HU1.out.drewN _)))))
        go_wp2
        have fin : ∀ n, (∃ (jj : Nat) (zz : Int), (Value.int IntKind.i64 ((j + 1 : Nat) + 1 : Int)) = .int .i64 jj ∧ (Value.int IntKind.i64 (k : Int)) = .int .i64 zz ∧ jj ≤ m ∧ Hid (zz = if jj = 0 then -1 else ((M.getD (jj - 1) 0 : Nat) : Int)) ∧ Hid (Upd [] w (W1.drewN n)) ∧ Hid (Rd (W1.drewN n) (.slice (some ⟨bb, off, none⟩) m c3) m (M.map fun j : Nat => Value.int .i64 j)) ∧ Hid ((W1.drewN n).rowIs g 4 m (fun x => .bool (decide (x ∈ M.take jj))))) := fun n =>
          ⟨j + 1 + 1, k, by go_num, rfl, by omega, Lib.hid (by rw [if_neg (by omega), HK.out]; rfl), Lib.hid (HU1.out.drewN _), Lib.hid (HR1.out.keep0 ((Upd.refl _ _).drewN _)), Lib.hid (rowIs_keep14 HROW1.out ((Upd.refl [] _).drewN n) (by simp))⟩
        have FIN := Lib.hid fin
        clear fin
        rcases HGO.out with h1 | ⟨h1, h2 | ⟨h2, h3⟩⟩
        · have hd2 : decide (prioOf ps x.task < prioOf ps y.task) = false := decide_eq_false (by omega)
          have hd3 : (prioOf ps x.task == prioOf ps y.task) = false := beq_eq_false_iff_ne.2 (by omega)
          clear h1
          go_quiet (fail)
          go_wp2
          go_roundw
          case rel => exact FIN.out _
          case measure => simp [intOf]; omega
        · have hd2 : decide (prioOf ps x.task < prioOf ps y.task) = false := decide_eq_false (by omega)
          have hd3 : (prioOf ps x.task == prioOf ps y.task) = true := beq_iff_eq.2 h1
          have hd4 : decide (y.seq < x.seq) = false := decide_eq_false (by omega)
          have hd5 : (x.seq == y.seq) = false := beq_eq_false_iff_ne.2 (by omega)
          clear h1 h2
          go_quiet (fail)
          go_wp2
          go_roundw
          case rel => exact FIN.out _
          case measure => simp [intOf]; omega
        · have hd2 : decide (prioOf ps x.task < prioOf ps y.task) = false := decide_eq_false (by omega)
          have hd3 : (prioOf ps x.task == prioOf ps y.task) = true := beq_iff_eq.2 h1
          have hd4 : decide (y.seq < x.seq) = false := decide_eq_false (by omega)
          have hd5 : (x.seq == y.seq) = true := beq_iff_eq.2 h2
          have hd6 : decide ((k : Int) < (z' : Int)) = false := decide_eq_false (by omega)
          have hd7 : decide (k < z') = false := decide_eq_false (by omega)
          clear h1 h2
          go_quiet (fail)
          go_wp2
          go_roundw
          case rel => exact FIN.out _
          case measure => simp [intOf]; omega
    · obtain rfl : j = m := by omega
      go_wp2
      go_ret
      exact ⟨rfl, HU.out⟩
end Go.Proofs.Ytmjcolkpfblelaa
