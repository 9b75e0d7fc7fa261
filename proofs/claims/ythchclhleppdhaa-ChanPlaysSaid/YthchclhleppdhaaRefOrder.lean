/- The reference's Order: each time the best of those that are left. -/
import Derived.Test.YthchclhleppdhaaOrderNil
namespace Go.Proofs.Ythchclhleppdhaa
set_option linter.unusedVariables false
set_option linter.unusedSimpArgs false
open Go.RowKit
theorem goes_asym (q : List Wt) (ps : List Int) (x y : Nat) (h : goesW q ps x y) : ¬ goesW q ps y x := by
  unfold goesW at *
  generalize prioOf ps (wAt q x).task = a at *
  generalize prioOf ps (wAt q y).task = b at *
  omega
theorem next_is (q : List Wt) (ps : List Int) (M : List Nat) (hR : M.Pairwise (goesW q ps)) (j k : Nat) (hj : j < M.length) (hn : M.Nodup) (hk : k ∈ M) (hkt : k ∉ M.take j) (hmin : M.getD j 0 ∉ M.take j → M.getD j 0 = k ∨ goesW q ps k (M.getD j 0)) : k = M.getD j 0 := by
  have hnt : M.getD j 0 ∉ M.take j := by
    have h1 : (M.take (j + 1)).Nodup := hn.sublist (List.take_sublist _ _)
    rw [take_snoc_getD hj, List.nodup_append] at h1
    intro h2
    exact h1.2.2 _ h2 _ (by simp) rfl
  rcases hmin hnt with h | h
  · exact h.symm
  · exfalso
    have hd : M.drop j = M.getD j 0 :: M.drop (j + 1) := by
      rw [List.drop_eq_getElem_cons hj]
      simp [List.getD, hj]
    have hk2 : k ∈ M.drop j := by
      have h1 := hk
      rw [← List.take_append_drop j M] at h1
      rcases List.mem_append.1 h1 with h2 | h2
      · exact absurd h2 hkt
      · exact h2
    have hp : (M.drop j).Pairwise (goesW q ps) := hR.sublist (List.drop_sublist _ _)
    rw [hd] at hk2 hp
    rcases List.mem_cons.1 hk2 with h2 | h2
    · rw [← h2] at h
      exact goes_asym q ps _ _ h h
    · exact goes_asym q ps _ _ h ((List.pairwise_cons.1 hp).1 k h2)
theorem row_apart {w : World} {g base n m : Nat} {t e : TypeId} {f : Nat → Value} {size : Nat} {v : Value} {cs : List Value} (h : w.rowIs g t n f) (ho : w.ownsRow base e size v m cs) (hne : t ≠ e) : g ∉ v.ownBlock.toList := by
  intro hm
  obtain ⟨c, hc, _⟩ := h
  rcases ho.2 with ⟨rfl, _⟩ | ⟨g', cap, cur, rfl, hb, hg, _⟩
  · simp [Value.ownBlock] at hm
  · simp [Value.ownBlock] at hm
    subst hm
    rw [hc] at hg
    injection (Option.some.inj hg) with _ h2 _
    exact hne h2
theorem types_ne2 : (4 : TypeId) ≠ 3 := by decide
/-- The best so far of those that are left. -/
def Best21 (q : List Wt) (ps : List Int) (D : List Nat) (i : Nat) (b : Int) : Prop :=
  (b = -1 ∧ ∀ x, x < i → x ∈ D) ∨ ∃ k : Nat, b = k ∧ k < i ∧ k ∉ D ∧ ∀ x, x < i → x ∉ D → x = k ∨ goesW q ps k x
theorem Best21.skip {q : List Wt} {ps : List Int} {D : List Nat} {i : Nat} {b : Int} (h : Best21 q ps D i b) (hi : i ∈ D) : Best21 q ps D (i + 1) b := by
  rcases h with ⟨h1, h2⟩ | ⟨k, h1, h2, h3, h4⟩
  · refine .inl ⟨h1, fun x hx => ?_⟩
    rcases Nat.lt_or_ge x i with h | h
    · exact h2 x h
    · obtain rfl : x = i := by omega
      exact hi
  · refine .inr ⟨k, h1, by omega, h3, fun x hx hn => ?_⟩
    rcases Nat.lt_or_ge x i with h | h
    · exact h4 x h hn
    · obtain rfl : x = i := by omega
      exact absurd hi hn
theorem Best21.first {q : List Wt} {ps : List Int} {D : List Nat} {i : Nat} (h : ∀ x, x < i → x ∈ D) (hi : i ∉ D) : Best21 q ps D (i + 1) (i : Int) :=
  .inr ⟨i, rfl, by omega, hi, fun x hx hn => by
    rcases Nat.lt_or_ge x i with h1 | h1
    · exact absurd (h x h1) hn
    · exact .inl (by omega)⟩
theorem Best21.keep {q : List Wt} {ps : List Int} {D : List Nat} {i k : Nat} (h2 : k < i) (h3 : k ∉ D) (h4 : ∀ x, x < i → x ∉ D → x = k ∨ goesW q ps k x) (hg : goesW q ps k i) : Best21 q ps D (i + 1) (k : Int) :=
  .inr ⟨k, rfl, by omega, h3, fun x hx hn => by
    rcases Nat.lt_or_ge x i with h1 | h1
    · exact h4 x h1 hn
    · obtain rfl : x = i := by omega
      exact .inr hg⟩
theorem Best21.take {q : List Wt} {ps : List Int} {D : List Nat} {i k : Nat} (h4 : ∀ x, x < i → x ∉ D → x = k ∨ goesW q ps k x) (hi : i ∉ D) (hg : goesW q ps i k) : Best21 q ps D (i + 1) (i : Int) :=
  .inr ⟨i, rfl, by omega, hi, fun x hx hn => by
    rcases Nat.lt_or_ge x i with h1 | h1
    · rcases h4 x h1 hn with h5 | h5
      · subst h5; exact .inr hg
      · exact .inr ((goes_ord q ps 0).trans _ _ _ hg h5)
    · exact .inl (by omega)⟩
set_option maxHeartbeats 16000000 in
set_option maxRecDepth 100000 in
theorem order21_any (a ap : Option Addr) (cap cp : Nat) (q : List Wt) (ps : List Int) (w : World) (hq : RdW w (.slice a q.length cap) q) (hp : RdI w (.slice ap ps.length cp) ps) (hm : ps.length ≤ 1000000) (h60 : q.length ≤ 1000000) (M : List Nat) (hMp : M.Perm (List.range q.length)) (hMR : M.Pairwise (goesW q ps)) :
    Calls Try.prog 46 #[.slice a q.length cap, .slice ap ps.length cp] w fun e w' => ∃ (a' : Option Addr) (c : Nat), e = .returned (.slice a' q.length c) ∧ Rd w' (.slice a' q.length c) q.length (M.map fun j : Nat => Value.int .i64 j) ∧ Upd [] w w' := by
  have hmk : ∀ W : World, (Instr.makeSlice 32 (.int .i64 (q.length : Int)) (.int .i64 (q.length : Int))).run Try.prog W = .ok (.slice (some ⟨W.heap.size, 0, none⟩) q.length q.length) (W.alloc (.cells (madeCells #[.bool false] q.length) 4)) :=
    fun W => run_make_row' 32 4 (.bool false) 1 Try.underlying32 bool_info14 rfl .i64 .i64 q.length (by omega) (by omega) W
  have HML := Lib.hid (show M.length = q.length by rw [hMp.length_eq]; simp)
  have HMN := Lib.hid (show M.Nodup from hMp.nodup_iff.2 List.nodup_range)
  have HMM := Lib.hid (show ∀ x, x ∈ M ↔ x < q.length from fun x => by rw [hMp.mem_iff]; exact List.mem_range)
  have HMR := Lib.hid hMR
  have HQ := Lib.hid hq
  have HP := Lib.hid hp
  obtain ⟨g, hg⟩ : ∃ g, g = w.heap.size := ⟨_, rfl⟩
  have hrow := World.rowIs_made w (.bool false) q.length 4
  rw [← hg] at hrow
  have HROW := Lib.hid hrow
  have HG := Lib.hid hg
  clear hMp hMR hq hp hrow hg
  go_enter Try.func46, Try.ntmps46
  go_wp2
  rw [← HG.out]
  obtain ⟨wm, hwm⟩ : ∃ wm, wm = w.alloc (.cells (madeCells #[.bool false] q.length) 4) := ⟨_, rfl⟩
  have HU0 := Lib.hid (show Upd [] w wm by rw [hwm]; exact (Upd.refl _ _).alloc _)
  have HR0 := Lib.hid (show wm.rowIs g 4 q.length (fun x => .bool (decide (x ∈ M.take 0))) by rw [hwm]; exact HROW.out.congr fun x hx => by simp)
  rw [← hwm]
  clear hwm HROW hmk
  go_loopw [5, 7] (fun ov nv wr => ∃ (j : Nat) (oa : Option Addr) (oc : Nat), nv = .int .i64 j ∧ ov = .slice oa j oc ∧ j ≤ q.length ∧ Hid (Upd [] w wr) ∧ Hid (wr.rowIs g 4 q.length (fun x => .bool (decide (x ∈ M.take j)))) ∧ Hid (wr.ownsRow w.heap.size 3 1 (.slice oa j oc) j ((M.take j).map fun j : Nat => Value.int .i64 j))) (fun _ nv _ => q.length - (intOf nv).toNat)
  case atStart => exact ⟨0, none, 0, rfl, rfl, Nat.zero_le _, HU0, HR0, Lib.hid (World.ownsRow_nil _ _ _ _)⟩
  case round =>
    clear HU0 HR0
    obtain ⟨j, oa, oc, rfl, rfl, hj, HU, HROW, HO⟩ := hrel
    by_cases hlt : j < q.length
    · go_wp2
      go_loopw [8, 9] (fun kv iv wr => ∃ (i : Nat) (b : Int), iv = .int .i64 i ∧ kv = .int .i64 b ∧ i ≤ q.length ∧ Hid (Best21 q ps (M.take j) i b) ∧ Hid (Upd [] w wr) ∧ Hid (wr.rowIs g 4 q.length (fun x => .bool (decide (x ∈ M.take j)))) ∧ Hid (wr.ownsRow w.heap.size 3 1 (.slice oa j oc) j ((M.take j).map fun j : Nat => Value.int .i64 j))) (fun _ iv _ => q.length - (intOf iv).toNat)
      case atStart => exact ⟨0, -1, rfl, rfl, Nat.zero_le _, Lib.hid (.inl ⟨rfl, fun x hx => by omega⟩), HU, HROW, HO⟩
      case round =>
        clear HU HROW HO
        obtain ⟨i, b, rfl, rfl, hi, HB, HU, HROW, HO⟩ := hrel
        by_cases hlt2 : i < q.length
        · obtain ⟨y, hy⟩ : ∃ y, q[i]? = some y := ⟨_, List.getElem?_eq_getElem hlt2⟩
          have hUU : Upd [] w wr := HU.out
          obtain ⟨b0, off, rfl, y0, y1, y2, y3⟩ := RdW.cells (HQ.out.keep0 hUU) hy
          have ey : wAt q i = y := by have := wAt_get (q := q) (x := i) hlt2; rw [hy] at this; exact (Option.some.inj this).symm
          have hpk := HP.out.keep0 hUU
          have hpq : ∀ n, RdI (wr.drewN n) (.slice ap ps.length cp) ps := fun n => hpk.keep0 ((Upd.refl _ _).drewN _)
          have HPQ := Lib.hid hpq
          have EY := Lib.hid ey
          have cd : wr.cell? ⟨g, i, none⟩ = some (.bool (decide (i ∈ M.take j))) := HROW.out.cell hlt2
          have hi0 : (0 : Int) ≤ (i : Int) := by omega
          have hi1 : (i : Int) < (q.length : Int) := by omega
          clear hUU hpk hpq ey hy
          by_cases hin : i ∈ M.take j
          · rw [decide_eq_true hin] at cd
            have HIN := Lib.hid hin
            clear hin
            go_wp2
            go_quiet (((go_at_call 56; exact quiet_same (prio21_any _ _ ps _ _ (HPQ.out _) (by omega)))))
            go_wp2
            go_roundw
            case rel => exact ⟨i + 1, b, by go_num, rfl, by omega, Lib.hid (HB.out.skip HIN.out), Lib.hid (HU.out.drewN _), Lib.hid (rowIs_keep14 HROW.out ((Upd.refl [] _).drewN _) (by simp)), Lib.hid (own_keep0 HO.out ((Upd.refl [] _).drewN _))⟩
            case measure => simp [intOf]; omega
          · rw [decide_eq_false hin] at cd
            have HIN := Lib.hid hin
            clear hin
            rcases HB.out with ⟨hb, hall⟩ | ⟨k, hb, hki, hkD, hmin⟩
            · subst hb
              have HALL := Lib.hid hall
              clear hall
              go_wp2
              go_quiet (((go_at_call 56; exact quiet_same (prio21_any _ _ ps _ _ (HPQ.out _) (by omega)))))
              go_wp2
              go_roundw
              case rel => exact ⟨i + 1, i, by go_num, rfl, by omega, Lib.hid (Best21.first HALL.out HIN.out), Lib.hid (HU.out.drewN _), Lib.hid (rowIs_keep14 HROW.out ((Upd.refl [] _).drewN _) (by simp)), Lib.hid (own_keep0 HO.out ((Upd.refl [] _).drewN _))⟩
              case measure => simp [intOf]; omega
            · subst hb
              have HKD := Lib.hid hkD
              have HMIN := Lib.hid hmin
              clear hkD hmin
              obtain ⟨x, hx⟩ : ∃ x, q[k]? = some x := ⟨_, List.getElem?_eq_getElem (by omega)⟩
              have ex : wAt q k = x := by have := wAt_get (q := q) (x := k) (by omega); rw [hx] at this; exact (Option.some.inj this).symm
              obtain ⟨b', off', he, x0, x1, x2, x3⟩ := RdW.cells (HQ.out.keep0 (HU.out)) hx
              obtain ⟨rfl, rfl⟩ : b0 = b' ∧ off = off' := by simpa using he
              have hk0 : (0 : Int) ≤ (k : Int) := by omega
              have hk1 : (k : Int) < (q.length : Int) := by omega
              have hkn : decide ((k : Int) < 0) = false := decide_eq_false (by omega)
              have EX := Lib.hid ex
              clear ex hx he
              by_cases hgt : prioOf ps x.task < prioOf ps y.task
              · have hg : goesW q ps i k := by unfold goesW; rw [EX.out, EY.out]; exact .inl hgt
                have HGG := Lib.hid hg
                have hd : decide (prioOf ps x.task < prioOf ps y.task) = true := decide_eq_true hgt
                clear hg hgt
                go_wp2
                go_quiet (((go_at_call 56; exact quiet_same (prio21_any _ _ ps _ _ (HPQ.out _) (by omega)))))
                go_wp2
                go_roundw
                case rel => exact ⟨i + 1, i, by go_num, rfl, by omega, Lib.hid (Best21.take HMIN.out HIN.out HGG.out), Lib.hid (HU.out.drewN _), Lib.hid (rowIs_keep14 HROW.out ((Upd.refl [] _).drewN _) (by simp)), Lib.hid (own_keep0 HO.out ((Upd.refl [] _).drewN _))⟩
                case measure => simp [intOf]; omega
              · have hd : decide (prioOf ps x.task < prioOf ps y.task) = false := decide_eq_false hgt
                by_cases heq : prioOf ps y.task = prioOf ps x.task
                · have hd2 : (prioOf ps y.task == prioOf ps x.task) = true := beq_iff_eq.2 heq
                  by_cases hsq : y.seq < x.seq
                  · have hg : goesW q ps i k := by unfold goesW; rw [EX.out, EY.out]; exact .inr ⟨heq, .inl hsq⟩
                    have HGG := Lib.hid hg
                    have hd3 : decide (y.seq < x.seq) = true := decide_eq_true hsq
                    clear hg hgt heq hsq
                    go_wp2
                    go_quiet (((go_at_call 56; exact quiet_same (prio21_any _ _ ps _ _ (HPQ.out _) (by omega)))))
                    go_wp2
                    go_roundw
                    case rel => exact ⟨i + 1, i, by go_num, rfl, by omega, Lib.hid (Best21.take HMIN.out HIN.out HGG.out), Lib.hid (HU.out.drewN _), Lib.hid (rowIs_keep14 HROW.out ((Upd.refl [] _).drewN _) (by simp)), Lib.hid (own_keep0 HO.out ((Upd.refl [] _).drewN _))⟩
                    case measure => simp [intOf]; omega
                  · have hg : goesW q ps k i := by unfold goesW; rw [EX.out, EY.out]; omega
                    have HGG := Lib.hid hg
                    have hd3 : decide (y.seq < x.seq) = false := decide_eq_false hsq
                    clear hg hgt heq hsq
                    go_wp2
                    go_quiet (((go_at_call 56; exact quiet_same (prio21_any _ _ ps _ _ (HPQ.out _) (by omega)))))
                    go_wp2
                    go_roundw
                    case rel => exact ⟨i + 1, k, by go_num, rfl, by omega, Lib.hid (Best21.keep hki HKD.out HMIN.out HGG.out), Lib.hid (HU.out.drewN _), Lib.hid (rowIs_keep14 HROW.out ((Upd.refl [] _).drewN _) (by simp)), Lib.hid (own_keep0 HO.out ((Upd.refl [] _).drewN _))⟩
                    case measure => simp [intOf]; omega
                · have hg : goesW q ps k i := by unfold goesW; rw [EX.out, EY.out]; omega
                  have HGG := Lib.hid hg
                  have hd2 : (prioOf ps y.task == prioOf ps x.task) = false := beq_eq_false_iff_ne.2 heq
                  clear hg hgt heq
                  go_wp2
                  go_quiet (((go_at_call 56; exact quiet_same (prio21_any _ _ ps _ _ (HPQ.out _) (by omega)))))
                  go_wp2
                  go_roundw
                  case rel => exact ⟨i + 1, k, by go_num, rfl, by omega, Lib.hid (Best21.keep hki HKD.out HMIN.out HGG.out), Lib.hid (HU.out.drewN _), Lib.hid (rowIs_keep14 HROW.out ((Upd.refl [] _).drewN _) (by simp)), Lib.hid (own_keep0 HO.out ((Upd.refl [] _).drewN _))⟩
                  case measure => simp [intOf]; omega
        · obtain rfl : i = q.length := by omega
          have hjM : j < M.length := by rw [HML.out]; exact hlt
          have hMj : M.getD j 0 < q.length := (HMM.out _).1 (getD_mem hjM)
          obtain ⟨k, hb, hkq, hkD, hmin⟩ : ∃ k : Nat, b = k ∧ k < q.length ∧ k ∉ M.take j ∧ ∀ x, x < q.length → x ∉ M.take j → x = k ∨ goesW q ps k x := by
            rcases HB.out with ⟨hb, hall⟩ | h
            · exfalso
              have h1 : (M.take (j + 1)).Nodup := HMN.out.sublist (List.take_sublist _ _)
              rw [take_snoc_getD hjM, List.nodup_append] at h1
              exact h1.2.2 _ (hall _ hMj) _ (by simp) rfl
            · exact h
          subst hb
          have hk : k = M.getD j 0 := next_is q ps M HMR.out j k hjM HMN.out ((HMM.out k).2 hkq) hkD (fun h => hmin _ hMj h)
          have hts : M.take (j + 1) = M.take j ++ [k] := by rw [hk]; exact take_snoc_getD hjM
          have HTS := Lib.hid hts
          have hUU : Upd [] w wr := HU.out
          have hrw := HROW.out
          have ch : wr.cell? ⟨g, k, none⟩ = some (.bool false) := by
            have h1 := hrw.cell hkq
            rw [decide_eq_false hkD] at h1
            exact h1
          have fh := hrw.frozen k
          have hrow1 : (wr.setCell ⟨g, k, none⟩ (.bool true)).rowIs g 4 q.length (fun x => .bool (decide (x ∈ M.take (j + 1)))) := (hrw.set k (.bool true)).congr fun x hx => by
            rw [hts]
            by_cases hxk : x = k
            · subst hxk; simp
            · simp [hxk]
          have hu1 : Upd [g] wr (wr.setCell ⟨g, k, none⟩ (.bool true)) := (Upd.refl [g] wr).setCell _ _ (fun _ => by simp)
          have hU1 : Upd [] w (wr.setCell ⟨g, k, none⟩ (.bool true)) := hUU.setCell _ _ (fun h => by exfalso; have := HG.out; dsimp only at h; omega)
          have ho1 := HO.out
          have hna := row_apart hrw ho1 types_ne2
          have ho2 := own_keep ho1 hu1 (fun k hk => by intro h; simp at h; subst h; exact hna (by simp [hk]))
          have hlo : (M.take j).length = j := by rw [List.length_take]; omega
          have hm1 : j + 1 ≤ maxLen := by unfold maxLen; omega
          have hm3 : (j + 1) * 8 ≤ 140737488355328 := by omega
          have hsz := hU1.size
          have k0 : (0 : Int) ≤ (k : Int) := by omega
          have k1 : (k : Int) < (q.length : Int) := by omega
          obtain ⟨W1, hW1⟩ : ∃ W1, W1 = wr.setCell ⟨g, k, none⟩ (.bool true) := ⟨_, rfl⟩
          rw [← hW1] at hrow1 hU1 ho2 hsz
          have hna2 := row_apart hrow1 ho2 types_ne2
          have HW1 := Lib.hid hW1
          have HROW1 := Lib.hid hrow1
          have HU1 := Lib.hid hU1
          have HO2 := Lib.hid ho2
          have HNA := Lib.hid hna2
          clear hk hts hUU hrw hrow1 hu1 hU1 ho1 hna ho2 hW1 hna2 hkD hmin HB HU HROW HO
          go_wp2_with (first
            | (at_builtin; rw [← HW1.out]; refine wp_push_at tInt rfl (.tmp 85) (.tmp 87) rfl HO2.out [.int .i64 k] rfl rfl (by rw [HW1.out]; simp [World.setCell]) rfl (by intro y hy; simp at hy; subst hy; rfl) hm1 hm3 hsz ?_; intro g3 c3 w3 hown3 hu3; have HR3 := Lib.hid (rowIs_keep14 HROW1.out hu3 HNA.out); have HU3 := Lib.hid (HU1.out.trans hu3 (fun x hx hl => by have := (HO2.out.lt x (by simpa using hx)).1; omega)); have HO3 := Lib.hid hown3; clear hown3 hu3))
          go_roundw
          case rel => exact ⟨j + 1, _, _, by go_num, rfl, by omega, HU3, HR3, Lib.hid (by rw [HTS.out, List.map_append]; exact HO3.out)⟩
          case measure => simp [intOf]; omega
    · obtain rfl : j = q.length := by omega
      go_wp2
      go_ret
      exact ⟨oa, oc, rfl, by have h := Rd.of_own HO.out; rw [← HML.out, List.take_length, HML.out] at h; exact h, HU.out⟩
end Go.Proofs.Ythchclhleppdhaa
