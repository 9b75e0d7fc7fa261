/- op.Check of an op of a known kind: the walk, once for all kinds. -/
import Derived.Test.YtjnhahdelipebaaXAx0
import Derived.Test.YtjnhahdelipebaaHBase
import Derived.Test.YtjnhahdelipebaaOpKinds
import Derived.Test.YtjnhahdelipebaaOpCasesW
import Derived.IntWalk
import Derived.Deep.RegionWith
import Derived.Deep.DeepCutAuto
namespace Go.Proofs.Ytjnhahdelipebaa.XA
open Go.RowKit Go.Proofs.YtjnhahdelipebaaW.PrintWords Go.Proofs.YtjnhahdelipebaaW.PrintLast Go.Proofs.YtjnhahdelipebaaW.PrintMore
set_option linter.unusedVariables false
set_option linter.unusedSimpArgs false
open Go.Proofs.YtjnhahdelipebaaH (Upd Rd)
/-- The op and its kind, as they lie behind kinds(). -/
structure OpW (w wx : World) (b2 : Nat) (c : Nat) (n v wt : Int) (A : Option Addr) (m cp : Nat) : Prop where
  y0 : wx.cell? ⟨w.heap.size, 0, none⟩ = some (.int .i64 (c : Int))
  y1 : wx.cell? ⟨w.heap.size, 1, none⟩ = some (.int .i64 n)
  y2 : wx.cell? ⟨w.heap.size, 2, none⟩ = some (.int .i64 v)
  y3 : wx.cell? ⟨w.heap.size, 3, none⟩ = some (.int .i64 wt)
  y4 : wx.cell? ⟨w.heap.size, 4, none⟩ = some (.slice A m cp)
  x1 : wx.cell? ⟨b2, 1, none⟩ = some (.int .i64 (leastN c))
  x2 : wx.cell? ⟨b2, 2, none⟩ = some (.int .i64 (mostN c))
  x3 : wx.cell? ⟨b2, 3, none⟩ = some (.bool (waitK c))
  x4 : wx.cell? ⟨b2, 4, none⟩ = some (.bool (moreK c))
  bel : Below w.heap.size w wx
theorem chk_one {c : Nat} {n v wt : Int} {l : List (Bool × Int × Int)} (hc1 : 1 ≤ c) (hc9 : c ≤ 9) (h7 : c ≠ 7) (h : n < leastN c ∨ mostN c < n ∨ (c ≠ 4 ∧ v ≠ 0) ∨ (c ≠ 4 ∧ c ≠ 5 ∧ wt ≠ 0) ∨ wt < -1 ∨ 1000 < wt ∨ 0 < l.length) : chkOp c n v wt l = 1 := by
  unfold chkOp
  rw [if_neg (by omega)]
  by_cases h1 : ((c : Int) ≠ 4 ∧ v ≠ 0) ∨ ((c : Int) ≠ 4 ∧ (c : Int) ≠ 5 ∧ (c : Int) ≠ 7 ∧ wt ≠ 0) ∨ ((c : Int) ≠ 7 ∧ 0 < l.length)
  · rw [if_pos h1]
  · rw [if_neg h1]
    by_cases h2 : n < leastN c ∨ mostN c < n ∨ wt < -1 ∨ 1000 < wt
    · rw [if_pos h2]
    · exfalso
      omega
theorem chk_zero {c : Nat} {n v wt : Int} {l : List (Bool × Int × Int)} (hc1 : 1 ≤ c) (hc9 : c ≤ 9) (h7 : c ≠ 7) (h : ¬ (n < leastN c ∨ mostN c < n ∨ (c ≠ 4 ∧ v ≠ 0) ∨ (c ≠ 4 ∧ c ≠ 5 ∧ wt ≠ 0) ∨ wt < -1 ∨ 1000 < wt ∨ 0 < l.length)) : chkOp c n v wt l = 0 := by
  unfold chkOp
  rw [if_neg (by omega), if_neg (by omega), if_neg (by omega), if_pos (by omega)]
theorem lt_five {P : Nat → Prop} (h : P 0 ∧ P 1 ∧ P 2 ∧ P 3 ∧ P 4) : ∀ o, o < 5 → P o := by
  intro o ho
  obtain ⟨h0, h1, h2, h3, h4⟩ := h
  rcases (show o = 0 ∨ o = 1 ∨ o = 2 ∨ o = 3 ∨ o = 4 by omega) with rfl | rfl | rfl | rfl | rfl <;> assumption
theorem opW_alloc {w w1 : World} {c : Nat} {n v wt : Int} {A : Option Addr} {m cp : Nat} (s : Value) (T : TypeId) (y0 : w1.cell? ⟨w.heap.size, 0, none⟩ = some (.int .i64 (c : Int))) (y1 : w1.cell? ⟨w.heap.size, 1, none⟩ = some (.int .i64 n)) (y2 : w1.cell? ⟨w.heap.size, 2, none⟩ = some (.int .i64 v)) (y3 : w1.cell? ⟨w.heap.size, 3, none⟩ = some (.int .i64 wt)) (y4 : w1.cell? ⟨w.heap.size, 4, none⟩ = some (.slice A m cp)) (hB : Upd [] w w1) :
    OpW w (w1.alloc (.cells #[s, .int .i64 (leastN c), .int .i64 (mostN c), .bool (waitK c), .bool (moreK c)] T)) w1.heap.size c n v wt A m cp := by
  have hb := blk_cell (heap_alloc_new w1 (.cells #[s, .int .i64 (leastN c), .int .i64 (mostN c), .bool (waitK c), .bool (moreK c)] T))
  have k : ∀ {a : Addr} {u : Value}, w1.cell? a = some u → (w1.alloc (.cells #[s, .int .i64 (leastN c), .int .i64 (mostN c), .bool (waitK c), .bool (moreK c)] T)).cell? a = some u := fun h => pw_cell_below ((Below.refl _ _).alloc (Nat.le_refl _) _) h
  exact ⟨k y0, k y1, k y2, k y3, k y4, (hb 1).trans rfl, (hb 2).trans rfl, (hb 3).trans rfl, (hb 4).trans rfl, below_alloc hB.below _⟩
theorem opW_set {w w1 : World} {c B : Nat} {n v wt : Int} {A : Option Addr} {m cp : Nat} (s : Value) (hBw : w.heap.size < B) (z : ∀ o, o < 5 → ∃ u, w1.cell? ⟨B, o, none⟩ = some u) (y0 : w1.cell? ⟨w.heap.size, 0, none⟩ = some (.int .i64 (c : Int))) (y1 : w1.cell? ⟨w.heap.size, 1, none⟩ = some (.int .i64 n)) (y2 : w1.cell? ⟨w.heap.size, 2, none⟩ = some (.int .i64 v)) (y3 : w1.cell? ⟨w.heap.size, 3, none⟩ = some (.int .i64 wt)) (y4 : w1.cell? ⟨w.heap.size, 4, none⟩ = some (.slice A m cp)) (hB : Upd [] w w1) :
    OpW w (((((w1.setCell ⟨B, 0, none⟩ s).setCell ⟨B, 1, none⟩ (.int .i64 (leastN c))).setCell ⟨B, 2, none⟩ (.int .i64 (mostN c))).setCell ⟨B, 3, none⟩ (.bool (waitK c))).setCell ⟨B, 4, none⟩ (.bool (moreK c))) B c n v wt A m cp := by
  obtain ⟨u1, z1⟩ := z 1 (by decide)
  obtain ⟨u2, z2⟩ := z 2 (by decide)
  obtain ⟨u3, z3⟩ := z 3 (by decide)
  obtain ⟨u4, z4⟩ := z 4 (by decide)
  have k : ∀ {o : Nat} {u : Value}, w1.cell? ⟨w.heap.size, o, none⟩ = some u → (((((w1.setCell ⟨B, 0, none⟩ s).setCell ⟨B, 1, none⟩ (.int .i64 (leastN c))).setCell ⟨B, 2, none⟩ (.int .i64 (mostN c))).setCell ⟨B, 3, none⟩ (.bool (waitK c))).setCell ⟨B, 4, none⟩ (.bool (moreK c))).cell? ⟨w.heap.size, o, none⟩ = some u := by
    intro o u h
    have hne : ∀ j, (⟨B, j, none⟩ : Addr) ≠ ⟨w.heap.size, o, none⟩ := fun j c => by injection c with c1; omega
    rw [World.cell?_setCell_other _ _ _ _ (hne _), World.cell?_setCell_other _ _ _ _ (hne _), World.cell?_setCell_other _ _ _ _ (hne _), World.cell?_setCell_other _ _ _ _ (hne _), World.cell?_setCell_other _ _ _ _ (hne _)]
    exact h
  refine ⟨k y0, k y1, k y2, k y3, k y4, ?_, ?_, ?_, ?_, ?_⟩
  · rw [World.cell?_setCell_other _ _ _ _ (by simp), World.cell?_setCell_other _ _ _ _ (by simp), World.cell?_setCell_other _ _ _ _ (by simp)]
    refine World.cell?_setCell_same _ _ _ (show _ = some u1 from ?_)
    rw [World.cell?_setCell_other _ _ _ _ (by simp)]
    exact z1
  · rw [World.cell?_setCell_other _ _ _ _ (by simp), World.cell?_setCell_other _ _ _ _ (by simp)]
    refine World.cell?_setCell_same _ _ _ (show _ = some u2 from ?_)
    rw [World.cell?_setCell_other _ _ _ _ (by simp), World.cell?_setCell_other _ _ _ _ (by simp)]
    exact z2
  · rw [World.cell?_setCell_other _ _ _ _ (by simp)]
    refine World.cell?_setCell_same _ _ _ (show _ = some u3 from ?_)
    rw [World.cell?_setCell_other _ _ _ _ (by simp), World.cell?_setCell_other _ _ _ _ (by simp), World.cell?_setCell_other _ _ _ _ (by simp)]
    exact z3
  · refine World.cell?_setCell_same _ _ _ (show _ = some u4 from ?_)
    rw [World.cell?_setCell_other _ _ _ _ (by simp), World.cell?_setCell_other _ _ _ _ (by simp), World.cell?_setCell_other _ _ _ _ (by simp), World.cell?_setCell_other _ _ _ _ (by simp)]
    exact z4
  · exact (((((hB.setCell _ _ (by intro h; simp at h; omega)).setCell _ _ (by intro h; simp at h; omega)).setCell _ _ (by intro h; simp at h; omega)).setCell _ _ (by intro h; simp at h; omega)).setCell _ _ (by intro h; simp at h; omega)).below
set_option maxHeartbeats 16000000 in
set_option maxRecDepth 100000 in
theorem progOp_kind (c : Nat) (hc1 : 1 ≤ c) (hc9 : c ≤ 9) (n v wt : Int) (A : Option Addr) (m cp : Nat) (hmc : m ≤ cp) (l : List (S84)) (hl : l.length = m) (w : World) (hr0 : Kd.C k84 w A m l) :
    Calls Try.prog 33 #[.agg #[.int .i64 (c : Int), .int .i64 n, .int .i64 v, .int .i64 wt, .slice A m cp]] w fun e w' => e = .returned (.int .i64 (chkOp c n v wt (l.map tripP))) ∧ Below w.heap.size w w' := by
  obtain ⟨r, hr⟩ : ∃ r, r = chkOp c n v wt (l.map tripP) := ⟨_, rfl⟩
  rw [← hr]
  have HR := Lib.hid hr
  have HL := Lib.hid hl
  have hcs := fun W (hB : Below w.heap.size w W) => progCases_any A m cp hmc l hl W (Kd.C_below hr0 hB)
  obtain ⟨R0, hR0⟩ : ∃ R0 : Int, R0 = if m < 1 ∨ 4 < m then 18 else casesF [] (l.map tripP) := ⟨_, rfl⟩
  simp only [← hR0] at hcs
  have HC := Lib.hid hcs
  have HR0 := Lib.hid hR0
  have hc10 : (c : Int) < 10 := by omega
  have hc0 : (0 : Int) ≤ (c : Int) := by omega
  have d1 : decide ((c : Int) < 1) = false := by simp; omega
  have d9 : decide ((c : Int) > 9) = false := by simp; omega
  clear hr hl hcs hr0 hmc hR0
  go_enter Try.func33, Try.ntmps33
  go_upto_region 3 with fail
  go_cut [3] (fun s3 wx => ∃ b2, s3 = .pointer (some ⟨b2, 0, none⟩) ∧ Hid (OpW w wx b2 c n v wt A m cp))
  case first =>
    go_region_with (first | (go_at_call 49; refine (kinds_for c hc1 hc9 _).mono ?_; rintro e w1 ⟨g, s, rfl, x0, x1, x2, x3, x4, hb1, hg⟩; have y0 : w1.cell? ⟨w.heap.size, 0, none⟩ = some (.int .i64 (c : Int)) := pw_cell_below hb1 (by first | assumption | (go_simp; done) | (simp; done)); have y1 : w1.cell? ⟨w.heap.size, 1, none⟩ = some (.int .i64 n) := pw_cell_below hb1 (by first | assumption | (go_simp; done) | (simp; done)); have y2 : w1.cell? ⟨w.heap.size, 2, none⟩ = some (.int .i64 v) := pw_cell_below hb1 (by first | assumption | (go_simp; done) | (simp; done)); have y3 : w1.cell? ⟨w.heap.size, 3, none⟩ = some (.int .i64 wt) := pw_cell_below hb1 (by first | assumption | (go_simp; done) | (simp; done)); have y4 : w1.cell? ⟨w.heap.size, 4, none⟩ = some (.slice A m cp) := pw_cell_below hb1 (by first | assumption | (go_simp; done) | (simp; done)); have hq1 := World.block_lt_of_cell? w1 _ y0; have hq2 := World.block_lt_of_cell? w1 _ x0; have hbs := hb1.size; simp at hbs; have HB1 : Hid (Upd [] w w1) := Lib.hid (Upd.trans0 (by repeat (first | refine Upd.alloc ?_ _ | refine Upd.drewN ?_ _ | refine Upd.drew ?_ | exact Upd.refl _ _)) (Upd.of_below hb1)); obtain ⟨hbc, hbf⟩ := bcell hb1; simp at hbc; simp at hbf))
    all_goals
      go_wp2_with fail
      go_meet
    all_goals
      refine ⟨_, rfl, Lib.hid ?_⟩
      first
      | (with_reducible exact opW_alloc _ _ y0 y1 y2 y3 y4 HB1.out)
      | (with_reducible refine opW_set _ (Nat.lt_succ_self _) ?_ y0 y1 y2 y3 y4 HB1.out
         have e0 := hbc (w.heap.size + 1) 0 (Nat.lt_succ_self _)
         simp at e0
         have e1 := hbc (w.heap.size + 1) 1 (Nat.lt_succ_self _)
         simp at e1
         have e2 := hbc (w.heap.size + 1) 2 (Nat.lt_succ_self _)
         simp at e2
         have e3 := hbc (w.heap.size + 1) 3 (Nat.lt_succ_self _)
         simp at e3
         have e4 := hbc (w.heap.size + 1) 4 (Nat.lt_succ_self _)
         simp at e4
         exact lt_five ⟨⟨_, e0⟩, ⟨_, e1⟩, ⟨_, e2⟩, ⟨_, e3⟩, ⟨_, e4⟩⟩)
  case rest =>
    obtain ⟨b2, rfl, hW⟩ := hcut
    obtain ⟨y0, y1, y2, y3, y4, x1, x2, x3, x4, hB⟩ := hW.out
    have HB := Lib.hid hB
    clear hW hB
    obtain ⟨le, hle⟩ : ∃ le, le = leastN c := ⟨_, rfl⟩
    obtain ⟨mo, hmo⟩ : ∃ mo, mo = mostN c := ⟨_, rfl⟩
    rw [← hle] at x1
    rw [← hmo] at x2
    have HLE := Lib.hid hle
    have HMO := Lib.hid hmo
    clear hle hmo
    by_cases h7 : c = 7
    · have e3 : waitK c = true := by subst h7; rfl
      have e4 : moreK c = true := by subst h7; rfl
      have t4 : ((c : Int) != 4) = true := by subst h7; rfl
      rw [e3] at x3
      rw [e4] at x4
      clear e3 e4
      by_cases hg : v = 0 ∧ n = 0 ∧ -1 ≤ wt ∧ wt ≤ 1000
      · obtain ⟨rfl, rfl, g3, g4⟩ := hg
        have t1 : decide (wt < -1) = false := by simp; omega
        have t2 : decide (wt > 1000) = false := by simp; omega
        have e1 : le = 0 := by rw [HLE.out]; subst h7; rfl
        have e2 : mo = 0 := by rw [HMO.out]; subst h7; rfl
        subst e1 e2
        have HH7 := Lib.hid h7
        clear h7
        go_wp2_with (first | (go_at_call 50; refine (HC.out _ HB.out).mono ?_; rintro e w2 ⟨rfl, hb2⟩))
        go_ret
        refine ⟨ret_i64 ?_, below_step HB.out hb2⟩
        have hr := HR.out
        have hm := HL.out
        refine HR0.out.trans ?_
        rw [hr, HH7.out]
        symm
        rw [show ((7 : Nat) : Int) = 7 from rfl]
        unfold chkOp leastN mostN
        rw [List.length_map, hm]
        rw [if_neg (by omega), if_neg (by omega), if_neg (by simp; omega), if_neg (by omega)]
      · have hr : r = 1 := by
          rw [HR.out, h7]
          unfold chkOp leastN mostN
          (repeat' split) <;> first | rfl | omega
        have e1 : le = 0 := by rw [HLE.out]; subst h7; rfl
        have e2 : mo = 0 := by rw [HMO.out]; subst h7; rfl
        subst e1 e2 hr
        have HG := Lib.hid hg
        clear h7 hg
        go_wp2
        all_goals
          first
          | (go_ret; exact ⟨rfl, HB.out⟩)
          | (exfalso
             have hb := HG.out
             (try simp only [bne_iff_ne, ne_eq, bne_eq_false_iff_eq, not_true_eq_false, false_and, false_or, or_false] at *)
             omega)
    · have e4 : moreK c = false := by simp [moreK, h7]
      rw [e4] at x4
      clear e4
      have one : Hid ((n < le ∨ mo < n ∨ (c ≠ 4 ∧ v ≠ 0) ∨ (c ≠ 4 ∧ c ≠ 5 ∧ wt ≠ 0) ∨ wt < -1 ∨ 1000 < wt ∨ 0 < m) → (1 : Int) = r) := Lib.hid (fun h => by
        rw [HR.out]
        refine (chk_one hc1 hc9 h7 ?_).symm
        rw [← HLE.out, ← HMO.out, List.length_map, HL.out]
        exact h)
      have zero : Hid (¬ (n < le ∨ mo < n ∨ (c ≠ 4 ∧ v ≠ 0) ∨ (c ≠ 4 ∧ c ≠ 5 ∧ wt ≠ 0) ∨ wt < -1 ∨ 1000 < wt ∨ 0 < m) → (0 : Int) = r) := Lib.hid (fun h => by
        rw [HR.out]
        refine (chk_zero hc1 hc9 h7 ?_).symm
        rw [← HLE.out, ← HMO.out, List.length_map, HL.out]
        exact h)
      clear HR HL HLE HMO HC HR0
      by_cases a1 : n < le
      · have t1 : decide (n < le) = true := decide_eq_true a1
        have o := one.out (.inl a1)
        subst o
        clear one zero a1
        go_wp2
        go_ret
        exact ⟨rfl, HB.out⟩
      · have t1 : decide (n < le) = false := decide_eq_false a1
        by_cases a2 : mo < n
        · have t2 : decide (n > mo) = true := decide_eq_true a2
          have o := one.out (.inr (.inl a2))
          subst o
          clear one zero a1 a2
          go_wp2
          go_ret
          exact ⟨rfl, HB.out⟩
        · have t2 : decide (n > mo) = false := decide_eq_false a2
          by_cases a3 : c ≠ 4 ∧ v ≠ 0
          · have t4 : ((c : Int) != 4) = true := by simp; omega
            have tv : (v != 0) = true := by simp; exact a3.2
            have o := one.out (.inr (.inr (.inl a3)))
            subst o
            clear one zero a1 a2 a3
            go_wp2
            go_ret
            exact ⟨rfl, HB.out⟩
          · have hch : (waitK c = true ∧ ((c : Int) != 4) = false ∧ c = 4) ∨ (waitK c = true ∧ (((c : Int) != 4) = true ∧ (v != 0) = false) ∧ c = 5) ∨ (waitK c = false ∧ (((c : Int) != 4) = true ∧ (v != 0) = false) ∧ c ≠ 4 ∧ c ≠ 5) := by
              by_cases h4 : c = 4
              · subst h4; exact .inl ⟨rfl, rfl, rfl⟩
              · have hv : (v != 0) = false := by
                  have : v = 0 := Classical.byContradiction fun hc => a3 ⟨h4, hc⟩
                  simp [this]
                by_cases h5 : c = 5
                · subst h5; exact .inr (.inl ⟨rfl, ⟨rfl, hv⟩, rfl⟩)
                · exact .inr (.inr ⟨by simp [waitK, h4, h5, h7], ⟨by simp; omega, hv⟩, h4, h5⟩)
            have A1 := Lib.hid a1
            have A2 := Lib.hid a2
            have A3 := Lib.hid a3
            clear a1 a2 a3 h7
            rcases hch with ⟨e3, t4, hk⟩ | ⟨e3, ⟨t4, tv⟩, hk⟩ | ⟨e3, ⟨t4, tv⟩, hk⟩
            case' inr.inr =>
              have HK := Lib.hid hk
              by_cases b1 : wt = 0
              case' neg =>
                have tb : (wt != 0) = true := bne_iff_ne.2 b1
                have o := one.out (.inr (.inr (.inr (.inl ⟨hk.1, hk.2, b1⟩))))
                subst o
                rw [e3] at x3
                clear one zero b1 hk e3
                go_wp2
                go_ret
                exact ⟨rfl, HB.out⟩
              have HW : Hid (c ≠ 4 ∧ c ≠ 5 → wt = 0) := Lib.hid (fun _ => b1)
              have tb : (wt != 0) = false := by rw [b1]; rfl
              clear b1
            case' inl => have HW : Hid (c ≠ 4 ∧ c ≠ 5 → wt = 0) := Lib.hid (fun h => absurd hk h.1)
            case' inr.inl => have HW : Hid (c ≠ 4 ∧ c ≠ 5 → wt = 0) := Lib.hid (fun h => absurd hk h.2)
            all_goals
              rw [e3] at x3
              clear e3 hk
              by_cases b2 : wt < -1
              · have t5 : decide (wt < -1) = true := decide_eq_true b2
                have o := one.out (.inr (.inr (.inr (.inr (.inl b2)))))
                subst o
                clear one zero b2
                go_wp2
                go_ret
                exact ⟨rfl, HB.out⟩
              · have t5 : decide (wt < -1) = false := decide_eq_false b2
                by_cases b3 : 1000 < wt
                · have t6 : decide (wt > 1000) = true := decide_eq_true b3
                  have o := one.out (.inr (.inr (.inr (.inr (.inr (.inl b3))))))
                  subst o
                  clear one zero b2 b3
                  go_wp2
                  go_ret
                  exact ⟨rfl, HB.out⟩
                · have t6 : decide (wt > 1000) = false := decide_eq_false b3
                  by_cases b4 : 0 < m
                  · have t7 : decide ((m : Int) > 0) = true := by simp; omega
                    have t8 : decide (0 < m) = true := decide_eq_true b4
                    have o := one.out (.inr (.inr (.inr (.inr (.inr (.inr b4))))))
                    subst o
                    clear one zero b2 b3 b4
                    go_wp2
                    go_ret
                    exact ⟨rfl, HB.out⟩
                  · have t7 : decide ((m : Int) > 0) = false := by simp; omega
                    have t8 : decide (0 < m) = false := decide_eq_false b4
                    have o := zero.out (fun h => by
                      rcases h with h | h | h | h | h | h | h
                      · exact A1.out h
                      · exact A2.out h
                      · exact A3.out h
                      · exact h.2.2 (HW.out ⟨h.1, h.2.1⟩)
                      · exact b2 h
                      · exact b3 h
                      · exact b4 h)
                    subst o
                    clear one zero b2 b3 b4
                    go_wp2
                    go_ret
                    exact ⟨rfl, HB.out⟩
end Go.Proofs.Ytjnhahdelipebaa.XA
