/- slices.symMergeCmpFunc of two sorted rows side by side: the row sorted. -/
import Derived.Test.YthchclhleppdhaaMergeLast
import Derived.Deep.CutRange
namespace Go.Proofs.Ythchclhleppdhaa
set_option linter.unusedVariables false
set_option linter.unusedSimpArgs false
open Go.RowKit
set_option maxHeartbeats 16000000 in
set_option maxRecDepth 100000 in
theorem merge_step (N : Nat) (cf : Nat → Nat → Int) (R : Nat → Nat → Prop) (hO : Ord N cf R) (cap0 : Array Value) (g cap : Nat) (A X Y C : List Nat) (a m b n : Nat) (ha : a = A.length) (hmm : m = a + X.length) (hX2 : 2 ≤ X.length) (hb : b = m + Y.length) (hY2 : 2 ≤ Y.length) (hn : n = (A ++ X ++ Y ++ C).length) (hm : n ≤ 1000000) (w : World)
    (hrow : RowN w g 3 cap (A ++ X ++ Y ++ C)) (hX : X.Pairwise R) (hY : Y.Pairwise R) (hlt : ∀ x ∈ X, ∀ y ∈ Y, x < y) (hN : ∀ x ∈ X ++ Y, x < N) (hN2 : N ≤ 9223372036854775000)
    (hcl : ∀ (x y : Nat) (W : World), x < N → y < N → Upd [g] w W → Calls Try.prog 65 (#[.int .i64 x, .int .i64 y] ++ cap0) W fun e w' => e = .returned (.int .i64 (cf x y)) ∧ Upd [] W w')
    (hrec : ∀ (A' X' Y' C' : List Nat) (a' m' b' : Nat) (w' : World), X'.length + Y'.length < X.length + Y.length → 0 < X'.length → 0 < Y'.length → a' = A'.length → m' = a' + X'.length → b' = m' + Y'.length → n = (A' ++ X' ++ Y' ++ C').length →
      RowN w' g 3 cap (A' ++ X' ++ Y' ++ C') → X'.Pairwise R → Y'.Pairwise R → (∀ x ∈ X', ∀ y ∈ Y', x < y) → (∀ x ∈ X' ++ Y', x < N) → Upd [g] w w' →
      Calls Try.prog 71 #[.slice (some ⟨g, 0, none⟩) n cap, .int .i64 a', .int .i64 m', .int .i64 b', .func (.func 65) #[] cap0] w' fun e w'' =>
        e = .returned (.tuple #[]) ∧ ∃ Z, Z.Perm (X' ++ Y') ∧ Z.Pairwise R ∧ RowN w'' g 3 cap (A' ++ Z ++ C') ∧ Upd [g] w' w'') :
    Calls Try.prog 71 #[.slice (some ⟨g, 0, none⟩) n cap, .int .i64 a, .int .i64 m, .int .i64 b, .func (.func 65) #[] cap0] w fun e w' =>
      e = .returned (.tuple #[]) ∧ ∃ Z, Z.Perm (X ++ Y) ∧ Z.Pairwise R ∧ RowN w' g 3 cap (A ++ Z ++ C) ∧ Upd [g] w w' := by
  obtain ⟨x, hx⟩ : ∃ x, x = X.length := ⟨_, rfl⟩
  obtain ⟨y, hy⟩ : ∃ y, y = Y.length := ⟨_, rfl⟩
  obtain ⟨z, hz⟩ : ∃ z, z = C.length := ⟨_, rfl⟩
  have hsum : a + x + y + z = n := by rw [hn, ha, hx, hy, hz]; simp; omega
  have HR := Lib.hid hrow
  have HO := Lib.hid hO
  have HCL := Lib.hid hcl
  have HREC := Lib.hid hrec
  have HXX := Lib.hid hX
  have HYY := Lib.hid hY
  have HLT := Lib.hid hlt
  have HNN := Lib.hid hN
  have HA := Lib.hid ha
  have HX := Lib.hid hx
  have HY := Lib.hid hy
  have HZ := Lib.hid hz
  rw [← hx] at hmm hX2
  rw [← hy] at hb hY2
  have m1 : m ≤ a + x := by omega
  have m2 : a + x ≤ m := by omega
  have b1 : b ≤ m + y := by omega
  have b2 : m + y ≤ b := by omega
  have n1 : a + x + y + z ≤ n := by omega
  have n2 : n ≤ a + x + y + z := by omega
  have hcx : ∀ k, k < x → w.cell? ⟨g, a + k, none⟩ = some (.int .i64 (X.getD k 0 : Nat)) := by
    intro k hk
    have e : (A ++ X ++ Y ++ C).getD (a + k) 0 = X.getD k 0 := by
      rw [ha, List.append_assoc, List.append_assoc]
      simp only [List.getD]
      rw [List.getElem?_append_right (by omega), Nat.add_sub_cancel_left, List.getElem?_append_left (by omega)]
    rw [hrow.cell (i := a + k) (by rw [← hn]; omega), e]
  have hcy : ∀ k, k < y → w.cell? ⟨g, m + k, none⟩ = some (.int .i64 (Y.getD k 0 : Nat)) := by
    intro k hk
    have e : (A ++ X ++ Y ++ C).getD (m + k) 0 = Y.getD k 0 := by
      have h1 : m + k = (A ++ X).length + k := by simp; omega
      rw [h1, List.append_assoc (A ++ X)]
      simp only [List.getD]
      rw [List.getElem?_append_right (by omega), Nat.add_sub_cancel_left, List.getElem?_append_left (by omega)]
    rw [hrow.cell (i := m + k) (by rw [← hn]; omega), e]
  have HCX := Lib.hid hcx
  have HCY := Lib.hid hcy
  have w0 : IntKind.i64.wrap ((m : Int) - (a : Int)) = (x : Int) := by rw [IntWalk.i64_in _ (by omega)]; omega
  have w00 : ((x : Int) == 1) = false := by simp; omega
  have w01 : IntKind.i64.wrap ((b : Int) - (m : Int)) = (y : Int) := by rw [IntWalk.i64_in _ (by omega)]; omega
  have w02 : ((y : Int) == 1) = false := by simp; omega
  obtain ⟨s, hs⟩ : ∃ s, s = a + b := ⟨_, rfl⟩
  have s1 : a + b ≤ s := by omega
  have s2 : s ≤ a + b := by omega
  obtain ⟨h, hh⟩ : ∃ h, h = s / 2 := ⟨_, rfl⟩
  have h1 : h + h ≤ s := by omega
  have h2 : s ≤ h + h + 1 := by omega
  obtain ⟨q, hq⟩ : ∃ q, q = h + m := ⟨_, rfl⟩
  have q1 : q ≤ h + m := by omega
  have q2 : h + m ≤ q := by omega
  obtain ⟨p, hp⟩ : ∃ p, p = q - 1 := ⟨_, rfl⟩
  have w03 : IntKind.i64.wrap ((a : Int) + (b : Int)) = (s : Int) := by rw [IntWalk.i64_in _ (by omega)]; omega
  have w04 : IntKind.u64.wrap (s : Int) = (s : Int) := by simp [IntKind.wrap, IntKind.bits, IntKind.signed]; omega
  have w05 : (s : Int) / 2 = (h : Int) := by omega
  have w06 : IntKind.i64.wrap ((h : Int) + (m : Int)) = (q : Int) := by rw [IntWalk.i64_in _ (by omega)]; omega
  have w07 : IntKind.i64.wrap ((q : Int) - 1) = (p : Int) := by rw [IntWalk.i64_in _ (by omega)]; omega
  have p1 : p + 1 ≤ q := by omega
  have p2 : q ≤ p + 1 := by omega
  have hgx : g < w.heap.size := hrow.lt
  clear ha hx hy hz hsum hb hmm hn hO hcl hX hY hlt hN hrow hcx hcy hrec hs hh hq hp
  go_enter Try.func71, Try.ntmps71
  go_upto_if 140 with fail
  go_cut [20, 21] from 140 to 146 (fun sv rv wx => ∃ (lo hi : Nat), sv = .int .i64 lo ∧ rv = .int .i64 hi ∧ a ≤ lo ∧ lo ≤ hi ∧ hi ≤ m ∧ hi ≤ h ∧ q ≤ lo + b ∧ Hid (lo = a ∨ lo + b = q) ∧ Hid (hi = m ∨ hi = h) ∧ Upd [] w wx)
  case first =>
    by_cases hc : h < m
    · have hd0 : decide ((h : Int) < (m : Int)) = true := decide_eq_true (by omega)
      have hd1 : decide (h < m) = true := decide_eq_true (by omega)
      obtain ⟨lo, hlo⟩ : ∃ lo, lo = q - b := ⟨_, rfl⟩
      have w1 : IntKind.i64.wrap ((q : Int) - (b : Int)) = (lo : Int) := by rw [IntWalk.i64_in _ (by omega)]; omega
      have k1 : q ≤ lo + b := by omega
      have k2 : lo + b ≤ q := by omega
      clear hlo
      go_wp2
      go_meet
      exact ⟨lo, h, rfl, rfl, by omega, by omega, by omega, by omega, by omega, Lib.hid (.inr (by omega)), Lib.hid (.inr rfl), by repeat (first | exact Upd.refl _ _ | refine Upd.drew ?_)⟩
    · have hd0 : decide ((h : Int) < (m : Int)) = false := decide_eq_false (by omega)
      have hd1 : decide (h < m) = false := decide_eq_false (by omega)
      go_wp2
      go_meet
      exact ⟨a, m, rfl, rfl, by omega, by omega, by omega, by omega, by omega, Lib.hid (.inl rfl), Lib.hid (.inl rfl), by repeat (first | exact Upd.refl _ _ | refine Upd.drew ?_)⟩
  case rest =>
    obtain ⟨lo, hi, rfl, rfl, l1, l2, l3, l4, l5, HLO, HHI, hu0⟩ := hcut
    clear w0 w00 w01 w02 w03 w04 w05 w06
    go_wp2
    go_loopw [20, 21] (fun iv jv wr => ∃ (i j : Nat), iv = .int .i64 i ∧ jv = .int .i64 j ∧ lo ≤ i ∧ i ≤ j ∧ j ≤ hi ∧ Hid (i = lo ∨ R (X.getD (i - 1 - a) 0) (Y.getD (h - i) 0)) ∧ Hid (j = hi ∨ R (Y.getD (h - 1 - j) 0) (X.getD (j - a) 0)) ∧ Upd [] w wr) (fun iv jv _ => (intOf jv).toNat - (intOf iv).toNat)
    case atStart => exact ⟨lo, hi, rfl, rfl, by omega, by omega, by omega, Lib.hid (.inl rfl), Lib.hid (.inl rfl), hu0⟩
    case round =>
      clear hu0
      obtain ⟨i, j, rfl, rfl, i1, i2, i3, HI, HJ, hu⟩ := hrel
      by_cases hlt : i < j
      · obtain ⟨s, hs⟩ : ∃ s, s = i + j := ⟨_, rfl⟩
        have s1 : i + j ≤ s := by omega
        have s2 : s ≤ i + j := by omega
        clear hs
        have hd0 : decide (i < j) = true := decide_eq_true (by omega)
        have w1 : IntKind.i64.wrap ((i : Int) + (j : Int)) = (s : Int) := by rw [IntWalk.i64_in _ (by omega)]; omega
        have w2 : IntKind.u64.wrap (s : Int) = (s : Int) := by simp [IntKind.wrap, IntKind.bits, IntKind.signed]; omega
        obtain ⟨c, hc⟩ : ∃ c, c = s / 2 := ⟨_, rfl⟩
        have w3 : (s : Int) / 2 = (c : Int) := by omega
        have c1 : i ≤ c := by omega
        have c2 : c < j := by omega
        obtain ⟨d, hd⟩ : ∃ d, d = p - c := ⟨_, rfl⟩
        have d1 : m ≤ d := by omega
        have d2 : d < b := by omega
        have w5 : IntKind.i64.wrap ((p : Int) - (c : Int)) = (d : Int) := by rw [IntWalk.i64_in _ (by omega)]; omega
        have hdm : d - m = h - 1 - c := by omega
        obtain ⟨v, hv⟩ : ∃ v, v = X.getD (c - a) 0 := ⟨_, rfl⟩
        obtain ⟨u, hu'⟩ : ∃ u, u = Y.getD (h - 1 - c) 0 := ⟨_, rfl⟩
        have k0 : wr.cell? ⟨g, d, none⟩ = some (.int .i64 (u : Nat)) := by
          have e := HCY.out (d - m) (by omega)
          rw [show m + (d - m) = d by omega, hdm, ← hu'] at e
          exact hu.cell e (by simp)
        have k1 : wr.cell? ⟨g, c, none⟩ = some (.int .i64 (v : Nat)) := by
          have e := HCX.out (c - a) (by omega)
          rw [show a + (c - a) = c by omega, ← hv] at e
          exact hu.cell e (by simp)
        have hvX : v ∈ X := by rw [hv]; exact getD_mem (by have := HX.out; omega)
        have huY : u ∈ Y := by rw [hu']; exact getD_mem (by have := HY.out; omega)
        have huN : u < N := HNN.out _ (by simp [huY])
        have hvN : v < N := HNN.out _ (by simp [hvX])
        have hvu : v < u := HLT.out v hvX u huY
        have hug : Upd [g] w wr := hu.mono (fun z hz _ => by simp at hz)
        have hgr : g < wr.heap.size := by have := hu.size; omega
        have p3 : (0 : Int) ≤ (d : Int) := by omega
        have p4 : (d : Int) < (n : Int) := by omega
        have p5 : (0 : Int) ≤ (c : Int) := by omega
        have p6 : (c : Int) < (n : Int) := by omega
        have w4 : IntKind.i64.wrap ((c : Int) + 1) = ((c + 1 : Nat) : Int) := by rw [IntWalk.i64_in _ (by omega)]; omega
        have HV := Lib.hid hv
        have HU' := Lib.hid hu'
        clear hc hv hu' hd hdm
        go_wp2
        clear w1 w2 w3 s1 s2
        by_cases hcmp : cf u v < 0
        · have hd2 : decide (cf u v < 0) = true := decide_eq_true hcmp
          have hR := (HO.out.cmp _ _ huN hvu).1 hcmp
          clear hcmp
          go_region_held3 (fun w' => w'.cell? ⟨g, d, none⟩ = some (.int .i64 (u : Nat)) ∧ w'.cell? ⟨g, c, none⟩ = some (.int .i64 (v : Nat))) (first | trivial | go_keep) (first
            | (go_at_call 65; refine (HCL.out u v _ huN hvN (by repeat (first | exact hug | refine Upd.drewN ?_ _ | refine Upd.drew ?_))).mono ?_; rintro e w1 ⟨rfl, hu1⟩; have d0 := hu1.cell (p := ⟨g, d, none⟩) k0 (by simp); have d1 := hu1.cell (p := ⟨g, c, none⟩) k1 (by simp); have hu2 : Upd [] w w1 := Upd.trans0 (by repeat (first | exact hu | refine Upd.drewN ?_ _ | refine Upd.drew ?_)) hu1))
          have HU2 := Lib.hid hu2
          clear hu1 hu2 hu hug k0 k1 d0 d1
          go_wp2
          go_roundw
          case rel => exact ⟨i, c, rfl, rfl, by omega, by omega, by omega, HI, Lib.hid (.inr (by rw [← HV.out, ← HU'.out]; exact hR)), HU2.out⟩
          case measure => simp [intOf]; omega
        · have hd2 : decide (cf u v < 0) = false := decide_eq_false hcmp
          have hR : R v u := by
            rcases HO.out.total v u (by omega) with h | h
            · exact h
            · exact absurd ((HO.out.cmp _ _ huN hvu).2 h) hcmp
          clear hcmp
          go_region_held3 (fun w' => w'.cell? ⟨g, d, none⟩ = some (.int .i64 (u : Nat)) ∧ w'.cell? ⟨g, c, none⟩ = some (.int .i64 (v : Nat))) (first | trivial | go_keep) (first
            | (go_at_call 65; refine (HCL.out u v _ huN hvN (by repeat (first | exact hug | refine Upd.drewN ?_ _ | refine Upd.drew ?_))).mono ?_; rintro e w1 ⟨rfl, hu1⟩; have d0 := hu1.cell (p := ⟨g, d, none⟩) k0 (by simp); have d1 := hu1.cell (p := ⟨g, c, none⟩) k1 (by simp); have hu2 : Upd [] w w1 := Upd.trans0 (by repeat (first | exact hu | refine Upd.drewN ?_ _ | refine Upd.drew ?_)) hu1))
          have HU2 := Lib.hid hu2
          clear hu1 hu2 hu hug k0 k1 d0 d1
          go_wp2
          go_roundw
          case rel => exact ⟨c + 1, j, by go_num, rfl, by omega, by omega, by omega, Lib.hid (.inr (by rw [show c + 1 - 1 - a = c - a by omega, show h - (c + 1) = h - 1 - c by omega, ← HV.out, ← HU'.out]; exact hR)), HJ, HU2.out⟩
          case measure => simp [intOf]; omega
      · obtain rfl : i = j := by omega
        have hd0 : decide (i < i) = false := decide_eq_false (by omega)
        obtain ⟨e, he⟩ : ∃ e, e = q - i := ⟨_, rfl⟩
        have w1 : IntKind.i64.wrap ((q : Int) - (i : Int)) = (e : Int) := by rw [IntWalk.i64_in _ (by omega)]; omega
        have e1 : m + h ≤ e + i := by omega
        have e2 : e + i ≤ m + h := by omega
        obtain ⟨k, hk⟩ : ∃ k, k = i - a := ⟨_, rfl⟩
        obtain ⟨t, ht⟩ : ∃ t, t = h - i := ⟨_, rfl⟩
        have H1 := Lib.hid (show k = 0 ∨ t = Y.length ∨ R (X.getD (k - 1) 0) (Y.getD t 0) from by
          rw [← HY.out]
          rcases HI.out with hh | hh
          · rcases HLO.out with h3 | h3
            · exact .inl (by omega)
            · exact .inr (.inl (by omega))
          · refine .inr (.inr ?_)
            rw [hk, ht, show i - a - 1 = i - 1 - a by omega]
            exact hh)
        have H2 := Lib.hid (show t = 0 ∨ k = X.length ∨ R (Y.getD (t - 1) 0) (X.getD k 0) from by
          rw [← HX.out]
          rcases HJ.out with hh | hh
          · rcases HHI.out with h3 | h3
            · exact .inr (.inl (by omega))
            · exact .inl (by omega)
          · refine .inr (.inr ?_)
            rw [hk, ht, show h - i - 1 = h - 1 - i by omega]
            exact hh)
        have k1 : k + a ≤ i := by omega
        have k2 : i ≤ k + a := by omega
        have t1 : t + i ≤ h := by omega
        have t2 : h ≤ t + i := by omega
        have k3 : k ≤ x := by omega
        have t3 : t ≤ y := by omega
        have HU := Lib.hid hu
        have hr0 : RowN wr g 3 cap (A ++ X ++ Y ++ C) := HR.out.keep hu (by simp)
        have lx1 : (X.take k).length = k := by rw [List.length_take, ← HX.out]; omega
        have lx2 : (X.drop k).length = x - k := by rw [List.length_drop, ← HX.out]
        have ly1 : (Y.take t).length = t := by rw [List.length_take, ← HY.out]; omega
        have ly2 : (Y.drop t).length = y - t := by rw [List.length_drop, ← HY.out]
        have hr1 : RowN wr g 3 cap (A ++ (X.take k ++ (X.drop k ++ (Y.take t ++ (Y.drop t ++ C))))) := by
          have e3 : A ++ (X.take k ++ (X.drop k ++ (Y.take t ++ (Y.drop t ++ C)))) = A ++ X ++ Y ++ C := by
            rw [← List.append_assoc (X.take k), List.take_append_drop, ← List.append_assoc (Y.take t), List.take_append_drop]
            simp
          rw [e3]; exact hr0
        have HR1 := Lib.hid hr1
        clear he hk ht hu hr0 hr1
        go_upto_region 39 with fail
        go_cut [185] from 178 to 185 (fun sv wx => sv = .bool (decide (i < m ∧ m < e)) ∧ RowN wx g 3 cap (A ++ (X.take k ++ (X.drop k ++ (Y.take t ++ (Y.drop t ++ C))))) ∧ Upd [g] w wx)
        case first =>
          by_cases c1 : i < m
          · have hd1 : decide ((i : Int) < (m : Int)) = true := decide_eq_true (by omega)
            have hd2 : decide (i < m) = true := decide_eq_true c1
            by_cases c2 : m < e
            · have hd3 : decide ((m : Int) < (e : Int)) = true := decide_eq_true (by omega)
              have hd4 : decide (m < e) = true := decide_eq_true c2
              go_wp2
              go_meet
              exact ⟨by simp [c1, c2], by repeat (first | exact HR1.out | refine RowN.drew ?_), by repeat (first | exact HU.out.mono (fun z hz _ => by simp at hz) | refine Upd.drew ?_)⟩
            · have hd3 : decide ((m : Int) < (e : Int)) = false := decide_eq_false (by omega)
              have hd4 : decide (m < e) = false := decide_eq_false c2
              go_wp2
              go_meet
              exact ⟨by simp [c1, c2], by repeat (first | exact HR1.out | refine RowN.drew ?_), by repeat (first | exact HU.out.mono (fun z hz _ => by simp at hz) | refine Upd.drew ?_)⟩
          · have hd1 : decide ((i : Int) < (m : Int)) = false := decide_eq_false (by omega)
            have hd2 : decide (i < m) = false := decide_eq_false c1
            go_wp2
            go_meet
            exact ⟨by simp [c1], by repeat (first | exact HR1.out | refine RowN.drew ?_), by repeat (first | exact HU.out.mono (fun z hz _ => by simp at hz) | refine Upd.drew ?_)⟩
        case rest =>
          clear HR1 HU
          obtain ⟨rfl, hr, hu⟩ := hcut
          go_upto_if 185 with fail
          go_cut [] from 185 to 191 (fun wx => RowN wx g 3 cap (A ++ (X.take k ++ (Y.take t ++ (X.drop k ++ (Y.drop t ++ C))))) ∧ Upd [g] w wx)
          case first =>
            by_cases hc : i < m ∧ m < e
            · have hd := decide_eq_true hc
              have hc2 := hc
              obtain ⟨c1, c2⟩ := hc2
              rw [hd]
              clear hc hd
              go_wp2_with fail
              refine (rotate_any g cap (A ++ X.take k) (X.drop k) (Y.take t) (Y.drop t ++ C) i m e n (by have := HA.out; simp [lx1]; omega) (by rw [lx2]; omega) (by rw [ly1]; omega) (by rw [lx2]; omega) (by rw [ly1]; omega) (by have h1 := HA.out; have h2 := HZ.out; simp only [List.length_append, lx1, lx2, ly1, ly2]; omega) hm _ _ (by simpa only [List.append_assoc] using hr)).mono ?_
              rintro e1 w1 ⟨rfl, hr1, hu1⟩
              have hu2 := hu.transS hu1
              clear hu hu1 hr
              go_wp2
              go_meet
              exact ⟨by simpa only [List.append_assoc] using hr1, hu2⟩
            · have hd := decide_eq_false hc
              rw [hd]
              go_wp2
              go_meet
              refine ⟨?_, hu⟩
              by_cases c1 : i < m
              · have e3 : Y.take t = [] := List.eq_nil_of_length_eq_zero (by rw [ly1]; omega)
                rw [e3] at hr ⊢
                simpa only [List.append_assoc, List.nil_append] using hr
              · have e3 : X.drop k = [] := List.eq_nil_of_length_eq_zero (by rw [lx2]; omega)
                rw [e3] at hr ⊢
                simpa only [List.append_assoc, List.nil_append] using hr
          case rest =>
            clear hr hu
            obtain ⟨hr, hu⟩ := hcut
            go_upto_region 41 with fail
            go_cut [199] from 192 to 199 (fun sv wx => sv = .bool (decide (a < i ∧ i < h)) ∧ RowN wx g 3 cap (A ++ (X.take k ++ (Y.take t ++ (X.drop k ++ (Y.drop t ++ C))))) ∧ Upd [g] w wx)
            case first =>
              by_cases c1 : a < i
              · have hd1 : decide ((a : Int) < (i : Int)) = true := decide_eq_true (by omega)
                have hd2 : decide (a < i) = true := decide_eq_true c1
                by_cases c2 : i < h
                · have hd3 : decide ((i : Int) < (h : Int)) = true := decide_eq_true (by omega)
                  have hd4 : decide (i < h) = true := decide_eq_true c2
                  go_wp2
                  go_meet
                  exact ⟨by simp [c1, c2], by repeat (first | exact hr | refine RowN.drew ?_), by repeat (first | exact hu | refine Upd.drew ?_)⟩
                · have hd3 : decide ((i : Int) < (h : Int)) = false := decide_eq_false (by omega)
                  have hd4 : decide (i < h) = false := decide_eq_false c2
                  go_wp2
                  go_meet
                  exact ⟨by simp [c1, c2], by repeat (first | exact hr | refine RowN.drew ?_), by repeat (first | exact hu | refine Upd.drew ?_)⟩
              · have hd1 : decide ((a : Int) < (i : Int)) = false := decide_eq_false (by omega)
                have hd2 : decide (a < i) = false := decide_eq_false c1
                go_wp2
                go_meet
                exact ⟨by simp [c1], by repeat (first | exact hr | refine RowN.drew ?_), by repeat (first | exact hu | refine Upd.drew ?_)⟩
            case rest =>
              clear hr hu
              obtain ⟨rfl, hr, hu⟩ := hcut
              go_upto_if 199 with fail
              go_cut [] from 199 to 205 (fun wx => ∃ Z1, Z1.Perm (X.take k ++ Y.take t) ∧ Z1.Pairwise R ∧ RowN wx g 3 cap (A ++ (Z1 ++ (X.drop k ++ (Y.drop t ++ C)))) ∧ Upd [g] w wx)
              case first =>
                by_cases hc : a < i ∧ i < h
                · have hd := decide_eq_true hc
                  have hc2 := hc
                  obtain ⟨c1, c2⟩ := hc2
                  rw [hd]
                  clear hc hd
                  go_wp2_with fail
                  refine (HREC.out A (X.take k) (Y.take t) (X.drop k ++ (Y.drop t ++ C)) a i h _ (by rw [lx1, ly1, ← HX.out, ← HY.out]; omega) (by rw [lx1]; omega) (by rw [ly1]; omega) HA.out (by rw [lx1]; omega) (by rw [ly1]; omega) (by have h1 := HA.out; have h2 := HZ.out; simp only [List.length_append, lx1, lx2, ly1, ly2]; omega) (by simpa only [List.append_assoc] using hr) (pw_take HXX.out k) (pw_take HYY.out t) (fun x hx y hy => HLT.out x (List.mem_of_mem_take hx) y (List.mem_of_mem_take hy)) (fun x hx => HNN.out x (by rcases List.mem_append.1 hx with h | h; exact List.mem_append.2 (.inl (List.mem_of_mem_take h)); exact List.mem_append.2 (.inr (List.mem_of_mem_take h)))) (by repeat (first | exact hu | refine Upd.drewN ?_ _ | refine Upd.drew ?_))).mono ?_
                  rintro e1 w1 ⟨rfl, Z1, hp1, hw1, hr1, hu1⟩
                  have hu2 := hu.transS hu1
                  clear hu hu1 hr
                  go_wp2
                  go_meet
                  exact ⟨Z1, hp1, hw1, by simpa only [List.append_assoc] using hr1, hu2⟩
                · have hd := decide_eq_false hc
                  rw [hd]
                  go_wp2
                  go_meet
                  refine ⟨X.take k ++ Y.take t, List.Perm.refl _, ?_, by simpa only [List.append_assoc] using hr, hu⟩
                  by_cases c1 : a < i
                  · have e3 : Y.take t = [] := List.eq_nil_of_length_eq_zero (by rw [ly1]; omega)
                    rw [e3, List.append_nil]; exact pw_take HXX.out k
                  · have e3 : X.take k = [] := List.eq_nil_of_length_eq_zero (by rw [lx1]; omega)
                    rw [e3, List.nil_append]; exact pw_take HYY.out t
              case rest =>
                clear hr hu
                obtain ⟨Z1, hp1, hw1, hr, hu⟩ := hcut
                have lz : Z1.length = k + t := by rw [hp1.length_eq, List.length_append, lx1, ly1]
                have HP1 := Lib.hid hp1
                have HW1 := Lib.hid hw1
                clear hp1 hw1
                go_upto_region 43 with fail
                go_cut [213] from 206 to 213 (fun sv wx => sv = .bool (decide (h < e ∧ e < b)) ∧ RowN wx g 3 cap (A ++ (Z1 ++ (X.drop k ++ (Y.drop t ++ C)))) ∧ Upd [g] w wx)
                case first =>
                  by_cases c1 : h < e
                  · have hd1 : decide ((h : Int) < (e : Int)) = true := decide_eq_true (by omega)
                    have hd2 : decide (h < e) = true := decide_eq_true c1
                    by_cases c2 : e < b
                    · have hd3 : decide ((e : Int) < (b : Int)) = true := decide_eq_true (by omega)
                      have hd4 : decide (e < b) = true := decide_eq_true c2
                      go_wp2
                      go_meet
                      exact ⟨by simp [c1, c2], by repeat (first | exact hr | refine RowN.drew ?_), by repeat (first | exact hu | refine Upd.drew ?_)⟩
                    · have hd3 : decide ((e : Int) < (b : Int)) = false := decide_eq_false (by omega)
                      have hd4 : decide (e < b) = false := decide_eq_false c2
                      go_wp2
                      go_meet
                      exact ⟨by simp [c1, c2], by repeat (first | exact hr | refine RowN.drew ?_), by repeat (first | exact hu | refine Upd.drew ?_)⟩
                  · have hd1 : decide ((h : Int) < (e : Int)) = false := decide_eq_false (by omega)
                    have hd2 : decide (h < e) = false := decide_eq_false c1
                    go_wp2
                    go_meet
                    exact ⟨by simp [c1], by repeat (first | exact hr | refine RowN.drew ?_), by repeat (first | exact hu | refine Upd.drew ?_)⟩
                case rest =>
                  clear hr hu
                  obtain ⟨rfl, hr, hu⟩ := hcut
                  go_upto_if 213 with fail
                  by_cases hc : h < e ∧ e < b
                  · have hd := decide_eq_true hc
                    have hc2 := hc
                    obtain ⟨c1, c2⟩ := hc2
                    rw [hd]
                    clear hc hd
                    go_wp2_with fail
                    refine (HREC.out (A ++ Z1) (X.drop k) (Y.drop t) C h e b _ (by rw [lx2, ly2, ← HX.out, ← HY.out]; omega) (by rw [lx2]; omega) (by rw [ly2]; omega) (by have h1 := HA.out; simp only [List.length_append, lz]; omega) (by rw [lx2]; omega) (by rw [ly2]; omega) (by have h1 := HA.out; have h2 := HZ.out; simp only [List.length_append, lz, lx2, ly2]; omega) (by simpa only [List.append_assoc] using hr) (pw_drop HXX.out k) (pw_drop HYY.out t) (fun x hx y hy => HLT.out x (List.mem_of_mem_drop hx) y (List.mem_of_mem_drop hy)) (fun x hx => HNN.out x (by rcases List.mem_append.1 hx with h | h; exact List.mem_append.2 (.inl (List.mem_of_mem_drop h)); exact List.mem_append.2 (.inr (List.mem_of_mem_drop h)))) (by repeat (first | exact hu | refine Upd.drewN ?_ _ | refine Upd.drew ?_))).mono ?_
                    rintro e1 w1 ⟨rfl, Z2, hp2, hw2, hr2, hu2⟩
                    have hu3 := hu.transS hu2
                    clear hu hu2 hr
                    go_wp2
                    first | go_end0 | ((try simp only [Exit.inBlock, Exit.then]); refine bodyPost_ret (results_none rfl _ _ _) rfl ?_)
                    have hf := pw_four HO.out.trans HXX.out HYY.out k t (by rw [← HX.out]; exact k3) (by rw [← HY.out]; exact t3) H1.out H2.out HP1.out hp2 HW1.out hw2
                    exact ⟨rfl, Z1 ++ Z2, hf.1, hf.2, by simpa only [List.append_assoc] using hr2, hu3⟩
                  · have hd := decide_eq_false hc
                    rw [hd]
                    go_wp2
                    first | go_end0 | ((try simp only [Exit.inBlock, Exit.then]); refine bodyPost_ret (results_none rfl _ _ _) rfl ?_)
                    have hw2 : (X.drop k ++ Y.drop t).Pairwise R := by
                      by_cases c1 : h < e
                      · have e3 : Y.drop t = [] := List.eq_nil_of_length_eq_zero (by rw [ly2]; omega)
                        rw [e3, List.append_nil]; exact pw_drop HXX.out k
                      · have e3 : X.drop k = [] := List.eq_nil_of_length_eq_zero (by rw [lx2]; omega)
                        rw [e3, List.nil_append]; exact pw_drop HYY.out t
                    have hf := pw_four HO.out.trans HXX.out HYY.out k t (by rw [← HX.out]; exact k3) (by rw [← HY.out]; exact t3) H1.out H2.out HP1.out (List.Perm.refl _) HW1.out hw2
                    exact ⟨rfl, Z1 ++ (X.drop k ++ Y.drop t), hf.1, hf.2, by simpa only [List.append_assoc] using hr, hu⟩
end Go.Proofs.Ythchclhleppdhaa
