/- slices.symMergeCmpFunc where the second row is one number. -/
import Derived.Test.YthchclhleppdhaaMergeOne
namespace Go.Proofs.Ythchclhleppdhaa
set_option linter.unusedVariables false
set_option linter.unusedSimpArgs false
open Go.RowKit
set_option maxHeartbeats 16000000 in
set_option maxRecDepth 100000 in
theorem merge_last (N : Nat) (cf : Nat → Nat → Int) (R : Nat → Nat → Prop) (hO : Ord N cf R) (cap0 : Array Value) (g cap : Nat) (A X C : List Nat) (y a m b n : Nat) (ha : a = A.length) (hmm : m = a + X.length) (hX2 : 2 ≤ X.length) (hb : b = m + 1) (hn : n = (A ++ X ++ y :: C).length) (hm : n ≤ 1000000) (w : World)
    (hrow : RowN w g 3 cap (A ++ X ++ y :: C)) (hX : X.Pairwise R) (hlt : ∀ x ∈ X, x < y) (hN : ∀ x ∈ y :: X, x < N) (hN2 : N ≤ 9223372036854775000)
    (hcl : ∀ (x y : Nat) (W : World), x < N → y < N → Upd [g] w W → Calls Try.prog 65 (#[.int .i64 x, .int .i64 y] ++ cap0) W fun e w' => e = .returned (.int .i64 (cf x y)) ∧ Upd [] W w') :
    Calls Try.prog 71 #[.slice (some ⟨g, 0, none⟩) n cap, .int .i64 a, .int .i64 m, .int .i64 b, .func (.func 65) #[] cap0] w fun e w' =>
      e = .returned (.tuple #[]) ∧ ∃ Z, Z.Perm (X ++ [y]) ∧ Z.Pairwise R ∧ RowN w' g 3 cap (A ++ Z ++ C) ∧ Upd [g] w w' := by
  obtain ⟨x, hx⟩ : ∃ x, x = X.length := ⟨_, rfl⟩
  obtain ⟨z, hz⟩ : ∃ z, z = C.length := ⟨_, rfl⟩
  have hsum : a + 1 + x + z = n := by rw [hn, ha, hx, hz]; simp; omega
  have HR := Lib.hid hrow
  have HO := Lib.hid hO
  have HCL := Lib.hid hcl
  have HXX := Lib.hid hX
  have HLT := Lib.hid hlt
  have HNN := Lib.hid hN
  have HA := Lib.hid ha
  have HX := Lib.hid hx
  have HZ := Lib.hid hz
  rw [← hx] at hmm hX2
  have m1 : m ≤ a + x := by omega
  have m2 : a + x ≤ m := by omega
  have b1 : b ≤ m + 1 := by omega
  have b2 : m + 1 ≤ b := by omega
  have n1 : a + 1 + x + z ≤ n := by omega
  have n2 : n ≤ a + 1 + x + z := by omega
  have ca : w.cell? ⟨g, m, none⟩ = some (.int .i64 y) := by
    have e : (A ++ X ++ y :: C).getD m 0 = y := by
      have := get_at (A ++ X) y C m (by simp; omega)
      simpa using this
    rw [hrow.cell (i := m) (by rw [← hn]; omega), e]
  have hcx : ∀ k, k < x → w.cell? ⟨g, a + k, none⟩ = some (.int .i64 (X.getD k 0 : Nat)) := by
    intro k hk
    have e : (A ++ X ++ y :: C).getD (a + k) 0 = X.getD k 0 := by
      rw [ha, List.append_assoc]
      simp only [List.getD]
      rw [List.getElem?_append_right (by omega), Nat.add_sub_cancel_left, List.getElem?_append_left (by omega)]
    rw [hrow.cell (i := a + k) (by rw [← hn]; omega), e]
  have HCX := Lib.hid hcx
  have w0 : IntKind.i64.wrap ((m : Int) - (a : Int)) = (x : Int) := by rw [IntWalk.i64_in _ (by omega)]; omega
  have w00 : ((x : Int) == 1) = false := by simp; omega
  have w01 : IntKind.i64.wrap ((b : Int) - (m : Int)) = 1 := by rw [IntWalk.i64_in _ (by omega)]; omega
  have hgx : g < w.heap.size := hrow.lt
  clear ha hx hz hsum hb hmm hn hO hcl hX hlt hN hrow hcx
  go_enter Try.func71, Try.ntmps71
  go_wp2
  clear w0 w00 w01
  go_loopw [14, 15] (fun iv jv wr => ∃ (i j p q : Nat), iv = .int .i64 i ∧ jv = .int .i64 j ∧ Hid (i = a + p) ∧ Hid (j = a + q) ∧ p ≤ q ∧ q ≤ x ∧ Hid (p = 0 ∨ R (X.getD (p - 1) 0) y) ∧ Hid (q = x ∨ R y (X.getD q 0)) ∧ Upd [] w wr) (fun iv jv _ => (intOf jv).toNat - (intOf iv).toNat)
  case atStart => exact ⟨a, m, 0, x, rfl, by go_num, Lib.hid rfl, Lib.hid (by omega), by omega, by omega, Lib.hid (.inl rfl), Lib.hid (.inl rfl), Upd.refl _ _⟩
  case round =>
    obtain ⟨i, j, p, q, rfl, rfl, HI, HJ, hpq, hqy, HP, HQ, hu⟩ := hrel
    have i1 : a + p ≤ i := by have := HI.out; omega
    have i2 : i ≤ a + p := by have := HI.out; omega
    have j1 : a + q ≤ j := by have := HJ.out; omega
    have j2 : j ≤ a + q := by have := HJ.out; omega
    by_cases hlt : p < q
    · obtain ⟨s, hs⟩ : ∃ s, s = i + j := ⟨_, rfl⟩
      have s1 : i + j ≤ s := by omega
      have s2 : s ≤ i + j := by omega
      clear hs
      have hd0 : decide (i < j) = true := decide_eq_true (by omega)
      have w1 : IntKind.i64.wrap ((i : Int) + (j : Int)) = (s : Int) := by rw [IntWalk.i64_in _ (by omega)]; omega
      have w2 : IntKind.u64.wrap (s : Int) = (s : Int) := by simp [IntKind.wrap, IntKind.bits, IntKind.signed]; omega
      obtain ⟨h, hh⟩ : ∃ h, h = s / 2 := ⟨_, rfl⟩
      have w3 : (s : Int) / 2 = (h : Int) := by omega
      have h1 : p + a ≤ h := by omega
      have h2 : h < q + a := by omega
      have h3 : h < n := by omega
      obtain ⟨v, hv⟩ : ∃ v, v = X.getD (h - a) 0 := ⟨_, rfl⟩
      have c0 : wr.cell? ⟨g, h, none⟩ = some (.int .i64 (v : Nat)) := by
        have e := HCX.out (h - a) (by omega)
        rw [show a + (h - a) = h by omega, ← hv] at e
        exact hu.cell e (by simp)
      have c1 : wr.cell? ⟨g, m, none⟩ = some (.int .i64 (y : Nat)) := hu.cell ca (by simp)
      have hvX : v ∈ X := by rw [hv]; exact getD_mem (by have := HX.out; omega)
      have hyN : y < N := HNN.out _ (by simp)
      have hvN : v < N := HNN.out _ (by simp [hvX])
      have hxv : v < y := HLT.out v hvX
      have hug : Upd [g] w wr := hu.mono (fun z hz _ => by simp at hz)
      have hgr : g < wr.heap.size := by have := hu.size; omega
      have p1 : (0 : Int) ≤ (h : Int) := by omega
      have p2 : (h : Int) < (n : Int) := by omega
      have p3 : (0 : Int) ≤ (m : Int) := by omega
      have p4 : (m : Int) < (n : Int) := by omega
      have w4 : IntKind.i64.wrap ((h : Int) + 1) = ((h + 1 : Nat) : Int) := by rw [IntWalk.i64_in _ (by omega)]; omega
      have HV := Lib.hid hv
      clear hh hv
      go_wp2
      clear w1 w2 w3 s1 s2
      by_cases hcmp : cf y v < 0
      · have hd2 : decide (cf y v < 0) = true := decide_eq_true hcmp
        have hR := (HO.out.cmp _ _ hyN hxv).1 hcmp
        clear hcmp
        go_region_held3 (fun w' => w'.cell? ⟨g, h, none⟩ = some (.int .i64 (v : Nat)) ∧ w'.cell? ⟨g, m, none⟩ = some (.int .i64 (y : Nat))) (first | trivial | go_keep) (first
          | (go_at_call 65; refine (HCL.out y v _ hyN hvN (by repeat (first | exact hug | refine Upd.drewN ?_ _ | refine Upd.drew ?_))).mono ?_; rintro e w1 ⟨rfl, hu1⟩; have d0 := hu1.cell (p := ⟨g, h, none⟩) c0 (by simp); have d1 := hu1.cell (p := ⟨g, m, none⟩) c1 (by simp); have hu2 : Upd [] w w1 := Upd.trans0 (by repeat (first | exact hu | refine Upd.drewN ?_ _ | refine Upd.drew ?_)) hu1))
        have HU2 := Lib.hid hu2
        clear hu1 hu2 hu hug c0 c1 d0 d1
        go_wp2
        go_roundw
        case rel => exact ⟨i, h, p, h - a, rfl, rfl, HI, Lib.hid (by omega), by omega, by omega, HP, Lib.hid (.inr (by rw [← HV.out]; exact hR)), HU2.out⟩
        case measure => simp [intOf]; omega
      · have hd2 : decide (cf y v < 0) = false := decide_eq_false hcmp
        have hR : R v y := by
          rcases HO.out.total v y (by omega) with h | h
          · exact h
          · exact absurd ((HO.out.cmp _ _ hyN hxv).2 h) hcmp
        clear hcmp
        go_region_held3 (fun w' => w'.cell? ⟨g, h, none⟩ = some (.int .i64 (v : Nat)) ∧ w'.cell? ⟨g, m, none⟩ = some (.int .i64 (y : Nat))) (first | trivial | go_keep) (first
          | (go_at_call 65; refine (HCL.out y v _ hyN hvN (by repeat (first | exact hug | refine Upd.drewN ?_ _ | refine Upd.drew ?_))).mono ?_; rintro e w1 ⟨rfl, hu1⟩; have d0 := hu1.cell (p := ⟨g, h, none⟩) c0 (by simp); have d1 := hu1.cell (p := ⟨g, m, none⟩) c1 (by simp); have hu2 : Upd [] w w1 := Upd.trans0 (by repeat (first | exact hu | refine Upd.drewN ?_ _ | refine Upd.drew ?_)) hu1))
        have HU2 := Lib.hid hu2
        clear hu1 hu2 hu hug c0 c1 d0 d1
        go_wp2
        go_roundw
        case rel => exact ⟨h + 1, j, h - a + 1, q, by go_num, rfl, Lib.hid (by omega), HJ, by omega, hqy, Lib.hid (.inr (by rw [Nat.add_sub_cancel, ← HV.out]; exact hR)), HQ, HU2.out⟩
        case measure => simp [intOf]; omega
    · obtain rfl : p = q := by omega
      obtain rfl : i = j := by omega
      have hd0 : decide (i < i) = false := decide_eq_false (by omega)
      have HU := Lib.hid hu
      have HR2 := Lib.hid (show RowN wr g 3 cap (A ++ X ++ y :: C) from HR.out.keep hu (by simp))
      clear hu
      go_wp2
      go_loopw [17] (fun kv wr => ∃ (k t : Nat), kv = .int .i64 k ∧ Hid (k = a + t) ∧ p ≤ t ∧ t ≤ x ∧ RowN wr g 3 cap (A ++ X.take t ++ y :: X.drop t ++ C) ∧ Upd [g] w wr) (fun kv _ => (intOf kv).toNat)
      case atStart => exact ⟨m, x, rfl, Lib.hid (by omega), hqy, Nat.le_refl _, by have h1 := HR2.out; rw [List.take_of_length_le (by have := HX.out; omega), List.drop_of_length_le (by have := HX.out; omega)]; simpa using h1, HU.out.mono (fun z hz _ => by simp at hz)⟩
      case round =>
        obtain ⟨k, t, rfl, HK, hpt, htx, hr, hu⟩ := hrel
        have t1 : k ≤ a + t := by have := HK.out; omega
        have t2 : a + t ≤ k := by have := HK.out; omega
        by_cases hlt : p < t
        · obtain ⟨t', rfl⟩ : ∃ t', t = t' + 1 := ⟨t - 1, by omega⟩
          obtain ⟨v, hv⟩ : ∃ v, v = X.getD t' 0 := ⟨_, rfl⟩
          have hty : t' < X.length := by have := HX.out; omega
          have hdc : X.take (t' + 1) = X.take t' ++ [v] := by rw [hv]; exact take_snoc_getD hty
          rw [hdc] at hr
          obtain ⟨k', hk'⟩ : ∃ k', k' = k - 1 := ⟨_, rfl⟩
          have c0 : wr.cell? ⟨g, k', none⟩ = some (.int .i64 (v : Nat)) := by
            have e : (A ++ (X.take t' ++ [v]) ++ y :: X.drop (t' + 1) ++ C).getD k' 0 = v := by
              have := get_at (A ++ X.take t') v (y :: X.drop (t' + 1) ++ C) k' (by have := HA.out; simp; omega)
              simpa using this
            rw [hr.cell (i := k') (by have := HA.out; simp; omega), e]
          have c1 : wr.cell? ⟨g, k, none⟩ = some (.int .i64 (y : Nat)) := by
            have e : (A ++ (X.take t' ++ [v]) ++ y :: X.drop (t' + 1) ++ C).getD k 0 = y := by
              have := get_at (A ++ X.take t' ++ [v]) y (X.drop (t' + 1) ++ C) k (by have := HA.out; simp; omega)
              simpa using this
            rw [hr.cell (i := k) (by have := HA.out; simp; omega), e]
          have f0 := hr.frozen k'
          have f1 := hr.frozen k
          have hset := (hr.set k v).set k' y
          have hl : ((A ++ (X.take t' ++ [v]) ++ y :: X.drop (t' + 1) ++ C).set k v).set k' y = A ++ X.take t' ++ y :: X.drop t' ++ C := by
            have e1 := set_at (A ++ X.take t' ++ [v]) y v (X.drop (t' + 1) ++ C) k (by have := HA.out; simp; omega)
            have e2 := set_at (A ++ X.take t') v y (v :: X.drop (t' + 1) ++ C) k' (by have := HA.out; simp; omega)
            have e3 : X.drop t' = v :: X.drop (t' + 1) := by rw [hv]; exact drop_cons hty
            rw [e3]
            simp only [List.append_assoc, List.cons_append, List.nil_append] at e1 e2 ⊢
            rw [e1]
            exact e2
          rw [hl] at hset
          have HS := Lib.hid hset
          have hu2 : Upd [g] w ((wr.setCell ⟨g, k, none⟩ (.int .i64 (v : Nat))).setCell ⟨g, k', none⟩ (.int .i64 (y : Nat))) := (hu.setCell _ _ (fun _ => by simp)).setCell _ _ (fun _ => by simp)
          have HU2 := Lib.hid hu2
          have hkn1 : k' < n := by omega
          have hne : k ≠ k' := by omega
          have hne2 : k' ≠ k := by omega
          have w2 : IntKind.i64.wrap ((k : Int) - 1) = (k' : Int) := by rw [IntWalk.i64_in _ (by omega)]; omega
          have q0 : (0 : Int) ≤ (k : Int) := by omega
          have q1 : (k : Int) < (n : Int) := by omega
          have q2 : (0 : Int) ≤ (k' : Int) := by omega
          have q3 : (k' : Int) < (n : Int) := by omega
          have hd0 : decide ((i : Int) < (k : Int)) = true := decide_eq_true (by omega)
          have hd1 : decide (i < k) = true := decide_eq_true (by omega)
          have HK' := Lib.hid hk'
          clear hset hu2 hl hr hu hdc hv hk'
          go_wp2_with fail
          go_region
          all_goals
            go_wp2
            go_roundw
            case rel => first | exact ⟨k', t', by go_num, Lib.hid (by have := HK'.out; omega), by omega, by omega, HS.out, HU2.out⟩ | exact ⟨k', t', by go_num, Lib.hid (by have := HK'.out; omega), by omega, by omega, HS.out.drew, HU2.out.drew⟩
            case measure => simp [intOf]; have := HK'.out; omega
        · obtain rfl : p = t := by omega
          have hd0 : decide ((i : Int) < (k : Int)) = false := decide_eq_false (by omega)
          have hd1 : decide (i < k) = false := decide_eq_false (by omega)
          go_wp2
          first | go_end0 | ((try simp only [Exit.inBlock, Exit.then]); refine bodyPost_ret (results_none rfl _ _ _) rfl ?_)
          exact ⟨rfl, _, (perm_put X y p).trans (List.perm_append_singleton y X).symm, pw_put HO.out.trans HXX.out p (by have := HX.out; omega) HP.out (by rw [← HX.out]; exact HQ.out), by simpa using hr, hu⟩
end Go.Proofs.Ythchclhleppdhaa
