/- slices.symMergeCmpFunc where the first row is one number. -/
import Derived.Test.YthchclhleppdhaaMergePure
namespace Go.Proofs.Ythchclhleppdhaa
set_option linter.unusedVariables false
set_option linter.unusedSimpArgs false
open Go.RowKit
set_option maxHeartbeats 16000000 in
set_option maxRecDepth 100000 in
theorem merge_one (N : Nat) (cf : Nat → Nat → Int) (R : Nat → Nat → Prop) (hO : Ord N cf R) (cap0 : Array Value) (g cap : Nat) (A Y C : List Nat) (x a m b n : Nat) (ha : a = A.length) (hmm : m = a + 1) (hb : b = m + Y.length) (hn : n = (A ++ x :: Y ++ C).length) (hm : n ≤ 1000000) (w : World)
    (hrow : RowN w g 3 cap (A ++ x :: Y ++ C)) (hY : Y.Pairwise R) (hlt : ∀ y ∈ Y, x < y) (hN : ∀ y ∈ x :: Y, y < N) (hN2 : N ≤ 9223372036854775000)
    (hcl : ∀ (x y : Nat) (W : World), x < N → y < N → Upd [g] w W → Calls Try.prog 65 (#[.int .i64 x, .int .i64 y] ++ cap0) W fun e w' => e = .returned (.int .i64 (cf x y)) ∧ Upd [] W w') :
    Calls Try.prog 71 #[.slice (some ⟨g, 0, none⟩) n cap, .int .i64 a, .int .i64 m, .int .i64 b, .func (.func 65) #[] cap0] w fun e w' =>
      e = .returned (.tuple #[]) ∧ ∃ Z, Z.Perm (x :: Y) ∧ Z.Pairwise R ∧ RowN w' g 3 cap (A ++ Z ++ C) ∧ Upd [g] w w' := by
  obtain ⟨y, hy⟩ : ∃ y, y = Y.length := ⟨_, rfl⟩
  obtain ⟨z, hz⟩ : ∃ z, z = C.length := ⟨_, rfl⟩
  have hsum : a + 1 + y + z = n := by rw [hn, ha, hy, hz]; simp; omega
  have HR := Lib.hid hrow
  have HO := Lib.hid hO
  have HCL := Lib.hid hcl
  have HYY := Lib.hid hY
  have HLT := Lib.hid hlt
  have HNN := Lib.hid hN
  have HA := Lib.hid ha
  have HY := Lib.hid hy
  have HZ := Lib.hid hz
  rw [← hy] at hb
  have m1 : m ≤ a + 1 := by omega
  have m2 : a + 1 ≤ m := by omega
  have b1 : b ≤ m + y := by omega
  have b2 : m + y ≤ b := by omega
  have n1 : a + 1 + y + z ≤ n := by omega
  have n2 : n ≤ a + 1 + y + z := by omega
  have ca : w.cell? ⟨g, a, none⟩ = some (.int .i64 x) := by
    have e : (A ++ x :: Y ++ C).getD a 0 = x := by
      have := get_at A x (Y ++ C) a ha
      simpa using this
    rw [hrow.cell (i := a) (by rw [← hn]; omega), e]
  have hcy : ∀ k, k < y → w.cell? ⟨g, m + k, none⟩ = some (.int .i64 (Y.getD k 0 : Nat)) := by
    intro k hk
    have e : (A ++ x :: Y ++ C).getD (m + k) 0 = Y.getD k 0 := by
      have h1 : m + k = (A ++ [x]).length + k := by simp; omega
      have h2 : A ++ x :: Y ++ C = (A ++ [x]) ++ (Y ++ C) := by simp
      rw [h1, h2]
      simp only [List.getD]
      rw [List.getElem?_append_right (by omega), Nat.add_sub_cancel_left, List.getElem?_append_left (by omega)]
    rw [hrow.cell (i := m + k) (by rw [← hn]; omega), e]
  have HCY := Lib.hid hcy
  have w0 : IntKind.i64.wrap ((m : Int) - (a : Int)) = 1 := by rw [IntWalk.i64_in _ (by omega)]; omega
  have hgx : g < w.heap.size := hrow.lt
  clear ha hy hz hsum hb hmm hn hO hcl hY hlt hN hrow hcy
  go_enter Try.func71, Try.ntmps71
  go_wp2
  clear w0
  go_loopw [10, 11] (fun iv jv wr => ∃ (i j p q : Nat), iv = .int .i64 i ∧ jv = .int .i64 j ∧ Hid (i = m + p) ∧ Hid (j = m + q) ∧ p ≤ q ∧ q ≤ y ∧ Hid (p = 0 ∨ R (Y.getD (p - 1) 0) x) ∧ Hid (q = y ∨ R x (Y.getD q 0)) ∧ Upd [] w wr) (fun iv jv _ => (intOf jv).toNat - (intOf iv).toNat)
  case atStart => exact ⟨m, b, 0, y, rfl, by go_num, Lib.hid rfl, Lib.hid (by omega), by omega, by omega, Lib.hid (.inl rfl), Lib.hid (.inl rfl), Upd.refl _ _⟩
  case round =>
    obtain ⟨i, j, p, q, rfl, rfl, HI, HJ, hpq, hqy, HP, HQ, hu⟩ := hrel
    have i1 : m + p ≤ i := by have := HI.out; omega
    have i2 : i ≤ m + p := by have := HI.out; omega
    have j1 : m + q ≤ j := by have := HJ.out; omega
    have j2 : j ≤ m + q := by have := HJ.out; omega
    by_cases hlt : p < q
    · obtain ⟨s, hs⟩ : ∃ s, s = i + j := ⟨_, rfl⟩
      have s1 : i + j ≤ s := by omega
      have s2 : s ≤ i + j := by omega
      clear hs
      have hd0 : decide (i < j) = true := decide_eq_true (by omega)
      have w1 : IntKind.i64.wrap ((i : Int) + (j : Int)) = (s : Int) := by rw [IntWalk.i64_in _ (by omega)]; omega
      have w2 : IntKind.u64.wrap (s : Int) = (s : Int) := by simp [IntKind.wrap, IntKind.bits, IntKind.signed]; omega
      obtain ⟨h, hh⟩ : ∃ h, h = s / 2 := ⟨_, rfl⟩
      have w3 : (s : Int) / 2 = (h : Int) := by omega
      have h1 : p + m ≤ h := by omega
      have h2 : h < q + m := by omega
      have h3 : h < n := by omega
      obtain ⟨v, hv⟩ : ∃ v, v = Y.getD (h - m) 0 := ⟨_, rfl⟩
      have c0 : wr.cell? ⟨g, h, none⟩ = some (.int .i64 (v : Nat)) := by
        have e := HCY.out (h - m) (by omega)
        rw [show m + (h - m) = h by omega, ← hv] at e
        exact hu.cell e (by simp)
      have c1 : wr.cell? ⟨g, a, none⟩ = some (.int .i64 (x : Nat)) := hu.cell ca (by simp)
      have hvY : v ∈ Y := by rw [hv]; exact getD_mem (by have := HY.out; omega)
      have hxN : x < N := HNN.out _ (by simp)
      have hvN : v < N := HNN.out _ (by simp [hvY])
      have hxv : x < v := HLT.out v hvY
      have hug : Upd [g] w wr := hu.mono (fun z hz _ => by simp at hz)
      have hgr : g < wr.heap.size := by have := hu.size; omega
      have p1 : (0 : Int) ≤ (h : Int) := by omega
      have p2 : (h : Int) < (n : Int) := by omega
      have p3 : (0 : Int) ≤ (a : Int) := by omega
      have p4 : (a : Int) < (n : Int) := by omega
      have w4 : IntKind.i64.wrap ((h : Int) + 1) = ((h + 1 : Nat) : Int) := by rw [IntWalk.i64_in _ (by omega)]; omega
      have HV := Lib.hid hv
      clear hh hv
      go_wp2
      clear w1 w2 w3 s1 s2
      by_cases hcmp : cf v x < 0
      · have hd2 : decide (cf v x < 0) = true := decide_eq_true hcmp
        have hR := (HO.out.cmp _ _ hvN hxv).1 hcmp
        clear hcmp
        go_region_held3 (fun w' => w'.cell? ⟨g, h, none⟩ = some (.int .i64 (v : Nat)) ∧ w'.cell? ⟨g, a, none⟩ = some (.int .i64 (x : Nat))) (first | trivial | go_keep) (first
          | (go_at_call 65; refine (HCL.out v x _ hvN hxN (by repeat (first | exact hug | refine Upd.drewN ?_ _ | refine Upd.drew ?_))).mono ?_; rintro e w1 ⟨rfl, hu1⟩; have d0 := hu1.cell (p := ⟨g, h, none⟩) c0 (by simp); have d1 := hu1.cell (p := ⟨g, a, none⟩) c1 (by simp); have hu2 : Upd [] w w1 := Upd.trans0 (by repeat (first | exact hu | refine Upd.drewN ?_ _ | refine Upd.drew ?_)) hu1))
        have HU2 := Lib.hid hu2
        clear hu1 hu2 hu hug c0 c1 d0 d1
        go_wp2
        go_roundw
        case rel => exact ⟨h + 1, j, h - m + 1, q, by go_num, rfl, Lib.hid (by omega), HJ, by omega, hqy, Lib.hid (.inr (by rw [Nat.add_sub_cancel, ← HV.out]; exact hR)), HQ, HU2.out⟩
        case measure => simp [intOf]; omega
      · have hd2 : decide (cf v x < 0) = false := decide_eq_false hcmp
        have hR : R x v := by
          rcases HO.out.total x v (by omega) with h | h
          · exact h
          · exact absurd ((HO.out.cmp _ _ hvN hxv).2 h) hcmp
        clear hcmp
        go_region_held3 (fun w' => w'.cell? ⟨g, h, none⟩ = some (.int .i64 (v : Nat)) ∧ w'.cell? ⟨g, a, none⟩ = some (.int .i64 (x : Nat))) (first | trivial | go_keep) (first
          | (go_at_call 65; refine (HCL.out v x _ hvN hxN (by repeat (first | exact hug | refine Upd.drewN ?_ _ | refine Upd.drew ?_))).mono ?_; rintro e w1 ⟨rfl, hu1⟩; have d0 := hu1.cell (p := ⟨g, h, none⟩) c0 (by simp); have d1 := hu1.cell (p := ⟨g, a, none⟩) c1 (by simp); have hu2 : Upd [] w w1 := Upd.trans0 (by repeat (first | exact hu | refine Upd.drewN ?_ _ | refine Upd.drew ?_)) hu1))
        have HU2 := Lib.hid hu2
        clear hu1 hu2 hu hug c0 c1 d0 d1
        go_wp2
        go_roundw
        case rel => exact ⟨i, h, p, h - m, rfl, rfl, HI, Lib.hid (by omega), by omega, by omega, HP, Lib.hid (.inr (by rw [← HV.out]; exact hR)), HU2.out⟩
        case measure => simp [intOf]; omega
    · obtain rfl : p = q := by omega
      obtain rfl : i = j := by omega
      have hd0 : decide (i < i) = false := decide_eq_false (by omega)
      obtain ⟨i', hi'⟩ : ∃ i', i' = i - 1 := ⟨_, rfl⟩
      have w1 : IntKind.i64.wrap ((i : Int) - 1) = (i' : Int) := by rw [IntWalk.i64_in _ (by omega)]; omega
      have k1 : i' ≤ a + p := by omega
      have k2 : a + p ≤ i' := by omega
      have HU := Lib.hid hu
      have HR2 := Lib.hid (show RowN wr g 3 cap (A ++ x :: Y ++ C) from HR.out.keep hu (by simp))
      clear hi' hu
      go_wp2
      go_loopw [13] (fun kv wr => ∃ (k t : Nat), kv = .int .i64 k ∧ Hid (k = a + t) ∧ t ≤ p ∧ RowN wr g 3 cap (A ++ Y.take t ++ x :: Y.drop t ++ C) ∧ Upd [g] w wr) (fun kv _ => b - (intOf kv).toNat)
      case atStart => exact ⟨a, 0, rfl, Lib.hid rfl, Nat.zero_le _, by simpa using HR2.out, HU.out.mono (fun z hz _ => by simp at hz)⟩
      case round =>
        obtain ⟨k, t, rfl, HK, htp, hr, hu⟩ := hrel
        have t1 : k ≤ a + t := by have := HK.out; omega
        have t2 : a + t ≤ k := by have := HK.out; omega
        by_cases hlt : t < p
        · obtain ⟨v, hv⟩ : ∃ v, v = Y.getD t 0 := ⟨_, rfl⟩
          have hty : t < Y.length := by have := HY.out; omega
          have hdc : Y.drop t = v :: Y.drop (t + 1) := by rw [hv]; exact drop_cons hty
          rw [hdc] at hr
          have c0 : wr.cell? ⟨g, k, none⟩ = some (.int .i64 (x : Nat)) := by
            have e : (A ++ Y.take t ++ x :: v :: Y.drop (t + 1) ++ C).getD k 0 = x := by
              have := get_at (A ++ Y.take t) x (v :: Y.drop (t + 1) ++ C) k (by have := HA.out; simp; omega)
              simpa using this
            rw [hr.cell (i := k) (by have := HA.out; simp; omega), e]
          obtain ⟨k', hk'⟩ : ∃ k', k' = k + 1 := ⟨_, rfl⟩
          have c1 : wr.cell? ⟨g, k', none⟩ = some (.int .i64 (v : Nat)) := by
            have e : (A ++ Y.take t ++ x :: v :: Y.drop (t + 1) ++ C).getD k' 0 = v := by
              have := get_at (A ++ Y.take t ++ [x]) v (Y.drop (t + 1) ++ C) k' (by have := HA.out; simp; omega)
              simpa using this
            rw [hr.cell (i := k') (by have := HA.out; simp; omega), e]
          have f0 := hr.frozen k
          have f1 := hr.frozen k'
          have hset := (hr.set k v).set k' x
          have hl : ((A ++ Y.take t ++ x :: v :: Y.drop (t + 1) ++ C).set k v).set k' x = A ++ Y.take (t + 1) ++ x :: Y.drop (t + 1) ++ C := by
            have e1 := set_at (A ++ Y.take t) x v (v :: Y.drop (t + 1) ++ C) k (by have := HA.out; simp; omega)
            have e2 := set_at (A ++ Y.take t ++ [v]) v x (Y.drop (t + 1) ++ C) k' (by have := HA.out; simp; omega)
            have e3 : Y.take (t + 1) = Y.take t ++ [v] := by rw [hv]; exact take_snoc_getD hty
            rw [e3]
            simp only [List.append_assoc, List.cons_append, List.nil_append] at e1 e2 ⊢
            rw [e1]
            exact e2
          rw [hl] at hset
          have HS := Lib.hid hset
          have hu2 : Upd [g] w ((wr.setCell ⟨g, k, none⟩ (.int .i64 (v : Nat))).setCell ⟨g, k', none⟩ (.int .i64 (x : Nat))) := (hu.setCell _ _ (fun _ => by simp)).setCell _ _ (fun _ => by simp)
          have HU2 := Lib.hid hu2
          have hkn1 : k' < n := by omega
          have hne : k ≠ k' := by omega
          have hne2 : k' ≠ k := by omega
          have w2 : IntKind.i64.wrap ((k : Int) + 1) = (k' : Int) := by rw [IntWalk.i64_in _ (by omega)]; omega
          have q0 : (0 : Int) ≤ (k : Int) := by omega
          have q1 : (k : Int) < (n : Int) := by omega
          have q2 : (0 : Int) ≤ (k' : Int) := by omega
          have q3 : (k' : Int) < (n : Int) := by omega
          have hd0 : decide ((k : Int) < (i' : Int)) = true := decide_eq_true (by omega)
          have hd1 : decide (k < i') = true := decide_eq_true (by omega)
          have HK' := Lib.hid hk'
          clear hset hu2 hl hr hu hdc hv hk'
          go_wp2_with fail
          go_region
          all_goals
            go_wp2
            go_roundw
            case rel => first | exact ⟨k', t + 1, by go_num, Lib.hid (by have := HK'.out; omega), by omega, HS.out, HU2.out⟩ | exact ⟨k', t + 1, by go_num, Lib.hid (by have := HK'.out; omega), by omega, HS.out.drew, HU2.out.drew⟩
            case measure => simp [intOf]; have := HK'.out; omega
        · obtain rfl : t = p := by omega
          have hd0 : decide ((k : Int) < (i' : Int)) = false := decide_eq_false (by omega)
          have hd1 : decide (k < i') = false := decide_eq_false (by omega)
          go_wp2
          first | go_end0 | ((try simp only [Exit.inBlock, Exit.then]); refine bodyPost_ret (results_none rfl _ _ _) rfl ?_)
          exact ⟨rfl, _, perm_put Y x t, pw_put HO.out.trans HYY.out t (by have := HY.out; omega) HP.out (by have := HY.out; have := HQ.out; rw [← HY.out]; exact HQ.out), by simpa using hr, hu⟩
end Go.Proofs.Ythchclhleppdhaa
