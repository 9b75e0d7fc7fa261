/- A stable sort of places by waitq.Order's comparison: as many as there may be. -/
import Derived.Test.YthchclhleppdhaaBlk
namespace Go.Proofs.Ythchclhleppdhaa
set_option linter.unusedVariables false
set_option linter.unusedSimpArgs false
open Go.RowKit
set_option maxHeartbeats 16000000 in
set_option maxRecDepth 100000 in
theorem stable_many (N : Nat) (cf : Nat → Nat → Int) (R : Nat → Nat → Prop) (hO : Ord N cf R) (cap0 : Array Value) (g cap : Nat) (M : List Nat) (n : Nat) (hn : n = M.length) (hm : n ≤ 1000000) (w : World)
    (hrow : RowN w g 3 cap M) (hinc : M.Pairwise (· < ·)) (hN : ∀ x ∈ M, x < N) (hN2 : N ≤ 9223372036854775000)
    (hcl : ∀ (x y : Nat) (W : World), x < N → y < N → Upd [g] w W → Calls Try.prog 65 (#[.int .i64 x, .int .i64 y] ++ cap0) W fun e w' => e = .returned (.int .i64 (cf x y)) ∧ Upd [] W w') :
    Calls Try.prog 69 #[.slice (some ⟨g, 0, none⟩) n cap, .int .i64 n, .func (.func 65) #[] cap0] w fun e w' =>
      e = .returned (.tuple #[]) ∧ ∃ M', M'.Perm M ∧ M'.Pairwise R ∧ RowN w' g 3 cap M' ∧ Upd [g] w w' := by
  have hins : ∀ (A L B : List Nat) (a b : Nat) (w1 : World), a = A.length → b = a + L.length → n = (A ++ L ++ B).length → RowN w1 g 3 cap (A ++ L ++ B) → L.Pairwise (· < ·) → (∀ x ∈ L, x < N) → Upd [g] w w1 →
      Calls Try.prog 70 #[.slice (some ⟨g, 0, none⟩) n cap, .int .i64 a, .int .i64 b, .func (.func 65) #[] cap0] w1 fun e w' =>
        e = .returned (.tuple #[]) ∧ ∃ M', M'.Perm L ∧ M'.Pairwise R ∧ RowN w' g 3 cap (A ++ M' ++ B) ∧ Upd [g] w1 w' := by
    intro A L B a b w1 h1 h2 h3 h4 h5 h6 h7
    rw [h3]
    exact insertion_any N cf R hO cap0 g cap A L B a b h1 h2 w1 h4 (by omega) h5 h6 hN2 (fun x y W hx hy hW => hcl x y W hx hy (h7.transS hW))
  have hmer : ∀ (A X Y C : List Nat) (a m b : Nat) (w1 : World), 0 < X.length → 0 < Y.length → a = A.length → m = a + X.length → b = m + Y.length → n = (A ++ X ++ Y ++ C).length → RowN w1 g 3 cap (A ++ X ++ Y ++ C) → X.Pairwise R → Y.Pairwise R → (∀ x ∈ X, ∀ y ∈ Y, x < y) → (∀ x ∈ X ++ Y, x < N) → Upd [g] w w1 →
      Calls Try.prog 71 #[.slice (some ⟨g, 0, none⟩) n cap, .int .i64 a, .int .i64 m, .int .i64 b, .func (.func 65) #[] cap0] w1 fun e w' =>
        e = .returned (.tuple #[]) ∧ ∃ Z, Z.Perm (X ++ Y) ∧ Z.Pairwise R ∧ RowN w' g 3 cap (A ++ Z ++ C) ∧ Upd [g] w1 w' := by
    intro A X Y C a m b w1 h1 h2 h3 h4 h5 h6 h7 h8 h9 h10 h11 h12
    exact merge_all N cf R hO cap0 g cap hN2 n hm _ A X Y C a m b w1 (Nat.le_refl _) h1 h2 h3 h4 h5 h6 h7 h8 h9 h10 h11 (fun x y W hx hy hW => hcl x y W hx hy (h12.transS hW))
  have HINS := Lib.hid hins
  have HMER := Lib.hid hmer
  have HINC := Lib.hid hinc
  have HNN := Lib.hid hN
  have HN := Lib.hid hn
  have HR := Lib.hid hrow
  clear hins hmer hinc hN hn hO hcl hrow
  go_enter Try.func69, Try.ntmps69
  go_wp2
  go_loopw [7, 8] (fun av bv wr => ∃ (a b : Nat) (A M1 M2 : List Nat), av = .int .i64 a ∧ bv = .int .i64 b ∧ Hid (b = a + 20) ∧ Hid (a = A.length) ∧ Hid (M = M1 ++ M2) ∧ Hid (n = a + M2.length) ∧ Hid (Full R 20 A M1) ∧ Hid (RowN wr g 3 cap (A ++ M2)) ∧ Hid (Upd [g] w wr)) (fun av _ _ => n - (intOf av).toNat)
  case atStart => exact ⟨0, 20, [], [], M, rfl, rfl, Lib.hid rfl, Lib.hid rfl, Lib.hid rfl, Lib.hid (by rw [HN.out]; simp), Lib.hid .nil, Lib.hid (by simpa using HR.out), Lib.hid (Upd.refl _ _)⟩
  case round =>
    obtain ⟨a, b, A, M1, M2, rfl, rfl, HB, HA, HM, HL, HF, HW, HU⟩ := hrel
    have b1 : a + 20 ≤ b := by have := HB.out; omega
    have b2 : b ≤ a + 20 := by have := HB.out; omega
    have a1 : a ≤ n := by have := HL.out; omega
    by_cases hlt : b ≤ n
    · have hd0 : decide ((b : Int) ≤ (n : Int)) = true := decide_eq_true (by omega)
      have hd1 : decide (b ≤ n) = true := decide_eq_true hlt
      obtain ⟨b', hb'⟩ : ∃ b', b' = b + 20 := ⟨_, rfl⟩
      have w1 : IntKind.i64.wrap ((b : Int) + 20) = (b' : Int) := by rw [IntWalk.i64_in _ (by omega)]; omega
      have HB' := Lib.hid hb'
      have lt1 : (M2.take 20).length = 20 := by rw [List.length_take]; have := HL.out; omega
      clear hb'
      go_wp2_with fail
      refine (HINS.out A (M2.take 20) (M2.drop 20) a b _ HA.out (by rw [lt1]; exact HB.out) (by rw [List.append_assoc, List.take_append_drop, List.length_append, ← HA.out]; exact HL.out) (by rw [List.append_assoc, List.take_append_drop]; exact HW.out) (((List.pairwise_append.1 (HM.out ▸ HINC.out)).2.1).sublist (List.take_sublist _ _)) (fun x hx => HNN.out x (by rw [HM.out]; simp [List.mem_of_mem_take hx])) HU.out).mono ?_
      rintro e w2 ⟨rfl, X, hp, hw, hr, hu⟩
      have HP := Lib.hid hp
      have HW1 := Lib.hid hw
      have HR1 := Lib.hid hr
      have HU1 := Lib.hid (HU.out.transS hu)
      clear hp hw hr hu
      go_wp2
      go_roundw
      case rel =>
        have lx : X.length = 20 := by rw [HP.out.length_eq, lt1]
        refine ⟨b, b', A ++ X, M1 ++ M2.take 20, M2.drop 20, rfl, rfl, HB', Lib.hid ?_, Lib.hid ?_, Lib.hid ?_, Lib.hid (.snoc A M1 X _ HF.out lx HP.out HW1.out), HR1, HU1⟩
        · rw [List.length_append, lx, ← HA.out]; exact HB.out
        · rw [List.append_assoc, List.take_append_drop]; exact HM.out
        · rw [List.length_drop]; have := HL.out; have := HB.out; omega
      case measure => simp [intOf]; omega
    · have hd0 : decide ((b : Int) ≤ (n : Int)) = false := decide_eq_false (by omega)
      have hd1 : decide (b ≤ n) = false := decide_eq_false hlt
      go_wp2_with fail
      refine (HINS.out A M2 [] a n _ HA.out HL.out (by rw [List.append_nil, List.length_append, ← HA.out]; exact HL.out) (by rw [List.append_nil]; exact HW.out) ((List.pairwise_append.1 (HM.out ▸ HINC.out)).2.1) (fun x hx => HNN.out x (by rw [HM.out]; simp [hx])) HU.out).mono ?_
      rintro e w2 ⟨rfl, X, hp, hw, hr, hu⟩
      have lx : X.length ≤ 20 := by rw [hp.length_eq]; have := HL.out; have := HB.out; omega
      have hblk : Blk R 20 (A ++ X) M := by rw [HM.out]; exact HF.out.blk (.last X M2 lx hp hw)
      have HBLK := Lib.hid hblk
      have HR1 := Lib.hid (show RowN w2 g 3 cap (A ++ X) by simpa using hr)
      have HU1 := Lib.hid (HU.out.transS hu)
      have HLEN := Lib.hid (show (A ++ X).length = n by rw [List.length_append, hp.length_eq, ← HA.out]; exact HL.out.symm)
      clear hp hw hr hu hblk lx HW HF HB b1 b2 hd0 hd1 hlt HU
      go_wp2
      go_loopw [6] (fun sv wr => ∃ (s : Nat) (L : List Nat), sv = .int .i64 s ∧ 20 ≤ s ∧ s ≤ 2 * n + 20 ∧ Hid (L.length = n) ∧ Hid (Blk R s L M) ∧ Hid (RowN wr g 3 cap L) ∧ Hid (Upd [g] w wr)) (fun sv _ => n - (intOf sv).toNat)
      case atStart => exact ⟨20, A ++ X, rfl, by omega, by omega, HLEN, HBLK, HR1, HU1⟩
      case round =>
        clear HBLK HR1 HU1 HLEN
        obtain ⟨s, L, rfl, s1, s2, HLEN, HBLK, HW, HU⟩ := hrel
        by_cases hlt : s < n
        · have hd0 : decide ((s : Int) < (n : Int)) = true := decide_eq_true (by omega)
          have hd1 : decide (s < n) = true := decide_eq_true hlt
          obtain ⟨t, ht⟩ : ∃ t, t = s + s := ⟨_, rfl⟩
          have t1 : t ≤ s + s := by omega
          have t2 : s + s ≤ t := by omega
          have w1 : IntKind.i64.wrap (2 * (s : Int)) = (t : Int) := by rw [IntWalk.i64_in _ (by omega)]; omega
          have w2 : IntKind.i64.wrap ((s : Int) * 2) = (t : Int) := by rw [IntWalk.i64_in _ (by omega)]; omega
          clear ht
          go_wp2
          go_loopw [7, 8] (fun av bv wr => ∃ (a b : Nat) (A B M1 M2 : List Nat), av = .int .i64 a ∧ bv = .int .i64 b ∧ Hid (b = a + t) ∧ Hid (a = A.length) ∧ Hid (M = M1 ++ M2) ∧ Hid (n = a + B.length) ∧ Hid (Full R t A M1) ∧ Hid (Blk R s B M2) ∧ Hid (RowN wr g 3 cap (A ++ B)) ∧ Hid (Upd [g] w wr)) (fun av _ _ => n - (intOf av).toNat)
          case atStart => exact ⟨0, t, [], L, [], M, rfl, rfl, Lib.hid (by omega), Lib.hid rfl, Lib.hid rfl, Lib.hid (by rw [HLEN.out]; simp), Lib.hid .nil, HBLK, Lib.hid (by simpa using HW.out), HU⟩
          case round =>
            clear HBLK HW HU HLEN HA HM HL
            obtain ⟨a, b, A, B, M1, M2, rfl, rfl, HB, HA, HM, HL, HF, HBL, HW, HU⟩ := hrel
            have b1 : a + t ≤ b := by have := HB.out; omega
            have b2 : b ≤ a + t := by have := HB.out; omega
            have a1 : a ≤ n := by have := HL.out; omega
            obtain ⟨c, hc⟩ : ∃ c, c = a + s := ⟨_, rfl⟩
            have c1 : a + s ≤ c := by omega
            have c2 : c ≤ a + s := by omega
            have w3 : IntKind.i64.wrap ((a : Int) + (s : Int)) = (c : Int) := by rw [IntWalk.i64_in _ (by omega)]; omega
            clear hc
            by_cases hlt2 : b ≤ n
            · have hd2 : decide ((b : Int) ≤ (n : Int)) = true := decide_eq_true (by omega)
              have hd3 : decide (b ≤ n) = true := decide_eq_true hlt2
              obtain ⟨b', hb'⟩ : ∃ b', b' = b + t := ⟨_, rfl⟩
              have w4 : IntKind.i64.wrap ((b : Int) + (t : Int)) = (b' : Int) := by rw [IntWalk.i64_in _ (by omega)]; omega
              have HB' := Lib.hid hb'
              obtain ⟨X, B1, N1, N2, rfl, rfl, lx, px, wx, hb1⟩ := HBL.out.pop (by have := HL.out; omega)
              obtain ⟨Y, C, N3, N4, rfl, rfl, ly, py, wy, hb2⟩ := hb1.pop (by have := HL.out; rw [List.length_append] at this; omega)
              have hM : (M1 ++ (N1 ++ (N3 ++ N4))).Pairwise (· < ·) := HM.out ▸ HINC.out
              have hmem : ∀ x ∈ X ++ Y, x < N := fun x hx => HNN.out x (by
                rw [HM.out]
                rcases List.mem_append.1 hx with h | h
                · simp [px.mem_iff.1 h]
                · simp [py.mem_iff.1 h])
              have hsep := inc_sep hM px py
              have HPX := Lib.hid (And.intro px (And.intro py hb2))
              have HMC := Lib.hid (HMER.out A X Y C a c b wr (by omega) (by omega) HA.out (by omega) (by omega) (by have h1 := HL.out; have h2 := HA.out; simp only [List.length_append] at h1 ⊢; omega) (by simpa only [List.append_assoc] using HW.out) wx wy hsep hmem HU.out)
              clear hb' px py hb1 hb2 hM hmem hsep wx wy
              go_wp2_with fail
              refine HMC.out.mono ?_
              rintro e w5 ⟨rfl, Z, hp, hw, hr, hu⟩
              have HP := Lib.hid hp
              have HWZ := Lib.hid hw
              have HRZ := Lib.hid hr
              have HUZ := Lib.hid (HU.out.transS hu)
              clear hp hw hr hu HMC
              go_wp2
              go_roundw
              case rel =>
                have lz : Z.length = t := by rw [HP.out.length_eq, List.length_append, lx, ly]; omega
                refine ⟨b, b', A ++ Z, C, M1 ++ (N1 ++ N3), N4, rfl, rfl, HB', Lib.hid ?_, Lib.hid ?_, Lib.hid ?_, Lib.hid (.snoc A M1 Z _ HF.out lz (HP.out.trans (HPX.out.1.append HPX.out.2.1)) HWZ.out), Lib.hid HPX.out.2.2, HRZ, HUZ⟩
                · rw [List.length_append, lz, ← HA.out]; exact HB.out
                · rw [HM.out]; simp only [List.append_assoc]
                · have h1 := HL.out; have h2 := HB.out; simp only [List.length_append] at h1; omega
              case measure => simp [intOf]; omega
            · have hd2 : decide ((b : Int) ≤ (n : Int)) = false := decide_eq_false (by omega)
              have hd3 : decide (b ≤ n) = false := decide_eq_false hlt2
              by_cases hlt3 : c < n
              · have hd4 : decide ((c : Int) < (n : Int)) = true := decide_eq_true (by omega)
                have hd5 : decide (c < n) = true := decide_eq_true hlt3
                obtain ⟨X, Y, N1, N2, rfl, rfl, lx, px, wx, hb1⟩ := HBL.out.pop (by have := HL.out; omega)
                have lxy : a + s + Y.length = n := by have h1 := HL.out; simp only [List.length_append] at h1; omega
                obtain ⟨py, wy⟩ := hb1.one (by omega)
                have hM : (M1 ++ (N1 ++ (N2 ++ []))).Pairwise (· < ·) := by rw [List.append_nil]; exact HM.out ▸ HINC.out
                have hmem : ∀ x ∈ X ++ Y, x < N := fun x hx => HNN.out x (by
                  rw [HM.out]
                  rcases List.mem_append.1 hx with h | h
                  · simp [px.mem_iff.1 h]
                  · simp [py.mem_iff.1 h])
                have hsep := inc_sep hM px py
                have HPX := Lib.hid (And.intro px py)
                have HMC := Lib.hid (HMER.out A X Y [] a c n wr (by omega) (by omega) HA.out (by omega) (by omega) (by have h2 := HA.out; simp only [List.length_append, List.length_nil]; omega) (by simpa only [List.append_assoc, List.append_nil] using HW.out) wx wy hsep hmem HU.out)
                have HLXY := Lib.hid lxy
                clear px py hb1 hM hmem hsep wx wy lxy
                go_wp2_with fail
                refine HMC.out.mono ?_
                rintro e w5 ⟨rfl, Z, hp, hw, hr, hu⟩
                have lz : Z.length ≤ t := by have h1 := HLXY.out; rw [hp.length_eq, List.length_append, lx]; omega
                have HR2 := Lib.hid (show RowN w5 g 3 cap (A ++ Z) by simpa only [List.append_nil] using hr)
                have HU2 := Lib.hid (HU.out.transS hu)
                have HB2 := Lib.hid (show Blk R t (A ++ Z) M by rw [HM.out]; exact HF.out.blk (.last Z _ lz (hp.trans (HPX.out.1.append HPX.out.2)) hw))
                have HL2 := Lib.hid (show (A ++ Z).length = n by have h1 := HLXY.out; rw [List.length_append, hp.length_eq, List.length_append, ← HA.out, lx]; omega)
                clear hp hw hr hu HMC lz
                go_wp2
                go_roundw
                case rel => exact ⟨t, A ++ Z, rfl, by omega, by omega, HL2, HB2, HR2, HU2⟩
                case measure => simp [intOf]; omega
              · have hd4 : decide ((c : Int) < (n : Int)) = false := decide_eq_false (by omega)
                have hd5 : decide (c < n) = false := decide_eq_false hlt3
                have hone := HBL.out.one (by have := HL.out; omega)
                have HB2 := Lib.hid (show Blk R t (A ++ B) M by rw [HM.out]; exact HF.out.blk (.last B _ (by have := HL.out; omega) hone.1 hone.2))
                have HL2 := Lib.hid (show (A ++ B).length = n by rw [List.length_append, ← HA.out]; exact HL.out.symm)
                clear hone
                go_wp2
                go_roundw
                case rel => exact ⟨t, A ++ B, rfl, by omega, by omega, HL2, HB2, HW, HU⟩
                case measure => simp [intOf]; omega
        · have hd0 : decide ((s : Int) < (n : Int)) = false := decide_eq_false (by omega)
          have hd1 : decide (s < n) = false := decide_eq_false hlt
          go_wp2
          first | go_end0 | ((try simp only [Exit.inBlock, Exit.then]); refine bodyPost_ret (results_none rfl _ _ _) rfl ?_)
          have hone := HBLK.out.one (by have := HLEN.out; omega)
          exact ⟨rfl, L, hone.1, hone.2, HW.out, HU.out⟩
end Go.Proofs.Ythchclhleppdhaa
