/- slices.swapRangeCmpFunc. -/
import Derived.Test.YthchclhleppdhaaSortW
namespace Go.Proofs.Ythchclhleppdhaa
set_option linter.unusedVariables false
set_option linter.unusedSimpArgs false
open Go.RowKit
/-- So many pairs swapped. -/
def swapN (l : List Nat) (a b : Nat) : Nat → List Nat
  | 0 => l
  | k + 1 => ((swapN l a b k).set (a + k) ((swapN l a b k).getD (b + k) 0)).set (b + k) ((swapN l a b k).getD (a + k) 0)
theorem swapN_len (l : List Nat) (a b : Nat) : ∀ k, (swapN l a b k).length = l.length
  | 0 => rfl
  | k + 1 => by rw [swapN, List.length_set, List.length_set, swapN_len l a b k]
set_option maxHeartbeats 16000000 in
set_option maxRecDepth 100000 in
theorem swapRange_any (g cap : Nat) (l : List Nat) (a b n : Nat) (hab : a + n ≤ b) (hbl : b + n ≤ l.length) (hm : l.length ≤ 1000000) (f : Value) (w : World) (hrow : RowN w g 3 cap l) :
    Calls Try.prog 73 #[.slice (some ⟨g, 0, none⟩) l.length cap, .int .i64 a, .int .i64 b, .int .i64 n, f] w fun e w' => e = .returned (.tuple #[]) ∧ RowN w' g 3 cap (swapN l a b n) ∧ Upd [g] w w' := by
  obtain ⟨N, hN⟩ : ∃ N, N = l.length := ⟨_, rfl⟩
  have HN := Lib.hid hN
  have HR := Lib.hid hrow
  rw [← hN] at hbl hm ⊢
  clear hrow hN
  go_enter Try.func73, Try.ntmps73
  go_wp2
  go_loopw [10] (fun iv wr => ∃ k : Nat, k ≤ n ∧ iv = .int .i64 k ∧ RowN wr g 3 cap (swapN l a b k) ∧ Upd [g] w wr) (fun iv _ => n - (intOf iv).toNat)
  case atStart => exact ⟨0, Nat.zero_le _, rfl, HR.out, Upd.refl _ _⟩
  case round =>
    obtain ⟨k, hk, rfl, hr, hu⟩ := hrel
    by_cases hlt : k < n
    · have hl := swapN_len l a b k
      have hwa : IntKind.i64.wrap ((a : Int) + (k : Int)) = ((a + k : Nat) : Int) := by rw [IntWalk.i64_in _ (by omega)]; omega
      have hwb : IntKind.i64.wrap ((b : Int) + (k : Int)) = ((b + k : Nat) : Int) := by rw [IntWalk.i64_in _ (by omega)]; omega
      have hlN : (swapN l a b k).length = N := by rw [hl, HN.out]
      have hca := hr.cell (i := a + k) (by omega)
      have hcb := hr.cell (i := b + k) (by omega)
      have hfa := hr.frozen (a + k)
      have hfb := hr.frozen (b + k)
      have hset := (hr.set (a + k) ((swapN l a b k).getD (b + k) 0)).set (b + k) ((swapN l a b k).getD (a + k) 0)
      have HS := Lib.hid (show RowN _ g 3 cap (swapN l a b (k + 1)) from hset)
      have hu2 : Upd [g] w ((wr.setCell ⟨g, a + k, none⟩ (.int .i64 ((swapN l a b k).getD (b + k) 0 : Nat))).setCell ⟨g, b + k, none⟩ (.int .i64 ((swapN l a b k).getD (a + k) 0 : Nat))) := (hu.setCell _ _ (fun _ => by simp)).setCell _ _ (fun _ => by simp)
      have HU2 := Lib.hid hu2
      generalize (swapN l a b k).getD (a + k) 0 = xa at hca HS HU2
      generalize (swapN l a b k).getD (b + k) 0 = xb at hcb HS HU2
      obtain ⟨ia, hia⟩ : ∃ ia, ia = a + k := ⟨_, rfl⟩
      obtain ⟨ib, hib⟩ : ∃ ib, ib = b + k := ⟨_, rfl⟩
      rw [← hia] at hwa hca hfa HS HU2
      rw [← hib] at hwb hcb hfb HS HU2
      have hne : ia ≠ ib := by omega
      have hne2 : ib ≠ ia := by omega
      have p0 : (0 : Int) ≤ (ia : Int) := by omega
      have p1 : (ia : Int) < (N : Int) := by omega
      have p2 : (0 : Int) ≤ (ib : Int) := by omega
      have p3 : (ib : Int) < (N : Int) := by omega
      clear hset hu2 hl hia hib hlN hr hu
      go_wp2_with fail
      go_region
      all_goals
        go_wp2
        go_roundw
        case rel => first | exact ⟨k + 1, by omega, by go_num, HS.out, HU2.out⟩ | exact ⟨k + 1, by omega, by go_num, HS.out.drew, HU2.out.drew⟩
        case measure => simp [intOf]; omega
    · obtain rfl : k = n := by omega
      go_wp2
      first | go_end0 | ((try simp only [Exit.inBlock, Exit.then]); refine bodyPost_ret (results_none rfl _ _ _) rfl ?_)
      exact ⟨rfl, hr, hu⟩
end Go.Proofs.Ythchclhleppdhaa
