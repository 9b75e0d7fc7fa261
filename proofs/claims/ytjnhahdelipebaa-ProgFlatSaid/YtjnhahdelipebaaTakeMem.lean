/- slices.Clone, slices.Equal over locks; op.Waits. -/
import Derived.Test.YtjnhahdelipebaaChkMem
import Derived.Deep.QuietTactic
import Derived.BigQuiet
import Derived.WalkSpells
import Derived.IntWalk
namespace Go.Proofs.Ytjnhahdelipebaa.XA
set_option linter.unusedVariables false
set_option linter.unusedSimpArgs false
open Go.RowKit Go.Proofs.YtjnhahdelipebaaW.PrintWords Go.Proofs.YtjnhahdelipebaaW.PrintLast Go.Proofs.YtjnhahdelipebaaW.PrintMore
open Go.Proofs.YtjnhahdelipebaaH (Upd Rd)
set_option maxHeartbeats 800000 in
set_option maxRecDepth 100000 in
theorem cloneI_any (B : Nat) (a : Option Addr) (cap : Nat) (xs : List Int) (w : World) (hown : w.ownsRow B 3 1 (.slice a xs.length cap) xs.length (xs.map (Value.int .i64))) (hm : xs.length ≤ 100000) :
    Calls Try.prog 51 #[.slice a xs.length cap] w fun e w' => ∃ a' c', e = .returned (.slice a' xs.length c') ∧ w'.ownsRow w.heap.size 3 1 (.slice a' xs.length c') xs.length (xs.map (Value.int .i64)) ∧ Upd [] w w' := by
  have hq := Rd.of_own hown
  clear hown
  obtain ⟨n, hn⟩ : ∃ n, n = xs.length := ⟨_, rfl⟩
  rw [← hn] at hq hm ⊢
  cases a with
  | none =>
    obtain ⟨a1, c1, he, h1, h2, h3, _⟩ := hq
    cases he
    have hc := h3 rfl
    have h0 : n = 0 := by omega
    have hq0 : xs = [] := List.eq_nil_of_length_eq_zero (by omega)
    subst hq0
    subst h0
    subst hc
    clear hn h1 h2 h3 hm
    have hnil := fun W => Lib.run_eql_slice_nil (P := Try.prog) W 42 3 none 0 0 0 0 Try.underlying42
    simp only [Option.isNone_none] at hnil
    go_enter Try.func51, Try.ntmps51
    go_wp2
    go_ret
    exact ⟨none, 0, rfl, World.ownsRow_nil _ _ _ _, Upd.refl _ _⟩
  | some ad =>
    have hm1 : n ≤ maxLen := by unfold maxLen; omega
    have hm2 : n * 8 ≤ 140737488355328 := by omega
    have hl : (xs.map (Value.int .i64)).length = n * 1 := by simp [hn]
    have HL := Lib.hid hl
    have HQ := Lib.hid hq
    have hnil := fun W => Lib.run_eql_slice_nil (P := Try.prog) W 42 3 (some ad) n cap 0 0 Try.underlying42
    simp only [Option.isNone_some] at hnil
    clear hl hq hn
    go_enter Try.func51, Try.ntmps51
    go_wp2_with (first
      | (at_builtin; refine Go.Proofs.YtjnhahdelipebaaH.wp_copy tIntP rfl (.tmp 5) (.tmp 6) rfl (base := w.heap.size) (World.ownsRow_made _ #[] 0 (by simp) (by simp) rfl) rfl rfl (HQ.out.keep0 ((Upd.refl _ _).alloc _)) HL.out (Go.Proofs.YtjnhahdelipebaaH.one_ints xs) hm1 hm2 (by simp) ?_; intro a1 cp1 w1 hown1 hupd1))
    go_ret
    exact ⟨a1, cp1, rfl, hown1, ((Upd.refl [] w).alloc _).trans hupd1 (fun x hx hl => by simp [Value.ownBlock] at hx; omega)⟩
theorem ret_blT {a b : Bool} (h : a = b) : Ending.returned (.bool a) = .returned (.bool b) := by rw [h]
set_option maxHeartbeats 4000000 in
set_option maxRecDepth 100000 in
theorem equalI_any (A1 : Option Addr) (c1 : Nat) (l : List Int) (A2 : Option Addr) (c2 : Nat) (m : List Int) (w : World) (h1 : Kd.C (Kd.int .i64) w A1 l.length l) (h2 : Kd.C (Kd.int .i64) w A2 m.length m) (hm : m.length ≤ 1000000000) (r : Bool) (hr : r = decide (l = m)) :
    Calls Try.prog 52 #[.slice A1 l.length c1, .slice A2 m.length c2] w fun e w' => e = .returned (.bool r) ∧ ∃ n, w' = w.drewN n := by
  have HR := Lib.hid hr
  have H1 := Lib.hid h1
  have H2 := Lib.hid h2
  clear hr h1 h2
  obtain ⟨p, hp⟩ : ∃ p, p = l.length := ⟨_, rfl⟩
  obtain ⟨q, hq⟩ : ∃ q, q = m.length := ⟨_, rfl⟩
  have HP := Lib.hid hp
  have HQ := Lib.hid hq
  rw [← hp, ← hq]
  rw [← hq] at hm
  by_cases e : p = q
  · subst e
    have hpp : ((p : Int) != (p : Int)) = false := by simp
    clear hp hq
    go_enter Try.func52, Try.ntmps52
    go_wp2
    go_loopw [13] (fun i wr => ∃ k n : Nat, k ≤ p ∧ i = .int .i64 k ∧ wr = w.drewN n ∧ Hid (∀ j, j < k → l.getD j 0 = m.getD j 0)) (fun i _ => p - (intOf i).toNat)
    case atStart => exact ⟨0, 0, Nat.zero_le _, rfl, rfl, Lib.hid (fun j hj => absurd hj (Nat.not_lt_zero _))⟩
    case round =>
      obtain ⟨k, nn, hk, rfl, rfl, HS⟩ := hrel
      by_cases hlt : k < p
      · obtain ⟨a1, rfl, x1⟩ := Kd.at_int H1.out k (by omega) (by rw [← HP.out]; omega)
        obtain ⟨a2, rfl, x2⟩ := Kd.at_int H2.out k (by omega) (by rw [← HQ.out]; omega)
        have r1 : rd l (k : Int) = l.getD k 0 := by simp [rd]
        have r2 : rd m (k : Int) = m.getD k 0 := by simp [rd]
        rw [r1] at x1
        rw [r2] at x2
        simp only [Int.toNat_natCast] at x1 x2
        have hk0 : (0 : Int) ≤ (k : Int) := by omega
        have hk1 : (k : Int) < (p : Int) := by omega
        obtain ⟨y, hy⟩ : ∃ y, y = l.getD k 0 := ⟨_, rfl⟩
        obtain ⟨z, hz⟩ : ∃ z, z = m.getD k 0 := ⟨_, rfl⟩
        rw [← hy] at x1
        rw [← hz] at x2
        have HY := Lib.hid hy
        have HZ := Lib.hid hz
        clear hy hz r1 r2
        by_cases hyz : y = z
        · have t : (y != z) = false := by simp [hyz]
          have HYZ := Lib.hid hyz
          clear hyz
          go_wp2
          go_quiet (fail)
          go_wp2
          go_roundw
          case rel => exact ⟨k + 1, _, by omega, by go_num, rfl, Lib.hid (fun j hj => by
            rcases Nat.lt_or_ge j k with h | h
            · exact HS.out j h
            · obtain rfl : j = k := by omega
              rw [← HY.out, ← HZ.out, HYZ.out])⟩
          case measure => simp [intOf]; omega
        · have t : (y != z) = true := bne_iff_ne.2 hyz
          have HYZ := Lib.hid hyz
          clear hyz
          go_wp2
          go_quiet (fail)
          go_wp2
          go_ret
          have hne : l ≠ m := fun c => HYZ.out (by rw [HY.out, HZ.out, c])
          exact ⟨ret_blT (a := false) (by rw [HR.out, decide_eq_false hne]), _, World.drewN_drewN ..⟩
      · obtain rfl : k = p := by omega
        go_wp2
        go_ret
        have : l = m := List.ext_getElem (by rw [← HP.out, ← HQ.out]) fun j h1 h2 => by
          have := HS.out j (by rw [HP.out]; exact h1)
          simpa [List.getD, h1, h2] using this
        exact ⟨ret_blT (a := true) (by rw [HR.out, decide_eq_true this]), _, rfl⟩
  · have t : ((p : Int) != (q : Int)) = true := by simp; omega
    have hne : l ≠ m := fun c => e (by rw [hp, hq, c])
    have HE := Lib.hid (HR.out.trans (decide_eq_false hne))
    clear hp hq hne e
    go_enter Try.func52, Try.ntmps52
    go_wp2
    go_ret
    exact ⟨ret_blT (a := false) HE.out.symm, 0, rfl⟩
set_option maxHeartbeats 4000000 in
set_option maxRecDepth 100000 in
theorem pWaits_any (k n v wt : Int) (A : Option Addr) (m c : Nat) (w : World) (r : Bool) (hr : decide ((k = 4 ∨ k = 5 ∨ k = 7) ∧ wt ≠ 0) = r) :
    Calls Try.prog 42 #[.agg #[.int .i64 k, .int .i64 n, .int .i64 v, .int .i64 wt, .slice A m c]] w fun e w' => e = .returned (.bool r) ∧ Below w.heap.size w w' := by
  by_cases hk : k = 4 ∨ k = 5 ∨ k = 7
  · have hr2 : (wt != 0) = r := by
      rw [← hr]
      by_cases h : wt = 0 <;> simp [h, hk]
    clear hr
    rcases hk with rfl | rfl | rfl
    all_goals
      go_enter Try.func42, Try.ntmps42
      go_wp2
      go_ret
      exact ⟨ret_blT (by first | rfl | simp | simpa using hr2), (Below.refl _ _).alloc (Nat.le_refl _) _⟩
  · have hr2 : r = false := by
      rw [← hr]
      simp [hk]
    subst hr2
    clear hr
    have t4 : (k == 4) = false := beq_eq_false_iff_ne.2 (fun c => hk (.inl c))
    have t5 : (k == 5) = false := beq_eq_false_iff_ne.2 (fun c => hk (.inr (.inl c)))
    have t7 : (k == 7) = false := beq_eq_false_iff_ne.2 (fun c => hk (.inr (.inr c)))
    clear hk
    go_enter Try.func42, Try.ntmps42
    go_wp2
    go_ret
    exact ⟨rfl, (Below.refl _ _).alloc (Nat.le_refl _) _⟩
end Go.Proofs.Ytjnhahdelipebaa.XA
