-- PRINTED by print.py (a twelfth state) out of the translation. Not trusted: Lean checks it.
import Derived.Test.YtjnhahdelipebaaPgWaits
import Derived.Test.YtjnhahdelipebaaXAx0
import Derived.Test.YtjnhahdelipebaaXAx2
import Derived.Test.YtjnhahdelipebaaXAx3
import Derived.Test.YtjnhahdelipebaaXAx4
namespace Go.Proofs.Ytjnhahdelipebaa.XA
open Go.RowKit Go.Proofs.YtjnhahdelipebaaW.PrintWords Go.Proofs.YtjnhahdelipebaaW.PrintLast Go.Proofs.YtjnhahdelipebaaW.PrintMore
attribute [local go_sem] max2_int min2_int max_two min_two max_three min_three max_four min_four   -- for this text's walks alone
set_option linter.unusedVariables false
set_option linter.unusedSimpArgs false

/-! ### prog_Locks: function 25 -/
open Go.Proofs.YtjnhahdelipebaaH (Upd Rd)
def locksL (l : List S52) : List Int := (l.filter fun o => o.f0 == 2).map (·.f1)
def prog_Locks.f (k : Nat) (l0 : List (S52)) : Option (List Int) := if l0.length ≤ 1000000000 ∧ (locksL l0).length ≤ 12 ∧ (locksL l0).Pairwise (· < ·) then some (locksL l0) else none
theorem prog_Locks.mono : ∀ a0 k, LeO (prog_Locks.f k a0) (prog_Locks.f (k + 1) a0) := fun _ _ => LeO.refl _
theorem tIntL : Go.Proofs.YtjnhahdelipebaaH.ElemT Try.prog 42 3 (.int .i64 0) 1 8 :=
  ⟨Try.underlying42, by
    obtain ⟨i, hi, h⟩ := info_parts (show (Try.prog.info? 3).map (fun i => (i.zero, i.size, i.bytes)) = some (some (.int .i64 0), 1, 8) by kernel_rfl)
    exact ⟨i, hi, h⟩, rfl, by decide⟩
theorem R_of_ownI {w : World} {base n : Nat} {v : Value} {e : Nat} {xs : List Int} (h : w.ownsRow base e 1 v n (xs.map (Value.int .i64))) : Kd.R (Kd.int .i64) e w base (fun _ => True) v xs := by
  have hn : n = xs.length := by have := h.1; simpa using this.symm
  subst hn
  exact Kd.R_of_own (enc := Value.int .i64) (h1 := fun _ => rfl) h (fun _ _ => trivial)
set_option maxHeartbeats 8000000 in
set_option maxRecDepth 100000 in
theorem prog_Locks.calls (k : Nat) (A0 : Option Addr) (c0 : Nat) (l0 : List (S52)) (r : List Int) (w : World) (hr0 : Kd.C k52 w A0 l0.length l0) (hc0 : l0.length ≤ c0) (h : prog_Locks.f k l0 = some r) :
    Calls Try.prog 25 #[.slice A0 l0.length c0] w fun e w' => ∃ v0_ : Value, e = .returned (v0_) ∧ Kd.R (Kd.int .i64) 3 w' w.heap.size (fun _ => True) v0_ r ∧ Below w.heap.size w w' := by
  unfold prog_Locks.f at h
  split at h
  case isFalse => cases h
  case isTrue hm =>
  injection h with h
  subst h
  obtain ⟨hm, hf, hinc⟩ := hm
  have HF := Lib.hid hf
  have HINC := Lib.hid hinc
  have HR := Lib.hid hr0
  obtain ⟨N, hN⟩ : ∃ N, N = l0.length := ⟨_, rfl⟩
  have HN := Lib.hid hN
  rw [← hN] at hm ⊢
  clear hf hinc hr0 hc0 hN
  go_enter Try.func25, Try.ntmps25
  go_wp2
  go_loopw [3, 8] (fun v i wr => ∃ (k : Nat), k ≤ N ∧ i = .int .i64 k ∧ wr.ownsRow w.heap.size 3 1 v (locksL (l0.take k)).length ((locksL (l0.take k)).map (Value.int .i64)) ∧ Upd [] w wr) (fun _ i _ => N - (intOf i).toNat)
  case atStart => exact ⟨0, Nat.zero_le _, rfl, by simpa [locksL] using own_nil w w.heap.size 3 1, Upd.refl _ _⟩
  case round =>
    obtain ⟨k, hk, rfl, hown, hu⟩ := hrel
    by_cases hlt : k < N
    · have hkl : k < l0.length := by rw [← HN.out]; exact hlt
      obtain ⟨ad, A4, c4, rfl, x0, x1, x2, x3, x4, -, -⟩ := at_T52 (Kd.C_below HR.out hu.below) k (by omega) (by omega)
      obtain ⟨o, ho⟩ : ∃ o, o = rd_T52 l0 k := ⟨_, rfl⟩
      rw [← ho] at x0 x1 x2 x3 x4
      simp only [Int.toNat_natCast] at x0 x1 x2 x3 x4
      have htk : l0.take (k + 1) = l0.take k ++ [o] := by
        rw [List.take_succ_eq_append_getElem hkl, ho]
        simp [rd_T52, List.getD, hkl]
      have hll : (locksL (l0.take k)).length ≤ k := by
        have h1 := List.length_filter_le (fun o : S52 => o.f0 == 2) (l0.take k)
        have h2 : (l0.take k).length ≤ k := List.length_take_le _ _
        simp only [locksL, List.length_map]
        omega
      have hsz := hu.size
      have HTK := Lib.hid htk
      have HO := Lib.hid ho
      clear htk ho
      obtain ⟨m, hm2⟩ : ∃ m, m = (locksL (l0.take k)).length := ⟨_, rfl⟩
      rw [← hm2] at hown hll
      have HM := Lib.hid hm2
      clear hm2
      obtain ⟨vo, cap, rfl, hcap⟩ := Go.Proofs.YtjnhahdelipebaaH.own_slice hown
      by_cases h2 : o.f0 = 2
      · have t2 : (o.f0 == 2) = true := beq_iff_eq.2 h2
        have HL : Hid (locksL (l0.take (k + 1)) = locksL (l0.take k) ++ [o.f1]) := Lib.hid (by rw [HTK.out]; simp [locksL, h2])
        have hm1 : m + 1 ≤ maxLen := by unfold maxLen; omega
        have hm3 : (m + 1) * 8 ≤ 140737488355328 := by omega
        have hown2 := Go.Proofs.YtjnhahdelipebaaH.own_keep0 hown ((Upd.refl [] wr).alloc (.cells #[.int .i64 o.f0, .int .i64 o.f1, .int .i64 o.f2, .int .i64 o.f3, .slice A4 o.f4.length c4] 52))
        have hb2 : w.heap.size ≤ (wr.alloc (.cells #[.int .i64 o.f0, .int .i64 o.f1, .int .i64 o.f2, .int .i64 o.f3, .slice A4 o.f4.length c4] 52)).heap.size := by simp; omega
        clear h2
        go_wp2_with (first
          | (at_builtin; refine Go.Proofs.YtjnhahdelipebaaH.wp_push_at tIntL rfl (.tmp 15) (.tmp 18) rfl hown2 [.int .i64 o.f1] rfl rfl (World.size_alloc _ _).symm rfl (by intro u hu; simp at hu; subst hu; rfl) hm1 hm3 hb2 ?_; intro g3 c3 w3 hown3 hu3))
        have HU3 := Lib.hid hu3
        have HOWN3 := Lib.hid hown3
        have HOWN := Lib.hid hown
        clear hu3 hown3 hown2 hown
        go_wp2
        go_roundw
        case rel =>
          refine ⟨k + 1, by omega, by go_num, ?_, ?_⟩
          · rw [HL.out, List.length_append, ← HM.out]
            simpa using HOWN3.out
          · exact (hu.alloc _).trans HU3.out (fun x hx hl => by
              have := (HOWN.out.lt x (by simpa using hx)).1
              omega)
        case measure => simp [intOf]; omega
      · have t2 : (o.f0 == 2) = false := beq_eq_false_iff_ne.2 h2
        have HL : Hid (locksL (l0.take (k + 1)) = locksL (l0.take k)) := Lib.hid (by rw [HTK.out]; simp [locksL, h2])
        clear h2
        go_wp2
        go_roundw
        case rel => exact ⟨k + 1, by omega, by go_num, by rw [HL.out, ← HM.out]; exact Go.Proofs.YtjnhahdelipebaaH.own_keep0 hown ((Upd.refl [] wr).alloc _), hu.alloc _⟩
        case measure => simp [intOf]; omega
    · obtain rfl : k = N := by omega
      have htk : l0.take k = l0 := List.take_of_length_le (by rw [← HN.out]; exact Nat.le_refl _)
      rw [htk] at hown
      obtain ⟨n, hn⟩ : ∃ n, n = (locksL l0).length := ⟨_, rfl⟩
      have hn12 : n ≤ 12 := by rw [hn]; exact HF.out
      rw [← hn] at hown
      have HNN := Lib.hid hn
      clear htk hn
      rcases hown.2 with ⟨rfl, h0⟩ | ⟨g, cap, cur, rfl, hb, -⟩
      · have HO := Lib.hid hown
        have H0 := Lib.hid h0
        clear hown h0
        go_wp2_with fail
        refine (Go.Proofs.YtjnhahdelipebaaH.sort_nil _).mono ?_
        rintro e w1 ⟨rfl, rfl⟩
        go_wp2_with fail
        refine (Go.Proofs.YtjnhahdelipebaaH.compact_nil _).mono ?_
        rintro e w1 ⟨rfl, rfl⟩
        go_wp2
        go_ret
        exact ⟨_, rfl, R_of_ownI HO.out, hu.below⟩
      · have hs := Go.Proofs.YtjnhahdelipebaaH.sort_inc g cap w.heap.size (locksL l0) wr n HNN.out hown HINC.out hn12
        have HS := Lib.hid hs
        have HO := Lib.hid hown
        clear hs hown
        go_wp2_with fail
        refine HS.out.mono ?_
        rintro e w1 ⟨rfl, hu1⟩
        have hc := Go.Proofs.YtjnhahdelipebaaH.compact_inc g cap w.heap.size (locksL l0) w1 n HNN.out (Go.Proofs.YtjnhahdelipebaaH.own_keep0 HO.out hu1) HINC.out hn12
        have HC := Lib.hid hc
        have HU1 := Lib.hid hu1
        clear hc hu1
        go_wp2_with fail
        refine HC.out.mono ?_
        rintro e w2 ⟨rfl, hu2⟩
        go_wp2
        go_ret
        exact ⟨_, rfl, R_of_ownI (Go.Proofs.YtjnhahdelipebaaH.own_keep0 HO.out (HU1.out.trans0 hu2)), ((hu.trans0 HU1.out).trans0 hu2).below⟩


/-! ### prog_Waits: function 20 -/
def prog_Waits.f (l0 : List (S52)) : Option (Bool) := if l0.length ≤ 1000000 then some (l0.any waitsO) else none
theorem prog_Waits.calls (A0 : Option Addr) (c0 : Nat) (l0 : List (S52)) (r : Bool) (w : World) (hr0 : Kd.C k52 w A0 l0.length l0) (hc0 : l0.length ≤ c0) (h : prog_Waits.f l0 = some r) :
    Calls Try.prog 20 #[.slice A0 l0.length c0] w fun e w' => e = .returned (.bool r) ∧ Below w.heap.size w w' := by
  unfold prog_Waits.f at h
  split at h
  case isFalse => cases h
  case isTrue hm =>
  injection h with h
  exact progWaits_any A0 l0.length c0 l0 rfl w hr0 hm r h


/-! ### watchbilllaw1_Ints: function 24 -/
def watchbilllaw1_Ints.l0 : Nat → List Int → List Int → Int → Option (Bool)
  | 0, _, _, _ => none
  | k + 1, x0, x1, x5 => if x5 < (x0.length : Int) then (if 0 ≤ x5 then (if x5 < (x1.length : Int) then (if (rd x0 x5) = (rd x1 x5) then (watchbilllaw1_Ints.l0 k x0 x1 (wrap64 (x5 + 1))) else (some false)) else (none)) else (none)) else (some true)
def watchbilllaw1_Ints.f (k : Nat) (l0 : List Int) (l1 : List Int) : Option (Bool) := if (l0.length : Int) = (l1.length : Int) then (watchbilllaw1_Ints.l0 k l0 l1 0) else (some false)
theorem watchbilllaw1_Ints.mono_l : ∀ k, (∀ y0 y1 y2, LeO (watchbilllaw1_Ints.l0 k y0 y1 y2) (watchbilllaw1_Ints.l0 (k + 1) y0 y1 y2))
  | 0 => fun _ _ _ r h => by simp [watchbilllaw1_Ints.l0] at h
  | k + 1 => by
    have ih0 := watchbilllaw1_Ints.mono_l k
    · intro y0 y1 y2
      unfold watchbilllaw1_Ints.l0
      repeat' first
      | (with_reducible exact ih0 _ _ _)
      | (with_reducible exact LeO.refl _)
      | (with_reducible exact LeO.none _)
      | (with_reducible refine LeO.ite ?_ ?_)
      | (with_reducible refine LeO.bind ?_ (fun _ => ?_))
      | exact ih0 _ _ _
      | exact LeO.none _
      | refine LeO.ite ?_ ?_
      | refine LeO.bind ?_ (fun _ => ?_)
theorem watchbilllaw1_Ints.mono : ∀ a0 a1 k, LeO (watchbilllaw1_Ints.f k a0 a1) (watchbilllaw1_Ints.f (k + 1) a0 a1) := by
  intro a0 a1 k
  have ih0 := watchbilllaw1_Ints.mono_l k
  unfold watchbilllaw1_Ints.f
  repeat' first
      | (with_reducible exact ih0 _ _ _)
      | (with_reducible exact LeO.refl _)
      | (with_reducible exact LeO.none _)
      | (with_reducible refine LeO.ite ?_ ?_)
      | (with_reducible refine LeO.bind ?_ (fun _ => ?_))
      | exact ih0 _ _ _
      | exact LeO.none _
      | refine LeO.ite ?_ ?_
      | refine LeO.bind ?_ (fun _ => ?_)
set_option maxHeartbeats 8000000 in
set_option maxRecDepth 100000 in
theorem watchbilllaw1_Ints.calls (k : Nat) (A0 : Option Addr) (c0 : Nat) (l0 : List Int) (A1 : Option Addr) (c1 : Nat) (l1 : List Int) (r : Bool) (w : World) (hr0 : Kd.C (Kd.int .i64) w A0 l0.length l0) (hc0 : l0.length ≤ c0) (hr1 : Kd.C (Kd.int .i64) w A1 l1.length l1) (hc1 : l1.length ≤ c1) (h : watchbilllaw1_Ints.f k l0 l1 = some r) :
    Calls Try.prog 24 #[.slice A0 l0.length c0, .slice A1 l1.length c1] w fun e w' => e = .returned (.bool r) ∧ Drawn0 w w' := by
  have HR0 := Aside0.mk hr0
  have HC0 := Aside0.mk hc0
  clear hr0 hc0
  have HR1 := Aside0.mk hr1
  have HC1 := Aside0.mk hc1
  clear hr1 hc1
  have H : (if (l0.length : Int) = (l1.length : Int) then (watchbilllaw1_Ints.l0 k l0 l1 0) else (some false)) = some r := h
  clear h
  by_cases c3 : (l0.length : Int) = (l1.length : Int)
  · rw [if_pos c3] at H
    have c3b0 : ((l0.length : Int) == (l1.length : Int)) = true := beq_iff_eq.mpr c3
    have c3b1 : ((l0.length : Int) != (l1.length : Int)) = false := bne_eq_false_iff_eq.mpr c3
    have c3b2 : (l0.length == l1.length) = true := by first | simpa using c3 | (simp at c3 ⊢; omega)
    clear c3
    have H' := Aside0.mk H
    clear H
    go_enter Try.func24, Try.ntmps24
    go_wp2
    repeat (go_quiet (fail); try go_wp2)
    go_loopg [5] k (fun kq v5 w' => ∃ (x5_1 : Int), v5 = .int .i64 x5_1 ∧ Aside0 (watchbilllaw1_Ints.l0 kq l0 l1 x5_1 = some r) ∧ Aside0 (kq ≤ k) ∧ Drawn0 w w')
    case atStart => exact ⟨(0), (by first | rfl | (simp; done) | (simp [*]; done) | (simp [Int.tdiv_eq_ediv_of_nonneg]; done)), H', ⟨Nat.le_refl _⟩, by repeat (first | exact Drawn0.refl _ | apply Drawn0.step)⟩
    case round =>
      clear H'
      try clear c1
      try clear c2
      try clear p2
      try clear c3
      try clear c3b0
      try clear c3b1
      try clear c3b2
      obtain ⟨x5_1, rfl, HA, HK1, ⟨m1, rfl⟩⟩ := hrel
      cases gk with
      | zero => exact absurd HA.out (by simp [watchbilllaw1_Ints.l0])
      | succ k1 =>
        have H := HA.out
        clear HA
        simp only [watchbilllaw1_Ints.l0] at H
        by_cases c4 : x5_1 < (l0.length : Int)
        · rw [if_pos c4] at H
          have c4b0 : decide (x5_1 < (l0.length : Int)) = true := decide_eq_true c4
          clear c4
          by_cases c5 : 0 ≤ x5_1
          · rw [if_pos c5] at H
            have c5b0 : decide (0 ≤ x5_1) = true := decide_eq_true c5
            clear c5
            by_cases c6 : x5_1 < (l1.length : Int)
            · rw [if_pos c6] at H
              have c6b0 : decide (x5_1 < (l1.length : Int)) = true := decide_eq_true c6
              clear c6
              by_cases c7 : (rd l0 x5_1) = (rd l1 x5_1)
              · rw [if_pos c7] at H
                have c7b0 : ((rd l0 x5_1) == (rd l1 x5_1)) = true := beq_iff_eq.mpr c7
                have c7b1 : ((rd l0 x5_1) != (rd l1 x5_1)) = false := bne_eq_false_iff_eq.mpr c7
                clear c7
                have H' := Aside0.mk H
                clear H
                have p133 : 0 ≤ (x5_1 : Int) := of_decide_eq_true (by first | (with_reducible assumption) | assumption)
                have q133 : x5_1 < (l0.length : Int) := of_decide_eq_true (by first | (with_reducible assumption) | assumption)
                obtain ⟨ad133, e133, hx133_0⟩ := Kd.at_int HR0.out x5_1 p133 q133
                cases e133
                replace p133 := eq_true p133
                replace q133 := eq_true q133
                have p134 : 0 ≤ (x5_1 : Int) := of_decide_eq_true (by first | (with_reducible assumption) | assumption)
                have q134 : x5_1 < (l1.length : Int) := of_decide_eq_true (by first | (with_reducible assumption) | assumption)
                obtain ⟨ad134, e134, hx134_0⟩ := Kd.at_int HR1.out x5_1 p134 q134
                cases e134
                replace p134 := eq_true p134
                replace q134 := eq_true q134
                go_wp2
                repeat (go_quiet (fail); try go_wp2)
                go_roundg k1
                case measure => have := HK1.out; omega
                case rel => exact ⟨(wrap64 (x5_1 + 1)), (by first | rfl | (simp; done) | (simp [*]; done) | (simp [Int.tdiv_eq_ediv_of_nonneg]; done)), H', ⟨by have := HK1.out; omega⟩, by repeat (first | exact Drawn0.refl _ | apply Drawn0.step)⟩
              · rw [if_neg c7] at H
                have c7b0 : ((rd l0 x5_1) == (rd l1 x5_1)) = false := beq_eq_false_iff_ne.mpr c7
                have c7b1 : ((rd l0 x5_1) != (rd l1 x5_1)) = true := bne_iff_ne.mpr c7
                obtain rfl := Option.some.inj H
                have p133 : 0 ≤ (x5_1 : Int) := of_decide_eq_true (by first | (with_reducible assumption) | assumption)
                have q133 : x5_1 < (l0.length : Int) := of_decide_eq_true (by first | (with_reducible assumption) | assumption)
                obtain ⟨ad133, e133, hx133_0⟩ := Kd.at_int HR0.out x5_1 p133 q133
                cases e133
                replace p133 := eq_true p133
                replace q133 := eq_true q133
                have p134 : 0 ≤ (x5_1 : Int) := of_decide_eq_true (by first | (with_reducible assumption) | assumption)
                have q134 : x5_1 < (l1.length : Int) := of_decide_eq_true (by first | (with_reducible assumption) | assumption)
                obtain ⟨ad134, e134, hx134_0⟩ := Kd.at_int HR1.out x5_1 p134 q134
                cases e134
                replace p134 := eq_true p134
                replace q134 := eq_true q134
                go_wp2
                repeat (go_quiet (fail); try go_wp2)
                go_ret
                exact ⟨by first | rfl | (simp; done) | (simp [*]; done) | (simp [Int.tdiv_eq_ediv_of_nonneg]; done), by repeat (first | exact Drawn0.refl _ | apply Drawn0.step)⟩
            · rw [if_neg c6] at H
              exact absurd H (by simp)
          · rw [if_neg c5] at H
            exact absurd H (by simp)
        · rw [if_neg c4] at H
          have c4b0 : decide (x5_1 < (l0.length : Int)) = false := decide_eq_false c4
          clear c4
          obtain rfl := Option.some.inj H
          go_wp2
          repeat (go_quiet (fail); try go_wp2)
          go_ret
          exact ⟨by first | rfl | (simp; done) | (simp [*]; done) | (simp [Int.tdiv_eq_ediv_of_nonneg]; done), by repeat (first | exact Drawn0.refl _ | apply Drawn0.step)⟩
  · rw [if_neg c3] at H
    have c3b0 : ((l0.length : Int) == (l1.length : Int)) = false := beq_eq_false_iff_ne.mpr c3
    have c3b1 : ((l0.length : Int) != (l1.length : Int)) = true := bne_iff_ne.mpr c3
    have c3b2 : (l0.length == l1.length) = false := by first | simpa using c3 | (simp at c3 ⊢; omega)
    obtain rfl := Option.some.inj H
    go_enter Try.func24, Try.ntmps24
    go_wp2
    repeat (go_quiet (fail); try go_wp2)
    go_ret
    exact ⟨by first | rfl | (simp; done) | (simp [*]; done) | (simp [Int.tdiv_eq_ediv_of_nonneg]; done), by repeat (first | exact Drawn0.refl _ | apply Drawn0.step)⟩

/-! ### watchbilllaw6_known: function 9 -/
open Go.Proofs.YtjnhahdelipebaaH (Upd Rd)
def kP : List S52 := [⟨8, 3, 0, 0, []⟩, ⟨2, 2, 0, 0, []⟩, ⟨1, 4, 0, 0, []⟩, ⟨3, 2, 0, 0, []⟩, ⟨9, 0, 0, 0, []⟩, ⟨5, 1, 0, -1, []⟩]
def kQ : List S52 := [⟨2, 2, 0, 0, []⟩, ⟨5, 1, 0, -1, []⟩, ⟨3, 2, 0, 0, []⟩]
theorem R_of_blk6 {α : Type} {d : Kd α} {e : Nat} {w : World} {base g n : Nat} {ok : Nat → Prop} {xs : List α} {cs : Array Value} (hg : w.heap[g]? = some (.cells cs e (0, 0))) (hb : base ≤ g) (hok : ok g) (hn : n = xs.length) (hm : xs.length ≤ maxLen) (hr : Reps (d.M w base (fun k => ok k ∧ some k ≠ some g)) d.sz xs cs.toList) : d.R e w base ok (.slice (some ⟨g, 0, none⟩) n n) xs := by
  subst hn
  refine ⟨fun k hk => by simp [Value.ownBlock] at hk; exact hk ▸ hok, cs.toList, ⟨hr.1, .inr ⟨g, xs.length, cs, rfl, hb, hg, Nat.le_refl _, hm, by have := hr.1; simpa using this, by rw [List.take_of_length_le]; have := hr.1; omega⟩⟩, hr⟩
theorem six_ops (W : World) : Kd.C k52 (W.alloc (.cells #[.int .i64 8, .int .i64 3, .int .i64 0, .int .i64 0, .slice none 0 0, .int .i64 2, .int .i64 2, .int .i64 0, .int .i64 0, .slice none 0 0, .int .i64 1, .int .i64 4, .int .i64 0, .int .i64 0, .slice none 0 0, .int .i64 3, .int .i64 2, .int .i64 0, .int .i64 0, .slice none 0 0, .int .i64 9, .int .i64 0, .int .i64 0, .int .i64 0, .slice none 0 0, .int .i64 5, .int .i64 1, .int .i64 0, .int .i64 (-1), .slice none 0 0] 52)) (some ⟨W.heap.size, 0, none⟩) 6 kP := by
  have h := R_of_blk6 (d := k52) (e := 52) (w := W.alloc (.cells #[.int .i64 8, .int .i64 3, .int .i64 0, .int .i64 0, .slice none 0 0, .int .i64 2, .int .i64 2, .int .i64 0, .int .i64 0, .slice none 0 0, .int .i64 1, .int .i64 4, .int .i64 0, .int .i64 0, .slice none 0 0, .int .i64 3, .int .i64 2, .int .i64 0, .int .i64 0, .slice none 0 0, .int .i64 9, .int .i64 0, .int .i64 0, .int .i64 0, .slice none 0 0, .int .i64 5, .int .i64 1, .int .i64 0, .int .i64 (-1), .slice none 0 0] 52)) (base := 0) (g := W.heap.size) (n := 6) (ok := fun _ => True) (xs := kP) (heap_alloc_new W _) (Nat.zero_le _) trivial rfl (by unfold maxLen; simp [kP]) ⟨rfl, fun j q hj => by
    match j, hj with
    | 0, h => cases h; exact k52_mkM _ _ _ ⟨8, 3, 0, 0, []⟩ (Kd.R_nil _ _ _ _ _)
    | 1, h => cases h; exact k52_mkM _ _ _ ⟨2, 2, 0, 0, []⟩ (Kd.R_nil _ _ _ _ _)
    | 2, h => cases h; exact k52_mkM _ _ _ ⟨1, 4, 0, 0, []⟩ (Kd.R_nil _ _ _ _ _)
    | 3, h => cases h; exact k52_mkM _ _ _ ⟨3, 2, 0, 0, []⟩ (Kd.R_nil _ _ _ _ _)
    | 4, h => cases h; exact k52_mkM _ _ _ ⟨9, 0, 0, 0, []⟩ (Kd.R_nil _ _ _ _ _)
    | 5, h => cases h; exact k52_mkM _ _ _ ⟨5, 1, 0, -1, []⟩ (Kd.R_nil _ _ _ _ _)⟩
  exact (Kd.R_reads' h).2.2
theorem three_ops (W : World) : Kd.C k52 (W.alloc (.cells #[.int .i64 2, .int .i64 2, .int .i64 0, .int .i64 0, .slice none 0 0, .int .i64 5, .int .i64 1, .int .i64 0, .int .i64 (-1), .slice none 0 0, .int .i64 3, .int .i64 2, .int .i64 0, .int .i64 0, .slice none 0 0] 52)) (some ⟨W.heap.size, 0, none⟩) 3 kQ := by
  have h := R_of_blk6 (d := k52) (e := 52) (w := W.alloc (.cells #[.int .i64 2, .int .i64 2, .int .i64 0, .int .i64 0, .slice none 0 0, .int .i64 5, .int .i64 1, .int .i64 0, .int .i64 (-1), .slice none 0 0, .int .i64 3, .int .i64 2, .int .i64 0, .int .i64 0, .slice none 0 0] 52)) (base := 0) (g := W.heap.size) (n := 3) (ok := fun _ => True) (xs := kQ) (heap_alloc_new W _) (Nat.zero_le _) trivial rfl (by unfold maxLen; simp [kQ]) ⟨rfl, fun j q hj => by
    match j, hj with
    | 0, h => cases h; exact k52_mkM _ _ _ ⟨2, 2, 0, 0, []⟩ (Kd.R_nil _ _ _ _ _)
    | 1, h => cases h; exact k52_mkM _ _ _ ⟨5, 1, 0, -1, []⟩ (Kd.R_nil _ _ _ _ _)
    | 2, h => cases h; exact k52_mkM _ _ _ ⟨3, 2, 0, 0, []⟩ (Kd.R_nil _ _ _ _ _)⟩
  exact (Kd.R_reads' h).2.2
def kF : List S52 := [⟨2, 2, 0, 0, []⟩, ⟨1, 4, 0, 0, []⟩, ⟨3, 2, 0, 0, []⟩, ⟨2, 2, 0, 0, []⟩, ⟨1, 4, 0, 0, []⟩, ⟨3, 2, 0, 0, []⟩, ⟨2, 2, 0, 0, []⟩, ⟨1, 4, 0, 0, []⟩, ⟨3, 2, 0, 0, []⟩, ⟨5, 1, 0, -1, []⟩]
theorem k6_0 : prog_Check.f kP = some (0, 0) := by kernel_rfl
theorem k6_1 : prog_Check.f (kP.drop 1) = some (3, 11) := by kernel_rfl
theorem k6_2 : prog_Check.f (kP.take 2) = some (1, 11) := by kernel_rfl
theorem k6_3 : prog_Check.f kQ = some (1, 11) := by kernel_rfl
theorem k6_4 : prog_Flat.f 40 kP = some kF := by kernel_rfl
theorem k6_5 : prog_Match.f 20 kP 0 = some 4 := by kernel_rfl
theorem k6_6 : prog_Match.f 20 kP 4 = some 0 := by kernel_rfl
theorem k6_7 : prog_Match.f 20 kP 2 = some (-1) := by kernel_rfl
theorem k6_8 : prog_Cost.f 20 kP = some 12 := by kernel_rfl
theorem k6_9 : prog_Steps.f 20 kP = some 10 := by kernel_rfl
theorem k6_10 : prog_Waits.f kP = some true := by kernel_rfl
theorem k6_11 : prog_Waits.f (kP.take 5) = some false := by kernel_rfl
theorem k6_12 : prog_Section.f 60 kP 2 = some 4 := by kernel_rfl
theorem k6_13 : prog_Section.f 60 kP 1 = some 0 := by kernel_rfl
theorem k6_14 : prog_Locks.f 20 kP = some [2] := by kernel_rfl
theorem k6_15 : watchbilllaw1_Ints.f 20 [2] [2] = some true := by kernel_rfl
abbrev kO : Obj := (.cells #[.int .i64 8, .int .i64 3, .int .i64 0, .int .i64 0, .slice none 0 0, .int .i64 2, .int .i64 2, .int .i64 0, .int .i64 0, .slice none 0 0, .int .i64 1, .int .i64 4, .int .i64 0, .int .i64 0, .slice none 0 0, .int .i64 3, .int .i64 2, .int .i64 0, .int .i64 0, .slice none 0 0, .int .i64 9, .int .i64 0, .int .i64 0, .int .i64 0, .slice none 0 0, .int .i64 5, .int .i64 1, .int .i64 0, .int .i64 (-1), .slice none 0 0] 52)
/-- What is wanted of each world behind the row. -/
structure KAt (w W : World) : Prop where
  all : Kd.C k52 W (some ⟨w.heap.size, 0, none⟩) 6 kP
  drop1 : Kd.C k52 W (some ⟨w.heap.size, 5, none⟩) 5 (kP.drop 1)
  take2 : Kd.C k52 W (some ⟨w.heap.size, 0, none⟩) 2 (kP.take 2)
  take5 : Kd.C k52 W (some ⟨w.heap.size, 0, none⟩) 5 (kP.take 5)
  blk : W.heap[w.heap.size]? = some kO
  below : Below w.heap.size w W
theorem KAt.mk' {w W : World} (h : Below (w.alloc kO).heap.size (w.alloc kO) W) : KAt w W := by
  have a := Kd.C_below (six_ops w) h
  refine ⟨a, ?_, ?_, ?_, ?_, ?_⟩
  · have := Kd.C_drop (c := 6) (m := 1) (xs := kP) a (by decide) (by decide)
    exact this
  · exact Kd.C_take (m := 2) (xs := kP) a (by decide)
  · exact Kd.C_take (m := 5) (xs := kP) a (by decide)
  · have h1 := (Upd.of_below h).keep (heap_alloc_new w kO) (by simp)
    exact h1
  · exact below_then (below_alloc (Below.refl _ _) _) (by simp) h
def watchbilllaw6_known.f : Option Bool := some true
theorem below_alloc2 {w W : World} {o : Obj} (h : Below (w.alloc o).heap.size (w.alloc o) W) (o' : Obj) : Below (w.alloc o).heap.size (w.alloc o) (W.alloc o') := below_then h h.size ((Below.refl _ _).alloc (Nat.le_refl _) _)
theorem three_C (W : World) : Kd.C k52 (W.alloc (.cells #[.int .i64 2, .int .i64 2, .int .i64 0, .int .i64 0, .slice none 0 0, .int .i64 5, .int .i64 1, .int .i64 0, .int .i64 (-1), .slice none 0 0, .int .i64 3, .int .i64 2, .int .i64 0, .int .i64 0, .slice none 0 0] 52)) (some ⟨W.heap.size, 0, none⟩) 3 kQ := three_ops W
theorem one_int (W : World) (x : Int) : Kd.C (Kd.int .i64) (W.alloc (.cells #[.int .i64 x] 3)) (some ⟨W.heap.size, 0, none⟩) 1 [x] := by
  have h : (W.alloc (.cells #[.int .i64 x] 3)).ownsRow 0 3 1 (.slice (some ⟨W.heap.size, 0, none⟩) 1 1) 1 [.int .i64 x] := ⟨rfl, .inr ⟨W.heap.size, 1, _, rfl, Nat.zero_le _, heap_alloc_new W _, Nat.le_refl _, by unfold maxLen; omega, rfl, rfl⟩⟩
  obtain ⟨A, c, e, _, _, h4⟩ := own_C (xs := [x]) h
  cases e
  exact h4
set_option maxHeartbeats 16000000 in
set_option maxRecDepth 100000 in
theorem watchbilllaw6_known.calls (r : Bool) (w : World) (h : watchbilllaw6_known.f = some r) :
    Calls Try.prog 9 #[] w fun e w' => e = .returned (.bool r) ∧ Below w.heap.size w w' := by
  injection h with h
  subst h
  have HK := Lib.hid (fun W (hb : Below (w.alloc kO).heap.size (w.alloc kO) W) => KAt.mk' hb)
  have HB := Lib.hid (Below.refl (w.alloc kO).heap.size (w.alloc kO))
  obtain ⟨i, hi, hsz⟩ := Option.map_eq_some_iff.1 (show (Try.prog.info? 52).map (·.size) = some 5 by kernel_rfl)
  have s1 : ∀ W : World, (Instr.slice 25 (.slice (some ⟨w.heap.size, 0, none⟩) 6 6) (some (.int .i64 1)) none none).run Try.prog W = .ok (.slice (some ⟨w.heap.size, 5, none⟩) 5 5) W := cut_from 25 52 .i64 Try.underlying25 hi 5 hsz (some ⟨w.heap.size, 0, none⟩) 6 6 1 (by decide) (by decide)
  have s2 : ∀ W : World, (Instr.slice 25 (.slice (some ⟨w.heap.size, 0, none⟩) 6 6) none (some (.int .i64 2)) none).run Try.prog W = .ok (.slice (some ⟨w.heap.size, 0, none⟩) 2 6) W := cut_to 25 52 .i64 Try.underlying25 hi (some ⟨w.heap.size, 0, none⟩) 6 6 2 (by decide) (by decide) (by decide)
  have s3 : ∀ W : World, (Instr.slice 25 (.slice (some ⟨w.heap.size, 0, none⟩) 6 6) none (some (.int .i64 5)) none).run Try.prog W = .ok (.slice (some ⟨w.heap.size, 0, none⟩) 5 6) W := cut_to 25 52 .i64 Try.underlying25 hi (some ⟨w.heap.size, 0, none⟩) 6 6 5 (by decide) (by decide) (by decide)
  clear hi hsz
  go_enter Try.func9, Try.ntmps9
  go_wp2_with fail
  refine (prog_Check.calls _ _ kP 0 0 _ (HK.out _ HB.out).all (by decide) k6_0).mono ?_
  rintro e w1 ⟨rfl, hb1⟩
  replace HB := Lib.hid (below_then HB.out HB.out.size hb1)
  clear hb1
  go_wp2_with fail
  refine (prog_Check.calls _ _ (kP.drop 1) 3 11 _ (HK.out _ HB.out).drop1 (by decide) k6_1).mono ?_
  rintro e w2 ⟨rfl, hb1⟩
  replace HB := Lib.hid (below_then HB.out HB.out.size hb1)
  clear hb1
  go_wp2_with fail
  refine (prog_Check.calls _ _ (kP.take 2) 1 11 _ (HK.out _ HB.out).take2 (by decide) k6_2).mono ?_
  rintro e w3 ⟨rfl, hb1⟩
  replace HB := Lib.hid (below_then HB.out HB.out.size hb1)
  clear hb1
  have hc := blk_cell (HK.out _ HB.out).blk
  have c5 : w3.cell? ⟨w.heap.size, 5, none⟩ = some (.int .i64 2) := (hc 5).trans rfl
  have c6 : w3.cell? ⟨w.heap.size, 6, none⟩ = some (.int .i64 2) := (hc 6).trans rfl
  have c7 : w3.cell? ⟨w.heap.size, 7, none⟩ = some (.int .i64 0) := (hc 7).trans rfl
  have c8 : w3.cell? ⟨w.heap.size, 8, none⟩ = some (.int .i64 0) := (hc 8).trans rfl
  have c9 : w3.cell? ⟨w.heap.size, 9, none⟩ = some (.slice none 0 0) := (hc 9).trans rfl
  have c25 : w3.cell? ⟨w.heap.size, 25, none⟩ = some (.int .i64 5) := (hc 25).trans rfl
  have c26 : w3.cell? ⟨w.heap.size, 26, none⟩ = some (.int .i64 1) := (hc 26).trans rfl
  have c27 : w3.cell? ⟨w.heap.size, 27, none⟩ = some (.int .i64 0) := (hc 27).trans rfl
  have c28 : w3.cell? ⟨w.heap.size, 28, none⟩ = some (.int .i64 (-1)) := (hc 28).trans rfl
  have c29 : w3.cell? ⟨w.heap.size, 29, none⟩ = some (.slice none 0 0) := (hc 29).trans rfl
  have c15 : w3.cell? ⟨w.heap.size, 15, none⟩ = some (.int .i64 3) := (hc 15).trans rfl
  have c16 : w3.cell? ⟨w.heap.size, 16, none⟩ = some (.int .i64 2) := (hc 16).trans rfl
  have c17 : w3.cell? ⟨w.heap.size, 17, none⟩ = some (.int .i64 0) := (hc 17).trans rfl
  have c18 : w3.cell? ⟨w.heap.size, 18, none⟩ = some (.int .i64 0) := (hc 18).trans rfl
  have c19 : w3.cell? ⟨w.heap.size, 19, none⟩ = some (.slice none 0 0) := (hc 19).trans rfl
  clear hc
  go_upto_region 5 with fail
  go_region_held3 (fun w' => w'.cell? ⟨w.heap.size, 5, none⟩ = some (.int .i64 2) ∧ w'.cell? ⟨w.heap.size, 6, none⟩ = some (.int .i64 2) ∧ w'.cell? ⟨w.heap.size, 7, none⟩ = some (.int .i64 0) ∧ w'.cell? ⟨w.heap.size, 8, none⟩ = some (.int .i64 0) ∧ w'.cell? ⟨w.heap.size, 9, none⟩ = some (.slice none 0 0) ∧ w'.cell? ⟨w.heap.size, 25, none⟩ = some (.int .i64 5) ∧ w'.cell? ⟨w.heap.size, 26, none⟩ = some (.int .i64 1) ∧ w'.cell? ⟨w.heap.size, 27, none⟩ = some (.int .i64 0) ∧ w'.cell? ⟨w.heap.size, 28, none⟩ = some (.int .i64 (-1)) ∧ w'.cell? ⟨w.heap.size, 29, none⟩ = some (.slice none 0 0) ∧ w'.cell? ⟨w.heap.size, 15, none⟩ = some (.int .i64 3) ∧ w'.cell? ⟨w.heap.size, 16, none⟩ = some (.int .i64 2) ∧ w'.cell? ⟨w.heap.size, 17, none⟩ = some (.int .i64 0) ∧ w'.cell? ⟨w.heap.size, 18, none⟩ = some (.int .i64 0) ∧ w'.cell? ⟨w.heap.size, 19, none⟩ = some (.slice none 0 0)) (go_keep) (first | (go_at_call 12; refine (prog_Check.calls _ _ kQ 1 11 _ (Kd.C_drew (three_C w3)) (by decide) k6_3).mono ?_; rintro e w4 ⟨rfl, hb1⟩; replace HB := Lib.hid (below_then (below_drew (below_alloc2 HB.out _)) (below_drew (below_alloc2 HB.out _)).size hb1); clear hb1; clear c5; clear c6; clear c7; clear c8; clear c9; clear c25; clear c26; clear c27; clear c28; clear c29; clear c15; clear c16; clear c17; clear c18; clear c19; have hc := blk_cell (HK.out _ HB.out).blk; have c5 : w4.cell? ⟨w.heap.size, 5, none⟩ = some (.int .i64 2) := (hc 5).trans rfl; have c6 : w4.cell? ⟨w.heap.size, 6, none⟩ = some (.int .i64 2) := (hc 6).trans rfl; have c7 : w4.cell? ⟨w.heap.size, 7, none⟩ = some (.int .i64 0) := (hc 7).trans rfl; have c8 : w4.cell? ⟨w.heap.size, 8, none⟩ = some (.int .i64 0) := (hc 8).trans rfl; have c9 : w4.cell? ⟨w.heap.size, 9, none⟩ = some (.slice none 0 0) := (hc 9).trans rfl; have c25 : w4.cell? ⟨w.heap.size, 25, none⟩ = some (.int .i64 5) := (hc 25).trans rfl; have c26 : w4.cell? ⟨w.heap.size, 26, none⟩ = some (.int .i64 1) := (hc 26).trans rfl; have c27 : w4.cell? ⟨w.heap.size, 27, none⟩ = some (.int .i64 0) := (hc 27).trans rfl; have c28 : w4.cell? ⟨w.heap.size, 28, none⟩ = some (.int .i64 (-1)) := (hc 28).trans rfl; have c29 : w4.cell? ⟨w.heap.size, 29, none⟩ = some (.slice none 0 0) := (hc 29).trans rfl; have c15 : w4.cell? ⟨w.heap.size, 15, none⟩ = some (.int .i64 3) := (hc 15).trans rfl; have c16 : w4.cell? ⟨w.heap.size, 16, none⟩ = some (.int .i64 2) := (hc 16).trans rfl; have c17 : w4.cell? ⟨w.heap.size, 17, none⟩ = some (.int .i64 0) := (hc 17).trans rfl; have c18 : w4.cell? ⟨w.heap.size, 18, none⟩ = some (.int .i64 0) := (hc 18).trans rfl; have c19 : w4.cell? ⟨w.heap.size, 19, none⟩ = some (.slice none 0 0) := (hc 19).trans rfl; clear hc))
  clear c5 c6 c7 c8 c9 c25 c26 c27 c28 c29 c15 c16 c17 c18 c19
  go_wp2_with fail
  refine (prog_Flat.calls 40 (fun k_ => k_ < w4.heap.size) _ _ kP kF _ (Kd.V_mk (by decide) (Kd.C_F k52_heap (HK.out _ HB.out).all)) k6_4).mono ?_
  rintro e w5 ⟨v, rfl, hN, hb1⟩
  obtain ⟨A5, c5, rfl⟩ := Kd.N_slice hN
  replace HB := Lib.hid (below_then HB.out HB.out.size hb1)
  clear hb1 hN
  go_upto_region 7 with fail
  simp only [List.append_eq, List.cons_append, List.nil_append]
  go_wp2_with fail
  refine (prog_Match.calls 20 _ _ kP 0 4 _ (HK.out _ HB.out).all (by decide) k6_5).mono ?_
  rintro e w6 ⟨rfl, hb1⟩
  replace HB := Lib.hid (below_then HB.out HB.out.size hb1)
  clear hb1
  go_wp2_with fail
  refine (prog_Match.calls 20 _ _ kP 4 0 _ (HK.out _ HB.out).all (by decide) k6_6).mono ?_
  rintro e w7 ⟨rfl, hb1⟩
  replace HB := Lib.hid (below_then HB.out HB.out.size hb1)
  clear hb1
  go_wp2_with fail
  refine (prog_Match.calls 20 _ _ kP 2 (-1) _ (HK.out _ HB.out).all (by decide) k6_7).mono ?_
  rintro e w8 ⟨rfl, hb1⟩
  replace HB := Lib.hid (below_then HB.out HB.out.size hb1)
  clear hb1
  go_wp2_with fail
  refine (prog_Cost.calls 20 _ _ kP 12 _ (HK.out _ HB.out).all (by decide) k6_8).mono ?_
  rintro e w9 ⟨rfl, hb1⟩
  replace HB := Lib.hid (below_then HB.out HB.out.size hb1)
  clear hb1
  go_wp2_with fail
  refine (prog_Steps.calls 20 _ _ kP 10 _ (HK.out _ HB.out).all (by decide) k6_9).mono ?_
  rintro e w10 ⟨rfl, hb1⟩
  replace HB := Lib.hid (below_then HB.out HB.out.size hb1)
  clear hb1
  go_wp2_with fail
  refine (prog_Waits.calls _ _ kP true _ (HK.out _ HB.out).all (by decide) k6_10).mono ?_
  rintro e w11 ⟨rfl, hb1⟩
  replace HB := Lib.hid (below_then HB.out HB.out.size hb1)
  clear hb1
  go_wp2_with fail
  refine (prog_Waits.calls _ _ (kP.take 5) false _ (HK.out _ HB.out).take5 (by decide) k6_11).mono ?_
  rintro e w12 ⟨rfl, hb1⟩
  replace HB := Lib.hid (below_then HB.out HB.out.size hb1)
  clear hb1
  go_wp2_with fail
  refine (prog_Section.calls 60 _ _ kP 2 4 _ (HK.out _ HB.out).all (by decide) k6_12).mono ?_
  rintro e w13 ⟨rfl, hb1⟩
  replace HB := Lib.hid (below_then HB.out HB.out.size hb1)
  clear hb1
  go_wp2_with fail
  refine (prog_Section.calls 60 _ _ kP 1 0 _ (HK.out _ HB.out).all (by decide) k6_13).mono ?_
  rintro e w14 ⟨rfl, hb1⟩
  replace HB := Lib.hid (below_then HB.out HB.out.size hb1)
  clear hb1
  go_wp2_with fail
  refine (prog_Locks.calls 20 _ _ kP [2] _ (HK.out _ HB.out).all (by decide) k6_14).mono ?_
  rintro e w15 ⟨v, rfl, hR1, hb1⟩
  obtain ⟨A6, c6, rfl⟩ := Kd.R_slice hR1
  obtain ⟨-, q1, q2⟩ := Kd.R_reads' hR1
  replace HB := Lib.hid (below_then HB.out HB.out.size hb1)
  clear hb1 hR1
  go_wp2_with fail
  refine (watchbilllaw1_Ints.calls 20 _ _ [2] _ _ [2] true _ (Kd.C_alloc q2 _) q1 (one_int _ 2) (by decide) k6_15).mono ?_
  rintro e w16 ⟨rfl, hd⟩
  obtain ⟨nd, rfl⟩ := hd.out
  go_wp2
  go_ret
  exact ⟨rfl, (HK.out _ (pw_below_drewN (below_alloc2 HB.out _) nd)).below⟩


/-! ### watchbilllaw6_ProgOrder: function 7 -/
def watchbilllaw6_ProgOrder.l0 : Nat → Int → List (S52) → Int → Int → Option (Bool)
  | 0, _, _, _, _ => none
  | k + 1, x0, x5, x6, x7 => if x7 < x6 then (if x5.length < 2513169434916 then (watchbilllaw6_ProgOrder.l0 k x0 (x5 ++ [(⟨1, 1, 0, 0, ([] : List (S84))⟩ : S52)]) x6 (wrap64 (x7 + 1))) else (none)) else (if (Int.tmod x0 6) = 0 then (if x5.length < 2513169434916 then ((prog_Check.f (x5 ++ [(⟨9, 0, 0, 0, ([] : List (S84))⟩ : S52)])).bind fun bt142 => (if bt142.2 = 11 then (some (bt142.1 == x6)) else (some false))) else (none)) else (if (Int.tmod x0 6) = 1 then ((some (([(⟨8, 2, 0, 0, ([] : List (S84))⟩ : S52), (⟨1, 1, 0, 0, ([] : List (S84))⟩ : S52)] : List (S52)) : List (S52))).bind fun y144 => (if x5.length + y144.length < 2513169434916 then ((prog_Check.f (x5 ++ y144)).bind fun bt150 => (if bt150.2 = 11 then (some (bt150.1 == (wrap64 (x6 + 1)))) else (some false))) else (none))) else (if (Int.tmod x0 6) = 2 then (if x5.length < 2513169434916 then ((prog_Check.f (x5 ++ [(⟨3, 1, 0, 0, ([] : List (S84))⟩ : S52)])).bind fun bt155 => (if bt155.2 = 11 then (some (bt155.1 == x6)) else (some false))) else (none)) else (if (Int.tmod x0 6) = 3 then ((some (([(⟨2, 1, 0, 0, ([] : List (S84))⟩ : S52), (⟨2, 1, 0, 0, ([] : List (S84))⟩ : S52)] : List (S52)) : List (S52))).bind fun y157 => (if x5.length + y157.length < 2513169434916 then ((prog_Check.f (x5 ++ y157)).bind fun bt163 => (if bt163.2 = 11 then (some (bt163.1 == (wrap64 (x6 + 1)))) else (some false))) else (none))) else (if (Int.tmod x0 6) = 4 then ((some (([(⟨2, 1, 0, 0, ([] : List (S84))⟩ : S52), (⟨5, 0, 0, 3, ([] : List (S84))⟩ : S52)] : List (S52)) : List (S52))).bind fun y165 => (if x5.length + y165.length < 2513169434916 then ((prog_Check.f (x5 ++ y165)).bind fun bt171 => (if bt171.2 = 11 then (some (bt171.1 == (wrap64 (x6 + 1)))) else (some false))) else (none))) else (if (Int.tmod x0 6) = 5 then ((some (([(⟨8, 2, 0, 0, ([] : List (S84))⟩ : S52), (⟨2, 1, 0, 0, ([] : List (S84))⟩ : S52), (⟨9, 0, 0, 0, ([] : List (S84))⟩ : S52), (⟨3, 1, 0, 0, ([] : List (S84))⟩ : S52)] : List (S52)) : List (S52))).bind fun y173 => (if x5.length + y173.length < 2513169434916 then ((prog_Check.f (x5 ++ y173)).bind fun bt179 => (if bt179.2 = 11 then (some (bt179.1 == (wrap64 (x6 + 2)))) else (some false))) else (none))) else ((prog_Check.f x5).bind fun bt181 => (if bt181.2 = 11 then (some (bt181.1 == x6)) else (some false)))))))))
def watchbilllaw6_ProgOrder.f (k : Nat) (a0 : Int) (a1 : Int) : Option (Bool) := (watchbilllaw6_known.f).bind fun t135 => (if t135 = true then (watchbilllaw6_ProgOrder.l0 k a0 ([] : List (S52)) (wrap64 (Int.tmod a1 20)) 0) else (some false))
theorem watchbilllaw6_ProgOrder.mono_l : ∀ k, (∀ y0 y1 y2 y3, LeO (watchbilllaw6_ProgOrder.l0 k y0 y1 y2 y3) (watchbilllaw6_ProgOrder.l0 (k + 1) y0 y1 y2 y3))
  | 0 => fun _ _ _ _ r h => by simp [watchbilllaw6_ProgOrder.l0] at h
  | k + 1 => by
    have ih0 := watchbilllaw6_ProgOrder.mono_l k
    · intro y0 y1 y2 y3
      unfold watchbilllaw6_ProgOrder.l0
      repeat' first
      | (with_reducible exact ih0 _ _ _ _)
      | (with_reducible exact LeO.refl _)
      | (with_reducible exact LeO.none _)
      | (with_reducible refine LeO.ite ?_ ?_)
      | (with_reducible refine LeO.bind ?_ (fun _ => ?_))
      | exact ih0 _ _ _ _
      | exact LeO.none _
      | refine LeO.ite ?_ ?_
      | refine LeO.bind ?_ (fun _ => ?_)
theorem watchbilllaw6_ProgOrder.mono : ∀ a0 a1 k, LeO (watchbilllaw6_ProgOrder.f k a0 a1) (watchbilllaw6_ProgOrder.f (k + 1) a0 a1) := by
  intro a0 a1 k
  have ih0 := watchbilllaw6_ProgOrder.mono_l k
  unfold watchbilllaw6_ProgOrder.f
  repeat' first
      | (with_reducible exact ih0 _ _ _ _)
      | (with_reducible exact LeO.refl _)
      | (with_reducible exact LeO.none _)
      | (with_reducible refine LeO.ite ?_ ?_)
      | (with_reducible refine LeO.bind ?_ (fun _ => ?_))
      | exact ih0 _ _ _ _
      | exact LeO.none _
      | refine LeO.ite ?_ ?_
      | refine LeO.bind ?_ (fun _ => ?_)
set_option maxHeartbeats 8000000 in
set_option maxRecDepth 100000 in
theorem watchbilllaw6_ProgOrder.calls (k : Nat) (a0 : Int) (a1 : Int) (r : Bool) (w : World) (h : watchbilllaw6_ProgOrder.f k a0 a1 = some r) :
    Calls Try.prog 7 #[.int .u8 a0, .int .u8 a1] w fun e w' => e = .returned (.bool r) ∧ Below w.heap.size w w' := by
  have hu52 := Try.underlying52
  have HB := Aside0.mk (Below.refl w.heap.size w)
  have H : ((watchbilllaw6_known.f).bind fun t135 => (if t135 = true then (watchbilllaw6_ProgOrder.l0 k a0 ([] : List (S52)) (wrap64 (Int.tmod a1 20)) 0) else (some false))) = some r := h
  clear h
  replace H := Option.bind_eq_some_iff.mp H
  obtain ⟨t135, A30, H⟩ := H
  replace H : (if t135 = true then (watchbilllaw6_ProgOrder.l0 k a0 ([] : List (S52)) (wrap64 (Int.tmod a1 20)) 0) else (some false)) = some r := H
  have A3 := Aside0.mk A30
  clear A30
  by_cases c4 : t135 = true
  · subst c4
    have H1 : (watchbilllaw6_ProgOrder.l0 k a0 ([] : List (S52)) (wrap64 (Int.tmod a1 20)) 0) = some r := by rw [if_pos rfl] at H; exact H
    clear H
    have H := H1
    clear H1
    have H' := Aside0.mk H
    clear H
    go_enter Try.func7, Try.ntmps7
    go_wp2_with (first | ((with_reducible refine gate_callee (f := 9) rfl ?_); refine goesL_ (some 11) rfl rfl Try.func9 (by kernel_rfl) rfl #[] rfl (by (try simp only [List.map_toArray, List.map_cons, List.map_nil]); first | done | rfl | (simp only [List.length_drop, List.length_take]; rfl)) ?_; (with_reducible refine (watchbilllaw6_known.calls  true _ A3.out).mono ?_); rintro e w5 ⟨rfl, hb⟩; refine ⟨_, rfl, ?_⟩; have n0_ := Aside0.mk (below_step (by repeat (first | (with_reducible first | exact HB.out | apply below_alloc | apply pw_below_drewN | apply below_drew1) | exact HB.out)) hb); clear HB; have HB := n0_; clear n0_; (try clear hb); (try clear hb2); (try clear hk); (try clear hi)))
    go_loopg [5, 7] k (fun kq v5 v7 w' => ∃ (x5_1 : List (S52)) (x7_1 : Int), v7 = .int .i64 x7_1 ∧ Aside0 (watchbilllaw6_ProgOrder.l0 kq a0 x5_1 (wrap64 (Int.tmod a1 20)) x7_1 = some r) ∧ Aside0 (kq ≤ k) ∧ Aside0 (Kd.N k52 52 w' w.heap.size (fun _ => True) v5 x5_1) ∧ Aside0 (Below w.heap.size w w'))
    case atStart => exact ⟨(([] : List (S52))), (0), (by first | rfl | (simp; done) | (simp [*]; done) | (simp [Int.tdiv_eq_ediv_of_nonneg]; done)), H', ⟨Nat.le_refl _⟩, ⟨by first | exact Kd.S_nil _ _ _ _ _ | exact Kd.N_nil _ _ _ _ _ | exact Kd.V_nil _ _ _ _ _ | exact Kd.Q_nil _ _ _ _ _ | exact Kd.R_nil _ _ _ _ _⟩, ⟨by repeat (first | (with_reducible first | exact HB.out | apply below_alloc | apply pw_below_drewN | apply below_drew1) | exact HB.out)⟩⟩
    case round =>
      clear H'
      try clear p2
      try clear c4
      obtain ⟨x5_1, x7_1, rfl, HA, HK1, HO_5, HB⟩ := hrel
      cases gk with
      | zero => exact absurd HA.out (by simp [watchbilllaw6_ProgOrder.l0])
      | succ k1 =>
        have H := HA.out
        clear HA
        simp only [watchbilllaw6_ProgOrder.l0] at H
        by_cases c6 : x7_1 < (wrap64 (Int.tmod a1 20))
        · rw [if_pos c6] at H
          have c6b0 : decide (x7_1 < (wrap64 (Int.tmod a1 20))) = true := decide_eq_true c6
          clear c6
          by_cases c7 : x5_1.length < 2513169434916
          · rw [if_pos c7] at H
            have LMc7 := Aside0.mk c7
            clear c7
            obtain ⟨y136, hy136⟩ : ∃ y_ : List (S52), y_ = (x5_1 ++ [(⟨1, 1, 0, 0, ([] : List (S84))⟩ : S52)]) := ⟨_, rfl⟩
            replace H : (watchbilllaw6_ProgOrder.l0 k1 a0 y136 (wrap64 (Int.tmod a1 20)) (wrap64 (x7_1 + 1))) = some r := by first | (rw [hy136]; with_reducible exact H) | (have H2_ := (Option.bind_some _ _).symm.trans H; rw [hy136]; with_reducible exact H2_) | (have H2_ := (Option.bind_some _ _).symm.trans H; with_reducible exact H2_) | with_reducible exact H | (rw [hy136]; exact H) | exact H
            have Ny136 := Aside0.mk hy136
            clear hy136
            have H' := Aside0.mk H
            clear H
            go_wp2_with (first | ((with_reducible refine gate_builtin (b := .append) (xs := #[.tmp 21, .tmp 23]) rfl ?_); at_builtin; refine Kd.N_append k52 (w0 := w) w.heap.size rfl (.tmp 21) (.tmp 23) 25 52 (.agg #[(.int .i64 0), (.int .i64 0), (.int .i64 0), (.int .i64 0), (.slice none 0 0)]) 56 rfl Try.underlying25 info52 rfl (by decide) (by omega) u5 x5_1 (⟨1, 1, 0, 0, ([] : List (S84))⟩ : S52) [.int .i64 1, .int .i64 1, .int .i64 0, .int .i64 0, .slice none 0 0] (fun _ => True) (fun k_ => ((fun _ => True)) k_ ∧ some k_ ≠ (u5 : Value).ownBlock) rfl rfl ?aP (fun _ hk => hk) ?aF ?aO ?aB ?aS ?aL ?_; (case aP => exact (k52_mkF _ _ (⟨1, 1, 0, 0, ([] : List (S84))⟩ : S52) (Nat.le_refl _) (Kd.F_nil _ _ _))); (case aB => exact (by repeat (first | (with_reducible first | exact HB.out | apply below_alloc | apply pw_below_drewN | apply below_drew1) | exact HB.out))); (case aF => exact (fun _ _ => trivial)); (case aO => exact (by (with_reducible repeat (first | apply Kd.N_alloc | apply Kd.N_drewN | apply Kd.N_drew)); exact HO_5.out)); (case aS => exact (below_size (by repeat (first | (with_reducible first | exact HB.out | apply below_alloc | apply pw_below_drewN | apply below_drew1) | exact HB.out)))); (case aL => have := LMc7.out; omega); intro v137 w8 ho hb hg hat; rw [← Ny136.out] at ho; have n0_ := Aside0.mk (hb); have n1_ := Aside0.mk (ho); clear HB; clear HO_5; have HB := n0_; have HO138 := n1_; clear n0_ n1_; clear ho hb hg hat))
            go_roundg k1
            case measure => have := HK1.out; omega
            case rel => exact ⟨(y136), (wrap64 (x7_1 + 1)), (by first | rfl | (simp; done) | (simp [*]; done) | (simp [Int.tdiv_eq_ediv_of_nonneg]; done)), H', ⟨by have := HK1.out; omega⟩, ⟨by (with_reducible repeat (first | apply Kd.N_alloc | apply Kd.N_drewN | apply Kd.N_drew)); exact HO138.out⟩, ⟨by repeat (first | (with_reducible first | exact HB.out | apply below_alloc | apply pw_below_drewN | apply below_drew1) | exact HB.out)⟩⟩
          · rw [if_neg c7] at H
            exact absurd H (by simp)
        · rw [if_neg c6] at H
          have c6b0 : decide (x7_1 < (wrap64 (Int.tmod a1 20))) = false := decide_eq_false c6
          clear c6
          by_cases c9 : (Int.tmod a0 6) = 0
          · rw [if_pos c9] at H
            have c9b0 : ((Int.tmod a0 6) == 0) = true := beq_iff_eq.mpr c9
            have c9b1 : ((Int.tmod a0 6) != 0) = false := bne_eq_false_iff_eq.mpr c9
            clear c9
            by_cases c10 : x5_1.length < 2513169434916
            · rw [if_pos c10] at H
              have LMc10 := Aside0.mk c10
              clear c10
              obtain ⟨y139, hy139⟩ : ∃ y_ : List (S52), y_ = (x5_1 ++ [(⟨9, 0, 0, 0, ([] : List (S84))⟩ : S52)]) := ⟨_, rfl⟩
              replace H : ((prog_Check.f y139).bind fun bt142 => (if bt142.2 = 11 then (some (bt142.1 == (wrap64 (Int.tmod a1 20)))) else (some false))) = some r := by first | (rw [hy139]; with_reducible exact H) | (have H2_ := (Option.bind_some _ _).symm.trans H; rw [hy139]; with_reducible exact H2_) | (have H2_ := (Option.bind_some _ _).symm.trans H; with_reducible exact H2_) | with_reducible exact H | (rw [hy139]; exact H) | exact H
              have Ny139 := Aside0.mk hy139
              clear hy139
              replace H := Option.bind_eq_some_iff.mp H
              obtain ⟨⟨t142, t143⟩, A110, H⟩ := H
              replace H : (if t143 = 11 then (some (t142 == (wrap64 (Int.tmod a1 20)))) else (some false)) = some r := H
              have A11 := Aside0.mk A110
              clear A110
              by_cases c12 : t143 = 11
              · rw [if_pos c12] at H
                have c12b0 : (t143 == 11) = true := beq_iff_eq.mpr c12
                have c12b1 : (t143 != 11) = false := bne_eq_false_iff_eq.mpr c12
                clear c12
                obtain rfl := Option.some.inj H
                go_wp2_with (first | ((with_reducible refine gate_builtin (b := .append) (xs := #[.tmp 30, .tmp 32]) rfl ?_); at_builtin; refine Kd.N_append k52 (w0 := w) w.heap.size rfl (.tmp 30) (.tmp 32) 25 52 (.agg #[(.int .i64 0), (.int .i64 0), (.int .i64 0), (.int .i64 0), (.slice none 0 0)]) 56 rfl Try.underlying25 info52 rfl (by decide) (by omega) u5 x5_1 (⟨9, 0, 0, 0, ([] : List (S84))⟩ : S52) [.int .i64 9, .int .i64 0, .int .i64 0, .int .i64 0, .slice none 0 0] (fun _ => True) (fun k_ => ((fun _ => True)) k_ ∧ some k_ ≠ (u5 : Value).ownBlock) rfl rfl ?aP (fun _ hk => hk) ?aF ?aO ?aB ?aS ?aL ?_; (case aP => exact (k52_mkF _ _ (⟨9, 0, 0, 0, ([] : List (S84))⟩ : S52) (Nat.le_refl _) (Kd.F_nil _ _ _))); (case aB => exact (by repeat (first | (with_reducible first | exact HB.out | apply below_alloc | apply pw_below_drewN | apply below_drew1) | exact HB.out))); (case aF => exact (fun _ _ => trivial)); (case aO => exact (by (with_reducible repeat (first | apply Kd.N_alloc | apply Kd.N_drewN | apply Kd.N_drew)); exact HO_5.out)); (case aS => exact (below_size (by repeat (first | (with_reducible first | exact HB.out | apply below_alloc | apply pw_below_drewN | apply below_drew1) | exact HB.out)))); (case aL => have := LMc10.out; omega); intro v140 w13 ho hb hg hat; rw [← Ny139.out] at ho; have n0_ := Aside0.mk (hb); have n1_ := Aside0.mk (ho); clear HB; clear HO_5; have HB := n0_; have HO141 := n1_; clear n0_ n1_; clear ho hb hg hat; obtain ⟨Ao14, co14, eo14⟩ := Kd.N_slice HO141.out; subst eo14) | ((with_reducible refine gate_callee (f := 12) rfl ?_); refine goesL_ (some 80) rfl rfl Try.func12 (by kernel_rfl) rfl #[.slice Ao14 y139.length co14] rfl (by (try simp only [List.map_toArray, List.map_cons, List.map_nil]); first | done | rfl | (simp only [List.length_drop, List.length_take]; rfl)) ?_; (with_reducible refine (prog_Check.calls _ _ y139 t142 t143 _ ?side1 ?side2 A11.out).mono ?_); (case side1 => repeat (first | exact (Kd.N_reads' HO141.out).2.2 | (with_reducible refine Kd.C_alloc ?_ _) | (with_reducible refine Kd.C_drewN ?_ _) | (with_reducible refine Kd.C_drew ?_))); (case side2 => exact (Kd.N_reads' HO141.out).2.1); rintro e w15 ⟨rfl, hb⟩; refine ⟨_, rfl, ?_⟩; have n0_ := Aside0.mk (Kd.N_below (by (with_reducible repeat (first | apply Kd.N_alloc | apply Kd.N_drewN | apply Kd.N_drew)); exact HO141.out) hb); have n1_ := Aside0.mk (below_step (by repeat (first | (with_reducible first | exact HB.out | apply below_alloc | apply pw_below_drewN | apply below_drew1) | exact HB.out)) hb); clear HO141; clear HB; have HO141 := n0_; have HB := n1_; clear n0_ n1_; (try clear hb); (try clear hb2); (try clear hk); (try clear hi)))
                go_ret
                exact ⟨by first | rfl | (simp [errW_none, errW_some] <;> rfl) | (simp [*, errW_none, errW_some] <;> rfl), by repeat (first | (with_reducible first | exact HB.out | apply below_alloc | apply pw_below_drewN | apply below_drew1) | exact HB.out)⟩
              · rw [if_neg c12] at H
                have c12b0 : (t143 == 11) = false := beq_eq_false_iff_ne.mpr c12
                have c12b1 : (t143 != 11) = true := bne_iff_ne.mpr c12
                obtain rfl := Option.some.inj H
                go_wp2_with (first | ((with_reducible refine gate_builtin (b := .append) (xs := #[.tmp 30, .tmp 32]) rfl ?_); at_builtin; refine Kd.N_append k52 (w0 := w) w.heap.size rfl (.tmp 30) (.tmp 32) 25 52 (.agg #[(.int .i64 0), (.int .i64 0), (.int .i64 0), (.int .i64 0), (.slice none 0 0)]) 56 rfl Try.underlying25 info52 rfl (by decide) (by omega) u5 x5_1 (⟨9, 0, 0, 0, ([] : List (S84))⟩ : S52) [.int .i64 9, .int .i64 0, .int .i64 0, .int .i64 0, .slice none 0 0] (fun _ => True) (fun k_ => ((fun _ => True)) k_ ∧ some k_ ≠ (u5 : Value).ownBlock) rfl rfl ?aP (fun _ hk => hk) ?aF ?aO ?aB ?aS ?aL ?_; (case aP => exact (k52_mkF _ _ (⟨9, 0, 0, 0, ([] : List (S84))⟩ : S52) (Nat.le_refl _) (Kd.F_nil _ _ _))); (case aB => exact (by repeat (first | (with_reducible first | exact HB.out | apply below_alloc | apply pw_below_drewN | apply below_drew1) | exact HB.out))); (case aF => exact (fun _ _ => trivial)); (case aO => exact (by (with_reducible repeat (first | apply Kd.N_alloc | apply Kd.N_drewN | apply Kd.N_drew)); exact HO_5.out)); (case aS => exact (below_size (by repeat (first | (with_reducible first | exact HB.out | apply below_alloc | apply pw_below_drewN | apply below_drew1) | exact HB.out)))); (case aL => have := LMc10.out; omega); intro v140 w16 ho hb hg hat; rw [← Ny139.out] at ho; have n0_ := Aside0.mk (hb); have n1_ := Aside0.mk (ho); clear HB; clear HO_5; have HB := n0_; have HO141 := n1_; clear n0_ n1_; clear ho hb hg hat; obtain ⟨Ao17, co17, eo17⟩ := Kd.N_slice HO141.out; subst eo17) | ((with_reducible refine gate_callee (f := 12) rfl ?_); refine goesL_ (some 80) rfl rfl Try.func12 (by kernel_rfl) rfl #[.slice Ao17 y139.length co17] rfl (by (try simp only [List.map_toArray, List.map_cons, List.map_nil]); first | done | rfl | (simp only [List.length_drop, List.length_take]; rfl)) ?_; (with_reducible refine (prog_Check.calls _ _ y139 t142 t143 _ ?side1 ?side2 A11.out).mono ?_); (case side1 => repeat (first | exact (Kd.N_reads' HO141.out).2.2 | (with_reducible refine Kd.C_alloc ?_ _) | (with_reducible refine Kd.C_drewN ?_ _) | (with_reducible refine Kd.C_drew ?_))); (case side2 => exact (Kd.N_reads' HO141.out).2.1); rintro e w18 ⟨rfl, hb⟩; refine ⟨_, rfl, ?_⟩; have n0_ := Aside0.mk (Kd.N_below (by (with_reducible repeat (first | apply Kd.N_alloc | apply Kd.N_drewN | apply Kd.N_drew)); exact HO141.out) hb); have n1_ := Aside0.mk (below_step (by repeat (first | (with_reducible first | exact HB.out | apply below_alloc | apply pw_below_drewN | apply below_drew1) | exact HB.out)) hb); clear HO141; clear HB; have HO141 := n0_; have HB := n1_; clear n0_ n1_; (try clear hb); (try clear hb2); (try clear hk); (try clear hi)))
                go_ret
                exact ⟨by first | rfl | (simp [errW_none, errW_some] <;> rfl) | (simp [*, errW_none, errW_some] <;> rfl), by repeat (first | (with_reducible first | exact HB.out | apply below_alloc | apply pw_below_drewN | apply below_drew1) | exact HB.out)⟩
            · rw [if_neg c10] at H
              exact absurd H (by simp)
          · rw [if_neg c9] at H
            have c9b0 : ((Int.tmod a0 6) == 0) = false := beq_eq_false_iff_ne.mpr c9
            have c9b1 : ((Int.tmod a0 6) != 0) = true := bne_iff_ne.mpr c9
            by_cases c19 : (Int.tmod a0 6) = 1
            · rw [if_pos c19] at H
              have c19b0 : ((Int.tmod a0 6) == 1) = true := beq_iff_eq.mpr c19
              have c19b1 : ((Int.tmod a0 6) != 1) = false := bne_eq_false_iff_eq.mpr c19
              clear c19
              obtain ⟨y144, hy144⟩ : ∃ y_ : List (S52), y_ = (([(⟨8, 2, 0, 0, ([] : List (S84))⟩ : S52), (⟨1, 1, 0, 0, ([] : List (S84))⟩ : S52)] : List (S52))) := ⟨_, rfl⟩
              replace H : (if x5_1.length + y144.length < 2513169434916 then ((prog_Check.f (x5_1 ++ y144)).bind fun bt150 => (if bt150.2 = 11 then (some (bt150.1 == (wrap64 ((wrap64 (Int.tmod a1 20)) + 1)))) else (some false))) else (none)) = some r := by first | (rw [hy144]; with_reducible exact H) | (have H2_ := (Option.bind_some _ _).symm.trans H; rw [hy144]; with_reducible exact H2_) | (have H2_ := (Option.bind_some _ _).symm.trans H; with_reducible exact H2_) | with_reducible exact H | (rw [hy144]; exact H) | exact H
              have Ny144 := Aside0.mk hy144
              clear hy144
              by_cases c20 : x5_1.length + y144.length < 2513169434916
              · rw [if_pos c20] at H
                have LMc20 := Aside0.mk c20
                clear c20
                obtain ⟨y147, hy147⟩ : ∃ y_ : List (S52), y_ = (x5_1 ++ y144) := ⟨_, rfl⟩
                replace H : ((prog_Check.f y147).bind fun bt150 => (if bt150.2 = 11 then (some (bt150.1 == (wrap64 ((wrap64 (Int.tmod a1 20)) + 1)))) else (some false))) = some r := by first | (rw [hy147]; with_reducible exact H) | (have H2_ := (Option.bind_some _ _).symm.trans H; rw [hy147]; with_reducible exact H2_) | (have H2_ := (Option.bind_some _ _).symm.trans H; with_reducible exact H2_) | with_reducible exact H | (rw [hy147]; exact H) | exact H
                have Ny147 := Aside0.mk hy147
                clear hy147
                replace H := Option.bind_eq_some_iff.mp H
                obtain ⟨⟨t150, t151⟩, A210, H⟩ := H
                replace H : (if t151 = 11 then (some (t150 == (wrap64 ((wrap64 (Int.tmod a1 20)) + 1)))) else (some false)) = some r := H
                have A21 := Aside0.mk A210
                clear A210
                by_cases c22 : t151 = 11
                · rw [if_pos c22] at H
                  have c22b0 : (t151 == 11) = true := beq_iff_eq.mpr c22
                  have c22b1 : (t151 != 11) = false := bne_eq_false_iff_eq.mpr c22
                  clear c22
                  obtain rfl := Option.some.inj H
                  go_wp2_with (first | ((with_reducible refine gate_dst (N := 39) rfl ?_); refine Kd.N_lit k52 _ 52 ?hg (N' := 39) ?hd (xs := ([(⟨8, 2, 0, 0, ([] : List (S84))⟩ : S52), (⟨1, 1, 0, 0, ([] : List (S84))⟩ : S52)] : List (S52))) (inner := [.int .i64 8, .int .i64 2, .int .i64 0, .int .i64 0, .slice none 0 0, .int .i64 1, .int .i64 1, .int .i64 0, .int .i64 0, .slice none 0 0]) (ok := (fun k_ => some k_ ≠ (u5 : Value).ownBlock)) (okp := (fun k_ => some k_ ≠ (u5 : Value).ownBlock)) ?hr ?hp (fun _ hk => hk) ((show ∀ k_, wr.heap.size ≤ k_ → (fun k_ => some k_ ≠ (u5 : Value).ownBlock) k_ from fun k_ hk => Kd.fresh' (Kd.N_lt (by (with_reducible repeat (first | apply Kd.N_alloc | apply Kd.N_drewN | apply Kd.N_drew)); exact HO_5.out)) k_ hk) _ (Nat.le_refl _)) (Below.refl _ _) (Nat.le_refl _) (by simp) ?_; (case hd => rfl); (case hg => rfl); (case hr => first | (go_simp; done) | (go_simp; rfl)); (case hp => exact (Reps.c5 (show Kd.FK k52 _ _ (⟨8, 2, 0, 0, ([] : List (S84))⟩ : S52) [.int .i64 8, .int .i64 2, .int .i64 0, .int .i64 0, .slice none 0 0] from (k52_mkF _ _ (⟨8, 2, 0, 0, ([] : List (S84))⟩ : S52) (Nat.le_refl _) (Kd.F_nil _ _ _))) (Reps.c5 (show Kd.FK k52 _ _ (⟨1, 1, 0, 0, ([] : List (S84))⟩ : S52) [.int .i64 1, .int .i64 1, .int .i64 0, .int .i64 0, .slice none 0 0] from (k52_mkF _ _ (⟨1, 1, 0, 0, ([] : List (S84))⟩ : S52) (Nat.le_refl _) (Kd.F_nil _ _ _))) (Reps.none _ _)))); intro v145 w23 ho24 hb hg_ hnew_; clear hg_ hnew_; (first | rw [← Ny144.out] at ho24 | (simp only [Int.reduceToNat] at ho24; rw [← Ny144.out] at ho24)); have n0_ := Aside0.mk (Kd.N_elder' (by (with_reducible repeat (first | apply Kd.N_alloc | apply Kd.N_drewN | apply Kd.N_drew)); exact HO_5.out) (Kd.N_base ho24) hb); have n1_ := Aside0.mk (Kd.N_lower ho24 (below_size (by repeat (first | (with_reducible first | exact HB.out | apply below_alloc | apply pw_below_drewN | apply below_drew1) | exact HB.out)))); have n2_ := Aside0.mk (below_step (by repeat (first | (with_reducible first | exact HB.out | apply below_alloc | apply pw_below_drewN | apply below_drew1) | exact HB.out)) hb); clear HO_5; clear HB; have HO_5 := n0_; have HO146 := n1_; have HB := n2_; clear n0_ n1_ n2_; clear hb ho24; obtain ⟨Ao26, co26, eo26⟩ := Kd.N_slice HO146.out; subst eo26) | ((with_reducible refine gate_builtin (b := .append) (xs := #[.tmp 36, .tmp 39]) rfl ?_); at_builtin; refine Kd.N_append_rows k52 (w0 := w) w.heap.size rfl (.tmp 36) (.tmp 39) 25 52 (.agg #[(.int .i64 0), (.int .i64 0), (.int .i64 0), (.int .i64 0), (.slice none 0 0)]) 56 rfl Try.underlying25 info52 rfl (by decide) (by omega) u5 x5_1 y144 _ _ _ (fun _ => True) (fun k_ => ((fun _ => True)) k_ ∧ some k_ ≠ (u5 : Value).ownBlock) rfl rfl ?aO ?aR (fun _ hk => hk) ?aF ?aB ?aS ?aL ?_; (case aR => exact (by skip; exact Kd.N_F (Kd.N_mono (ok' := (fun k_ => ((fun _ => True)) k_ ∧ some k_ ≠ (u5 : Value).ownBlock)) (HO146.out) (fun k_ hk => ⟨trivial, hk⟩)))); (case aB => exact (by repeat (first | (with_reducible first | exact HB.out | apply below_alloc | apply pw_below_drewN | apply below_drew1) | exact HB.out))); (case aF => exact (fun _ _ => trivial)); (case aO => exact (by (with_reducible repeat (first | apply Kd.N_alloc | apply Kd.N_drewN | apply Kd.N_drew)); exact Kd.N_mono HO_5.out (fun _ hk => trivial))); (case aS => exact (below_size (by repeat (first | (with_reducible first | exact HB.out | apply below_alloc | apply pw_below_drewN | apply below_drew1) | exact HB.out)))); (case aL => have := LMc20.out; omega); intro v148 w25 ho hb hg hat; rw [← Ny147.out] at ho; have n0_ := Aside0.mk (Kd.N_afterv (ok := (fun _ => True)) (by (with_reducible repeat (first | apply Kd.N_alloc | apply Kd.N_drewN | apply Kd.N_drew)); exact Kd.N_mono HO146.out (fun _ hk => ⟨trivial, hk⟩)) hg hat); have n1_ := Aside0.mk (hb); have n2_ := Aside0.mk (ho); clear HO146; clear HB; clear HO_5; have HO146 := n0_; have HB := n1_; have HO149 := n2_; clear n0_ n1_ n2_; clear ho hb hg hat; obtain ⟨Ao27, co27, eo27⟩ := Kd.N_slice HO149.out; subst eo27) | ((with_reducible refine gate_callee (f := 12) rfl ?_); refine goesL_ (some 80) rfl rfl Try.func12 (by kernel_rfl) rfl #[.slice Ao27 y147.length co27] rfl (by (try simp only [List.map_toArray, List.map_cons, List.map_nil]); first | done | rfl | (simp only [List.length_drop, List.length_take]; rfl)) ?_; (with_reducible refine (prog_Check.calls _ _ y147 t150 t151 _ ?side1 ?side2 A21.out).mono ?_); (case side1 => repeat (first | exact (Kd.N_reads' HO149.out).2.2 | (with_reducible refine Kd.C_alloc ?_ _) | (with_reducible refine Kd.C_drewN ?_ _) | (with_reducible refine Kd.C_drew ?_))); (case side2 => exact (Kd.N_reads' HO149.out).2.1); rintro e w28 ⟨rfl, hb⟩; refine ⟨_, rfl, ?_⟩; have n0_ := Aside0.mk (Kd.N_below (by (with_reducible repeat (first | apply Kd.N_alloc | apply Kd.N_drewN | apply Kd.N_drew)); exact HO146.out) hb); have n1_ := Aside0.mk (Kd.N_below (by (with_reducible repeat (first | apply Kd.N_alloc | apply Kd.N_drewN | apply Kd.N_drew)); exact HO149.out) hb); have n2_ := Aside0.mk (below_step (by repeat (first | (with_reducible first | exact HB.out | apply below_alloc | apply pw_below_drewN | apply below_drew1) | exact HB.out)) hb); clear HO146; clear HO149; clear HB; have HO146 := n0_; have HO149 := n1_; have HB := n2_; clear n0_ n1_ n2_; (try clear hb); (try clear hb2); (try clear hk); (try clear hi)))
                  go_ret
                  exact ⟨by first | rfl | (simp [errW_none, errW_some] <;> rfl) | (simp [*, errW_none, errW_some] <;> rfl), by repeat (first | (with_reducible first | exact HB.out | apply below_alloc | apply pw_below_drewN | apply below_drew1) | exact HB.out)⟩
                · rw [if_neg c22] at H
                  have c22b0 : (t151 == 11) = false := beq_eq_false_iff_ne.mpr c22
                  have c22b1 : (t151 != 11) = true := bne_iff_ne.mpr c22
                  obtain rfl := Option.some.inj H
                  go_wp2_with (first | ((with_reducible refine gate_dst (N := 39) rfl ?_); refine Kd.N_lit k52 _ 52 ?hg (N' := 39) ?hd (xs := ([(⟨8, 2, 0, 0, ([] : List (S84))⟩ : S52), (⟨1, 1, 0, 0, ([] : List (S84))⟩ : S52)] : List (S52))) (inner := [.int .i64 8, .int .i64 2, .int .i64 0, .int .i64 0, .slice none 0 0, .int .i64 1, .int .i64 1, .int .i64 0, .int .i64 0, .slice none 0 0]) (ok := (fun k_ => some k_ ≠ (u5 : Value).ownBlock)) (okp := (fun k_ => some k_ ≠ (u5 : Value).ownBlock)) ?hr ?hp (fun _ hk => hk) ((show ∀ k_, wr.heap.size ≤ k_ → (fun k_ => some k_ ≠ (u5 : Value).ownBlock) k_ from fun k_ hk => Kd.fresh' (Kd.N_lt (by (with_reducible repeat (first | apply Kd.N_alloc | apply Kd.N_drewN | apply Kd.N_drew)); exact HO_5.out)) k_ hk) _ (Nat.le_refl _)) (Below.refl _ _) (Nat.le_refl _) (by simp) ?_; (case hd => rfl); (case hg => rfl); (case hr => first | (go_simp; done) | (go_simp; rfl)); (case hp => exact (Reps.c5 (show Kd.FK k52 _ _ (⟨8, 2, 0, 0, ([] : List (S84))⟩ : S52) [.int .i64 8, .int .i64 2, .int .i64 0, .int .i64 0, .slice none 0 0] from (k52_mkF _ _ (⟨8, 2, 0, 0, ([] : List (S84))⟩ : S52) (Nat.le_refl _) (Kd.F_nil _ _ _))) (Reps.c5 (show Kd.FK k52 _ _ (⟨1, 1, 0, 0, ([] : List (S84))⟩ : S52) [.int .i64 1, .int .i64 1, .int .i64 0, .int .i64 0, .slice none 0 0] from (k52_mkF _ _ (⟨1, 1, 0, 0, ([] : List (S84))⟩ : S52) (Nat.le_refl _) (Kd.F_nil _ _ _))) (Reps.none _ _)))); intro v145 w29 ho30 hb hg_ hnew_; clear hg_ hnew_; (first | rw [← Ny144.out] at ho30 | (simp only [Int.reduceToNat] at ho30; rw [← Ny144.out] at ho30)); have n0_ := Aside0.mk (Kd.N_elder' (by (with_reducible repeat (first | apply Kd.N_alloc | apply Kd.N_drewN | apply Kd.N_drew)); exact HO_5.out) (Kd.N_base ho30) hb); have n1_ := Aside0.mk (Kd.N_lower ho30 (below_size (by repeat (first | (with_reducible first | exact HB.out | apply below_alloc | apply pw_below_drewN | apply below_drew1) | exact HB.out)))); have n2_ := Aside0.mk (below_step (by repeat (first | (with_reducible first | exact HB.out | apply below_alloc | apply pw_below_drewN | apply below_drew1) | exact HB.out)) hb); clear HO_5; clear HB; have HO_5 := n0_; have HO146 := n1_; have HB := n2_; clear n0_ n1_ n2_; clear hb ho30; obtain ⟨Ao32, co32, eo32⟩ := Kd.N_slice HO146.out; subst eo32) | ((with_reducible refine gate_builtin (b := .append) (xs := #[.tmp 36, .tmp 39]) rfl ?_); at_builtin; refine Kd.N_append_rows k52 (w0 := w) w.heap.size rfl (.tmp 36) (.tmp 39) 25 52 (.agg #[(.int .i64 0), (.int .i64 0), (.int .i64 0), (.int .i64 0), (.slice none 0 0)]) 56 rfl Try.underlying25 info52 rfl (by decide) (by omega) u5 x5_1 y144 _ _ _ (fun _ => True) (fun k_ => ((fun _ => True)) k_ ∧ some k_ ≠ (u5 : Value).ownBlock) rfl rfl ?aO ?aR (fun _ hk => hk) ?aF ?aB ?aS ?aL ?_; (case aR => exact (by skip; exact Kd.N_F (Kd.N_mono (ok' := (fun k_ => ((fun _ => True)) k_ ∧ some k_ ≠ (u5 : Value).ownBlock)) (HO146.out) (fun k_ hk => ⟨trivial, hk⟩)))); (case aB => exact (by repeat (first | (with_reducible first | exact HB.out | apply below_alloc | apply pw_below_drewN | apply below_drew1) | exact HB.out))); (case aF => exact (fun _ _ => trivial)); (case aO => exact (by (with_reducible repeat (first | apply Kd.N_alloc | apply Kd.N_drewN | apply Kd.N_drew)); exact Kd.N_mono HO_5.out (fun _ hk => trivial))); (case aS => exact (below_size (by repeat (first | (with_reducible first | exact HB.out | apply below_alloc | apply pw_below_drewN | apply below_drew1) | exact HB.out)))); (case aL => have := LMc20.out; omega); intro v148 w31 ho hb hg hat; rw [← Ny147.out] at ho; have n0_ := Aside0.mk (Kd.N_afterv (ok := (fun _ => True)) (by (with_reducible repeat (first | apply Kd.N_alloc | apply Kd.N_drewN | apply Kd.N_drew)); exact Kd.N_mono HO146.out (fun _ hk => ⟨trivial, hk⟩)) hg hat); have n1_ := Aside0.mk (hb); have n2_ := Aside0.mk (ho); clear HO146; clear HB; clear HO_5; have HO146 := n0_; have HB := n1_; have HO149 := n2_; clear n0_ n1_ n2_; clear ho hb hg hat; obtain ⟨Ao33, co33, eo33⟩ := Kd.N_slice HO149.out; subst eo33) | ((with_reducible refine gate_callee (f := 12) rfl ?_); refine goesL_ (some 80) rfl rfl Try.func12 (by kernel_rfl) rfl #[.slice Ao33 y147.length co33] rfl (by (try simp only [List.map_toArray, List.map_cons, List.map_nil]); first | done | rfl | (simp only [List.length_drop, List.length_take]; rfl)) ?_; (with_reducible refine (prog_Check.calls _ _ y147 t150 t151 _ ?side1 ?side2 A21.out).mono ?_); (case side1 => repeat (first | exact (Kd.N_reads' HO149.out).2.2 | (with_reducible refine Kd.C_alloc ?_ _) | (with_reducible refine Kd.C_drewN ?_ _) | (with_reducible refine Kd.C_drew ?_))); (case side2 => exact (Kd.N_reads' HO149.out).2.1); rintro e w34 ⟨rfl, hb⟩; refine ⟨_, rfl, ?_⟩; have n0_ := Aside0.mk (Kd.N_below (by (with_reducible repeat (first | apply Kd.N_alloc | apply Kd.N_drewN | apply Kd.N_drew)); exact HO146.out) hb); have n1_ := Aside0.mk (Kd.N_below (by (with_reducible repeat (first | apply Kd.N_alloc | apply Kd.N_drewN | apply Kd.N_drew)); exact HO149.out) hb); have n2_ := Aside0.mk (below_step (by repeat (first | (with_reducible first | exact HB.out | apply below_alloc | apply pw_below_drewN | apply below_drew1) | exact HB.out)) hb); clear HO146; clear HO149; clear HB; have HO146 := n0_; have HO149 := n1_; have HB := n2_; clear n0_ n1_ n2_; (try clear hb); (try clear hb2); (try clear hk); (try clear hi)))
                  go_ret
                  exact ⟨by first | rfl | (simp [errW_none, errW_some] <;> rfl) | (simp [*, errW_none, errW_some] <;> rfl), by repeat (first | (with_reducible first | exact HB.out | apply below_alloc | apply pw_below_drewN | apply below_drew1) | exact HB.out)⟩
              · rw [if_neg c20] at H
                exact absurd H (by simp)
            · rw [if_neg c19] at H
              have c19b0 : ((Int.tmod a0 6) == 1) = false := beq_eq_false_iff_ne.mpr c19
              have c19b1 : ((Int.tmod a0 6) != 1) = true := bne_iff_ne.mpr c19
              by_cases c35 : (Int.tmod a0 6) = 2
              · rw [if_pos c35] at H
                have c35b0 : ((Int.tmod a0 6) == 2) = true := beq_iff_eq.mpr c35
                have c35b1 : ((Int.tmod a0 6) != 2) = false := bne_eq_false_iff_eq.mpr c35
                clear c35
                by_cases c36 : x5_1.length < 2513169434916
                · rw [if_pos c36] at H
                  have LMc36 := Aside0.mk c36
                  clear c36
                  obtain ⟨y152, hy152⟩ : ∃ y_ : List (S52), y_ = (x5_1 ++ [(⟨3, 1, 0, 0, ([] : List (S84))⟩ : S52)]) := ⟨_, rfl⟩
                  replace H : ((prog_Check.f y152).bind fun bt155 => (if bt155.2 = 11 then (some (bt155.1 == (wrap64 (Int.tmod a1 20)))) else (some false))) = some r := by first | (rw [hy152]; with_reducible exact H) | (have H2_ := (Option.bind_some _ _).symm.trans H; rw [hy152]; with_reducible exact H2_) | (have H2_ := (Option.bind_some _ _).symm.trans H; with_reducible exact H2_) | with_reducible exact H | (rw [hy152]; exact H) | exact H
                  have Ny152 := Aside0.mk hy152
                  clear hy152
                  replace H := Option.bind_eq_some_iff.mp H
                  obtain ⟨⟨t155, t156⟩, A370, H⟩ := H
                  replace H : (if t156 = 11 then (some (t155 == (wrap64 (Int.tmod a1 20)))) else (some false)) = some r := H
                  have A37 := Aside0.mk A370
                  clear A370
                  by_cases c38 : t156 = 11
                  · rw [if_pos c38] at H
                    have c38b0 : (t156 == 11) = true := beq_iff_eq.mpr c38
                    have c38b1 : (t156 != 11) = false := bne_eq_false_iff_eq.mpr c38
                    clear c38
                    obtain rfl := Option.some.inj H
                    go_wp2_with (first | ((with_reducible refine gate_builtin (b := .append) (xs := #[.tmp 45, .tmp 47]) rfl ?_); at_builtin; refine Kd.N_append k52 (w0 := w) w.heap.size rfl (.tmp 45) (.tmp 47) 25 52 (.agg #[(.int .i64 0), (.int .i64 0), (.int .i64 0), (.int .i64 0), (.slice none 0 0)]) 56 rfl Try.underlying25 info52 rfl (by decide) (by omega) u5 x5_1 (⟨3, 1, 0, 0, ([] : List (S84))⟩ : S52) [.int .i64 3, .int .i64 1, .int .i64 0, .int .i64 0, .slice none 0 0] (fun _ => True) (fun k_ => ((fun _ => True)) k_ ∧ some k_ ≠ (u5 : Value).ownBlock) rfl rfl ?aP (fun _ hk => hk) ?aF ?aO ?aB ?aS ?aL ?_; (case aP => exact (k52_mkF _ _ (⟨3, 1, 0, 0, ([] : List (S84))⟩ : S52) (Nat.le_refl _) (Kd.F_nil _ _ _))); (case aB => exact (by repeat (first | (with_reducible first | exact HB.out | apply below_alloc | apply pw_below_drewN | apply below_drew1) | exact HB.out))); (case aF => exact (fun _ _ => trivial)); (case aO => exact (by (with_reducible repeat (first | apply Kd.N_alloc | apply Kd.N_drewN | apply Kd.N_drew)); exact HO_5.out)); (case aS => exact (below_size (by repeat (first | (with_reducible first | exact HB.out | apply below_alloc | apply pw_below_drewN | apply below_drew1) | exact HB.out)))); (case aL => have := LMc36.out; omega); intro v153 w39 ho hb hg hat; rw [← Ny152.out] at ho; have n0_ := Aside0.mk (hb); have n1_ := Aside0.mk (ho); clear HB; clear HO_5; have HB := n0_; have HO154 := n1_; clear n0_ n1_; clear ho hb hg hat; obtain ⟨Ao40, co40, eo40⟩ := Kd.N_slice HO154.out; subst eo40) | ((with_reducible refine gate_callee (f := 12) rfl ?_); refine goesL_ (some 80) rfl rfl Try.func12 (by kernel_rfl) rfl #[.slice Ao40 y152.length co40] rfl (by (try simp only [List.map_toArray, List.map_cons, List.map_nil]); first | done | rfl | (simp only [List.length_drop, List.length_take]; rfl)) ?_; (with_reducible refine (prog_Check.calls _ _ y152 t155 t156 _ ?side1 ?side2 A37.out).mono ?_); (case side1 => repeat (first | exact (Kd.N_reads' HO154.out).2.2 | (with_reducible refine Kd.C_alloc ?_ _) | (with_reducible refine Kd.C_drewN ?_ _) | (with_reducible refine Kd.C_drew ?_))); (case side2 => exact (Kd.N_reads' HO154.out).2.1); rintro e w41 ⟨rfl, hb⟩; refine ⟨_, rfl, ?_⟩; have n0_ := Aside0.mk (Kd.N_below (by (with_reducible repeat (first | apply Kd.N_alloc | apply Kd.N_drewN | apply Kd.N_drew)); exact HO154.out) hb); have n1_ := Aside0.mk (below_step (by repeat (first | (with_reducible first | exact HB.out | apply below_alloc | apply pw_below_drewN | apply below_drew1) | exact HB.out)) hb); clear HO154; clear HB; have HO154 := n0_; have HB := n1_; clear n0_ n1_; (try clear hb); (try clear hb2); (try clear hk); (try clear hi)))
                    go_ret
                    exact ⟨by first | rfl | (simp [errW_none, errW_some] <;> rfl) | (simp [*, errW_none, errW_some] <;> rfl), by repeat (first | (with_reducible first | exact HB.out | apply below_alloc | apply pw_below_drewN | apply below_drew1) | exact HB.out)⟩
                  · rw [if_neg c38] at H
                    have c38b0 : (t156 == 11) = false := beq_eq_false_iff_ne.mpr c38
                    have c38b1 : (t156 != 11) = true := bne_iff_ne.mpr c38
                    obtain rfl := Option.some.inj H
                    go_wp2_with (first | ((with_reducible refine gate_builtin (b := .append) (xs := #[.tmp 45, .tmp 47]) rfl ?_); at_builtin; refine Kd.N_append k52 (w0 := w) w.heap.size rfl (.tmp 45) (.tmp 47) 25 52 (.agg #[(.int .i64 0), (.int .i64 0), (.int .i64 0), (.int .i64 0), (.slice none 0 0)]) 56 rfl Try.underlying25 info52 rfl (by decide) (by omega) u5 x5_1 (⟨3, 1, 0, 0, ([] : List (S84))⟩ : S52) [.int .i64 3, .int .i64 1, .int .i64 0, .int .i64 0, .slice none 0 0] (fun _ => True) (fun k_ => ((fun _ => True)) k_ ∧ some k_ ≠ (u5 : Value).ownBlock) rfl rfl ?aP (fun _ hk => hk) ?aF ?aO ?aB ?aS ?aL ?_; (case aP => exact (k52_mkF _ _ (⟨3, 1, 0, 0, ([] : List (S84))⟩ : S52) (Nat.le_refl _) (Kd.F_nil _ _ _))); (case aB => exact (by repeat (first | (with_reducible first | exact HB.out | apply below_alloc | apply pw_below_drewN | apply below_drew1) | exact HB.out))); (case aF => exact (fun _ _ => trivial)); (case aO => exact (by (with_reducible repeat (first | apply Kd.N_alloc | apply Kd.N_drewN | apply Kd.N_drew)); exact HO_5.out)); (case aS => exact (below_size (by repeat (first | (with_reducible first | exact HB.out | apply below_alloc | apply pw_below_drewN | apply below_drew1) | exact HB.out)))); (case aL => have := LMc36.out; omega); intro v153 w42 ho hb hg hat; rw [← Ny152.out] at ho; have n0_ := Aside0.mk (hb); have n1_ := Aside0.mk (ho); clear HB; clear HO_5; have HB := n0_; have HO154 := n1_; clear n0_ n1_; clear ho hb hg hat; obtain ⟨Ao43, co43, eo43⟩ := Kd.N_slice HO154.out; subst eo43) | ((with_reducible refine gate_callee (f := 12) rfl ?_); refine goesL_ (some 80) rfl rfl Try.func12 (by kernel_rfl) rfl #[.slice Ao43 y152.length co43] rfl (by (try simp only [List.map_toArray, List.map_cons, List.map_nil]); first | done | rfl | (simp only [List.length_drop, List.length_take]; rfl)) ?_; (with_reducible refine (prog_Check.calls _ _ y152 t155 t156 _ ?side1 ?side2 A37.out).mono ?_); (case side1 => repeat (first | exact (Kd.N_reads' HO154.out).2.2 | (with_reducible refine Kd.C_alloc ?_ _) | (with_reducible refine Kd.C_drewN ?_ _) | (with_reducible refine Kd.C_drew ?_))); (case side2 => exact (Kd.N_reads' HO154.out).2.1); rintro e w44 ⟨rfl, hb⟩; refine ⟨_, rfl, ?_⟩; have n0_ := Aside0.mk (Kd.N_below (by (with_reducible repeat (first | apply Kd.N_alloc | apply Kd.N_drewN | apply Kd.N_drew)); exact HO154.out) hb); have n1_ := Aside0.mk (below_step (by repeat (first | (with_reducible first | exact HB.out | apply below_alloc | apply pw_below_drewN | apply below_drew1) | exact HB.out)) hb); clear HO154; clear HB; have HO154 := n0_; have HB := n1_; clear n0_ n1_; (try clear hb); (try clear hb2); (try clear hk); (try clear hi)))
                    go_ret
                    exact ⟨by first | rfl | (simp [errW_none, errW_some] <;> rfl) | (simp [*, errW_none, errW_some] <;> rfl), by repeat (first | (with_reducible first | exact HB.out | apply below_alloc | apply pw_below_drewN | apply below_drew1) | exact HB.out)⟩
                · rw [if_neg c36] at H
                  exact absurd H (by simp)
              · rw [if_neg c35] at H
                have c35b0 : ((Int.tmod a0 6) == 2) = false := beq_eq_false_iff_ne.mpr c35
                have c35b1 : ((Int.tmod a0 6) != 2) = true := bne_iff_ne.mpr c35
                by_cases c45 : (Int.tmod a0 6) = 3
                · rw [if_pos c45] at H
                  have c45b0 : ((Int.tmod a0 6) == 3) = true := beq_iff_eq.mpr c45
                  have c45b1 : ((Int.tmod a0 6) != 3) = false := bne_eq_false_iff_eq.mpr c45
                  clear c45
                  obtain ⟨y157, hy157⟩ : ∃ y_ : List (S52), y_ = (([(⟨2, 1, 0, 0, ([] : List (S84))⟩ : S52), (⟨2, 1, 0, 0, ([] : List (S84))⟩ : S52)] : List (S52))) := ⟨_, rfl⟩
                  replace H : (if x5_1.length + y157.length < 2513169434916 then ((prog_Check.f (x5_1 ++ y157)).bind fun bt163 => (if bt163.2 = 11 then (some (bt163.1 == (wrap64 ((wrap64 (Int.tmod a1 20)) + 1)))) else (some false))) else (none)) = some r := by first | (rw [hy157]; with_reducible exact H) | (have H2_ := (Option.bind_some _ _).symm.trans H; rw [hy157]; with_reducible exact H2_) | (have H2_ := (Option.bind_some _ _).symm.trans H; with_reducible exact H2_) | with_reducible exact H | (rw [hy157]; exact H) | exact H
                  have Ny157 := Aside0.mk hy157
                  clear hy157
                  by_cases c46 : x5_1.length + y157.length < 2513169434916
                  · rw [if_pos c46] at H
                    have LMc46 := Aside0.mk c46
                    clear c46
                    obtain ⟨y160, hy160⟩ : ∃ y_ : List (S52), y_ = (x5_1 ++ y157) := ⟨_, rfl⟩
                    replace H : ((prog_Check.f y160).bind fun bt163 => (if bt163.2 = 11 then (some (bt163.1 == (wrap64 ((wrap64 (Int.tmod a1 20)) + 1)))) else (some false))) = some r := by first | (rw [hy160]; with_reducible exact H) | (have H2_ := (Option.bind_some _ _).symm.trans H; rw [hy160]; with_reducible exact H2_) | (have H2_ := (Option.bind_some _ _).symm.trans H; with_reducible exact H2_) | with_reducible exact H | (rw [hy160]; exact H) | exact H
                    have Ny160 := Aside0.mk hy160
                    clear hy160
                    replace H := Option.bind_eq_some_iff.mp H
                    obtain ⟨⟨t163, t164⟩, A470, H⟩ := H
                    replace H : (if t164 = 11 then (some (t163 == (wrap64 ((wrap64 (Int.tmod a1 20)) + 1)))) else (some false)) = some r := H
                    have A47 := Aside0.mk A470
                    clear A470
                    by_cases c48 : t164 = 11
                    · rw [if_pos c48] at H
                      have c48b0 : (t164 == 11) = true := beq_iff_eq.mpr c48
                      have c48b1 : (t164 != 11) = false := bne_eq_false_iff_eq.mpr c48
                      clear c48
                      obtain rfl := Option.some.inj H
                      go_wp2_with (first | ((with_reducible refine gate_dst (N := 54) rfl ?_); refine Kd.N_lit k52 _ 52 ?hg (N' := 54) ?hd (xs := ([(⟨2, 1, 0, 0, ([] : List (S84))⟩ : S52), (⟨2, 1, 0, 0, ([] : List (S84))⟩ : S52)] : List (S52))) (inner := [.int .i64 2, .int .i64 1, .int .i64 0, .int .i64 0, .slice none 0 0, .int .i64 2, .int .i64 1, .int .i64 0, .int .i64 0, .slice none 0 0]) (ok := (fun k_ => some k_ ≠ (u5 : Value).ownBlock)) (okp := (fun k_ => some k_ ≠ (u5 : Value).ownBlock)) ?hr ?hp (fun _ hk => hk) ((show ∀ k_, wr.heap.size ≤ k_ → (fun k_ => some k_ ≠ (u5 : Value).ownBlock) k_ from fun k_ hk => Kd.fresh' (Kd.N_lt (by (with_reducible repeat (first | apply Kd.N_alloc | apply Kd.N_drewN | apply Kd.N_drew)); exact HO_5.out)) k_ hk) _ (Nat.le_refl _)) (Below.refl _ _) (Nat.le_refl _) (by simp) ?_; (case hd => rfl); (case hg => rfl); (case hr => first | (go_simp; done) | (go_simp; rfl)); (case hp => exact (Reps.c5 (show Kd.FK k52 _ _ (⟨2, 1, 0, 0, ([] : List (S84))⟩ : S52) [.int .i64 2, .int .i64 1, .int .i64 0, .int .i64 0, .slice none 0 0] from (k52_mkF _ _ (⟨2, 1, 0, 0, ([] : List (S84))⟩ : S52) (Nat.le_refl _) (Kd.F_nil _ _ _))) (Reps.c5 (show Kd.FK k52 _ _ (⟨2, 1, 0, 0, ([] : List (S84))⟩ : S52) [.int .i64 2, .int .i64 1, .int .i64 0, .int .i64 0, .slice none 0 0] from (k52_mkF _ _ (⟨2, 1, 0, 0, ([] : List (S84))⟩ : S52) (Nat.le_refl _) (Kd.F_nil _ _ _))) (Reps.none _ _)))); intro v158 w49 ho50 hb hg_ hnew_; clear hg_ hnew_; (first | rw [← Ny157.out] at ho50 | (simp only [Int.reduceToNat] at ho50; rw [← Ny157.out] at ho50)); have n0_ := Aside0.mk (Kd.N_elder' (by (with_reducible repeat (first | apply Kd.N_alloc | apply Kd.N_drewN | apply Kd.N_drew)); exact HO_5.out) (Kd.N_base ho50) hb); have n1_ := Aside0.mk (Kd.N_lower ho50 (below_size (by repeat (first | (with_reducible first | exact HB.out | apply below_alloc | apply pw_below_drewN | apply below_drew1) | exact HB.out)))); have n2_ := Aside0.mk (below_step (by repeat (first | (with_reducible first | exact HB.out | apply below_alloc | apply pw_below_drewN | apply below_drew1) | exact HB.out)) hb); clear HO_5; clear HB; have HO_5 := n0_; have HO159 := n1_; have HB := n2_; clear n0_ n1_ n2_; clear hb ho50; obtain ⟨Ao52, co52, eo52⟩ := Kd.N_slice HO159.out; subst eo52) | ((with_reducible refine gate_builtin (b := .append) (xs := #[.tmp 51, .tmp 54]) rfl ?_); at_builtin; refine Kd.N_append_rows k52 (w0 := w) w.heap.size rfl (.tmp 51) (.tmp 54) 25 52 (.agg #[(.int .i64 0), (.int .i64 0), (.int .i64 0), (.int .i64 0), (.slice none 0 0)]) 56 rfl Try.underlying25 info52 rfl (by decide) (by omega) u5 x5_1 y157 _ _ _ (fun _ => True) (fun k_ => ((fun _ => True)) k_ ∧ some k_ ≠ (u5 : Value).ownBlock) rfl rfl ?aO ?aR (fun _ hk => hk) ?aF ?aB ?aS ?aL ?_; (case aR => exact (by skip; exact Kd.N_F (Kd.N_mono (ok' := (fun k_ => ((fun _ => True)) k_ ∧ some k_ ≠ (u5 : Value).ownBlock)) (HO159.out) (fun k_ hk => ⟨trivial, hk⟩)))); (case aB => exact (by repeat (first | (with_reducible first | exact HB.out | apply below_alloc | apply pw_below_drewN | apply below_drew1) | exact HB.out))); (case aF => exact (fun _ _ => trivial)); (case aO => exact (by (with_reducible repeat (first | apply Kd.N_alloc | apply Kd.N_drewN | apply Kd.N_drew)); exact Kd.N_mono HO_5.out (fun _ hk => trivial))); (case aS => exact (below_size (by repeat (first | (with_reducible first | exact HB.out | apply below_alloc | apply pw_below_drewN | apply below_drew1) | exact HB.out)))); (case aL => have := LMc46.out; omega); intro v161 w51 ho hb hg hat; rw [← Ny160.out] at ho; have n0_ := Aside0.mk (Kd.N_afterv (ok := (fun _ => True)) (by (with_reducible repeat (first | apply Kd.N_alloc | apply Kd.N_drewN | apply Kd.N_drew)); exact Kd.N_mono HO159.out (fun _ hk => ⟨trivial, hk⟩)) hg hat); have n1_ := Aside0.mk (hb); have n2_ := Aside0.mk (ho); clear HO159; clear HB; clear HO_5; have HO159 := n0_; have HB := n1_; have HO162 := n2_; clear n0_ n1_ n2_; clear ho hb hg hat; obtain ⟨Ao53, co53, eo53⟩ := Kd.N_slice HO162.out; subst eo53) | ((with_reducible refine gate_callee (f := 12) rfl ?_); refine goesL_ (some 80) rfl rfl Try.func12 (by kernel_rfl) rfl #[.slice Ao53 y160.length co53] rfl (by (try simp only [List.map_toArray, List.map_cons, List.map_nil]); first | done | rfl | (simp only [List.length_drop, List.length_take]; rfl)) ?_; (with_reducible refine (prog_Check.calls _ _ y160 t163 t164 _ ?side1 ?side2 A47.out).mono ?_); (case side1 => repeat (first | exact (Kd.N_reads' HO162.out).2.2 | (with_reducible refine Kd.C_alloc ?_ _) | (with_reducible refine Kd.C_drewN ?_ _) | (with_reducible refine Kd.C_drew ?_))); (case side2 => exact (Kd.N_reads' HO162.out).2.1); rintro e w54 ⟨rfl, hb⟩; refine ⟨_, rfl, ?_⟩; have n0_ := Aside0.mk (Kd.N_below (by (with_reducible repeat (first | apply Kd.N_alloc | apply Kd.N_drewN | apply Kd.N_drew)); exact HO159.out) hb); have n1_ := Aside0.mk (Kd.N_below (by (with_reducible repeat (first | apply Kd.N_alloc | apply Kd.N_drewN | apply Kd.N_drew)); exact HO162.out) hb); have n2_ := Aside0.mk (below_step (by repeat (first | (with_reducible first | exact HB.out | apply below_alloc | apply pw_below_drewN | apply below_drew1) | exact HB.out)) hb); clear HO159; clear HO162; clear HB; have HO159 := n0_; have HO162 := n1_; have HB := n2_; clear n0_ n1_ n2_; (try clear hb); (try clear hb2); (try clear hk); (try clear hi)))
                      go_ret
                      exact ⟨by first | rfl | (simp [errW_none, errW_some] <;> rfl) | (simp [*, errW_none, errW_some] <;> rfl), by repeat (first | (with_reducible first | exact HB.out | apply below_alloc | apply pw_below_drewN | apply below_drew1) | exact HB.out)⟩
                    · rw [if_neg c48] at H
                      have c48b0 : (t164 == 11) = false := beq_eq_false_iff_ne.mpr c48
                      have c48b1 : (t164 != 11) = true := bne_iff_ne.mpr c48
                      obtain rfl := Option.some.inj H
                      go_wp2_with (first | ((with_reducible refine gate_dst (N := 54) rfl ?_); refine Kd.N_lit k52 _ 52 ?hg (N' := 54) ?hd (xs := ([(⟨2, 1, 0, 0, ([] : List (S84))⟩ : S52), (⟨2, 1, 0, 0, ([] : List (S84))⟩ : S52)] : List (S52))) (inner := [.int .i64 2, .int .i64 1, .int .i64 0, .int .i64 0, .slice none 0 0, .int .i64 2, .int .i64 1, .int .i64 0, .int .i64 0, .slice none 0 0]) (ok := (fun k_ => some k_ ≠ (u5 : Value).ownBlock)) (okp := (fun k_ => some k_ ≠ (u5 : Value).ownBlock)) ?hr ?hp (fun _ hk => hk) ((show ∀ k_, wr.heap.size ≤ k_ → (fun k_ => some k_ ≠ (u5 : Value).ownBlock) k_ from fun k_ hk => Kd.fresh' (Kd.N_lt (by (with_reducible repeat (first | apply Kd.N_alloc | apply Kd.N_drewN | apply Kd.N_drew)); exact HO_5.out)) k_ hk) _ (Nat.le_refl _)) (Below.refl _ _) (Nat.le_refl _) (by simp) ?_; (case hd => rfl); (case hg => rfl); (case hr => first | (go_simp; done) | (go_simp; rfl)); (case hp => exact (Reps.c5 (show Kd.FK k52 _ _ (⟨2, 1, 0, 0, ([] : List (S84))⟩ : S52) [.int .i64 2, .int .i64 1, .int .i64 0, .int .i64 0, .slice none 0 0] from (k52_mkF _ _ (⟨2, 1, 0, 0, ([] : List (S84))⟩ : S52) (Nat.le_refl _) (Kd.F_nil _ _ _))) (Reps.c5 (show Kd.FK k52 _ _ (⟨2, 1, 0, 0, ([] : List (S84))⟩ : S52) [.int .i64 2, .int .i64 1, .int .i64 0, .int .i64 0, .slice none 0 0] from (k52_mkF _ _ (⟨2, 1, 0, 0, ([] : List (S84))⟩ : S52) (Nat.le_refl _) (Kd.F_nil _ _ _))) (Reps.none _ _)))); intro v158 w55 ho56 hb hg_ hnew_; clear hg_ hnew_; (first | rw [← Ny157.out] at ho56 | (simp only [Int.reduceToNat] at ho56; rw [← Ny157.out] at ho56)); have n0_ := Aside0.mk (Kd.N_elder' (by (with_reducible repeat (first | apply Kd.N_alloc | apply Kd.N_drewN | apply Kd.N_drew)); exact HO_5.out) (Kd.N_base ho56) hb); have n1_ := Aside0.mk (Kd.N_lower ho56 (below_size (by repeat (first | (with_reducible first | exact HB.out | apply below_alloc | apply pw_below_drewN | apply below_drew1) | exact HB.out)))); have n2_ := Aside0.mk (below_step (by repeat (first | (with_reducible first | exact HB.out | apply below_alloc | apply pw_below_drewN | apply below_drew1) | exact HB.out)) hb); clear HO_5; clear HB; have HO_5 := n0_; have HO159 := n1_; have HB := n2_; clear n0_ n1_ n2_; clear hb ho56; obtain ⟨Ao58, co58, eo58⟩ := Kd.N_slice HO159.out; subst eo58) | ((with_reducible refine gate_builtin (b := .append) (xs := #[.tmp 51, .tmp 54]) rfl ?_); at_builtin; refine Kd.N_append_rows k52 (w0 := w) w.heap.size rfl (.tmp 51) (.tmp 54) 25 52 (.agg #[(.int .i64 0), (.int .i64 0), (.int .i64 0), (.int .i64 0), (.slice none 0 0)]) 56 rfl Try.underlying25 info52 rfl (by decide) (by omega) u5 x5_1 y157 _ _ _ (fun _ => True) (fun k_ => ((fun _ => True)) k_ ∧ some k_ ≠ (u5 : Value).ownBlock) rfl rfl ?aO ?aR (fun _ hk => hk) ?aF ?aB ?aS ?aL ?_; (case aR => exact (by skip; exact Kd.N_F (Kd.N_mono (ok' := (fun k_ => ((fun _ => True)) k_ ∧ some k_ ≠ (u5 : Value).ownBlock)) (HO159.out) (fun k_ hk => ⟨trivial, hk⟩)))); (case aB => exact (by repeat (first | (with_reducible first | exact HB.out | apply below_alloc | apply pw_below_drewN | apply below_drew1) | exact HB.out))); (case aF => exact (fun _ _ => trivial)); (case aO => exact (by (with_reducible repeat (first | apply Kd.N_alloc | apply Kd.N_drewN | apply Kd.N_drew)); exact Kd.N_mono HO_5.out (fun _ hk => trivial))); (case aS => exact (below_size (by repeat (first | (with_reducible first | exact HB.out | apply below_alloc | apply pw_below_drewN | apply below_drew1) | exact HB.out)))); (case aL => have := LMc46.out; omega); intro v161 w57 ho hb hg hat; rw [← Ny160.out] at ho; have n0_ := Aside0.mk (Kd.N_afterv (ok := (fun _ => True)) (by (with_reducible repeat (first | apply Kd.N_alloc | apply Kd.N_drewN | apply Kd.N_drew)); exact Kd.N_mono HO159.out (fun _ hk => ⟨trivial, hk⟩)) hg hat); have n1_ := Aside0.mk (hb); have n2_ := Aside0.mk (ho); clear HO159; clear HB; clear HO_5; have HO159 := n0_; have HB := n1_; have HO162 := n2_; clear n0_ n1_ n2_; clear ho hb hg hat; obtain ⟨Ao59, co59, eo59⟩ := Kd.N_slice HO162.out; subst eo59) | ((with_reducible refine gate_callee (f := 12) rfl ?_); refine goesL_ (some 80) rfl rfl Try.func12 (by kernel_rfl) rfl #[.slice Ao59 y160.length co59] rfl (by (try simp only [List.map_toArray, List.map_cons, List.map_nil]); first | done | rfl | (simp only [List.length_drop, List.length_take]; rfl)) ?_; (with_reducible refine (prog_Check.calls _ _ y160 t163 t164 _ ?side1 ?side2 A47.out).mono ?_); (case side1 => repeat (first | exact (Kd.N_reads' HO162.out).2.2 | (with_reducible refine Kd.C_alloc ?_ _) | (with_reducible refine Kd.C_drewN ?_ _) | (with_reducible refine Kd.C_drew ?_))); (case side2 => exact (Kd.N_reads' HO162.out).2.1); rintro e w60 ⟨rfl, hb⟩; refine ⟨_, rfl, ?_⟩; have n0_ := Aside0.mk (Kd.N_below (by (with_reducible repeat (first | apply Kd.N_alloc | apply Kd.N_drewN | apply Kd.N_drew)); exact HO159.out) hb); have n1_ := Aside0.mk (Kd.N_below (by (with_reducible repeat (first | apply Kd.N_alloc | apply Kd.N_drewN | apply Kd.N_drew)); exact HO162.out) hb); have n2_ := Aside0.mk (below_step (by repeat (first | (with_reducible first | exact HB.out | apply below_alloc | apply pw_below_drewN | apply below_drew1) | exact HB.out)) hb); clear HO159; clear HO162; clear HB; have HO159 := n0_; have HO162 := n1_; have HB := n2_; clear n0_ n1_ n2_; (try clear hb); (try clear hb2); (try clear hk); (try clear hi)))
                      go_ret
                      exact ⟨by first | rfl | (simp [errW_none, errW_some] <;> rfl) | (simp [*, errW_none, errW_some] <;> rfl), by repeat (first | (with_reducible first | exact HB.out | apply below_alloc | apply pw_below_drewN | apply below_drew1) | exact HB.out)⟩
                  · rw [if_neg c46] at H
                    exact absurd H (by simp)
                · rw [if_neg c45] at H
                  have c45b0 : ((Int.tmod a0 6) == 3) = false := beq_eq_false_iff_ne.mpr c45
                  have c45b1 : ((Int.tmod a0 6) != 3) = true := bne_iff_ne.mpr c45
                  by_cases c61 : (Int.tmod a0 6) = 4
                  · rw [if_pos c61] at H
                    have c61b0 : ((Int.tmod a0 6) == 4) = true := beq_iff_eq.mpr c61
                    have c61b1 : ((Int.tmod a0 6) != 4) = false := bne_eq_false_iff_eq.mpr c61
                    clear c61
                    obtain ⟨y165, hy165⟩ : ∃ y_ : List (S52), y_ = (([(⟨2, 1, 0, 0, ([] : List (S84))⟩ : S52), (⟨5, 0, 0, 3, ([] : List (S84))⟩ : S52)] : List (S52))) := ⟨_, rfl⟩
                    replace H : (if x5_1.length + y165.length < 2513169434916 then ((prog_Check.f (x5_1 ++ y165)).bind fun bt171 => (if bt171.2 = 11 then (some (bt171.1 == (wrap64 ((wrap64 (Int.tmod a1 20)) + 1)))) else (some false))) else (none)) = some r := by first | (rw [hy165]; with_reducible exact H) | (have H2_ := (Option.bind_some _ _).symm.trans H; rw [hy165]; with_reducible exact H2_) | (have H2_ := (Option.bind_some _ _).symm.trans H; with_reducible exact H2_) | with_reducible exact H | (rw [hy165]; exact H) | exact H
                    have Ny165 := Aside0.mk hy165
                    clear hy165
                    by_cases c62 : x5_1.length + y165.length < 2513169434916
                    · rw [if_pos c62] at H
                      have LMc62 := Aside0.mk c62
                      clear c62
                      obtain ⟨y168, hy168⟩ : ∃ y_ : List (S52), y_ = (x5_1 ++ y165) := ⟨_, rfl⟩
                      replace H : ((prog_Check.f y168).bind fun bt171 => (if bt171.2 = 11 then (some (bt171.1 == (wrap64 ((wrap64 (Int.tmod a1 20)) + 1)))) else (some false))) = some r := by first | (rw [hy168]; with_reducible exact H) | (have H2_ := (Option.bind_some _ _).symm.trans H; rw [hy168]; with_reducible exact H2_) | (have H2_ := (Option.bind_some _ _).symm.trans H; with_reducible exact H2_) | with_reducible exact H | (rw [hy168]; exact H) | exact H
                      have Ny168 := Aside0.mk hy168
                      clear hy168
                      replace H := Option.bind_eq_some_iff.mp H
                      obtain ⟨⟨t171, t172⟩, A630, H⟩ := H
                      replace H : (if t172 = 11 then (some (t171 == (wrap64 ((wrap64 (Int.tmod a1 20)) + 1)))) else (some false)) = some r := H
                      have A63 := Aside0.mk A630
                      clear A630
                      by_cases c64 : t172 = 11
                      · rw [if_pos c64] at H
                        have c64b0 : (t172 == 11) = true := beq_iff_eq.mpr c64
                        have c64b1 : (t172 != 11) = false := bne_eq_false_iff_eq.mpr c64
                        clear c64
                        obtain rfl := Option.some.inj H
                        go_wp2_with (first | ((with_reducible refine gate_dst (N := 63) rfl ?_); refine Kd.N_lit k52 _ 52 ?hg (N' := 63) ?hd (xs := ([(⟨2, 1, 0, 0, ([] : List (S84))⟩ : S52), (⟨5, 0, 0, 3, ([] : List (S84))⟩ : S52)] : List (S52))) (inner := [.int .i64 2, .int .i64 1, .int .i64 0, .int .i64 0, .slice none 0 0, .int .i64 5, .int .i64 0, .int .i64 0, .int .i64 3, .slice none 0 0]) (ok := (fun k_ => some k_ ≠ (u5 : Value).ownBlock)) (okp := (fun k_ => some k_ ≠ (u5 : Value).ownBlock)) ?hr ?hp (fun _ hk => hk) ((show ∀ k_, wr.heap.size ≤ k_ → (fun k_ => some k_ ≠ (u5 : Value).ownBlock) k_ from fun k_ hk => Kd.fresh' (Kd.N_lt (by (with_reducible repeat (first | apply Kd.N_alloc | apply Kd.N_drewN | apply Kd.N_drew)); exact HO_5.out)) k_ hk) _ (Nat.le_refl _)) (Below.refl _ _) (Nat.le_refl _) (by simp) ?_; (case hd => rfl); (case hg => rfl); (case hr => first | (go_simp; done) | (go_simp; rfl)); (case hp => exact (Reps.c5 (show Kd.FK k52 _ _ (⟨2, 1, 0, 0, ([] : List (S84))⟩ : S52) [.int .i64 2, .int .i64 1, .int .i64 0, .int .i64 0, .slice none 0 0] from (k52_mkF _ _ (⟨2, 1, 0, 0, ([] : List (S84))⟩ : S52) (Nat.le_refl _) (Kd.F_nil _ _ _))) (Reps.c5 (show Kd.FK k52 _ _ (⟨5, 0, 0, 3, ([] : List (S84))⟩ : S52) [.int .i64 5, .int .i64 0, .int .i64 0, .int .i64 3, .slice none 0 0] from (k52_mkF _ _ (⟨5, 0, 0, 3, ([] : List (S84))⟩ : S52) (Nat.le_refl _) (Kd.F_nil _ _ _))) (Reps.none _ _)))); intro v166 w65 ho66 hb hg_ hnew_; clear hg_ hnew_; (first | rw [← Ny165.out] at ho66 | (simp only [Int.reduceToNat] at ho66; rw [← Ny165.out] at ho66)); have n0_ := Aside0.mk (Kd.N_elder' (by (with_reducible repeat (first | apply Kd.N_alloc | apply Kd.N_drewN | apply Kd.N_drew)); exact HO_5.out) (Kd.N_base ho66) hb); have n1_ := Aside0.mk (Kd.N_lower ho66 (below_size (by repeat (first | (with_reducible first | exact HB.out | apply below_alloc | apply pw_below_drewN | apply below_drew1) | exact HB.out)))); have n2_ := Aside0.mk (below_step (by repeat (first | (with_reducible first | exact HB.out | apply below_alloc | apply pw_below_drewN | apply below_drew1) | exact HB.out)) hb); clear HO_5; clear HB; have HO_5 := n0_; have HO167 := n1_; have HB := n2_; clear n0_ n1_ n2_; clear hb ho66; obtain ⟨Ao68, co68, eo68⟩ := Kd.N_slice HO167.out; subst eo68) | ((with_reducible refine gate_builtin (b := .append) (xs := #[.tmp 60, .tmp 63]) rfl ?_); at_builtin; refine Kd.N_append_rows k52 (w0 := w) w.heap.size rfl (.tmp 60) (.tmp 63) 25 52 (.agg #[(.int .i64 0), (.int .i64 0), (.int .i64 0), (.int .i64 0), (.slice none 0 0)]) 56 rfl Try.underlying25 info52 rfl (by decide) (by omega) u5 x5_1 y165 _ _ _ (fun _ => True) (fun k_ => ((fun _ => True)) k_ ∧ some k_ ≠ (u5 : Value).ownBlock) rfl rfl ?aO ?aR (fun _ hk => hk) ?aF ?aB ?aS ?aL ?_; (case aR => exact (by skip; exact Kd.N_F (Kd.N_mono (ok' := (fun k_ => ((fun _ => True)) k_ ∧ some k_ ≠ (u5 : Value).ownBlock)) (HO167.out) (fun k_ hk => ⟨trivial, hk⟩)))); (case aB => exact (by repeat (first | (with_reducible first | exact HB.out | apply below_alloc | apply pw_below_drewN | apply below_drew1) | exact HB.out))); (case aF => exact (fun _ _ => trivial)); (case aO => exact (by (with_reducible repeat (first | apply Kd.N_alloc | apply Kd.N_drewN | apply Kd.N_drew)); exact Kd.N_mono HO_5.out (fun _ hk => trivial))); (case aS => exact (below_size (by repeat (first | (with_reducible first | exact HB.out | apply below_alloc | apply pw_below_drewN | apply below_drew1) | exact HB.out)))); (case aL => have := LMc62.out; omega); intro v169 w67 ho hb hg hat; rw [← Ny168.out] at ho; have n0_ := Aside0.mk (Kd.N_afterv (ok := (fun _ => True)) (by (with_reducible repeat (first | apply Kd.N_alloc | apply Kd.N_drewN | apply Kd.N_drew)); exact Kd.N_mono HO167.out (fun _ hk => ⟨trivial, hk⟩)) hg hat); have n1_ := Aside0.mk (hb); have n2_ := Aside0.mk (ho); clear HO167; clear HB; clear HO_5; have HO167 := n0_; have HB := n1_; have HO170 := n2_; clear n0_ n1_ n2_; clear ho hb hg hat; obtain ⟨Ao69, co69, eo69⟩ := Kd.N_slice HO170.out; subst eo69) | ((with_reducible refine gate_callee (f := 12) rfl ?_); refine goesL_ (some 80) rfl rfl Try.func12 (by kernel_rfl) rfl #[.slice Ao69 y168.length co69] rfl (by (try simp only [List.map_toArray, List.map_cons, List.map_nil]); first | done | rfl | (simp only [List.length_drop, List.length_take]; rfl)) ?_; (with_reducible refine (prog_Check.calls _ _ y168 t171 t172 _ ?side1 ?side2 A63.out).mono ?_); (case side1 => repeat (first | exact (Kd.N_reads' HO170.out).2.2 | (with_reducible refine Kd.C_alloc ?_ _) | (with_reducible refine Kd.C_drewN ?_ _) | (with_reducible refine Kd.C_drew ?_))); (case side2 => exact (Kd.N_reads' HO170.out).2.1); rintro e w70 ⟨rfl, hb⟩; refine ⟨_, rfl, ?_⟩; have n0_ := Aside0.mk (Kd.N_below (by (with_reducible repeat (first | apply Kd.N_alloc | apply Kd.N_drewN | apply Kd.N_drew)); exact HO167.out) hb); have n1_ := Aside0.mk (Kd.N_below (by (with_reducible repeat (first | apply Kd.N_alloc | apply Kd.N_drewN | apply Kd.N_drew)); exact HO170.out) hb); have n2_ := Aside0.mk (below_step (by repeat (first | (with_reducible first | exact HB.out | apply below_alloc | apply pw_below_drewN | apply below_drew1) | exact HB.out)) hb); clear HO167; clear HO170; clear HB; have HO167 := n0_; have HO170 := n1_; have HB := n2_; clear n0_ n1_ n2_; (try clear hb); (try clear hb2); (try clear hk); (try clear hi)))
                        go_ret
                        exact ⟨by first | rfl | (simp [errW_none, errW_some] <;> rfl) | (simp [*, errW_none, errW_some] <;> rfl), by repeat (first | (with_reducible first | exact HB.out | apply below_alloc | apply pw_below_drewN | apply below_drew1) | exact HB.out)⟩
                      · rw [if_neg c64] at H
                        have c64b0 : (t172 == 11) = false := beq_eq_false_iff_ne.mpr c64
                        have c64b1 : (t172 != 11) = true := bne_iff_ne.mpr c64
                        obtain rfl := Option.some.inj H
                        go_wp2_with (first | ((with_reducible refine gate_dst (N := 63) rfl ?_); refine Kd.N_lit k52 _ 52 ?hg (N' := 63) ?hd (xs := ([(⟨2, 1, 0, 0, ([] : List (S84))⟩ : S52), (⟨5, 0, 0, 3, ([] : List (S84))⟩ : S52)] : List (S52))) (inner := [.int .i64 2, .int .i64 1, .int .i64 0, .int .i64 0, .slice none 0 0, .int .i64 5, .int .i64 0, .int .i64 0, .int .i64 3, .slice none 0 0]) (ok := (fun k_ => some k_ ≠ (u5 : Value).ownBlock)) (okp := (fun k_ => some k_ ≠ (u5 : Value).ownBlock)) ?hr ?hp (fun _ hk => hk) ((show ∀ k_, wr.heap.size ≤ k_ → (fun k_ => some k_ ≠ (u5 : Value).ownBlock) k_ from fun k_ hk => Kd.fresh' (Kd.N_lt (by (with_reducible repeat (first | apply Kd.N_alloc | apply Kd.N_drewN | apply Kd.N_drew)); exact HO_5.out)) k_ hk) _ (Nat.le_refl _)) (Below.refl _ _) (Nat.le_refl _) (by simp) ?_; (case hd => rfl); (case hg => rfl); (case hr => first | (go_simp; done) | (go_simp; rfl)); (case hp => exact (Reps.c5 (show Kd.FK k52 _ _ (⟨2, 1, 0, 0, ([] : List (S84))⟩ : S52) [.int .i64 2, .int .i64 1, .int .i64 0, .int .i64 0, .slice none 0 0] from (k52_mkF _ _ (⟨2, 1, 0, 0, ([] : List (S84))⟩ : S52) (Nat.le_refl _) (Kd.F_nil _ _ _))) (Reps.c5 (show Kd.FK k52 _ _ (⟨5, 0, 0, 3, ([] : List (S84))⟩ : S52) [.int .i64 5, .int .i64 0, .int .i64 0, .int .i64 3, .slice none 0 0] from (k52_mkF _ _ (⟨5, 0, 0, 3, ([] : List (S84))⟩ : S52) (Nat.le_refl _) (Kd.F_nil _ _ _))) (Reps.none _ _)))); intro v166 w71 ho72 hb hg_ hnew_; clear hg_ hnew_; (first | rw [← Ny165.out] at ho72 | (simp only [Int.reduceToNat] at ho72; rw [← Ny165.out] at ho72)); have n0_ := Aside0.mk (Kd.N_elder' (by (with_reducible repeat (first | apply Kd.N_alloc | apply Kd.N_drewN | apply Kd.N_drew)); exact HO_5.out) (Kd.N_base ho72) hb); have n1_ := Aside0.mk (Kd.N_lower ho72 (below_size (by repeat (first | (with_reducible first | exact HB.out | apply below_alloc | apply pw_below_drewN | apply below_drew1) | exact HB.out)))); have n2_ := Aside0.mk (below_step (by repeat (first | (with_reducible first | exact HB.out | apply below_alloc | apply pw_below_drewN | apply below_drew1) | exact HB.out)) hb); clear HO_5; clear HB; have HO_5 := n0_; have HO167 := n1_; have HB := n2_; clear n0_ n1_ n2_; clear hb ho72; obtain ⟨Ao74, co74, eo74⟩ := Kd.N_slice HO167.out; subst eo74) | ((with_reducible refine gate_builtin (b := .append) (xs := #[.tmp 60, .tmp 63]) rfl ?_); at_builtin; refine Kd.N_append_rows k52 (w0 := w) w.heap.size rfl (.tmp 60) (.tmp 63) 25 52 (.agg #[(.int .i64 0), (.int .i64 0), (.int .i64 0), (.int .i64 0), (.slice none 0 0)]) 56 rfl Try.underlying25 info52 rfl (by decide) (by omega) u5 x5_1 y165 _ _ _ (fun _ => True) (fun k_ => ((fun _ => True)) k_ ∧ some k_ ≠ (u5 : Value).ownBlock) rfl rfl ?aO ?aR (fun _ hk => hk) ?aF ?aB ?aS ?aL ?_; (case aR => exact (by skip; exact Kd.N_F (Kd.N_mono (ok' := (fun k_ => ((fun _ => True)) k_ ∧ some k_ ≠ (u5 : Value).ownBlock)) (HO167.out) (fun k_ hk => ⟨trivial, hk⟩)))); (case aB => exact (by repeat (first | (with_reducible first | exact HB.out | apply below_alloc | apply pw_below_drewN | apply below_drew1) | exact HB.out))); (case aF => exact (fun _ _ => trivial)); (case aO => exact (by (with_reducible repeat (first | apply Kd.N_alloc | apply Kd.N_drewN | apply Kd.N_drew)); exact Kd.N_mono HO_5.out (fun _ hk => trivial))); (case aS => exact (below_size (by repeat (first | (with_reducible first | exact HB.out | apply below_alloc | apply pw_below_drewN | apply below_drew1) | exact HB.out)))); (case aL => have := LMc62.out; omega); intro v169 w73 ho hb hg hat; rw [← Ny168.out] at ho; have n0_ := Aside0.mk (Kd.N_afterv (ok := (fun _ => True)) (by (with_reducible repeat (first | apply Kd.N_alloc | apply Kd.N_drewN | apply Kd.N_drew)); exact Kd.N_mono HO167.out (fun _ hk => ⟨trivial, hk⟩)) hg hat); have n1_ := Aside0.mk (hb); have n2_ := Aside0.mk (ho); clear HO167; clear HB; clear HO_5; have HO167 := n0_; have HB := n1_; have HO170 := n2_; clear n0_ n1_ n2_; clear ho hb hg hat; obtain ⟨Ao75, co75, eo75⟩ := Kd.N_slice HO170.out; subst eo75) | ((with_reducible refine gate_callee (f := 12) rfl ?_); refine goesL_ (some 80) rfl rfl Try.func12 (by kernel_rfl) rfl #[.slice Ao75 y168.length co75] rfl (by (try simp only [List.map_toArray, List.map_cons, List.map_nil]); first | done | rfl | (simp only [List.length_drop, List.length_take]; rfl)) ?_; (with_reducible refine (prog_Check.calls _ _ y168 t171 t172 _ ?side1 ?side2 A63.out).mono ?_); (case side1 => repeat (first | exact (Kd.N_reads' HO170.out).2.2 | (with_reducible refine Kd.C_alloc ?_ _) | (with_reducible refine Kd.C_drewN ?_ _) | (with_reducible refine Kd.C_drew ?_))); (case side2 => exact (Kd.N_reads' HO170.out).2.1); rintro e w76 ⟨rfl, hb⟩; refine ⟨_, rfl, ?_⟩; have n0_ := Aside0.mk (Kd.N_below (by (with_reducible repeat (first | apply Kd.N_alloc | apply Kd.N_drewN | apply Kd.N_drew)); exact HO167.out) hb); have n1_ := Aside0.mk (Kd.N_below (by (with_reducible repeat (first | apply Kd.N_alloc | apply Kd.N_drewN | apply Kd.N_drew)); exact HO170.out) hb); have n2_ := Aside0.mk (below_step (by repeat (first | (with_reducible first | exact HB.out | apply below_alloc | apply pw_below_drewN | apply below_drew1) | exact HB.out)) hb); clear HO167; clear HO170; clear HB; have HO167 := n0_; have HO170 := n1_; have HB := n2_; clear n0_ n1_ n2_; (try clear hb); (try clear hb2); (try clear hk); (try clear hi)))
                        go_ret
                        exact ⟨by first | rfl | (simp [errW_none, errW_some] <;> rfl) | (simp [*, errW_none, errW_some] <;> rfl), by repeat (first | (with_reducible first | exact HB.out | apply below_alloc | apply pw_below_drewN | apply below_drew1) | exact HB.out)⟩
                    · rw [if_neg c62] at H
                      exact absurd H (by simp)
                  · rw [if_neg c61] at H
                    have c61b0 : ((Int.tmod a0 6) == 4) = false := beq_eq_false_iff_ne.mpr c61
                    have c61b1 : ((Int.tmod a0 6) != 4) = true := bne_iff_ne.mpr c61
                    by_cases c77 : (Int.tmod a0 6) = 5
                    · rw [if_pos c77] at H
                      have c77b0 : ((Int.tmod a0 6) == 5) = true := beq_iff_eq.mpr c77
                      have c77b1 : ((Int.tmod a0 6) != 5) = false := bne_eq_false_iff_eq.mpr c77
                      clear c77
                      obtain ⟨y173, hy173⟩ : ∃ y_ : List (S52), y_ = (([(⟨8, 2, 0, 0, ([] : List (S84))⟩ : S52), (⟨2, 1, 0, 0, ([] : List (S84))⟩ : S52), (⟨9, 0, 0, 0, ([] : List (S84))⟩ : S52), (⟨3, 1, 0, 0, ([] : List (S84))⟩ : S52)] : List (S52))) := ⟨_, rfl⟩
                      replace H : (if x5_1.length + y173.length < 2513169434916 then ((prog_Check.f (x5_1 ++ y173)).bind fun bt179 => (if bt179.2 = 11 then (some (bt179.1 == (wrap64 ((wrap64 (Int.tmod a1 20)) + 2)))) else (some false))) else (none)) = some r := by first | (rw [hy173]; with_reducible exact H) | (have H2_ := (Option.bind_some _ _).symm.trans H; rw [hy173]; with_reducible exact H2_) | (have H2_ := (Option.bind_some _ _).symm.trans H; with_reducible exact H2_) | with_reducible exact H | (rw [hy173]; exact H) | exact H
                      have Ny173 := Aside0.mk hy173
                      clear hy173
                      by_cases c78 : x5_1.length + y173.length < 2513169434916
                      · rw [if_pos c78] at H
                        have LMc78 := Aside0.mk c78
                        clear c78
                        obtain ⟨y176, hy176⟩ : ∃ y_ : List (S52), y_ = (x5_1 ++ y173) := ⟨_, rfl⟩
                        replace H : ((prog_Check.f y176).bind fun bt179 => (if bt179.2 = 11 then (some (bt179.1 == (wrap64 ((wrap64 (Int.tmod a1 20)) + 2)))) else (some false))) = some r := by first | (rw [hy176]; with_reducible exact H) | (have H2_ := (Option.bind_some _ _).symm.trans H; rw [hy176]; with_reducible exact H2_) | (have H2_ := (Option.bind_some _ _).symm.trans H; with_reducible exact H2_) | with_reducible exact H | (rw [hy176]; exact H) | exact H
                        have Ny176 := Aside0.mk hy176
                        clear hy176
                        replace H := Option.bind_eq_some_iff.mp H
                        obtain ⟨⟨t179, t180⟩, A790, H⟩ := H
                        replace H : (if t180 = 11 then (some (t179 == (wrap64 ((wrap64 (Int.tmod a1 20)) + 2)))) else (some false)) = some r := H
                        have A79 := Aside0.mk A790
                        clear A790
                        by_cases c80 : t180 = 11
                        · rw [if_pos c80] at H
                          have c80b0 : (t180 == 11) = true := beq_iff_eq.mpr c80
                          have c80b1 : (t180 != 11) = false := bne_eq_false_iff_eq.mpr c80
                          clear c80
                          obtain rfl := Option.some.inj H
                          go_wp2_with (first | ((with_reducible refine gate_dst (N := 74) rfl ?_); refine Kd.N_lit k52 _ 52 ?hg (N' := 74) ?hd (xs := ([(⟨8, 2, 0, 0, ([] : List (S84))⟩ : S52), (⟨2, 1, 0, 0, ([] : List (S84))⟩ : S52), (⟨9, 0, 0, 0, ([] : List (S84))⟩ : S52), (⟨3, 1, 0, 0, ([] : List (S84))⟩ : S52)] : List (S52))) (inner := [.int .i64 8, .int .i64 2, .int .i64 0, .int .i64 0, .slice none 0 0, .int .i64 2, .int .i64 1, .int .i64 0, .int .i64 0, .slice none 0 0, .int .i64 9, .int .i64 0, .int .i64 0, .int .i64 0, .slice none 0 0, .int .i64 3, .int .i64 1, .int .i64 0, .int .i64 0, .slice none 0 0]) (ok := (fun k_ => some k_ ≠ (u5 : Value).ownBlock)) (okp := (fun k_ => some k_ ≠ (u5 : Value).ownBlock)) ?hr ?hp (fun _ hk => hk) ((show ∀ k_, wr.heap.size ≤ k_ → (fun k_ => some k_ ≠ (u5 : Value).ownBlock) k_ from fun k_ hk => Kd.fresh' (Kd.N_lt (by (with_reducible repeat (first | apply Kd.N_alloc | apply Kd.N_drewN | apply Kd.N_drew)); exact HO_5.out)) k_ hk) _ (Nat.le_refl _)) (Below.refl _ _) (Nat.le_refl _) (by simp) ?_; (case hd => rfl); (case hg => rfl); (case hr => first | (go_simp; done) | (go_simp; rfl)); (case hp => exact (Reps.c5 (show Kd.FK k52 _ _ (⟨8, 2, 0, 0, ([] : List (S84))⟩ : S52) [.int .i64 8, .int .i64 2, .int .i64 0, .int .i64 0, .slice none 0 0] from (k52_mkF _ _ (⟨8, 2, 0, 0, ([] : List (S84))⟩ : S52) (Nat.le_refl _) (Kd.F_nil _ _ _))) (Reps.c5 (show Kd.FK k52 _ _ (⟨2, 1, 0, 0, ([] : List (S84))⟩ : S52) [.int .i64 2, .int .i64 1, .int .i64 0, .int .i64 0, .slice none 0 0] from (k52_mkF _ _ (⟨2, 1, 0, 0, ([] : List (S84))⟩ : S52) (Nat.le_refl _) (Kd.F_nil _ _ _))) (Reps.c5 (show Kd.FK k52 _ _ (⟨9, 0, 0, 0, ([] : List (S84))⟩ : S52) [.int .i64 9, .int .i64 0, .int .i64 0, .int .i64 0, .slice none 0 0] from (k52_mkF _ _ (⟨9, 0, 0, 0, ([] : List (S84))⟩ : S52) (Nat.le_refl _) (Kd.F_nil _ _ _))) (Reps.c5 (show Kd.FK k52 _ _ (⟨3, 1, 0, 0, ([] : List (S84))⟩ : S52) [.int .i64 3, .int .i64 1, .int .i64 0, .int .i64 0, .slice none 0 0] from (k52_mkF _ _ (⟨3, 1, 0, 0, ([] : List (S84))⟩ : S52) (Nat.le_refl _) (Kd.F_nil _ _ _))) (Reps.none _ _)))))); intro v174 w81 ho82 hb hg_ hnew_; clear hg_ hnew_; (first | rw [← Ny173.out] at ho82 | (simp only [Int.reduceToNat] at ho82; rw [← Ny173.out] at ho82)); have n0_ := Aside0.mk (Kd.N_elder' (by (with_reducible repeat (first | apply Kd.N_alloc | apply Kd.N_drewN | apply Kd.N_drew)); exact HO_5.out) (Kd.N_base ho82) hb); have n1_ := Aside0.mk (Kd.N_lower ho82 (below_size (by repeat (first | (with_reducible first | exact HB.out | apply below_alloc | apply pw_below_drewN | apply below_drew1) | exact HB.out)))); have n2_ := Aside0.mk (below_step (by repeat (first | (with_reducible first | exact HB.out | apply below_alloc | apply pw_below_drewN | apply below_drew1) | exact HB.out)) hb); clear HO_5; clear HB; have HO_5 := n0_; have HO175 := n1_; have HB := n2_; clear n0_ n1_ n2_; clear hb ho82; obtain ⟨Ao84, co84, eo84⟩ := Kd.N_slice HO175.out; subst eo84) | ((with_reducible refine gate_builtin (b := .append) (xs := #[.tmp 69, .tmp 74]) rfl ?_); at_builtin; refine Kd.N_append_rows k52 (w0 := w) w.heap.size rfl (.tmp 69) (.tmp 74) 25 52 (.agg #[(.int .i64 0), (.int .i64 0), (.int .i64 0), (.int .i64 0), (.slice none 0 0)]) 56 rfl Try.underlying25 info52 rfl (by decide) (by omega) u5 x5_1 y173 _ _ _ (fun _ => True) (fun k_ => ((fun _ => True)) k_ ∧ some k_ ≠ (u5 : Value).ownBlock) rfl rfl ?aO ?aR (fun _ hk => hk) ?aF ?aB ?aS ?aL ?_; (case aR => exact (by skip; exact Kd.N_F (Kd.N_mono (ok' := (fun k_ => ((fun _ => True)) k_ ∧ some k_ ≠ (u5 : Value).ownBlock)) (HO175.out) (fun k_ hk => ⟨trivial, hk⟩)))); (case aB => exact (by repeat (first | (with_reducible first | exact HB.out | apply below_alloc | apply pw_below_drewN | apply below_drew1) | exact HB.out))); (case aF => exact (fun _ _ => trivial)); (case aO => exact (by (with_reducible repeat (first | apply Kd.N_alloc | apply Kd.N_drewN | apply Kd.N_drew)); exact Kd.N_mono HO_5.out (fun _ hk => trivial))); (case aS => exact (below_size (by repeat (first | (with_reducible first | exact HB.out | apply below_alloc | apply pw_below_drewN | apply below_drew1) | exact HB.out)))); (case aL => have := LMc78.out; omega); intro v177 w83 ho hb hg hat; rw [← Ny176.out] at ho; have n0_ := Aside0.mk (Kd.N_afterv (ok := (fun _ => True)) (by (with_reducible repeat (first | apply Kd.N_alloc | apply Kd.N_drewN | apply Kd.N_drew)); exact Kd.N_mono HO175.out (fun _ hk => ⟨trivial, hk⟩)) hg hat); have n1_ := Aside0.mk (hb); have n2_ := Aside0.mk (ho); clear HO175; clear HB; clear HO_5; have HO175 := n0_; have HB := n1_; have HO178 := n2_; clear n0_ n1_ n2_; clear ho hb hg hat; obtain ⟨Ao85, co85, eo85⟩ := Kd.N_slice HO178.out; subst eo85) | ((with_reducible refine gate_callee (f := 12) rfl ?_); refine goesL_ (some 80) rfl rfl Try.func12 (by kernel_rfl) rfl #[.slice Ao85 y176.length co85] rfl (by (try simp only [List.map_toArray, List.map_cons, List.map_nil]); first | done | rfl | (simp only [List.length_drop, List.length_take]; rfl)) ?_; (with_reducible refine (prog_Check.calls _ _ y176 t179 t180 _ ?side1 ?side2 A79.out).mono ?_); (case side1 => repeat (first | exact (Kd.N_reads' HO178.out).2.2 | (with_reducible refine Kd.C_alloc ?_ _) | (with_reducible refine Kd.C_drewN ?_ _) | (with_reducible refine Kd.C_drew ?_))); (case side2 => exact (Kd.N_reads' HO178.out).2.1); rintro e w86 ⟨rfl, hb⟩; refine ⟨_, rfl, ?_⟩; have n0_ := Aside0.mk (Kd.N_below (by (with_reducible repeat (first | apply Kd.N_alloc | apply Kd.N_drewN | apply Kd.N_drew)); exact HO175.out) hb); have n1_ := Aside0.mk (Kd.N_below (by (with_reducible repeat (first | apply Kd.N_alloc | apply Kd.N_drewN | apply Kd.N_drew)); exact HO178.out) hb); have n2_ := Aside0.mk (below_step (by repeat (first | (with_reducible first | exact HB.out | apply below_alloc | apply pw_below_drewN | apply below_drew1) | exact HB.out)) hb); clear HO175; clear HO178; clear HB; have HO175 := n0_; have HO178 := n1_; have HB := n2_; clear n0_ n1_ n2_; (try clear hb); (try clear hb2); (try clear hk); (try clear hi)))
                          go_ret
                          exact ⟨by first | rfl | (simp [errW_none, errW_some] <;> rfl) | (simp [*, errW_none, errW_some] <;> rfl), by repeat (first | (with_reducible first | exact HB.out | apply below_alloc | apply pw_below_drewN | apply below_drew1) | exact HB.out)⟩
                        · rw [if_neg c80] at H
                          have c80b0 : (t180 == 11) = false := beq_eq_false_iff_ne.mpr c80
                          have c80b1 : (t180 != 11) = true := bne_iff_ne.mpr c80
                          obtain rfl := Option.some.inj H
                          go_wp2_with (first | ((with_reducible refine gate_dst (N := 74) rfl ?_); refine Kd.N_lit k52 _ 52 ?hg (N' := 74) ?hd (xs := ([(⟨8, 2, 0, 0, ([] : List (S84))⟩ : S52), (⟨2, 1, 0, 0, ([] : List (S84))⟩ : S52), (⟨9, 0, 0, 0, ([] : List (S84))⟩ : S52), (⟨3, 1, 0, 0, ([] : List (S84))⟩ : S52)] : List (S52))) (inner := [.int .i64 8, .int .i64 2, .int .i64 0, .int .i64 0, .slice none 0 0, .int .i64 2, .int .i64 1, .int .i64 0, .int .i64 0, .slice none 0 0, .int .i64 9, .int .i64 0, .int .i64 0, .int .i64 0, .slice none 0 0, .int .i64 3, .int .i64 1, .int .i64 0, .int .i64 0, .slice none 0 0]) (ok := (fun k_ => some k_ ≠ (u5 : Value).ownBlock)) (okp := (fun k_ => some k_ ≠ (u5 : Value).ownBlock)) ?hr ?hp (fun _ hk => hk) ((show ∀ k_, wr.heap.size ≤ k_ → (fun k_ => some k_ ≠ (u5 : Value).ownBlock) k_ from fun k_ hk => Kd.fresh' (Kd.N_lt (by (with_reducible repeat (first | apply Kd.N_alloc | apply Kd.N_drewN | apply Kd.N_drew)); exact HO_5.out)) k_ hk) _ (Nat.le_refl _)) (Below.refl _ _) (Nat.le_refl _) (by simp) ?_; (case hd => rfl); (case hg => rfl); (case hr => first | (go_simp; done) | (go_simp; rfl)); (case hp => exact (Reps.c5 (show Kd.FK k52 _ _ (⟨8, 2, 0, 0, ([] : List (S84))⟩ : S52) [.int .i64 8, .int .i64 2, .int .i64 0, .int .i64 0, .slice none 0 0] from (k52_mkF _ _ (⟨8, 2, 0, 0, ([] : List (S84))⟩ : S52) (Nat.le_refl _) (Kd.F_nil _ _ _))) (Reps.c5 (show Kd.FK k52 _ _ (⟨2, 1, 0, 0, ([] : List (S84))⟩ : S52) [.int .i64 2, .int .i64 1, .int .i64 0, .int .i64 0, .slice none 0 0] from (k52_mkF _ _ (⟨2, 1, 0, 0, ([] : List (S84))⟩ : S52) (Nat.le_refl _) (Kd.F_nil _ _ _))) (Reps.c5 (show Kd.FK k52 _ _ (⟨9, 0, 0, 0, ([] : List (S84))⟩ : S52) [.int .i64 9, .int .i64 0, .int .i64 0, .int .i64 0, .slice none 0 0] from (k52_mkF _ _ (⟨9, 0, 0, 0, ([] : List (S84))⟩ : S52) (Nat.le_refl _) (Kd.F_nil _ _ _))) (Reps.c5 (show Kd.FK k52 _ _ (⟨3, 1, 0, 0, ([] : List (S84))⟩ : S52) [.int .i64 3, .int .i64 1, .int .i64 0, .int .i64 0, .slice none 0 0] from (k52_mkF _ _ (⟨3, 1, 0, 0, ([] : List (S84))⟩ : S52) (Nat.le_refl _) (Kd.F_nil _ _ _))) (Reps.none _ _)))))); intro v174 w87 ho88 hb hg_ hnew_; clear hg_ hnew_; (first | rw [← Ny173.out] at ho88 | (simp only [Int.reduceToNat] at ho88; rw [← Ny173.out] at ho88)); have n0_ := Aside0.mk (Kd.N_elder' (by (with_reducible repeat (first | apply Kd.N_alloc | apply Kd.N_drewN | apply Kd.N_drew)); exact HO_5.out) (Kd.N_base ho88) hb); have n1_ := Aside0.mk (Kd.N_lower ho88 (below_size (by repeat (first | (with_reducible first | exact HB.out | apply below_alloc | apply pw_below_drewN | apply below_drew1) | exact HB.out)))); have n2_ := Aside0.mk (below_step (by repeat (first | (with_reducible first | exact HB.out | apply below_alloc | apply pw_below_drewN | apply below_drew1) | exact HB.out)) hb); clear HO_5; clear HB; have HO_5 := n0_; have HO175 := n1_; have HB := n2_; clear n0_ n1_ n2_; clear hb ho88; obtain ⟨Ao90, co90, eo90⟩ := Kd.N_slice HO175.out; subst eo90) | ((with_reducible refine gate_builtin (b := .append) (xs := #[.tmp 69, .tmp 74]) rfl ?_); at_builtin; refine Kd.N_append_rows k52 (w0 := w) w.heap.size rfl (.tmp 69) (.tmp 74) 25 52 (.agg #[(.int .i64 0), (.int .i64 0), (.int .i64 0), (.int .i64 0), (.slice none 0 0)]) 56 rfl Try.underlying25 info52 rfl (by decide) (by omega) u5 x5_1 y173 _ _ _ (fun _ => True) (fun k_ => ((fun _ => True)) k_ ∧ some k_ ≠ (u5 : Value).ownBlock) rfl rfl ?aO ?aR (fun _ hk => hk) ?aF ?aB ?aS ?aL ?_; (case aR => exact (by skip; exact Kd.N_F (Kd.N_mono (ok' := (fun k_ => ((fun _ => True)) k_ ∧ some k_ ≠ (u5 : Value).ownBlock)) (HO175.out) (fun k_ hk => ⟨trivial, hk⟩)))); (case aB => exact (by repeat (first | (with_reducible first | exact HB.out | apply below_alloc | apply pw_below_drewN | apply below_drew1) | exact HB.out))); (case aF => exact (fun _ _ => trivial)); (case aO => exact (by (with_reducible repeat (first | apply Kd.N_alloc | apply Kd.N_drewN | apply Kd.N_drew)); exact Kd.N_mono HO_5.out (fun _ hk => trivial))); (case aS => exact (below_size (by repeat (first | (with_reducible first | exact HB.out | apply below_alloc | apply pw_below_drewN | apply below_drew1) | exact HB.out)))); (case aL => have := LMc78.out; omega); intro v177 w89 ho hb hg hat; rw [← Ny176.out] at ho; have n0_ := Aside0.mk (Kd.N_afterv (ok := (fun _ => True)) (by (with_reducible repeat (first | apply Kd.N_alloc | apply Kd.N_drewN | apply Kd.N_drew)); exact Kd.N_mono HO175.out (fun _ hk => ⟨trivial, hk⟩)) hg hat); have n1_ := Aside0.mk (hb); have n2_ := Aside0.mk (ho); clear HO175; clear HB; clear HO_5; have HO175 := n0_; have HB := n1_; have HO178 := n2_; clear n0_ n1_ n2_; clear ho hb hg hat; obtain ⟨Ao91, co91, eo91⟩ := Kd.N_slice HO178.out; subst eo91) | ((with_reducible refine gate_callee (f := 12) rfl ?_); refine goesL_ (some 80) rfl rfl Try.func12 (by kernel_rfl) rfl #[.slice Ao91 y176.length co91] rfl (by (try simp only [List.map_toArray, List.map_cons, List.map_nil]); first | done | rfl | (simp only [List.length_drop, List.length_take]; rfl)) ?_; (with_reducible refine (prog_Check.calls _ _ y176 t179 t180 _ ?side1 ?side2 A79.out).mono ?_); (case side1 => repeat (first | exact (Kd.N_reads' HO178.out).2.2 | (with_reducible refine Kd.C_alloc ?_ _) | (with_reducible refine Kd.C_drewN ?_ _) | (with_reducible refine Kd.C_drew ?_))); (case side2 => exact (Kd.N_reads' HO178.out).2.1); rintro e w92 ⟨rfl, hb⟩; refine ⟨_, rfl, ?_⟩; have n0_ := Aside0.mk (Kd.N_below (by (with_reducible repeat (first | apply Kd.N_alloc | apply Kd.N_drewN | apply Kd.N_drew)); exact HO175.out) hb); have n1_ := Aside0.mk (Kd.N_below (by (with_reducible repeat (first | apply Kd.N_alloc | apply Kd.N_drewN | apply Kd.N_drew)); exact HO178.out) hb); have n2_ := Aside0.mk (below_step (by repeat (first | (with_reducible first | exact HB.out | apply below_alloc | apply pw_below_drewN | apply below_drew1) | exact HB.out)) hb); clear HO175; clear HO178; clear HB; have HO175 := n0_; have HO178 := n1_; have HB := n2_; clear n0_ n1_ n2_; (try clear hb); (try clear hb2); (try clear hk); (try clear hi)))
                          go_ret
                          exact ⟨by first | rfl | (simp [errW_none, errW_some] <;> rfl) | (simp [*, errW_none, errW_some] <;> rfl), by repeat (first | (with_reducible first | exact HB.out | apply below_alloc | apply pw_below_drewN | apply below_drew1) | exact HB.out)⟩
                      · rw [if_neg c78] at H
                        exact absurd H (by simp)
                    · rw [if_neg c77] at H
                      have c77b0 : ((Int.tmod a0 6) == 5) = false := beq_eq_false_iff_ne.mpr c77
                      have c77b1 : ((Int.tmod a0 6) != 5) = true := bne_iff_ne.mpr c77
                      replace H := Option.bind_eq_some_iff.mp H
                      obtain ⟨⟨t181, t182⟩, A930, H⟩ := H
                      replace H : (if t182 = 11 then (some (t181 == (wrap64 (Int.tmod a1 20)))) else (some false)) = some r := H
                      have A93 := Aside0.mk A930
                      clear A930
                      by_cases c94 : t182 = 11
                      · rw [if_pos c94] at H
                        have c94b0 : (t182 == 11) = true := beq_iff_eq.mpr c94
                        have c94b1 : (t182 != 11) = false := bne_eq_false_iff_eq.mpr c94
                        clear c94
                        obtain rfl := Option.some.inj H
                        obtain ⟨Ao95, co95, eo95⟩ := Kd.N_slice HO_5.out
                        subst eo95
                        go_wp2_with (first | ((with_reducible refine gate_callee (f := 12) rfl ?_); refine goesL_ (some 80) rfl rfl Try.func12 (by kernel_rfl) rfl #[.slice Ao95 x5_1.length co95] rfl (by (try simp only [List.map_toArray, List.map_cons, List.map_nil]); first | done | rfl | (simp only [List.length_drop, List.length_take]; rfl)) ?_; (with_reducible refine (prog_Check.calls _ _ x5_1 t181 t182 _ ?side1 ?side2 A93.out).mono ?_); (case side1 => repeat (first | exact (Kd.N_reads' HO_5.out).2.2 | (with_reducible refine Kd.C_alloc ?_ _) | (with_reducible refine Kd.C_drewN ?_ _) | (with_reducible refine Kd.C_drew ?_))); (case side2 => exact (Kd.N_reads' HO_5.out).2.1); rintro e w96 ⟨rfl, hb⟩; refine ⟨_, rfl, ?_⟩; have n0_ := Aside0.mk (Kd.N_below (by (with_reducible repeat (first | apply Kd.N_alloc | apply Kd.N_drewN | apply Kd.N_drew)); exact HO_5.out) hb); have n1_ := Aside0.mk (below_step (by repeat (first | (with_reducible first | exact HB.out | apply below_alloc | apply pw_below_drewN | apply below_drew1) | exact HB.out)) hb); clear HO_5; clear HB; have HO_5 := n0_; have HB := n1_; clear n0_ n1_; (try clear hb); (try clear hb2); (try clear hk); (try clear hi)))
                        go_ret
                        exact ⟨by first | rfl | (simp [errW_none, errW_some] <;> rfl) | (simp [*, errW_none, errW_some] <;> rfl), by repeat (first | (with_reducible first | exact HB.out | apply below_alloc | apply pw_below_drewN | apply below_drew1) | exact HB.out)⟩
                      · rw [if_neg c94] at H
                        have c94b0 : (t182 == 11) = false := beq_eq_false_iff_ne.mpr c94
                        have c94b1 : (t182 != 11) = true := bne_iff_ne.mpr c94
                        obtain rfl := Option.some.inj H
                        obtain ⟨Ao97, co97, eo97⟩ := Kd.N_slice HO_5.out
                        subst eo97
                        go_wp2_with (first | ((with_reducible refine gate_callee (f := 12) rfl ?_); refine goesL_ (some 80) rfl rfl Try.func12 (by kernel_rfl) rfl #[.slice Ao97 x5_1.length co97] rfl (by (try simp only [List.map_toArray, List.map_cons, List.map_nil]); first | done | rfl | (simp only [List.length_drop, List.length_take]; rfl)) ?_; (with_reducible refine (prog_Check.calls _ _ x5_1 t181 t182 _ ?side1 ?side2 A93.out).mono ?_); (case side1 => repeat (first | exact (Kd.N_reads' HO_5.out).2.2 | (with_reducible refine Kd.C_alloc ?_ _) | (with_reducible refine Kd.C_drewN ?_ _) | (with_reducible refine Kd.C_drew ?_))); (case side2 => exact (Kd.N_reads' HO_5.out).2.1); rintro e w98 ⟨rfl, hb⟩; refine ⟨_, rfl, ?_⟩; have n0_ := Aside0.mk (Kd.N_below (by (with_reducible repeat (first | apply Kd.N_alloc | apply Kd.N_drewN | apply Kd.N_drew)); exact HO_5.out) hb); have n1_ := Aside0.mk (below_step (by repeat (first | (with_reducible first | exact HB.out | apply below_alloc | apply pw_below_drewN | apply below_drew1) | exact HB.out)) hb); clear HO_5; clear HB; have HO_5 := n0_; have HB := n1_; clear n0_ n1_; (try clear hb); (try clear hb2); (try clear hk); (try clear hi)))
                        go_ret
                        exact ⟨by first | rfl | (simp [errW_none, errW_some] <;> rfl) | (simp [*, errW_none, errW_some] <;> rfl), by repeat (first | (with_reducible first | exact HB.out | apply below_alloc | apply pw_below_drewN | apply below_drew1) | exact HB.out)⟩
  · replace c4 := Bool.eq_false_iff.mpr c4
    subst c4
    have H1 : (some false) = some r := by rw [if_neg (show ¬ (false = true) by decide)] at H; exact H
    clear H
    have H := H1
    clear H1
    obtain rfl := Option.some.inj H
    go_enter Try.func7, Try.ntmps7
    go_wp2_with (first | ((with_reducible refine gate_callee (f := 9) rfl ?_); refine goesL_ (some 11) rfl rfl Try.func9 (by kernel_rfl) rfl #[] rfl (by (try simp only [List.map_toArray, List.map_cons, List.map_nil]); first | done | rfl | (simp only [List.length_drop, List.length_take]; rfl)) ?_; (with_reducible refine (watchbilllaw6_known.calls  false _ A3.out).mono ?_); rintro e w99 ⟨rfl, hb⟩; refine ⟨_, rfl, ?_⟩; have n0_ := Aside0.mk (below_step (by repeat (first | (with_reducible first | exact HB.out | apply below_alloc | apply pw_below_drewN | apply below_drew1) | exact HB.out)) hb); clear HB; have HB := n0_; clear n0_; (try clear hb); (try clear hb2); (try clear hk); (try clear hi)))
    go_ret
    exact ⟨by first | rfl | (simp [errW_none, errW_some] <;> rfl) | (simp [*, errW_none, errW_some] <;> rfl), by repeat (first | (with_reducible first | exact HB.out | apply below_alloc | apply pw_below_drewN | apply below_drew1) | exact HB.out)⟩

/-- THE ONE PURE STATEMENT of watchbilllaw6_ProgOrder: yours. -/
def watchbilllaw6_ProgOrder.Pure : Prop := ∀ (a0 : Int) (a1 : Int), (Lit.int .u8 a0).wf = true → (Lit.int .u8 a1).wf = true → ∃ k, watchbilllaw6_ProgOrder.f k a0 a1 = some true
theorem watchbilllaw6_ProgOrder.walk (P : watchbilllaw6_ProgOrder.Pure) (a0 : Int) (a1 : Int) (w : World) (w0 : (Lit.int .u8 a0).wf = true) (w1 : (Lit.int .u8 a1).wf = true) :
    Calls Try.prog 7 #[.int .u8 a0, .int .u8 a1] w fun e w' => e = .returned (.bool true) ∧ Below w.heap.size w w' := by
  obtain ⟨k, h⟩ := P a0 a1 w0 w1
  refine (watchbilllaw6_ProgOrder.calls k a0 a1 true w h).mono ?_
  rintro e w' ⟨rfl, hd⟩
  exact ⟨rfl, hd⟩

end Go.Proofs.Ytjnhahdelipebaa.XA
