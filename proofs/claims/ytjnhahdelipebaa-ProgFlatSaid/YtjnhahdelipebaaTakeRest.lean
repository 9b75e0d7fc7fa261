/- (*order).take at the other kinds, Unlock, End, Loop. -/
import Derived.Test.YtjnhahdelipebaaTakeLock
namespace Go.Proofs.Ytjnhahdelipebaa.XA
set_option linter.unusedVariables false
set_option linter.unusedSimpArgs false
open Go.RowKit Go.Proofs.YtjnhahdelipebaaW.PrintWords Go.Proofs.YtjnhahdelipebaaW.PrintLast Go.Proofs.YtjnhahdelipebaaW.PrintMore
open Go.Proofs.YtjnhahdelipebaaH (Upd Rd)
set_option maxHeartbeats 16000000 in
set_option maxRecDepth 100000 in
theorem take_other (w0 w : World) (b : Nat) (hv fv : Value) (h : List Int) (fs : List FrmP) (hO : OrdAt w0 w b hv fv h fs) (k n v wt : Int) (A : Option Addr) (m c : Nat) (hl : h.length ≤ 1000) (h2 : k ≠ 2) (h3 : k ≠ 3) (h8 : k ≠ 8) (h9 : k ≠ 9) (r : Bool) (hr : r = !decide ((k = 4 ∨ k = 5 ∨ k = 7) ∧ wt ≠ 0 ∧ 0 < h.length)) :
    Calls Try.prog 34 #[.pointer (some ⟨b, 0, none⟩), .agg #[.int .i64 k, .int .i64 n, .int .i64 v, .int .i64 wt, .slice A m c]] w fun e w' => e = .returned (.bool r) ∧ OrdAt w0 w' b hv fv h fs := by
  obtain ⟨va, vc, rfl, hvc⟩ := Go.Proofs.YtjnhahdelipebaaH.own_slice hO.held
  obtain ⟨oa, oc, rfl, hoc⟩ := Go.Proofs.YtjnhahdelipebaaH.own_slice hO.first
  obtain ⟨x0, x1, f0, f1, hlt⟩ := hO.cells
  have HO := Lib.hid hO
  obtain ⟨N, hN⟩ : ∃ N, N = h.length := ⟨_, rfl⟩
  obtain ⟨F, hF⟩ : ∃ F, F = fs.length := ⟨_, rfl⟩
  rw [← hN] at x0 hl hr hvc
  rw [← hF] at x1
  have t2 : (k == 2) = false := beq_eq_false_iff_ne.2 h2
  have t3 : (k == 3) = false := beq_eq_false_iff_ne.2 h3
  have t8 : (k == 8) = false := beq_eq_false_iff_ne.2 h8
  have t9 : (k == 9) = false := beq_eq_false_iff_ne.2 h9
  have hF2 := Lib.hid hF
  have hN2 := Lib.hid hN
  have HR := Lib.hid hr
  clear hN hF hO hoc h2 h3 h8 h9 hr
  by_cases hw : (k = 4 ∨ k = 5 ∨ k = 7) ∧ wt ≠ 0
  · have HW := Lib.hid (show decide ((k = 4 ∨ k = 5 ∨ k = 7) ∧ wt ≠ 0) = true from decide_eq_true hw)
    have hrr : (N : Int) = 0 ∧ r = true ∨ ((N : Int) == 0) = false ∧ r = false := by
      have := HR.out
      by_cases h0 : N = 0
      · left
        refine ⟨by omega, ?_⟩
        rw [decide_eq_false (by omega)] at this
        exact this
      · right
        refine ⟨by simp; omega, ?_⟩
        rw [decide_eq_true ⟨hw.1, hw.2, by omega⟩] at this
        exact this
    clear HR hw
    rcases hrr with ⟨e1, e2⟩ | ⟨e1, e2⟩
    · have t0 : ((N : Int) == 0) = true := by simp [e1]
      clear e1
      subst e2
      go_enter Try.func34, Try.ntmps34
      go_wp2_with (first | (go_at_call 42; refine (pWaits_any k n v wt A m c _ true HW.out).mono ?_; rintro e w1 ⟨rfl, hb1⟩; have hO2 := HO.out.step (((Upd.refl [] _).alloc (.cells #[.int .i64 k, .int .i64 n, .int .i64 v, .int .i64 wt, .slice A m c] 52)).trans0 (Upd.of_below hb1)); obtain ⟨y0, y1, g0, g1, hlt1⟩ := hO2.cells; rw [← hN2.out] at y0; have HO2 := Lib.hid hO2; clear hO2 y1 g0 g1 hb1 HO x0 x1 f0 f1))
      go_wp2
      go_ret
      exact ⟨rfl, HO2.out⟩
    · subst e2
      go_enter Try.func34, Try.ntmps34
      go_wp2_with (first | (go_at_call 42; refine (pWaits_any k n v wt A m c _ true HW.out).mono ?_; rintro e w1 ⟨rfl, hb1⟩; have hO2 := HO.out.step (((Upd.refl [] _).alloc (.cells #[.int .i64 k, .int .i64 n, .int .i64 v, .int .i64 wt, .slice A m c] 52)).trans0 (Upd.of_below hb1)); obtain ⟨y0, y1, g0, g1, hlt1⟩ := hO2.cells; rw [← hN2.out] at y0; have HO2 := Lib.hid hO2; clear hO2 y1 g0 g1 hb1 HO x0 x1 f0 f1))
      go_wp2
      go_ret
      exact ⟨rfl, HO2.out⟩
  · have HW := Lib.hid (show decide ((k = 4 ∨ k = 5 ∨ k = 7) ∧ wt ≠ 0) = false from decide_eq_false hw)
    have hrr : r = true := by
      have := HR.out
      rw [decide_eq_false (fun c => hw ⟨c.1, c.2.1⟩)] at this
      exact this
    clear HR hw
    subst hrr
    go_enter Try.func34, Try.ntmps34
    go_wp2_with (first | (go_at_call 42; refine (pWaits_any k n v wt A m c _ false HW.out).mono ?_; rintro e w1 ⟨rfl, hb1⟩; have hO2 := HO.out.step (((Upd.refl [] _).alloc (.cells #[.int .i64 k, .int .i64 n, .int .i64 v, .int .i64 wt, .slice A m c] 52)).trans0 (Upd.of_below hb1)); obtain ⟨y0, y1, g0, g1, hlt1⟩ := hO2.cells; rw [← hN2.out] at y0; have HO2 := Lib.hid hO2; clear hO2 y1 g0 g1 hb1 HO x0 x1 f0 f1))
    go_wp2
    go_ret
    exact ⟨rfl, HO2.out⟩
end Go.Proofs.Ytjnhahdelipebaa.XA
