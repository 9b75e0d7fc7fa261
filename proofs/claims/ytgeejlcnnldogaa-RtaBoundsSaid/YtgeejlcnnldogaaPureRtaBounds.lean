/- What is taken within a bound is taken within any greater one, in as many rounds, and within its own answer; one less is late. -/
import Derived.Test.YtgeejlcnnldogaaRtaLoads
import Derived.Test.YtgeejlcnnldogaaXAx14
namespace Go.Proofs.Ytgeejlcnnldogaa.Pure
set_option linter.unusedVariables false
set_option linter.unusedSimpArgs false
open Go.RowKit Go.Proofs.Ytgeejlcnnldogaa.XA Go.Proofs.YtgeejlcnnldogaaW.PrintWords Go.Proofs.YtgeejlcnnldogaaW.PrintLast Go.Proofs.YtgeejlcnnldogaaW.PrintMore

theorem bounds_end (own most : Int) (ho : 0 ≤ own ∧ own ≤ 255) (hm : 0 ≤ most ∧ most ≤ 65535) (a : List S58) (ha : SmallL a) (hn : a.length ≤ 100) :
    Ev (fun k => (rta_Fix.f k own a most).bind fun bt319 => (if bt319.2.2 = 0 then ((rta_Fix.f k own a (most + 1000)).bind fun bt322 => ((rta_Fix.f k own a bt319.1).bind fun bt325 => (if (wrap64 (bt322.2.2 + bt325.2.2)) = 0 then (if bt322.1 = bt319.1 then (if bt325.1 = bt319.1 then (if bt322.2.1 = bt319.2.1 then (watchbilllaw12_RtaBounds.j1 k own a bt319.1 (bt325.2.1 != bt319.2.1)) else (watchbilllaw12_RtaBounds.j1 k own a bt319.1 true)) else (watchbilllaw12_RtaBounds.j1 k own a bt319.1 true)) else (watchbilllaw12_RtaBounds.j1 k own a bt319.1 true)) else (watchbilllaw12_RtaBounds.j1 k own a bt319.1 true)))) else (if bt319.1 = 0 then (if bt319.2.1 = 0 then (if bt319.2.2 = 13 then (some true) else (some (bt319.2.2 == 15))) else (some false)) else (some false)))) true := by
  have hln : a.length ≤ 9223372036854775800 := by omega
  have e1 := fix_ev own most ho.1 (by omega) hm.1 (by omega) a ha.ok hln
  have hS0 := loadS_nonneg ho.1 a ha.ok
  rcases fixG_bad own a most (small_no own (by omega) a ha hn most (by omega)) (small_pos own ho.1 a ha) 1000 0 own ho.1 with ⟨q, n, h⟩ | h | h
  · rw [h] at e1
    refine Ev.bind e1 ?_
    simp only [if_true]
    have hgrow : own ≤ own + loadS own a := by omega
    obtain ⟨h1, h2, h3, h4, h5⟩ := fixG_ok own a ha.ok most 1000 0 own q n ho.1 h hgrow
    have e2 := fix_ev own (most + 1000) ho.1 (by omega) (by omega) (by omega) a ha.ok hln
    rw [h4 (most + 1000) (by omega)] at e2
    have e3 := fix_ev own q ho.1 (by omega) (by omega) (by omega) a ha.ok hln
    rw [h4 q (Int.le_refl _)] at e3
    refine Ev.bind e2 (Ev.bind e3 ?_)
    have hw : wrap64 (0 + 0) = 0 := w64 (by decide) (by decide)
    simp only [hw, if_true, bne_self_eq_false]
    by_cases hq : q = 0
    · subst hq
      exact Ev.step (f := fun _ => some true) (fun k => by rw [watchbilllaw12_RtaBounds.j1, if_neg (by decide), if_pos rfl]) (Ev.now true)
    · have e4 := fix_ev own (q - 1) ho.1 (by omega) (by omega) (by omega) a ha.ok hln
      rw [h5] at e4
      refine Ev.step (fun k => by rw [watchbilllaw12_RtaBounds.j1, if_neg (by decide), if_neg hq, w64 (x := own) (by omega) (by omega), w64 (x := q - 1) (by omega) (by omega)]) (Ev.bind e4 ?_)
      exact Ev.now true
  · rw [h] at e1
    refine Ev.bind e1 (Ev.congr (fun k => ?_) (Ev.now true))
    simp
  · rw [h] at e1
    refine Ev.bind e1 (Ev.congr (fun k => ?_) (Ev.now true))
    simp

theorem bounds_loop (own most : Int) (ho : 0 ≤ own ∧ own ≤ 255) (hm : 0 ≤ most ∧ most ≤ 65535) (l : List Int) (hl : ∀ x ∈ l, 0 ≤ x ∧ x ≤ 255) (hn : l.length ≤ 20) : ∀ (d j : Nat), l.length / 2 - j = d → 2 * j ≤ l.length →
    Ev (fun k => watchbilllaw12_RtaBounds.l0 k own l most (lds l j) (2 * j : Nat)) true := by
  intro d
  induction d with
  | zero =>
    intro j hd hj
    have h := bounds_end own most ho hm (lds l j) (lds_small l hl j) (by rw [lds_len]; omega)
    refine Ev.step (fun k => ?_) h
    rw [watchbilllaw12_RtaBounds.l0, if_neg (by rw [w64 (by omega) (by omega)]; omega), w64 (x := own) (by omega) (by omega), w64 (x := most) (by omega) (by omega), w64 (x := most + 1000) (by omega) (by omega)]
  | succ d ih =>
    intro j hd hj
    have hlt : 2 * j + 1 < l.length := by omega
    refine Ev.step (fun k => ?_) (ih (j + 1) (by omega) (by omega))
    have e1 : wrap64 (((2 * j : Nat) : Int) + 2) = ((2 * (j + 1) : Nat) : Int) := by rw [w64 (by omega) (by omega)]; omega
    rw [watchbilllaw12_RtaBounds.l0, if_pos (by rw [w1 (by omega)]; omega), if_pos (by omega), if_pos (by omega), if_pos (by rw [w1 (by omega)]; omega), if_pos (by rw [lds_len]; omega), elt l hl j (by omega), e1, ← lds_succ]

theorem RtaBounds : watchbilllaw12_RtaBounds.Pure := by
  intro own l most ho hm h8 hwf hmo
  have ho' := u8_of ho
  have hm' := u16_of hmo
  have hl : ∀ x ∈ l, 0 ≤ x ∧ x ≤ 255 := fun x hx => u8_of (hwf x hx)
  refine Ev.rounds (r := true) ?_
  unfold watchbilllaw12_RtaBounds.f watchbilllaw12_known.f
  simp only [Option.bind_some, if_true]
  by_cases h1 : (l.length : Int) > 20
  · exact Ev.congr (fun k => by rw [if_pos h1]) (Ev.now true)
  · refine Ev.congr (fun k => by rw [if_neg h1]) ?_
    exact bounds_loop own most ho' hm' l hl (by omega) (l.length / 2) 0 (by omega) (by omega)
end Go.Proofs.Ytgeejlcnnldogaa.Pure
