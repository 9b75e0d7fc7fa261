/- RtaFix: the program's Fix is the reference's, at whatever numbers; what it tells is the least number that is its own round. -/
import Derived.Test.YtgeejlcnnldogaaRtaNextWalk
import Derived.Test.YtgeejlcnnldogaaXAx12
import Derived.Test.YtgeejlcnnldogaaXAx11
namespace Go.Proofs.Ytgeejlcnnldogaa.Pure
set_option linter.unusedVariables false
set_option linter.unusedSimpArgs false
open Go.RowKit Go.Proofs.Ytgeejlcnnldogaa.XA Go.Proofs.YtgeejlcnnldogaaW.PrintWords Go.Proofs.YtgeejlcnnldogaaW.PrintLast Go.Proofs.YtgeejlcnnldogaaW.PrintMore

def fixOk (own : Int) (l : List S58) (most : Int) : Bool := l.all okB && decide (0 ≤ own) && decide (0 ≤ most)
def fixA (own : Int) (l : List S58) (most : Int) : Int × Int × Int := if fixOk own l most = true then fixG own l most 1000 0 own else (0, 0, 1)
theorem loadS_zero : ∀ l : List S58, loadS 0 l = 0
  | [] => rfl
  | x :: l => by simp [loadS, often, loadS_zero l]

theorem fix_any (own most : Int) (ho2 : own ≤ 9223372036854775807) (hm2 : most ≤ 9223372036854775807) (l : List S58) (hup : ∀ x ∈ l, x.f1 ≤ 9223372036854775807) (hn : l.length ≤ 9223372036854775800) :
    Ev (fun k => rta_Fix.f k own l most) (fixA own l most) := by
  have hm := may_loopA 0 own l hn l.length 0 (by omega) (by omega)
  rw [List.drop_zero] at hm
  unfold rta_Fix.f fixA fixOk
  refine Ev.bind hm ?_
  have h00 : decide ((0 : Int) ≤ 0) = true := by decide
  rw [h00, Bool.true_and]
  have out : Ev (fun k => rta_Fix.j0 k own l most true) ((0, 0, 1) : Int × Int × Int) := Ev.step (f := fun _ => some _) (fun k => by rw [rta_Fix.j0, if_pos rfl]) (Ev.now _)
  by_cases hb : (l.all okB && decide (0 ≤ own)) = true
  · rw [hb, Bool.true_and]
    simp only [if_true]
    simp only [Bool.and_eq_true, decide_eq_true_eq] at hb
    by_cases hmo : most < 0
    · have h1 : decide (0 ≤ most) = false := decide_eq_false (by omega)
      rw [h1]
      simp only [Bool.false_eq_true, if_false]
      exact Ev.congr (fun k => by rw [decide_eq_true hmo]) out
    · have h1 : decide (0 ≤ most) = true := decide_eq_true (by omega)
      rw [h1]
      simp only [if_true]
      refine Ev.congr (f := fun k => rta_Fix.j0 k own l most false) (fun k => by rw [decide_eq_false hmo]) ?_
      refine Ev.step (fun k => by rw [rta_Fix.j0, if_neg (by decide)]) ?_
      exact fix_loop own most hb.2 ho2 hm2 l (all_ok hup hb.1) hn 1000 0 own (by omega) hb.2 ho2
  · rw [Bool.not_eq_true] at hb
    rw [hb]
    simp only [Bool.false_and, Bool.false_eq_true, if_false]
    exact out

theorem ref_fix_loop (own most : Int) (ho : 0 ≤ own) (ho2 : own ≤ 9223372036854775807) (hm2 : most ≤ 9223372036854775807) (l : List S58) (hall : l.all okB = true) (hup : ∀ x ∈ l, x.f1 ≤ 9223372036854775807) (hn : l.length ≤ 9223372036854775800) : ∀ (d i : Nat) (r : Int), i + d = 1000 → 0 ≤ r → r ≤ 9223372036854775807 →
    Ev (fun k => watchbillref13_Fix.l0 k own (l.map conv) most r (i + 1 : Nat)) (fixG own l most d i r) := by
  intro d
  induction d with
  | zero =>
    intro i r hd h0 h1
    unfold fixG
    by_cases hr : r > most
    · rw [if_pos hr]
      exact Ev.step (f := fun _ => some _) (fun k => by rw [watchbillref13_Fix.l0, if_neg (by omega), if_pos hr]) (Ev.now _)
    · rw [if_neg hr]
      exact Ev.step (f := fun _ => some _) (fun k => by rw [watchbillref13_Fix.l0, if_neg (by omega), if_neg hr]) (Ev.now _)
  | succ d ih =>
    intro i r hd h0 h1
    unfold fixG
    by_cases hr : r > most
    · rw [if_pos hr]
      exact Ev.step (f := fun _ => some _) (fun k => by rw [watchbillref13_Fix.l0, if_pos (by omega), if_pos hr]) (Ev.now _)
    · rw [if_neg hr]
      have hne := ref_any r own h1 ho2 l hup hn
      have hA : nextA r own l = if own + loadS r l ≤ 9223372036854775807 then (own + loadS r l, 0) else (0, 14) := by
        unfold nextA
        rw [hall, decide_eq_true h0, decide_eq_true ho]
        rfl
      rw [hA] at hne
      have hS := loadS_nonneg h0 l (all_ok hup hall)
      refine Ev.step (fun k => by rw [watchbillref13_Fix.l0, if_pos (by omega), if_neg hr]) (Ev.bind hne ?_)
      by_cases hov : own + loadS r l ≤ 9223372036854775807
      · rw [if_pos hov, if_pos hov]
        simp only [if_true]
        by_cases he : own + loadS r l = r
        · rw [if_pos he, he]
          simp only [if_true]
          refine Ev.congr (fun k => ?_) (Ev.now _)
          rfl
        · simp only [if_neg he]
          rw [w1 (by omega)]
          exact ih (i + 1) _ (by omega) (by omega) hov
      · rw [if_neg hov, if_neg hov]
        refine Ev.congr (fun k => ?_) (Ev.now _)
        rfl
theorem ref_fix_any (own most : Int) (ho2 : own ≤ 9223372036854775807) (hm2 : most ≤ 9223372036854775807) (l : List S58) (hup : ∀ x ∈ l, x.f1 ≤ 9223372036854775807) (hn : l.length ≤ 9223372036854775800) :
    Ev (fun k => watchbillref13_Fix.f k own (l.map conv) most) (fixA own l most) := by
  have hne := ref_any 0 own (by omega) ho2 l hup hn
  unfold watchbillref13_Fix.f fixA fixOk
  refine Ev.bind hne ?_
  have h00 : decide ((0 : Int) ≤ 0) = true := by decide
  unfold nextA
  rw [h00, Bool.true_and, loadS_zero, Int.add_zero]
  by_cases hb : (l.all okB && decide (0 ≤ own)) = true
  · rw [hb, if_pos rfl, if_pos ho2, Bool.true_and]
    simp only [if_true]
    simp only [Bool.and_eq_true, decide_eq_true_eq] at hb
    by_cases hmo : most < 0
    · have h1 : decide (0 ≤ most) = false := decide_eq_false (by omega)
      rw [h1]
      simp only [Bool.false_eq_true, if_false]
      exact Ev.congr (fun k => by rw [if_pos hmo]) (Ev.now _)
    · have h1 : decide (0 ≤ most) = true := decide_eq_true (by omega)
      rw [h1]
      simp only [if_true]
      refine Ev.congr (fun k => by rw [if_neg hmo]; rfl) (ref_fix_loop own most hb.2 ho2 hm2 l hb.1 hup hn 1000 0 own (by omega) hb.2 ho2)
  · rw [Bool.not_eq_true] at hb
    rw [hb]
    simp only [Bool.false_and, Bool.false_eq_true, if_false]
    refine Ev.congr (fun k => ?_) (Ev.now _)
    simp

theorem fixG_kind (own : Int) (l : List S58) (most : Int) : ∀ (d i : Nat) (r : Int), i + d = 1000 → (∃ q n : Int, fixG own l most d i r = (q, n, 0) ∧ 1 ≤ n ∧ n ≤ 1000) ∨ (∃ e : Int, e ≠ 0 ∧ fixG own l most d i r = (0, 0, e)) := by
  intro d
  induction d with
  | zero =>
    intro i r hd
    unfold fixG
    split
    · exact .inr ⟨13, by decide, rfl⟩
    · exact .inr ⟨15, by decide, rfl⟩
  | succ d ih =>
    intro i r hd
    unfold fixG
    split
    · exact .inr ⟨13, by decide, rfl⟩
    · split
      · split
        · exact .inl ⟨_, _, rfl, by omega, by omega⟩
        · exact ih (i + 1) _ (by omega)
      · exact .inr ⟨14, by decide, rfl⟩
theorem fixG_least (own : Int) (l : List S58) (hok : OkL l) (most b : Int) (hb0 : 0 ≤ b) (hb : own + loadS b l ≤ b) (ho : 0 ≤ own) : ∀ (d i : Nat) (r q n : Int), 0 ≤ r → r ≤ b → fixG own l most d i r = (q, n, 0) → q ≤ b := by
  intro d
  induction d with
  | zero =>
    intro i r q n h0 h1 h
    unfold fixG at h
    split at h <;> simp at h
  | succ d ih =>
    intro i r q n h0 h1 h
    unfold fixG at h
    split at h
    · simp at h
    · split at h
      · split at h
        · simp only [Prod.mk.injEq] at h
          omega
        · have h2 := loadS_nonneg h0 l hok
          have h3 := loadS_mono h0 h1 l hok
          exact ih (i + 1) _ q n (by omega) (by omega) h
      · simp at h

theorem RtaFix_ev (own : Int) (l : List S58) (most : Int) (ho : (Lit.int .i64 own).wf = true) (hl : ∀ x ∈ l, WfL x) (hm : (Lit.int .i64 most).wf = true) : Ev (fun k => watchbilllaw12_RtaFix.f k own l most) true := by
  have ho' := i64_of ho
  have hm' := i64_of hm
  unfold watchbilllaw12_RtaFix.f watchbilllaw12_known.f
  simp only [Option.bind_some, if_true]
  by_cases h1 : (l.length : Int) > 30
  · exact Ev.congr (fun k => by rw [if_pos h1]) (Ev.now true)
  · refine Ev.congr (fun k => by rw [if_neg h1]) ?_
    have hup : ∀ x ∈ l, x.f1 ≤ 9223372036854775807 := fun x hx => (i64_of (hl x hx).2).2
    refine Ev.bind (fix_any own most ho'.2 hm'.2 l hup (by omega)) (Ev.bind (loads_ev l (by omega)) (Ev.bind (ref_fix_any own most ho'.2 hm'.2 l hup (by omega)) ?_))
    simp only [if_true, bne_self_eq_false]
    have hbad : ∀ e : Int, e ≠ 0 → fixA own l most = (0, 0, e) → Ev (fun k => watchbilllaw12_RtaFix.j0 k own l most (fixA own l most).1 (fixA own l most).2.1 (fixA own l most).2.2 false) true := by
      intro e he h
      rw [h]
      refine Ev.step (f := fun _ => some true) (fun k => ?_) (Ev.now true)
      rw [watchbilllaw12_RtaFix.j0, if_neg (by decide), if_neg he, if_pos rfl]
      rfl
    by_cases hk : fixOk own l most = true
    · have hfa : fixA own l most = fixG own l most 1000 0 own := by unfold fixA; rw [if_pos hk]
      simp only [fixOk, Bool.and_eq_true, decide_eq_true_eq] at hk
      obtain ⟨⟨hall, h0⟩, hmo⟩ := hk
      have hok := all_ok hup hall
      have hS0 := loadS_nonneg h0 l hok
      rcases fixG_kind own l most 1000 0 own (by omega) with ⟨q, n, hg, hn1, hn2⟩ | ⟨e, he, hg⟩
      · obtain ⟨g1, g2, g3, -, -⟩ := fixG_ok own l hok most 1000 0 own q n h0 hg (by omega)
        have hne := next_any q own (by omega) ho'.2 l hup (by omega)
        have hA : ∀ b : Int, 0 ≤ b → b ≤ q → nextA b own l = (own + loadS b l, 0) := by
          intro b hb0 hbq
          have := loadS_mono hb0 hbq l hok
          unfold nextA
          rw [hall, decide_eq_true hb0, decide_eq_true h0]
          simp only [Bool.and_self, if_true]
          rw [if_pos (by omega)]
        rw [hA q (by omega) (Int.le_refl _), g3] at hne
        have hloop : ∀ (d : Nat) (b : Int), (q - b).toNat = d → 0 ≤ b → b ≤ q → Ev (fun k => watchbilllaw12_RtaFix.l0 k own l q b) true := by
          intro d
          induction d with
          | zero =>
            intro b hd hb0 hbq
            exact Ev.step (f := fun _ => some true) (fun k => by rw [watchbilllaw12_RtaFix.l0, if_neg (by omega)]) (Ev.now true)
          | succ d ih =>
            intro b hd hb0 hbq
            have hb1 := next_any b own (by omega) ho'.2 l hup (by omega)
            rw [hA b hb0 hbq] at hb1
            have hgt : ¬ own + loadS b l ≤ b := by
              intro hle
              have hSb := loadS_nonneg hb0 l hok
              have := fixG_least own l hok most b hb0 hle h0 1000 0 own q n h0 (by omega) hg
              omega
            refine Ev.step (fun k => by rw [watchbilllaw12_RtaFix.l0, if_pos (by omega)]) (Ev.bind hb1 ?_)
            simp only [if_true, if_neg hgt]
            rw [w64 (by omega) (by omega)]
            exact ih (b + 1) (by omega) (by omega) (by omega)
        rw [hfa, hg]
        refine Ev.step (fun k => by rw [watchbilllaw12_RtaFix.j0, if_neg (by decide), if_pos rfl]) (Ev.bind hne ?_)
        simp only [if_true]
        have hq1 : ¬ q > most := by omega
        have hq2 : ¬ n < 1 := by omega
        have hq3 : decide (n > 1000) = false := decide_eq_false (by omega)
        simp only [if_neg hq1, if_neg hq2, hq3]
        refine Ev.step (fun k => by rw [watchbilllaw12_RtaFix.j1, if_neg (by decide), w64 (x := q - 50) (by omega) (by omega)]) ?_
        refine hloop (q - mx 0 (q - 50)).toNat _ rfl ?_ ?_
        · unfold mx
          split <;> omega
        · unfold mx
          split <;> omega
      · exact hbad e he (by rw [hfa, hg])
    · refine hbad 1 (by decide) ?_
      unfold fixA
      rw [if_neg hk]
theorem rtaFix_walk (own : Int) (a : Option Addr) (cap : Nat) (l : List S58) (most : Int) (W : World) (ho : (Lit.int .i64 own).wf = true) (hc : l.length ≤ cap) (h : Kd.C k58 W a l.length l) (hl : ∀ x ∈ l, WfL x) (hm : (Lit.int .i64 most).wf = true) :
    Calls Try.prog 4 #[.int .i64 own, .slice a l.length cap, .int .i64 most] W fun e w' => e = .returned (.bool true) ∧ Below W.heap.size W w' := by
  obtain ⟨k, hk⟩ := (RtaFix_ev own l most ho hl hm).rounds
  exact watchbilllaw12_RtaFix.calls k own a cap l most true W h hc hk
end Go.Proofs.Ytgeejlcnnldogaa.Pure
