/- The reference's Next, and both Nexts at whatever numbers. -/
import Derived.Test.YtgeejlcnnldogaaRtaFix
import Derived.Test.YtgeejlcnnldogaaXAx10
import Derived.Test.YtgeejlcnnldogaaXAx11
namespace Go.Proofs.Ytgeejlcnnldogaa.Pure
set_option linter.unusedVariables false
set_option linter.unusedSimpArgs false
open Go.RowKit Go.Proofs.Ytgeejlcnnldogaa.XA Go.Proofs.YtgeejlcnnldogaaW.PrintWords Go.Proofs.YtgeejlcnnldogaaW.PrintLast

def conv (x : S58) : S66 := ⟨x.f0, x.f1⟩
def okB (x : S58) : Bool := decide (1 ≤ x.f0) && decide (0 ≤ x.f1)
/-- One round at whatever numbers. -/
def nextA (r own : Int) (l : List S58) : Int × Int := if (l.all okB && (decide (0 ≤ r) && decide (0 ≤ own))) = true then (if own + loadS r l ≤ 9223372036854775807 then (own + loadS r l, 0) else (0, 14)) else (0, 1)

theorem drop_cons {α : Type} {l : List α} {q : Nat} (z : α) (h : q < l.length) : l.drop q = l.getD q z :: l.drop (q + 1) := by
  rw [List.drop_eq_getElem_cons h]
  simp [List.getD, h]

theorem may_loopA (r own : Int) (l : List S58) (hn : l.length ≤ 9223372036854775800) : ∀ d q : Nat, l.length - q = d → q ≤ l.length →
    Ev (fun k => rta_may.l0 k r own l (l.length : Int) q) ((l.drop q).all okB && (decide (0 ≤ r) && decide (0 ≤ own))) := by
  intro d
  induction d with
  | zero =>
    intro q hd hq
    have hdr : l.drop q = [] := List.drop_of_length_le (by omega)
    rw [hdr]
    refine Ev.step (f := fun _ => some _) (fun k => ?_) (Ev.now _)
    rw [rta_may.l0, if_neg (by omega)]
    by_cases h : r ≥ 0
    · rw [if_pos h]
      simp [h]
    · rw [if_neg h]
      have : decide (0 ≤ r) = false := decide_eq_false h
      rw [this]
      rfl
  | succ d ih =>
    intro q hd hq
    have hdr := drop_cons z58 (show q < l.length by omega)
    have hx : rd_T58 l q = l.getD q z58 := by simp [rd_T58]
    rw [hdr, List.all_cons]
    generalize l.getD q z58 = x at hx ⊢
    by_cases h1 : x.f0 < 1
    · have hb : okB x = false := by unfold okB; rw [decide_eq_false (by omega)]; rfl
      rw [hb]
      refine Ev.step (f := fun _ => some _) (fun k => ?_) (Ev.now _)
      rw [rta_may.l0, if_pos (by omega), if_pos (by omega), if_pos (by omega), hx, if_pos h1]
      rfl
    · by_cases h2 : x.f1 < 0
      · have hb : okB x = false := by unfold okB; rw [decide_eq_false (show ¬ 0 ≤ x.f1 by omega), Bool.and_false]
        rw [hb]
        refine Ev.step (f := fun _ => some _) (fun k => ?_) (Ev.now _)
        rw [rta_may.l0, if_pos (by omega), if_pos (by omega), if_pos (by omega), hx, if_neg h1, if_pos h2]
        rfl
      · have hb : okB x = true := by unfold okB; rw [decide_eq_true (by omega), decide_eq_true (by omega)]; rfl
        rw [hb, Bool.true_and]
        refine Ev.step (fun k => ?_) (ih (q + 1) (by omega) (by omega))
        rw [rta_may.l0, if_pos (by omega), if_pos (by omega), if_pos (by omega), hx, if_neg h1, if_neg h2, w1 (by omega)]

theorem all_ok {l : List S58} (hup : ∀ x ∈ l, x.f1 ≤ 9223372036854775807) (h : l.all okB = true) : OkL l := by
  intro x hx
  have := List.all_eq_true.1 h x hx
  simp only [okB, Bool.and_eq_true, decide_eq_true_eq] at this
  exact ⟨this.1, this.2, hup x hx⟩

theorem next_any (r own : Int) (hr2 : r ≤ 9223372036854775807) (ho2 : own ≤ 9223372036854775807) (l : List S58) (hup : ∀ x ∈ l, x.f1 ≤ 9223372036854775807) (hn : l.length ≤ 9223372036854775800) :
    Ev (fun k => rta_Next.f k r own l) (nextA r own l) := by
  have hm := may_loopA r own l hn l.length 0 (by omega) (by omega)
  rw [List.drop_zero] at hm
  unfold rta_Next.f nextA
  refine Ev.bind hm ?_
  by_cases hb : (l.all okB && (decide (0 ≤ r) && decide (0 ≤ own))) = true
  · rw [hb]
    simp only [if_true]
    simp only [Bool.and_eq_true, decide_eq_true_eq] at hb
    have := next_loop r hb.2.1 hr2 l (all_ok hup hb.1) hn l.length 0 own (by omega) (by omega) hb.2.2 ho2
    rw [List.drop_zero] at this
    exact this
  · rw [if_neg hb]
    rw [Bool.not_eq_true] at hb
    rw [hb]
    exact Ev.congr (fun k => by simp) (Ev.now _)

theorem ref_loop (r : Int) (hr : 0 ≤ r) (hr2 : r ≤ 9223372036854775807) (l : List S58) (hok : OkL l) (hn : l.length ≤ 9223372036854775800) : ∀ (d q : Nat) (n : Int), l.length - q = d → q ≤ l.length → 0 ≤ n → n ≤ 9223372036854775807 →
    Ev (fun k => watchbillref13_Next.l1 k r (l.map conv) n q) (if n + loadS r (l.drop q) ≤ 9223372036854775807 then (n + loadS r (l.drop q), 0) else (0, 14)) := by
  have hlm : (l.map conv).length = l.length := List.length_map ..
  intro d
  induction d with
  | zero =>
    intro q n hd hq h0 h1
    have hdr : l.drop q = [] := List.drop_of_length_le (by omega)
    rw [hdr, loadS, Int.add_zero, if_pos h1]
    exact Ev.step (f := fun _ => some _) (fun k => by rw [watchbillref13_Next.l1, if_neg (by omega)]) (Ev.now _)
  | succ d ih =>
    intro q n hd hq h0 h1
    have hlt : q < l.length := by omega
    have hdr := drop_cons z58 hlt
    have hx : l.getD q z58 ∈ l := by simp [List.getD, hlt]
    have hrd : rd_T66 (l.map conv) q = conv (l.getD q z58) := by simp [rd_T66, List.getD, hlt]
    rw [hdr, loadS]
    generalize l.getD q z58 = x at hx hrd ⊢
    have hf0 : (conv x).f0 = x.f0 := rfl
    have hf1 : (conv x).f1 = x.f1 := rfl
    have hb := hok _ hx
    have hrest := loadS_nonneg hr (l.drop (q + 1)) (fun y hy => hok y (List.mem_of_mem_drop hy))
    have ho0 := often_nonneg hr hb.1
    have hdv : Int.tdiv r x.f0 = r / x.f0 := Int.tdiv_eq_ediv_of_nonneg hr
    have hmd : Int.tmod r x.f0 = r % x.f0 := Int.tmod_eq_emod_of_nonneg hr
    have hd0 := Int.ediv_nonneg hr (show 0 ≤ x.f0 by omega)
    have hdle : r / x.f0 ≤ r := Int.ediv_le_self _ hr
    have hp := Int.mul_nonneg ho0 hb.2.1
    have hcase : often r x.f0 ≤ 9223372036854775807 → Ev (fun k => watchbillref13_Next.j3 k r (l.map conv) n q (often r x.f0)) (if n + (often r x.f0 * x.f1 + loadS r (l.drop (q + 1))) ≤ 9223372036854775807 then (n + (often r x.f0 * x.f1 + loadS r (l.drop (q + 1))), 0) else (0, 14)) := by
      intro ho2
      have hfin : often r x.f0 * x.f1 ≤ 9223372036854775807 → Ev (fun k => watchbillref13_Next.j4 k r (l.map conv) n q (often r x.f0) false) (if n + (often r x.f0 * x.f1 + loadS r (l.drop (q + 1))) ≤ 9223372036854775807 then (n + (often r x.f0 * x.f1 + loadS r (l.drop (q + 1))), 0) else (0, 14)) := by
        intro hmul
        by_cases hov : often r x.f0 * x.f1 > 9223372036854775807 - n
        · rw [if_neg (by omega)]
          refine Ev.step (f := fun _ => some _) (fun k => ?_) (Ev.now _)
          rw [watchbillref13_Next.j4, if_neg (by decide), if_pos (by omega), if_pos (by omega), hrd, hf1, w64 (x := often r x.f0 * x.f1) (by omega) hmul, w64 (x := 9223372036854775807 - n) (by omega) (by omega), if_pos hov]
        · have hi := ih (q + 1) (n + often r x.f0 * x.f1) (by omega) (by omega) (by omega) (by omega)
          rw [Int.add_assoc] at hi
          refine Ev.step (fun k => ?_) hi
          rw [watchbillref13_Next.j4, if_neg (by decide), if_pos (by omega), if_pos (by omega), hrd, hf1, w64 (x := often r x.f0 * x.f1) (by omega) hmul, w64 (x := 9223372036854775807 - n) (by omega) (by omega), if_neg hov, w64 (x := n + often r x.f0 * x.f1) (by omega) (by omega), w1 (by omega)]
      by_cases hc : x.f1 > 0
      · have hq0 : 0 ≤ 9223372036854775807 / x.f1 := Int.ediv_nonneg (by decide) (by omega)
        have hq1 : 9223372036854775807 / x.f1 ≤ 9223372036854775807 := Int.ediv_le_self _ (by decide)
        have hqe := Int.mul_ediv_add_emod 9223372036854775807 x.f1
        have hqm := Int.emod_lt_of_pos 9223372036854775807 hc
        have hqn := Int.emod_nonneg 9223372036854775807 (show x.f1 ≠ 0 by omega)
        by_cases hbig : often r x.f0 > 9223372036854775807 / x.f1
        · have hmul : 9223372036854775807 < often r x.f0 * x.f1 := by
            have := Int.mul_le_mul_of_nonneg_right (show 9223372036854775807 / x.f1 + 1 ≤ often r x.f0 by omega) hb.2.1
            rw [Int.add_mul, Int.mul_comm (9223372036854775807 / x.f1)] at this
            omega
          rw [if_neg (by omega)]
          have hj : Ev (fun k => watchbillref13_Next.j4 k r (l.map conv) n q (often r x.f0) true) ((0, 14) : Int × Int) := Ev.step (f := fun _ => some _) (fun k => by rw [watchbillref13_Next.j4, if_pos rfl]) (Ev.now _)
          refine Ev.step (fun k => ?_) hj
          rw [watchbillref13_Next.j3, if_pos (by omega), if_pos (by omega), hrd, hf1, if_pos hc, if_neg (by omega), w64 (x := 9223372036854775807 / x.f1) (by omega) (by omega), decide_eq_true hbig]
        · have hmul : often r x.f0 * x.f1 ≤ 9223372036854775807 := by
            have := Int.mul_le_mul_of_nonneg_right (show often r x.f0 ≤ 9223372036854775807 / x.f1 by omega) hb.2.1
            rw [Int.mul_comm (9223372036854775807 / x.f1)] at this
            omega
          refine Ev.step (fun k => ?_) (hfin hmul)
          rw [watchbillref13_Next.j3, if_pos (by omega), if_pos (by omega), hrd, hf1, if_pos hc, if_neg (by omega), w64 (x := 9223372036854775807 / x.f1) (by omega) (by omega), decide_eq_false hbig]
      · have hc0 : x.f1 = 0 := by omega
        refine Ev.step (fun k => ?_) (hfin (by rw [hc0]; omega))
        rw [watchbillref13_Next.j3, if_pos (by omega), if_pos (by omega), hrd, hf1, if_neg hc]
    by_cases hz : r % x.f0 > 0
    · have hp2 : 2 ≤ x.f0 := by
        rcases Int.lt_or_le x.f0 2 with h | h
        · have : x.f0 = 1 := by omega
          rw [this] at hz
          omega
        · exact h
      have hdm := Int.mul_ediv_add_emod r x.f0
      have hdb : r / x.f0 + 1 ≤ 9223372036854775807 := by
        have : 2 * (r / x.f0) ≤ x.f0 * (r / x.f0) := Int.mul_le_mul_of_nonneg_right hp2 hd0
        omega
      have hof : often r x.f0 = r / x.f0 + 1 := by unfold often; rw [if_pos hz]
      refine Ev.step (fun k => ?_) (hcase (by omega))
      rw [watchbillref13_Next.l1, if_pos (by omega), if_pos (by omega), hrd, hf0, if_neg (by omega), if_pos (by rw [hmd]; exact hz), hdv, w64 (x := r / x.f0) (by omega) (by omega), w64 (x := r / x.f0 + 1) (by omega) (by omega), hof]
    · have hof : often r x.f0 = r / x.f0 := by unfold often; rw [if_neg hz]; omega
      refine Ev.step (fun k => ?_) (hcase (by omega))
      rw [watchbillref13_Next.l1, if_pos (by omega), if_pos (by omega), hrd, hf0, if_neg (by omega), if_neg (by rw [hmd]; exact hz), hdv, w64 (x := r / x.f0) (by omega) (by omega), hof]

theorem ref_any (r own : Int) (hr2 : r ≤ 9223372036854775807) (ho2 : own ≤ 9223372036854775807) (l : List S58) (hup : ∀ x ∈ l, x.f1 ≤ 9223372036854775807) (hn : l.length ≤ 9223372036854775800) :
    Ev (fun k => watchbillref13_Next.f k r own (l.map conv)) (nextA r own l) := by
  have hlm : (l.map conv).length = l.length := List.length_map ..
  have hscan : 0 ≤ r → 0 ≤ own → ∀ d q : Nat, l.length - q = d → q ≤ l.length → (l.take q).all okB = true → Ev (fun k => watchbillref13_Next.l0 k r own (l.map conv) q) (nextA r own l) := by
    intro hr ho d
    induction d with
    | zero =>
      intro q hd hq hall
      obtain rfl : q = l.length := by omega
      rw [List.take_length] at hall
      have h := ref_loop r hr hr2 l (all_ok hup hall) hn l.length 0 own (by omega) (by omega) ho ho2
      rw [List.drop_zero] at h
      unfold nextA
      rw [hall, decide_eq_true hr, decide_eq_true ho]
      simp only [Bool.and_self, if_true]
      refine Ev.step (fun k => ?_) h
      rw [watchbillref13_Next.l0, if_neg (by omega)]
      rfl
    | succ d ih =>
      intro q hd hq hall
      have hlt : q < l.length := by omega
      have hrd : rd_T66 (l.map conv) q = conv (l.getD q z58) := by simp [rd_T66, List.getD, hlt]
      have hmem : l.getD q z58 ∈ l := by simp [List.getD, hlt]
      have htk : l.take (q + 1) = l.take q ++ [l.getD q z58] := by
        rw [List.take_succ_eq_append_getElem hlt]
        simp [List.getD, hlt]
      generalize l.getD q z58 = x at hrd hmem htk
      have hf0 : (conv x).f0 = x.f0 := rfl
      have hf1 : (conv x).f1 = x.f1 := rfl
      have hbad : okB x = false → nextA r own l = (0, 1) := by
        intro hb
        have : l.all okB = false := by
          rw [List.all_eq_false]
          exact ⟨_, hmem, by rw [hb]; simp⟩
        unfold nextA
        rw [this]
        rfl
      by_cases h1 : x.f0 < 1
      · rw [hbad (by unfold okB; rw [decide_eq_false (by omega)]; rfl)]
        refine Ev.step (f := fun _ => some _) (fun k => ?_) (Ev.now _)
        rw [watchbillref13_Next.l0, if_pos (by omega), if_pos (by omega), hrd, hf0, if_pos h1]
      · by_cases h2 : x.f1 < 0
        · rw [hbad (by unfold okB; rw [decide_eq_false (show ¬ 0 ≤ x.f1 by omega), Bool.and_false])]
          refine Ev.step (f := fun _ => some _) (fun k => ?_) (Ev.now _)
          rw [watchbillref13_Next.l0, if_pos (by omega), if_pos (by omega), hrd, hf0, hf1, if_neg h1, if_pos h2]
        · have hb : okB x = true := by unfold okB; rw [decide_eq_true (by omega), decide_eq_true (by omega)]; rfl
          refine Ev.step (fun k => ?_) (ih (q + 1) (by omega) (by omega) (by rw [htk, List.all_append, hall]; simp [hb]))
          rw [watchbillref13_Next.l0, if_pos (by omega), if_pos (by omega), hrd, hf0, hf1, if_neg h1, if_neg h2, w1 (by omega)]
  have hneg : ¬ (0 ≤ r ∧ 0 ≤ own) → nextA r own l = (0, 1) := by
    intro h
    unfold nextA
    have : (decide (0 ≤ r) && decide (0 ≤ own)) = false := by
      rw [Bool.eq_false_iff]
      intro h2
      simp only [Bool.and_eq_true, decide_eq_true_eq] at h2
      exact h h2
    rw [this, Bool.and_false]
    rfl
  have out : Ev (fun k => watchbillref13_Next.j0 k r own (l.map conv) true) ((0, 1) : Int × Int) := Ev.step (f := fun _ => some _) (fun k => by rw [watchbillref13_Next.j0, if_pos rfl]) (Ev.now _)
  unfold watchbillref13_Next.f
  by_cases hr : r < 0
  · rw [hneg (by omega)]
    exact Ev.congr (fun k => by rw [if_pos hr]) out
  · by_cases ho : own < 0
    · rw [hneg (by omega)]
      exact Ev.congr (fun k => by rw [if_neg hr, decide_eq_true ho]) out
    · refine Ev.congr (fun k => by rw [if_neg hr, decide_eq_false ho]) ?_
      refine Ev.step (fun k => by rw [watchbillref13_Next.j0, if_neg (by decide)]) ?_
      exact hscan (by omega) (by omega) l.length 0 (by omega) (by omega) (by simp)

theorem loads_ev (l : List S58) (hn : l.length ≤ 1000000) : Ev (fun k => watchbilllaw12_Loads.f k l) (l.map conv) := by
  have h : ∀ d q : Nat, l.length - q = d → q ≤ l.length → Ev (fun k => watchbilllaw12_Loads.l0 k l ((l.take q).map conv) q) (l.map conv) := by
    intro d
    induction d with
    | zero =>
      intro q hd hq
      rw [List.take_of_length_le (by omega)]
      exact Ev.step (f := fun _ => some _) (fun k => by rw [watchbilllaw12_Loads.l0, if_neg (by omega)]) (Ev.now _)
    | succ d ih =>
      intro q hd hq
      have hlt : q < l.length := by omega
      have htk : l.take (q + 1) = l.take q ++ [l.getD q z58] := by
        rw [List.take_succ_eq_append_getElem hlt]
        simp [List.getD, hlt]
      have hrd : rd_T58 l q = l.getD q z58 := by simp [rd_T58]
      refine Ev.step (fun k => ?_) (ih (q + 1) (by omega) (by omega))
      rw [watchbilllaw12_Loads.l0, if_pos (by omega), if_pos (by omega), if_pos (by simp; omega), hrd, w1 (by omega), htk, List.map_append]
      rfl
  have := h l.length 0 (by omega) (by omega)
  rw [List.take_zero] at this
  exact this
end Go.Proofs.Ytgeejlcnnldogaa.Pure
