/- Of any deadlines the priorities are one each, 1 to as many as there are; a lesser deadline has the greater one, of alike ones the first. -/
import Derived.Test.YthdmomaephiodaaXAx12
namespace Go.Proofs.Ythdmomaephiodaa.Pure
open Go.RowKit Go.Proofs.Ythdmomaephiodaa.XA Go.Proofs.YthdmomaephiodaaW.PrintWords Go.Proofs.YthdmomaephiodaaW.PrintLast
open Go.Proofs.YthdmomaephiodaaH (prios dlt prios_get prios_len ahead_lt ahead_iff)

theorem known_ev : Ev (fun k => watchbilllaw9_known.f k) true := Ev.of watchbilllaw9_known.mono (k := 20) (by kernel_rfl)

theorem w64 {x : Int} (h0 : -9223372036854775808 ≤ x) (h1 : x ≤ 9223372036854775807) : wrap64 x = x := by unfold wrap64; omega
theorem u8_of {x : Int} (h : (Lit.int .u8 x).wf = true) : 0 ≤ x ∧ x ≤ 255 := Go.Proofs.YthdmomaephiodaaH.wf_u8 h

/-- A task of a deadline. -/
def tsk (l : List Int) (i : Nat) : S48 := ⟨strOfNums ([(wrap64 (97 + (i : Int))) % 256] : List Int), 300, wrap64 (1 + (wrap64 (rd l i))), 1, [⟨1, 1, 0, 0, []⟩]⟩
def tsks (l : List Int) (n : Nat) : List S48 := (List.range n).map (tsk l)

theorem dls_tsks (l : List Int) (hl : ∀ x ∈ l, 0 ≤ x ∧ x ≤ 255) : dls (tsks l l.length) = l.map (1 + ·) := by
  apply List.ext_getElem
  · simp [dls, tsks]
  · intro i h1 h2
    have hi : i < l.length := by simpa using h2
    have hb := hl _ (List.getElem_mem hi)
    simp only [dls, tsks, tsk, List.getElem_map, List.getElem_range, rd]
    have : l.getD ((i : Int).toNat) 0 = l[i] := by simp [List.getD, hi]
    rw [this, w64 (x := l[i]) (by omega) (by omega), w64 (by omega) (by omega)]

section
variable (l : List Int) (hn : l.length ≤ 12) (hl : ∀ x ∈ l, 0 ≤ x ∧ x ≤ 255)

theorem l2_ev (ds : List Int) (hds : ds = l.map (1 + ·)) (hn : l.length ≤ 12) (i : Nat) (hi : i < l.length) (r : Bool) (hr : Ev (fun k => watchbilllaw9_OrderDeadlines.l1 k l (prios ds) (wrap64 ((i : Int) + 1))) r) :
    ∀ d j : Nat, i - j = d → j ≤ i → Ev (fun k => watchbilllaw9_OrderDeadlines.l2 k l (prios ds) i j) r := by
  have hdl : ds.length = l.length := by rw [hds]; simp
  have hpl : (prios ds).length = l.length := by rw [prios_len, hdl]
  intro d
  induction d with
  | zero =>
    intro j hd hj
    obtain rfl : j = i := by omega
    exact Ev.step (fun k => by rw [watchbilllaw9_OrderDeadlines.l2, if_neg (by omega)]) hr
  | succ d ih =>
    intro j hd hj
    have hji : j < i := by omega
    have pj : rd (prios ds) j = (ds.length : Int) - (Go.Proofs.YthdmomaephiodaaH.ahead ds j : Nat) := by rw [← prios_get ds j (by omega)]; simp [rd]
    have pi : rd (prios ds) i = (ds.length : Int) - (Go.Proofs.YthdmomaephiodaaH.ahead ds i : Nat) := by rw [← prios_get ds i (by omega)]; simp [rd]
    have h1 := ahead_iff ds j i (by omega) (by omega) (by omega)
    have h2 := ahead_iff ds i j (by omega) (by omega) (by omega)
    have h3 : dlt ds j i = true ∨ dlt ds i j = true := Go.Proofs.YthdmomaephiodaaH.dlt_total ds j i (by omega)
    have hsh : dlt ds j i = dlt l j i := by rw [hds]; exact Go.Proofs.YthdmomaephiodaaH.dlt_shift l 1 j i (by omega) (by omega)
    have hle : dlt l j i = true ↔ rd l j ≤ rd l i := by
      simp only [dlt, decide_eq_true_eq, rd, Int.toNat_natCast]
      omega
    have hne : rd (prios ds) j ≠ rd (prios ds) i := by
      rw [pj, pi]
      rcases h3 with h | h
      · have := h1.2 h; omega
      · have := h2.2 h; omega
    have hb : ((decide ((rd (prios ds) j) > (rd (prios ds) i))) != (decide ((rd l j) ≤ (rd l i)))) = false := by
      have : (rd (prios ds) j > rd (prios ds) i) ↔ rd l j ≤ rd l i := by
        rw [← hle, ← hsh, ← h1, pj, pi]
        omega
      simp [this]
    refine Ev.step (f := fun k => watchbilllaw9_OrderDeadlines.l2 k l (prios ds) i (j + 1 : Nat)) (fun k => ?_) (ih (j + 1) (by omega) (by omega))
    rw [watchbilllaw9_OrderDeadlines.l2, if_pos (by omega), if_pos (by omega), if_pos (by omega), if_pos (by omega), if_pos (by omega), if_neg hne, if_pos (by omega), if_pos (by omega), hb, if_neg (by decide), w64 (by omega) (by omega)]
    rfl
end

theorem l1_ev (l : List Int) (ds : List Int) (hds : ds = l.map (1 + ·)) (hn : l.length ≤ 12) : ∀ d i : Nat, l.length - i = d → i ≤ l.length → Ev (fun k => watchbilllaw9_OrderDeadlines.l1 k l (prios ds) i) true := by
  have hdl : ds.length = l.length := by rw [hds]; simp
  have hpl : (prios ds).length = l.length := by rw [prios_len, hdl]
  intro d
  induction d with
  | zero =>
    intro i hd hi
    exact Ev.step (f := fun _ => some true) (fun k => by rw [watchbilllaw9_OrderDeadlines.l1, if_neg (by omega)]) (Ev.now true)
  | succ d ih =>
    intro i hd hi
    have pi : rd (prios ds) i = (ds.length : Int) - (Go.Proofs.YthdmomaephiodaaH.ahead ds i : Nat) := by rw [← prios_get ds i (by omega)]; simp [rd]
    have ha := ahead_lt ds i (by omega)
    have hnx := ih (i + 1) (by omega) (by omega)
    have hnx' : Ev (fun k => watchbilllaw9_OrderDeadlines.l1 k l (prios ds) (wrap64 ((i : Int) + 1))) true := by
      rw [w64 (by omega) (by omega)]
      exact hnx
    have h2 := l2_ev l ds hds hn i (by omega) true hnx' i 0 (by omega) (by omega)
    refine Ev.step (f := fun k => watchbilllaw9_OrderDeadlines.j3 k l (prios ds) i false) (fun k => ?_) ?_
    · rw [watchbilllaw9_OrderDeadlines.l1, if_pos (by omega), if_pos (by omega), if_neg (by omega)]
      congr 1
      simp only [decide_eq_false_iff_not]
      omega
    · exact Ev.step (fun k => by rw [watchbilllaw9_OrderDeadlines.j3, if_neg (by decide)]; rfl) h2

theorem l0_ev (l : List Int) (hl : ∀ x ∈ l, 0 ≤ x ∧ x ≤ 255) (hn : l.length ≤ 12) (h1 : 1 ≤ l.length) : ∀ d i : Nat, l.length - i = d → i ≤ l.length → Ev (fun k => watchbilllaw9_OrderDeadlines.l0 k l i 0 (tsks l i)) true := by
  intro d
  induction d with
  | zero =>
    intro i hd hi
    obtain rfl : i = l.length := by omega
    have hf : order_Prios.f 0 [] (tsks l l.length) = some (prios (dls (tsks l l.length))) := by
      unfold order_Prios.f
      rw [if_pos]
      simp [tsks]; omega
    have hds := dls_tsks l hl
    have h := l1_ev l (dls (tsks l l.length)) hds hn l.length 0 (by omega) (by omega)
    refine Ev.step (f := fun k => watchbilllaw9_OrderDeadlines.l1 k l (prios (dls (tsks l l.length))) (0 : Nat)) (fun k => ?_) h
    rw [watchbilllaw9_OrderDeadlines.l0, if_neg (by omega), hf]
    simp only [Option.bind_some]
    rw [if_pos (by rw [prios_len, hds]; simp)]
    rfl
  | succ d ih =>
    intro i hd hi
    have h := ih (i + 1) (by omega) (by omega)
    refine Ev.step (f := fun k => watchbilllaw9_OrderDeadlines.l0 k l (i + 1 : Nat) 0 (tsks l (i + 1))) (fun k => ?_) h
    rw [watchbilllaw9_OrderDeadlines.l0, if_pos (by omega), if_pos (by omega), if_pos (by simp [tsks]; omega), w64 (x := (i : Int) + 1) (by omega) (by omega)]
    have : tsks l (i + 1) = tsks l i ++ [tsk l i] := by simp [tsks, List.range_succ]
    rw [this]
    rfl

theorem OrderDeadlines : watchbilllaw9_OrderDeadlines.Pure := by
  intro l hm h8 hwf
  have hl : ∀ x ∈ l, 0 ≤ x ∧ x ≤ 255 := fun x hx => u8_of (hwf x hx)
  refine Ev.rounds (r := true) ?_
  unfold watchbilllaw9_OrderDeadlines.f
  refine Ev.bind known_ev ?_
  simp only [if_true]
  have out : Ev (fun k => watchbilllaw9_OrderDeadlines.j0 k l true) true := Ev.step (f := fun _ => some true) (fun k => by rw [watchbilllaw9_OrderDeadlines.j0, if_pos rfl]) (Ev.now true)
  by_cases h1 : (l.length : Int) < 1
  · refine Ev.congr (fun k => by rw [if_pos h1]) out
  · by_cases h2 : (l.length : Int) > 12
    · refine Ev.congr (fun k => by rw [if_neg h1, decide_eq_true h2]) out
    · refine Ev.congr (fun k => by rw [if_neg h1, decide_eq_false h2]) ?_
      refine Ev.step (fun k => by rw [watchbilllaw9_OrderDeadlines.j0, if_neg (by decide)]) ?_
      exact l0_ev l hl (by omega) (by omega) l.length 0 (by omega) (by omega)

end Go.Proofs.Ythdmomaephiodaa.Pure
