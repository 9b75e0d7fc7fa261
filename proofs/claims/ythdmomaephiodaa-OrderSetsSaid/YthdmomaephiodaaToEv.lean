/- What the printed Few and To of a set tell, in plain words. -/
import Derived.Test.YthdmomaephiodaaNestW
import Derived.Test.YthdmomaephiodaaXAx8
import Derived.Test.YthdmomaephiodaaXAx10
namespace Go.Proofs.Ythdmomaephiodaa.Nest
set_option linter.unusedVariables false
set_option linter.unusedSimpArgs false
open Go.RowKit Go.Proofs.Ythdmomaephiodaa.XA Go.Proofs.YthdmomaephiodaaW.PrintWords Go.Proofs.YthdmomaephiodaaW.PrintLast Go.Proofs.YthdmomaephiodaaW.PrintMore
def cvCase (c : S109) : S110 := ⟨c.f0, c.f1, c.f2⟩
def cvOp (o : S92) : S45 := ⟨o.f0, o.f1, o.f2, o.f3, o.f4.map cvCase⟩
def cvChan (c : S63) : S66 := ⟨c.f0, c.f1⟩
def cvTask (t : S60) : S48 := ⟨t.f0, t.f1, t.f2, t.f3, t.f4.map cvOp⟩
/-- Few and small. -/
structure FewS (cs : List S63) (ts : List S60) : Prop where
  tasks : ts.length ≤ 20
  chans : cs.length ≤ 20
  ops : ∀ t ∈ ts, t.f4.length ≤ 60 ∧ ∀ o ∈ t.f4, o.f4.length ≤ 20
theorem fewOps_loop (l : List S92) (hn : l.length ≤ 60) : ∀ d q : Nat, l.length - q = d → q ≤ l.length → (∀ i (h : i < l.length), i < q → l[i].f4.length ≤ 20) → ∃ b, Ev (fun k => watchbilllaw6_Few.l0 k l q) b ∧ (b = true → ∀ o ∈ l, o.f4.length ≤ 20) := by
  intro d
  induction d with
  | zero =>
    intro q hd hq hs
    refine ⟨true, Ev.step (f := fun _ => some _) (fun k => by rw [watchbilllaw6_Few.l0, if_neg (by omega)]) (Ev.now _), fun _ o ho => ?_⟩
    obtain ⟨i, hi, rfl⟩ := List.getElem_of_mem ho
    exact hs i hi (by omega)
  | succ d ih =>
    intro q hd hq hs
    have hlt : q < l.length := by omega
    have hr : rd_T92 l q = l[q] := by simp [rd_T92, List.getD, hlt]
    by_cases h20 : (l[q].f4.length : Int) ≤ 20
    · obtain ⟨b, hb, hP⟩ := ih (q + 1) (by omega) (by omega) (fun i h hi => by
        rcases Nat.lt_or_ge i q with h1 | h1
        · exact hs i h h1
        · obtain rfl : i = q := by omega
          omega)
      refine ⟨b, Ev.step (fun k => ?_) hb, hP⟩
      rw [watchbilllaw6_Few.l0, if_pos (by omega), if_pos (by omega), hr]
      unfold watchbilllaw5_Few.f
      simp only [Option.bind_some]
      rw [if_pos (by simpa using h20), w1 (by omega)]
    · refine ⟨false, Ev.step (f := fun _ => some _) (fun k => ?_) (Ev.now _), fun h => by cases h⟩
      rw [watchbilllaw6_Few.l0, if_pos (by omega), if_pos (by omega), hr]
      unfold watchbilllaw5_Few.f
      simp only [Option.bind_some]
      rw [if_neg (by simpa using h20)]
theorem fewOps_ev (l : List S92) : ∃ b, Ev (fun k => watchbilllaw6_Few.f k l) b ∧ (b = true → l.length ≤ 60 ∧ ∀ o ∈ l, o.f4.length ≤ 20) := by
  by_cases h : (l.length : Int) > 60
  · exact ⟨false, Ev.congr (fun k => by unfold watchbilllaw6_Few.f; rw [if_pos h]) (Ev.now _), fun h => by cases h⟩
  · obtain ⟨b, hb, hP⟩ := fewOps_loop l (by omega) _ 0 rfl (by omega) (fun i _ hi => absurd hi (Nat.not_lt_zero _))
    exact ⟨b, Ev.congr (fun k => by unfold watchbilllaw6_Few.f; rw [if_neg h]; rfl) hb, fun h => ⟨by omega, hP h⟩⟩
section
variable (s : Int) (cs : List S63) (ts : List S60)
theorem few_loop (hn : ts.length ≤ 20) : ∀ d q : Nat, ts.length - q = d → q ≤ ts.length → (∀ i (h : i < ts.length), i < q → ts[i].f4.length ≤ 60 ∧ ∀ o ∈ ts[i].f4, o.f4.length ≤ 20) → ∃ b, Ev (fun k => watchbilllaw7_Few.l0 k q s cs ts) b ∧ (b = true → ∀ t ∈ ts, t.f4.length ≤ 60 ∧ ∀ o ∈ t.f4, o.f4.length ≤ 20) := by
  intro d
  induction d with
  | zero =>
    intro q hd hq hs
    refine ⟨true, Ev.step (f := fun _ => some _) (fun k => by rw [watchbilllaw7_Few.l0, if_neg (by omega)]) (Ev.now _), fun _ t ht => ?_⟩
    obtain ⟨i, hi, rfl⟩ := List.getElem_of_mem ht
    exact hs i hi (by omega)
  | succ d ih =>
    intro q hd hq hs
    have hlt : q < ts.length := by omega
    have hr : rd_T60 ts q = ts[q] := by simp [rd_T60, List.getD, hlt]
    obtain ⟨b, hb, hP⟩ := fewOps_ev ts[q].f4
    have hstep : ∀ r, Ev (fun k => if b = true then (if (((ts[q]).f0).size : Int) > 50 then some false else watchbilllaw7_Few.l0 k (wrap64 ((q : Int) + 1)) s cs ts) else some false) r → Ev (fun k => watchbilllaw7_Few.l0 k q s cs ts) r := fun r h =>
      Ev.step (fun k => by rw [watchbilllaw7_Few.l0, if_pos (by omega), if_pos (by omega), hr]) (Ev.bind hb h)
    cases b with
    | false => exact ⟨false, hstep _ (Ev.congr (fun k => by rw [if_neg (by decide)]) (Ev.now _)), fun h => by cases h⟩
    | true =>
      by_cases h50 : (((ts[q]).f0).size : Int) > 50
      · exact ⟨false, hstep _ (Ev.congr (fun k => by rw [if_pos rfl, if_pos h50]) (Ev.now _)), fun h => by cases h⟩
      · obtain ⟨r, hr2, hR⟩ := ih (q + 1) (by omega) (by omega) (fun i h hi => by
          rcases Nat.lt_or_ge i q with h1 | h1
          · exact hs i h h1
          · obtain rfl : i = q := by omega
            exact hP rfl)
        exact ⟨r, hstep _ (Ev.congr (fun k => by rw [if_pos rfl, if_neg h50, w1 (by omega)]) hr2), hR⟩
theorem few_ev : ∃ b, Ev (fun k => watchbilllaw7_Few.f k s cs ts) b ∧ (b = true → FewS cs ts) := by
  have ht : Ev (fun k => watchbilllaw7_Few.j0 k true s cs ts) false := Ev.step (f := fun _ => some _) (fun k => by rw [watchbilllaw7_Few.j0, if_pos rfl]) (Ev.now _)
  by_cases h1 : (ts.length : Int) > 20
  · exact ⟨false, Ev.congr (fun k => by unfold watchbilllaw7_Few.f; rw [if_pos h1]) ht, fun h => by cases h⟩
  · by_cases h2 : (cs.length : Int) > 20
    · exact ⟨false, Ev.congr (fun k => by unfold watchbilllaw7_Few.f; rw [if_neg h1, decide_eq_true h2]) ht, fun h => by cases h⟩
    · obtain ⟨b, hb, hP⟩ := few_loop s cs ts (by omega) _ 0 rfl (by omega) (fun i _ hi => absurd hi (Nat.not_lt_zero _))
      refine ⟨b, Ev.congr (fun k => by unfold watchbilllaw7_Few.f; rw [if_neg h1, decide_eq_false h2]) (Ev.step (fun k => ?_) hb), fun h => ⟨by omega, by omega, hP h⟩⟩
      rw [watchbilllaw7_Few.j0, if_neg (by decide)]
      rfl
theorem toOp_loop (a b c e a' b' c' e' : Int) (l : List S109) (hn : l.length ≤ 20) : ∀ d q : Nat, l.length - q = d → q ≤ l.length → Ev (fun k => watchbilllaw5_To.l0 k q a b c e l a' b' c' e' ((l.take q).map cvCase)) (a', b', c', e', l.map cvCase) := by
  intro d
  induction d with
  | zero =>
    intro q hd hq
    rw [List.take_of_length_le (by omega)]
    exact Ev.step (f := fun _ => some _) (fun k => by rw [watchbilllaw5_To.l0, if_neg (by omega)]) (Ev.now _)
  | succ d ih =>
    intro q hd hq
    have hlt : q < l.length := by omega
    have hr : rd_T109 l q = l[q] := by simp [rd_T109, List.getD, hlt]
    have hi := ih (q + 1) (by omega) (by omega)
    refine Ev.step (fun k => ?_) hi
    rw [watchbilllaw5_To.l0, if_pos (by omega), if_pos (by omega), if_pos (by rw [List.length_map, List.length_take]; omega), hr, w1 (by omega), List.take_succ_eq_append_getElem hlt, List.map_append]
    rfl
theorem toOps_loop (l : List S92) (hn : l.length ≤ 60) (hc : ∀ o ∈ l, o.f4.length ≤ 20) : ∀ d q : Nat, l.length - q = d → q ≤ l.length → Ev (fun k => watchbilllaw5_ToAll.l0 k l ((l.take q).map cvOp) q) (l.map cvOp) := by
  intro d
  induction d with
  | zero =>
    intro q hd hq
    rw [List.take_of_length_le (by omega)]
    exact Ev.step (f := fun _ => some _) (fun k => by rw [watchbilllaw5_ToAll.l0, if_neg (by omega)]) (Ev.now _)
  | succ d ih =>
    intro q hd hq
    have hlt : q < l.length := by omega
    have hr : rd_T92 l q = l[q] := by simp [rd_T92, List.getD, hlt]
    have hi := ih (q + 1) (by omega) (by omega)
    have hop : Ev (fun k => watchbilllaw5_To.f k l[q].f0 l[q].f1 l[q].f2 l[q].f3 l[q].f4) (l[q].f0, l[q].f1, l[q].f2, l[q].f3, l[q].f4.map cvCase) := by
      have := toOp_loop l[q].f0 l[q].f1 l[q].f2 l[q].f3 l[q].f0 l[q].f1 l[q].f2 l[q].f3 l[q].f4 (hc _ (List.getElem_mem hlt)) _ 0 rfl (by omega)
      exact Ev.congr (fun k => by unfold watchbilllaw5_To.f; rfl) this
    refine Ev.step (fun k => by rw [watchbilllaw5_ToAll.l0, if_pos (by omega), if_pos (by omega), hr]) (Ev.bind hop ?_)
    refine Ev.congr (fun k => ?_) hi
    rw [if_pos (by rw [List.length_map, List.length_take]; omega), w1 (by omega), List.take_succ_eq_append_getElem hlt, List.map_append]
    rfl
theorem toOps_ev (l : List S92) (hn : l.length ≤ 60) (hc : ∀ o ∈ l, o.f4.length ≤ 20) : Ev (fun k => watchbilllaw5_ToAll.f k l) (l.map cvOp) := toOps_loop l hn hc _ 0 rfl (by omega)
theorem to_l1 (hf : FewS cs ts) (xs : List S66) (a : Int) : ∀ d q : Nat, ts.length - q = d → q ≤ ts.length → Ev (fun k => watchbilllaw7_To.l1 k q s cs ts a xs ((ts.take q).map cvTask)) (a, xs, ts.map cvTask) := by
  have hn := hf.tasks
  intro d
  induction d with
  | zero =>
    intro q hd hq
    rw [List.take_of_length_le (by omega)]
    exact Ev.step (f := fun _ => some _) (fun k => by rw [watchbilllaw7_To.l1, if_neg (by omega)]) (Ev.now _)
  | succ d ih =>
    intro q hd hq
    have hlt : q < ts.length := by omega
    have hr : rd_T60 ts q = ts[q] := by simp [rd_T60, List.getD, hlt]
    have hi := ih (q + 1) (by omega) (by omega)
    have ho := hf.ops ts[q] (List.getElem_mem hlt)
    refine Ev.step (fun k => by rw [watchbilllaw7_To.l1, if_pos (by omega), if_pos (by omega), hr]) (Ev.bind (toOps_ev ts[q].f4 ho.1 ho.2) ?_)
    refine Ev.congr (fun k => ?_) hi
    rw [if_pos (by rw [List.length_map, List.length_take]; omega), w1 (by omega), List.take_succ_eq_append_getElem hlt, List.map_append]
    rfl
theorem to_ev (hf : FewS cs ts) : Ev (fun k => watchbilllaw7_To.f k s cs ts) (s, cs.map cvChan, ts.map cvTask) := by
  have hn := hf.chans
  have h1 := to_l1 s cs ts hf (cs.map cvChan) s _ 0 rfl (by omega)
  have h0 : ∀ d q : Nat, cs.length - q = d → q ≤ cs.length → Ev (fun k => watchbilllaw7_To.l0 k q s cs ts s ((cs.take q).map cvChan)) (s, cs.map cvChan, ts.map cvTask) := by
    intro d
    induction d with
    | zero =>
      intro q hd hq
      rw [List.take_of_length_le (by omega)]
      exact Ev.step (fun k => by rw [watchbilllaw7_To.l0, if_neg (by omega)]; rfl) h1
    | succ d ih =>
      intro q hd hq
      have hlt : q < cs.length := by omega
      have hr : rd_T63 cs q = cs[q] := by simp [rd_T63, List.getD, hlt]
      refine Ev.step (fun k => ?_) (ih (q + 1) (by omega) (by omega))
      rw [watchbilllaw7_To.l0, if_pos (by omega), if_pos (by omega), if_pos (by rw [List.length_map, List.length_take]; omega), hr, w1 (by omega), List.take_succ_eq_append_getElem hlt, List.map_append]
      rfl
  exact h0 _ 0 rfl (by omega)
end
end Go.Proofs.Ythdmomaephiodaa.Nest
