/- Any set's priorities, who goes ahead of whom: in plain words, and the walk. -/
import Derived.Test.YthdmomaephiodaaHigherEv
import Derived.Test.YthdmomaephiodaaPriosRef
import Derived.Test.YthdmomaephiodaaIntsEv
import Derived.Test.YthdmomaephiodaaSetEv
import Derived.Test.YthdmomaephiodaaToEv
import Derived.Test.YthdmomaephiodaaOpenSet
import Derived.Test.YthdmomaephiodaaXAx12
namespace Go.Proofs.Ythdmomaephiodaa.Pure
set_option linter.unusedVariables false
set_option linter.unusedSimpArgs false
open Go.RowKit Go.Proofs.Ythdmomaephiodaa.XA Go.Proofs.YthdmomaephiodaaW.PrintWords Go.Proofs.YthdmomaephiodaaW.PrintLast
open Go.Proofs.YthdmomaephiodaaH (prios dlt prios_get prios_len ahead_lt ahead_iff)
open Go.Proofs.Ythdmomaephiodaa.Nest (cvTask cvChan SetOK FewS)

theorem dls_cv (ts : List S60) : dls (ts.map cvTask) = dlsR ts := by
  unfold dls dlsR
  rw [List.map_map]
  rfl
/-- Those above (or not above) one, but he himself. -/
def othL (p : List Int) (i : Nat) (g : Bool) (q : Nat) : List Int := castL ((List.range q).filter fun k => decide (k ≠ i) && (decide (p.getD k 0 > p.getD i 0) == g))
theorem oth_loop (p : List Int) (i : Nat) (g : Bool) (hi : i < p.length) (hn : p.length ≤ 1000000) : ∀ d q : Nat, p.length - q = d → q ≤ p.length → Ev (fun k => watchbillref13_others.l0 k (i : Int) g p (othL p i g q) q) (othL p i g p.length) := by
  intro d
  induction d with
  | zero =>
    intro q hd hq
    obtain rfl : q = p.length := by omega
    exact Ev.step (f := fun _ => some _) (fun k => by rw [watchbillref13_others.l0, if_neg (by omega)]) (Ev.now _)
  | succ d ih =>
    intro q hd hq
    have hi2 := ih (q + 1) (by omega) (by omega)
    have hlen : (othL p i g q).length ≤ q := by
      have := List.length_filter_le (fun k => decide (k ≠ i) && (decide (p.getD k 0 > p.getD i 0) == g)) (List.range q)
      simp only [othL, castL, List.length_map]
      simpa using this
    have hsucc : othL p i g (q + 1) = othL p i g q ++ castL ([q].filter fun k => decide (k ≠ i) && (decide (p.getD k 0 > p.getD i 0) == g)) := by
      simp only [othL, castL, List.range_succ, List.filter_append, List.map_append]
    rw [hsucc] at hi2
    by_cases e : q = i
    · have e1 : ([q].filter fun k => decide (k ≠ i) && (decide (p.getD k 0 > p.getD i 0) == g)) = [] := by simp [e]
      rw [e1] at hi2
      simp only [castL, List.map_nil, List.append_nil] at hi2
      exact Ev.step (fun k => by rw [watchbillref13_others.l0, if_pos (by omega), if_pos (by omega), w1 (by omega)]) hi2
    · by_cases h2 : (decide (p.getD q 0 > p.getD i 0) == g) = true
      · have e1 : ([q].filter fun k => decide (k ≠ i) && (decide (p.getD k 0 > p.getD i 0) == g)) = [q] := by
          rw [List.filter_cons, if_pos (by rw [h2]; simp [e]), List.filter_nil]
        rw [e1] at hi2
        refine Ev.step (fun k => ?_) hi2
        rw [watchbillref13_others.l0, if_pos (by omega), if_neg (by omega), if_pos (by omega), if_pos (by omega), if_pos (by omega), rd_nat, rd_nat, if_pos h2, if_pos (by omega), w1 (by omega)]
        rfl
      · have e1 : ([q].filter fun k => decide (k ≠ i) && (decide (p.getD k 0 > p.getD i 0) == g)) = [] := by
          rw [List.filter_cons, if_neg (by rw [Bool.and_eq_true]; exact fun c => h2 c.2), List.filter_nil]
        rw [e1] at hi2
        simp only [castL, List.map_nil, List.append_nil] at hi2
        exact Ev.step (fun k => by rw [watchbillref13_others.l0, if_pos (by omega), if_neg (by omega), if_pos (by omega), if_pos (by omega), if_pos (by omega), rd_nat, rd_nat, if_neg h2, w1 (by omega)]) hi2
theorem oth_ev (a : Int) (cs : List S63) (ts : List S60) (hn : ts.length ≤ 1000000) (i : Nat) (hi : i < ts.length) (g : Bool) : Ev (fun k => watchbillref13_others.f k a cs ts i g) (othL (prios (dlsR ts)) i g ts.length) := by
  have hl : (prios (dlsR ts)).length = ts.length := by rw [prios_len]; simp [dlsR]
  refine Ev.bind (priosR_ev a cs ts hn) ?_
  have h := oth_loop (prios (dlsR ts)) i g (by omega) (by omega) _ 0 rfl (by omega)
  rw [hl] at h
  refine Ev.congr (f := fun k => watchbillref13_others.j0 k i g (prios (dlsR ts)) [] false) (fun k => ?_) (Ev.step (fun k => by rw [watchbillref13_others.j0, if_neg (by decide)]; rfl) h)
  rw [if_neg (by omega)]
  congr 1
  simp only [decide_eq_false_iff_not]
  omega
theorem oth_out (a : Int) (cs : List S63) (ts : List S60) (hn : ts.length ≤ 1000000) (i : Int) (hi : i < 0 ∨ (ts.length : Int) ≤ i) (g : Bool) : Ev (fun k => watchbillref13_others.f k a cs ts i g) [] := by
  have hl : (prios (dlsR ts)).length = ts.length := by rw [prios_len]; simp [dlsR]
  refine Ev.bind (priosR_ev a cs ts hn) ?_
  refine Ev.congr (f := fun k => watchbillref13_others.j0 k i g (prios (dlsR ts)) [] true) (fun k => ?_) (Ev.step (f := fun _ => some []) (fun k => by rw [watchbillref13_others.j0, if_pos rfl]) (Ev.now _))
  by_cases h0 : i < 0
  · rw [if_pos h0]
  · rw [if_neg h0]
    congr 1
    simp only [decide_eq_true_eq]
    omega
/-- No two priorities are alike. -/
theorem prios_ne (ds : List Int) (i k : Nat) (hi : i < ds.length) (hk : k < ds.length) (h : k ≠ i) : (prios ds).getD k 0 ≠ (prios ds).getD i 0 := by
  rw [prios_get ds k hk, prios_get ds i hi]
  have h1 := ahead_iff ds k i hk hi h
  have h2 := ahead_iff ds i k hi hk (fun c => h c.symm)
  rcases Go.Proofs.YthdmomaephiodaaH.dlt_total ds k i h with t | t
  · have := h1.2 t
    omega
  · have := h2.2 t
    omega
theorem oth_high (ds : List Int) (i : Nat) (hi : i < ds.length) : othL (prios ds) i true ds.length = castL (whichL (prios ds) i 1) := by
  unfold othL whichL
  rw [prios_len]
  congr 1
  refine List.filter_congr fun k hk => ?_
  have hk' : k < ds.length := by simpa using hk
  rw [Bool.eq_iff_iff]
  by_cases e : k = i
  · subst e
    simp [cmpP]
  · have := prios_ne ds i k hi hk' e
    generalize (prios ds).getD k 0 = x at this ⊢
    generalize (prios ds).getD i 0 = y at this ⊢
    simp only [cmpP, Bool.and_eq_true, decide_eq_true_eq, beq_iff_eq, e, not_false_eq_true, true_and, ne_eq]
    split
    · simp; omega
    · split <;> simp <;> omega
theorem oth_low (ds : List Int) (i : Nat) (hi : i < ds.length) : othL (prios ds) i false ds.length = castL (whichL (prios ds) i (-1)) := by
  unfold othL whichL
  rw [prios_len]
  congr 1
  refine List.filter_congr fun k hk => ?_
  have hk' : k < ds.length := by simpa using hk
  rw [Bool.eq_iff_iff]
  by_cases e : k = i
  · subst e
    simp [cmpP]
  · have := prios_ne ds i k hi hk' e
    generalize (prios ds).getD k 0 = x at this ⊢
    generalize (prios ds).getD i 0 = y at this ⊢
    simp only [cmpP, Bool.and_eq_true, decide_eq_true_eq, beq_iff_eq, e, not_false_eq_true, true_and, ne_eq, decide_eq_false_iff_not]
    split
    · simp; omega
    · split <;> simp <;> omega
theorem split3 (p q : Nat → Bool) (i : Nat) : ∀ n : Nat, (∀ k, k < n → (k = i ∧ p k = false ∧ q k = false) ∨ (k ≠ i ∧ (p k = true ∧ q k = false ∨ p k = false ∧ q k = true))) → ((List.range n).filter p).length + ((List.range n).filter q).length + (if i < n then 1 else 0) = n
  | 0, _ => by simp
  | n + 1, h => by
    have ih := split3 p q i n (fun k hk => h k (by omega))
    rw [List.range_succ, List.filter_append, List.filter_append, List.length_append, List.length_append]
    rcases h n (by omega) with ⟨e, h1, h2⟩ | ⟨e, ⟨h1, h2⟩ | ⟨h1, h2⟩⟩
    · subst e
      rw [if_neg (by omega)] at ih
      rw [if_pos (by omega)]
      simp [List.filter_cons, h1, h2]
      omega
    · have e2 : (if i < n + 1 then 1 else 0) = if i < n then 1 else 0 := by split <;> split <;> omega
      rw [e2]
      simp [List.filter_cons, h1, h2]
      omega
    · have e2 : (if i < n + 1 then 1 else 0) = if i < n then 1 else 0 := by split <;> split <;> omega
      rw [e2]
      simp [List.filter_cons, h1, h2]
      omega
theorem count3 (ds : List Int) (i : Nat) (hi : i < ds.length) : (castL (whichL (prios ds) i 1)).length + (castL (whichL (prios ds) i (-1))).length + 1 = ds.length := by
  have h := split3 (fun k => decide (cmpP ((prios ds).getD k 0) ((prios ds).getD i 0) = 1)) (fun k => decide (cmpP ((prios ds).getD k 0) ((prios ds).getD i 0) = -1)) i ds.length (fun k hk => by
    by_cases e : k = i
    · left
      subst e
      simp [cmpP]
    · right
      refine ⟨e, ?_⟩
      have := prios_ne ds i k hi hk e
      simp only [cmpP, decide_eq_true_eq, decide_eq_false_iff_not]
      split
      · right; simp
      · split
        · left; simp
        · omega)
  rw [if_pos hi] at h
  simp only [castL, List.length_map, whichL, prios_len]
  exact h
set_option maxRecDepth 100000 in
theorem os_known : watchbilllaw9_known.f 60 = some true := by kernel_rfl
theorem orderSets_ev (a : Int) (cs : List S63) (ts : List S60) (i : Int) (hi1 : -9223372036854775808 ≤ i) (hi2 : i ≤ 9223372036854775807) : ∃ k, watchbilllaw9_OrderSets.f k a cs ts i = some true := by
  have hk : Ev (fun k => watchbilllaw9_known.f k) true := Ev.of watchbilllaw9_known.mono os_known
  obtain ⟨e, he, hE⟩ := Go.Proofs.Ythdmomaephiodaa.Nest.checkSet_ev a cs ts
  obtain ⟨b, hb, hB⟩ := Go.Proofs.Ythdmomaephiodaa.Nest.few_ev a cs ts
  have ht : Ev (fun k => watchbilllaw9_OrderSets.j0 k i true a cs ts) true := Ev.step (f := fun _ => some _) (fun k => by rw [watchbilllaw9_OrderSets.j0, if_pos rfl]) (Ev.now _)
  have hmain : (if b = true then (e.2 != 0) else true) = false → Ev (fun k => watchbilllaw9_OrderSets.j0 k i false a cs ts) true := by
    intro hc
    have hbt : b = true := by
      cases b
      · simp at hc
      · rfl
    rw [if_pos hbt] at hc
    have hok := hE (by simpa using hc)
    have hfew := hB hbt
    obtain ⟨t1, t2⟩ := hok.tasks
    have hlen : (ts.map cvTask).length = ts.length := by simp
    have hds : (dlsR ts).length = ts.length := by simp [dlsR]
    have hpl : (prios (dlsR ts)).length = ts.length := by rw [prios_len, hds]
    have hto := Go.Proofs.Ythdmomaephiodaa.Nest.to_ev a cs ts hfew
    have hpr : order_Prios.f a (cs.map cvChan) (ts.map cvTask) = some (prios (dlsR ts)) := by rw [prios_f _ _ _ (by omega), dls_cv]
    have hin : Ev (fun k => watchbilllaw1_Ints.f k (prios (dlsR ts)) (prios (dlsR ts))) true := ints_ev _ (by omega)
    have hR := priosR_ev a cs ts (by omega)
    refine Ev.step (fun k => by rw [watchbilllaw9_OrderSets.j0, if_neg (by decide)]) (Ev.bind hto ?_)
    -- one way or the other
    have hgo : ∀ (h l : List Int), Ev (fun k => order_Higher.f k a (cs.map cvChan) (ts.map cvTask) i) h → Ev (fun k => order_Lower.f k a (cs.map cvChan) (ts.map cvTask) i) l → Ev (fun k => watchbillref13_Higher.f k a cs ts i) h → Ev (fun k => watchbillref13_Lower.f k a cs ts i) l → h.length ≤ 1000000 → l.length ≤ 1000000 → Ev (fun k => watchbilllaw9_OrderSets.j1 k i h l false a cs ts) true →
        Ev (fun k => (order_Higher.f k a (cs.map cvChan) (ts.map cvTask) i).bind fun t284 => ((order_Lower.f k a (cs.map cvChan) (ts.map cvTask) i).bind fun t287 => ((order_Prios.f a (cs.map cvChan) (ts.map cvTask)).bind fun t290 => ((watchbillref13_Prios.f k a cs ts).bind fun t293 => ((watchbilllaw1_Ints.f k t290 t293).bind fun t296 => (if t296 = true then ((watchbillref13_Higher.f k a cs ts i).bind fun t297 => ((watchbilllaw1_Ints.f k t284 t297).bind fun t300 => (if t300 = true then ((watchbillref13_Lower.f k a cs ts i).bind fun t301 => ((watchbilllaw1_Ints.f k t287 t301).bind fun t304 => (watchbilllaw9_OrderSets.j1 k i t284 t287 (!t304) a cs ts))) else (watchbilllaw9_OrderSets.j1 k i t284 t287 true a cs ts)))) else (watchbilllaw9_OrderSets.j1 k i t284 t287 true a cs ts))))))) true := by
      intro h l h1 h2 h3 h4 b1 b2 hj
      refine Ev.bind h1 ?_
      refine Ev.bind h2 ?_
      refine Ev.congr (fun k => by rw [hpr, Option.bind_some]) ?_
      refine Ev.bind hR ?_
      refine Ev.bind hin ?_
      refine Ev.congr (fun k => by rw [if_pos rfl]) ?_
      refine Ev.bind h3 ?_
      refine Ev.bind (ints_ev h (by omega)) ?_
      refine Ev.congr (fun k => by rw [if_pos rfl]) ?_
      refine Ev.bind h4 ?_
      exact Ev.bind (ints_ev l (by omega)) hj
    by_cases hir : i < 0 ∨ (ts.length : Int) ≤ i
    · refine hgo [] [] (higher_out _ _ _ (by omega) i (by omega)) (lower_out _ _ _ (by omega) i (by omega)) (Ev.bind (oth_out a cs ts (by omega) i hir true) (Ev.now _)) (Ev.bind (oth_out a cs ts (by omega) i hir false) (Ev.now _)) (by simp) (by simp) ?_
      refine Ev.step (f := fun _ => some true) (fun k => ?_) (Ev.now _)
      rw [watchbilllaw9_OrderSets.j1, if_neg (by decide)]
      have e0 : wrap64 ((([] : List Int).length : Int) + (([] : List Int).length : Int)) = 0 := w64 (by decide) (by decide)
      rw [e0]
      by_cases h0 : i < 0
      · rw [if_pos h0]; rfl
      · rw [if_neg h0, if_pos (by omega)]; rfl
    · obtain ⟨j, rfl⟩ : ∃ j : Nat, i = (j : Int) := ⟨i.toNat, by omega⟩
      have hj : j < ts.length := by omega
      have hh := higher_ev a (cs.map cvChan) (ts.map cvTask) (by omega) j (by omega)
      have hl := lower_ev a (cs.map cvChan) (ts.map cvTask) (by omega) j (by omega)
      rw [dls_cv] at hh hl
      have h3 := Ev.bind (f := fun _ t => some t) (oth_ev a cs ts (by omega) j hj true) (Ev.now _)
      have h4 := Ev.bind (f := fun _ t => some t) (oth_ev a cs ts (by omega) j hj false) (Ev.now _)
      rw [← hds, oth_high _ j (by omega)] at h3
      rw [← hds, oth_low _ j (by omega)] at h4
      have hc3 := count3 (dlsR ts) j (by omega)
      refine hgo _ _ hh hl h3 h4 (by omega) (by omega) ?_
      refine Ev.step (f := fun _ => some true) (fun k => ?_) (Ev.now _)
      rw [watchbilllaw9_OrderSets.j1, if_neg (by decide), if_neg (by omega), if_neg (by omega), w64 (x := ((castL (whichL (prios (dlsR ts)) j 1)).length : Int) + ((castL (whichL (prios (dlsR ts)) j (-1))).length : Int)) (by omega) (by omega), w64 (by omega) (by omega)]
      congr 1
      simp only [beq_iff_eq]
      omega
  refine Ev.rounds (Ev.bind (f := fun k t => if t = true then ((watchbillref8_CheckSet.f k a cs ts).bind fun bt273 => ((watchbilllaw7_Few.f k a cs ts).bind fun t275 => (if t275 = true then (watchbilllaw9_OrderSets.j0 k i (bt273.2 != 0) a cs ts) else (watchbilllaw9_OrderSets.j0 k i true a cs ts)))) else (some false)) hk ?_)
  refine Ev.congr (fun k => by rw [if_pos rfl]) ?_
  refine Ev.bind he ?_
  refine Ev.bind hb ?_
  cases hc : (if b = true then (e.2 != 0) else true) with
  | true =>
    refine Ev.congr (fun k => ?_) ht
    by_cases hbt : b = true
    · rw [if_pos hbt] at hc ⊢
      rw [hc]
    · rw [if_neg hbt]
  | false =>
    refine Ev.congr (fun k => ?_) (hmain hc)
    by_cases hbt : b = true
    · rw [if_pos hbt] at hc ⊢
      rw [hc]
    · rw [if_neg hbt] at hc
      cases hc
theorem orderSets_walk (a : Int) (A1 : Option Addr) (c1 : Nat) (cs : List S63) (A2 : Option Addr) (c2 : Nat) (ts : List S60) (i : Int) (W : World) (hw : OpenK.wfI a) (hr1 : Kd.C k63 W A1 cs.length cs) (hc1 : cs.length ≤ c1) (hx : ∀ x ∈ cs, OpenK.RChan x) (hr2 : Kd.C k60 W A2 ts.length ts) (hc2 : ts.length ≤ c2) (hy : ∀ x ∈ ts, OpenK.RTask x) (hi : (Lit.int .i64 i).wf = true) :
    Calls Try.prog 3 #[.agg #[.int .i64 a, .slice A1 cs.length c1, .slice A2 ts.length c2], .int .i64 i] W fun e w' => e = .returned (.bool true) ∧ Below W.heap.size W w' := by
  have hb : -9223372036854775808 ≤ i ∧ i ≤ 9223372036854775807 := by
    simp [Lit.wf, IntKind.min, IntKind.max, IntKind.bits, IntKind.signed] at hi
    omega
  obtain ⟨k, hk⟩ := orderSets_ev a cs ts i hb.1 hb.2
  exact watchbilllaw9_OrderSets.calls k a A1 c1 cs A2 c2 ts i true W hr1 hc1 hr2 hc2 hk
end Go.Proofs.Ythdmomaephiodaa.Pure
