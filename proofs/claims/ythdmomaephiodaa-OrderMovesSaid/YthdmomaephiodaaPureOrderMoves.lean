/- A task whose deadline is shortened never goes behind another one that it was ahead of; the others stay as they are among themselves. -/
import Derived.Test.YthdmomaephiodaaOrderEv
import Derived.Test.YthdmomaephiodaaXAx14
namespace Go.Proofs.Ythdmomaephiodaa.Pure
set_option linter.unusedVariables false
set_option linter.unusedSimpArgs false
open Go.RowKit Go.Proofs.Ythdmomaephiodaa.XA Go.Proofs.YthdmomaephiodaaW.PrintWords Go.Proofs.YthdmomaephiodaaW.PrintLast
open Go.Proofs.YthdmomaephiodaaH (prios dlt prios_get prios_len ahead_lt ahead_iff)

theorem known_ev : Ev (fun k => watchbilllaw9_known.f k) true := Ev.of watchbilllaw9_known.mono (k := 20) (by kernel_rfl)

theorem ints_loop (xs : List Int) (hn : xs.length ≤ 1000000) : ∀ d q : Nat, xs.length - q = d → q ≤ xs.length → Ev (fun k => watchbilllaw1_Ints.l0 k xs xs q) true := by
  intro d
  induction d with
  | zero =>
    intro q hd hq
    refine Ev.step (f := fun _ => some _) (fun k => ?_) (Ev.now _)
    rw [watchbilllaw1_Ints.l0, if_neg (by omega)]
  | succ d ih =>
    intro q hd hq
    refine Ev.step (fun k => ?_) (ih (q + 1) (by omega) (by omega))
    rw [watchbilllaw1_Ints.l0, if_pos (by omega), if_pos (by omega), if_pos (by omega), if_pos rfl, w1 (by omega)]
theorem ints_ev (xs : List Int) (hn : xs.length ≤ 1000000) : Ev (fun k => watchbilllaw1_Ints.f k xs xs) true := by
  refine Ev.congr (fun k => ?_) (ints_loop xs hn _ 0 rfl (by omega))
  unfold watchbilllaw1_Ints.f
  rw [if_pos rfl]
  rfl

/-- How many of the first q, without the k0-th, are below i. -/
def below (p : List Int) (k0 i q : Nat) : Nat := (List.range q).countP fun j => decide (j ≠ k0) && decide (p.getD j 0 < p.getD i 0)
def withoutL (p : List Int) (k0 q : Nat) : List Int := ((List.range q).filter fun i => decide (i ≠ k0)).map fun i => (below p k0 i p.length : Int)
theorem below_le (p : List Int) (k0 i q : Nat) : below p k0 i q ≤ q := by
  have := List.countP_le_length (p := fun j => decide (j ≠ k0) && decide (p.getD j 0 < p.getD i 0)) (l := List.range q)
  simpa [below] using this
theorem withoutL_le (p : List Int) (k0 q : Nat) : (withoutL p k0 q).length ≤ q := by
  have := List.length_filter_le (fun i => decide (i ≠ k0)) (List.range q)
  simpa [withoutL] using this

theorem without_in (p : List Int) (k0 : Nat) (hn : p.length ≤ 1000000) (i : Nat) (hi : i < p.length) (r : List Int)
    (hr : Ev (fun k => watchbilllaw9_without.l0 k p k0 (withoutL p k0 (i + 1)) (i + 1 : Nat)) r) : ∀ d q : Nat, p.length - q = d → q ≤ p.length →
    Ev (fun k => watchbilllaw9_without.l1 k p k0 (withoutL p k0 i) i (below p k0 i q : Int) q) r := by
  intro d
  induction d with
  | zero =>
    intro q hd hq
    obtain rfl : q = p.length := by omega
    refine Ev.step (fun k => ?_) hr
    have hw := withoutL_le p k0 i
    rw [watchbilllaw9_without.l1, if_neg (by omega)]
    by_cases he : i = k0
    · subst he
      have h1 : withoutL p i (i + 1) = withoutL p i i := by simp [withoutL, List.range_succ]
      rw [if_pos rfl, w1 (by omega), h1]
    · have h1 : withoutL p k0 (i + 1) = withoutL p k0 i ++ [(below p k0 i p.length : Int)] := by simp [withoutL, List.range_succ, he]
      rw [if_neg (by omega), if_pos (by omega), w1 (by omega), h1]
  | succ d ih =>
    intro q hd hq
    have hb := below_le p k0 i q
    have hs : below p k0 i (q + 1) = below p k0 i q + if (decide (q ≠ k0) && decide (p.getD q 0 < p.getD i 0)) = true then 1 else 0 := by
      simp [below, List.range_succ, List.countP_append, List.countP_cons]
    refine Ev.step (fun k => ?_) (ih (q + 1) (by omega) (by omega))
    rw [watchbilllaw9_without.l1, if_pos (by omega), hs]
    by_cases he : q = k0
    · subst he
      rw [if_pos rfl, w1 (by omega)]
      simp
    · rw [if_neg (by omega), if_pos (by omega), if_pos (by omega), if_pos (by omega), rd_nat, rd_nat]
      have he2 : decide (q ≠ k0) = true := decide_eq_true he
      by_cases hlt : p.getD q 0 < p.getD i 0
      · rw [if_pos hlt, w1 (by omega), w1 (by omega), he2, decide_eq_true hlt]
        rfl
      · rw [if_neg hlt, w1 (by omega), he2, decide_eq_false hlt]
        rfl

theorem without_loop (p : List Int) (k0 : Nat) (hn : p.length ≤ 1000000) : ∀ d q : Nat, p.length - q = d → q ≤ p.length →
    Ev (fun k => watchbilllaw9_without.l0 k p k0 (withoutL p k0 q) q) (withoutL p k0 p.length) := by
  intro d
  induction d with
  | zero =>
    intro q hd hq
    obtain rfl : q = p.length := by omega
    exact Ev.step (f := fun _ => some _) (fun k => by rw [watchbilllaw9_without.l0, if_neg (by omega)]) (Ev.now _)
  | succ d ih =>
    intro q hd hq
    have h := without_in p k0 hn q (by omega) _ (ih (q + 1) (by omega) (by omega)) p.length 0 (by omega) (by omega)
    exact Ev.step (fun k => by rw [watchbilllaw9_without.l0, if_pos (by omega)]; rfl) h
theorem without_ev (p : List Int) (k0 : Nat) (hn : p.length ≤ 1000000) : Ev (fun k => watchbilllaw9_without.f k p k0) (withoutL p k0 p.length) :=
  without_loop p k0 hn _ 0 rfl (by omega)

/-- Is one among some? The inner loop. -/
theorem among_ev (a b c d : List Int) (i : Nat) (hi : i < c.length) (hn : a.length ≤ 1000000) (hmem : c.getD i 0 ∈ a) (r : Bool) (hr : Ev (fun k => watchbilllaw9_OrderMoves.l1 k a b c d (wrap64 ((i : Int) + 1))) r) :
    ∀ e q : Nat, a.length - q = e → q ≤ a.length → Ev (fun k => watchbilllaw9_OrderMoves.l2 k a b c d i (decide (c.getD i 0 ∈ a.take q)) q) r := by
  intro e
  induction e with
  | zero =>
    intro q he hq
    obtain rfl : q = a.length := by omega
    refine Ev.step (fun k => ?_) hr
    rw [watchbilllaw9_OrderMoves.l2, if_neg (by omega), List.take_length, if_pos (by simpa using hmem)]
  | succ e ih =>
    intro q he hq
    have h := ih (q + 1) (by omega) (by omega)
    have ht : a.take (q + 1) = a.take q ++ [a.getD q 0] := by
      rw [List.take_succ_eq_append_getElem (by omega)]
      simp [List.getD, show q < a.length by omega]
    rw [ht] at h
    refine Ev.step (fun k => ?_) h
    rw [watchbilllaw9_OrderMoves.l2, if_pos (by omega)]
    by_cases hm : c.getD i 0 ∈ a.take q
    · rw [if_pos (by simpa using hm), w1 (by omega)]
      have h1 : decide (c.getD i 0 ∈ a.take q ++ [a.getD q 0]) = true := decide_eq_true (List.mem_append_left _ hm)
      rw [h1]
    · have h0 : decide (c.getD i 0 ∈ a.take q) = false := decide_eq_false hm
      have h1 : decide (c.getD i 0 ∈ a.take q ++ [a.getD q 0]) = (a.getD q 0 == c.getD i 0) := by
        rw [Bool.eq_iff_iff, decide_eq_true_eq, List.mem_append, beq_iff_eq, List.mem_singleton]
        constructor
        · rintro (h | h)
          · exact absurd h hm
          · exact h.symm
        · intro h
          exact .inr h.symm
      rw [h0, if_neg (by decide), if_pos (by omega), if_pos (by omega), if_pos (by omega), rd_nat, rd_nat, w1 (by omega), h1]

theorem all_ev (a b c : List Int) (hn : a.length ≤ 1000000) (hnc : c.length ≤ 1000000) (hb : b.length ≤ 1000000) (hsub : ∀ x ∈ c, x ∈ a) : ∀ e i : Nat, c.length - i = e → i ≤ c.length →
    Ev (fun k => watchbilllaw9_OrderMoves.l1 k a b c b i) true := by
  intro e
  induction e with
  | zero =>
    intro i he hi
    refine Ev.step (fun k => ?_) (Ev.bind (ints_ev b hb) (Ev.now true))
    rw [watchbilllaw9_OrderMoves.l1, if_neg (by omega)]
  | succ e ih =>
    intro i he hi
    have h := ih (i + 1) (by omega) (by omega)
    have hm : c.getD i 0 ∈ a := hsub _ (by simp [List.getD, show i < c.length by omega])
    have h2 := among_ev a b c b i (by omega) hn hm true (by rw [w1 (by omega)]; exact h) a.length 0 (by omega) (by omega)
    refine Ev.step (fun k => ?_) h2
    rw [watchbilllaw9_OrderMoves.l1, if_pos (by omega)]
    simp

/-- A task of a deadline. -/
def tsk (l : List Int) (i : Nat) : S48 := ⟨strOfNums ([(wrap64 (97 + (i : Int))) % 256] : List Int), 900, wrap64 (300 + (wrap64 (rd l i))), 1, [⟨1, 1, 0, 0, []⟩]⟩
def tsks (l : List Int) (n : Nat) : List S48 := (List.range n).map (tsk l)
theorem tsks_len (l : List Int) (n : Nat) : (tsks l n).length = n := by simp [tsks]
theorem dls_tsks (l : List Int) (hl : ∀ x ∈ l, 0 ≤ x ∧ x ≤ 255) : dls (tsks l l.length) = l.map (300 + ·) := by
  apply List.ext_getElem
  · simp [dls, tsks]
  · intro i h1 h2
    have hi : i < l.length := by simpa using h2
    have hb := hl _ (List.getElem_mem hi)
    simp only [dls, tsks, tsk, List.getElem_map, List.getElem_range, rd]
    have : l.getD ((i : Int).toNat) 0 = l[i] := by simp [List.getD, hi]
    rw [this, w64 (x := l[i]) (by omega) (by omega), w64 (by omega) (by omega)]

/-- One deadline is shortened: who is ahead of it then was so before. -/
theorem short_ahead (ds : List Int) (k0 : Nat) (hk : k0 < ds.length) (v : Int) (hv : v ≤ ds.getD k0 0) (x : Nat) (h : dlt (ds.set k0 v) x k0 = true) : dlt ds x k0 = true := by
  by_cases e : x = k0
  · subst e
    rw [Go.Proofs.YthdmomaephiodaaH.dlt_irrefl] at h
    cases h
  · have h1 : (ds.set k0 v).getD x 0 = ds.getD x 0 := by simp [List.getD, List.getElem?_set_ne (Ne.symm e)]
    have h2 : (ds.set k0 v).getD k0 0 = v := by simp [List.getD, hk]
    simp only [dlt, decide_eq_true_eq, h1, h2] at h ⊢
    omega
theorem short_others (ds : List Int) (k0 : Nat) (v : Int) (x y : Nat) (hx : x ≠ k0) (hy : y ≠ k0) : dlt (ds.set k0 v) x y = dlt ds x y := by
  have h1 : (ds.set k0 v).getD x 0 = ds.getD x 0 := by simp [List.getD, List.getElem?_set_ne (Ne.symm hx)]
  have h2 : (ds.set k0 v).getD y 0 = ds.getD y 0 := by simp [List.getD, List.getElem?_set_ne (Ne.symm hy)]
  simp only [dlt, h1, h2]
theorem prios_lt (ds : List Int) (i j : Nat) (hi : i < ds.length) (hj : j < ds.length) : ((prios ds).getD j 0 < (prios ds).getD i 0) ↔ dlt ds i j = true := by
  rw [prios_get ds j hj, prios_get ds i hi]
  by_cases e : i = j
  · subst e
    rw [Go.Proofs.YthdmomaephiodaaH.dlt_irrefl]
    simp
  · rw [← ahead_iff ds i j hi hj e]
    omega
theorem short_without (ds : List Int) (k0 : Nat) (v : Int) : withoutL (prios (ds.set k0 v)) k0 (prios (ds.set k0 v)).length = withoutL (prios ds) k0 (prios ds).length := by
  have hl : (prios (ds.set k0 v)).length = (prios ds).length := by rw [prios_len, prios_len, List.length_set]
  have hl2 : (ds.set k0 v).length = ds.length := List.length_set ..
  unfold withoutL
  rw [hl]
  refine List.map_congr_left fun i hi => ?_
  have hi1 : i < ds.length ∧ i ≠ k0 := by
    have := List.mem_filter.1 hi
    rw [prios_len] at this
    simpa using this
  congr 1
  unfold below
  rw [prios_len]
  refine List.countP_congr fun j hj => ?_
  have hj1 : j < ds.length := by simpa using hj
  by_cases e : j = k0
  · simp [e]
  · have h1 := prios_lt ds i j hi1.1 hj1
    have h2 := prios_lt (ds.set k0 v) i j (by omega) (by omega)
    rw [short_others ds k0 v i j hi1.2 e] at h2
    simp only [Bool.and_eq_true, decide_eq_true_eq]
    rw [h1, h2]

theorem dls_set (ts : List S48) (k0 : Nat) (x : S48) : dls (ts.set k0 x) = (dls ts).set k0 x.f2 := by
  simp [dls, List.map_set]

theorem castL_len (l : List Nat) : (castL l).length = l.length := by simp [castL]
theorem whichL_le (p : List Int) (i : Nat) (s : Int) : (whichL p i s).length ≤ p.length := by
  have := List.length_filter_le (fun k => decide (cmpP (p.getD k 0) (p.getD i 0) = s)) (List.range p.length)
  simpa [whichL] using this

theorem l0_ev (l : List Int) (hl : ∀ x ∈ l, 0 ≤ x ∧ x ≤ 255) (hn : l.length ≤ 12) (h1 : 1 ≤ l.length) (a1 a2 : Int) (ha1 : 0 ≤ a1 ∧ a1 ≤ 255) (ha2 : 0 ≤ a2 ∧ a2 ≤ 255) : ∀ d i : Nat, l.length - i = d → i ≤ l.length → Ev (fun k => watchbilllaw9_OrderMoves.l0 k l a1 a2 i 0 (tsks l i)) true := by
  intro d
  induction d with
  | zero =>
    intro i hd hi
    obtain rfl : i = l.length := by omega
    obtain ⟨k0, hk0⟩ : ∃ k0 : Nat, Int.tmod (wrap64 a1) (l.length : Int) = (k0 : Int) ∧ k0 < l.length := by
      rw [w64 (by omega) (by omega), Int.tmod_eq_emod_of_nonneg ha1.1]
      have := Int.emod_nonneg a1 (b := (l.length : Int)) (by omega)
      have := Int.emod_lt_of_pos a1 (b := (l.length : Int)) (by omega)
      exact ⟨(a1 % (l.length : Int)).toNat, by omega, by omega⟩
    obtain ⟨hk, hk1⟩ := hk0
    have hds := dls_tsks l hl
    have htl := tsks_len l l.length
    generalize hts : tsks l l.length = ts at hds htl
    have hf2 : (rd_T48 ts k0).f2 = (dls ts).getD k0 0 := (dls_get ts k0 (by omega)).symm
    have hdk : (dls ts).getD k0 0 = 300 + l.getD k0 0 := by rw [hds]; simp [List.getD, hk1]
    have hlk : 0 ≤ l.getD k0 0 ∧ l.getD k0 0 ≤ 255 := hl _ (by simp [List.getD, hk1])
    generalize hx : (⟨(rd_T48 ts (k0 : Int)).f0, (rd_T48 ts (k0 : Int)).f1, wrap64 (((rd_T48 ts (k0 : Int)).f2) - (wrap64 (a2))), (rd_T48 ts (k0 : Int)).f3, (rd_T48 ts (k0 : Int)).f4⟩ : S48) = x
    have hx2 : x.f2 = (dls ts).getD k0 0 - a2 := by
      rw [← hx]
      show wrap64 (((rd_T48 ts (k0 : Int)).f2) - (wrap64 (a2))) = _
      rw [w64 (x := a2) (by omega) (by omega), hf2, w64 (by omega) (by omega)]
    have hds2 : dls (ts.set k0 x) = (dls ts).set k0 ((dls ts).getD k0 0 - a2) := by rw [dls_set, hx2]
    have hdl : (dls ts).length = l.length := by rw [dls_len, htl]
    have hts2 : (ts.set k0 x).length = l.length := by rw [List.length_set, htl]
    have e1 := higher_ev 0 [] ts (by omega) k0 (by omega)
    have e2 := without_ev (prios (dls ts)) k0 (by rw [prios_len]; omega)
    have e3 := higher_ev 0 [] (ts.set k0 x) (by omega) k0 (by omega)
    have e4 := without_ev (prios (dls (ts.set k0 x))) k0 (by rw [prios_len, dls_len]; omega)
    rw [hds2, short_without, ← hds2] at e4
    have ha := whichL_high (dls ts) k0 (by omega)
    have hc := whichL_high (dls (ts.set k0 x)) k0 (by rw [dls_len]; omega)
    rw [ha] at e1
    rw [hc] at e3
    have hsub : ∀ y ∈ (List.range (dls (ts.set k0 x)).length).filter fun k => dlt (dls (ts.set k0 x)) k k0, y ∈ (List.range (dls ts).length).filter fun k => dlt (dls ts) k k0 := by
      intro y hy
      rw [List.mem_filter] at hy ⊢
      refine ⟨by have := hy.1; rw [dls_len, List.length_set] at this; rw [dls_len]; exact this, ?_⟩
      have := hy.2
      rw [hds2] at this
      exact short_ahead _ k0 (by omega) _ (by omega) y this
    have hlen : ((List.range (dls (ts.set k0 x)).length).filter fun k => dlt (dls (ts.set k0 x)) k k0).length ≤ ((List.range (dls ts).length).filter fun k => dlt (dls ts) k k0).length := by
      rw [← List.countP_eq_length_filter, ← List.countP_eq_length_filter]
      have hll : (dls (ts.set k0 x)).length = (dls ts).length := by rw [dls_len, dls_len, List.length_set]
      rw [hll]
      refine Go.Proofs.YthdmomaephiodaaH.countP_le' _ _ _ (fun y hy h => ?_)
      rw [hds2] at h
      exact short_ahead _ k0 (by omega) _ (by omega) y h
    have hA : ((List.range (dls ts).length).filter fun k => dlt (dls ts) k k0).length ≤ 12 := by
      have := List.length_filter_le (fun k => dlt (dls ts) k k0) (List.range (dls ts).length)
      rw [List.length_range] at this
      omega
    have hW : (withoutL (prios (dls ts)) k0 (prios (dls ts)).length).length ≤ 12 := by
      have := withoutL_le (prios (dls ts)) k0 (prios (dls ts)).length
      rw [prios_len] at this
      rw [prios_len]
      omega
    have e5 := all_ev (castL ((List.range (dls ts).length).filter fun k => dlt (dls ts) k k0)) (withoutL (prios (dls ts)) k0 (prios (dls ts)).length) (castL ((List.range (dls (ts.set k0 x)).length).filter fun k => dlt (dls (ts.set k0 x)) k k0)) (by rw [castL_len]; omega) (by rw [castL_len]; omega) (by omega) (by
      intro z hz
      simp only [castL, List.mem_map] at hz ⊢
      obtain ⟨y, hy, rfl⟩ := hz
      exact ⟨y, hsub y hy, rfl⟩) _ 0 rfl (by omega)
    refine Ev.step (f := fun k => (order_Higher.f k 0 [] ts k0).bind fun t359 => ((watchbilllaw9_without.f k (prios (dls ts)) k0).bind fun t365 => ((order_Higher.f k 0 [] (ts.set k0 x) k0).bind fun t370 => ((watchbilllaw9_without.f k (prios (dls (ts.set k0 x))) k0).bind fun t376 => (if (t370.length : Int) > (t359.length : Int) then some false else watchbilllaw9_OrderMoves.l1 k t359 t365 t370 t376 0))))) (fun k => ?_) ?_
    · rw [watchbilllaw9_OrderMoves.l0, if_neg (by omega), if_neg (by omega), hk]
      simp only [prios_f 0 [] ts (by omega), Option.bind_some]
      have hp1 : (0 : Int) ≤ (k0 : Int) := by omega
      have hp2 : (k0 : Int) < (ts.length : Int) := by omega
      simp only [hp1, hp2, if_true, hx, Int.toNat_natCast, prios_f 0 [] (ts.set k0 x) (by omega), Option.bind_some]
    · refine Ev.bind e1 (Ev.bind e2 (Ev.bind e3 (Ev.bind e4 ?_)))
      refine Ev.congr (fun k => ?_) e5
      rw [if_neg (by rw [castL_len, castL_len]; omega)]
      rfl
  | succ d ih =>
    intro i hd hi
    have h := ih (i + 1) (by omega) (by omega)
    refine Ev.step (f := fun k => watchbilllaw9_OrderMoves.l0 k l a1 a2 (i + 1 : Nat) 0 (tsks l (i + 1))) (fun k => ?_) h
    rw [watchbilllaw9_OrderMoves.l0, if_pos (by omega), if_pos (by omega), if_pos (by simp [tsks]; omega), w1 (by omega)]
    have : tsks l (i + 1) = tsks l i ++ [tsk l i] := by simp [tsks, List.range_succ]
    rw [this]
    rfl

theorem OrderMoves : watchbilllaw9_OrderMoves.Pure := by
  intro l a1 a2 hm h8 hwf hw1 hw2
  have hl : ∀ x ∈ l, 0 ≤ x ∧ x ≤ 255 := fun x hx => u8_of (hwf x hx)
  refine Ev.rounds (r := true) ?_
  unfold watchbilllaw9_OrderMoves.f
  refine Ev.bind known_ev ?_
  simp only [if_true]
  have out : Ev (fun k => watchbilllaw9_OrderMoves.j0 k l a1 a2 true) true := Ev.step (f := fun _ => some true) (fun k => by rw [watchbilllaw9_OrderMoves.j0, if_pos rfl]) (Ev.now true)
  by_cases h1 : (l.length : Int) < 1
  · refine Ev.congr (fun k => by rw [if_pos h1]) out
  · by_cases h2 : (l.length : Int) > 12
    · refine Ev.congr (fun k => by rw [if_neg h1, decide_eq_true h2]) out
    · refine Ev.congr (fun k => by rw [if_neg h1, decide_eq_false h2]) ?_
      refine Ev.step (fun k => by rw [watchbilllaw9_OrderMoves.j0, if_neg (by decide)]) ?_
      exact l0_ev l hl (by omega) (by omega) a1 a2 (u8_of hw1) (u8_of hw2) l.length 0 (by omega) (by omega)

end Go.Proofs.Ythdmomaephiodaa.Pure
