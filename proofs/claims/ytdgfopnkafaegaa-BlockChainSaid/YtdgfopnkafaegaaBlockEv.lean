/- What the printed function of package block tells, in plain words. -/
import Derived.Test.YtdgfopnkafaegaaCeilEv
import Derived.Test.YtdgfopnkafaegaaXAx6
namespace Go.Proofs.Ytdgfopnkafaegaa.Pure
set_option linter.unusedVariables false
set_option linter.unusedSimpArgs false
open Go.RowKit Go.Proofs.Ytdgfopnkafaegaa.XA Go.Proofs.YtdgfopnkafaegaaW.PrintWords Go.Proofs.YtdgfopnkafaegaaW.PrintLast Go.Proofs.YtdgfopnkafaegaaW.PrintMore
open Go.Proofs.YtdgfopnkafaegaaH (prios dlt prios_get prios_len ahead_lt ahead_iff)

/-- The greatest of what those in T hold, and a. -/
def maxOver (S : Nat → Int) (a : Int) (T : List Nat) : Int := T.foldl (fun a k => mx a (S k)) a
/-- How long one may be held up, as far as the first x locks tell: C the ceilings, p its priority, low those below it, S lock task: how long it is held. -/
def blkV (C : List Int) (S : Nat → Nat → Int) (p : Int) (low : List Nat) : Nat → Int
  | 0 => 0
  | x + 1 => if C.getD x 0 < p then blkV C S p low x else maxOver (S x) (blkV C S p low x) low
/-- The row while lock x is looked at, q tasks seen. -/
def bst (P C : List Int) (S : Nat → Nat → Int) (low : Nat → List Nat) (x q : Nat) : List Int := (List.range P.length).map fun (i : Nat) => if i < q then blkV C S (P.getD i 0) (low i) (x + 1) else blkV C S (P.getD i 0) (low i) x
theorem bst_len (P C : List Int) (S : Nat → Nat → Int) (low : Nat → List Nat) (x q : Nat) : (bst P C S low x q).length = P.length := by simp [bst]
theorem bst_get (P C : List Int) (S : Nat → Nat → Int) (low : Nat → List Nat) (x q : Nat) (h : q < P.length) : (bst P C S low x q).getD q 0 = blkV C S (P.getD q 0) (low q) x := by simp [bst, List.getD, h]
theorem bst_next (P C : List Int) (S : Nat → Nat → Int) (low : Nat → List Nat) (x : Nat) : bst P C S low x P.length = bst P C S low (x + 1) 0 := by
  unfold bst
  refine List.map_congr_left fun i hi => ?_
  have : i < P.length := by simpa using hi
  rw [if_pos this, if_neg (by omega)]
theorem bst_set (P C : List Int) (S : Nat → Nat → Int) (low : Nat → List Nat) (x q : Nat) (h : q < P.length) (v : Int) (hv : v = blkV C S (P.getD q 0) (low q) (x + 1)) : (bst P C S low x q).set q v = bst P C S low x (q + 1) := by
  apply List.ext_getElem
  · simp [bst]
  · intro j h1 h2
    rw [List.getElem_set]
    simp only [bst, List.getElem_map, List.getElem_range]
    by_cases e : q = j
    · subst e
      rw [if_pos rfl, if_pos (by omega), hv]
    · rw [if_neg e]
      by_cases h3 : j < q
      · rw [if_pos h3, if_pos (by omega)]
      · rw [if_neg h3, if_neg (by omega)]
theorem bst_keep (P C : List Int) (S : Nat → Nat → Int) (low : Nat → List Nat) (x q : Nat) (hv : C.getD x 0 < P.getD q 0) : bst P C S low x q = bst P C S low x (q + 1) := by
  unfold bst
  refine List.map_congr_left fun i hi => ?_
  by_cases h3 : i < q
  · rw [if_pos h3, if_pos (by omega)]
  · rw [if_neg h3]
    by_cases e : i = q
    · subst e
      rw [if_pos (by omega), blkV, if_pos hv]
    · rw [if_neg (by omega)]

section
variable (P C : List Int) (S : Nat → Nat → Int) (low : Nat → List Nat) (n : Int) (cs : List S62) (ts : List S54) (hP : P.length = ts.length) (hm : ts.length ≤ 1000000)
  (hlow : ∀ i, i < ts.length → Ev (fun k => order_Lower.f k n cs ts i) (castL (low i))) (hlowm : ∀ i, ∀ k ∈ low i, k < ts.length) (hlown : ∀ i, (low i).length ≤ 1000000)
include hP hm hlow hlowm hlown
omit hlow in
theorem block_l2 (x : Nat) (hx : x < C.length) (hxn : C.length ≤ 1000000) (X : List Int) (hX : X.length = ts.length) (hXS : ∀ k, k < ts.length → X.getD k 0 = S x k) (q : Nat) (hq : q < ts.length) (hge : ¬ C.getD x 0 < P.getD q 0) (R : List Int)
    (hcont : Ev (fun k => block_Of.l1 k P C (bst P C S low x (q + 1)) (x : Int) X (C.length : Int) (x : Int) (ts.length : Int) ((q + 1 : Nat) : Int) n cs ts) R) : ∀ d j : Nat, (low q).length - j = d → j ≤ (low q).length → ∀ B : List Int, B.length = ts.length → B.set q (maxOver (S x) (B.getD q 0) ((low q).drop j)) = bst P C S low x (q + 1) →
    Ev (fun k => block_Of.l2 k P C B (x : Int) X (q : Int) (C.length : Int) (x : Int) (ts.length : Int) (q : Int) (castL (low q)) ((castL (low q)).length : Int) (j : Int) n cs ts) R := by
  intro d
  have hcl : (castL (low q)).length = (low q).length := by simp [castL]
  have := hlown q
  induction d with
  | zero =>
    intro j hd hj B hB hend
    rw [List.drop_of_length_le (by omega)] at hend
    have hself : B.set q (B.getD q 0) = B := by
      apply List.ext_getElem
      · simp
      · intro i h1 h2
        rw [List.getElem_set]
        split
        · rename_i e
          subst e
          simp [List.getD, h2]
        · rfl
    rw [show maxOver (S x) (B.getD q 0) [] = B.getD q 0 from rfl, hself] at hend
    rw [hend]
    exact Ev.step (fun k => by rw [block_Of.l2, if_neg (by omega), w1 (by omega)]) hcont
  | succ d ih =>
    intro j hd hj B hB hend
    have hlt : j < (low q).length := by omega
    obtain ⟨t, ht⟩ : ∃ t, t = (low q)[j] := ⟨_, rfl⟩
    have hdr : (low q).drop j = t :: (low q).drop (j + 1) := by rw [List.drop_eq_getElem_cons hlt, ht]
    have htm := hlowm q t (by rw [ht]; exact List.getElem_mem hlt)
    have hrd : rd (castL (low q)) (j : Int) = (t : Int) := by
      rw [rd_nat]
      simp [castL, List.getD, hlt, ht]
    have hi := ih (j + 1) (by omega) (by omega) (B.set q (mx (B.getD q 0) (S x t))) (by simpa using hB) (by
      rw [List.set_set]
      have : (B.set q (mx (B.getD q 0) (S x t))).getD q 0 = mx (B.getD q 0) (S x t) := by simp [List.getD, show q < B.length by omega]
      rw [this, ← hend, hdr]
      rfl)
    refine Ev.step (fun k => ?_) hi
    rw [block_Of.l2, hrd, if_pos (by omega), if_pos (by omega), if_pos (by omega), if_pos (by omega), if_pos (by omega), if_pos (by omega), if_pos (by omega), rd_nat, rd_nat, hXS t htm, Int.toNat_natCast, w1 (by omega)]
theorem block_l1 (x : Nat) (hx : x < C.length) (hxn : C.length ≤ 1000000) (X : List Int) (hX : X.length = ts.length) (hXS : ∀ k, k < ts.length → X.getD k 0 = S x k) (R : List Int)
    (hcont : Ev (fun k => block_Of.l0 k P C (bst P C S low (x + 1) 0) (C.length : Int) ((x + 1 : Nat) : Int) n cs ts) R) : ∀ d q : Nat, ts.length - q = d → q ≤ ts.length →
    Ev (fun k => block_Of.l1 k P C (bst P C S low x q) (x : Int) X (C.length : Int) (x : Int) (ts.length : Int) (q : Int) n cs ts) R := by
  intro d
  induction d with
  | zero =>
    intro q hd hq
    obtain rfl : q = ts.length := by omega
    rw [← hP, bst_next]
    exact Ev.step (fun k => by rw [block_Of.l1, if_neg (by omega), w1 (by omega)]) hcont
  | succ d ih =>
    intro q hd hq
    have hi := ih (q + 1) (by omega) (by omega)
    have hlt : q < ts.length := by omega
    by_cases hc : C.getD x 0 < P.getD q 0
    · rw [bst_keep _ _ _ _ _ _ hc]
      exact Ev.step (fun k => by rw [block_Of.l1, if_pos (by omega), if_pos (by omega), if_pos (by omega), if_pos (by omega), if_pos (by omega), rd_nat, rd_nat, if_pos hc, w1 (by omega)]) hi
    · have h2 := block_l2 P C S low n cs ts hP hm hlowm hlown x hx hxn X hX hXS q hlt hc R hi _ 0 rfl (by omega) (bst P C S low x q) (by rw [bst_len]; exact hP) (by
        rw [bst_get _ _ _ _ _ _ (by omega), List.drop_zero]
        exact bst_set _ _ _ _ _ _ (by omega) _ (by rw [blkV, if_neg hc]))
      refine Ev.step (fun k => by rw [block_Of.l1, if_pos (by omega), if_pos (by omega), if_pos (by omega), if_pos (by omega), if_pos (by omega), rd_nat, rd_nat, if_neg hc]) ?_
      exact Ev.bind (hlow q hlt) h2
theorem block_l0 (hxn : C.length ≤ 1000000) (X : Nat → List Int) (hXev : ∀ x, x < C.length → Ev (fun k => ceil_Sections.f k n cs ts (x : Int)) (X x)) (hX : ∀ x, x < C.length → (X x).length = ts.length) (hXS : ∀ x, x < C.length → ∀ k, k < ts.length → (X x).getD k 0 = S x k) : ∀ d x : Nat, C.length - x = d → x ≤ C.length →
    Ev (fun k => block_Of.l0 k P C (bst P C S low x 0) (C.length : Int) (x : Int) n cs ts) (bst P C S low C.length 0) := by
  intro d
  induction d with
  | zero =>
    intro x hd hx
    obtain rfl : x = C.length := by omega
    exact Ev.step (f := fun _ => some _) (fun k => by rw [block_Of.l0, if_neg (by omega)]) (Ev.now _)
  | succ d ih =>
    intro x hd hx
    have h := block_l1 P C S low n cs ts hP hm hlow hlowm hlown x (by omega) hxn (X x) (hX x (by omega)) (hXS x (by omega)) _ (ih (x + 1) (by omega) (by omega)) _ 0 rfl (by omega)
    refine Ev.step (fun k => by rw [block_Of.l0, if_pos (by omega)]) (Ev.bind (hXev x (by omega)) ?_)
    refine Ev.congr (fun k => ?_) h
    rw [hP]
    rfl
end
/-- What block.Of tells. -/
def blockL (P C : List Int) (S : Nat → Nat → Int) (low : Nat → List Nat) : List Int := (List.range P.length).map fun (i : Nat) => blkV C S (P.getD i 0) (low i) C.length
theorem block_ev (L : Nat → List Int) (S : Nat → Nat → Int) (n : Nat) (cs : List S62) (ts : List S54) (h : 1 ≤ ts.length ∧ ts.length < 20) (hn : n ≤ 1000000)
    (hL : ∀ i, i < ts.length → Ev (fun k => prog_Locks.f k (rd_T54 ts i).f4) (L i)) (hLn : ∀ i, (L i).length ≤ 1000000000)
    (X : Nat → List Int) (hXev : ∀ x, x < n → Ev (fun k => ceil_Sections.f k (n : Int) cs ts (x : Int)) (X x)) (hX : ∀ x, x < n → (X x).length = ts.length) (hXS : ∀ x, x < n → ∀ k, k < ts.length → (X x).getD k 0 = S x k) :
    Ev (fun k => block_Of.f k (n : Int) cs ts) (blockL (prios (dls ts)) (ceilsL (prios (dls ts)) L ts.length n) S (fun i => whichL (prios (dls ts)) i (-1))) := by
  have hl : (prios (dls ts)).length = ts.length := by rw [prios_len, dls_len]
  have hcl : (ceilsL (prios (dls ts)) L ts.length n).length = n := by simp [ceilsL]
  have hmem : ∀ i, ∀ k ∈ whichL (prios (dls ts)) i (-1), k < ts.length := by
    intro i k hk
    unfold whichL at hk
    have := (List.mem_filter.1 hk).1
    rw [hl] at this
    simpa using this
  have hlen : ∀ i, (whichL (prios (dls ts)) i (-1)).length ≤ 1000000 := by
    intro i
    have := List.length_filter_le (fun k => decide (cmpP ((prios (dls ts)).getD k 0) ((prios (dls ts)).getD i 0) = -1)) (List.range (prios (dls ts)).length)
    unfold whichL
    rw [List.length_range] at this
    omega
  have hb := block_l0 (prios (dls ts)) (ceilsL (prios (dls ts)) L ts.length n) S (fun i => whichL (prios (dls ts)) i (-1)) (n : Int) cs ts hl (by omega) (fun i hi => lower_ev _ cs ts h i hi) hmem hlen (by omega) X (fun x hx => hXev x (by omega)) (fun x hx => hX x (by omega)) (fun x hx => hXS x (by omega)) _ 0 rfl (by omega)
  have e0 : bst (prios (dls ts)) (ceilsL (prios (dls ts)) L ts.length n) S (fun i => whichL (prios (dls ts)) i (-1)) 0 0 = List.replicate ts.length 0 := by
    apply List.ext_getElem
    · simp [bst, hl]
    · intro j h1 h2
      simp [bst, blkV]
  have e1 : bst (prios (dls ts)) (ceilsL (prios (dls ts)) L ts.length n) S (fun i => whichL (prios (dls ts)) i (-1)) (ceilsL (prios (dls ts)) L ts.length n).length 0 = blockL (prios (dls ts)) (ceilsL (prios (dls ts)) L ts.length n) S (fun i => whichL (prios (dls ts)) i (-1)) := by
    unfold bst blockL
    exact List.map_congr_left fun j hj => by rw [if_neg (by omega)]
  rw [e0, e1] at hb
  unfold block_Of.f
  rw [prios_f _ _ _ h]
  refine Ev.congr (fun k => by rw [Option.bind_some]) (Ev.bind (ceil_ev L cs ts h hL hLn n hn) ?_)
  refine Ev.congr (fun k => ?_) hb
  rw [hl, if_pos (by omega), if_pos (by omega), Int.toNat_natCast]
  rfl
end Go.Proofs.Ytdgfopnkafaegaa.Pure
