/- What the printed Match and Flat of the reference tell of loops within one another. -/
import Derived.Test.YthdmomaephiodaaNestW
import Derived.Test.YthdmomaephiodaaXAx4
namespace Go.Proofs.Ythdmomaephiodaa.Nest
set_option linter.unusedVariables false
set_option linter.unusedSimpArgs false
open Go.RowKit Go.Proofs.Ythdmomaephiodaa.XA Go.Proofs.YthdmomaephiodaaW.PrintWords Go.Proofs.YthdmomaephiodaaW.PrintLast Go.Proofs.YthdmomaephiodaaW.PrintMore
abbrev kdR (o : S92) : Int := o.f0
abbrev nmR (o : S92) : Int := o.f1
theorem rdR {p pre post : List S92} {x : S92} (h : p = pre ++ x :: post) : rd_T92 p (pre.length : Int) = x := by subst h; simp [rd_T92, List.getD]
/-- The reference's Match goes over what is closed in itself. -/
theorem matchR_seg (R : Int) {d : Nat} {seg out : List S92} (h : FlatR kdR nmR d seg out) : ∀ (p pre post : List S92) (c : Nat), p = pre ++ (seg ++ post) → p.length ≤ 1000000 → 1 ≤ c → c + seg.length ≤ 2000000 →
    Ev (fun k => watchbillref8_Match.l0 k p (c : Int) ((pre.length + seg.length : Nat) : Int)) R → Ev (fun k => watchbillref8_Match.l0 k p (c : Int) (pre.length : Int)) R := by
  induction h with
  | nil d =>
    intro p pre post c hp hn h1 hS hc
    simpa using hc
  | op d o l out h8 h9 _ ih =>
    intro p pre post c hp hn h1 hS hc
    have hp' : p = pre ++ o :: (l ++ post) := by rw [hp]; rfl
    have hlen : p.length = pre.length + (1 + l.length + post.length) := by rw [hp']; simp; omega
    simp only [List.length_cons] at hS hc
    have hi := ih p (pre ++ [o]) post c (by rw [hp']; simp) hn h1 (by omega) (by
      simp only [List.length_append, List.length_cons, List.length_nil]
      rw [show pre.length + (0 + 1) + l.length = pre.length + (l.length + 1) by omega]
      exact hc)
    simp only [List.length_append, List.length_cons, List.length_nil, Nat.zero_add] at hi
    refine Ev.step (f := fun k => watchbillref8_Match.j2 k p (c : Int) (pre.length : Int)) (fun k => ?_) (Ev.step (fun k => ?_) hi)
    · rw [watchbillref8_Match.l0, if_pos (by omega), if_pos (by omega), rdR hp', if_neg h8]
    · rw [watchbillref8_Match.j2, if_pos (by omega), if_pos (by omega), rdR hp', if_neg h9, w1 (by omega)]
  | loop d o e n body bout l out h8 hn8 hn32 _ h9 _ ih1 ih2 =>
    intro p pre post c hp hn h1 hS hc
    have n8 : ¬ e.f0 = 8 := by rw [show e.f0 = 9 from h9]; decide
    have n9 : ¬ o.f0 = 9 := by rw [show o.f0 = 8 from h8]; decide
    have hp1 : p = pre ++ o :: (body ++ e :: (l ++ post)) := by rw [hp]; simp
    have hp2 : p = (pre ++ o :: body) ++ e :: (l ++ post) := by rw [hp]; simp
    have hlen : p.length = pre.length + body.length + l.length + post.length + 2 := by rw [hp1]; simp; omega
    simp only [List.length_append, List.length_cons] at hS hc
    have hi2 := ih2 p (pre ++ o :: body ++ [e]) post c (by rw [hp]; simp) hn h1 (by omega) (by
      simp only [List.length_append, List.length_cons, List.length_nil]
      rw [show pre.length + (body.length + 1) + (0 + 1) + l.length = pre.length + (body.length + 1 + (l.length + 1)) by omega]
      exact hc)
    have hi1 := ih1 p (pre ++ [o]) (e :: (l ++ post)) (c + 1) (by rw [hp]; simp) hn (by omega) (by omega) (by
      have epos : ((pre ++ [o]).length + body.length : Nat) = (pre ++ o :: body).length := by simp; omega
      have hpl : (pre ++ o :: body).length = pre.length + body.length + 1 := by simp; omega
      have hw : wrap64 (((c + 1 : Nat) : Int) - 1) = (c : Int) := by rw [w64 (by omega) (by omega)]; omega
      have hp3 : ((pre ++ o :: body ++ [e]).length : Nat) = (pre ++ o :: body).length + 1 := by simp; omega
      rw [hp3] at hi2
      rw [epos]
      refine Ev.step (f := fun k => watchbillref8_Match.j2 k p ((c + 1 : Nat) : Int) (((pre ++ o :: body).length : Nat) : Int)) (fun k => ?_) (Ev.step (fun k => ?_) hi2)
      · rw [watchbillref8_Match.l0, if_pos (by omega), if_pos (by omega), rdR hp2, if_neg n8]
      · rw [watchbillref8_Match.j2, if_pos (by omega), if_pos (by omega), rdR hp2, if_pos h9, hw, if_neg (by omega), w1 (by omega)])
    have epos : ((pre ++ [o]).length : Nat) = pre.length + 1 := by simp
    rw [epos] at hi1
    refine Ev.step (f := fun k => watchbillref8_Match.j2 k p ((c + 1 : Nat) : Int) (pre.length : Int)) (fun k => ?_) (Ev.step (fun k => ?_) hi1)
    · rw [watchbillref8_Match.l0, if_pos (by omega), if_pos (by omega), rdR hp1, if_pos h8, w1 (by omega)]
    · rw [watchbillref8_Match.j2, if_pos (by omega), if_pos (by omega), rdR hp1, if_neg n9, w1 (by omega)]
theorem matchR_ev {d2 : Nat} {pre body bout : List S92} (h2 : FlatR kdR nmR d2 body bout) (o e : S92) (post : List S92) (h8 : o.f0 = 8) (h9 : e.f0 = 9) (p : List S92) (hp : p = pre ++ o :: (body ++ e :: post)) (hn : p.length ≤ 1000000) :
    Ev (fun k => watchbillref8_Match.f k p (pre.length : Int)) ((pre.length + 1 + body.length : Nat) : Int) := by
  have hlen : p.length = pre.length + body.length + post.length + 2 := by rw [hp]; simp; omega
  have hp2 : p = (pre ++ o :: body) ++ e :: post := by rw [hp]; simp
  have hb := matchR_seg ((pre.length + 1 + body.length : Nat) : Int) h2 p (pre ++ [o]) (e :: post) 1 (by rw [hp]; simp) hn (by omega) (by omega) (by
    have epos : ((pre ++ [o]).length + body.length : Nat) = (pre ++ o :: body).length := by simp; omega
    have hpl : (pre ++ o :: body).length = pre.length + body.length + 1 := by simp; omega
    have hw : wrap64 (((1 : Nat) : Int) - 1) = 0 := by unfold wrap64; omega
    have n8 : ¬ e.f0 = 8 := by rw [h9]; decide
    rw [epos]
    refine Ev.step (f := fun k => watchbillref8_Match.j2 k p ((1 : Nat) : Int) (((pre ++ o :: body).length : Nat) : Int)) (fun k => ?_) (Ev.step (f := fun _ => some _) (fun k => ?_) (Ev.now _))
    · rw [watchbillref8_Match.l0, if_pos (by omega), if_pos (by omega), rdR hp2, if_neg n8]
    · rw [watchbillref8_Match.j2, if_pos (by omega), if_pos (by omega), rdR hp2, if_pos h9, hw, if_pos rfl]
      congr 1
      omega)
  have epos : ((pre ++ [o]).length : Nat) = pre.length + 1 := by simp
  rw [epos] at hb
  have h0 : Ev (fun k => watchbillref8_Match.l0 k p 0 (pre.length : Int)) ((pre.length + 1 + body.length : Nat) : Int) := by
    refine Ev.step (f := fun k => watchbillref8_Match.j2 k p ((1 : Nat) : Int) (pre.length : Int)) (fun k => ?_) (Ev.step (fun k => ?_) hb)
    · rw [watchbillref8_Match.l0, if_pos (by omega), if_pos (by omega), rdR hp, if_pos h8, show wrap64 (0 + 1) = ((1 : Nat) : Int) by unfold wrap64; omega]
    · rw [watchbillref8_Match.j2, if_pos (by omega), if_pos (by omega), rdR hp, if_neg (show ¬ o.f0 = 9 by rw [h8]; decide), w1 (by omega)]
  refine Ev.congr (f := fun k => watchbillref8_Match.j0 k p (pre.length : Int) false) (fun k => ?_) (Ev.step (fun k => ?_) h0)
  · unfold watchbillref8_Match.f
    rw [if_neg (by omega)]
    congr 1
    simp only [decide_eq_false_iff_not]
    omega
  · rw [watchbillref8_Match.j0, if_neg (by decide), if_pos (by omega), if_pos (by omega), rdR hp, if_pos h8]
theorem flatR_rounds (p : List S92) (x4 x5 : Int) (b : List S92) (n : Nat) (hn : n ≤ 32) (h0 : 0 ≤ x4) (h1 : x4 < (p.length : Int)) (hx : (rd_T92 p x4).f1 = (n : Int)) (R : List S92) (acc : List S92) (hb : acc.length + n * b.length ≤ 1000000000) (hc : Ev (fun k => watchbillref8_Flat.l0 k p (acc ++ rep n b) (wrap64 (x5 + 1))) R) : ∀ d j : Nat, n - j = d → j ≤ n → Ev (fun k => watchbillref8_Flat.l1 k p (acc ++ rep j b) x4 x5 b (j : Int)) R := by
  intro d
  induction d with
  | zero =>
    intro j hd hj
    obtain rfl : j = n := by omega
    exact Ev.step (fun k => by rw [watchbillref8_Flat.l1, if_pos h0, if_pos h1, hx, if_neg (by omega)]) hc
  | succ d ih =>
    intro j hd hj
    have hi := ih (j + 1) (by omega) (by omega)
    refine Ev.step (fun k => ?_) hi
    have hl : (acc ++ rep j b).length + b.length ≤ 1000000000 := by
      rw [List.length_append, rep_len]
      have : (j + 1) * b.length ≤ n * b.length := Nat.mul_le_mul_right _ (by omega)
      rw [Nat.add_mul] at this
      omega
    rw [watchbillref8_Flat.l1, if_pos h0, if_pos h1, hx, if_pos (by omega), if_pos (by omega), w1 (by omega), rep_succ, List.append_assoc]
theorem flatR_at {d : Nat} {l out : List S92} (h : FlatR kdR nmR d l out) : ∀ (p pre acc : List S92), p = pre ++ l → p.length ≤ 1000000 → acc.length + out.length ≤ 1000000000 → Ev (fun k => watchbillref8_Flat.l0 k p acc (pre.length : Int)) (acc ++ out) := by
  induction h with
  | nil d =>
    intro p pre acc hp hn hb
    have : p.length = pre.length := by rw [hp]; simp
    rw [List.append_nil]
    exact Ev.step (f := fun _ => some _) (fun k => by rw [watchbillref8_Flat.l0, if_neg (by omega)]) (Ev.now _)
  | op d o l out h8 h9 hl ih =>
    intro p pre acc hp hn hb
    have hp' : p = pre ++ o :: l := hp
    have hlen : p.length = pre.length + l.length + 1 := by rw [hp']; simp; omega
    have hi := ih p (pre ++ [o]) (acc ++ [o]) (by rw [hp']; simp) hn (by simp only [List.length_append, List.length_cons, List.length_nil] at hb ⊢; omega)
    simp only [List.length_append, List.length_cons, List.length_nil, Nat.zero_add, List.append_assoc, List.cons_append, List.nil_append] at hi
    simp only [List.length_cons] at hb
    refine Ev.step (fun k => ?_) hi
    rw [watchbillref8_Flat.l0, if_pos (by omega), if_pos (by omega), rdR hp', if_neg h8, if_neg h9, if_pos (by omega), w1 (by omega)]
  | loop d o e n body bout l out h8 hn8 hn32 hbody h9 hl ih1 ih2 =>
    intro p pre acc hp hn hb
    have hp1 : p = pre ++ o :: (body ++ e :: l) := by rw [hp]; simp
    have hlen : p.length = pre.length + body.length + l.length + 2 := by rw [hp1]; simp; omega
    simp only [List.length_append, rep_len] at hb
    have hm := matchR_ev hbody o e l h8 h9 p hp1 hn
    have hi2 := ih2 p (pre ++ o :: body ++ [e]) (acc ++ rep n bout) (by rw [hp]; simp) hn (by rw [List.length_append, rep_len]; omega)
    have hbl : bout.length ≤ n * bout.length := Nat.le_mul_of_pos_left _ (by omega)
    have hi1 := ih1 body [] [] rfl (by omega) (by simp only [List.length_nil]; omega)
    have hf : Ev (fun k => watchbillref8_Flat.f k body) bout := Ev.step (fun k => by rw [watchbillref8_Flat.f]; rfl) hi1
    have hpl : (pre ++ o :: body ++ [e]).length = pre.length + 1 + body.length + 1 := by simp; omega
    have hc : Ev (fun k => watchbillref8_Flat.l0 k p (acc ++ rep n bout) (wrap64 (((pre.length + 1 + body.length : Nat) : Int) + 1))) (acc ++ (rep n bout ++ out)) := by
      rw [w1 (by omega), ← hpl, ← List.append_assoc]
      exact hi2
    have hr := flatR_rounds p (pre.length : Int) ((pre.length + 1 + body.length : Nat) : Int) bout n hn32.2 (by omega) (by omega) (by rw [rdR hp1]; exact hn8) _ acc (by omega) hc _ 0 rfl (by omega)
    have hsub : (p.take (pre.length + 1 + body.length)).drop (pre.length + 1) = body := by
      have e1 : p = (pre ++ o :: body) ++ (e :: l) := by rw [hp]; simp
      have e2 : (pre ++ o :: body).length = pre.length + 1 + body.length := by simp; omega
      have e3 : p.take (pre.length + 1 + body.length) = pre ++ o :: body := by rw [e1, ← e2, List.take_left']; rfl
      rw [e3, show pre ++ o :: body = (pre ++ [o]) ++ body by simp, show pre.length + 1 = (pre ++ [o]).length by simp, List.drop_left']
      rfl
    refine Ev.step (f := fun k => (watchbillref8_Match.f k p (pre.length : Int)).bind fun t => if 0 ≤ wrap64 ((pre.length : Int) + 1) then if wrap64 ((pre.length : Int) + 1) ≤ t then if t ≤ (p.length : Int) then (watchbillref8_Flat.f k ((p.take t.toNat).drop (wrap64 ((pre.length : Int) + 1)).toNat)).bind fun b => watchbillref8_Flat.l1 k p acc (pre.length : Int) t b 0 else none else none else none) (fun k => by rw [watchbillref8_Flat.l0, if_pos (by omega), if_pos (by omega), rdR hp1, if_pos h8]) (Ev.bind (f := fun k t => if 0 ≤ wrap64 ((pre.length : Int) + 1) then if wrap64 ((pre.length : Int) + 1) ≤ t then if t ≤ (p.length : Int) then (watchbillref8_Flat.f k ((p.take t.toNat).drop (wrap64 ((pre.length : Int) + 1)).toNat)).bind fun b => watchbillref8_Flat.l1 k p acc (pre.length : Int) t b 0 else none else none else none) hm ?_)
    have hb2 : Ev (fun k => (watchbillref8_Flat.f k body).bind fun t => watchbillref8_Flat.l1 k p acc (pre.length : Int) ((pre.length + 1 + body.length : Nat) : Int) t 0) (acc ++ (rep n bout ++ out)) := by
      refine Ev.bind hf ?_
      have e0 : acc ++ rep 0 bout = acc := by simp [rep]
      rw [e0] at hr
      exact hr
    refine Ev.congr (fun k => ?_) hb2
    rw [w1 (by omega), if_pos (by omega), if_pos (by omega), if_pos (by omega), Int.toNat_natCast, Int.toNat_natCast, hsub]
theorem flat_ref {d : Nat} {l out : List S92} (h : FlatR kdR nmR d l out) (hn : l.length ≤ 1000000) (hb : out.length ≤ 1000000000) : Ev (fun k => watchbillref8_Flat.f k l) out :=
  Ev.step (fun k => by rw [watchbillref8_Flat.f]; rfl) (flatR_at h l [] [] rfl hn (by simp only [List.length_nil]; omega))
end Go.Proofs.Ythdmomaephiodaa.Nest
