/- What the printed Match and Flat of the program tell of loops within one another. -/
import Derived.Test.YtjnhahdelipebaaNestW
import Derived.Test.YtjnhahdelipebaaXAx3
namespace Go.Proofs.Ytjnhahdelipebaa.Nest
set_option linter.unusedVariables false
set_option linter.unusedSimpArgs false
open Go.RowKit Go.Proofs.Ytjnhahdelipebaa.XA Go.Proofs.YtjnhahdelipebaaW.PrintWords Go.Proofs.YtjnhahdelipebaaW.PrintLast Go.Proofs.YtjnhahdelipebaaW.PrintMore
abbrev kdP (o : S52) : Int := o.f0
abbrev nmP (o : S52) : Int := o.f1
theorem rdP {p pre post : List S52} {x : S52} (h : p = pre ++ x :: post) : rd_T52 p (pre.length : Int) = x := by subst h; simp [rd_T52, List.getD]
/-- Match goes over what is closed in itself. -/
theorem match_seg (a : Int) (R : Int) {d : Nat} {seg out : List S52} (h : FlatR kdP nmP d seg out) : ∀ (p pre post : List S52) (S : List Int), p = pre ++ (seg ++ post) → p.length ≤ 1000000 → S.length + seg.length ≤ 2000000 → (a < pre.length ∨ (pre.length : Int) + seg.length ≤ a) →
    Ev (fun k => prog_Match.l0 k a S p (p.length : Int) ((pre.length + seg.length : Nat) : Int)) R → Ev (fun k => prog_Match.l0 k a S p (p.length : Int) (pre.length : Int)) R := by
  induction h with
  | nil d =>
    intro p pre post S hp hn hS ha hc
    simpa using hc
  | op d o l out h8 h9 _ ih =>
    intro p pre post S hp hn hS ha hc
    have hp' : p = pre ++ o :: (l ++ post) := by rw [hp]; rfl
    have hlen : p.length = pre.length + (1 + l.length + post.length) := by rw [hp']; simp; omega
    simp only [List.length_cons] at hS ha hc
    have hi := ih p (pre ++ [o]) post S (by rw [hp']; simp) hn (by omega) (by simp only [List.length_append, List.length_cons, List.length_nil]; omega) (by
      simp only [List.length_append, List.length_cons, List.length_nil]
      rw [show pre.length + (0 + 1) + l.length = pre.length + (l.length + 1) by omega]
      exact hc)
    simp only [List.length_append, List.length_cons, List.length_nil, Nat.zero_add] at hi
    refine Ev.step (fun k => ?_) hi
    rw [prog_Match.l0, if_pos (by omega), if_pos (by omega), if_pos (by omega), rdP hp', if_neg h8, if_neg h9, w1 (by omega)]
  | loop d o e n body bout l out h8 hn8 hn32 _ h9 _ ih1 ih2 =>
    intro p pre post S hp hn hS ha hc
    have n8 : ¬ e.f0 = 8 := by rw [show e.f0 = 9 from h9]; decide
    have hp1 : p = pre ++ o :: (body ++ e :: (l ++ post)) := by rw [hp]; simp
    have hp2 : p = (pre ++ o :: body) ++ e :: (l ++ post) := by rw [hp]; simp
    have hlen : p.length = pre.length + body.length + l.length + post.length + 2 := by rw [hp1]; simp; omega
    simp only [List.length_append, List.length_cons] at hS ha hc
    have hi2 := ih2 p (pre ++ o :: body ++ [e]) post S (by rw [hp]; simp) hn (by omega) (by simp only [List.length_append, List.length_cons, List.length_nil]; omega) (by
      simp only [List.length_append, List.length_cons, List.length_nil]
      rw [show pre.length + (body.length + 1) + (0 + 1) + l.length = pre.length + (body.length + 1 + (l.length + 1)) by omega]
      exact hc)
    have hi1 := ih1 p (pre ++ [o]) (e :: (l ++ post)) (S ++ [(pre.length : Int)]) (by rw [hp]; simp) hn (by simp only [List.length_append, List.length_cons, List.length_nil]; omega) (by simp only [List.length_append, List.length_cons, List.length_nil]; omega) (by
      refine Ev.step (fun k => ?_) hi2
      have epos : ((pre ++ [o]).length + body.length : Nat) = (pre ++ o :: body).length := by simp; omega
      have hl1 : (S ++ [(pre.length : Int)]).length = S.length + 1 := by simp
      have hw : wrap64 (((S.length + 1 : Nat) : Int) - 1) = (S.length : Int) := by rw [w64 (by omega) (by omega)]; omega
      have hrd : rd (S ++ [(pre.length : Int)]) (S.length : Int) = (pre.length : Int) := by simp [rd, List.getD]
      have hpl : (pre ++ o :: body).length = pre.length + body.length + 1 := by simp; omega
      rw [epos, prog_Match.l0, if_pos (by omega), if_pos (by omega), if_pos (by omega), rdP hp2, if_neg n8, if_pos h9, hl1, hw, if_neg (by omega), if_pos (by omega), if_pos (by omega), if_pos (by omega), hrd, if_neg (by omega), if_neg (by omega), w1 (by omega)]
      congr 1
      · simp
      · (simp only [List.length_append, List.length_cons, List.length_nil]); try omega)
    refine Ev.step (fun k => ?_) hi1
    have epos : ((pre ++ [o]).length : Nat) = pre.length + 1 := by simp
    rw [prog_Match.l0, if_pos (by omega), if_pos (by omega), if_pos (by omega), rdP hp1, if_pos h8, if_pos (by omega), w1 (by omega), epos]
/-- A loop's end is found. -/
theorem match_ev {d1 d2 : Nat} {pre preo body bout : List S52} (h1 : FlatR kdP nmP d1 pre preo) (h2 : FlatR kdP nmP d2 body bout) (o e : S52) (post : List S52) (h8 : o.f0 = 8) (h9 : e.f0 = 9) (p : List S52) (hp : p = pre ++ o :: (body ++ e :: post)) (hn : p.length ≤ 1000000) :
    Ev (fun k => prog_Match.f k p (pre.length : Int)) ((pre.length + 1 + body.length : Nat) : Int) := by
  have hlen : p.length = pre.length + body.length + post.length + 2 := by rw [hp]; simp; omega
  have hp2 : p = (pre ++ o :: body) ++ e :: post := by rw [hp]; simp
  unfold prog_Match.f
  have hz : ((0 : Int)) = (([] : List S52).length : Int) := rfl
  have hs := match_seg (pre.length : Int) ((pre.length + 1 + body.length : Nat) : Int) h1 p [] (o :: (body ++ e :: post)) [] (by rw [hp]; rfl) hn (by simp; omega) (by simp) (by
    have hb := match_seg (pre.length : Int) ((pre.length + 1 + body.length : Nat) : Int) h2 p (pre ++ [o]) (e :: post) [(pre.length : Int)] (by rw [hp]; simp) hn (by simp; omega) (by simp; omega) (by
      refine Ev.step (f := fun _ => some _) (fun k => ?_) (Ev.now _)
      have epos : ((pre ++ [o]).length + body.length : Nat) = (pre ++ o :: body).length := by simp; omega
      have hpl : (pre ++ o :: body).length = pre.length + body.length + 1 := by simp; omega
      have hw : wrap64 ((1 : Int) - 1) = 0 := by unfold wrap64; omega
      have n8 : ¬ e.f0 = 8 := by rw [h9]; decide
      have hl1 : ((([(pre.length : Int)] : List Int).length : Nat) : Int) = 1 := rfl
      have hrd : rd [(pre.length : Int)] 0 = (pre.length : Int) := rfl
      rw [epos, prog_Match.l0, if_pos (by omega), if_pos (by omega), if_pos (by omega), rdP hp2, if_neg n8, if_pos h9, hl1, hw, if_neg (by decide), if_pos (by decide), if_pos (by decide), if_pos (by decide), hrd, if_pos rfl]
      congr 1
      omega)
    simp only [List.length_nil, Nat.zero_add]
    refine Ev.step (fun k => ?_) hb
    have epos : ((pre ++ [o]).length : Nat) = pre.length + 1 := by simp
    rw [prog_Match.l0, if_pos (by omega), if_pos (by omega), if_pos (by omega), rdP hp, if_pos h8, if_pos (by decide), w1 (by omega), epos]
    rfl)
  exact hs
/-- The rounds of a loop. -/
theorem flat_rounds (p : List S52) (x5 : Int) (b : List S52) (n : Nat) (hn : n ≤ 32) (R : List S52) (acc : List S52) (hb : acc.length + n * b.length ≤ 1000000000) (hc : Ev (fun k => prog_Flat.l0 k p (acc ++ rep n b) (wrap64 (x5 + 1))) R) : ∀ d j : Nat, n - j = d → j ≤ n → Ev (fun k => prog_Flat.l1 k p (acc ++ rep j b) x5 b (n : Int) (j : Int)) R := by
  intro d
  induction d with
  | zero =>
    intro j hd hj
    obtain rfl : j = n := by omega
    exact Ev.step (fun k => by rw [prog_Flat.l1, if_neg (by omega)]) hc
  | succ d ih =>
    intro j hd hj
    have hi := ih (j + 1) (by omega) (by omega)
    refine Ev.step (fun k => ?_) hi
    have hl : (acc ++ rep j b).length + b.length ≤ 1000000000 := by
      rw [List.length_append, rep_len]
      have : (j + 1) * b.length ≤ n * b.length := Nat.mul_le_mul_right _ (by omega)
      rw [Nat.add_mul] at this
      omega
    rw [prog_Flat.l1, if_pos (by omega), if_pos (by omega), w1 (by omega), rep_succ, List.append_assoc]
theorem flat_at {d : Nat} {l out : List S52} (h : FlatR kdP nmP d l out) : ∀ (p pre acc : List S52), p = pre ++ l → (∃ d' o', FlatR kdP nmP d' pre o') → p.length ≤ 1000000 → acc.length + out.length ≤ 1000000000 → Ev (fun k => prog_Flat.l0 k p acc (pre.length : Int)) (acc ++ out) := by
  induction h with
  | nil d =>
    intro p pre acc hp _ hn hb
    have : p.length = pre.length := by rw [hp]; simp
    rw [List.append_nil]
    exact Ev.step (f := fun _ => some _) (fun k => by rw [prog_Flat.l0, if_neg (by omega)]) (Ev.now _)
  | op d o l out h8 h9 hl ih =>
    intro p pre acc hp hpre hn hb
    have hp' : p = pre ++ o :: l := hp
    have hlen : p.length = pre.length + l.length + 1 := by rw [hp']; simp; omega
    obtain ⟨d', o', hpre⟩ := hpre
    have hpre2 : ∃ d' o', FlatR kdP nmP d' (pre ++ [o]) o' := ⟨d', _, FlatR.snoc hpre o h8 h9⟩
    have hi := ih p (pre ++ [o]) (acc ++ [o]) (by rw [hp']; simp) hpre2 hn (by simp only [List.length_append, List.length_cons, List.length_nil] at hb ⊢; omega)
    simp only [List.length_append, List.length_cons, List.length_nil, Nat.zero_add, List.append_assoc, List.cons_append, List.nil_append] at hi
    simp only [List.length_cons] at hb
    refine Ev.step (fun k => ?_) hi
    rw [prog_Flat.l0, if_pos (by omega), if_pos (by omega), rdP hp', if_neg h8, if_pos (by omega), w1 (by omega)]
  | loop d o e n body bout l out h8 hn8 hn32 hbody h9 hl ih1 ih2 =>
    intro p pre acc hp hpre hn hb
    obtain ⟨d', o', hpre⟩ := hpre
    have hp1 : p = pre ++ o :: (body ++ e :: l) := by rw [hp]; simp
    have hlen : p.length = pre.length + body.length + l.length + 2 := by rw [hp1]; simp; omega
    simp only [List.length_append, rep_len] at hb
    have hm := match_ev hpre hbody o e l h8 h9 p hp1 hn
    have hone : FlatR kdP nmP (d + 1) (o :: body ++ e :: []) (rep n bout ++ []) := .loop d o e n body bout [] [] h8 hn8 hn32 hbody h9 (.nil _)
    have hpre2 : ∃ d2 o2, FlatR kdP nmP d2 (pre ++ o :: body ++ [e]) o2 := ⟨max d' (d + 1), _, by
      have := (hpre.mono (max d' (d + 1)) (by omega)).append _ _ (hone.mono (max d' (d + 1)) (by omega))
      simpa using this⟩
    have hi2 := ih2 p (pre ++ o :: body ++ [e]) (acc ++ rep n bout) (by rw [hp]; simp) hpre2 hn (by rw [List.length_append, rep_len]; omega)
    have hbl : bout.length ≤ n * bout.length := Nat.le_mul_of_pos_left _ (by omega)
    have hi1 := ih1 body [] [] rfl ⟨0, [], .nil _⟩ (by omega) (by simp only [List.length_nil]; omega)
    have hf : Ev (fun k => prog_Flat.f k body) bout := Ev.step (fun k => by rw [prog_Flat.f]; rfl) hi1
    have hpl : (pre ++ o :: body ++ [e]).length = pre.length + 1 + body.length + 1 := by simp; omega
    have hc : Ev (fun k => prog_Flat.l0 k p (acc ++ rep n bout) (wrap64 (((pre.length + 1 + body.length : Nat) : Int) + 1))) (acc ++ (rep n bout ++ out)) := by
      rw [w1 (by omega), ← hpl, ← List.append_assoc]
      exact hi2
    have hr := flat_rounds p ((pre.length + 1 + body.length : Nat) : Int) bout n hn32.2 _ acc (by omega) hc _ 0 rfl (by omega)
    have hsub : (p.take (pre.length + 1 + body.length)).drop (pre.length + 1) = body := by
      have e1 : p = (pre ++ o :: body) ++ (e :: l) := by rw [hp]; simp
      have e2 : (pre ++ o :: body).length = pre.length + 1 + body.length := by simp; omega
      have e3 : p.take (pre.length + 1 + body.length) = pre ++ o :: body := by rw [e1, ← e2, List.take_left']; rfl
      rw [e3, show pre ++ o :: body = (pre ++ [o]) ++ body by simp, show pre.length + 1 = (pre ++ [o]).length by simp, List.drop_left']
      rfl
    refine Ev.step (f := fun k => (prog_Match.f k p (pre.length : Int)).bind fun t => if t < 0 then some acc else if 0 ≤ wrap64 ((pre.length : Int) + 1) then if wrap64 ((pre.length : Int) + 1) ≤ t then if t ≤ (p.length : Int) then (prog_Flat.f k ((p.take t.toNat).drop (wrap64 ((pre.length : Int) + 1)).toNat)).bind fun b => prog_Flat.l1 k p acc t b o.f1 0 else none else none else none) (fun k => by rw [prog_Flat.l0, if_pos (by omega), if_pos (by omega), rdP hp1, if_pos h8]) (Ev.bind (f := fun k t => if t < 0 then some acc else if 0 ≤ wrap64 ((pre.length : Int) + 1) then if wrap64 ((pre.length : Int) + 1) ≤ t then if t ≤ (p.length : Int) then (prog_Flat.f k ((p.take t.toNat).drop (wrap64 ((pre.length : Int) + 1)).toNat)).bind fun b => prog_Flat.l1 k p acc t b o.f1 0 else none else none else none) hm ?_)
    have hb2 : Ev (fun k => (prog_Flat.f k body).bind fun t => prog_Flat.l1 k p acc ((pre.length + 1 + body.length : Nat) : Int) t o.f1 0) (acc ++ (rep n bout ++ out)) := by
      refine Ev.bind hf ?_
      have e0 : acc ++ rep 0 bout = acc := by simp [rep]
      rw [e0] at hr
      rw [show o.f1 = (n : Int) from hn8]
      exact hr
    refine Ev.congr (fun k => ?_) hb2
    rw [if_neg (by omega), w1 (by omega), if_pos (by omega), if_pos (by omega), if_pos (by omega), Int.toNat_natCast, Int.toNat_natCast, hsub]
theorem flat_prog {d : Nat} {l out : List S52} (h : FlatR kdP nmP d l out) (hn : l.length ≤ 1000000) (hb : out.length ≤ 1000000000) : Ev (fun k => prog_Flat.f k l) out :=
  Ev.step (fun k => by rw [prog_Flat.f]; rfl) (flat_at h l [] [] rfl ⟨0, [], .nil _⟩ hn (by simp; omega))

end Go.Proofs.Ytjnhahdelipebaa.Nest
