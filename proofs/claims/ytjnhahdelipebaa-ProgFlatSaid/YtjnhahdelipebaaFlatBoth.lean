/- Two programs one behind the other, each of which may be: the plain law. -/
import Derived.Test.YtjnhahdelipebaaNest
import Derived.Test.YtjnhahdelipebaaXAx3
import Derived.Test.YtjnhahdelipebaaXAx4
import Derived.Test.YtjnhahdelipebaaXAx5
import Derived.Test.YtjnhahdelipebaaXAx2
import Derived.Test.YtjnhahdelipebaaPgDef
import Derived.Test.YtjnhahdelipebaaXAx12
import Derived.Test.YtjnhahdelipebaaXAx10
namespace Go.Proofs.Ytjnhahdelipebaa.Nest
set_option linter.unusedVariables false
set_option linter.unusedSimpArgs false
open Go.RowKit Go.Proofs.Ytjnhahdelipebaa.XA
theorem w64 {x : Int} (h0 : -9223372036854775808 ≤ x) (h1 : x ≤ 9223372036854775807) : wrap64 x = x := by unfold wrap64; omega
theorem w1 {q : Nat} (h : q ≤ 9223372036854775806) : wrap64 ((q : Int) + 1) = ((q + 1 : Nat) : Int) := by rw [w64 (by omega) (by omega)]; omega
end Go.Proofs.Ytjnhahdelipebaa.Nest
namespace Go.Proofs.Ytjnhahdelipebaa.Nest
set_option linter.unusedVariables false
set_option linter.unusedSimpArgs false
open Go.RowKit Go.Proofs.Ytjnhahdelipebaa.XA Go.Proofs.YtjnhahdelipebaaW.PrintWords Go.Proofs.YtjnhahdelipebaaW.PrintLast Go.Proofs.YtjnhahdelipebaaW.PrintMore
abbrev kdP (o : S52) : Int := o.f0
abbrev nmP (o : S52) : Int := o.f1
theorem rdP {p pre post : List S52} {x : S52} (h : p = pre ++ x :: post) : rd_T52 p (pre.length : Int) = x := by subst h; simp [rd_T52, List.getD]
/-- Match goes over what is closed in itself. -/
theorem match_seg (a : Int) (R : Int) {d : Nat} {seg out : List S52} (h : FlatR kdP nmP d seg out) : ∀ (p pre post : List S52) (S : List Int), p = pre ++ (seg ++ post) → p.length ≤ 1000000 → S.length + seg.length ≤ 2000000 → (a < pre.length ∨ (pre.length : Int) + seg.length ≤ a) →
    Ev (fun k => prog_Match.l0 k a S p (p.length : Int) ((pre.length + seg.length : Nat) : Int)) R → Ev (fun k => prog_Match.l0 k a S p (p.length : Int) (pre.length : Int)) R := by
  induction h with
  | nil d =>
    intro p pre post S hp hn hS ha hc
    simpa using hc
  | op d o l out h8 h9 _ ih =>
    intro p pre post S hp hn hS ha hc
    have hp' : p = pre ++ o :: (l ++ post) := by rw [hp]; rfl
    have hlen : p.length = pre.length + (1 + l.length + post.length) := by rw [hp']; simp; omega
    simp only [List.length_cons] at hS ha hc
    have hi := ih p (pre ++ [o]) post S (by rw [hp']; simp) hn (by omega) (by simp only [List.length_append, List.length_cons, List.length_nil]; omega) (by
      simp only [List.length_append, List.length_cons, List.length_nil]
      rw [show pre.length + (0 + 1) + l.length = pre.length + (l.length + 1) by omega]
      exact hc)
    simp only [List.length_append, List.length_cons, List.length_nil, Nat.zero_add] at hi
    refine Ev.step (fun k => ?_) hi
    rw [prog_Match.l0, if_pos (by omega), if_pos (by omega), if_pos (by omega), rdP hp', if_neg h8, if_neg h9, w1 (by omega)]
  | loop d o e n body bout l out h8 hn8 hn32 _ h9 _ ih1 ih2 =>
    intro p pre post S hp hn hS ha hc
    have n8 : ¬ e.f0 = 8 := by rw [show e.f0 = 9 from h9]; decide
    have hp1 : p = pre ++ o :: (body ++ e :: (l ++ post)) := by rw [hp]; simp
    have hp2 : p = (pre ++ o :: body) ++ e :: (l ++ post) := by rw [hp]; simp
    have hlen : p.length = pre.length + body.length + l.length + post.length + 2 := by rw [hp1]; simp; omega
    simp only [List.length_append, List.length_cons] at hS ha hc
    have hi2 := ih2 p (pre ++ o :: body ++ [e]) post S (by rw [hp]; simp) hn (by omega) (by simp only [List.length_append, List.length_cons, List.length_nil]; omega) (by
      simp only [List.length_append, List.length_cons, List.length_nil]
      rw [show pre.length + (body.length + 1) + (0 + 1) + l.length = pre.length + (body.length + 1 + (l.length + 1)) by omega]
      exact hc)
    have hi1 := ih1 p (pre ++ [o]) (e :: (l ++ post)) (S ++ [(pre.length : Int)]) (by rw [hp]; simp) hn (by simp only [List.length_append, List.length_cons, List.length_nil]; omega) (by simp only [List.length_append, List.length_cons, List.length_nil]; omega) (by
      refine Ev.step (fun k => ?_) hi2
      have epos : ((pre ++ [o]).length + body.length : Nat) = (pre ++ o :: body).length := by simp; omega
      have hl1 : (S ++ [(pre.length : Int)]).length = S.length + 1 := by simp
      have hw : wrap64 (((S.length + 1 : Nat) : Int) - 1) = (S.length : Int) := by rw [w64 (by omega) (by omega)]; omega
      have hrd : rd (S ++ [(pre.length : Int)]) (S.length : Int) = (pre.length : Int) := by simp [rd, List.getD]
      have hpl : (pre ++ o :: body).length = pre.length + body.length + 1 := by simp; omega
      rw [epos, prog_Match.l0, if_pos (by omega), if_pos (by omega), if_pos (by omega), rdP hp2, if_neg n8, if_pos h9, hl1, hw, if_neg (by omega), if_pos (by omega), if_pos (by omega), if_pos (by omega), hrd, if_neg (by omega), if_neg (by omega), w1 (by omega)]
      congr 1
      · simp
      · (simp only [List.length_append, List.length_cons, List.length_nil]); try omega)
    refine Ev.step (fun k => ?_) hi1
    have epos : ((pre ++ [o]).length : Nat) = pre.length + 1 := by simp
    rw [prog_Match.l0, if_pos (by omega), if_pos (by omega), if_pos (by omega), rdP hp1, if_pos h8, if_pos (by omega), w1 (by omega), epos]
/-- A loop's end is found. -/
theorem match_ev {d1 d2 : Nat} {pre preo body bout : List S52} (h1 : FlatR kdP nmP d1 pre preo) (h2 : FlatR kdP nmP d2 body bout) (o e : S52) (post : List S52) (h8 : o.f0 = 8) (h9 : e.f0 = 9) (p : List S52) (hp : p = pre ++ o :: (body ++ e :: post)) (hn : p.length ≤ 1000000) :
    Ev (fun k => prog_Match.f k p (pre.length : Int)) ((pre.length + 1 + body.length : Nat) : Int) := by
  have hlen : p.length = pre.length + body.length + post.length + 2 := by rw [hp]; simp; omega
  have hp2 : p = (pre ++ o :: body) ++ e :: post := by rw [hp]; simp
  unfold prog_Match.f
  have hz : ((0 : Int)) = (([] : List S52).length : Int) := rfl
  have hs := match_seg (pre.length : Int) ((pre.length + 1 + body.length : Nat) : Int) h1 p [] (o :: (body ++ e :: post)) [] (by rw [hp]; rfl) hn (by simp; omega) (by simp) (by
    have hb := match_seg (pre.length : Int) ((pre.length + 1 + body.length : Nat) : Int) h2 p (pre ++ [o]) (e :: post) [(pre.length : Int)] (by rw [hp]; simp) hn (by simp; omega) (by simp; omega) (by
      refine Ev.step (f := fun _ => some _) (fun k => ?_) (Ev.now _)
      have epos : ((pre ++ [o]).length + body.length : Nat) = (pre ++ o :: body).length := by simp; omega
      have hpl : (pre ++ o :: body).length = pre.length + body.length + 1 := by simp; omega
      have hw : wrap64 ((1 : Int) - 1) = 0 := by unfold wrap64; omega
      have n8 : ¬ e.f0 = 8 := by rw [h9]; decide
      have hl1 : ((([(pre.length : Int)] : List Int).length : Nat) : Int) = 1 := rfl
      have hrd : rd [(pre.length : Int)] 0 = (pre.length : Int) := rfl
      rw [epos, prog_Match.l0, if_pos (by omega), if_pos (by omega), if_pos (by omega), rdP hp2, if_neg n8, if_pos h9, hl1, hw, if_neg (by decide), if_pos (by decide), if_pos (by decide), if_pos (by decide), hrd, if_pos rfl]
      congr 1
      omega)
    simp only [List.length_nil, Nat.zero_add]
    refine Ev.step (fun k => ?_) hb
    have epos : ((pre ++ [o]).length : Nat) = pre.length + 1 := by simp
    rw [prog_Match.l0, if_pos (by omega), if_pos (by omega), if_pos (by omega), rdP hp, if_pos h8, if_pos (by decide), w1 (by omega), epos]
    rfl)
  exact hs
/-- The rounds of a loop. -/
theorem flat_rounds (p : List S52) (x5 : Int) (b : List S52) (n : Nat) (hn : n ≤ 32) (R : List S52) (acc : List S52) (hb : acc.length + n * b.length ≤ 1000000000) (hc : Ev (fun k => prog_Flat.l0 k p (acc ++ rep n b) (wrap64 (x5 + 1))) R) : ∀ d j : Nat, n - j = d → j ≤ n → Ev (fun k => prog_Flat.l1 k p (acc ++ rep j b) x5 b (n : Int) (j : Int)) R := by
  intro d
  induction d with
  | zero =>
    intro j hd hj
    obtain rfl : j = n := by omega
    exact Ev.step (fun k => by rw [prog_Flat.l1, if_neg (by omega)]) hc
  | succ d ih =>
    intro j hd hj
    have hi := ih (j + 1) (by omega) (by omega)
    refine Ev.step (fun k => ?_) hi
    have hl : (acc ++ rep j b).length + b.length ≤ 1000000000 := by
      rw [List.length_append, rep_len]
      have : (j + 1) * b.length ≤ n * b.length := Nat.mul_le_mul_right _ (by omega)
      rw [Nat.add_mul] at this
      omega
    rw [prog_Flat.l1, if_pos (by omega), if_pos (by omega), w1 (by omega), rep_succ, List.append_assoc]
theorem flat_at {d : Nat} {l out : List S52} (h : FlatR kdP nmP d l out) : ∀ (p pre acc : List S52), p = pre ++ l → (∃ d' o', FlatR kdP nmP d' pre o') → p.length ≤ 1000000 → acc.length + out.length ≤ 1000000000 → Ev (fun k => prog_Flat.l0 k p acc (pre.length : Int)) (acc ++ out) := by
  induction h with
  | nil d =>
    intro p pre acc hp _ hn hb
    have : p.length = pre.length := by rw [hp]; simp
    rw [List.append_nil]
    exact Ev.step (f := fun _ => some _) (fun k => by rw [prog_Flat.l0, if_neg (by omega)]) (Ev.now _)
  | op d o l out h8 h9 hl ih =>
    intro p pre acc hp hpre hn hb
    have hp' : p = pre ++ o :: l := hp
    have hlen : p.length = pre.length + l.length + 1 := by rw [hp']; simp; omega
    obtain ⟨d', o', hpre⟩ := hpre
    have hpre2 : ∃ d' o', FlatR kdP nmP d' (pre ++ [o]) o' := ⟨d', _, FlatR.snoc hpre o h8 h9⟩
    have hi := ih p (pre ++ [o]) (acc ++ [o]) (by rw [hp']; simp) hpre2 hn (by simp only [List.length_append, List.length_cons, List.length_nil] at hb ⊢; omega)
    simp only [List.length_append, List.length_cons, List.length_nil, Nat.zero_add, List.append_assoc, List.cons_append, List.nil_append] at hi
    simp only [List.length_cons] at hb
    refine Ev.step (fun k => ?_) hi
    rw [prog_Flat.l0, if_pos (by omega), if_pos (by omega), rdP hp', if_neg h8, if_pos (by omega), w1 (by omega)]
  | loop d o e n body bout l out h8 hn8 hn32 hbody h9 hl ih1 ih2 =>
    intro p pre acc hp hpre hn hb
    obtain ⟨d', o', hpre⟩ := hpre
    have hp1 : p = pre ++ o :: (body ++ e :: l) := by rw [hp]; simp
    have hlen : p.length = pre.length + body.length + l.length + 2 := by rw [hp1]; simp; omega
    simp only [List.length_append, rep_len] at hb
    have hm := match_ev hpre hbody o e l h8 h9 p hp1 hn
    have hone : FlatR kdP nmP (d + 1) (o :: body ++ e :: []) (rep n bout ++ []) := .loop d o e n body bout [] [] h8 hn8 hn32 hbody h9 (.nil _)
    have hpre2 : ∃ d2 o2, FlatR kdP nmP d2 (pre ++ o :: body ++ [e]) o2 := ⟨max d' (d + 1), _, by
      have := (hpre.mono (max d' (d + 1)) (by omega)).append _ _ (hone.mono (max d' (d + 1)) (by omega))
      simpa using this⟩
    have hi2 := ih2 p (pre ++ o :: body ++ [e]) (acc ++ rep n bout) (by rw [hp]; simp) hpre2 hn (by rw [List.length_append, rep_len]; omega)
    have hbl : bout.length ≤ n * bout.length := Nat.le_mul_of_pos_left _ (by omega)
    have hi1 := ih1 body [] [] rfl ⟨0, [], .nil _⟩ (by omega) (by simp only [List.length_nil]; omega)
    have hf : Ev (fun k => prog_Flat.f k body) bout := Ev.step (fun k => by rw [prog_Flat.f]; rfl) hi1
    have hpl : (pre ++ o :: body ++ [e]).length = pre.length + 1 + body.length + 1 := by simp; omega
    have hc : Ev (fun k => prog_Flat.l0 k p (acc ++ rep n bout) (wrap64 (((pre.length + 1 + body.length : Nat) : Int) + 1))) (acc ++ (rep n bout ++ out)) := by
      rw [w1 (by omega), ← hpl, ← List.append_assoc]
      exact hi2
    have hr := flat_rounds p ((pre.length + 1 + body.length : Nat) : Int) bout n hn32.2 _ acc (by omega) hc _ 0 rfl (by omega)
    have hsub : (p.take (pre.length + 1 + body.length)).drop (pre.length + 1) = body := by
      have e1 : p = (pre ++ o :: body) ++ (e :: l) := by rw [hp]; simp
      have e2 : (pre ++ o :: body).length = pre.length + 1 + body.length := by simp; omega
      have e3 : p.take (pre.length + 1 + body.length) = pre ++ o :: body := by rw [e1, ← e2, List.take_left']; rfl
      rw [e3, show pre ++ o :: body = (pre ++ [o]) ++ body by simp, show pre.length + 1 = (pre ++ [o]).length by simp, List.drop_left']
      rfl
    refine Ev.step (f := fun k => (prog_Match.f k p (pre.length : Int)).bind fun t => if t < 0 then some acc else if 0 ≤ wrap64 ((pre.length : Int) + 1) then if wrap64 ((pre.length : Int) + 1) ≤ t then if t ≤ (p.length : Int) then (prog_Flat.f k ((p.take t.toNat).drop (wrap64 ((pre.length : Int) + 1)).toNat)).bind fun b => prog_Flat.l1 k p acc t b o.f1 0 else none else none else none) (fun k => by rw [prog_Flat.l0, if_pos (by omega), if_pos (by omega), rdP hp1, if_pos h8]) (Ev.bind (f := fun k t => if t < 0 then some acc else if 0 ≤ wrap64 ((pre.length : Int) + 1) then if wrap64 ((pre.length : Int) + 1) ≤ t then if t ≤ (p.length : Int) then (prog_Flat.f k ((p.take t.toNat).drop (wrap64 ((pre.length : Int) + 1)).toNat)).bind fun b => prog_Flat.l1 k p acc t b o.f1 0 else none else none else none) hm ?_)
    have hb2 : Ev (fun k => (prog_Flat.f k body).bind fun t => prog_Flat.l1 k p acc ((pre.length + 1 + body.length : Nat) : Int) t o.f1 0) (acc ++ (rep n bout ++ out)) := by
      refine Ev.bind hf ?_
      have e0 : acc ++ rep 0 bout = acc := by simp [rep]
      rw [e0] at hr
      rw [show o.f1 = (n : Int) from hn8]
      exact hr
    refine Ev.congr (fun k => ?_) hb2
    rw [if_neg (by omega), w1 (by omega), if_pos (by omega), if_pos (by omega), if_pos (by omega), Int.toNat_natCast, Int.toNat_natCast, hsub]
theorem flat_prog {d : Nat} {l out : List S52} (h : FlatR kdP nmP d l out) (hn : l.length ≤ 1000000) (hb : out.length ≤ 1000000000) : Ev (fun k => prog_Flat.f k l) out :=
  Ev.step (fun k => by rw [prog_Flat.f]; rfl) (flat_at h l [] [] rfl ⟨0, [], .nil _⟩ hn (by simp; omega))

end Go.Proofs.Ytjnhahdelipebaa.Nest
namespace Go.Proofs.Ytjnhahdelipebaa.Prog
set_option linter.unusedVariables false
set_option linter.unusedSimpArgs false
open Go.RowKit Go.Proofs.Ytjnhahdelipebaa.XA Go.Proofs.YtjnhahdelipebaaW.PrintWords Go.Proofs.YtjnhahdelipebaaW.PrintLast Go.Proofs.YtjnhahdelipebaaW.PrintMore
theorem w64 {x : Int} (h0 : -9223372036854775808 ≤ x) (h1 : x ≤ 9223372036854775807) : wrap64 x = x := by unfold wrap64; omega
theorem w1 {q : Nat} (h : q ≤ 9223372036854775806) : wrap64 ((q : Int) + 1) = ((q + 1 : Nat) : Int) := by rw [w64 (by omega) (by omega)]; omega
theorem rd_get (l : List S52) (q : Nat) (h : q < l.length) : rd_T52 l q = l[q] := by simp [rd_T52, List.getD, h]

theorem flat_loop (l : List S52) (hl : ∀ o ∈ l, o.f0 ≠ 8) (hn : l.length ≤ 1000000) : ∀ d q : Nat, l.length - q = d → q ≤ l.length → Ev (fun k => prog_Flat.l0 k l (l.take q) q) l := by
  intro d
  induction d with
  | zero =>
    intro q hd hq
    refine Ev.step (f := fun _ => some _) (fun k => ?_) (Ev.now _)
    rw [prog_Flat.l0, if_neg (by omega), List.take_of_length_le (by omega)]
  | succ d ih =>
    intro q hd hq
    have hlt : q < l.length := by omega
    refine Ev.step (fun k => ?_) (ih (q + 1) (by omega) (by omega))
    have h8 := hl _ (List.getElem_mem hlt)
    rw [← rd_get l q hlt] at h8
    rw [prog_Flat.l0, if_pos (by omega), if_pos (by omega), if_neg h8, if_pos (by rw [List.length_take]; omega), w1 (by omega)]
    congr 1
    rw [List.take_succ_eq_append_getElem hlt, ← rd_get l q hlt]
theorem flat_ev (l : List S52) (hl : ∀ o ∈ l, o.f0 ≠ 8) (hn : l.length ≤ 1000000) : Ev (fun k => prog_Flat.f k l) l :=
  Ev.step (fun k => by rw [prog_Flat.f]; rfl) (flat_loop l hl hn _ 0 rfl (by omega))

/-- One op, as Section sees it: the greatest, now, held. -/
def secS (lock : Int) (s : Int × Int × Bool) (o : S52) : Int × Int × Bool :=
  if o.f0 = 2 ∧ o.f1 = lock then (s.1, 0, true) else if o.f0 = 3 ∧ o.f1 = lock then (s.1, s.2.1, false) else if o.f0 = 1 ∧ s.2.2 = true then (mx s.1 (wrap64 (s.2.1 + o.f1)), wrap64 (s.2.1 + o.f1), true) else s
theorem sec_step (k : Nat) (x b n : Int) (h : Bool) (l : List S52) (q : Nat) (hq : q < l.length) (hn : l.length ≤ 1000000000) :
    prog_Section.l0 (k + 1) x b n h l (l.length : Int) q = prog_Section.l0 k x (secS x (b, n, h) (rd_T52 l q)).1 (secS x (b, n, h) (rd_T52 l q)).2.1 (secS x (b, n, h) (rd_T52 l q)).2.2 l (l.length : Int) ((q + 1 : Nat) : Int) := by
  rw [prog_Section.l0, if_pos (by omega), if_pos (by omega), if_pos (by omega), w1 (by omega)]
  generalize rd_T52 l q = o
  unfold secS
  by_cases h2 : o.f0 = 2
  · have h3 : ¬ o.f0 = 3 := by omega
    have h1 : ¬ o.f0 = 1 := by omega
    have n3 : ¬ (o.f0 = 3 ∧ o.f1 = x) := fun c => h3 c.1
    have n1 : ¬ (o.f0 = 1 ∧ h = true) := fun c => h1 c.1
    rw [if_pos h2]
    by_cases hx : o.f1 = x
    · have p2 : o.f0 = 2 ∧ o.f1 = x := ⟨h2, hx⟩
      rw [if_pos hx, if_pos p2]
    · have n2 : ¬ (o.f0 = 2 ∧ o.f1 = x) := fun c => hx c.2
      rw [if_neg hx, if_neg h3, if_neg h1, if_neg n2, if_neg n3, if_neg n1]
  · have n2 : ¬ (o.f0 = 2 ∧ o.f1 = x) := fun c => h2 c.1
    rw [if_neg h2, if_neg n2]
    by_cases h3 : o.f0 = 3
    · have h1 : ¬ o.f0 = 1 := by omega
      have n1 : ¬ (o.f0 = 1 ∧ h = true) := fun c => h1 c.1
      rw [if_pos h3]
      by_cases hx : o.f1 = x
      · have p3 : o.f0 = 3 ∧ o.f1 = x := ⟨h3, hx⟩
        rw [if_pos hx, if_pos p3]
      · have n3 : ¬ (o.f0 = 3 ∧ o.f1 = x) := fun c => hx c.2
        rw [if_neg hx, if_neg h1, if_neg n3, if_neg n1]
    · have n3 : ¬ (o.f0 = 3 ∧ o.f1 = x) := fun c => h3 c.1
      rw [if_neg h3, if_neg n3]
      by_cases h1 : o.f0 = 1
      · rw [if_pos h1]
        cases h with
        | true => rw [if_pos rfl, if_pos (show o.f0 = 1 ∧ true = true from ⟨h1, rfl⟩)]
        | false => rw [if_neg (show ¬ false = true by decide), if_neg (show ¬ (o.f0 = 1 ∧ false = true) from fun c => by cases c.2)]
      · have n1 : ¬ (o.f0 = 1 ∧ h = true) := fun c => h1 c.1
        rw [if_neg h1, if_neg n1]
theorem sec_loop (x : Int) (l : List S52) (hn : l.length ≤ 1000000000) : ∀ (d q : Nat) (s : Int × Int × Bool), l.length - q = d → q ≤ l.length →
    Ev (fun k => prog_Section.l0 k x s.1 s.2.1 s.2.2 l (l.length : Int) q) ((l.drop q).foldl (secS x) s).1 := by
  intro d
  induction d with
  | zero =>
    intro q s hd hq
    refine Ev.step (f := fun _ => some _) (fun k => ?_) (Ev.now _)
    rw [prog_Section.l0, if_neg (by omega), List.drop_of_length_le (by omega)]
    rfl
  | succ d ih =>
    intro q s hd hq
    have hlt : q < l.length := by omega
    refine Ev.step (fun k => sec_step k x s.1 s.2.1 s.2.2 l q hlt hn) ?_
    have hi := ih (q + 1) (secS x s (rd_T52 l q)) (by omega) (by omega)
    rw [List.drop_eq_getElem_cons hlt, List.foldl_cons, ← rd_get l q hlt]
    exact hi
/-- How long x is held at most within a row of ops. -/
def secL (x : Int) (l : List S52) : Int := (l.foldl (secS x) (0, 0, false)).1
theorem section_flat (x : Int) (p l : List S52) (hf : Ev (fun k => prog_Flat.f k p) l) (hn : l.length ≤ 1000000000) : Ev (fun k => prog_Section.f k p x) (secL x l) :=
  Ev.bind (f := fun k t => prog_Section.l0 k x 0 0 false t (t.length : Int) 0) hf (sec_loop x l hn _ 0 (0, 0, false) rfl (by omega))
theorem section_ev (x : Int) (l : List S52) (hl : ∀ o ∈ l, o.f0 ≠ 8) (hn : l.length ≤ 1000000) : Ev (fun k => prog_Section.f k l x) (secL x l) := section_flat x l l (flat_ev l hl hn) (by omega)

theorem each_plain (see : S52 → Int → Int → Int) : ∀ (l : List S52) (n : Int), (∀ o ∈ l, o.f0 ≠ 8) → eachF see l [1] n = l.foldl (fun n o => if o.f0 = 9 then n else see o 1 n) n
  | [], n, _ => rfl
  | o :: l, n, h => by
    have h8 := h o List.mem_cons_self
    have ih := fun n => each_plain see l n (fun x hx => h x (List.mem_cons_of_mem _ hx))
    rw [eachF, if_neg h8, List.foldl_cons]
    by_cases h9 : o.f0 = 9
    · rw [if_pos h9, if_pos h9]
      exact ih n
    · rw [if_neg h9, if_neg h9]
      exact ih _
/-- What is run, of a row without loops. -/
def costL (l : List S52) : Int := l.foldl (fun n o => if o.f0 = 1 then wrap64 (n + wrap64 (o.f1 * 1)) else n) 0
theorem cost_ev (l : List S52) (hl : ∀ o ∈ l, o.f0 ≠ 8) (hn : l.length ≤ 1000000) : Ev (fun k => prog_Cost.f k l) (costL l) := by
  have e : eachF costSee l [1] 0 = costL l := by
    rw [each_plain _ _ _ hl]
    unfold costL
    congr 1
    funext n o
    unfold costSee
    split
    · rw [if_neg (by omega)]
    · rfl
  refine Ev.congr (f := fun _ => some (costL l)) (fun k => ?_) (Ev.now _)
  unfold prog_Cost.f
  rw [if_pos (by omega), e]
theorem locks_ev (l : List S52) (hn : l.length ≤ 1000000) (h12 : (locksL l).length ≤ 12) (hp : (locksL l).Pairwise (· < ·)) : Ev (fun k => prog_Locks.f k l) (locksL l) := by
  refine Ev.congr (f := fun _ => some (locksL l)) (fun k => ?_) (Ev.now _)
  unfold prog_Locks.f
  rw [if_pos ⟨by omega, h12, hp⟩]
end Go.Proofs.Ytjnhahdelipebaa.Prog
namespace Go.Proofs.Ytjnhahdelipebaa.Nest
set_option linter.unusedVariables false
set_option linter.unusedSimpArgs false
open Go.RowKit Go.Proofs.Ytjnhahdelipebaa.XA Go.Proofs.YtjnhahdelipebaaW.PrintWords Go.Proofs.YtjnhahdelipebaaW.PrintLast Go.Proofs.YtjnhahdelipebaaW.PrintMore
theorem eachF_eq (see : S52 → Int → Int → Int) : ∀ (l : List S52) (ts : List Int) (n : Int), eachF see l ts n = eachS see l ts n
  | [], _, _ => rfl
  | o :: l, ts, n => by
    rw [eachF, eachS, eachF_eq see l, eachF_eq see l, eachF_eq see l]
    rfl
def sumW (wt : S52 → Int) (l : List S52) : Int := (l.map wt).sum
theorem sumW_nil (wt : S52 → Int) : sumW wt [] = 0 := rfl
theorem sumW_cons (wt : S52 → Int) (o : S52) (l : List S52) : sumW wt (o :: l) = wt o + sumW wt l := by simp [sumW]
theorem sumW_append (wt : S52 → Int) (a b : List S52) : sumW wt (a ++ b) = sumW wt a + sumW wt b := by simp [sumW]
theorem sumW_rep (wt : S52 → Int) (n : Nat) (l : List S52) : sumW wt (rep n l) = n * sumW wt l := by
  induction n with
  | zero => simp [rep, sumW]
  | succ n ih => rw [rep_succ, sumW_append, ih]; simp only [Int.natCast_add, Int.add_mul]; simp
theorem sumW_nonneg (wt : S52 → Int) (l : List S52) (h : ∀ o ∈ l, 0 ≤ wt o) : 0 ≤ sumW wt l := by
  induction l with
  | nil => exact Int.le_refl _
  | cons o l ih =>
    rw [sumW_cons]
    have := h o (by simp)
    have := ih (fun o' h' => h o' (List.mem_cons_of_mem _ h'))
    omega
theorem lastS_snoc (ts : List Int) (x : Int) : lastS (ts ++ [x]) = x := by simp [lastS, List.getD]
theorem take_snoc (ts : List Int) (x : Int) (h : 1 ≤ ts.length) : (ts ++ [x]).take (max ((ts ++ [x]).length - 1) 1) = ts := by
  rw [List.length_append, show max (ts.length + [x].length - 1) 1 = ts.length by simp; omega]
  simp
/-- Each op is seen as often as it is done. -/
theorem each_flat (see : S52 → Int → Int → Int) (wt : S52 → Int) (hsee : ∀ o t n, 0 ≤ wt o → 0 ≤ n → 0 ≤ t → n + t * wt o ≤ 4611686018427387904 → see o t n = n + t * wt o) {d : Nat} {l out : List S52} (h : FlatR kdP nmP d l out) :
    ∀ (rest : List S52) (ts : List Int) (n : Int), (∀ o ∈ l, 0 ≤ wt o) → 1 ≤ ts.length → 0 ≤ n → 1 ≤ lastS ts → n + lastS ts * sumW wt out ≤ 4611686018427387904 → lastS ts * 32 ^ d ≤ 4611686018427387904 → eachS see (l ++ rest) ts n = eachS see rest ts (n + lastS ts * sumW wt out) := by
  induction h with
  | nil d =>
    intro rest ts n hw hts hn ht hb hd
    simp [sumW_nil]
  | op d o l out h8 h9 hf ih =>
    intro rest ts n hw hts hn ht hb hd
    have hwo := hw o (by simp)
    have hws : 0 ≤ sumW wt out := sumW_nonneg wt out (fun x hx => hw x (List.mem_cons_of_mem _ (hf.mem x hx).1))
    have hp : 0 ≤ lastS ts * sumW wt out := Int.mul_nonneg (by omega) hws
    have hp2 : 0 ≤ lastS ts * wt o := Int.mul_nonneg (by omega) hwo
    rw [sumW_cons, Int.mul_add] at hb ⊢
    rw [List.cons_append, eachS, if_neg h8, if_neg h9, hsee o _ n hwo hn (by omega) (by omega), ih rest ts _ (fun x hx => hw x (List.mem_cons_of_mem _ hx)) hts (by omega) ht (by omega) hd]
    congr 1
    omega
  | loop d o e n' body bout l out h8 hn8 hn32 hb' h9 hl ih1 ih2 =>
    intro rest ts n hw hts hn ht hb hd
    have hwb : ∀ x ∈ body, 0 ≤ wt x := fun x hx => hw x (by simp [hx])
    have hwl : ∀ x ∈ l, 0 ≤ wt x := fun x hx => hw x (by simp [hx])
    have hws : 0 ≤ sumW wt out := sumW_nonneg wt out (fun x hx => hwl x (hl.mem x hx).1)
    have hwb2 : 0 ≤ sumW wt bout := sumW_nonneg wt bout (fun x hx => hwb x (hb'.mem x hx).1)
    have n8 : ¬ e.f0 = 8 := by rw [show e.f0 = 9 from h9]; decide
    have hp : 0 ≤ lastS ts * sumW wt out := Int.mul_nonneg (by omega) hws
    have e32 : (32 : Int) ^ (d + 1) = 32 ^ d * 32 := Int.pow_succ _ _
    have hpow0 : (0 : Int) < 32 ^ d := Int.pow_pos (by decide)
    have hpow : (1 : Int) ≤ 32 ^ d := by omega
    have hk : lastS ts * (n' : Int) ≤ lastS ts * 32 := Int.mul_le_mul_of_nonneg_left (by omega) (by omega)
    have hk2 : lastS ts * 32 * 32 ^ d ≤ 4611686018427387904 := by
      rw [e32] at hd
      have : lastS ts * 32 * 32 ^ d = lastS ts * (32 ^ d * 32) := by rw [Int.mul_assoc, Int.mul_comm 32]
      omega
    have hk3 : lastS ts * 32 * 1 ≤ lastS ts * 32 * 32 ^ d := Int.mul_le_mul_of_nonneg_left hpow (by omega)
    have hk1 : 1 * 1 ≤ lastS ts * (n' : Int) := Int.mul_le_mul ht (by omega) (by decide) (by omega)
    have hwr : wrap64 (lastS ts * o.f1) = lastS ts * (n' : Int) := by
      rw [show o.f1 = (n' : Int) from hn8]
      exact Prog.w64 (by omega) (by omega)
    rw [sumW_append, sumW_rep, Int.mul_add] at hb ⊢
    have hmid : lastS ts * ((n' : Int) * sumW wt bout) = lastS ts * (n' : Int) * sumW wt bout := by rw [Int.mul_assoc]
    rw [hmid] at hb ⊢
    have hpb : 0 ≤ lastS ts * (n' : Int) * sumW wt bout := Int.mul_nonneg (by omega) hwb2
    have hx1 := ih1 (e :: (l ++ rest)) (ts ++ [lastS ts * (n' : Int)]) n hwb (by simp) hn (by rw [lastS_snoc]; omega) (by rw [lastS_snoc]; omega) (by
      rw [lastS_snoc]
      have : lastS ts * (n' : Int) * 32 ^ d ≤ lastS ts * 32 * 32 ^ d := Int.mul_le_mul_of_nonneg_right hk (by omega)
      omega)
    rw [lastS_snoc] at hx1
    have hx2 := ih2 rest ts (n + lastS ts * (n' : Int) * sumW wt bout) hwl hts (by omega) ht (by omega) hd
    rw [show (o :: body ++ e :: l) ++ rest = o :: (body ++ e :: (l ++ rest)) by simp, eachS, if_pos h8, hwr, hx1, eachS, if_neg n8, if_pos h9, take_snoc ts _ hts, hx2]
    congr 1
    omega
theorem stepSee_sum (o : S52) (t n : Int) (h1 : 0 ≤ (fun _ : S52 => (1 : Int)) o) (h2 : 0 ≤ n) (h3 : 0 ≤ t) (h4 : n + t * 1 ≤ 4611686018427387904) : stepSee o t n = n + t * 1 := by
  unfold stepSee
  rw [Prog.w64 (by omega) (by omega)]
  omega
theorem sumW_one (l : List S52) : sumW (fun _ => 1) l = (l.length : Int) := by
  induction l with
  | nil => rfl
  | cons o l ih => rw [sumW_cons, ih]; simp; omega
def runW (o : S52) : Int := if o.f0 = 1 then o.f1 else 0
theorem costSee_sum (o : S52) (t n : Int) (h1 : 0 ≤ runW o) (h2 : 0 ≤ n) (h3 : 0 ≤ t) (h4 : n + t * runW o ≤ 4611686018427387904) : costSee o t n = n + t * runW o := by
  unfold costSee
  unfold runW at h1 h4 ⊢
  split
  · rename_i h
    rw [if_pos h] at h1 h4
    have : 0 ≤ t * o.f1 := Int.mul_nonneg h3 h1
    rw [Int.mul_comm o.f1 t, Prog.w64 (x := t * o.f1) (by omega) (by omega), Prog.w64 (by omega) (by omega)]
  · simp
/-- How many steps there are. -/
theorem steps_flat {d : Nat} {l out : List S52} (h : FlatR kdP nmP d l out) (hd : d ≤ 6) (ho : out.length ≤ 1000000000000) : eachS stepSee l [1] 0 = (out.length : Int) := by
  have hp : (32 : Int) ^ d ≤ 32 ^ 6 := by
    exact_mod_cast Nat.pow_le_pow_right (by decide) hd
  have := each_flat stepSee (fun _ => 1) (fun o t n a b c e => stepSee_sum o t n a b c e) h [] [1] 0 (fun _ _ => by decide) (by decide) (by decide) (by decide) (by rw [sumW_one]; simp [lastS]; omega) (by simp [lastS]; omega)
  rw [List.append_nil, sumW_one] at this
  rw [this]
  simp [eachS, lastS]
/-- How long is run. -/
theorem cost_flat {d : Nat} {l out : List S52} (h : FlatR kdP nmP d l out) (hd : d ≤ 6) (hw : ∀ o ∈ l, 0 ≤ runW o) (ho : sumW runW out ≤ 4611686018427387904) : eachF costSee l [1] 0 = sumW runW out := by
  have hp : (32 : Int) ^ d ≤ 32 ^ 6 := by
    exact_mod_cast Nat.pow_le_pow_right (by decide) hd
  have := each_flat costSee runW (fun o t n a b c e => costSee_sum o t n a b c e) h [] [1] 0 hw (by decide) (by decide) (by decide) (by simp [lastS]; omega) (by simp [lastS]; omega)
  rw [List.append_nil] at this
  rw [eachF_eq, this]
  simp [eachS, lastS]
theorem badOp_none : ∀ (l : List OpT) (i : Nat), (∀ o ∈ l, chkOpT o = 0) → badOp i l = none
  | [], _, _ => rfl
  | o :: l, i, h => by
    rw [badOp, if_pos (h o (by simp)), badOp_none l (i + 1) (fun x hx => h x (List.mem_cons_of_mem _ hx))]
end Go.Proofs.Ytjnhahdelipebaa.Nest
namespace Go.Proofs.Ytjnhahdelipebaa.Nest
set_option linter.unusedVariables false
set_option linter.unusedSimpArgs false
open Go.RowKit Go.Proofs.Ytjnhahdelipebaa.XA
/-- The locks held and the loops open behind these ops. -/
def tRun : List OpT → List Int → List (List Int) → Option (List Int × List (List Int))
  | [], h, fs => some (h, fs)
  | o :: l, h, fs => match tStep o.1 o.2.1 o.2.2.2.1 h fs with
    | none => none
    | some (h', fs') => tRun l h' fs'
theorem tRun_append (a b : List OpT) : ∀ (h : List Int) (fs : List (List Int)), tRun (a ++ b) h fs = (tRun a h fs).bind fun s => tRun b s.1 s.2 := by
  induction a with
  | nil => intro h fs; rfl
  | cons o a ih =>
    intro h fs
    simp only [List.cons_append, tRun]
    cases tStep o.1 o.2.1 o.2.2.2.1 h fs with
    | none => rfl
    | some s => exact ih s.1 s.2
theorem runQ_tRun : ∀ (l : List OpT) (i : Nat) (h : List Int) (fs : List (List Int)), tRun l h fs = some ([], []) → runQ i l h fs = none
  | [], i, h, fs, e => by
    simp only [tRun, Option.some.injEq, Prod.mk.injEq] at e
    simp [runQ, e.1, e.2]
  | o :: l, i, h, fs, e => by
    simp only [tRun] at e
    simp only [runQ]
    cases ht : tStep o.1 o.2.1 o.2.2.2.1 h fs with
    | none => rw [ht] at e; cases e
    | some s => rw [ht] at e; exact runQ_tRun l (i + 1) s.1 s.2 e
theorem getD_fst (op : List OpenT) : (lastO op).1 = (op.map (·.1)).getD ((op.map (·.1)).length - 1) [] := by
  unfold lastO
  rw [List.length_map]
  simp only [List.getD, List.getElem?_map]
  cases op[op.length - 1]? <;> rfl
theorem pStep_tStep {k n wt : Int} {h : List Int} {op : List OpenT} {st : Int} {h' : List Int} {op' : List OpenT} {st' : Int} (e : pStep k n wt h op st = some (h', op', st')) : tStep k n wt h (op.map (·.1)) = some (h', op'.map (·.1)) := by
  unfold pStep at e
  unfold tStep
  rw [List.length_map]
  by_cases k8 : k = 8
  · rw [if_pos k8] at e ⊢
    split at e
    · cases e
    · rename_i h3
      rw [if_neg h3]
      cases e
      simp
  · rw [if_neg k8] at e ⊢
    by_cases k9 : k = 9
    · rw [if_pos k9] at e ⊢
      split at e
      · cases e
      · rename_i h0
        rw [if_neg h0]
        split at e
        · rename_i h1
          rw [getD_fst, List.length_map] at h1
          rw [if_pos h1]
          cases e
          rw [List.map_take]
        · cases e
    · rw [if_neg k9] at e ⊢
      by_cases k2 : k = 2
      · rw [if_pos k2] at e ⊢
        split at e
        · cases e
        · rename_i h1
          rw [if_neg h1]
          cases e
          rfl
      · rw [if_neg k2] at e ⊢
        by_cases k3 : k = 3
        · rw [if_pos k3] at e ⊢
          split at e
          · cases e
          · rename_i h1
            rw [if_neg h1]
            split at e
            · rename_i h2
              rw [if_pos h2]
              cases e
              rfl
            · cases e
        · rw [if_neg k3] at e ⊢
          split at e
          · cases e
          · rename_i h1
            rw [if_neg h1]
            cases e
            rfl
theorem runP_tRun : ∀ (l : List OpT) (i : Nat) (h : List Int) (op : List OpenT) (st : Int), (runP i l h op st).2 = 0 → tRun l h (op.map (·.1)) = some ([], [])
  | [], i, h, op, st, e => by
    simp only [runP] at e
    split at e
    · simp at e
    · rename_i hno
      have h1 : op = [] := List.length_eq_zero_iff.1 (by omega)
      have h2 : h = [] := List.length_eq_zero_iff.1 (by omega)
      subst h1 h2
      rfl
  | o :: l, i, h, op, st, e => by
    simp only [runP] at e
    simp only [tRun]
    cases hp : pStep o.1 o.2.1 o.2.2.2.1 h op st with
    | none => rw [hp] at e; simp at e
    | some s =>
      obtain ⟨h', op', st'⟩ := s
      rw [hp] at e
      rw [pStep_tStep hp]
      exact runP_tRun l (i + 1) h' op' st' e
/-- What CheckProg takes is in order. -/
theorem chk_order {l : List OpT} (e : (chkProg l).2 = 0) : tRun l [] [] = some ([], []) := by
  unfold chkProg at e
  split at e
  · simp at e
  · cases hb : badOp 0 l with
    | some p => rw [hb] at e; exact absurd e (bad_ne _ _ _ hb)
    | none =>
      rw [hb] at e
      exact runP_tRun l 0 [] [] 0 e
/-- The locks held behind ops among which is no loop. -/
def hRun (l : List OpT) (h : List Int) : Option (List Int) := (tRun l h []).map (·.1)
theorem tStep_plain {k n wt : Int} {h : List Int} (fs : List (List Int)) (h8 : k ≠ 8) (h9 : k ≠ 9) : tStep k n wt h fs = (tStep k n wt h []).map fun s => (s.1, fs) := by
  unfold tStep
  rw [if_neg h8, if_neg h9, if_neg h8, if_neg h9]
  (repeat' split) <;> rfl
theorem tStep_plain0 {k n wt : Int} {h : List Int} (h8 : k ≠ 8) (h9 : k ≠ 9) {s : List Int × List (List Int)} (e : tStep k n wt h [] = some s) : s.2 = [] := by
  rw [tStep_plain [] h8 h9] at e
  cases hx : tStep k n wt h [] with
  | none => rw [hx] at e; cases e
  | some t => rw [hx] at e; cases e; rfl
theorem hRun_cons {o : OpT} {l : List OpT} {h : List Int} (h8 : o.1 ≠ 8) (h9 : o.1 ≠ 9) : hRun (o :: l) h = (tStep o.1 o.2.1 o.2.2.2.1 h []).bind fun s => hRun l s.1 := by
  unfold hRun
  simp only [tRun]
  cases hx : tStep o.1 o.2.1 o.2.2.2.1 h [] with
  | none => rfl
  | some s =>
    have := tStep_plain0 h8 h9 hx
    obtain ⟨a, b⟩ := s
    simp only at this
    subst this
    rfl
theorem hRun_append (a b : List OpT) (ha : ∀ o ∈ a, o.1 ≠ 8 ∧ o.1 ≠ 9) : ∀ h : List Int, hRun (a ++ b) h = (hRun a h).bind fun h' => hRun b h' := by
  induction a with
  | nil => intro h; rfl
  | cons o a ih =>
    intro h
    have ho := ha o List.mem_cons_self
    rw [List.cons_append, hRun_cons ho.1 ho.2, hRun_cons ho.1 ho.2]
    cases tStep o.1 o.2.1 o.2.2.2.1 h [] with
    | none => rfl
    | some s => exact ih (fun x hx => ha x (List.mem_cons_of_mem _ hx)) s.1
/-- What is done keeps the order that stands there. -/
theorem flat_order {α : Type} {kd nm : α → Int} (tr : α → OpT) (hk : ∀ x, kd x = (tr x).1) {d : Nat} {l out : List α} (hf : FlatR kd nm d l out) : ∀ (h : List Int) (fs : List (List Int)) (h1 : List Int) (fs1 : List (List Int)), tRun (l.map tr) h fs = some (h1, fs1) → fs1 = fs ∧ hRun (out.map tr) h = some h1 := by
  induction hf with
  | nil d =>
    intro h fs h1 fs1 e
    simp only [List.map_nil, tRun, Option.some.injEq, Prod.mk.injEq] at e
    exact ⟨e.2.symm, by rw [← e.1]; rfl⟩
  | op d o l out k8 k9 _ ih =>
    intro h fs h1 fs1 e
    rw [hk] at k8 k9
    simp only [List.map_cons, tRun] at e
    rw [List.map_cons, hRun_cons k8 k9]
    rw [tStep_plain fs k8 k9] at e
    cases hx : tStep (tr o).1 (tr o).2.1 (tr o).2.2.2.1 h [] with
    | none => rw [hx] at e; cases e
    | some s =>
      rw [hx] at e
      exact ih s.1 fs h1 fs1 e
  | loop d o e n body bout l out k8 hn hn2 hb k9 hl ih1 ih2 =>
    intro h fs h1 fs1 he
    rw [hk] at k8 k9
    rw [show List.map tr (o :: body ++ e :: l) = tr o :: (body.map tr ++ (tr e :: l.map tr)) by simp] at he
    simp only [tRun] at he
    have s8 : tStep (tr o).1 (tr o).2.1 (tr o).2.2.2.1 h fs = if 3 ≤ fs.length then none else some (h, fs ++ [h]) := by
      unfold tStep
      rw [if_pos k8]
    rw [s8] at he
    split at he
    · cases he
    · rename_i x hx
      split at hx
      · cases hx
      · cases hx
        rw [tRun_append] at he
        cases hb2 : tRun (body.map tr) h (fs ++ [h]) with
        | none => rw [hb2] at he; cases he
        | some s =>
          obtain ⟨hb3, fb⟩ := s
          obtain ⟨rfl, hrb⟩ := ih1 h (fs ++ [h]) hb3 fb hb2
          rw [hb2] at he
          simp only [Option.bind_some, tRun] at he
          have s9 : tStep (tr e).1 (tr e).2.1 (tr e).2.2.2.1 hb3 (fs ++ [h]) = if h = hb3 then some (hb3, fs) else none := by
            unfold tStep
            rw [if_neg (by rw [k9]; decide), if_pos k9, if_neg (by simp)]
            simp [List.getD]
          rw [s9] at he
          by_cases hh : h = hb3
          · subst hh
            rw [if_pos rfl] at he
            obtain ⟨e1, e2⟩ := ih2 h fs h1 fs1 he
            refine ⟨e1, ?_⟩
            have hbm : ∀ x ∈ bout.map tr, x.1 ≠ 8 ∧ x.1 ≠ 9 := fun x hx => by
              obtain ⟨y, hy, rfl⟩ := List.mem_map.1 hx
              have := hb.mem y hy
              rw [← hk]
              exact this.2
            have hrep : ∀ m : Nat, hRun ((rep m bout).map tr) h = some h := by
              intro m
              induction m with
              | zero => rfl
              | succ m ih =>
                rw [rep_succ, List.map_append, hRun_append _ _ (fun x hx => by
                  rw [← rep_map] at hx
                  unfold rep at hx
                  rw [List.mem_flatten] at hx
                  obtain ⟨l', hl', hx'⟩ := hx
                  rw [List.mem_replicate] at hl'
                  exact hbm x (hl'.2 ▸ hx')), ih]
                exact hrb
            rw [List.map_append, hRun_append _ _ (fun x hx => by
              rw [← rep_map] at hx
              unfold rep at hx
              rw [List.mem_flatten] at hx
              obtain ⟨l', hl', hx'⟩ := hx
              rw [List.mem_replicate] at hl'
              exact hbm x (hl'.2 ▸ hx')), hrep n]
            exact e2
          · rw [if_neg hh] at he
            cases he
end Go.Proofs.Ytjnhahdelipebaa.Nest
namespace Go.Proofs.Ytjnhahdelipebaa.Nest
set_option linter.unusedVariables false
set_option linter.unusedSimpArgs false
open Go.RowKit Go.Proofs.Ytjnhahdelipebaa.XA Go.Proofs.Ytjnhahdelipebaa.Prog Go.Proofs.YtjnhahdelipebaaW.PrintWords Go.Proofs.YtjnhahdelipebaaW.PrintLast Go.Proofs.YtjnhahdelipebaaW.PrintMore
theorem lastH_snoc (h : List Int) (n : Int) : lastH (h ++ [n]) = n := by simp [lastH, List.getD]
theorem snoc_of {h : List Int} (h0 : h.length ≠ 0) : h = h.take (h.length - 1) ++ [lastH h] := by
  have h1 : h ≠ [] := fun e => h0 (by rw [e]; rfl)
  have h2 := List.dropLast_concat_getLast h1
  rw [List.dropLast_eq_take] at h2
  have h3 : lastH h = h.getLast h1 := by
    unfold lastH
    rw [List.getLast_eq_getElem]
    simp [List.getD, Nat.sub_lt (Nat.pos_of_ne_zero h0)]
  rw [h3]
  exact h2.symm
/-- Who has a lock, as Section sees it. -/
theorem sec_held (x : Int) : ∀ (l : List S52) (h h' : List Int) (s : Int × Int × Bool), (∀ o ∈ l, o.f0 ≠ 8 ∧ o.f0 ≠ 9) → h.Pairwise (· < ·) → s.2.2 = decide (x ∈ h) → hRun (l.map opTP) h = some h' → (l.foldl (secS x) s).2.2 = decide (x ∈ h')
  | [], h, h', s, _, _, hs, e => by
    simp only [List.map_nil, hRun, tRun, Option.map_some, Option.some.injEq] at e
    subst e
    exact hs
  | o :: l, h, h', s, ho, hp, hs, e => by
    have ho' := ho o List.mem_cons_self
    rw [List.map_cons, hRun_cons ho'.1 ho'.2] at e
    rw [List.foldl_cons]
    have hl := fun y hy => ho y (List.mem_cons_of_mem _ hy)
    cases ht : tStep (opTP o).1 (opTP o).2.1 (opTP o).2.2.2.1 h [] with
    | none => rw [ht] at e; cases e
    | some st =>
      rw [ht] at e
      simp only [Option.bind_some] at e
      have key : st.1.Pairwise (· < ·) ∧ (secS x s o).2.2 = decide (x ∈ st.1) := by
        change tStep o.f0 o.f1 o.f3 h [] = some st at ht
        unfold tStep at ht
        rw [if_neg ho'.1, if_neg ho'.2] at ht
        unfold secS
        by_cases k2 : o.f0 = 2
        · rw [if_pos k2] at ht
          split at ht
          · cases ht
          · rename_i hn
            cases ht
            refine ⟨?_, ?_⟩
            · rw [List.pairwise_append]
              refine ⟨hp, List.pairwise_singleton _ _, fun a ha b hb => ?_⟩
              simp only [List.mem_singleton] at hb
              subst hb
              have h0 : h.length ≠ 0 := fun e0 => by rw [List.length_eq_zero_iff.1 e0] at ha; cases ha
              have hlt : lastH h < o.f1 := by omega
              rw [snoc_of h0] at ha hp
              rcases List.mem_append.1 ha with ha | ha
              · have := (List.pairwise_append.1 hp).2.2 a ha _ (List.mem_singleton.2 rfl)
                omega
              · simp only [List.mem_singleton] at ha
                omega
            · by_cases hx : o.f1 = x
              · rw [if_pos ⟨k2, hx⟩]
                simp [hx]
              · rw [if_neg (fun c => hx c.2), if_neg (fun c => by omega), if_neg (fun c => by omega), hs]
                simp [Ne.symm hx]
        · rw [if_neg k2] at ht
          rw [if_neg (fun c => k2 c.1)]
          by_cases k3 : o.f0 = 3
          · rw [if_pos k3] at ht
            split at ht
            · cases ht
            · rename_i h0
              split at ht
              · rename_i hlast
                cases ht
                have hsn := snoc_of h0
                have hp2 := hp
                rw [hsn] at hp2
                have hp3 := List.pairwise_append.1 hp2
                refine ⟨hp3.1, ?_⟩
                by_cases hx : o.f1 = x
                · rw [if_pos ⟨k3, hx⟩]
                  have : x ∉ h.take (h.length - 1) := fun hm => by
                    have := hp3.2.2 x hm _ (List.mem_singleton.2 rfl)
                    omega
                  simp [this]
                · rw [if_neg (fun c => hx c.2), if_neg (fun c => by omega), hs]
                  have : (x ∈ h) ↔ x ∈ h.take (h.length - 1) := by
                    constructor
                    · intro hm
                      rw [hsn] at hm
                      rcases List.mem_append.1 hm with hm | hm
                      · exact hm
                      · simp only [List.mem_singleton] at hm
                        omega
                    · intro hm
                      rw [hsn]
                      exact List.mem_append_left _ hm
                  exact decide_eq_decide.2 this
              · cases ht
          · rw [if_neg k3] at ht
            rw [if_neg (fun c => k3 c.1)]
            split at ht
            · cases ht
            · cases ht
              refine ⟨hp, ?_⟩
              split
              · rename_i c
                rw [← hs]
                exact c.2.symm
              · exact hs
      exact sec_held x l st.1 h' _ hl key.1 key.2 e
theorem mx_assoc (a b c : Int) : mx (mx a b) c = mx a (mx b c) := by unfold mx; (repeat' split) <;> omega
/-- What was longest ahead stays beside. -/
theorem sec_beside (x : Int) (m : Int) : ∀ (l : List S52) (s s' : Int × Int × Bool), s.1 = mx m s'.1 → s.2.2 = s'.2.2 → (s'.2.2 = true → s.2.1 = s'.2.1) → (l.foldl (secS x) s).1 = mx m (l.foldl (secS x) s').1
  | [], s, s', h1, _, _ => h1
  | o :: l, s, s', h1, h2, h3 => by
    rw [List.foldl_cons, List.foldl_cons]
    refine sec_beside x m l _ _ ?_ ?_ ?_
    · unfold secS
      split
      · exact h1
      · split
        · exact h1
        · rw [h2]
          split
          · rename_i c
            simp only
            rw [h3 c.2, h1, mx_assoc]
          · exact h1
    · unfold secS
      split
      · rfl
      · split
        · rfl
        · rw [h2]
          split
          · rfl
          · exact h2
    · unfold secS
      split
      · exact fun _ => rfl
      · split
        · exact fun c => by cases c
        · rw [h2]
          split
          · rename_i c
            simp only
            intro _
            rw [h3 c.2]
          · exact h3
theorem sec_append (x : Int) (a b : List S52) (ha : ∀ o ∈ a, o.f0 ≠ 8 ∧ o.f0 ≠ 9) (hr : hRun (a.map opTP) [] = some []) (h0 : 0 ≤ secL x a) : secL x (a ++ b) = mx (secL x a) (secL x b) := by
  have hh := sec_held x a [] [] (0, 0, false) ha List.Pairwise.nil (by simp) hr
  unfold secL at *
  rw [List.foldl_append]
  refine sec_beside x _ b _ _ ?_ (by rw [hh]; simp) (fun c => by cases c)
  unfold mx
  simp only
  split <;> omega
theorem sec_nonneg (x : Int) : ∀ (l : List S52) (s : Int × Int × Bool), 0 ≤ s.1 → 0 ≤ (l.foldl (secS x) s).1
  | [], s, h => h
  | o :: l, s, h => by
    rw [List.foldl_cons]
    refine sec_nonneg x l _ ?_
    unfold secS
    split
    · exact h
    · split
      · exact h
      · split
        · simp only
          unfold mx
          split <;> omega
        · exact h
end Go.Proofs.Ytjnhahdelipebaa.Nest
namespace Go.Proofs.Ytjnhahdelipebaa.Nest
set_option linter.unusedVariables false
set_option linter.unusedSimpArgs false
open Go.RowKit Go.Proofs.Ytjnhahdelipebaa.XA Go.Proofs.YtjnhahdelipebaaW.PrintWords Go.Proofs.YtjnhahdelipebaaW.PrintLast Go.Proofs.YtjnhahdelipebaaW.PrintMore
abbrev kdR (o : S62) : Int := o.f0
abbrev nmR (o : S62) : Int := o.f1
theorem rdR {p pre post : List S62} {x : S62} (h : p = pre ++ x :: post) : rd_T62 p (pre.length : Int) = x := by subst h; simp [rd_T62, List.getD]
/-- The reference's Match goes over what is closed in itself. -/
theorem matchR_seg (R : Int) {d : Nat} {seg out : List S62} (h : FlatR kdR nmR d seg out) : ∀ (p pre post : List S62) (c : Nat), p = pre ++ (seg ++ post) → p.length ≤ 1000000 → 1 ≤ c → c + seg.length ≤ 2000000 →
    Ev (fun k => watchbillref8_Match.l0 k p (c : Int) ((pre.length + seg.length : Nat) : Int)) R → Ev (fun k => watchbillref8_Match.l0 k p (c : Int) (pre.length : Int)) R := by
  induction h with
  | nil d =>
    intro p pre post c hp hn h1 hS hc
    simpa using hc
  | op d o l out h8 h9 _ ih =>
    intro p pre post c hp hn h1 hS hc
    have hp' : p = pre ++ o :: (l ++ post) := by rw [hp]; rfl
    have hlen : p.length = pre.length + (1 + l.length + post.length) := by rw [hp']; simp; omega
    simp only [List.length_cons] at hS hc
    have hi := ih p (pre ++ [o]) post c (by rw [hp']; simp) hn h1 (by omega) (by
      simp only [List.length_append, List.length_cons, List.length_nil]
      rw [show pre.length + (0 + 1) + l.length = pre.length + (l.length + 1) by omega]
      exact hc)
    simp only [List.length_append, List.length_cons, List.length_nil, Nat.zero_add] at hi
    refine Ev.step (f := fun k => watchbillref8_Match.j2 k p (c : Int) (pre.length : Int)) (fun k => ?_) (Ev.step (fun k => ?_) hi)
    · rw [watchbillref8_Match.l0, if_pos (by omega), if_pos (by omega), rdR hp', if_neg h8]
    · rw [watchbillref8_Match.j2, if_pos (by omega), if_pos (by omega), rdR hp', if_neg h9, w1 (by omega)]
  | loop d o e n body bout l out h8 hn8 hn32 _ h9 _ ih1 ih2 =>
    intro p pre post c hp hn h1 hS hc
    have n8 : ¬ e.f0 = 8 := by rw [show e.f0 = 9 from h9]; decide
    have n9 : ¬ o.f0 = 9 := by rw [show o.f0 = 8 from h8]; decide
    have hp1 : p = pre ++ o :: (body ++ e :: (l ++ post)) := by rw [hp]; simp
    have hp2 : p = (pre ++ o :: body) ++ e :: (l ++ post) := by rw [hp]; simp
    have hlen : p.length = pre.length + body.length + l.length + post.length + 2 := by rw [hp1]; simp; omega
    simp only [List.length_append, List.length_cons] at hS hc
    have hi2 := ih2 p (pre ++ o :: body ++ [e]) post c (by rw [hp]; simp) hn h1 (by omega) (by
      simp only [List.length_append, List.length_cons, List.length_nil]
      rw [show pre.length + (body.length + 1) + (0 + 1) + l.length = pre.length + (body.length + 1 + (l.length + 1)) by omega]
      exact hc)
    have hi1 := ih1 p (pre ++ [o]) (e :: (l ++ post)) (c + 1) (by rw [hp]; simp) hn (by omega) (by omega) (by
      have epos : ((pre ++ [o]).length + body.length : Nat) = (pre ++ o :: body).length := by simp; omega
      have hpl : (pre ++ o :: body).length = pre.length + body.length + 1 := by simp; omega
      have hw : wrap64 (((c + 1 : Nat) : Int) - 1) = (c : Int) := by rw [w64 (by omega) (by omega)]; omega
      have hp3 : ((pre ++ o :: body ++ [e]).length : Nat) = (pre ++ o :: body).length + 1 := by simp; omega
      rw [hp3] at hi2
      rw [epos]
      refine Ev.step (f := fun k => watchbillref8_Match.j2 k p ((c + 1 : Nat) : Int) (((pre ++ o :: body).length : Nat) : Int)) (fun k => ?_) (Ev.step (fun k => ?_) hi2)
      · rw [watchbillref8_Match.l0, if_pos (by omega), if_pos (by omega), rdR hp2, if_neg n8]
      · rw [watchbillref8_Match.j2, if_pos (by omega), if_pos (by omega), rdR hp2, if_pos h9, hw, if_neg (by omega), w1 (by omega)])
    have epos : ((pre ++ [o]).length : Nat) = pre.length + 1 := by simp
    rw [epos] at hi1
    refine Ev.step (f := fun k => watchbillref8_Match.j2 k p ((c + 1 : Nat) : Int) (pre.length : Int)) (fun k => ?_) (Ev.step (fun k => ?_) hi1)
    · rw [watchbillref8_Match.l0, if_pos (by omega), if_pos (by omega), rdR hp1, if_pos h8, w1 (by omega)]
    · rw [watchbillref8_Match.j2, if_pos (by omega), if_pos (by omega), rdR hp1, if_neg n9, w1 (by omega)]
theorem matchR_ev {d2 : Nat} {pre body bout : List S62} (h2 : FlatR kdR nmR d2 body bout) (o e : S62) (post : List S62) (h8 : o.f0 = 8) (h9 : e.f0 = 9) (p : List S62) (hp : p = pre ++ o :: (body ++ e :: post)) (hn : p.length ≤ 1000000) :
    Ev (fun k => watchbillref8_Match.f k p (pre.length : Int)) ((pre.length + 1 + body.length : Nat) : Int) := by
  have hlen : p.length = pre.length + body.length + post.length + 2 := by rw [hp]; simp; omega
  have hp2 : p = (pre ++ o :: body) ++ e :: post := by rw [hp]; simp
  have hb := matchR_seg ((pre.length + 1 + body.length : Nat) : Int) h2 p (pre ++ [o]) (e :: post) 1 (by rw [hp]; simp) hn (by omega) (by omega) (by
    have epos : ((pre ++ [o]).length + body.length : Nat) = (pre ++ o :: body).length := by simp; omega
    have hpl : (pre ++ o :: body).length = pre.length + body.length + 1 := by simp; omega
    have hw : wrap64 (((1 : Nat) : Int) - 1) = 0 := by unfold wrap64; omega
    have n8 : ¬ e.f0 = 8 := by rw [h9]; decide
    rw [epos]
    refine Ev.step (f := fun k => watchbillref8_Match.j2 k p ((1 : Nat) : Int) (((pre ++ o :: body).length : Nat) : Int)) (fun k => ?_) (Ev.step (f := fun _ => some _) (fun k => ?_) (Ev.now _))
    · rw [watchbillref8_Match.l0, if_pos (by omega), if_pos (by omega), rdR hp2, if_neg n8]
    · rw [watchbillref8_Match.j2, if_pos (by omega), if_pos (by omega), rdR hp2, if_pos h9, hw, if_pos rfl]
      congr 1
      omega)
  have epos : ((pre ++ [o]).length : Nat) = pre.length + 1 := by simp
  rw [epos] at hb
  have h0 : Ev (fun k => watchbillref8_Match.l0 k p 0 (pre.length : Int)) ((pre.length + 1 + body.length : Nat) : Int) := by
    refine Ev.step (f := fun k => watchbillref8_Match.j2 k p ((1 : Nat) : Int) (pre.length : Int)) (fun k => ?_) (Ev.step (fun k => ?_) hb)
    · rw [watchbillref8_Match.l0, if_pos (by omega), if_pos (by omega), rdR hp, if_pos h8, show wrap64 (0 + 1) = ((1 : Nat) : Int) by unfold wrap64; omega]
    · rw [watchbillref8_Match.j2, if_pos (by omega), if_pos (by omega), rdR hp, if_neg (show ¬ o.f0 = 9 by rw [h8]; decide), w1 (by omega)]
  refine Ev.congr (f := fun k => watchbillref8_Match.j0 k p (pre.length : Int) false) (fun k => ?_) (Ev.step (fun k => ?_) h0)
  · unfold watchbillref8_Match.f
    rw [if_neg (by omega)]
    congr 1
    simp only [decide_eq_false_iff_not]
    omega
  · rw [watchbillref8_Match.j0, if_neg (by decide), if_pos (by omega), if_pos (by omega), rdR hp, if_pos h8]
theorem flatR_rounds (p : List S62) (x4 x5 : Int) (b : List S62) (n : Nat) (hn : n ≤ 32) (h0 : 0 ≤ x4) (h1 : x4 < (p.length : Int)) (hx : (rd_T62 p x4).f1 = (n : Int)) (R : List S62) (acc : List S62) (hb : acc.length + n * b.length ≤ 1000000000) (hc : Ev (fun k => watchbillref8_Flat.l0 k p (acc ++ rep n b) (wrap64 (x5 + 1))) R) : ∀ d j : Nat, n - j = d → j ≤ n → Ev (fun k => watchbillref8_Flat.l1 k p (acc ++ rep j b) x4 x5 b (j : Int)) R := by
  intro d
  induction d with
  | zero =>
    intro j hd hj
    obtain rfl : j = n := by omega
    exact Ev.step (fun k => by rw [watchbillref8_Flat.l1, if_pos h0, if_pos h1, hx, if_neg (by omega)]) hc
  | succ d ih =>
    intro j hd hj
    have hi := ih (j + 1) (by omega) (by omega)
    refine Ev.step (fun k => ?_) hi
    have hl : (acc ++ rep j b).length + b.length ≤ 1000000000 := by
      rw [List.length_append, rep_len]
      have : (j + 1) * b.length ≤ n * b.length := Nat.mul_le_mul_right _ (by omega)
      rw [Nat.add_mul] at this
      omega
    rw [watchbillref8_Flat.l1, if_pos h0, if_pos h1, hx, if_pos (by omega), if_pos (by omega), w1 (by omega), rep_succ, List.append_assoc]
theorem flatR_at {d : Nat} {l out : List S62} (h : FlatR kdR nmR d l out) : ∀ (p pre acc : List S62), p = pre ++ l → p.length ≤ 1000000 → acc.length + out.length ≤ 1000000000 → Ev (fun k => watchbillref8_Flat.l0 k p acc (pre.length : Int)) (acc ++ out) := by
  induction h with
  | nil d =>
    intro p pre acc hp hn hb
    have : p.length = pre.length := by rw [hp]; simp
    rw [List.append_nil]
    exact Ev.step (f := fun _ => some _) (fun k => by rw [watchbillref8_Flat.l0, if_neg (by omega)]) (Ev.now _)
  | op d o l out h8 h9 hl ih =>
    intro p pre acc hp hn hb
    have hp' : p = pre ++ o :: l := hp
    have hlen : p.length = pre.length + l.length + 1 := by rw [hp']; simp; omega
    have hi := ih p (pre ++ [o]) (acc ++ [o]) (by rw [hp']; simp) hn (by simp only [List.length_append, List.length_cons, List.length_nil] at hb ⊢; omega)
    simp only [List.length_append, List.length_cons, List.length_nil, Nat.zero_add, List.append_assoc, List.cons_append, List.nil_append] at hi
    simp only [List.length_cons] at hb
    refine Ev.step (fun k => ?_) hi
    rw [watchbillref8_Flat.l0, if_pos (by omega), if_pos (by omega), rdR hp', if_neg h8, if_neg h9, if_pos (by omega), w1 (by omega)]
  | loop d o e n body bout l out h8 hn8 hn32 hbody h9 hl ih1 ih2 =>
    intro p pre acc hp hn hb
    have hp1 : p = pre ++ o :: (body ++ e :: l) := by rw [hp]; simp
    have hlen : p.length = pre.length + body.length + l.length + 2 := by rw [hp1]; simp; omega
    simp only [List.length_append, rep_len] at hb
    have hm := matchR_ev hbody o e l h8 h9 p hp1 hn
    have hi2 := ih2 p (pre ++ o :: body ++ [e]) (acc ++ rep n bout) (by rw [hp]; simp) hn (by rw [List.length_append, rep_len]; omega)
    have hbl : bout.length ≤ n * bout.length := Nat.le_mul_of_pos_left _ (by omega)
    have hi1 := ih1 body [] [] rfl (by omega) (by simp only [List.length_nil]; omega)
    have hf : Ev (fun k => watchbillref8_Flat.f k body) bout := Ev.step (fun k => by rw [watchbillref8_Flat.f]; rfl) hi1
    have hpl : (pre ++ o :: body ++ [e]).length = pre.length + 1 + body.length + 1 := by simp; omega
    have hc : Ev (fun k => watchbillref8_Flat.l0 k p (acc ++ rep n bout) (wrap64 (((pre.length + 1 + body.length : Nat) : Int) + 1))) (acc ++ (rep n bout ++ out)) := by
      rw [w1 (by omega), ← hpl, ← List.append_assoc]
      exact hi2
    have hr := flatR_rounds p (pre.length : Int) ((pre.length + 1 + body.length : Nat) : Int) bout n hn32.2 (by omega) (by omega) (by rw [rdR hp1]; exact hn8) _ acc (by omega) hc _ 0 rfl (by omega)
    have hsub : (p.take (pre.length + 1 + body.length)).drop (pre.length + 1) = body := by
      have e1 : p = (pre ++ o :: body) ++ (e :: l) := by rw [hp]; simp
      have e2 : (pre ++ o :: body).length = pre.length + 1 + body.length := by simp; omega
      have e3 : p.take (pre.length + 1 + body.length) = pre ++ o :: body := by rw [e1, ← e2, List.take_left']; rfl
      rw [e3, show pre ++ o :: body = (pre ++ [o]) ++ body by simp, show pre.length + 1 = (pre ++ [o]).length by simp, List.drop_left']
      rfl
    refine Ev.step (f := fun k => (watchbillref8_Match.f k p (pre.length : Int)).bind fun t => if 0 ≤ wrap64 ((pre.length : Int) + 1) then if wrap64 ((pre.length : Int) + 1) ≤ t then if t ≤ (p.length : Int) then (watchbillref8_Flat.f k ((p.take t.toNat).drop (wrap64 ((pre.length : Int) + 1)).toNat)).bind fun b => watchbillref8_Flat.l1 k p acc (pre.length : Int) t b 0 else none else none else none) (fun k => by rw [watchbillref8_Flat.l0, if_pos (by omega), if_pos (by omega), rdR hp1, if_pos h8]) (Ev.bind (f := fun k t => if 0 ≤ wrap64 ((pre.length : Int) + 1) then if wrap64 ((pre.length : Int) + 1) ≤ t then if t ≤ (p.length : Int) then (watchbillref8_Flat.f k ((p.take t.toNat).drop (wrap64 ((pre.length : Int) + 1)).toNat)).bind fun b => watchbillref8_Flat.l1 k p acc (pre.length : Int) t b 0 else none else none else none) hm ?_)
    have hb2 : Ev (fun k => (watchbillref8_Flat.f k body).bind fun t => watchbillref8_Flat.l1 k p acc (pre.length : Int) ((pre.length + 1 + body.length : Nat) : Int) t 0) (acc ++ (rep n bout ++ out)) := by
      refine Ev.bind hf ?_
      have e0 : acc ++ rep 0 bout = acc := by simp [rep]
      rw [e0] at hr
      exact hr
    refine Ev.congr (fun k => ?_) hb2
    rw [w1 (by omega), if_pos (by omega), if_pos (by omega), if_pos (by omega), Int.toNat_natCast, Int.toNat_natCast, hsub]
theorem flat_ref {d : Nat} {l out : List S62} (h : FlatR kdR nmR d l out) (hn : l.length ≤ 1000000) (hb : out.length ≤ 1000000000) : Ev (fun k => watchbillref8_Flat.f k l) out :=
  Ev.step (fun k => by rw [watchbillref8_Flat.f]; rfl) (flatR_at h l [] [] rfl hn (by simp only [List.length_nil]; omega))
end Go.Proofs.Ytjnhahdelipebaa.Nest
namespace Go.Proofs.Ytjnhahdelipebaa.Nest
set_option linter.unusedVariables false
set_option linter.unusedSimpArgs false
open Go.RowKit Go.Proofs.Ytjnhahdelipebaa.XA Go.Proofs.YtjnhahdelipebaaW.PrintWords Go.Proofs.YtjnhahdelipebaaW.PrintLast Go.Proofs.YtjnhahdelipebaaW.PrintMore
def cvCase (c : S85) : S84 := ⟨c.f0, c.f1, c.f2⟩
def cvOp (o : S62) : S52 := ⟨o.f0, o.f1, o.f2, o.f3, o.f4.map cvCase⟩
theorem fewOps_loop (l : List S62) (hn : l.length ≤ 60) : ∀ d q : Nat, l.length - q = d → q ≤ l.length → (∀ i (h : i < l.length), i < q → l[i].f4.length ≤ 20) → ∃ b, Ev (fun k => watchbilllaw6_Few.l0 k l q) b ∧ (b = true → ∀ o ∈ l, o.f4.length ≤ 20) := by
  intro d
  induction d with
  | zero =>
    intro q hd hq hs
    refine ⟨true, Ev.step (f := fun _ => some _) (fun k => by rw [watchbilllaw6_Few.l0, if_neg (by omega)]) (Ev.now _), fun _ o ho => ?_⟩
    obtain ⟨i, hi, rfl⟩ := List.getElem_of_mem ho
    exact hs i hi (by omega)
  | succ d ih =>
    intro q hd hq hs
    have hlt : q < l.length := by omega
    have hr : rd_T62 l q = l[q] := by simp [rd_T62, List.getD, hlt]
    by_cases h20 : (l[q].f4.length : Int) ≤ 20
    · obtain ⟨b, hb, hP⟩ := ih (q + 1) (by omega) (by omega) (fun i h hi => by
        rcases Nat.lt_or_ge i q with h1 | h1
        · exact hs i h h1
        · obtain rfl : i = q := by omega
          omega)
      refine ⟨b, Ev.step (fun k => ?_) hb, hP⟩
      rw [watchbilllaw6_Few.l0, if_pos (by omega), if_pos (by omega), hr]
      unfold watchbilllaw5_Few.f
      simp only [Option.bind_some]
      rw [if_pos (by simpa using h20), w1 (by omega)]
    · refine ⟨false, Ev.step (f := fun _ => some _) (fun k => ?_) (Ev.now _), fun h => by cases h⟩
      rw [watchbilllaw6_Few.l0, if_pos (by omega), if_pos (by omega), hr]
      unfold watchbilllaw5_Few.f
      simp only [Option.bind_some]
      rw [if_neg (by simpa using h20)]
theorem fewOps_ev (l : List S62) : ∃ b, Ev (fun k => watchbilllaw6_Few.f k l) b ∧ (b = true → l.length ≤ 60 ∧ ∀ o ∈ l, o.f4.length ≤ 20) := by
  by_cases h : (l.length : Int) > 60
  · exact ⟨false, Ev.congr (fun k => by unfold watchbilllaw6_Few.f; rw [if_pos h]) (Ev.now _), fun h => by cases h⟩
  · obtain ⟨b, hb, hP⟩ := fewOps_loop l (by omega) _ 0 rfl (by omega) (fun i _ hi => absurd hi (Nat.not_lt_zero _))
    exact ⟨b, Ev.congr (fun k => by unfold watchbilllaw6_Few.f; rw [if_neg h]; rfl) hb, fun h => ⟨by omega, hP h⟩⟩
theorem toOp_loop (a b c e a' b' c' e' : Int) (l : List S85) (hn : l.length ≤ 20) : ∀ d q : Nat, l.length - q = d → q ≤ l.length → Ev (fun k => watchbilllaw5_To.l0 k q a b c e l a' b' c' e' ((l.take q).map cvCase)) (a', b', c', e', l.map cvCase) := by
  intro d
  induction d with
  | zero =>
    intro q hd hq
    rw [List.take_of_length_le (by omega)]
    exact Ev.step (f := fun _ => some _) (fun k => by rw [watchbilllaw5_To.l0, if_neg (by omega)]) (Ev.now _)
  | succ d ih =>
    intro q hd hq
    have hlt : q < l.length := by omega
    have hr : rd_T85 l q = l[q] := by simp [rd_T85, List.getD, hlt]
    have hi := ih (q + 1) (by omega) (by omega)
    refine Ev.step (fun k => ?_) hi
    rw [watchbilllaw5_To.l0, if_pos (by omega), if_pos (by omega), if_pos (by rw [List.length_map, List.length_take]; omega), hr, w1 (by omega), List.take_succ_eq_append_getElem hlt, List.map_append]
    rfl
theorem toOps_loop (l : List S62) (hn : l.length ≤ 60) (hc : ∀ o ∈ l, o.f4.length ≤ 20) : ∀ d q : Nat, l.length - q = d → q ≤ l.length → Ev (fun k => watchbilllaw5_ToAll.l0 k l ((l.take q).map cvOp) q) (l.map cvOp) := by
  intro d
  induction d with
  | zero =>
    intro q hd hq
    rw [List.take_of_length_le (by omega)]
    exact Ev.step (f := fun _ => some _) (fun k => by rw [watchbilllaw5_ToAll.l0, if_neg (by omega)]) (Ev.now _)
  | succ d ih =>
    intro q hd hq
    have hlt : q < l.length := by omega
    have hr : rd_T62 l q = l[q] := by simp [rd_T62, List.getD, hlt]
    have hi := ih (q + 1) (by omega) (by omega)
    have hop : Ev (fun k => watchbilllaw5_To.f k l[q].f0 l[q].f1 l[q].f2 l[q].f3 l[q].f4) (l[q].f0, l[q].f1, l[q].f2, l[q].f3, l[q].f4.map cvCase) := by
      have := toOp_loop l[q].f0 l[q].f1 l[q].f2 l[q].f3 l[q].f0 l[q].f1 l[q].f2 l[q].f3 l[q].f4 (hc _ (List.getElem_mem hlt)) _ 0 rfl (by omega)
      exact Ev.congr (fun k => by unfold watchbilllaw5_To.f; rfl) this
    refine Ev.step (fun k => by rw [watchbilllaw5_ToAll.l0, if_pos (by omega), if_pos (by omega), hr]) (Ev.bind hop ?_)
    refine Ev.congr (fun k => ?_) hi
    rw [if_pos (by rw [List.length_map, List.length_take]; omega), w1 (by omega), List.take_succ_eq_append_getElem hlt, List.map_append]
    rfl
theorem toOps_ev (l : List S62) (hn : l.length ≤ 60) (hc : ∀ o ∈ l, o.f4.length ≤ 20) : Ev (fun k => watchbilllaw5_ToAll.f k l) (l.map cvOp) := toOps_loop l hn hc _ 0 rfl (by omega)
end Go.Proofs.Ytjnhahdelipebaa.Nest
namespace Go.Proofs.Ytjnhahdelipebaa.Nest
set_option linter.unusedVariables false
set_option linter.unusedSimpArgs false
open Go.RowKit Go.Proofs.Ytjnhahdelipebaa.XA Go.Proofs.Ytjnhahdelipebaa.Prog Go.Proofs.YtjnhahdelipebaaW.PrintWords Go.Proofs.YtjnhahdelipebaaW.PrintLast Go.Proofs.YtjnhahdelipebaaW.PrintMore
theorem opTP_cv (o : S62) : opTP (cvOp o) = opTR o := by
  unfold opTP opTR cvOp
  simp only [List.map_map]
  rfl
theorem map_cv (l : List S62) : (l.map cvOp).map opTP = l.map opTR := by
  rw [List.map_map]
  apply List.map_congr_left
  intro o _
  exact opTP_cv o
/-- What CheckProg takes, in all that is used of it. -/
structure Taken (l out : List S62) : Prop where
  flat : FlatR kdR nmR 3 l out
  ops : ∀ o ∈ l, chkOpT (opTR o) = 0
  len : l.length ≤ 48
  order : tRun (l.map opTR) [] [] = some ([], [])
theorem taken_of {l : List S62} (h : (chkProg (l.map opTR)).2 = 0) : ∃ out, Taken l out := by
  obtain ⟨h1, h2, out, h3⟩ := chk_flat kdR nmR opTR (fun _ => rfl) (fun _ => rfl) l h
  exact ⟨out, h3, h2, h1, chk_order h⟩
theorem Taken.prog {l out : List S62} (h : Taken l out) : FlatR kdP nmP 3 (l.map cvOp) (out.map cvOp) := h.flat.map cvOp (fun _ => rfl) (fun _ => rfl)
theorem Taken.runs {l out : List S62} (h : Taken l out) : hRun ((out.map cvOp).map opTP) [] = some [] := by
  rw [map_cv]
  exact (flat_order opTR (fun _ => rfl) h.flat [] [] [] [] h.order).2
theorem run_le {o : S62} (h : chkOpT (opTR o) = 0) : 0 ≤ runW (cvOp o) ∧ runW (cvOp o) ≤ 1000 := by
  unfold runW
  split
  · rename_i h1
    have h1' : o.f0 = 1 := h1
    unfold chkOpT chkOp leastN mostN opTR at h
    simp only [h1'] at h
    change 0 ≤ o.f1 ∧ o.f1 ≤ 1000
    (repeat' split at h) <;> first | (exact absurd h (by decide)) | omega
  · omega
theorem sum_le : ∀ (l : List S52), (∀ o ∈ l, 0 ≤ runW o ∧ runW o ≤ 1000) → 0 ≤ sumW runW l ∧ sumW runW l ≤ 1000 * l.length
  | [], _ => by simp [sumW]
  | o :: l, h => by
    have h1 := h o List.mem_cons_self
    have h2 := sum_le l (fun x hx => h x (List.mem_cons_of_mem _ hx))
    rw [sumW_cons, List.length_cons]
    push_cast
    omega
theorem Taken.runOk {l out : List S62} (h : Taken l out) : ∀ o ∈ l.map cvOp, 0 ≤ runW o ∧ runW o ≤ 1000 := fun o ho => by
  obtain ⟨y, hy, rfl⟩ := List.mem_map.1 ho
  exact run_le (h.ops y hy)
theorem Taken.outOk {l out : List S62} (h : Taken l out) : ∀ o ∈ out.map cvOp, 0 ≤ runW o ∧ runW o ≤ 1000 := fun o ho => h.runOk o (h.prog.mem o ho).1
theorem Taken.plain {l out : List S62} (h : Taken l out) : ∀ o ∈ out.map cvOp, o.f0 ≠ 8 ∧ o.f0 ≠ 9 := fun o ho => (h.prog.mem o ho).2
theorem Taken.append {l out m mo : List S62} (h : Taken l out) (k : Taken m mo) (h48 : l.length + m.length ≤ 48) : Taken (l ++ m) (out ++ mo) :=
  ⟨h.flat.append _ _ k.flat, fun o ho => by rcases List.mem_append.1 ho with ho | ho; exact h.ops o ho; exact k.ops o ho, by simpa using h48, by rw [List.map_append, tRun_append, h.order]; exact k.order⟩
theorem Taken.steps {l out : List S62} (h : Taken l out) (h512 : out.length ≤ 1000000) (k : Nat) : prog_Steps.f k (l.map cvOp) = some (out.length : Int) := by
  unfold prog_Steps.f
  rw [if_pos (by rw [List.length_map]; have := h.len; omega), steps_flat h.prog (by omega) (by rw [List.length_map]; omega), List.length_map]
theorem Taken.cost {l out : List S62} (h : Taken l out) (h512 : out.length ≤ 1000000) (k : Nat) : prog_Cost.f k (l.map cvOp) = some (sumW runW (out.map cvOp)) := by
  unfold prog_Cost.f
  have hs := sum_le _ h.outOk
  rw [List.length_map] at hs
  rw [if_pos (by rw [List.length_map]; have := h.len; omega), cost_flat h.prog (by omega) (fun o ho => (h.runOk o ho).1) (by omega)]
theorem Taken.waits {l out : List S62} (h : Taken l out) : prog_Waits.f (l.map cvOp) = some ((l.map cvOp).any waitsO) := by
  unfold prog_Waits.f
  rw [if_pos (by rw [List.length_map]; have := h.len; omega)]
theorem Taken.section {l out : List S62} (h : Taken l out) (h512 : out.length ≤ 1000000) (x : Int) : Ev (fun k => prog_Section.f k (l.map cvOp) x) (secL x (out.map cvOp)) :=
  section_flat x _ _ (flat_prog h.prog (by rw [List.length_map]; have := h.len; omega) (by rw [List.length_map]; omega)) (by rw [List.length_map]; omega)
theorem Taken.check {l out : List S62} (h : Taken l out) (h512 : out.length ≤ 512) : prog_Check.f (l.map cvOp) = some (0, 0) := by
  unfold prog_Check.f chkProgP
  rw [map_cv, List.length_map, if_neg (by have := h.len; omega), badOp_none _ 0 (fun o ho => by obtain ⟨y, hy, rfl⟩ := List.mem_map.1 ho; exact h.ops y hy), runQ_tRun _ 0 [] [] h.order, steps_flat h.prog (by omega) (by rw [List.length_map]; omega), List.length_map]
  simp only [Option.getD_none]
  rw [if_neg (by omega)]
/-- The law: check, cost, steps, section, waits. -/
theorem flat_both {la oa lb ob : List S62} (ha : Taken la oa) (hb : Taken lb ob) (x : Int) :
    sumW runW ((oa ++ ob).map cvOp) = sumW runW (oa.map cvOp) + sumW runW (ob.map cvOp) ∧ secL x ((oa ++ ob).map cvOp) = mx (secL x (oa.map cvOp)) (secL x (ob.map cvOp)) ∧ ((la ++ lb).map cvOp).any waitsO = ((la.map cvOp).any waitsO || (lb.map cvOp).any waitsO) := by
  refine ⟨by rw [List.map_append, sumW_append], ?_, by rw [List.map_append, List.any_append]⟩
  rw [List.map_append]
  exact sec_append x _ _ ha.plain ha.runs (sec_nonneg x _ _ (Int.le_refl _))
end Go.Proofs.Ytjnhahdelipebaa.Nest
