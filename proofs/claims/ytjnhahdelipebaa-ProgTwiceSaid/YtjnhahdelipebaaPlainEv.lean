/- What the printed functions of package prog tell of a program without loops, in plain words. -/
import Derived.Test.YtjnhahdelipebaaXAx3
import Derived.Test.YtjnhahdelipebaaXAx4
import Derived.Test.YtjnhahdelipebaaXAx4
import Derived.Test.YtjnhahdelipebaaXAx5
namespace Go.Proofs.Ytjnhahdelipebaa.Prog
set_option linter.unusedVariables false
set_option linter.unusedSimpArgs false
open Go.RowKit Go.Proofs.Ytjnhahdelipebaa.XA Go.Proofs.YtjnhahdelipebaaW.PrintWords Go.Proofs.YtjnhahdelipebaaW.PrintLast Go.Proofs.YtjnhahdelipebaaW.PrintMore
theorem w64 {x : Int} (h0 : -9223372036854775808 ≤ x) (h1 : x ≤ 9223372036854775807) : wrap64 x = x := by unfold wrap64; omega
theorem w1 {q : Nat} (h : q ≤ 9223372036854775806) : wrap64 ((q : Int) + 1) = ((q + 1 : Nat) : Int) := by rw [w64 (by omega) (by omega)]; omega
theorem rd_get (l : List S52) (q : Nat) (h : q < l.length) : rd_T52 l q = l[q] := by simp [rd_T52, List.getD, h]

theorem flat_loop (l : List S52) (hl : ∀ o ∈ l, o.f0 ≠ 8) (hn : l.length ≤ 1000000) : ∀ d q : Nat, l.length - q = d → q ≤ l.length → Ev (fun k => prog_Flat.l0 k l (l.take q) q) l := by
  intro d
  induction d with
  | zero =>
    intro q hd hq
    refine Ev.step (f := fun _ => some _) (fun k => ?_) (Ev.now _)
    rw [prog_Flat.l0, if_neg (by omega), List.take_of_length_le (by omega)]
  | succ d ih =>
    intro q hd hq
    have hlt : q < l.length := by omega
    refine Ev.step (fun k => ?_) (ih (q + 1) (by omega) (by omega))
    have h8 := hl _ (List.getElem_mem hlt)
    rw [← rd_get l q hlt] at h8
    rw [prog_Flat.l0, if_pos (by omega), if_pos (by omega), if_neg h8, if_pos (by rw [List.length_take]; omega), w1 (by omega)]
    congr 1
    rw [List.take_succ_eq_append_getElem hlt, ← rd_get l q hlt]
theorem flat_ev (l : List S52) (hl : ∀ o ∈ l, o.f0 ≠ 8) (hn : l.length ≤ 1000000) : Ev (fun k => prog_Flat.f k l) l :=
  Ev.step (fun k => by rw [prog_Flat.f]; rfl) (flat_loop l hl hn _ 0 rfl (by omega))

/-- One op, as Section sees it: the greatest, now, held. -/
def secS (lock : Int) (s : Int × Int × Bool) (o : S52) : Int × Int × Bool :=
  if o.f0 = 2 ∧ o.f1 = lock then (s.1, 0, true) else if o.f0 = 3 ∧ o.f1 = lock then (s.1, s.2.1, false) else if o.f0 = 1 ∧ s.2.2 = true then (mx s.1 (wrap64 (s.2.1 + o.f1)), wrap64 (s.2.1 + o.f1), true) else s
theorem sec_step (k : Nat) (x b n : Int) (h : Bool) (l : List S52) (q : Nat) (hq : q < l.length) (hn : l.length ≤ 1000000000) :
    prog_Section.l0 (k + 1) x b n h l (l.length : Int) q = prog_Section.l0 k x (secS x (b, n, h) (rd_T52 l q)).1 (secS x (b, n, h) (rd_T52 l q)).2.1 (secS x (b, n, h) (rd_T52 l q)).2.2 l (l.length : Int) ((q + 1 : Nat) : Int) := by
  rw [prog_Section.l0, if_pos (by omega), if_pos (by omega), if_pos (by omega), w1 (by omega)]
  generalize rd_T52 l q = o
  unfold secS
  by_cases h2 : o.f0 = 2
  · have h3 : ¬ o.f0 = 3 := by omega
    have h1 : ¬ o.f0 = 1 := by omega
    have n3 : ¬ (o.f0 = 3 ∧ o.f1 = x) := fun c => h3 c.1
    have n1 : ¬ (o.f0 = 1 ∧ h = true) := fun c => h1 c.1
    rw [if_pos h2]
    by_cases hx : o.f1 = x
    · have p2 : o.f0 = 2 ∧ o.f1 = x := ⟨h2, hx⟩
      rw [if_pos hx, if_pos p2]
    · have n2 : ¬ (o.f0 = 2 ∧ o.f1 = x) := fun c => hx c.2
      rw [if_neg hx, if_neg h3, if_neg h1, if_neg n2, if_neg n3, if_neg n1]
  · have n2 : ¬ (o.f0 = 2 ∧ o.f1 = x) := fun c => h2 c.1
    rw [if_neg h2, if_neg n2]
    by_cases h3 : o.f0 = 3
    · have h1 : ¬ o.f0 = 1 := by omega
      have n1 : ¬ (o.f0 = 1 ∧ h = true) := fun c => h1 c.1
      rw [if_pos h3]
      by_cases hx : o.f1 = x
      · have p3 : o.f0 = 3 ∧ o.f1 = x := ⟨h3, hx⟩
        rw [if_pos hx, if_pos p3]
      · have n3 : ¬ (o.f0 = 3 ∧ o.f1 = x) := fun c => hx c.2
        rw [if_neg hx, if_neg h1, if_neg n3, if_neg n1]
    · have n3 : ¬ (o.f0 = 3 ∧ o.f1 = x) := fun c => h3 c.1
      rw [if_neg h3, if_neg n3]
      by_cases h1 : o.f0 = 1
      · rw [if_pos h1]
        cases h with
        | true => rw [if_pos rfl, if_pos (show o.f0 = 1 ∧ true = true from ⟨h1, rfl⟩)]
        | false => rw [if_neg (show ¬ false = true by decide), if_neg (show ¬ (o.f0 = 1 ∧ false = true) from fun c => by cases c.2)]
      · have n1 : ¬ (o.f0 = 1 ∧ h = true) := fun c => h1 c.1
        rw [if_neg h1, if_neg n1]
theorem sec_loop (x : Int) (l : List S52) (hn : l.length ≤ 1000000000) : ∀ (d q : Nat) (s : Int × Int × Bool), l.length - q = d → q ≤ l.length →
    Ev (fun k => prog_Section.l0 k x s.1 s.2.1 s.2.2 l (l.length : Int) q) ((l.drop q).foldl (secS x) s).1 := by
  intro d
  induction d with
  | zero =>
    intro q s hd hq
    refine Ev.step (f := fun _ => some _) (fun k => ?_) (Ev.now _)
    rw [prog_Section.l0, if_neg (by omega), List.drop_of_length_le (by omega)]
    rfl
  | succ d ih =>
    intro q s hd hq
    have hlt : q < l.length := by omega
    refine Ev.step (fun k => sec_step k x s.1 s.2.1 s.2.2 l q hlt hn) ?_
    have hi := ih (q + 1) (secS x s (rd_T52 l q)) (by omega) (by omega)
    rw [List.drop_eq_getElem_cons hlt, List.foldl_cons, ← rd_get l q hlt]
    exact hi
/-- How long x is held at most within a row of ops. -/
def secL (x : Int) (l : List S52) : Int := (l.foldl (secS x) (0, 0, false)).1
theorem section_flat (x : Int) (p l : List S52) (hf : Ev (fun k => prog_Flat.f k p) l) (hn : l.length ≤ 1000000000) : Ev (fun k => prog_Section.f k p x) (secL x l) :=
  Ev.bind (f := fun k t => prog_Section.l0 k x 0 0 false t (t.length : Int) 0) hf (sec_loop x l hn _ 0 (0, 0, false) rfl (by omega))
theorem section_ev (x : Int) (l : List S52) (hl : ∀ o ∈ l, o.f0 ≠ 8) (hn : l.length ≤ 1000000) : Ev (fun k => prog_Section.f k l x) (secL x l) := section_flat x l l (flat_ev l hl hn) (by omega)

theorem each_plain (see : S52 → Int → Int → Int) : ∀ (l : List S52) (n : Int), (∀ o ∈ l, o.f0 ≠ 8) → eachF see l [1] n = l.foldl (fun n o => if o.f0 = 9 then n else see o 1 n) n
  | [], n, _ => rfl
  | o :: l, n, h => by
    have h8 := h o List.mem_cons_self
    have ih := fun n => each_plain see l n (fun x hx => h x (List.mem_cons_of_mem _ hx))
    rw [eachF, if_neg h8, List.foldl_cons]
    by_cases h9 : o.f0 = 9
    · rw [if_pos h9, if_pos h9]
      exact ih n
    · rw [if_neg h9, if_neg h9]
      exact ih _
/-- What is run, of a row without loops. -/
def costL (l : List S52) : Int := l.foldl (fun n o => if o.f0 = 1 then wrap64 (n + wrap64 (o.f1 * 1)) else n) 0
theorem cost_ev (l : List S52) (hl : ∀ o ∈ l, o.f0 ≠ 8) (hn : l.length ≤ 1000000) : Ev (fun k => prog_Cost.f k l) (costL l) := by
  have e : eachF costSee l [1] 0 = costL l := by
    rw [each_plain _ _ _ hl]
    unfold costL
    congr 1
    funext n o
    unfold costSee
    split
    · rw [if_neg (by omega)]
    · rfl
  refine Ev.congr (f := fun _ => some (costL l)) (fun k => ?_) (Ev.now _)
  unfold prog_Cost.f
  rw [if_pos (by omega), e]
theorem locks_ev (l : List S52) (hn : l.length ≤ 1000000) (h12 : (locksL l).length ≤ 12) (hp : (locksL l).Pairwise (· < ·)) : Ev (fun k => prog_Locks.f k l) (locksL l) := by
  refine Ev.congr (f := fun _ => some (locksL l)) (fun k => ?_) (Ev.now _)
  unfold prog_Locks.f
  rw [if_pos ⟨by omega, h12, hp⟩]
end Go.Proofs.Ytjnhahdelipebaa.Prog
