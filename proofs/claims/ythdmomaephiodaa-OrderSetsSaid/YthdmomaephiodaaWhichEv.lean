/- What the printed functions of package order tell, in plain words. -/
import Derived.Test.YthdmomaephiodaaPriosEv
import Derived.Test.YthdmomaephiodaaXAx1
namespace Go.Proofs.Ythdmomaephiodaa.Pure
set_option linter.unusedVariables false
set_option linter.unusedSimpArgs false
open Go.RowKit Go.Proofs.Ythdmomaephiodaa.XA Go.Proofs.YthdmomaephiodaaW.PrintWords Go.Proofs.YthdmomaephiodaaW.PrintLast
open Go.Proofs.YthdmomaephiodaaH (prios dlt prios_get prios_len ahead_lt ahead_iff)

def cmpP (x y : Int) : Int := if x < y then -1 else if x > y then 1 else 0
theorem cmp_f (x y : Int) : cmp_Compare_int.f x y = some (cmpP x y) := by
  unfold cmp_Compare_int.f cmp_isNaN_int.f cmpP
  simp
  split <;> (try split) <;> simp_all
/-- Those whose number lies so to one's. -/
def whichL (p : List Int) (i : Nat) (s : Int) : List Nat := (List.range p.length).filter fun k => decide (cmpP (p.getD k 0) (p.getD i 0) = s)
def castL (l : List Nat) : List Int := l.map fun (k : Nat) => (k : Int)

theorem which_loop (p : List Int) (i : Nat) (s : Int) (hi : i < p.length) (hn : p.length ≤ 1000000) : ∀ d q : Nat, p.length - q = d → q ≤ p.length →
    Ev (fun k => order_which.l0 k i s p (castL ((List.range q).filter fun k => decide (cmpP (p.getD k 0) (p.getD i 0) = s))) (p.length : Int) q) (castL (whichL p i s)) := by
  intro d
  induction d with
  | zero =>
    intro q hd hq
    obtain rfl : q = p.length := by omega
    refine Ev.step (f := fun _ => some _) (fun k => ?_) (Ev.now _)
    rw [order_which.l0, if_neg (by omega)]
    rfl
  | succ d ih =>
    intro q hd hq
    have h := ih (q + 1) (by omega) (by omega)
    refine Ev.step (fun k => ?_) h
    rw [order_which.l0, if_pos (by omega), if_pos (by omega), if_pos (by omega), if_pos (by omega), if_pos (by omega), cmp_f, rd_nat, rd_nat, w1 (by omega)]
    simp only [Option.bind_some]
    rw [List.range_succ, List.filter_append]
    by_cases hc : cmpP (p.getD q 0) (p.getD i 0) = s
    · rw [if_pos hc, if_pos]
      · simp only [List.filter_cons, hc, decide_true, if_true, List.filter_nil, castL, List.map_append, List.map_cons, List.map_nil]
      · have : ((List.range q).filter fun k => decide (cmpP (p.getD k 0) (p.getD i 0) = s)).length ≤ q := by
          have := List.length_filter_le (fun k => decide (cmpP (p.getD k 0) (p.getD i 0) = s)) (List.range q)
          simpa using this
        simp only [castL, List.length_map]
        omega
    · rw [if_neg hc]
      have hd2 : decide (cmpP (p.getD q 0) (p.getD i 0) = s) = false := decide_eq_false hc
      simp only [List.filter_cons, hd2, Bool.false_eq_true, if_false, List.filter_nil, List.append_nil]

theorem which_ev (a : Int) (cs : List S66) (ts : List S48) (h : 1 ≤ ts.length ∧ ts.length < 20) (i : Nat) (hi : i < ts.length) (s : Int) :
    Ev (fun k => order_which.f k a cs ts i s) (castL (whichL (prios (dls ts)) i s)) := by
  have hl : (prios (dls ts)).length = ts.length := by rw [prios_len, dls_len]
  refine Ev.congr (f := fun k => order_which.j0 k i s (prios (dls ts)) false) (fun k => ?_) ?_
  · unfold order_which.f
    rw [prios_f a cs ts h]
    simp only [Option.bind_some]
    rw [if_neg (by omega)]
    congr 1
    simp only [decide_eq_false_iff_not]
    omega
  · refine Ev.step (fun k => by rw [order_which.j0, if_neg (by decide)]; rfl) (which_loop _ i s (by omega) (by omega) _ 0 rfl (by omega))
theorem which_out (a : Int) (cs : List S66) (ts : List S48) (h : 1 ≤ ts.length ∧ ts.length < 20) (i : Int) (hi : i < 0 ∨ (ts.length : Int) ≤ i) (s : Int) :
    Ev (fun k => order_which.f k a cs ts i s) [] := by
  have hl : (prios (dls ts)).length = ts.length := by rw [prios_len, dls_len]
  refine Ev.congr (f := fun k => order_which.j0 k i s (prios (dls ts)) true) (fun k => ?_) ?_
  · unfold order_which.f
    rw [prios_f a cs ts h]
    simp only [Option.bind_some]
    by_cases h0 : i < 0
    · rw [if_pos h0]
    · rw [if_neg h0]
      congr 1
      simp only [decide_eq_true_eq]
      omega
  · exact Ev.step (f := fun _ => some []) (fun k => by rw [order_which.j0, if_pos rfl]) (Ev.now _)
theorem lower_ev (a : Int) (cs : List S66) (ts : List S48) (h : 1 ≤ ts.length ∧ ts.length < 20) (i : Nat) (hi : i < ts.length) :
    Ev (fun k => order_Lower.f k a cs ts i) (castL (whichL (prios (dls ts)) i (-1))) := Ev.bind (which_ev a cs ts h i hi (-1)) (Ev.now _)
theorem lower_out (a : Int) (cs : List S66) (ts : List S48) (h : 1 ≤ ts.length ∧ ts.length < 20) (i : Int) (hi : i < 0 ∨ (ts.length : Int) ≤ i) :
    Ev (fun k => order_Lower.f k a cs ts i) [] := Ev.bind (which_out a cs ts h i hi (-1)) (Ev.now _)

/-- Who is ahead by priority is ahead by deadline. -/
theorem whichL_high (ds : List Int) (i : Nat) (hi : i < ds.length) : whichL (prios ds) i 1 = (List.range ds.length).filter fun k => dlt ds k i := by
  unfold whichL
  rw [prios_len]
  refine List.filter_congr fun k hk => ?_
  have hk' : k < ds.length := by simpa using hk
  rw [prios_get ds k hk', prios_get ds i hi]
  by_cases e : k = i
  · subst e
    rw [Go.Proofs.YthdmomaephiodaaH.dlt_irrefl]
    simp [cmpP]
  · have h1 := ahead_iff ds k i hk' hi e
    rw [Bool.eq_iff_iff, ← h1]
    simp only [cmpP, decide_eq_true_eq]
    split
    · simp; omega
    · split <;> simp <;> omega
theorem whichL_low (ds : List Int) (i : Nat) (hi : i < ds.length) : whichL (prios ds) i (-1) = (List.range ds.length).filter fun k => dlt ds i k := by
  unfold whichL
  rw [prios_len]
  refine List.filter_congr fun k hk => ?_
  have hk' : k < ds.length := by simpa using hk
  rw [prios_get ds k hk', prios_get ds i hi]
  by_cases e : i = k
  · subst e
    rw [Go.Proofs.YthdmomaephiodaaH.dlt_irrefl]
    simp [cmpP]
  · have h1 := ahead_iff ds i k hi hk' e
    rw [Bool.eq_iff_iff, ← h1]
    simp only [cmpP, decide_eq_true_eq]
    split
    · simp; omega
    · split <;> simp <;> omega
end Go.Proofs.Ythdmomaephiodaa.Pure
