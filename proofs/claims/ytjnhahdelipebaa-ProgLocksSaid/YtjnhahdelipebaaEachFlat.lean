/- What prog.Steps and prog.Cost tell of loops within one another; what prog.Check looks at first. -/
import Derived.Test.YtjnhahdelipebaaFlatProg
import Derived.Test.YtjnhahdelipebaaPlainEv
import Derived.Test.YtjnhahdelipebaaXAx2
import Derived.Test.YtjnhahdelipebaaXAx2
import Derived.Test.YtjnhahdelipebaaXAx4
namespace Go.Proofs.Ytjnhahdelipebaa.Nest
set_option linter.unusedVariables false
set_option linter.unusedSimpArgs false
open Go.RowKit Go.Proofs.Ytjnhahdelipebaa.XA Go.Proofs.YtjnhahdelipebaaW.PrintWords Go.Proofs.YtjnhahdelipebaaW.PrintLast Go.Proofs.YtjnhahdelipebaaW.PrintMore
theorem eachF_eq (see : S52 → Int → Int → Int) : ∀ (l : List S52) (ts : List Int) (n : Int), eachF see l ts n = eachS see l ts n
  | [], _, _ => rfl
  | o :: l, ts, n => by
    rw [eachF, eachS, eachF_eq see l, eachF_eq see l, eachF_eq see l]
    rfl
def sumW (wt : S52 → Int) (l : List S52) : Int := (l.map wt).sum
theorem sumW_nil (wt : S52 → Int) : sumW wt [] = 0 := rfl
theorem sumW_cons (wt : S52 → Int) (o : S52) (l : List S52) : sumW wt (o :: l) = wt o + sumW wt l := by simp [sumW]
theorem sumW_append (wt : S52 → Int) (a b : List S52) : sumW wt (a ++ b) = sumW wt a + sumW wt b := by simp [sumW]
theorem sumW_rep (wt : S52 → Int) (n : Nat) (l : List S52) : sumW wt (rep n l) = n * sumW wt l := by
  induction n with
  | zero => simp [rep, sumW]
  | succ n ih => rw [rep_succ, sumW_append, ih]; simp only [Int.natCast_add, Int.add_mul]; simp
theorem sumW_nonneg (wt : S52 → Int) (l : List S52) (h : ∀ o ∈ l, 0 ≤ wt o) : 0 ≤ sumW wt l := by
  induction l with
  | nil => exact Int.le_refl _
  | cons o l ih =>
    rw [sumW_cons]
    have := h o (by simp)
    have := ih (fun o' h' => h o' (List.mem_cons_of_mem _ h'))
    omega
theorem lastS_snoc (ts : List Int) (x : Int) : lastS (ts ++ [x]) = x := by simp [lastS, List.getD]
theorem take_snoc (ts : List Int) (x : Int) (h : 1 ≤ ts.length) : (ts ++ [x]).take (max ((ts ++ [x]).length - 1) 1) = ts := by
  rw [List.length_append, show max (ts.length + [x].length - 1) 1 = ts.length by simp; omega]
  simp
/-- Each op is seen as often as it is done. -/
theorem each_flat (see : S52 → Int → Int → Int) (wt : S52 → Int) (hsee : ∀ o t n, 0 ≤ wt o → 0 ≤ n → 0 ≤ t → n + t * wt o ≤ 4611686018427387904 → see o t n = n + t * wt o) {d : Nat} {l out : List S52} (h : FlatR kdP nmP d l out) :
    ∀ (rest : List S52) (ts : List Int) (n : Int), (∀ o ∈ l, 0 ≤ wt o) → 1 ≤ ts.length → 0 ≤ n → 1 ≤ lastS ts → n + lastS ts * sumW wt out ≤ 4611686018427387904 → lastS ts * 32 ^ d ≤ 4611686018427387904 → eachS see (l ++ rest) ts n = eachS see rest ts (n + lastS ts * sumW wt out) := by
  induction h with
  | nil d =>
    intro rest ts n hw hts hn ht hb hd
    simp [sumW_nil]
  | op d o l out h8 h9 hf ih =>
    intro rest ts n hw hts hn ht hb hd
    have hwo := hw o (by simp)
    have hws : 0 ≤ sumW wt out := sumW_nonneg wt out (fun x hx => hw x (List.mem_cons_of_mem _ (hf.mem x hx).1))
    have hp : 0 ≤ lastS ts * sumW wt out := Int.mul_nonneg (by omega) hws
    have hp2 : 0 ≤ lastS ts * wt o := Int.mul_nonneg (by omega) hwo
    rw [sumW_cons, Int.mul_add] at hb ⊢
    rw [List.cons_append, eachS, if_neg h8, if_neg h9, hsee o _ n hwo hn (by omega) (by omega), ih rest ts _ (fun x hx => hw x (List.mem_cons_of_mem _ hx)) hts (by omega) ht (by omega) hd]
    congr 1
    omega
  | loop d o e n' body bout l out h8 hn8 hn32 hb' h9 hl ih1 ih2 =>
    intro rest ts n hw hts hn ht hb hd
    have hwb : ∀ x ∈ body, 0 ≤ wt x := fun x hx => hw x (by simp [hx])
    have hwl : ∀ x ∈ l, 0 ≤ wt x := fun x hx => hw x (by simp [hx])
    have hws : 0 ≤ sumW wt out := sumW_nonneg wt out (fun x hx => hwl x (hl.mem x hx).1)
    have hwb2 : 0 ≤ sumW wt bout := sumW_nonneg wt bout (fun x hx => hwb x (hb'.mem x hx).1)
    have n8 : ¬ e.f0 = 8 := by rw [show e.f0 = 9 from h9]; decide
    have hp : 0 ≤ lastS ts * sumW wt out := Int.mul_nonneg (by omega) hws
    have e32 : (32 : Int) ^ (d + 1) = 32 ^ d * 32 := Int.pow_succ _ _
    have hpow0 : (0 : Int) < 32 ^ d := Int.pow_pos (by decide)
    have hpow : (1 : Int) ≤ 32 ^ d := by omega
    have hk : lastS ts * (n' : Int) ≤ lastS ts * 32 := Int.mul_le_mul_of_nonneg_left (by omega) (by omega)
    have hk2 : lastS ts * 32 * 32 ^ d ≤ 4611686018427387904 := by
      rw [e32] at hd
      have : lastS ts * 32 * 32 ^ d = lastS ts * (32 ^ d * 32) := by rw [Int.mul_assoc, Int.mul_comm 32]
      omega
    have hk3 : lastS ts * 32 * 1 ≤ lastS ts * 32 * 32 ^ d := Int.mul_le_mul_of_nonneg_left hpow (by omega)
    have hk1 : 1 * 1 ≤ lastS ts * (n' : Int) := Int.mul_le_mul ht (by omega) (by decide) (by omega)
    have hwr : wrap64 (lastS ts * o.f1) = lastS ts * (n' : Int) := by
      rw [show o.f1 = (n' : Int) from hn8]
      exact Prog.w64 (by omega) (by omega)
    rw [sumW_append, sumW_rep, Int.mul_add] at hb ⊢
    have hmid : lastS ts * ((n' : Int) * sumW wt bout) = lastS ts * (n' : Int) * sumW wt bout := by rw [Int.mul_assoc]
    rw [hmid] at hb ⊢
    have hpb : 0 ≤ lastS ts * (n' : Int) * sumW wt bout := Int.mul_nonneg (by omega) hwb2
    have hx1 := ih1 (e :: (l ++ rest)) (ts ++ [lastS ts * (n' : Int)]) n hwb (by simp) hn (by rw [lastS_snoc]; omega) (by rw [lastS_snoc]; omega) (by
      rw [lastS_snoc]
      have : lastS ts * (n' : Int) * 32 ^ d ≤ lastS ts * 32 * 32 ^ d := Int.mul_le_mul_of_nonneg_right hk (by omega)
      omega)
    rw [lastS_snoc] at hx1
    have hx2 := ih2 rest ts (n + lastS ts * (n' : Int) * sumW wt bout) hwl hts (by omega) ht (by omega) hd
    rw [show (o :: body ++ e :: l) ++ rest = o :: (body ++ e :: (l ++ rest)) by simp, eachS, if_pos h8, hwr, hx1, eachS, if_neg n8, if_pos h9, take_snoc ts _ hts, hx2]
    congr 1
    omega
theorem stepSee_sum (o : S52) (t n : Int) (h1 : 0 ≤ (fun _ : S52 => (1 : Int)) o) (h2 : 0 ≤ n) (h3 : 0 ≤ t) (h4 : n + t * 1 ≤ 4611686018427387904) : stepSee o t n = n + t * 1 := by
  unfold stepSee
  rw [Prog.w64 (by omega) (by omega)]
  omega
theorem sumW_one (l : List S52) : sumW (fun _ => 1) l = (l.length : Int) := by
  induction l with
  | nil => rfl
  | cons o l ih => rw [sumW_cons, ih]; simp; omega
def runW (o : S52) : Int := if o.f0 = 1 then o.f1 else 0
theorem costSee_sum (o : S52) (t n : Int) (h1 : 0 ≤ runW o) (h2 : 0 ≤ n) (h3 : 0 ≤ t) (h4 : n + t * runW o ≤ 4611686018427387904) : costSee o t n = n + t * runW o := by
  unfold costSee
  unfold runW at h1 h4 ⊢
  split
  · rename_i h
    rw [if_pos h] at h1 h4
    have : 0 ≤ t * o.f1 := Int.mul_nonneg h3 h1
    rw [Int.mul_comm o.f1 t, Prog.w64 (x := t * o.f1) (by omega) (by omega), Prog.w64 (by omega) (by omega)]
  · simp
/-- How many steps there are. -/
theorem steps_flat {d : Nat} {l out : List S52} (h : FlatR kdP nmP d l out) (hd : d ≤ 6) (ho : out.length ≤ 1000000000000) : eachS stepSee l [1] 0 = (out.length : Int) := by
  have hp : (32 : Int) ^ d ≤ 32 ^ 6 := by
    exact_mod_cast Nat.pow_le_pow_right (by decide) hd
  have := each_flat stepSee (fun _ => 1) (fun o t n a b c e => stepSee_sum o t n a b c e) h [] [1] 0 (fun _ _ => by decide) (by decide) (by decide) (by decide) (by rw [sumW_one]; simp [lastS]; omega) (by simp [lastS]; omega)
  rw [List.append_nil, sumW_one] at this
  rw [this]
  simp [eachS, lastS]
/-- How long is run. -/
theorem cost_flat {d : Nat} {l out : List S52} (h : FlatR kdP nmP d l out) (hd : d ≤ 6) (hw : ∀ o ∈ l, 0 ≤ runW o) (ho : sumW runW out ≤ 4611686018427387904) : eachF costSee l [1] 0 = sumW runW out := by
  have hp : (32 : Int) ^ d ≤ 32 ^ 6 := by
    exact_mod_cast Nat.pow_le_pow_right (by decide) hd
  have := each_flat costSee runW (fun o t n a b c e => costSee_sum o t n a b c e) h [] [1] 0 hw (by decide) (by decide) (by decide) (by simp [lastS]; omega) (by simp [lastS]; omega)
  rw [List.append_nil] at this
  rw [eachF_eq, this]
  simp [eachS, lastS]
theorem badOp_none : ∀ (l : List OpT) (i : Nat), (∀ o ∈ l, chkOpT o = 0) → badOp i l = none
  | [], _, _ => rfl
  | o :: l, i, h => by
    rw [badOp, if_pos (h o (by simp)), badOp_none l (i + 1) (fun x hx => h x (List.mem_cons_of_mem _ hx))]
end Go.Proofs.Ytjnhahdelipebaa.Nest
