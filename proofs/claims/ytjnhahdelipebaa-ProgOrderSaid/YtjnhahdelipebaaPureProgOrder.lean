/- What is not in order is told at its place: each of the few ways, reckoned out. -/
import Derived.Test.YtjnhahdelipebaaXAx5
namespace Go.Proofs.Ytjnhahdelipebaa.Pure
set_option linter.unusedVariables false
set_option linter.unusedSimpArgs false
open Go.RowKit Go.Proofs.Ytjnhahdelipebaa.XA Go.Proofs.YtjnhahdelipebaaW.PrintWords Go.Proofs.YtjnhahdelipebaaW.PrintLast
theorem tmod6 (x : Int) : Int.tmod (Int.tmod x 6) 6 = Int.tmod x 6 := by
  rw [Int.tmod_tmod_of_dvd]
  exact Int.dvd_refl 6
theorem po_congr (x0 : Int) : ∀ k x5 x6 x7, watchbilllaw6_ProgOrder.l0 k x0 x5 x6 x7 = watchbilllaw6_ProgOrder.l0 k (Int.tmod x0 6) x5 x6 x7
  | 0, _, _, _ => rfl
  | k + 1, x5, x6, x7 => by
    rw [watchbilllaw6_ProgOrder.l0, watchbilllaw6_ProgOrder.l0, tmod6, po_congr x0 k]
def poAll (r : Int) : Bool := (List.range 20).all fun k => (watchbilllaw6_ProgOrder.l0 30 r [] (k : Int) 0).getD false
theorem po0 : poAll 0 = true := by kernel_rfl
theorem po1 : poAll 1 = true := by kernel_rfl
theorem po2 : poAll 2 = true := by kernel_rfl
theorem po3 : poAll 3 = true := by kernel_rfl
theorem po4 : poAll 4 = true := by kernel_rfl
theorem po5 : poAll 5 = true := by kernel_rfl
theorem getD_true {o : Option Bool} (h : o.getD false = true) : o = some true := by
  cases o with
  | none => cases h
  | some b => cases b <;> simp_all
theorem ProgOrder : watchbilllaw6_ProgOrder.Pure := by
  intro a0 a1 h0 h1
  refine ⟨30, ?_⟩
  have b0 := Go.Proofs.YtjnhahdelipebaaH.wf_u8 h0
  have b1 := Go.Proofs.YtjnhahdelipebaaH.wf_u8 h1
  have e1 : Int.tmod a1 20 = a1 % 20 := Int.tmod_eq_emod_of_nonneg b1.1
  have e0 : Int.tmod a0 6 = a0 % 6 := Int.tmod_eq_emod_of_nonneg b0.1
  show (if true = true then (watchbilllaw6_ProgOrder.l0 30 a0 [] (wrap64 (Int.tmod a1 20)) 0) else some false) = some true
  rw [if_pos rfl, po_congr, e0, e1]
  have hw : wrap64 (a1 % 20) = ((a1 % 20).toNat : Int) := by
    unfold wrap64
    omega
  rw [hw]
  have hk : (a1 % 20).toNat < 20 := by omega
  have all : ∀ r : Int, poAll r = true → watchbilllaw6_ProgOrder.l0 30 r [] ((a1 % 20).toNat : Int) 0 = some true := by
    intro r hr
    exact getD_true (List.all_eq_true.1 hr _ (List.mem_range.2 hk))
  rcases (show a0 % 6 = 0 ∨ a0 % 6 = 1 ∨ a0 % 6 = 2 ∨ a0 % 6 = 3 ∨ a0 % 6 = 4 ∨ a0 % 6 = 5 by omega) with h | h | h | h | h | h <;> rw [h]
  · exact all 0 po0
  · exact all 1 po1
  · exact all 2 po2
  · exact all 3 po3
  · exact all 4 po4
  · exact all 5 po5
end Go.Proofs.Ytjnhahdelipebaa.Pure
