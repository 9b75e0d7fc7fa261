
/- waitq.Without. -/
import Derived.Test.YtjiepoeeahnbgaaWaitDelW
namespace Go.Proofs.Ytjiepoeeahnbgaa
set_option linter.unusedVariables false
set_option linter.unusedSimpArgs false
open Go.RowKit
abbrev isT (t : Int) : Wt → Bool := fun x => x.task == t
set_option maxHeartbeats 4000000 in
set_option maxRecDepth 100000 in
theorem without_any (a : Option Addr) (cap : Nat) (q : List Wt) (t : Int) (w : World) (hq : RdW w (.slice a q.length cap) q) (hm : q.length ≤ 100000) :
    Calls Try.prog 44 #[.slice a q.length cap, .int .i64 t] w fun e w' => ∃ a' c', e = .returned (.slice a' (keepW (isT t) q).length c') ∧ w'.ownsRow w.heap.size 68 4 (.slice a' (keepW (isT t) q).length c') (keepW (isT t) q).length ((keepW (isT t) q).flatMap Wt.enc) ∧ Upd [] w w' := by
  have hu0 : Upd [] w (w.alloc (.cells #[.int .i64 t] 3)) := (Upd.refl _ _).alloc _
  have hc : (w.alloc (.cells #[.int .i64 t] 3)).cell? ⟨w.heap.size, 0, none⟩ = some (.int .i64 t) := by rw [World.cell?_alloc_at _ _ _ _ rfl]; rfl
  have hmf : ∀ (fn : Fn) (first cap : Array Value) (w : World), (Instr.makeFunc fn first cap).run Try.prog w = .ok (.func fn first cap) w := fun _ _ _ _ => rfl
  have HC := Lib.hid hc
  have HU0 := Lib.hid hu0
  have HCQ := Lib.hid (cloneQ_any a cap q (w.alloc (.cells #[.int .i64 t] 3)) (hq.keep0 hu0) (by omega))
  clear hc hu0
  go_enter Try.func44, Try.ntmps44
  go_wp2_with fail
  refine HCQ.out.mono ?_
  rintro e w1 ⟨a1, c1, rfl, hown1, hu1⟩
  have hs1 : w.heap.size < (w.alloc (.cells #[.int .i64 t] 3)).heap.size := by simp
  cases hk : idxOf (isT t) q with
  | none =>
    have hd := deleteFunc_none w.heap.size (isT t) a1 c1 q w1 (Rd.of_own hown1) hm hk (fun x W hu => withoutClosure_any x _ t W ((hu1.trans0 hu).cell HC.out (by simp)))
    have HD := Lib.hid hd
    have HK := Lib.hid (keepW_all (isT t) q hk)
    clear hd hk
    go_wp2_with fail
    refine HD.out.mono ?_
    rintro e w2 ⟨rfl, hu2⟩
    go_wp2
    go_ret
    rw [HK.out]
    exact ⟨a1, c1, rfl, own_lower (own_keep0 hown1 hu2) (by omega), (HU0.out.trans0 hu1).trans0 hu2⟩
  | some k =>
    have hql : 0 < q.length := by
      rw [idxOf, List.findIdx?_eq_some_iff_getElem] at hk
      have := hk.1
      omega
    obtain ⟨g, rfl⟩ : ∃ g, a1 = some ⟨g, 0, none⟩ := by
      rcases hown1.2 with ⟨_, h0⟩ | ⟨g, c, cur, he, _⟩
      · omega
      · injection he with h1
        exact ⟨g, h1⟩
    have hgb := hown1.lt g rfl
    have hd := deleteFunc_some w.heap.size (isT t) g c1 _ k q w1 hown1 hm hk (fun x W hu => withoutClosure_any x _ t W (hu.cell (hu1.cell HC.out (by simp)) (by simp; omega)))
    have HD := Lib.hid hd
    clear hd hk
    go_wp2_with fail
    refine HD.out.mono ?_
    rintro e w2 ⟨rfl, hown2, hu2⟩
    go_wp2
    go_ret
    exact ⟨_, c1, rfl, own_lower hown2 (by omega), (HU0.out.trans0 hu1).trans hu2 (fun x hx hl => by simp at hx; omega)⟩
end Go.Proofs.Ytjiepoeeahnbgaa
