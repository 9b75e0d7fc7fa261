/- waitq.Order of a queue of fewer than twenty: the walk. -/
import Derived.Test.YthchclhleppdhaaWaitOrder
namespace Go.Proofs.Ythchclhleppdhaa
set_option linter.unusedVariables false
set_option linter.unusedSimpArgs false
open Go.RowKit
/-- Who goes first: the greater priority, then who came earlier, then who stands ahead. -/
def goesW (q : List Wt) (ps : List Int) (x y : Nat) : Prop := prioOf ps (wAt q y).task < prioOf ps (wAt q x).task ∨ (prioOf ps (wAt q x).task = prioOf ps (wAt q y).task ∧ ((wAt q x).seq < (wAt q y).seq ∨ ((wAt q x).seq = (wAt q y).seq ∧ x < y)))
theorem goes_ord (q : List Wt) (ps : List Int) (N : Nat) : Ord N (cfW q ps) (goesW q ps) where
  cmp := by
    intro x y hx hy
    unfold cfW goesW orI cmpI
    generalize prioOf ps (wAt q x).task = a
    generalize prioOf ps (wAt q y).task = b
    generalize (wAt q x).seq = c
    generalize (wAt q y).seq = d
    by_cases h1 : b < a
    · rw [if_pos h1]; simp; exact .inl h1
    · rw [if_neg h1]
      by_cases h2 : a < b
      · rw [if_pos h2]; simp; omega
      · rw [if_neg h2]
        simp only [ne_eq, not_true_eq_false, if_false]
        by_cases h3 : c < d
        · rw [if_pos h3]; simp; omega
        · rw [if_neg h3]
          by_cases h4 : d < c
          · rw [if_pos h4]; simp; omega
          · rw [if_neg h4]; simp; omega
  total := by
    intro x y hxy
    unfold goesW
    generalize prioOf ps (wAt q x).task = a
    generalize prioOf ps (wAt q y).task = b
    generalize (wAt q x).seq = c
    generalize (wAt q y).seq = d
    omega
  trans := by
    intro x y z h1 h2
    unfold goesW at *
    generalize prioOf ps (wAt q x).task = a at *
    generalize prioOf ps (wAt q y).task = b at *
    generalize prioOf ps (wAt q z).task = c at *
    generalize (wAt q x).seq = d at *
    generalize (wAt q y).seq = e at *
    generalize (wAt q z).seq = f at *
    omega
theorem range_inc (n : Nat) : (List.range n).Pairwise (· < ·) := List.pairwise_lt_range
set_option maxHeartbeats 16000000 in
set_option maxRecDepth 100000 in
theorem order_few (a ap : Option Addr) (cap cp : Nat) (q : List Wt) (ps : List Int) (w : World) (hq : RdW w (.slice a q.length cap) q) (hp : RdI w (.slice ap ps.length cp) ps) (hm : ps.length ≤ 9223372036854775807) (h0 : 0 < q.length) (h20 : q.length < 20) :
    Calls Try.prog 55 #[.slice a q.length cap, .slice ap ps.length cp] w fun e w' => ∃ (g c : Nat) (M : List Nat), e = .returned (.slice (some ⟨g, 0, none⟩) q.length c) ∧ M.Perm (List.range q.length) ∧ M.Pairwise (goesW q ps) ∧ w'.ownsRow w.heap.size 3 1 (.slice (some ⟨g, 0, none⟩) q.length c) q.length (M.map fun j : Nat => Value.int .i64 j) ∧ Upd [] w w' := by
  have hmf : ∀ (fn : Fn) (first cap : Array Value) (w : World), (Instr.makeFunc fn first cap).run Try.prog w = .ok (.func fn first cap) w := fun _ _ _ _ => rfl
  obtain ⟨wb, hwb⟩ : ∃ wb, wb = (w.alloc (.cells #[.slice a q.length cap] 41)).alloc (.cells #[.slice ap ps.length cp] 28) := ⟨_, rfl⟩
  have hu0 : Upd [] w wb := by rw [hwb]; exact ((Upd.refl _ _).alloc _).alloc _
  have hcq : wb.cell? ⟨w.heap.size, 0, none⟩ = some (.slice a q.length cap) := by rw [hwb]; simp
  have hcp : wb.cell? ⟨w.heap.size + 1, 0, none⟩ = some (.slice ap ps.length cp) := by rw [hwb]; simp
  have hsz : wb.heap.size = w.heap.size + 2 := by rw [hwb]; simp
  have HWB := Lib.hid hwb
  have HU0 := Lib.hid hu0
  have HCQ := Lib.hid hcq
  have HCP := Lib.hid hcp
  have HQ := Lib.hid (hq.keep0 hu0)
  have HP := Lib.hid (hp.keep0 hu0)
  obtain ⟨n, hn⟩ : ∃ n, n = q.length := ⟨_, rfl⟩
  have HN := Lib.hid hn
  rw [← hn] at h0 h20 hcq ⊢
  clear hq hp hcp hu0 hwb hn
  go_enter Try.func55, Try.ntmps55
  go_wp2
  have e0 := HWB.out
  rw [← HN.out] at e0
  rw [← e0]
  clear e0
  go_loopw [5, 9] (fun v i wr => ∃ k : Nat, k ≤ n ∧ i = .int .i64 k ∧ Upd [] wb wr ∧ wr.ownsRow wb.heap.size 3 1 v (List.range k).length ((List.range k).map fun j : Nat => Value.int .i64 j)) (fun _ i _ => n - (intOf i).toNat)
  case atStart => exact ⟨0, Nat.zero_le _, rfl, Upd.refl _ _, ⟨by simp, .inl ⟨rfl, rfl⟩⟩⟩
  case round =>
    obtain ⟨k, hk, rfl, hu, hown⟩ := hrel
    have hszr := hu.size
    by_cases hlt : k < n
    · have hm1 : (List.range k).length + 1 ≤ maxLen := by unfold maxLen; simp; omega
      have hm2 : ((List.range k).length + 1) * 8 ≤ 140737488355328 := by simp; omega
      go_wp2_with (first
        | (at_builtin; refine wp_push tInt rfl (.tmp 12) (.tmp 14) rfl hown [.int .i64 k] rfl rfl rfl (by intro u hu; simp at hu; subst hu; rfl) hm1 hm2 hszr ?_; intro g3 c3 w3 hown3 hu3))
      go_roundw
      case rel =>
        refine ⟨k + 1, by omega, by go_num, ?_, ?_⟩
        · have hu4 := hu.trans hu3 (fun x hx hl => by
            rcases hown.2 with ⟨rfl, _⟩ | ⟨g, cap, cur, rfl, hb, _⟩
            · simp [Value.ownBlock] at hx
            · simp [Value.ownBlock] at hx
              omega)
          exact hu4
        · simpa [List.range_succ] using hown3
      case measure => simp [intOf]; omega
    · obtain rfl : k = n := by omega
      obtain ⟨g, cp2, rfl, hg, hcap, hrow⟩ := RowN.of_own hown (by simp; omega)
      simp only [List.length_range] at *
      have hsort := sortStable_few k (cfW q ps) (goesW q ps) (goes_ord q ps k) #[.pointer (some ⟨w.heap.size + 1, 0, none⟩), .pointer (some ⟨w.heap.size, 0, none⟩)] g cp2 (List.range k) wr hrow (by simp; omega) (range_inc k) (by simp) (by omega) (by simp; omega) (fun x y W hx hy hW => orderClosure_any w.heap.size (w.heap.size + 1) a ap cap cp q ps x y (by rw [← HN.out]; exact hx) (by rw [← HN.out]; exact hy) W (hW.cell (hu.cell HCQ.out (by simp)) (by simp; omega)) (hW.cell (hu.cell HCP.out (by simp)) (by simp; omega)) ((HQ.out.keep0 hu).keep hW (fun k hk hl => by have := HQ.out.lt hk hl; simp; omega)) ((HP.out.keep0 hu).keep hW (fun k hk hl => by have := HP.out.lt hk hl; simp; omega)) hm)
      simp only [List.length_range] at hsort
      have HSORT := Lib.hid hsort
      have HHU := Lib.hid hu
      clear hsort hu hown hrow
      go_wp2_with fail
      refine HSORT.out.mono ?_
      rintro e w1 ⟨rfl, M', hp, hR, hr, hu1⟩
      have hMl : M'.length = k := by rw [hp.length_eq]; simp
      have hto := hr.to_own (base := w.heap.size) (by omega) hcap
      rw [hMl] at hto
      have HTO := Lib.hid hto
      have HPR := Lib.hid (And.intro hp hR)
      have HU1 := Lib.hid hu1
      clear hp hR hr hu1 hto hMl
      go_wp2
      go_ret
      exact ⟨g, cp2, M', rfl, HPR.out.1, HPR.out.2, HTO.out, (HU0.out.trans0 HHU.out).trans HU1.out (fun x hx hl => by simp at hx; omega)⟩
end Go.Proofs.Ythchclhleppdhaa
