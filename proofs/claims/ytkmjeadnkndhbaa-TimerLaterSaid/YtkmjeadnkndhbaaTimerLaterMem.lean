/- What stands in memory while puts are looked at: the timer, what is due when, what is wanted at each tick. -/
import Derived.Test.YtkmjeadnkndhbaaTimerLaterPure
import Derived.Test.YtkmjeadnkndhbaaTimerMem
import Derived.Deep.OwnRows
import Derived.Maps.AppendAt
namespace Go.Proofs.Ytkmjeadnkndhbaa
set_option linter.unusedVariables false
set_option linter.unusedSimpArgs false
open Go.RowKit Go.Deep
theorem rowIs_heap {w : World} {b : Nat} {t : TypeId} {n : Nat} {f : Nat → Value} (h : w.rowIs b t n f) : ∃ cs, w.heap[b]? = some (.cells cs t (0, 0)) := by
  obtain ⟨cs, h1, _⟩ := h
  exact ⟨cs, h1⟩
theorem rowIs_upd {w w' : World} {b : Nat} {t : TypeId} {n : Nat} {f : Nat → Value} {S : List Nat} (h : w.rowIs b t n f) (hu : Upd S w w') (hb : b ∉ S) : w'.rowIs b t n f :=
  h.of_block (hu.block _ h.lt hb)
theorem rowIs_tim {w w' : World} {x : Nat} {t : TypeId} {n : Nat} {f : Nat → Value} {p : Nat} {b : Option Nat} {ds : List Due} (h : w.rowIs x t n f) (ht : TimAt w p b ds) (hu : Upd (p :: b.toList) w w') (h1 : t ≠ 53) (h2 : t ≠ 55) : w'.rowIs x t n f := by
  obtain ⟨cs, hx⟩ := rowIs_heap h
  obtain ⟨a2, cap2, h3, h4, h5⟩ := ht.ex
  refine rowIs_upd h hu (fun hm => ?_)
  rcases List.mem_cons.1 hm with e | e
  · exact ne_types hx h3 h1 e
  · obtain ⟨c2, hc2⟩ := own_block' h4 (h5.trans (show b = some x by simpa using e))
    exact ne_types hx hc2 h2 rfl
theorem own_tim {w w' : World} {base n : Nat} {v : Value} {cs : List Value} {p : Nat} {b : Option Nat} {ds : List Due} (h : w.ownsRow base 3 1 v n cs) (ht : TimAt w p b ds) (hu : Upd (p :: b.toList) w w') : w'.ownsRow base 3 1 v n cs := by
  obtain ⟨a2, cap2, h3, h4, h5⟩ := ht.ex
  refine own_keep h hu (fun k hk hm => ?_)
  obtain ⟨c, hc⟩ := own_block' h hk
  rcases List.mem_cons.1 hm with e | e
  · exact ne_types hc h3 (by decide) e
  · obtain ⟨c2, hc2⟩ := own_block' h4 (h5.trans (show b = some k by simpa using e))
    exact ne_types hc hc2 (by decide) rfl
/-- What is wanted at each tick. -/
structure WantAt (base : Nat) (w : World) (wb : Nat) (vs : Nat → Value) (F : Nat → List Int) : Prop where
  row : w.rowIs wb 34 80 vs
  own : ∀ x, x < 80 → w.ownsRow base 3 1 (vs x) (F x).length ((F x).map (Value.int .i64))
  apart : ∀ x y, x < 80 → y < 80 → x ≠ y → ∀ k, (vs x).ownBlock = some k → (vs y).ownBlock ≠ some k
theorem WantAt.step {base : Nat} {w w' : World} {wb : Nat} {vs : Nat → Value} {F : Nat → List Int} (h : WantAt base w wb vs F) (hu : Upd [] w w') : WantAt base w' wb vs F :=
  ⟨rowIs_upd h.row hu (by simp), fun x hx => own_keep0 (h.own x hx) hu, h.apart⟩
theorem WantAt.tim {base : Nat} {w w' : World} {wb : Nat} {vs : Nat → Value} {F : Nat → List Int} {p : Nat} {b : Option Nat} {ds : List Due} (h : WantAt base w wb vs F) (ht : TimAt w p b ds) (hu : Upd (p :: b.toList) w w') : WantAt base w' wb vs F :=
  ⟨rowIs_tim h.row ht hu (by decide) (by decide), fun x hx => own_tim (h.own x hx) ht hu, h.apart⟩
theorem own_blk {w : World} {base n : Nat} {e : TypeId} {size : Nat} {v : Value} {cs : List Value} (h : w.ownsRow base e size v n cs) {k : Nat} (hk : v.ownBlock = some k) : base ≤ k ∧ k < w.heap.size := h.lt k hk
/-- One is wanted more. -/
theorem WantAt.put {base : Nat} {w w' : World} {wb : Nat} {vs : Nat → Value} {F G : Nat → List Int} (h : WantAt base w wb vs F) (x : Nat) (hx : x < 80) (i : Int) (g c : Nat) (hu : Upd (vs x).ownBlock.toList w w')
    (hown : w'.ownsRow base 3 1 (.slice (some ⟨g, 0, none⟩) ((F x).length + 1) c) ((F x).length + 1) ((F x).map (Value.int .i64) ++ [.int .i64 i])) (hat : (vs x).ownBlock = some g ∨ g = w.heap.size) (hG : G x = F x ++ [i]) (hG2 : ∀ y, y ≠ x → G y = F y) :
    WantAt base (w'.setCell ⟨wb, x, none⟩ (.slice (some ⟨g, 0, none⟩) ((F x).length + 1) c)) wb (fun y => if y = x then .slice (some ⟨g, 0, none⟩) ((F x).length + 1) c else vs y) G := by
  obtain ⟨cs, hcs⟩ := rowIs_heap h.row
  have hwb : wb ∉ (vs x).ownBlock.toList := by
    intro hm
    obtain ⟨c2, hc2⟩ := own_block' (h.own x hx) (show (vs x).ownBlock = some wb by simpa using hm)
    exact ne_types hcs hc2 (by decide) rfl
  have hset : Upd [wb] w' (w'.setCell ⟨wb, x, none⟩ (.slice (some ⟨g, 0, none⟩) ((F x).length + 1) c)) := (Upd.refl [wb] w').setCell _ _ (by simp)
  have hrow := (rowIs_upd h.row hu hwb)
  have nwb : ∀ {e : TypeId} {n : Nat} {v : Value} {c1 : List Value}, w'.ownsRow base e 1 v n c1 → e ≠ 34 → ∀ k, v.ownBlock = some k → k ∉ [wb] := by
    intro e n v c1 ho hne k hk hm
    obtain ⟨c2, hc2⟩ := own_block' ho hk
    obtain ⟨cs', hcs'⟩ := rowIs_heap hrow
    simp at hm
    subst hm
    exact ne_types hc2 hcs' hne rfl
  refine ⟨hrow.set x _, fun y hy => ?_, fun y z hy hz hyz k hk => ?_⟩
  · by_cases e : y = x
    · subst e
      rw [if_pos rfl, hG]
      have := own_keep hown hset (nwb hown (by decide))
      simpa using this
    · rw [if_neg e, hG2 y e]
      have h1 := own_keep (h.own y hy) hu (fun k hk hm => h.apart y x hy hx e k hk (by simpa using hm))
      exact own_keep h1 hset (nwb h1 (by decide))
  · have hgn : ∀ q, q < 80 → q ≠ x → (vs q).ownBlock ≠ some g := by
      intro q hq hqx hc
      rcases hat with h1 | h1
      · exact h.apart q x hq hx hqx g hc h1
      · have := (own_blk (h.own q hq) hc).2
        omega
    by_cases ey : y = x
    · have ez : z ≠ x := fun c => hyz (ey.trans c.symm)
      rw [if_pos ey] at hk
      rw [if_neg ez]
      have : k = g := by simpa [Value.ownBlock] using hk.symm
      rw [this]
      exact hgn z hz ez
    · rw [if_neg ey] at hk
      by_cases ez : z = x
      · rw [if_pos ez]
        intro hc
        have : g = k := by simpa [Value.ownBlock] using hc
        exact hgn y hy ey (this ▸ hk)
      · rw [if_neg ez]
        exact h.apart y z hy hz hyz k hk
theorem tIntT : ElemT Try.prog 28 3 (.int .i64 0) 1 8 :=
  ⟨Try.underlying28, by
    obtain ⟨i, hi, h⟩ := info_parts (show (Try.prog.info? 3).map (fun i => (i.zero, i.size, i.bytes)) = some (some (.int .i64 0), 1, 8) by kernel_rfl)
    exact ⟨i, hi, h⟩, rfl, by decide⟩
/-- append(s, x): where the row may stand behind it. -/
theorem wp_push_own {P : Program} {W : World} {ops : Array Oper} {rest : List Oper} {o : Oper} {a : Act} {Q : Exit → Act → World → Prop} {t e : TypeId} {z : Value} {bytes : Nat} (T : ElemT P t e z 1 bytes)
    (hgd : o.guard = none) (s x : Operand) (ho : o.op = .call { callee := .builtin .append, args := #[s, x], argTypes := #[t, t] })
    {base : Nat} {v : Value} {n : Nat} {xs : List Value} (hown : W.ownsRow base e 1 v n xs) (u : Value) (hs : a.eval s = v) {N : Nat} (hx : a.eval x = .slice (some ⟨N, 0, none⟩) 1 1) (hN : N = W.heap.size)
    (h1 : u.oneCell' = true) (h63 : n + 1 ≤ maxLen) (hbytes : (n + 1) * bytes ≤ 140737488355328) (hbase : base ≤ W.heap.size)
    (h : ∀ g c w', w'.ownsRow base e 1 (.slice (some ⟨g, 0, none⟩) (n + 1) c) (n + 1) (xs ++ [u]) → Upd v.ownBlock.toList (W.alloc (.cells #[u] e)) w' → (v.ownBlock = some g ∨ g = (W.alloc (.cells #[u] e)).heap.size) → wpList P ops Q rest (a.put o.dst (.slice (some ⟨g, 0, none⟩) (n + 1) c)) w') :
    wpList P ops Q (o :: rest) a (W.alloc (.cells #[u] e)) := by
  subst hN
  obtain ⟨i, hi, hz, hsz, hby⟩ := T.info
  have hcell : ∀ j q, [u][j]? = some q → (W.alloc (.cells #[u] e)).cell? ((⟨W.heap.size, 0, none⟩ : Addr).add j) = some q := by
    intro j q hj
    match j, hj with
    | 0, hj => simp at hj; subst hj; simp [Addr.add]
  refine wpList_append_own_at _ hgd s x t ho base e i z 1 bytes T.und hi hz hsz hby T.zs T.pos v n xs hs (hown.alloc _) ⟨W.heap.size, 0, none⟩ 1 1 [u] hx (by simp) hcell (by intro y hy; simp at hy; subst hy; exact h1) h63 hbytes (by simp; omega) ?_
  intro v' w' ho' hg _ hat
  obtain ⟨g, c, rfl⟩ : ∃ g c, v' = .slice (some ⟨g, 0, none⟩) (n + 1) c := by
    rcases ho'.2 with ⟨_, h0⟩ | ⟨g, c, _, he, _⟩
    · omega
    · exact ⟨g, c, he⟩
  refine h g c w' ho' (Upd.of_grown hg) ?_
  rcases hat with h2 | h2
  · exact .inl (h2.symm.trans rfl)
  · exact .inr (by simpa [Value.ownBlock] using h2)
end Go.Proofs.Ytkmjeadnkndhbaa
