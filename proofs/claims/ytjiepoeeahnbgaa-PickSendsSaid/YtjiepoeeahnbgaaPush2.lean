
/- append of one element: where the row lies then. -/
import Derived.Test.YtjiepoeeahnbgaaBase
import Derived.Deep.AppendLies
namespace Go.Proofs.Ytjiepoeeahnbgaa
set_option linter.unusedVariables false
set_option linter.unusedSimpArgs false
open Go.RowKit
/-- append(s, x): as wp_push_at, and whether the row has moved. -/
theorem wp_push2 {P : Program} {W : World} {ops : Array Oper} {rest : List Oper} {o : Oper} {a : Act} {Q : Exit → Act → World → Prop} {t e : TypeId} {z : Value} {size bytes : Nat} (T : ElemT P t e z size bytes)
    (hgd : o.guard = none) (s x : Operand) (ho : o.op = .call { callee := .builtin .append, args := #[s, x], argTypes := #[t, t] })
    {base : Nat} {v : Value} {n : Nat} {xs : List Value} (hown : W.ownsRow base e size v n xs) (cs : List Value) (hs : a.eval s = v) {N : Nat} (hx : a.eval x = .slice (some ⟨N, 0, none⟩) 1 1) (hN : N = W.heap.size)
    (hl : cs.length = size) (h1 : ∀ u ∈ cs, u.oneCell' = true) (h63 : n + 1 ≤ maxLen) (hbytes : (n + 1) * bytes ≤ 140737488355328) (hbase : base ≤ W.heap.size)
    (h : ∀ g c w', w'.ownsRow base e size (.slice (some ⟨g, 0, none⟩) (n + 1) c) (n + 1) (xs ++ cs) → Upd v.ownBlock.toList W w' → (v.ownBlock = some g ∨ W.heap.size ≤ g) → wpList P ops Q rest (a.put o.dst (.slice (some ⟨g, 0, none⟩) (n + 1) c)) w') :
    wpList P ops Q (o :: rest) a (W.alloc (.cells cs.toArray e)) := by
  subst hN
  obtain ⟨i, hi, hz, hsz, hby⟩ := T.info
  refine wpList_append_lies _ hgd s x t ho base e i z size bytes T.und hi hz hsz hby T.zs T.pos v n xs hs (hown.alloc _) ⟨W.heap.size, 0, none⟩ 1 1 cs hx (by omega) ?_ h1 (by omega) h63 hbytes (by simp; omega) _ rfl ?_
  · intro j u hj
    have e2 : (⟨W.heap.size, 0, none⟩ : Addr).add j = ⟨W.heap.size, j, none⟩ := by unfold Addr.add; split <;> simp_all
    rw [e2, World.cell?_alloc_at _ _ _ _ rfl]
    simpa using hj
  · intro g c w' ho' hg hat _
    refine h g c w' ho' ((Upd.refl _ _).alloc _ |>.grown hg (fun k hk _ => by simp [hk])) ?_
    rcases hat with hat | hat
    · exact .inl hat
    · right
      rw [hat]
      simp
end Go.Proofs.Ytjiepoeeahnbgaa
