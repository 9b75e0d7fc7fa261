/- What stands in memory while prog.Check looks at the order of ops. -/
import Derived.Test.YtjnhahdelipebaaChkMem
import Derived.Maps.AppendAt
namespace Go.Proofs.Ytjnhahdelipebaa.XA
set_option linter.unusedVariables false
set_option linter.unusedSimpArgs false
open Go.RowKit Go.Proofs.YtjnhahdelipebaaW.PrintWords Go.Proofs.YtjnhahdelipebaaW.PrintLast Go.Proofs.YtjnhahdelipebaaW.PrintMore
open Go.Proofs.YtjnhahdelipebaaH (Upd Rd)
/-- One op more, of the locks held and of what each open loop held; none: it may not stand here. -/
def tStep (k n wt : Int) (h : List Int) (fs : List (List Int)) : Option (List Int × List (List Int)) :=
  if k = 8 then (if 3 ≤ fs.length then none else some (h, fs ++ [h]))
  else if k = 9 then (if fs.length = 0 then none else if fs.getD (fs.length - 1) [] = h then some (h, fs.take (fs.length - 1)) else none)
  else if k = 2 then (if 0 < h.length ∧ n ≤ lastH h then none else some (h ++ [n], fs))
  else if k = 3 then (if h.length = 0 then none else if lastH h = n then some (h.take (h.length - 1), fs) else none)
  else if (k = 4 ∨ k = 5 ∨ k = 7) ∧ wt ≠ 0 ∧ 0 < h.length then none else some (h, fs)
theorem own_ne_blk {w : World} {base n size : Nat} {e : TypeId} {v : Value} {cs : List Value} (h : w.ownsRow base e size v n cs) {b : Nat} {os : Array Value} {t : TypeId} {f : Nat × Nat} (hb : w.heap[b]? = some (.cells os t f)) (hne : e ≠ t) : v.ownBlock ≠ some b := by
  rcases h.2 with ⟨rfl, _⟩ | ⟨g, cap, cur, rfl, _, hh, _⟩
  · simp [Value.ownBlock]
  · intro hk
    have : g = b := by simpa [Value.ownBlock] using hk
    subst this
    rw [hh] at hb
    injection hb with hb
    injection hb with _ ht
    exact hne ht
/-- A frame: where what was held lies, and what it was. -/
abbrev FrmP := Value × List Int
structure OrdAt (w0 w : World) (b : Nat) (hv fv : Value) (h : List Int) (fs : List FrmP) : Prop where
  blk : w.heap[b]? = some (.cells #[hv, fv] 68 (0, 0))
  base : w0.heap.size ≤ b
  held : w.ownsRow w0.heap.size 3 1 hv h.length (h.map (Value.int .i64))
  first : w.ownsRow w0.heap.size 42 1 fv fs.length (fs.map (·.1))
  each : ∀ f ∈ fs, w.ownsRow w0.heap.size 3 1 f.1 f.2.length (f.2.map (Value.int .i64)) ∧ (∀ k, f.1.ownBlock = some k → hv.ownBlock ≠ some k)
  below : Below w0.heap.size w0 w
theorem OrdAt.step {w0 w w' : World} {b : Nat} {hv fv : Value} {h : List Int} {fs : List FrmP} (k : OrdAt w0 w b hv fv h fs) (hu : Upd [] w w') : OrdAt w0 w' b hv fv h fs :=
  ⟨hu.keep k.blk (by simp), k.base, Go.Proofs.YtjnhahdelipebaaH.own_keep0 k.held hu, Go.Proofs.YtjnhahdelipebaaH.own_keep0 k.first hu, fun f hf => ⟨Go.Proofs.YtjnhahdelipebaaH.own_keep0 (k.each f hf).1 hu, (k.each f hf).2⟩, below_upd k.below hu⟩
/-- Another row is held, and it is stored. -/
theorem OrdAt.setHeld {w0 w w' : World} {b : Nat} {hv fv hv' : Value} {h h' : List Int} {fs : List FrmP} (k : OrdAt w0 w b hv fv h fs) (hu : Upd hv.ownBlock.toList w w') (hown : w'.ownsRow w0.heap.size 3 1 hv' h'.length (h'.map (Value.int .i64)))
    (hne : hv'.ownBlock = hv.ownBlock ∨ hv'.ownBlock = some w.heap.size ∨ hv'.ownBlock = none) : OrdAt w0 (w'.setCell ⟨b, 0, none⟩ hv') b hv' fv h' fs := by
  have hbk : w'.heap[b]? = some (.cells #[hv, fv] 68 (0, 0)) := hu.keep k.blk (fun hm => own_ne_blk k.held k.blk (by decide) (by simpa using hm))
  have hset : Upd [b] w' (w'.setCell ⟨b, 0, none⟩ hv') := (Upd.refl [b] w').setCell _ _ (by simp)
  have keep : ∀ {e : TypeId} {n : Nat} {v : Value} {cs : List Value}, w.ownsRow w0.heap.size e 1 v n cs → e ≠ 68 → (∀ x, v.ownBlock = some x → hv.ownBlock ≠ some x) → (w'.setCell ⟨b, 0, none⟩ hv').ownsRow w0.heap.size e 1 v n cs := by
    intro e n v cs hv1 hne1 hap
    have h1 : w'.ownsRow w0.heap.size e 1 v n cs := Go.Proofs.YtjnhahdelipebaaH.own_keep hv1 hu (fun x hx hm => hap x hx (by simpa using hm))
    exact Go.Proofs.YtjnhahdelipebaaH.own_keep h1 hset (fun x hx hm => own_ne_blk h1 hbk hne1 (by simp at hm; rw [← hm]; exact hx))
  refine ⟨by simpa using blk_set hbk 0 hv', k.base, ?_, ?_, fun f hf => ⟨?_, ?_⟩, ?_⟩
  · exact Go.Proofs.YtjnhahdelipebaaH.own_keep hown hset (fun x hx hm => own_ne_blk hown hbk (by decide) (by simp at hm; rw [← hm]; exact hx))
  · refine keep k.first (by decide) (fun x hx he => ?_)
    rcases own_type_ne k.held k.first (by decide) with h1 | h1
    · rw [h1] at he; cases he
    · exact h1 (he.trans hx.symm)
  · exact keep (k.each f hf).1 (by decide) (k.each f hf).2
  · intro x hx he
    rcases hne with h1 | h1 | h1
    · exact (k.each f hf).2 x hx (h1 ▸ he)
    · rw [h1] at he
      cases he
      obtain ⟨g, hg⟩ : ∃ o, w.heap[w.heap.size]? = some o := by
        rcases (k.each f hf).1.2 with ⟨h2, _⟩ | ⟨g, cap, cur, h2, _, hh, _⟩
        · rw [h2] at hx; simp [Value.ownBlock] at hx
        · have : g = w.heap.size := by rw [h2] at hx; simpa [Value.ownBlock] using hx
          exact ⟨_, this ▸ hh⟩
      exact absurd (blk_lt hg) (Nat.lt_irrefl _)
    · rw [h1] at he; cases he
  · refine (k.below.trans (hu.belowB k.below.size (fun x hx => own_base k.held x (by simpa using hx)))).trans (hset.belowB ?_ (by simpa using k.base))
    exact Nat.le_trans k.below.size hu.size
/-- Another row of frames, and it is stored. -/
theorem OrdAt.setFirst {w0 w w' : World} {b : Nat} {hv fv fv' : Value} {h : List Int} {fs fs' : List FrmP} (k : OrdAt w0 w b hv fv h fs) (hu : Upd fv.ownBlock.toList w w') (hown : w'.ownsRow w0.heap.size 42 1 fv' fs'.length (fs'.map (·.1)))
    (hea : ∀ f ∈ fs', w.ownsRow w0.heap.size 3 1 f.1 f.2.length (f.2.map (Value.int .i64)) ∧ (∀ k, f.1.ownBlock = some k → hv.ownBlock ≠ some k)) : OrdAt w0 (w'.setCell ⟨b, 1, none⟩ fv') b hv fv' h fs' := by
  have hbk : w'.heap[b]? = some (.cells #[hv, fv] 68 (0, 0)) := hu.keep k.blk (fun hm => own_ne_blk k.first k.blk (by decide) (by simpa using hm))
  have hset : Upd [b] w' (w'.setCell ⟨b, 1, none⟩ fv') := (Upd.refl [b] w').setCell _ _ (by simp)
  have keep : ∀ {n : Nat} {v : Value} {cs : List Value}, w.ownsRow w0.heap.size 3 1 v n cs → (w'.setCell ⟨b, 1, none⟩ fv').ownsRow w0.heap.size 3 1 v n cs := by
    intro n v cs hv1
    have h1 : w'.ownsRow w0.heap.size 3 1 v n cs := Go.Proofs.YtjnhahdelipebaaH.own_keep hv1 hu (fun x hx hm => by
      rcases own_type_ne hv1 k.first (by decide) with h1 | h1
      · rw [h1] at hx; cases hx
      · exact h1 (hx.trans (show fv.ownBlock = some x by simpa using hm).symm))
    exact Go.Proofs.YtjnhahdelipebaaH.own_keep h1 hset (fun x hx hm => own_ne_blk h1 hbk (by decide) (by simp at hm; rw [← hm]; exact hx))
  refine ⟨by simpa using blk_set hbk 1 fv', k.base, keep k.held, ?_, fun f hf => ⟨keep (hea f hf).1, (hea f hf).2⟩, ?_⟩
  · exact Go.Proofs.YtjnhahdelipebaaH.own_keep hown hset (fun x hx hm => own_ne_blk hown hbk (by decide) (by simp at hm; rw [← hm]; exact hx))
  · refine (k.below.trans (hu.belowB k.below.size (fun x hx => own_base k.first x (by simpa using hx)))).trans (hset.belowB ?_ (by simpa using k.base))
    exact Nat.le_trans k.below.size hu.size
/-- append(s, x): where the row may stand behind it. -/
theorem wp_push_own {P : Program} {W : World} {ops : Array Oper} {rest : List Oper} {o : Oper} {a : Act} {Q : Exit → Act → World → Prop} {t e : TypeId} {z : Value} {bytes : Nat} (T : Go.Proofs.YtjnhahdelipebaaH.ElemT P t e z 1 bytes)
    (hgd : o.guard = none) (s x : Operand) (ho : o.op = .call { callee := .builtin .append, args := #[s, x], argTypes := #[t, t] })
    {base : Nat} {v : Value} {n : Nat} {xs : List Value} (hown : W.ownsRow base e 1 v n xs) (u : Value) (hs : a.eval s = v) {N : Nat} (hx : a.eval x = .slice (some ⟨N, 0, none⟩) 1 1) (hN : N = W.heap.size)
    (h1 : u.oneCell' = true) (h63 : n + 1 ≤ maxLen) (hbytes : (n + 1) * bytes ≤ 140737488355328) (hbase : base ≤ W.heap.size)
    (h : ∀ g c w', w'.ownsRow base e 1 (.slice (some ⟨g, 0, none⟩) (n + 1) c) (n + 1) (xs ++ [u]) → Upd v.ownBlock.toList (W.alloc (.cells #[u] e)) w' → (some g = v.ownBlock ∨ g = (W.alloc (.cells #[u] e)).heap.size) → wpList P ops Q rest (a.put o.dst (.slice (some ⟨g, 0, none⟩) (n + 1) c)) w') :
    wpList P ops Q (o :: rest) a (W.alloc (.cells #[u] e)) := by
  subst hN
  obtain ⟨i, hi, hz, hsz, hby⟩ := T.info
  refine wpList_append_own_at _ hgd s x t ho base e i z 1 bytes T.und hi hz hsz hby T.zs T.pos v n xs hs (hown.alloc _) ⟨W.heap.size, 0, none⟩ 1 1 [u] hx (by simp) (cell_one_new _ _ _) (by intro y hy; simp at hy; subst hy; exact h1) h63 hbytes (by simp; omega) ?_
  intro v' w' ho' hg _ hat
  obtain ⟨g, c, rfl⟩ : ∃ g c, v' = .slice (some ⟨g, 0, none⟩) (n + 1) c := by
    rcases ho'.2 with ⟨_, h0⟩ | ⟨g, c, _, he, _⟩
    · omega
    · exact ⟨g, c, he⟩
  refine h g c w' ho' (Upd.of_grown hg) ?_
  rcases hat with h2 | h2
  · exact .inl h2
  · exact .inr (by simpa [Value.ownBlock] using h2)
end Go.Proofs.Ytjnhahdelipebaa.XA
