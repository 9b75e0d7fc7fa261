/- General words about worlds that grow: which blocks a call may have turned, rows that are read, rows that the call owns. -/
import Derived.Test.YtjnhahdelipebaaProg
import Derived.WalkKit
import Derived.KernelRfl
import Derived.Deep.QuietTactic
import Derived.Deep.LoopGhost
import Derived.Deep.DeepCutAuto
import Derived.BigQuiet
import Derived.Lib.Hide
import Derived.Laws.AppendOwnNone
namespace Go.Proofs.YtjnhahdelipebaaH
set_option linter.unusedVariables false
set_option linter.unusedSimpArgs false
open Go.RowKit

/-- Of the blocks of w only those in S may have turned in w'. -/
structure Upd (S : List Nat) (w w' : World) : Prop where
  os : w'.os = w.os
  tape : w'.tape = w.tape
  output : w'.output = w.output
  size : w.heap.size ≤ w'.heap.size
  block : ∀ k, k < w.heap.size → k ∉ S → w'.heap[k]? = w.heap[k]?

theorem Upd.refl (S : List Nat) (w : World) : Upd S w w := ⟨rfl, rfl, rfl, Nat.le_refl _, fun _ _ _ => rfl⟩
theorem Upd.trans {S T : List Nat} {a b c : World} (h : Upd S a b) (k : Upd T b c) (hT : ∀ x ∈ T, x < a.heap.size → x ∈ S) : Upd S a c :=
  ⟨k.os.trans h.os, k.tape.trans h.tape, k.output.trans h.output, Nat.le_trans h.size k.size, fun i hi hn =>
    (k.block i (Nat.lt_of_lt_of_le hi h.size) (fun hx => hn (hT i hx hi))).trans (h.block i hi hn)⟩
theorem Upd.trans0 {S : List Nat} {a b c : World} (h : Upd S a b) (k : Upd [] b c) : Upd S a c := h.trans k (fun _ hx => by simp at hx)
theorem Upd.transS {S : List Nat} {a b c : World} (h : Upd S a b) (k : Upd S b c) : Upd S a c := h.trans k (fun _ hx _ => hx)
theorem Upd.mono {S T : List Nat} {a b : World} (h : Upd S a b) (hS : ∀ x ∈ S, x < a.heap.size → x ∈ T) : Upd T a b :=
  ⟨h.os, h.tape, h.output, h.size, fun k hk hn => h.block k hk (fun hx => hn (hS k hx hk))⟩
theorem Upd.drewN {S : List Nat} {a b : World} (h : Upd S a b) (n : Nat) : Upd S a (b.drewN n) := ⟨h.os, h.tape, h.output, h.size, h.block⟩
theorem Upd.drew {S : List Nat} {a b : World} (h : Upd S a b) : Upd S a b.drew := ⟨h.os, h.tape, h.output, h.size, h.block⟩
theorem Upd.alloc {S : List Nat} {a b : World} (h : Upd S a b) (o : Obj) : Upd S a (b.alloc o) :=
  ⟨h.os, h.tape, h.output, Nat.le_trans h.size (by simp), fun k hk hn => (Below.heap_alloc _ _ _ (Nat.lt_of_lt_of_le hk h.size)).trans (h.block k hk hn)⟩
theorem Upd.setCell {S : List Nat} {a b : World} (h : Upd S a b) (p : Addr) (u : Value) (hp : p.block < a.heap.size → p.block ∈ S) : Upd S a (b.setCell p u) :=
  ⟨h.os, h.tape, h.output, Nat.le_trans h.size (by simp [World.setCell]), fun k hk hn => by
    rw [Below.heap_setCell _ _ _ _ (fun e => by subst e; exact hn (hp hk))]; exact h.block k hk hn⟩
theorem Upd.of_grown {a b : World} {row : Option Nat} (h : a.grownBy b row) : Upd row.toList a b :=
  ⟨h.os, h.tape, h.output, h.size, fun k hk hn => h.block k hk (fun e => hn (by simp [← e]))⟩
theorem Upd.of_below {a b : World} (h : Below a.heap.size a b) : Upd [] a b := ⟨h.os, h.tape, h.output, h.size, fun k hk _ => h.block k hk⟩
theorem Upd.below {a b : World} (h : Upd [] a b) : Below a.heap.size a b := ⟨h.os, h.tape, h.output, h.size, fun k hk => h.block k hk (by simp)⟩
theorem Upd.belowB {B : Nat} {S : List Nat} {a b : World} (h : Upd S a b) (hB : B ≤ a.heap.size) (hS : ∀ x ∈ S, B ≤ x) : Below B a b :=
  ⟨h.os, h.tape, h.output, h.size, fun k hk => h.block k (by omega) (fun hx => by have := hS k hx; omega)⟩
theorem Upd.grown {S : List Nat} {a b c : World} {row : Option Nat} (h : Upd S a b) (g : b.grownBy c row) (hr : ∀ k, row = some k → k < a.heap.size → k ∈ S) : Upd S a c :=
  h.trans (Upd.of_grown g) (fun x hx hl => hr x (by simpa using hx) hl)

theorem blk_lt {w : World} {b : Nat} {o : Obj} (h : w.heap[b]? = some o) : b < w.heap.size := (Array.getElem?_eq_some_iff.1 h).1
theorem Upd.keep {S : List Nat} {a b : World} (h : Upd S a b) {k : Nat} {o : Obj} (hk : a.heap[k]? = some o) (hn : k ∉ S) : b.heap[k]? = some o :=
  (h.block k (blk_lt hk) hn).trans hk
theorem Upd.lt {S : List Nat} {a b : World} (h : Upd S a b) {k : Nat} (hk : k < a.heap.size) : k < b.heap.size := Nat.lt_of_lt_of_le hk h.size
theorem Upd.cell {S : List Nat} {a b : World} (h : Upd S a b) {p : Addr} {u : Value} (hk : a.cell? p = some u) (hn : p.block ∉ S) : b.cell? p = some u :=
  (World.cell?_of_block (h.block p.block (block_lt_of_cell hk) hn)).trans hk

/-- The row v of n elements reads cs, cell by cell. -/
def Rd (w : World) (v : Value) (n : Nat) (cs : List Value) : Prop :=
  ∃ a cap, v = .slice a n cap ∧ n ≤ cap ∧ cap ≤ maxLen ∧ (a = none → cap = 0) ∧ ((n = 0 ∧ cs = []) ∨ ∃ b off, a = some ⟨b, off, none⟩ ∧ ∀ j u, cs[j]? = some u → w.cell? ⟨b, off + j, none⟩ = some u)

theorem Rd.nil (w : World) : Rd w (.slice none 0 0) 0 [] := ⟨none, 0, rfl, Nat.le_refl _, Nat.zero_le _, fun _ => rfl, .inl ⟨rfl, rfl⟩⟩
theorem Rd.keep {S : List Nat} {w w' : World} {v : Value} {n : Nat} {cs : List Value} (h : Rd w v n cs) (hu : Upd S w w') (hS : ∀ k, v.ownBlock = some k → 0 < cs.length → k ∉ S) : Rd w' v n cs := by
  obtain ⟨a, cap, rfl, h1, hm, h0, h2⟩ := h
  refine ⟨a, cap, rfl, h1, hm, h0, h2.imp id ?_⟩
  rintro ⟨b, off, rfl, hc⟩
  exact ⟨b, off, rfl, fun j u hj => hu.cell (hc j u hj) (hS b rfl (by have := (List.getElem?_eq_some_iff.1 hj).1; omega))⟩
theorem Rd.keep0 {w w' : World} {v : Value} {n : Nat} {cs : List Value} (h : Rd w v n cs) (hu : Upd [] w w') : Rd w' v n cs := h.keep hu (fun _ _ _ => by simp)
theorem Rd.at {w : World} {a : Option Addr} {n cap : Nat} {cs : List Value} (h : Rd w (.slice a n cap) n cs) (hn : 0 < n) :
    ∃ b off, a = some ⟨b, off, none⟩ ∧ ∀ j u, cs[j]? = some u → w.cell? ⟨b, off + j, none⟩ = some u := by
  obtain ⟨a', cap', he, h1, hm, h0, h2⟩ := h
  cases he
  rcases h2 with ⟨h0, _⟩ | h2
  · omega
  · exact h2
/-- Where a row that is not empty lies, there are cells. -/
theorem Rd.blk {w : World} {v : Value} {n : Nat} {cs : List Value} (h : Rd w v n cs) {k : Nat} (hk : v.ownBlock = some k) (hn : 0 < cs.length) : ∃ c t f, w.heap[k]? = some (.cells c t f) := by
  obtain ⟨a, cap, rfl, _, _, _, h2⟩ := h
  rcases h2 with ⟨_, rfl⟩ | ⟨b, off, rfl, hc⟩
  · simp at hn
  · simp [Value.ownBlock] at hk
    subst hk
    have := hc 0 _ (List.getElem?_eq_getElem hn)
    simp only [World.cell?] at this
    split at this
    · exact ⟨_, _, _, ‹_›⟩
    · simp at this
/-- Out of an owned row. -/
theorem Rd.of_own {w : World} {base : Nat} {e : TypeId} {size n : Nat} {v : Value} {cs : List Value} (h : w.ownsRow base e size v n cs) : Rd w v n cs := by
  have hcells := fun g (hg : v.ownBlock = some g) => h.cells hg
  rcases h.2 with ⟨rfl, rfl⟩ | ⟨g, cap, cur, rfl, hb, hg, hn, hm, hs, ht⟩
  · have : cs = [] := by simpa using h.1
    subst this
    exact Rd.nil w
  · refine ⟨_, cap, rfl, hn, hm, (fun h => by cases h), .inr ⟨g, 0, rfl, fun j u hj => ?_⟩⟩
    have := hcells g rfl j u hj
    have e2 : (⟨g, 0, none⟩ : Addr).add j = ⟨g, 0 + j, none⟩ := by unfold Addr.add; split <;> simp_all
    rwa [e2] at this
theorem own_slice {w : World} {base : Nat} {e : TypeId} {size n : Nat} {v : Value} {cs : List Value} (h : w.ownsRow base e size v n cs) : ∃ a cap, v = .slice a n cap ∧ n ≤ cap := by
  rcases h.2 with ⟨rfl, rfl⟩ | ⟨g, cap, cur, rfl, hb, hg, hn, hm, hs, ht⟩
  · exact ⟨none, 0, rfl, Nat.le_refl _⟩
  · exact ⟨_, cap, rfl, hn⟩
theorem own_keep {w w' : World} {base : Nat} {e : TypeId} {size n : Nat} {v : Value} {cs : List Value} {S : List Nat} (h : w.ownsRow base e size v n cs) (hu : Upd S w w') (hS : ∀ k, v.ownBlock = some k → k ∉ S) : w'.ownsRow base e size v n cs := by
  refine ⟨h.1, h.2.imp id ?_⟩
  rintro ⟨g, cap, cur, rfl, hb, hg, r⟩
  exact ⟨g, cap, cur, rfl, hb, hu.keep hg (hS g rfl), r⟩
theorem own_keep0 {w w' : World} {base : Nat} {e : TypeId} {size n : Nat} {v : Value} {cs : List Value} (h : w.ownsRow base e size v n cs) (hu : Upd [] w w') : w'.ownsRow base e size v n cs := own_keep h hu (fun _ _ => by simp)
theorem own_lower {w : World} {base base' : Nat} {e : TypeId} {size n : Nat} {v : Value} {cs : List Value} (h : w.ownsRow base e size v n cs) (hb : base' ≤ base) : w.ownsRow base' e size v n cs := by
  refine ⟨h.1, h.2.imp id ?_⟩
  rintro ⟨g, cap, cur, rfl, hg, r⟩
  exact ⟨g, cap, cur, rfl, Nat.le_trans hb hg, r⟩

/-- What the table says of an element type. -/
structure ElemT (P : Program) (t e : TypeId) (z : Value) (size bytes : Nat) : Prop where
  und : P.underlying t = some (.slice e)
  info : ∃ i, P.info? e = some i ∧ i.zero = some z ∧ i.size = size ∧ i.bytes = bytes
  zs : z.cells.size = size
  pos : 0 < size

/-- append(s, x): x is the one element's own new block, the last one of W.alloc. -/
theorem wp_push {P : Program} {W : World} {ops : Array Oper} {rest : List Oper} {o : Oper} {a : Act} {Q : Exit → Act → World → Prop} {t e : TypeId} {z : Value} {size bytes : Nat} (T : ElemT P t e z size bytes)
    (hgd : o.guard = none) (s x : Operand) (ho : o.op = .call { callee := .builtin .append, args := #[s, x], argTypes := #[t, t] })
    {base : Nat} {v : Value} {n : Nat} {xs : List Value} (hown : W.ownsRow base e size v n xs) (cs : List Value) (hs : a.eval s = v) (hx : a.eval x = .slice (some ⟨W.heap.size, 0, none⟩) 1 1)
    (hl : cs.length = size) (h1 : ∀ u ∈ cs, u.oneCell' = true) (h63 : n + 1 ≤ maxLen) (hbytes : (n + 1) * bytes ≤ 140737488355328) (hbase : base ≤ W.heap.size)
    (h : ∀ g c w', w'.ownsRow base e size (.slice (some ⟨g, 0, none⟩) (n + 1) c) (n + 1) (xs ++ cs) → Upd v.ownBlock.toList W w' → wpList P ops Q rest (a.put o.dst (.slice (some ⟨g, 0, none⟩) (n + 1) c)) w') :
    wpList P ops Q (o :: rest) a (W.alloc (.cells cs.toArray e)) := by
  obtain ⟨i, hi, hz, hsz, hby⟩ := T.info
  refine wpList_append_own _ hgd s x t ho base e i z size bytes T.und hi hz hsz hby T.zs T.pos v n xs hs (hown.alloc _) ⟨W.heap.size, 0, none⟩ 1 1 cs hx (by omega) ?_ h1 h63 hbytes (by simp; omega) ?_
  · intro j u hj
    have e2 : (⟨W.heap.size, 0, none⟩ : Addr).add j = ⟨W.heap.size, j, none⟩ := by unfold Addr.add; split <;> simp_all
    rw [e2, World.cell?_alloc_at _ _ _ _ rfl]
    simpa using hj
  · intro v' w' ho' hg _
    obtain ⟨g, c, rfl⟩ : ∃ g c, v' = .slice (some ⟨g, 0, none⟩) (n + 1) c := by
      rcases ho'.2 with ⟨_, h0⟩ | ⟨g, c, _, he, _⟩
      · omega
      · exact ⟨g, c, he⟩
    exact h g c w' ho' ((Upd.refl _ _).alloc _ |>.grown hg (fun k hk _ => by simp [hk]))

/-- The same; the new block's number is spelled otherwise. -/
theorem wp_push_at {P : Program} {W : World} {ops : Array Oper} {rest : List Oper} {o : Oper} {a : Act} {Q : Exit → Act → World → Prop} {t e : TypeId} {z : Value} {size bytes : Nat} (T : ElemT P t e z size bytes)
    (hgd : o.guard = none) (s x : Operand) (ho : o.op = .call { callee := .builtin .append, args := #[s, x], argTypes := #[t, t] })
    {base : Nat} {v : Value} {n : Nat} {xs : List Value} (hown : W.ownsRow base e size v n xs) (cs : List Value) (hs : a.eval s = v) {N : Nat} (hx : a.eval x = .slice (some ⟨N, 0, none⟩) 1 1) (hN : N = W.heap.size)
    (hl : cs.length = size) (h1 : ∀ u ∈ cs, u.oneCell' = true) (h63 : n + 1 ≤ maxLen) (hbytes : (n + 1) * bytes ≤ 140737488355328) (hbase : base ≤ W.heap.size)
    (h : ∀ g c w', w'.ownsRow base e size (.slice (some ⟨g, 0, none⟩) (n + 1) c) (n + 1) (xs ++ cs) → Upd v.ownBlock.toList W w' → wpList P ops Q rest (a.put o.dst (.slice (some ⟨g, 0, none⟩) (n + 1) c)) w') :
    wpList P ops Q (o :: rest) a (W.alloc (.cells cs.toArray e)) := by
  subst hN
  exact wp_push T hgd s x ho hown cs hs hx hl h1 h63 hbytes hbase h

/-- append(s, xs...): xs is a row that is read: one operation. -/
theorem op_extend {P : Program} {W : World} {o : Oper} {a : Act} {K : Act → World → Prop} {Q : Exit → Act → World → Prop} {t e : TypeId} {z : Value} {size bytes : Nat} (T : ElemT P t e z size bytes)
    (s x : Operand) (ho : o.op = .call { callee := .builtin .append, args := #[s, x], argTypes := #[t, t] })
    {base : Nat} {v : Value} {n : Nat} {xs : List Value} (hown : W.ownsRow base e size v n xs) (hs : a.eval s = v) {xv : Value} {m : Nat} {cs : List Value} (hx : a.eval x = xv) (hr : Rd W xv m cs)
    (hl : cs.length = m * size) (h1 : ∀ u ∈ cs, u.oneCell' = true) (h63 : n + m ≤ maxLen) (hbytes : (n + m) * bytes ≤ 140737488355328) (hbase : base ≤ W.heap.size)
    (h : ∀ a' c w', w'.ownsRow base e size (.slice a' (n + m) c) (n + m) (xs ++ cs) → Upd v.ownBlock.toList W w' → K (a.put o.dst (.slice a' (n + m) c)) w') :
    o.wp P a W K Q := by
  obtain ⟨i, hi, hz, hsz, hby⟩ := T.info
  obtain ⟨A, cap, rfl, hc, _, h0, h2⟩ := hr
  cases A with
  | none =>
    have := h0 rfl
    obtain rfl : m = 0 := by omega
    subst this
    obtain rfl : cs = [] := by simpa using hl
    obtain ⟨a', c, rfl, _⟩ := own_slice hown
    have hrun := run_append_owned_none (P := P) (w := W) base t o.type e i size T.und hi _ n xs hown
    unfold Oper.wp
    simp [execOp, ho, resolve, invoke, builtin, hs, hx, hrun, Result.andThen]
    exact h a' c _ (by simpa using hown) (Upd.refl _ _)
  | some ad =>
    refine wp_append_own _ s x t ho base e i z size bytes T.und hi hz hsz hby T.zs T.pos v n xs hs hown ad m cap cs hx hl ?_ h1 h63 hbytes hbase ?_
    · intro j u hj
      rcases h2 with ⟨_, rfl⟩ | ⟨b, off, he, hcell⟩
      · simp at hj
      cases he
      have e2 : (⟨b, off, none⟩ : Addr).add j = ⟨b, off + j, none⟩ := by unfold Addr.add; split <;> simp_all
      rw [e2]
      exact hcell j u hj
    · intro v' w' ho' hg _
      obtain ⟨a', c, rfl, _⟩ := own_slice ho'
      exact h a' c w' ho' ((Upd.refl _ _).grown hg (fun k hk _ => by simp [hk]))
/-- The same, at the head of a list of operations. -/
theorem wp_extend {P : Program} {W : World} {ops : Array Oper} {rest : List Oper} {o : Oper} {a : Act} {Q : Exit → Act → World → Prop} {t e : TypeId} {z : Value} {size bytes : Nat} (T : ElemT P t e z size bytes)
    (hgd : o.guard = none) (s x : Operand) (ho : o.op = .call { callee := .builtin .append, args := #[s, x], argTypes := #[t, t] })
    {base : Nat} {v : Value} {n : Nat} {xs : List Value} (hown : W.ownsRow base e size v n xs) (hs : a.eval s = v) {xv : Value} {m : Nat} {cs : List Value} (hx : a.eval x = xv) (hr : Rd W xv m cs)
    (hl : cs.length = m * size) (h1 : ∀ u ∈ cs, u.oneCell' = true) (h63 : n + m ≤ maxLen) (hbytes : (n + m) * bytes ≤ 140737488355328) (hbase : base ≤ W.heap.size)
    (h : ∀ a' c w', w'.ownsRow base e size (.slice a' (n + m) c) (n + m) (xs ++ cs) → Upd v.ownBlock.toList W w' → wpList P ops Q rest (a.put o.dst (.slice a' (n + m) c)) w') :
    wpList P ops Q (o :: rest) a W :=
  wpList_plain hgd fun _ hK => op_extend T s x ho hown hs hx hr hl h1 h63 hbytes hbase fun a' c w' hw hu => hK _ _ (h a' c w' hw hu)
/-- The same, inside a region that draws its order. -/
theorem step_extend {P : Program} {W : World} {ops : Array Oper} {o : Oper} {a : Act} {K : Act → World → Prop} {Q : Exit → Act → World → Prop} {E : Prop} {t e : TypeId} {z : Value} {size bytes : Nat} (T : ElemT P t e z size bytes)
    (hgd : o.guard = none) (s x : Operand) (ho : o.op = .call { callee := .builtin .append, args := #[s, x], argTypes := #[t, t] })
    {base : Nat} {v : Value} {n : Nat} {xs : List Value} (hown : W.ownsRow base e size v n xs) (hs : a.eval s = v) {xv : Value} {m : Nat} {cs : List Value} (hx : a.eval x = xv) (hr : Rd W xv m cs)
    (hl : cs.length = m * size) (h1 : ∀ u ∈ cs, u.oneCell' = true) (h63 : n + m ≤ maxLen) (hbytes : (n + m) * bytes ≤ 140737488355328) (hbase : base ≤ W.heap.size)
    (h : ∀ a' c w', w'.ownsRow base e size (.slice a' (n + m) c) (n + m) (xs ++ cs) → Upd v.ownBlock.toList W w' → K (a.put o.dst (.slice a' (n + m) c)) w') :
    if Region.wanted o (yielded ops a.tmps) = true then Oper.wp P o a W K Q else E := by
  have hw : Region.wanted o (yielded ops a.tmps) = true := by simp [Region.wanted, hgd]
  rw [if_pos hw]
  exact op_extend T s x ho hown hs hx hr hl h1 h63 hbytes hbase h

/-- append of a row that is read to what is the call's own and empty: a copy. -/
theorem wp_copy {P : Program} {W : World} {ops : Array Oper} {rest : List Oper} {o : Oper} {a : Act} {Q : Exit → Act → World → Prop} {t e : TypeId} {z : Value} {size bytes : Nat} (T : ElemT P t e z size bytes)
    (hgd : o.guard = none) (s x : Operand) (ho : o.op = .call { callee := .builtin .append, args := #[s, x], argTypes := #[t, t] })
    {base : Nat} {v : Value} (hown : W.ownsRow base e size v 0 []) (hs : a.eval s = v) {xv : Value} {m : Nat} {cs : List Value} (hx : a.eval x = xv) (hr : Rd W xv m cs)
    (hl : cs.length = m * size) (h1 : ∀ u ∈ cs, u.oneCell' = true) (h63 : m ≤ maxLen) (hbytes : m * bytes ≤ 140737488355328) (hbase : base ≤ W.heap.size)
    (h : ∀ a' c w', w'.ownsRow base e size (.slice a' m c) m cs → Upd v.ownBlock.toList W w' → wpList P ops Q rest (a.put o.dst (.slice a' m c)) w') :
    wpList P ops Q (o :: rest) a W :=
  wp_extend T hgd s x ho hown hs hx hr hl h1 (by omega) (by simpa using hbytes) hbase (fun a' c w' hw hu => by
    have e : 0 + m = m := Nat.zero_add m
    rw [e] at hw ⊢
    exact h a' c w' (by simpa using hw) hu)

/-- A copy, inside a region that draws its order. -/
theorem step_copy {P : Program} {W : World} {ops : Array Oper} {o : Oper} {a : Act} {K : Act → World → Prop} {Q : Exit → Act → World → Prop} {E : Prop} {t e : TypeId} {z : Value} {size bytes : Nat} (T : ElemT P t e z size bytes)
    (hgd : o.guard = none) (s x : Operand) (ho : o.op = .call { callee := .builtin .append, args := #[s, x], argTypes := #[t, t] })
    {base : Nat} {v : Value} (hown : W.ownsRow base e size v 0 []) (hs : a.eval s = v) {xv : Value} {m : Nat} {cs : List Value} (hx : a.eval x = xv) (hr : Rd W xv m cs)
    (hl : cs.length = m * size) (h1 : ∀ u ∈ cs, u.oneCell' = true) (h63 : m ≤ maxLen) (hbytes : m * bytes ≤ 140737488355328) (hbase : base ≤ W.heap.size)
    (h : ∀ a' c w', w'.ownsRow base e size (.slice a' m c) m cs → Upd v.ownBlock.toList W w' → K (a.put o.dst (.slice a' m c)) w') :
    if Region.wanted o (yielded ops a.tmps) = true then Oper.wp P o a W K Q else E :=
  step_extend T hgd s x ho hown hs hx hr hl h1 (by omega) (by simpa using hbytes) hbase (fun a' c w' hw hu => by
    have e : 0 + m = m := Nat.zero_add m
    rw [e] at hw ⊢
    exact h a' c w' (by simpa using hw) hu)
theorem quiet_same {P : Program} {f : FuncId} {args : Array Value} {w : World} {n : Nat} {v : Value}
    (h : Calls P f args (w.drewN n) fun e w' => e = .returned v ∧ w.drewN n = w') : Calls P f args (w.drewN n) fun e w'' => e = .returned v ∧ ∃ m, w'' = w.drewN m :=
  h.mono fun _ _ ⟨he, hm⟩ => ⟨he, n, hm.symm⟩

/-- x[l:u] of a row that is read, in its three forms. -/
theorem Rd.cut {P : Program} {t e : TypeId} {z : Value} {size bytes : Nat} (T : ElemT P t e z size bytes) {w : World} {a : Option Addr} {n cap : Nat} {cs : List Value} (h : Rd w (.slice a n cap) n cs)
    (l u : Nat) (hl : l ≤ u) (hu : u ≤ n) :
    ∃ a' c', Rd w (.slice a' (u - l) c') (u - l) ((cs.drop (l * size)).take ((u - l) * size)) ∧ (∀ k, (Value.slice a' (u - l) c').ownBlock = some k → (Value.slice a n cap).ownBlock = some k) ∧
      (∀ W : World, (Instr.slice t (.slice a n cap) (some (.int .i64 l)) (some (.int .i64 u)) none).run P W = .ok (.slice a' (u - l) c') W) ∧
      (u = n → ∀ W : World, (Instr.slice t (.slice a n cap) (some (.int .i64 l)) none none).run P W = .ok (.slice a' (u - l) c') W) ∧
      (l = 0 → ∀ W : World, (Instr.slice t (.slice a n cap) none (some (.int .i64 u)) none).run P W = .ok (.slice a' (u - l) c') W) := by
  obtain ⟨i, hi, hz, hsz, hby⟩ := T.info
  obtain ⟨a', cap', he', h1, hm, h0, h2⟩ := h
  cases he'
  refine ⟨if cap = l then a else a.map (·.add (l * size)), cap - l, ⟨_, _, rfl, by omega, by omega, ?_, ?_⟩, ?_, fun W => ?_, fun hun W => ?_, fun hl0 W => ?_⟩
  · intro ha
    split at ha
    · omega
    · have := h0 (by simpa using ha)
      omega
  · rcases h2 with ⟨rfl, rfl⟩ | ⟨b, off, rfl, hcell⟩
    · exact .inl ⟨by omega, by simp⟩
    · by_cases hcl : cap = l
      · have : u - l = 0 := by omega
        refine .inr ⟨b, off, by simp [hcl], ?_⟩
        intro j v hj
        simp [this] at hj
      · refine .inr ⟨b, off + l * size, ?_, ?_⟩
        · simp only [hcl, if_false, Option.map_some]
          unfold Addr.add
          split <;> simp_all
        · intro j v hj
          have hj' : cs[l * size + j]? = some v := by
            rw [List.getElem?_take] at hj
            split at hj
            · rwa [List.getElem?_drop] at hj
            · simp at hj
          have := hcell _ v hj'
          rwa [show off + l * size + j = off + (l * size + j) by omega]
  · intro k hk
    split at hk
    · cases a with
      | none => simp [Value.ownBlock] at hk
      | some ad => exact hk
    · cases a with
      | none => simp [Value.ownBlock] at hk
      | some ad =>
        simp only [Option.map_some] at hk
        unfold Addr.add at hk
        split at hk <;> exact hk
  · simp [Instr.slice, run_underlying T.und, Instr.sliceBounds, run_sliceBound, show l ≤ u from hl, show (u : Int) ≤ (cap : Int) by omega, sizeOf, run_typeInfo _ hi, hsz]
  · subst hun
    simp [Instr.slice, run_underlying T.und, Instr.sliceBounds, run_sliceBound, show l ≤ u from hl, sizeOf, run_typeInfo _ hi, hsz]
  · subst hl0
    simp [Instr.slice, run_underlying T.und, Instr.sliceBounds, run_sliceBound, show (u : Int) ≤ (cap : Int) by omega, sizeOf, run_typeInfo _ hi, hsz]

/-- min of two numbers that are told as natural ones, under a name of its own. -/
theorem run_min_nat {P : Program} (x y : Nat) : ∃ m : Nat, Hid (m = min x y) ∧ ∀ (ts : Array TypeId) (t : TypeId) (W : World), (Builtin.min_ ts t #[.int .i64 x, .int .i64 y]).run P W = .ok (.int .i64 m) W := by
  refine ⟨min x y, rfl, fun ts t W => ?_⟩
  rw [run_min_int2]
  congr 2
  split <;> omega

theorem Rd.lt {w : World} {v : Value} {n : Nat} {cs : List Value} (h : Rd w v n cs) {k : Nat} (hk : v.ownBlock = some k) (hn : 0 < cs.length) : k < w.heap.size := by
  obtain ⟨_, _, _, hb⟩ := h.blk hk hn
  exact blk_lt hb
theorem toUpd {P : Program} {f : FuncId} {args : Array Value} {w : World} {E : Ending} (h : Calls P f args w fun e w' => e = E ∧ ∃ n, w' = w.drewN n) : Calls P f args w fun e w' => e = E ∧ Upd [] w w' :=
  h.mono fun _ _ ⟨he, n, hn⟩ => ⟨he, by rw [hn]; exact (Upd.refl _ _).drewN _⟩
theorem toUpd0 {P : Program} {f : FuncId} {args : Array Value} {w : World} {E : Ending} (h : Calls P f args w fun e w' => e = E ∧ w = w') : Calls P f args w fun e w' => e = E ∧ Upd [] w w' :=
  h.mono fun _ _ ⟨he, hn⟩ => ⟨he, by rw [← hn]; exact Upd.refl _ _⟩

/-- A literal row of numbers, just made. -/
theorem rd_lit (xs : List Int) (w : World) (e : TypeId) (hm : xs.length ≤ maxLen) : Rd (w.alloc (.cells (xs.map (Value.int .i64)).toArray e)) (.slice (some ⟨w.heap.size, 0, none⟩) xs.length xs.length) xs.length (xs.map (Value.int .i64)) := by
  refine ⟨_, xs.length, rfl, Nat.le_refl _, hm, (fun h => by cases h), .inr ⟨_, 0, rfl, fun j u hj => ?_⟩⟩
  rw [Nat.zero_add, World.cell?_alloc_at _ _ _ _ rfl]
  simpa using hj

/-- What the form tells of a row of numbers that came in. -/
theorem Rd.of_ints {W : World} {k : IntKind} {a : Option Addr} {len cap : Nat} {zs : List Int}
    (h : (a = none ∧ len = 0 ∧ cap = 0 ∧ zs = []) ∨ ∃ x, a = some x ∧ len ≤ cap ∧ cap ≤ maxLen ∧ zs.length = cap ∧ (∀ i, i < zs.length → W.cell? (x.add i) = some (.int k (zs.getD i 0))) ∧ ∀ n ∈ zs, (Lit.int k n).wf = true) :
    ∃ xs : List Int, len = xs.length ∧ Rd W (.slice a xs.length cap) xs.length (xs.map (Value.int k)) ∧ ∀ n ∈ xs, (Lit.int k n).wf = true := by
  rcases h with ⟨rfl, rfl, rfl, rfl⟩ | ⟨x, rfl, hl, hm, hz, hc, hw⟩
  · exact ⟨[], rfl, Rd.nil W, fun n hn => by simp at hn⟩
  · refine ⟨zs.take len, by simp; omega, ?_, fun n hn => hw n (List.mem_of_mem_take hn)⟩
    have hlen : (zs.take len).length = len := by simp; omega
    rw [hlen]
    refine ⟨_, cap, rfl, hl, hm, (fun h => by cases h), ?_⟩
    rcases Nat.eq_zero_or_pos len with rfl | hp
    · exact .inl ⟨rfl, by simp⟩
    · have h0 := hc 0 (by omega)
      have hs : x.spot = none := by
        have e : x.add 0 = x := by simp [Addr.add]
        rw [e] at h0
        simp only [World.cell?] at h0
        split at h0
        · split at h0
          · simp at h0
          · simpa using ‹¬ x.spot.isSome = true›
        · simp at h0
      obtain ⟨b, off, spot⟩ := x
      simp only at hs
      subst hs
      refine .inr ⟨b, off, rfl, fun j u hj => ?_⟩
      rw [List.getElem?_map] at hj
      obtain ⟨y, hy, rfl⟩ := Option.map_eq_some_iff.1 hj
      have hjl : j < len := by
        have := (List.getElem?_eq_some_iff.1 hy).1
        simp at this
        omega
      rw [List.getElem?_take, if_pos hjl] at hy
      have := hc j (by omega)
      have e2 : (⟨b, off, none⟩ : Addr).add j = ⟨b, off + j, none⟩ := by unfold Addr.add; split <;> simp_all
      rw [e2] at this
      rw [this]
      simp [List.getD, hy]

theorem wf_u8 {x : Int} (h : (Lit.int .u8 x).wf = true) : 0 ≤ x ∧ x ≤ 255 := by
  simp only [Lit.wf, Bool.and_eq_true, decide_eq_true_eq] at h
  exact ⟨h.1, h.2⟩

theorem one_ints (xs : List Int) : ∀ u ∈ xs.map (Value.int .i64), u.oneCell' = true := by
  intro u hu
  obtain ⟨x, _, rfl⟩ := List.mem_map.1 hu
  rfl
theorem get_ints {xs : List Int} {j : Nat} (h : j < xs.length) : (xs.map (Value.int .i64))[j]? = some (.int .i64 (xs.getD j 0)) := by
  simp [h, List.getD]

end Go.Proofs.YtjnhahdelipebaaH
