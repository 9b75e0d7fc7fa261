/- What goes through a channel: plain. -/
import Derived.Test.YthchclhleppdhaaChanRooms
import Derived.Test.YthchclhleppdhaaPush2
namespace Go.Proofs.Ythchclhleppdhaa
set_option linter.unusedVariables false
set_option linter.unusedSimpArgs false
open Go.RowKit
def fS (j : Nat) : Wt := ⟨j, 0, j, j⟩
def fR (j : Nat) : Wt := ⟨j, 0, j, 0⟩
theorem fS_fn : RowFn fS := ⟨fun _ => rfl, fun _ => rfl, fun _ => rfl⟩
theorem fR_fn : RowFn fR := ⟨fun _ => rfl, fun _ => rfl, fun _ => rfl⟩
/-- Blocks apart. -/
def Apart (a b : Value) : Prop := ∀ k, a.ownBlock = some k → b.ownBlock ≠ some k
theorem Apart.symm {a b : Value} (h : Apart a b) : Apart b a := fun k h1 h2 => h k h2 h1
theorem Apart.notin {a b : Value} (h : Apart a b) : ∀ k, a.ownBlock = some k → k ∉ b.ownBlock.toList := fun k hk hm => h k hk (by simpa using hm)
theorem Apart.push {W : World} {sv cv : Value} {base size n : Nat} {e : TypeId} {cs : List Value} (h : Apart sv cv) (ho : W.ownsRow base e size cv n cs) {g m c : Nat} (hat : sv.ownBlock = some g ∨ W.heap.size ≤ g) : Apart (.slice (some ⟨g, 0, none⟩) m c) cv := by
  intro k hk hc
  simp [Value.ownBlock] at hk
  subst hk
  rcases hat with hat | hat
  · exact h _ hat hc
  · have := (ho.lt _ hc).2
    omega
theorem apart_nil (b : Value) : Apart (.slice none 0 0) b := fun k hk => by simp [Value.ownBlock] at hk
/-- How it stands after i rounds: what is there, who would send, who would receive, what was sent, what came. -/
structure FlowOk (n i : Nat) (X : List Int) (P Q : Nat → Bool) (sent came : List Int) : Prop where
  hP : ∀ q, i ≤ q → P q = false
  hQ : ∀ q, i ≤ q → Q q = false
  seq : sent = came ++ X
  len : X.length ≤ n
  few : sent.length ≤ i
  full : (∃ q, P q = true) → X.length = n ∧ ∀ q, Q q = false
  none : (∃ q, Q q = true) → X = [] ∧ ∀ q, P q = false
theorem FlowOk.start (n : Nat) : FlowOk n 0 [] (fun _ => false) (fun _ => false) [] [] :=
  ⟨fun _ _ => rfl, fun _ _ => rfl, rfl, by simp, by simp, fun h => (by obtain ⟨q, h⟩ := h; cases h), fun h => (by obtain ⟨q, h⟩ := h; cases h)⟩
theorem row_keep (f : Nat → Wt) {i : Nat} {P : Nat → Bool} (h : P i = false) : rowF f (i + 1) P = rowF f i P := by
  rw [rowF_succ, h]
  simp
theorem row_add (f : Nat → Wt) {i : Nat} {P : Nat → Bool} : rowF f (i + 1) (fun q => P q || q == i) = rowF f i P ++ [f i] := by
  rw [rowF_succ]
  have h1 : rowF f i (fun q => P q || q == i) = rowF f i P := rowF_congr f (fun j hj => by
    have : (j == i) = false := beq_eq_false_iff_ne.2 (by omega)
    simp [this])
  rw [h1]
  simp
theorem row_emp (f : Nat → Wt) {i : Nat} {P : Nat → Bool} (h : ∀ q, P q = false) : rowF f i P = [] := rowF_none_of f (fun j _ => h j)
theorem prio_nilF (t : Int) : prioOf [] t = 0 := by unfold prioOf; split <;> simp
/-- Somebody waits: who is first, and the others. -/
theorem flow_best {f : Nat → Wt} (hf : RowFn f) {i : Nat} {P : Nat → Bool} (hP : ∀ q, i ≤ q → P q = false) (h : ∃ q, P q = true) : ∃ r k, bestTo [] (rowF f i P) (rowF f i P).length = some r ∧ (rowF f i P)[r]? = some (f k) ∧ k < i ∧ P k = true ∧ (rowF f i P).eraseIdx r = rowF f (i + 1) (fun x => P x && !(x == k)) := by
  obtain ⟨q, hq⟩ := h
  have hqi : q < i := by
    rcases Nat.lt_or_ge q i with h | h
    · exact h
    · rw [hP q h] at hq; cases hq
  obtain ⟨r, k, h1, h2, h3, h4, _⟩ := rowF_best hf [] i P ⟨q, hqi, hq⟩
  refine ⟨r, k, h1, h2, h3, h4, ?_⟩
  rw [rowF_erase hf i P r k h2, row_keep f (by rw [hP i (Nat.le_refl i)]; rfl)]
theorem and_none {P : Nat → Bool} {k : Nat} (h : ∃ q, (P q && !(q == k)) = true) : ∃ q, P q = true := by
  obtain ⟨q, h⟩ := h
  rw [Bool.and_eq_true] at h
  exact ⟨q, h.1⟩
theorem FlowOk.handR {n i : Nat} {X : List Int} {P Q : Nat → Bool} {s c : List Int} (h : FlowOk n i X P Q s c) (k : Nat) (v : Int) (hq : ∃ q, Q q = true) : FlowOk n (i + 1) X P (fun x => Q x && !(x == k)) (s ++ [v]) (c ++ [v]) where
  hP := fun q hq => h.hP q (by omega)
  hQ := fun q hq => by simp [h.hQ q (by omega)]
  seq := by rw [h.seq, (h.none hq).1]; simp
  len := h.len
  few := by have := h.few; simp; omega
  full := fun hp => by
    obtain ⟨q, hp⟩ := hp
    rw [(h.none hq).2 q] at hp
    cases hp
  none := fun _ => h.none hq
theorem FlowOk.push {n i : Nat} {X : List Int} {P Q : Nat → Bool} {s c : List Int} (h : FlowOk n i X P Q s c) (v : Int) (hq : ∀ q, Q q = false) (hl : X.length < n) : FlowOk n (i + 1) (X ++ [v]) P Q (s ++ [v]) c where
  hP := fun q hq => h.hP q (by omega)
  hQ := fun q _ => hq q
  seq := by rw [h.seq]; simp
  len := by simp; omega
  few := by have := h.few; simp; omega
  full := fun hp => by have := (h.full hp).1; omega
  none := fun h => by obtain ⟨q, h⟩ := h; rw [hq q] at h; cases h
theorem FlowOk.waitS {n i : Nat} {X : List Int} {P Q : Nat → Bool} {s c : List Int} (h : FlowOk n i X P Q s c) (hq : ∀ q, Q q = false) (hl : ¬ X.length < n) : FlowOk n (i + 1) X (fun q => P q || q == i) Q s c where
  hP := fun q hq => by
    have h1 : (q == i) = false := beq_eq_false_iff_ne.2 (by omega)
    simp [h.hP q (by omega), h1]
  hQ := fun q _ => hq q
  seq := h.seq
  len := h.len
  few := by have := h.few; omega
  full := fun _ => ⟨by have := h.len; omega, hq⟩
  none := fun h => by obtain ⟨q, h⟩ := h; rw [hq q] at h; cases h
theorem FlowOk.waitR {n i : Nat} {P Q : Nat → Bool} {s c : List Int} (h : FlowOk n i [] P Q s c) (hp : ∀ q, P q = false) : FlowOk n (i + 1) [] P (fun q => Q q || q == i) s c where
  hP := fun q _ => hp q
  hQ := fun q hq => by
    have h1 : (q == i) = false := beq_eq_false_iff_ne.2 (by omega)
    simp [h.hQ q (by omega), h1]
  seq := h.seq
  len := h.len
  few := by have := h.few; omega
  full := fun h => by obtain ⟨q, h⟩ := h; rw [hp q] at h; cases h
  none := fun _ => ⟨rfl, hp⟩
theorem FlowOk.recv {n i : Nat} {x : Int} {X : List Int} {P Q : Nat → Bool} {s c : List Int} (h : FlowOk n i (x :: X) P Q s c) (hp : ∀ q, P q = false) : FlowOk n (i + 1) X P Q s (c ++ [x]) where
  hP := fun q hq => h.hP q (by omega)
  hQ := fun q hq => h.hQ q (by omega)
  seq := by rw [h.seq]; simp
  len := by have := h.len; simp at this; omega
  few := by have := h.few; omega
  full := fun h => by obtain ⟨q, h⟩ := h; rw [hp q] at h; cases h
  none := fun hq => by have := (h.none hq).1; cases this
theorem FlowOk.both {n i : Nat} {x : Int} {X : List Int} {P Q : Nat → Bool} {s c : List Int} (h : FlowOk n i (x :: X) P Q s c) (k : Nat) (v : Int) (hp : ∃ q, P q = true) : FlowOk n (i + 1) (X ++ [v]) (fun y => P y && !(y == k)) Q (s ++ [v]) (c ++ [x]) where
  hP := fun q hq => by simp [h.hP q (by omega)]
  hQ := fun q hq => h.hQ q (by omega)
  seq := by rw [h.seq]; simp
  len := by have := h.len; simp at this ⊢; omega
  few := by have := h.few; simp; omega
  full := fun _ => ⟨by have := (h.full hp).1; simpa using this, (h.full hp).2⟩
  none := fun hq => by obtain ⟨q, hq⟩ := hq; rw [(h.full hp).2 q] at hq; cases hq
theorem FlowOk.handS {n i : Nat} {P Q : Nat → Bool} {s c : List Int} (h : FlowOk n i [] P Q s c) (k : Nat) (v : Int) (hp : ∃ q, P q = true) : FlowOk n (i + 1) [] (fun y => P y && !(y == k)) Q (s ++ [v]) (c ++ [v]) where
  hP := fun q hq => by simp [h.hP q (by omega)]
  hQ := fun q hq => h.hQ q (by omega)
  seq := by rw [h.seq]; simp
  len := h.len
  few := by have := h.few; simp; omega
  full := fun _ => h.full hp
  none := fun hq => by obtain ⟨q, hq⟩ := hq; rw [(h.full hp).2 q] at hq; cases hq
end Go.Proofs.Ythchclhleppdhaa
