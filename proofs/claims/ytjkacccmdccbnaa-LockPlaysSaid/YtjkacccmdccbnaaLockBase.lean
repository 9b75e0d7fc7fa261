/- A lock in memory: who has it, who waits. One predicate for the program's lock and the reference's. -/
import Derived.Test.YtjkacccmdccbnaaWait
namespace Go.Proofs.Ytjkacccmdccbnaa
set_option linter.unusedVariables false
set_option linter.unusedSimpArgs false
open Go.RowKit

theorem bet_iff (ps : List Int) (x y : Wt) : bet ps x y = true ↔ prioOf ps x.task < prioOf ps y.task ∨ (prioOf ps x.task = prioOf ps y.task ∧ y.seq < x.seq) := by
  simp only [bet, decide_eq_true_eq, orI, cmpI]
  generalize prioOf ps x.task = a
  generalize prioOf ps y.task = b
  generalize y.seq = c
  generalize x.seq = d
  by_cases h1 : a < b
  · simp [h1]
  · by_cases h2 : b < a
    · simp [h1, h2]; omega
    · obtain rfl : a = b := by omega
      by_cases h3 : c < d
      · simp [h3]
      · by_cases h4 : d < c <;> simp [h3, h4]


theorem two_cells {w : World} {b : Nat} {u v : Value} {t : TypeId} (h : w.heap[b]? = some (.cells #[u, v] t (0, 0))) : w.cell? ⟨b, 0, none⟩ = some u ∧ w.cell? ⟨b, 1, none⟩ = some v ∧ w.frozen? ⟨b, 0, none⟩ = false ∧ w.frozen? ⟨b, 1, none⟩ = false := by
  simp [World.cell?, World.frozen?, h]
theorem two_set0 {w : World} {b : Nat} {u v x : Value} {t : TypeId} (h : w.heap[b]? = some (.cells #[u, v] t (0, 0))) : (w.setCell ⟨b, 0, none⟩ x).heap[b]? = some (.cells #[x, v] t (0, 0)) := by
  simp only [World.setCell, Array.getElem?_modify, if_true, h, Option.map_some]
  rfl
theorem two_set1 {w : World} {b : Nat} {u v x : Value} {t : TypeId} (h : w.heap[b]? = some (.cells #[u, v] t (0, 0))) : (w.setCell ⟨b, 1, none⟩ x).heap[b]? = some (.cells #[u, x] t (0, 0)) := by
  simp only [World.setCell, Array.getElem?_modify, if_true, h, Option.map_some]
  rfl
theorem own_block {w : World} {base : Nat} {e : TypeId} {size n : Nat} {v : Value} {cs : List Value} (h : w.ownsRow base e size v n cs) {k : Nat} (hk : v.ownBlock = some k) : ∃ cells, w.heap[k]? = some (.cells cells e (0, 0)) := by
  rcases h.2 with ⟨rfl, _⟩ | ⟨g, cap, cur, rfl, hb, hg, _⟩
  · simp [Value.ownBlock] at hk
  · simp [Value.ownBlock] at hk
    subst hk
    exact ⟨cur, hg⟩
/-- None of these blocks is a row of elements of type e. -/
def NotT (w : World) (S : List Nat) (e : TypeId) : Prop := ∀ k ∈ S, ∀ cells, w.heap[k]? ≠ some (.cells cells e (0, 0))
theorem NotT.nil (w : World) (e : TypeId) : NotT w [] e := fun k hk => by simp at hk
theorem NotT.one {w : World} {k : Nat} {e t : TypeId} {c : Array Value} (h : w.heap[k]? = some (.cells c t (0, 0))) (hne : t ≠ e) : NotT w [k] e := by
  intro j hj cells hc
  simp only [List.mem_singleton] at hj
  subst hj
  rw [h] at hc
  cases hc
  exact hne rfl
theorem own_keepT {w w' : World} {base : Nat} {e : TypeId} {size n : Nat} {v : Value} {cs : List Value} {S : List Nat} (h : w.ownsRow base e size v n cs) (hu : Upd S w w') (hS : NotT w S e) : w'.ownsRow base e size v n cs :=
  own_keep h hu (fun k hk hm => by obtain ⟨c, hc⟩ := own_block h hk; exact hS k hm c hc)

/-- A lock of type T at block p; those that wait are elements of type E. -/
structure LockAt (w : World) (p : Nat) (T E : TypeId) (owner : Int) (q : List Wt) : Prop where
  ex : ∃ a cap, w.heap[p]? = some (.cells #[.int .i64 owner, .slice a q.length cap] T (0, 0)) ∧ w.ownsRow 0 E 4 (.slice a q.length cap) q.length (q.flatMap Wt.enc)
theorem LockAt.lt {w : World} {p : Nat} {T E : TypeId} {owner : Int} {q : List Wt} (h : LockAt w p T E owner q) : p < w.heap.size := by
  obtain ⟨a, cap, h1, _⟩ := h.ex
  exact blk_lt h1
theorem LockAt.notT {w : World} {p : Nat} {T E F : TypeId} {owner : Int} {q : List Wt} (h : LockAt w p T E owner q) (hne : T ≠ F) : NotT w [p] F := by
  obtain ⟨a, cap, h1, _⟩ := h.ex
  exact NotT.one h1 hne
theorem LockAt.keep {w w' : World} {p : Nat} {T E : TypeId} {owner : Int} {q : List Wt} {S : List Nat} (h : LockAt w p T E owner q) (hu : Upd S w w') (hp : p ∉ S) (hS : NotT w S E) : LockAt w' p T E owner q := by
  obtain ⟨a, cap, h1, h2⟩ := h.ex
  exact ⟨a, cap, hu.keep h1 hp, own_keepT h2 hu hS⟩
theorem LockAt.keep0 {w w' : World} {p : Nat} {T E : TypeId} {owner : Int} {q : List Wt} (h : LockAt w p T E owner q) (hu : Upd [] w w') : LockAt w' p T E owner q := h.keep hu (by simp) (NotT.nil _ _)
/-- Two locks of unlike types lie apart. -/
theorem LockAt.ne {w : World} {p p' : Nat} {T E T' E' : TypeId} {o o' : Int} {q q' : List Wt} (h : LockAt w p T E o q) (h' : LockAt w p' T' E' o' q') (hne : T ≠ T') : p ≠ p' := by
  rintro rfl
  obtain ⟨a, cap, h1, _⟩ := h.ex
  obtain ⟨a', cap', h1', _⟩ := h'.ex
  rw [h1] at h1'
  injection h1' with h3
  injection h3 with _ h4 _
  exact hne h4
/-- Those that stay when a task leaves. -/
def leave (q : List Wt) (t : Int) : List Wt := q.filter fun x => !(x.task == t)
theorem leave_len (q : List Wt) (t : Int) : (leave q t).length ≤ q.length := List.length_filter_le _ _
theorem leave_snoc (l : List Wt) (x : Wt) (t : Int) : leave (l ++ [x]) t = leave l t ++ (if x.task = t then [] else [x]) := by
  simp only [leave, List.filter_append, List.filter_cons, List.filter_nil]
  by_cases h : x.task = t <;> simp [h]
theorem take_succ_get {q : List Wt} {k : Nat} {x : Wt} (h : q[k]? = some x) : q.take (k + 1) = q.take k ++ [x] := by
  rw [List.take_add_one, h]
  rfl
theorem enc_snoc (l : List Wt) (x : Wt) : (l ++ [x]).flatMap Wt.enc = l.flatMap Wt.enc ++ x.enc := by simp
end Go.Proofs.Ytjkacccmdccbnaa
