/- Rows of tasks by number that wait at a channel: plain; what lies beside a channel. -/
import Derived.Test.YthchclhleppdhaaChanWait
import Derived.Test.YthchclhleppdhaaBestMax
import Derived.Test.YthchclhleppdhaaRefOrder
namespace Go.Proofs.Ythchclhleppdhaa
set_option linter.unusedVariables false
set_option linter.unusedSimpArgs false
open Go.RowKit
/-- Task j, who came j-th. -/
structure RowFn (f : Nat → Wt) : Prop where
  task : ∀ j : Nat, (f j).task = j
  case_ : ∀ j : Nat, (f j).case_ = 0
  seq : ∀ j : Nat, (f j).seq = j
def rowF (f : Nat → Wt) (n : Nat) (P : Nat → Bool) : List Wt := ((List.range n).filter P).map f
theorem rowF_zero (f : Nat → Wt) (P : Nat → Bool) : rowF f 0 P = [] := rfl
theorem rowF_all_succ (f : Nat → Wt) (n : Nat) : rowF f (n + 1) (fun _ => true) = rowF f n (fun _ => true) ++ [f n] := by
  simp [rowF, List.range_succ]
theorem rowF_len (f : Nat → Wt) (n : Nat) (P : Nat → Bool) : (rowF f n P).length ≤ n := by
  unfold rowF
  rw [List.length_map]
  exact Nat.le_trans (List.length_filter_le _ _) (by simp)
theorem rowF_all_len (f : Nat → Wt) (n : Nat) : (rowF f n (fun _ => true)).length = n := by
  unfold rowF
  rw [List.length_map, List.filter_eq_self.2 (fun _ _ => rfl), List.length_range]
theorem rowF_congr (f : Nat → Wt) {n : Nat} {P Q : Nat → Bool} (h : ∀ j, j < n → P j = Q j) : rowF f n P = rowF f n Q := by
  unfold rowF
  rw [List.filter_congr (fun x hx => h x (List.mem_range.1 hx))]
theorem mem_rowF {f : Nat → Wt} {n : Nat} {P : Nat → Bool} {x : Wt} : x ∈ rowF f n P ↔ ∃ j, j < n ∧ P j = true ∧ x = f j := by
  unfold rowF
  simp only [List.mem_map, List.mem_filter, List.mem_range]
  exact ⟨fun ⟨j, ⟨h1, h2⟩, h3⟩ => ⟨j, h1, h2, h3.symm⟩, fun ⟨j, h1, h2, h3⟩ => ⟨j, ⟨h1, h2⟩, h3.symm⟩⟩
theorem rowF_has2 {f : Nat → Wt} (hf : RowFn f) (n : Nat) (P : Nat → Bool) (m : Nat) (h : n ≤ m) : has2 (rowF f n P) (f m) = false := by
  unfold has2
  rw [List.any_eq_false]
  intro x hx
  obtain ⟨j, hj, _, rfl⟩ := mem_rowF.1 hx
  rw [hf.task, hf.task]
  simp
  intro h1
  omega
theorem rowF_best {f : Nat → Wt} (hf : RowFn f) (ps : List Int) (n : Nat) (P : Nat → Bool) (h : ∃ j, j < n ∧ P j = true) :
    ∃ i k, bestTo ps (rowF f n P) (rowF f n P).length = some i ∧ (rowF f n P)[i]? = some (f k) ∧ k < n ∧ P k = true ∧ ∀ j, j < n → P j = true → prioOf ps j ≤ prioOf ps k ∧ (prioOf ps k = prioOf ps j → k ≤ j) := by
  obtain ⟨j0, h0, h1⟩ := h
  have hm : f j0 ∈ rowF f n P := mem_rowF.2 ⟨j0, h0, h1, rfl⟩
  obtain ⟨i, hi⟩ := bestTo_some ps (rowF f n P) (rowF f n P).length (List.length_pos_of_mem hm)
  obtain ⟨x, hx, hmax⟩ := bestTo_max ps (rowF f n P) _ i (Nat.le_refl _) hi
  obtain ⟨j, hj, hP, rfl⟩ := mem_rowF.1 (List.mem_of_getElem? hx)
  refine ⟨i, j, hi, hx, hj, hP, fun j' hj' hP' => ?_⟩
  obtain ⟨m, hml, hm2⟩ := List.getElem_of_mem (mem_rowF.2 ⟨j', hj', hP', rfl⟩)
  have := hmax m (f j') hml (by rw [List.getElem?_eq_getElem hml, hm2])
  have hb : ¬ bet ps (f j) (f j') = true := by simp [this]
  rw [bet_iff, hf.task, hf.task, hf.seq, hf.seq] at hb
  constructor
  · omega
  · intro he
    omega
theorem erase_nodup : ∀ (L : List Nat) (i k : Nat), L.Nodup → L[i]? = some k → L.eraseIdx i = L.filter (fun x => !(x == k))
  | [], i, k, _, h => by simp at h
  | a :: L, 0, k, hn, h => by
    simp at h
    subst h
    have h1 := (List.nodup_cons.1 hn).1
    rw [List.eraseIdx_zero, List.tail_cons, List.filter_cons]
    simp only [beq_self_eq_true, Bool.not_true, Bool.false_eq_true, if_false]
    symm
    rw [List.filter_eq_self]
    intro x hx
    have : x ≠ a := fun h => h1 (h ▸ hx)
    simpa using this
  | a :: L, i + 1, k, hn, h => by
    have h0 : L[i]? = some k := by simpa using h
    have h1 := (List.nodup_cons.1 hn).1
    have hak : a ≠ k := fun h => h1 (h ▸ List.mem_of_getElem? h0)
    rw [List.eraseIdx_cons_succ, List.filter_cons, erase_nodup L i k (List.nodup_cons.1 hn).2 h0, if_pos (by simpa using hak)]
theorem erase_map (f : Nat → Wt) : ∀ (L : List Nat) (i : Nat), (L.map f).eraseIdx i = (L.eraseIdx i).map f
  | [], i => by simp
  | a :: L, 0 => by simp
  | a :: L, i + 1 => by simp [erase_map f L i]
theorem rowF_erase {f : Nat → Wt} (hf : RowFn f) (n : Nat) (P : Nat → Bool) (i k : Nat) (h : (rowF f n P)[i]? = some (f k)) : (rowF f n P).eraseIdx i = rowF f n (fun x => P x && !(x == k)) := by
  unfold rowF at *
  rw [List.getElem?_map] at h
  obtain ⟨j, hj, he⟩ := Option.map_eq_some_iff.1 h
  have hjk : j = k := by
    have := congrArg Wt.task he
    rw [hf.task, hf.task] at this
    omega
  subst hjk
  rw [erase_map, erase_nodup _ i j (List.nodup_range.filter _) hj, List.filter_filter]
  congr 1
  apply List.filter_congr
  intro x _
  exact Bool.and_comm _ _
theorem rowF_none {f : Nat → Wt} {n : Nat} {P : Nat → Bool} (h : rowF f n P = []) : ∀ j, j < n → P j = false := by
  intro j hj
  cases hP : P j with
  | false => rfl
  | true =>
    have := (mem_rowF (f := f)).2 ⟨j, hj, hP, rfl⟩
    rw [h] at this
    simp at this
theorem rowF_some {f : Nat → Wt} {n : Nat} {P : Nat → Bool} (h : 0 < (rowF f n P).length) : ∃ j, j < n ∧ P j = true := by
  obtain ⟨x, hx⟩ := List.exists_mem_of_length_pos h
  obtain ⟨j, h1, h2, _⟩ := mem_rowF.1 hx
  exact ⟨j, h1, h2⟩
/-- A row of another type beside a channel: each stays while the other turns. -/
theorem ChanP.beside {w w' : World} {p rp c room : Nat} {xs : List Int} {sq rq : List Wt} {cl : Bool} (h : ChanP w p rp c room xs sq rq cl) {base n size : Nat} {e : TypeId} {v : Value} {cs : List Value} (ho : w.ownsRow base e size v n cs)
    (h1 : 76 ≠ e) (h2 : 103 ≠ e) (h3 : e ≠ 31) (hu : Upd v.ownBlock.toList w w') : ChanP w' p rp c room xs sq rq cl := by
  have hn : ∀ {k : Nat} {cells : Array Value} {t : TypeId}, w.heap[k]? = some (.cells cells t (0, 0)) → t ≠ e → k ∉ v.ownBlock.toList := by
    intro k cells t hk hne hm
    obtain ⟨cc, hc⟩ := own_block ho (by simpa using hm)
    rw [hk] at hc
    injection (Option.some.inj hc) with _ h4 _
    exact hne h4
  obtain ⟨_, _, _, _, hp, _⟩ := h.ch.ex
  refine h.keep hu (hn hp h1) (hn h.ring.obj h2) ?_ ?_
  · intro hm
    obtain ⟨cc, hc⟩ := own_block ho (by simpa using hm)
    obtain ⟨s, r, hr⟩ := h.ring.chan
    rw [hr] at hc
    cases hc
  · intro k hk cells hc
    obtain ⟨cc, hc2⟩ := own_block ho (by simpa using hk)
    rw [hc] at hc2
    injection (Option.some.inj hc2) with _ h4 _
    exact h3 h4.symm
theorem ChanP.row {w w' : World} {p rp c room : Nat} {xs : List Int} {sq rq : List Wt} {cl : Bool} (h : ChanP w p rp c room xs sq rq cl) {base n size : Nat} {e : TypeId} {v : Value} {cs : List Value} (ho : w.ownsRow base e size v n cs)
    (h1 : 76 ≠ e) (hu : Upd [p, c] w w') : w'.ownsRow base e size v n cs :=
  own_keepT ho hu (NotT.two (h.ch.notT h1) h.ring.notT)
theorem Upd.pc1 {w w' : World} {p c : Nat} (h : Upd [p] w w') : Upd [p, c] w w' := h.mono (fun z hz _ => by simp at hz; simp [hz])
theorem Upd.pc2 {w w' : World} {p c : Nat} (h : Upd [c] w w') : Upd [p, c] w w' := h.mono (fun z hz _ => by simp at hz; simp [hz])
theorem Upd.pc0 {w w' : World} {p c : Nat} (h : Upd [] w w') : Upd [p, c] w w' := h.mono (fun z hz _ => by simp at hz)
theorem Upd.fresh {w0 w w' : World} {p c : Nat} (h : Upd [] w0 w) (hu : Upd [p, c] w w') (hp : w0.heap.size ≤ p) (hc : w0.heap.size ≤ c) : Upd [] w0 w' :=
  h.trans hu (fun x hx hl => by simp at hx; omega)
/-- A row of truths beside a channel. -/
theorem ChanP.bools {w w' : World} {p rp c room : Nat} {xs : List Int} {sq rq : List Wt} {cl : Bool} (h : ChanP w p rp c room xs sq rq cl) {g n : Nat} {e : TypeId} {F : Nat → Value} (ho : w.rowIs g e n F)
    (h1 : 76 ≠ e) (hu : Upd [p, c] w w') : w'.rowIs g e n F := by
  refine rowIs_keep14 ho hu ?_
  obtain ⟨cc, hc, _⟩ := ho
  obtain ⟨_, _, _, _, hp, _⟩ := h.ch.ex
  obtain ⟨s, r, hr⟩ := h.ring.chan
  intro hm
  simp only [List.mem_cons, List.not_mem_nil, or_false] at hm
  rcases hm with rfl | rfl
  · rw [hp] at hc
    injection (Option.some.inj hc) with _ h4 _
    exact h1 h4
  · rw [hr] at hc
    cases hc
theorem ChanP.besideB {w w' : World} {p rp c room : Nat} {xs : List Int} {sq rq : List Wt} {cl : Bool} (h : ChanP w p rp c room xs sq rq cl) {g n : Nat} {e : TypeId} {F : Nat → Value} (ho : w.rowIs g e n F)
    (h1 : 76 ≠ e) (h2 : 103 ≠ e) (h3 : e ≠ 31) (hu : Upd [g] w w') : ChanP w' p rp c room xs sq rq cl := by
  obtain ⟨cc, hc, _⟩ := ho
  obtain ⟨_, _, _, _, hp, _⟩ := h.ch.ex
  obtain ⟨s, r, hr⟩ := h.ring.chan
  refine h.keep hu ?_ ?_ ?_ (NotT.one hc h3)
  · simp only [List.mem_singleton]
    rintro rfl
    rw [hp] at hc
    injection (Option.some.inj hc) with _ h4 _
    exact h1 h4
  · simp only [List.mem_singleton]
    rintro rfl
    rw [h.ring.obj] at hc
    injection (Option.some.inj hc) with _ h4 _
    exact h2 h4
  · simp only [List.mem_singleton]
    rintro rfl
    rw [hr] at hc
    cases hc
end Go.Proofs.Ythchclhleppdhaa
