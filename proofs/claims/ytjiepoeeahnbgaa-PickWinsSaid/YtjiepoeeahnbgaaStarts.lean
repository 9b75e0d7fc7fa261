/- Starts and cases as the laws of package watchbilllaw16 build them. -/
import Derived.Test.YtjiepoeeahnbgaaKnown16
import Derived.Test.YtjiepoeeahnbgaaRdBools
namespace Go.Proofs.Ytjiepoeeahnbgaa
set_option linter.unusedVariables false
set_option linter.unusedSimpArgs false
open Go.RowKit
theorem get_bools {xs : List Bool} {j : Nat} (h : j < xs.length) : (xs.map Value.bool)[j]? = some (.bool (xs.getD j false)) := by
  rw [List.getElem?_map, List.getElem?_eq_getElem h]
  simp [List.getD, h]
theorem notT_own {w : World} {base : Nat} {e e' : TypeId} {size n : Nat} {v : Value} {cs : List Value} (ho : w.ownsRow base e size v n cs) (hne : e ≠ e') : NotT w v.ownBlock.toList e' := by
  intro k hk cells hc
  obtain ⟨c, h⟩ := own_block ho (by simpa using hk)
  rw [h] at hc
  injection (Option.some.inj hc) with _ h2 _
  exact hne h2
/-- A start of this room, with this value or none. -/
def SxLit (w : World) (room : Nat) (o : Option Int) (x : Sx) : Prop :=
  match o with
  | none => x = ⟨room, none, 0, []⟩
  | some v => ∃ g, x = ⟨room, some ⟨g, 0, none⟩, 1, [v]⟩ ∧ w.heap[g]? = some (.cells #[.int .i64 v] 2 (0, 0))
theorem SxLit.keep {S : List Nat} {w w' : World} {room : Nat} {o : Option Int} {x : Sx} (h : SxLit w room o x) (hu : Upd S w w') (hS : NotT w S 2) : SxLit w' room o x := by
  unfold SxLit at *
  cases o with
  | none => exact h
  | some v =>
    obtain ⟨g, rfl, hg⟩ := h
    exact ⟨g, rfl, hu.keep hg (fun hm => hS g hm _ hg)⟩
theorem SxLit.room {w : World} {room : Nat} {o : Option Int} {x : Sx} (h : SxLit w room o x) : x.room = room ∧ x.vs = o.toList := by
  unfold SxLit at h
  cases o with
  | none => subst h; exact ⟨rfl, rfl⟩
  | some v =>
    obtain ⟨g, rfl, hg⟩ := h
    exact ⟨rfl, rfl⟩
theorem SxLit.read {w : World} {room : Nat} {o : Option Int} {x : Sx} (h : SxLit w room o x) : RdI w (.slice x.va x.vs.length x.vc) x.vs := by
  unfold SxLit at h
  cases o with
  | none => subst h; exact Rd.nil _
  | some v =>
    obtain ⟨g, rfl, hg⟩ := h
    exact rd_cells hg 1 (by unfold maxLen; omega)
/-- The first i starts. -/
def SxTo (w : World) (room : Nat) (vals : Nat → Option Int) (i : Nat) (xs : List Sx) : Prop :=
  xs.length = i ∧ ∀ (j : Nat) (x : Sx), xs[j]? = some x → SxLit w room (vals j) x
theorem SxTo.nil (w : World) (room : Nat) (vals : Nat → Option Int) : SxTo w room vals 0 [] := ⟨rfl, fun j x h => by simp at h⟩
theorem SxTo.keep {S : List Nat} {w w' : World} {room : Nat} {vals : Nat → Option Int} {i : Nat} {xs : List Sx} (h : SxTo w room vals i xs) (hu : Upd S w w') (hS : NotT w S 2) : SxTo w' room vals i xs :=
  ⟨h.1, fun j x hx => (h.2 j x hx).keep hu hS⟩
theorem SxTo.snoc {w : World} {room : Nat} {vals : Nat → Option Int} {i : Nat} {xs : List Sx} (h : SxTo w room vals i xs) {x : Sx} (hx : SxLit w room (vals i) x) : SxTo w room vals (i + 1) (xs ++ [x]) := by
  obtain ⟨h1, h2⟩ := h
  refine ⟨by simp [h1], fun j y hy => ?_⟩
  rw [List.getElem?_append] at hy
  split at hy
  · exact h2 j y hy
  · have := (List.getElem?_eq_some_iff.1 hy).1
    simp at this
    have e : j - xs.length = 0 := by omega
    rw [e] at hy
    simp at hy
    subst hy
    have e2 : j = i := by omega
    subst e2
    exact hx
theorem SxTo.made {w : World} {room : Nat} {vals : Nat → Option Int} {i : Nat} {xs : List Sx} (h : SxTo w room vals i xs) (hr : room < 256) (hv : ∀ j, (vals j).toList.length ≤ room % 5) :
    ∀ x ∈ xs, RdI w (.slice x.va x.vs.length x.vc) x.vs ∧ x.vs.length ≤ x.room % 5 ∧ x.room < 256 := by
  intro x hx
  obtain ⟨j, hj⟩ := List.getElem?_of_mem hx
  have hl := h.2 j x hj
  refine ⟨hl.read, ?_, ?_⟩
  · rw [hl.room.1, hl.room.2]
    exact hv j
  · rw [hl.room.1]
    exact hr
/-- What the channels are once made. -/
theorem SxTo.begun {w : World} {room : Nat} {vals : Nat → Option Int} {i : Nat} {xs : List Sx} (h : SxTo w room vals i xs) {B : Nat} {st : List ChSt} (hb : Begun xs B st) {j : Nat} {s : ChSt} (hs : st[j]? = some s) :
    ∃ p rp c, s = ⟨p, rp, c, room % 5, (vals j).toList, [], [], false⟩ := by
  obtain ⟨_, _, x, hx, e1, e2, e3, e4, e5⟩ := hb j s hs
  have hl := (h.2 j x hx).room
  obtain ⟨p, rp, c, r, X, S, R, cl⟩ := s
  simp only at e1 e2 e3 e4 e5
  subst e1 e2 e3 e4 e5
  exact ⟨p, rp, c, by rw [hl.1, hl.2]⟩
theorem Begun.low {xs : List Sx} {B : Nat} {st : List ChSt} (h : Begun xs B st) : ∀ z ∈ blks st, B ≤ z := by
  intro z hz
  obtain ⟨s, hs, hm⟩ := List.mem_flatMap.1 hz
  obtain ⟨i, hi⟩ := List.getElem?_of_mem hs
  obtain ⟨h1, h2, _⟩ := h i s hi
  simp only [List.mem_cons, List.not_mem_nil, or_false] at hm
  rcases hm with rfl | rfl <;> assumption
/-- The first i cases. -/
def csTo (send : Bool) (vf : Nat → Int) (i : Nat) : List Cs := (List.range i).map fun (j : Nat) => ⟨send, (j : Int), vf j⟩
theorem csTo_len (send : Bool) (vf : Nat → Int) (i : Nat) : (csTo send vf i).length = i := by simp [csTo]
theorem csTo_get (send : Bool) (vf : Nat → Int) {i j : Nat} (h : j < i) : (csTo send vf i)[j]? = some ⟨send, (j : Int), vf j⟩ := by
  simp [csTo, h]
theorem csTo_at {send : Bool} {vf : Nat → Int} {i j : Nat} {c : Cs} (h : (csTo send vf i)[j]? = some c) : j < i ∧ c = ⟨send, (j : Int), vf j⟩ := by
  have hj := (List.getElem?_eq_some_iff.1 h).1
  rw [csTo_len] at hj
  rw [csTo_get send vf hj] at h
  cases h
  exact ⟨hj, rfl⟩
theorem csTo_snoc (send : Bool) (vf : Nat → Int) (i : Nat) : csTo send vf (i + 1) = csTo send vf i ++ [⟨send, (i : Int), vf i⟩] := by
  simp [csTo, List.range_succ]
/-- The first of the first i that can. -/
def wantTo (f : Nat → Bool) : Nat → Option Nat
  | 0 => none
  | i + 1 => match wantTo f i with
    | some j => some j
    | none => if f i then some i else none
theorem wantTo_some {f : Nat → Bool} : ∀ {k i : Nat}, wantTo f k = some i → i < k ∧ f i = true ∧ ∀ j, j < i → f j = false
  | 0, i, h => by simp [wantTo] at h
  | k + 1, i, h => by
    unfold wantTo at h
    cases hw : wantTo f k with
    | some j =>
      rw [hw] at h
      simp only [Option.some.injEq] at h
      subst h
      have := wantTo_some hw
      exact ⟨by omega, this.2⟩
    | none =>
      rw [hw] at h
      simp only at h
      split at h
      · rename_i hf
        cases h
        exact ⟨by omega, hf, fun j hj => wantTo_none hw j hj⟩
      · cases h
where
  wantTo_none {f : Nat → Bool} : ∀ {k : Nat}, wantTo f k = none → ∀ j, j < k → f j = false
  | 0, _, j, hj => by omega
  | k + 1, h, j, hj => by
    unfold wantTo at h
    cases hw : wantTo f k with
    | some i => rw [hw] at h; cases h
    | none =>
      rw [hw] at h
      simp only at h
      split at h
      · cases h
      · rename_i hf
        by_cases e : j = k
        · subst e; simpa using hf
        · exact wantTo_none hw j (by omega)
theorem want_none {f : Nat → Bool} {k : Nat} (h : wantTo f k = none) : ∀ j, j < k → f j = false := wantTo_some.wantTo_none h
/-- The first case that can is the first of those that can. -/
theorem idx_want {st : List ChSt} {l : List Cs} {f : Nat → Bool} {k : Nat} (hl : l.length = k) (hc : ∀ (j : Nat) (c : Cs), l[j]? = some c → canOf st c = f j) : l.findIdx? (canOf st) = wantTo f k := by
  cases hw : wantTo f k with
  | none =>
    refine idx_none fun j c hj hc' => ?_
    rw [hc j c hc', want_none hw j (by omega)]
  | some i =>
    obtain ⟨h1, h2, h3⟩ := wantTo_some hw
    have hi : l[i]? = some (l[i]'(by omega)) := List.getElem?_eq_getElem _
    refine idx_first hi (by rw [hc i _ hi, h2]) fun j c hj hc' => ?_
    rw [hc j c hc', h3 j hj]
theorem tSx : ElemT Try.prog 23 28 (.agg #[.int .u8 0, .slice none 0 0, .slice none 0 0, .slice none 0 0, .bool false]) 5 88 :=
  ⟨Try.underlying23, by
    obtain ⟨i, hi, h⟩ := info_parts (show (Try.prog.info? 28).map (fun i => (i.zero, i.size, i.bytes)) = some (some (.agg #[.int .u8 0, .slice none 0 0, .slice none 0 0, .slice none 0 0, .bool false]), 5, 88) by kernel_rfl)
    exact ⟨i, hi, h⟩, rfl, by decide⟩
theorem tCs : ElemT Try.prog 24 30 (.agg #[.bool false, .int .i64 0, .int .i64 0]) 3 24 :=
  ⟨Try.underlying24, by
    obtain ⟨i, hi, h⟩ := info_parts (show (Try.prog.info? 30).map (fun i => (i.zero, i.size, i.bytes)) = some (some (.agg #[.bool false, .int .i64 0, .int .i64 0]), 3, 24) by kernel_rfl)
    exact ⟨i, hi, h⟩, rfl, by decide⟩
end Go.Proofs.Ytjiepoeeahnbgaa
