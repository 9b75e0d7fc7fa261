/- Take and Give as functions of what a lock is, for the program's and the reference's lock alike. -/
import Derived.Test.YtjkacccmdccbnaaLock
import Derived.Test.YtjkacccmdccbnaaRefLock
import Derived.Test.YtjkacccmdccbnaaLockPure
namespace Go.Proofs.Ytjkacccmdccbnaa
set_option linter.unusedVariables false
set_option linter.unusedSimpArgs false
open Go.RowKit

/-- What a call tells, and what the lock is then. -/
structure LStep where
  b : Bool
  n : Int
  e : Int
  o : Int
  q : List Wt
def takeF (o : Int) (q : List Wt) (t sq : Int) : LStep :=
  if t < 0 then ⟨false, 0, 1, o, q⟩ else if o = t ∨ (q.any fun x => x.task == t) = true then ⟨false, 0, 6, o, q⟩ else if o = -1 then ⟨true, 0, 0, t, q⟩ else ⟨false, 0, 0, o, q ++ [⟨t, 0, sq, 0⟩]⟩
def giveF (o : Int) (q : List Wt) (t : Int) (ps : List Int) : LStep :=
  if t < 0 ∨ o ≠ t then ⟨false, 0, 10, o, q⟩ else match bestTo ps q q.length with
    | none => ⟨false, -1, 0, -1, []⟩
    | some i => match q[i]? with
      | none => ⟨false, -1, 0, -1, []⟩
      | some x => ⟨false, x.task, 0, x.task, leave q x.task⟩

theorem bestTo_none {ps : List Int} {q : List Wt} (h : bestTo ps q q.length = none) : q = [] := by
  rcases Nat.eq_zero_or_pos q.length with h0 | h0
  · exact List.eq_nil_of_length_eq_zero h0
  · obtain ⟨b, hb⟩ := bestTo_some ps q q.length h0
    rw [hb] at h
    cases h

theorem take_any (p : Nat) (o : Int) (q : List Wt) (t sq : Int) (w : World) (hL : LockP w p o q) (hm : q.length ≤ 1000000) :
    Calls Try.prog 9 #[.pointer (some ⟨p, 0, none⟩), .int .i64 t, .int .i64 sq] w fun e w' => e = .returned (.tuple #[.bool (takeF o q t sq).b, .int .i64 (takeF o q t sq).e]) ∧ LockP w' p (takeF o q t sq).o (takeF o q t sq).q ∧ Upd [p] w w' := by
  unfold takeF
  by_cases h1 : t < 0
  · rw [if_pos h1]
    refine (take_bad p o q t sq w h1).mono ?_
    rintro e w' ⟨rfl, rfl⟩
    exact ⟨rfl, hL, Upd.refl _ _⟩
  · rw [if_neg h1]
    by_cases h2 : o = t ∨ (q.any fun x => x.task == t) = true
    · rw [if_pos h2]
      refine (take_twice p o q t sq w hL hm (by omega) h2).mono ?_
      rintro e w' ⟨rfl, hu⟩
      exact ⟨rfl, hL.step hu, hu.mono (by simp)⟩
    · rw [if_neg h2]
      have h4 : o ≠ t := fun h => h2 (.inl h)
      have h5 : (q.any fun x => x.task == t) = false := by
        cases h : (q.any fun x => x.task == t) with
        | false => rfl
        | true => exact absurd (.inr h) h2
      by_cases h3 : o = -1
      · subst h3
        rw [if_pos rfl]
        exact take_free p q t sq w hL hm (by omega) h5
      · rw [if_neg h3]
        exact take_wait p o q t sq w hL hm (by omega) h4 h3 h5

theorem takeR_any (p : Nat) (o : Int) (q : List Wt) (t sq : Int) (w : World) (hL : LockR w p o q) (hm : q.length ≤ 1000000) (ho : -1 ≤ o) :
    Calls Try.prog 15 #[.pointer (some ⟨p, 0, none⟩), .int .i64 t, .int .i64 sq] w fun e w' => e = .returned (.tuple #[.bool (takeF o q t sq).b, .int .i64 (takeF o q t sq).e]) ∧ LockR w' p (takeF o q t sq).o (takeF o q t sq).q ∧ Upd [p] w w' := by
  unfold takeF
  by_cases h1 : t < 0
  · rw [if_pos h1]
    refine (takeR_bad p o q t sq w h1).mono ?_
    rintro e w' ⟨rfl, rfl⟩
    exact ⟨rfl, hL, Upd.refl _ _⟩
  · rw [if_neg h1]
    by_cases h2 : o = t ∨ (q.any fun x => x.task == t) = true
    · rw [if_pos h2]
      refine (takeR_twice p o q t sq w hL hm (by omega) h2).mono ?_
      rintro e w' ⟨rfl, hu⟩
      exact ⟨rfl, LockAt.keep0 hL hu, hu.mono (by simp)⟩
    · rw [if_neg h2]
      have h4 : o ≠ t := fun h => h2 (.inl h)
      have h5 : (q.any fun x => x.task == t) = false := by
        cases h : (q.any fun x => x.task == t) with
        | false => rfl
        | true => exact absurd (.inr h) h2
      by_cases h3 : o = -1
      · subst h3
        rw [if_pos rfl]
        exact takeR_free p q t sq w hL hm (by omega) h5
      · rw [if_neg h3]
        exact takeR_wait p o q t sq w hL hm (by omega) h4 (by omega) h5

theorem give_any (p : Nat) (o : Int) (q : List Wt) (t : Int) (a : Option Addr) (cap : Nat) (ps : List Int) (w : World) (hL : LockP w p o q) (hm : q.length ≤ 1000000) (hp : RdI w (.slice a ps.length cap) ps) (hpn : ∀ k, (Value.slice a ps.length cap).ownBlock = some k → 0 < ps.length → k ≠ p) (hpm : ps.length ≤ 1000000) :
    Calls Try.prog 11 #[.pointer (some ⟨p, 0, none⟩), .int .i64 t, .slice a ps.length cap] w fun e w' => e = .returned (.tuple #[.int .i64 (giveF o q t ps).n, .int .i64 (giveF o q t ps).e]) ∧ LockP w' p (giveF o q t ps).o (giveF o q t ps).q ∧ Upd [p] w w' := by
  unfold giveF
  by_cases h1 : t < 0 ∨ o ≠ t
  · rw [if_pos h1]
    refine (give_bad p o q t _ w hL h1).mono ?_
    rintro e w' ⟨rfl, rfl⟩
    exact ⟨rfl, hL, Upd.refl _ _⟩
  · rw [if_neg h1]
    have h2 : 0 ≤ t := by omega
    obtain rfl : o = t := by omega
    cases hb : bestTo ps q q.length with
    | none =>
      obtain rfl := bestTo_none hb
      exact give_none p o a cap ps w hL hp hpn hpm h2
    | some i =>
      have hi := bestTo_lt ps q _ _ hb
      have hx : q[i]? = some q[i] := List.getElem?_eq_getElem hi
      simp only [hx]
      exact give_some p o q i _ a cap ps w hL hm hp hpn hpm h2 hb hx

/-- What a play keeps: nobody waits twice. -/
structure LOk (o : Int) (q : List Wt) : Prop where
  o1 : -1 ≤ o
  t0 : ∀ x ∈ q, 0 ≤ x.task
  nd : (q.map Wt.task).Nodup
theorem LOk.new : LOk (-1) [] := ⟨by omega, by simp, by simp⟩
theorem LOk.leave {o : Int} {q : List Wt} (h : LOk o q) (t : Int) : LOk o (leave q t) :=
  ⟨h.o1, fun x hx => h.t0 x ((List.mem_filter.1 hx).1), (List.filter_sublist.map _).nodup h.nd⟩
theorem LOk.take {o : Int} {q : List Wt} (h : LOk o q) (t sq : Int) : LOk (takeF o q t sq).o (takeF o q t sq).q := by
  unfold takeF
  split
  · exact h
  · split
    · exact h
    · rename_i h1 h2
      split
      · exact ⟨by simp only; omega, h.t0, h.nd⟩
      · refine ⟨h.o1, fun x hx => ?_, ?_⟩
        · rcases List.mem_append.1 hx with hx | hx
          · exact h.t0 x hx
          · simp only [List.mem_singleton] at hx
            subst hx
            simp only
            omega
        · rw [List.map_append, List.nodup_append]
          refine ⟨h.nd, by simp, fun a ha b hb => ?_⟩
          simp only [List.map_cons, List.map_nil, List.mem_singleton] at hb
          subst hb
          rintro rfl
          obtain ⟨x, hx, hxt⟩ := List.mem_map.1 ha
          exact h2 (.inr (List.any_eq_true.2 ⟨x, hx, by simpa using hxt⟩))
theorem LOk.give {o : Int} {q : List Wt} (h : LOk o q) (t : Int) (ps : List Int) : LOk (giveF o q t ps).o (giveF o q t ps).q := by
  unfold giveF
  split
  · exact h
  · split
    · exact LOk.new
    · split
      · exact LOk.new
      · rename_i i _ x hx
        have := h.leave x.task
        exact ⟨by have := h.t0 x (List.mem_of_getElem? hx); simp only; omega, this.t0, this.nd⟩
theorem takeF_len (o : Int) (q : List Wt) (t sq : Int) : (takeF o q t sq).q.length ≤ q.length + 1 := by
  unfold takeF
  split
  · simp
  · split
    · simp
    · split <;> simp
theorem giveF_len (o : Int) (q : List Wt) (t : Int) (ps : List Int) : (giveF o q t ps).q.length ≤ q.length := by
  unfold giveF
  split
  · simp
  · split
    · simp
    · split
      · simp
      · exact leave_len _ _
/-- Where nobody waits twice, the one place is all of a task's places. -/
theorem leave_erase {q : List Wt} (hn : (q.map Wt.task).Nodup) {i : Nat} {x : Wt} (hx : q[i]? = some x) : q.eraseIdx i = leave q x.task := by
  induction q generalizing i with
  | nil => simp at hx
  | cons y l ih =>
    rw [List.map_cons, List.nodup_cons] at hn
    cases i with
    | zero =>
      simp only [List.getElem?_cons_zero, Option.some.injEq] at hx
      subst hx
      have : leave l y.task = l := by
        unfold leave
        rw [List.filter_eq_self]
        intro z hz
        have : z.task ≠ y.task := fun h => hn.1 (List.mem_map.2 ⟨z, hz, h⟩)
        simpa using this
      simp only [List.eraseIdx_cons_zero]
      unfold leave at this ⊢
      rw [List.filter_cons]
      simp only [beq_self_eq_true, Bool.not_true, Bool.false_eq_true, if_false]
      exact this.symm
    | succ i =>
      simp only [List.getElem?_cons_succ] at hx
      have hne : y.task ≠ x.task := fun h => hn.1 (List.mem_map.2 ⟨x, List.mem_of_getElem? hx, h.symm⟩)
      rw [List.eraseIdx_cons_succ, ih hn.2 hx]
      unfold leave
      rw [List.filter_cons]
      have hb : (y.task == x.task) = false := beq_eq_false_iff_ne.2 hne
      rw [hb]
      rfl

theorem giveR_any (p : Nat) (o : Int) (q : List Wt) (t : Int) (a : Option Addr) (cap : Nat) (ps : List Int) (w : World) (hL : LockR w p o q) (hm : q.length ≤ 1000000) (hp : RdI w (.slice a ps.length cap) ps) (hpm : ps.length ≤ 1000000) (hok : LOk o q) :
    Calls Try.prog 16 #[.pointer (some ⟨p, 0, none⟩), .int .i64 t, .slice a ps.length cap] w fun e w' => e = .returned (.tuple #[.int .i64 (giveF o q t ps).n, .int .i64 (giveF o q t ps).e]) ∧ LockR w' p (giveF o q t ps).o (giveF o q t ps).q ∧ Upd [p] w w' := by
  unfold giveF
  by_cases h1 : t < 0 ∨ o ≠ t
  · rw [if_pos h1]
    refine (giveR_bad p o q t _ w hL h1).mono ?_
    rintro e w' ⟨rfl, rfl⟩
    exact ⟨rfl, hL, Upd.refl _ _⟩
  · rw [if_neg h1]
    have h2 : 0 ≤ t := by omega
    obtain rfl : o = t := by omega
    cases hb : bestTo ps q q.length with
    | none =>
      obtain rfl := bestTo_none hb
      exact giveR_none p o a cap ps w hL hp hpm h2
    | some i =>
      have hi := bestTo_lt ps q _ _ hb
      have hx : q[i]? = some q[i] := List.getElem?_eq_getElem hi
      simp only [hx]
      rw [← leave_erase hok.nd hx]
      exact giveR_some p o q i _ a cap ps w hL hm hp hpm h2 hb hx
end Go.Proofs.Ytjkacccmdccbnaa
