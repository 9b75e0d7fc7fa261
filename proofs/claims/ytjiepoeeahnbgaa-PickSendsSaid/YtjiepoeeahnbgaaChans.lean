/- Rows of channels and of cases: what they are, and what becomes of a row of channels when one of them turns. -/
import Derived.Test.YtjiepoeeahnbgaaChanWait
import Derived.Test.YtjiepoeeahnbgaaChanLeave
import Derived.Test.YtjiepoeeahnbgaaWaitHas
namespace Go.Proofs.Ytjiepoeeahnbgaa
set_option linter.unusedVariables false
set_option linter.unusedSimpArgs false
open Go.RowKit Go.Conc
structure ChSt where
  p : Nat
  rp : Nat
  c : Nat
  room : Nat
  X : List Int
  S : List Wt
  R : List Wt
  cl : Bool
def ChSt.lies (w : World) (s : ChSt) : Prop := ChanP w s.p s.rp s.c s.room s.X s.S s.R s.cl
def ChSt.ptr (s : ChSt) : Value := .pointer (some ⟨s.p, 0, none⟩)
theorem ChSt.beside {w w' : World} {s t : ChSt} (hs : s.lies w) (ht : t.lies w) (hp : s.p ≠ t.p) (hc : s.c ≠ t.c) (hu : Upd [t.p, t.c] w w') : s.lies w' := by
  obtain ⟨_, _, _, _, h1, _⟩ := hs.ch.ex
  obtain ⟨_, _, _, _, k1, _⟩ := ht.ch.ex
  obtain ⟨_, _, h2⟩ := hs.ring.chan
  obtain ⟨_, _, k2⟩ := ht.ring.chan
  have h3 := hs.ring.obj
  have e1 : s.p ≠ t.c := fun e => by rw [e, k2] at h1; cases h1
  have e2 : s.c ≠ t.p := fun e => by rw [e, k1] at h2; cases h2
  have e3 : s.rp ≠ t.c := fun e => by rw [e, k2] at h3; cases h3
  have e4 : s.rp ≠ t.p := fun e => by
    rw [e, k1] at h3
    injection (Option.some.inj h3) with _ h4 _
    exact absurd h4 (by decide)
  exact ChanP.keep hs hu (by simp; exact ⟨hp, e1⟩) (by simp; exact ⟨e4, e3⟩) (by simp; exact ⟨e2, hc⟩) (NotT.two (ht.ch.notT (by decide)) ht.ring.notT)
/-- A row of channels, each its own. -/
structure Chans (w : World) (a : Option Addr) (cap : Nat) (st : List ChSt) : Prop where
  row : w.ownsRow 0 39 1 (.slice a st.length cap) st.length (st.map ChSt.ptr)
  all : ∀ (i : Nat) (s : ChSt), st[i]? = some s → s.lies w
  ne : ∀ (i j : Nat) (s t : ChSt), st[i]? = some s → st[j]? = some t → i ≠ j → s.p ≠ t.p ∧ s.c ≠ t.c
theorem Chans.keep0 {w w' : World} {a : Option Addr} {cap : Nat} {st : List ChSt} (h : Chans w a cap st) (hu : Upd [] w w') : Chans w' a cap st :=
  ⟨own_keep0 h.row hu, fun i s hs => ChanP.keep0 (h.all i s hs) hu, h.ne⟩
theorem Chans.upd {w w' : World} {a : Option Addr} {cap : Nat} {st : List ChSt} (h : Chans w a cap st) {i : Nat} {s t : ChSt} (hi : st[i]? = some s) (hu : Upd [s.p, s.c] w w') (ht : t.lies w') (hp : t.p = s.p) (hc : t.c = s.c) : Chans w' a cap (st.set i t) := by
  have hl := (List.getElem?_eq_some_iff.1 hi).1
  have hs := h.all i s hi
  refine ⟨?_, ?_, ?_⟩
  · have hm : (st.set i t).map ChSt.ptr = st.map ChSt.ptr := by
      apply List.ext_getElem?
      intro k
      rw [List.getElem?_map, List.getElem?_map, List.getElem?_set]
      split
      · rename_i e
        subst e
        simp [hi, ChSt.ptr, hp]
      · rfl
    rw [List.length_set, hm]
    exact own_keepT h.row hu (NotT.two (hs.ch.notT (by decide)) hs.ring.notT)
  · intro k u hk
    rw [List.getElem?_set] at hk
    split at hk
    · cases hk
      exact ht
    · rename_i hne
      have := h.ne k i u s hk hi (fun e => hne e.symm)
      exact ChSt.beside (h.all k u hk) hs this.1 this.2 hu
  · intro k j u v hk hj hne
    have key : ∀ (k : Nat) (u : ChSt), (st.set i t)[k]? = some u → ∃ u' : ChSt, st[k]? = some u' ∧ u'.p = u.p ∧ u'.c = u.c := by
      intro k u hk
      rw [List.getElem?_set] at hk
      split at hk
      · rename_i e
        subst e
        cases hk
        exact ⟨s, hi, hp.symm, hc.symm⟩
      · exact ⟨u, hk, rfl, rfl⟩
    obtain ⟨u', hu', e1, e2⟩ := key k u hk
    obtain ⟨v', hv', e3, e4⟩ := key j v hj
    have := h.ne k j u' v' hu' hv' hne
    rw [← e1, ← e2, ← e3, ← e4]
    exact this
theorem Chans.cell {w : World} {a : Option Addr} {cap : Nat} {st : List ChSt} (h : Chans w a cap st) {i : Nat} {s : ChSt} (hi : st[i]? = some s) :
    ∃ b off, a = some ⟨b, off, none⟩ ∧ w.cell? ⟨b, off + i, none⟩ = some (.pointer (some ⟨s.p, 0, none⟩)) := by
  have hl := (List.getElem?_eq_some_iff.1 hi).1
  obtain ⟨b, off, rfl, hc⟩ := (Rd.of_own h.row).at (by omega)
  exact ⟨b, off, rfl, hc i _ (by rw [List.getElem?_map, hi]; rfl)⟩
/-- A case. -/
structure Cs where
  send : Bool
  chan : Int
  v : Int
def Cs.enc (x : Cs) : List Value := [.bool x.send, .int .i64 x.chan, .int .i64 x.v]
theorem Cs.enc_len (x : Cs) : x.enc.length = 3 := rfl
abbrev RdCs (w : World) (v : Value) (l : List Cs) : Prop := Rd w v l.length (l.flatMap Cs.enc)
theorem RdCs.cells {w : World} {a : Option Addr} {cap : Nat} {l : List Cs} (h : RdCs w (.slice a l.length cap) l) {k : Nat} {x : Cs} (hk : l[k]? = some x) :
    ∃ b off, a = some ⟨b, off, none⟩ ∧ w.cell? ⟨b, off + k * 3, none⟩ = some (.bool x.send) ∧ w.cell? ⟨b, off + k * 3 + 1, none⟩ = some (.int .i64 x.chan) ∧ w.cell? ⟨b, off + k * 3 + 2, none⟩ = some (.int .i64 x.v) := by
  have hl := (List.getElem?_eq_some_iff.1 hk).1
  obtain ⟨b, off, rfl, hc⟩ := h.at (by omega)
  have hh : ∀ j u, j < 3 → x.enc[j]? = some u → w.cell? ⟨b, off + k * 3 + j, none⟩ = some u := fun j u hj hu => by
    have := hc (k * 3 + j) u (by rw [flat_get Cs.enc 3 Cs.enc_len l k j x hk hj]; exact hu)
    rwa [← Nat.add_assoc] at this
  exact ⟨b, off, rfl, hh 0 _ (by omega) rfl, hh 1 _ (by omega) rfl, hh 2 _ (by omega) rfl⟩
def knownOf (n : Nat) (c : Cs) : Bool := decide (0 ≤ c.chan) && decide (c.chan < n)
def canAt (s : ChSt) (c : Cs) : Bool := if c.send then canS s.room s.X s.R s.cl else canR s.X s.S s.cl
/-- Can a case be done at once? -/
def canOf (st : List ChSt) (c : Cs) : Bool :=
  knownOf st.length c && (match st[c.chan.toNat]? with
    | some s => canAt s c
    | none => false)
theorem knownOf_at {st : List ChSt} {c : Cs} (h : knownOf st.length c = true) : ∃ (j : Nat) (s : ChSt), c.chan = j ∧ st[j]? = some s := by
  simp only [knownOf, Bool.and_eq_true, decide_eq_true_eq] at h
  refine ⟨c.chan.toNat, st[c.chan.toNat]'(by omega), by omega, List.getElem?_eq_getElem _⟩
theorem canOf_at {st : List ChSt} {c : Cs} {j : Nat} {s : ChSt} (hc : c.chan = j) (hs : st[j]? = some s) : canOf st c = canAt s c := by
  have hl := (List.getElem?_eq_some_iff.1 hs).1
  have hk : knownOf st.length c = true := by simp only [knownOf, Bool.and_eq_true, decide_eq_true_eq]; omega
  have ht : c.chan.toNat = j := by omega
  unfold canOf
  rw [hk, ht, hs]
  rfl
end Go.Proofs.Ytjiepoeeahnbgaa
