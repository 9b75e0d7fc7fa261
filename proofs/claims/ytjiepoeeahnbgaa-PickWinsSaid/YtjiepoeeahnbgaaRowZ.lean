
/- Rows of whole numbers that are turned in place. -/
import Derived.Test.YtjiepoeeahnbgaaBase
namespace Go.Proofs.Ytjiepoeeahnbgaa
set_option linter.unusedVariables false
set_option linter.unusedSimpArgs false
open Go.RowKit
/-- Block g begins with the numbers l. -/
def RowZ (w : World) (g : Nat) (t : TypeId) (cap : Nat) (l : List Int) : Prop :=
  ∃ c : Array Value, w.heap[g]? = some (.cells c t (0, 0)) ∧ c.size = cap ∧ l.length ≤ cap ∧ ∀ i, i < l.length → c[i]? = some (.int .i64 (l.getD i 0))

theorem RowZ.lt {w : World} {g : Nat} {t : TypeId} {cap : Nat} {l : List Int} (h : RowZ w g t cap l) : g < w.heap.size := by
  obtain ⟨c, hb, _⟩ := h
  exact blk_lt hb
theorem RowZ.cell {w : World} {g : Nat} {t : TypeId} {cap : Nat} {l : List Int} (h : RowZ w g t cap l) {i : Nat} (hi : i < l.length) : w.cell? ⟨g, i, none⟩ = some (.int .i64 (l.getD i 0)) := by
  obtain ⟨c, hb, _, _, hc⟩ := h
  simp [World.cell?, hb, hc i hi]
theorem RowZ.frozen {w : World} {g : Nat} {t : TypeId} {cap : Nat} {l : List Int} (h : RowZ w g t cap l) (i : Nat) : w.frozen? ⟨g, i, none⟩ = false := by
  obtain ⟨c, hb, _⟩ := h
  simp [World.frozen?, hb]
theorem RowZ.keep {w w' : World} {g : Nat} {t : TypeId} {cap : Nat} {l : List Int} (h : RowZ w g t cap l) {S : List Nat} (hu : Upd S w w') (hg : g ∉ S) : RowZ w' g t cap l := by
  obtain ⟨c, hb, r⟩ := h
  exact ⟨c, hu.keep hb hg, r⟩
theorem RowZ.set {w : World} {g : Nat} {t : TypeId} {cap : Nat} {l : List Int} (h : RowZ w g t cap l) (i : Nat) (x : Int) : RowZ (w.setCell ⟨g, i, none⟩ (.int .i64 x)) g t cap (l.set i x) := by
  obtain ⟨c, hb, hs, hl, hc⟩ := h
  refine ⟨c.setIfInBounds i (.int .i64 x), by simp [World.setCell, Array.getElem?_modify, hb], by simpa using hs, by simpa using hl, fun j hj => ?_⟩
  rw [List.length_set] at hj
  rw [Array.getElem?_setIfInBounds]
  by_cases e : i = j
  · subst e
    rw [if_pos rfl, if_pos (by omega)]
    simp [List.getD, hj]
  · rw [if_neg e, hc j hj]
    simp [List.getD, List.getElem?_set_ne e]
theorem RowZ.drew {w : World} {g : Nat} {t : TypeId} {cap : Nat} {l : List Int} (h : RowZ w g t cap l) : RowZ w.drew g t cap l := h
theorem RowZ.alike {w w' : World} {g : Nat} {t : TypeId} {cap : Nat} {l : List Int} (h : RowZ w g t cap l) (he : w'.heap = w.heap) : RowZ w' g t cap l := by
  obtain ⟨c, hb, r⟩ := h
  exact ⟨c, by rw [he]; exact hb, r⟩

/-- A row that the call owns, and back. -/
theorem RowZ.of_own {w : World} {base : Nat} {e : TypeId} {v : Value} {l : List Int} (h : w.ownsRow base e 1 v l.length (l.map fun j : Int => Value.int .i64 j)) (hl : 0 < l.length) : ∃ g cap, v = .slice (some ⟨g, 0, none⟩) l.length cap ∧ base ≤ g ∧ cap ≤ maxLen ∧ RowZ w g e cap l := by
  rcases h.2 with ⟨_, h0⟩ | ⟨g, cap, cur, rfl, hb, hg, hn, hm, hs, ht⟩
  · omega
  · refine ⟨g, cap, rfl, hb, hm, cur, hg, by omega, hn, fun i hi => ?_⟩
    have h1 := congrArg (fun z : List Value => z[i]?) ht
    simp only [Nat.mul_one, List.getElem?_take, List.getElem?_map] at h1
    rw [if_pos hi, Array.getElem?_toList] at h1
    rw [h1]
    simp [List.getD, hi]
theorem RowZ.to_own {w : World} {base g cap : Nat} {e : TypeId} {l : List Int} (h : RowZ w g e cap l) (hb : base ≤ g) (hm : cap ≤ maxLen) : w.ownsRow base e 1 (.slice (some ⟨g, 0, none⟩) l.length cap) l.length (l.map fun j : Int => Value.int .i64 j) := by
  obtain ⟨c, hg, hs, hl, hc⟩ := h
  refine ⟨by simp, .inr ⟨g, cap, c, rfl, hb, hg, hl, hm, by omega, ?_⟩⟩
  apply List.ext_getElem?
  intro i
  simp only [Nat.mul_one, List.getElem?_take, List.getElem?_map]
  by_cases hi : i < l.length
  · rw [if_pos hi, Array.getElem?_toList, hc i hi]
    simp [List.getD, hi]
  · rw [if_neg hi]
    simp [List.getElem?_eq_none (Nat.not_lt.1 hi)]

theorem RowZ.rd {w : World} {g cap : Nat} {e : TypeId} {l : List Int} (h : RowZ w g e cap l) (hm : cap ≤ maxLen) : Rd w (.slice (some ⟨g, 0, none⟩) l.length cap) l.length (l.map (Value.int .i64)) := by
  obtain ⟨c, hg, hs, hl, hc⟩ := h
  refine ⟨_, cap, rfl, hl, hm, (fun h => by cases h), .inr ⟨g, 0, rfl, fun j u hj => ?_⟩⟩
  rw [List.getElem?_map] at hj
  obtain ⟨y, hy, rfl⟩ := Option.map_eq_some_iff.1 hj
  have hjl := (List.getElem?_eq_some_iff.1 hy).1
  rw [Nat.zero_add]
  simp [World.cell?, hg, hc j hjl, List.getD, hy]
/-- Rows of unlike elements lie apart. -/
theorem own_apart {w : World} {b1 b2 : Nat} {e1 e2 : TypeId} {s1 s2 n1 n2 : Nat} {v1 v2 : Value} {c1 c2 : List Value} (h1 : w.ownsRow b1 e1 s1 v1 n1 c1) (h2 : w.ownsRow b2 e2 s2 v2 n2 c2) (he : e1 ≠ e2) : ∀ k, v1.ownBlock = some k → k ∉ v2.ownBlock.toList := by
  intro k hk hm
  rcases h1.2 with ⟨rfl, _⟩ | ⟨g, cap, cur, rfl, hb, hg, _⟩
  · simp [Value.ownBlock] at hk
  rcases h2.2 with ⟨rfl, _⟩ | ⟨g', cap', cur', rfl, hb', hg', _⟩
  · simp [Value.ownBlock] at hm
  simp [Value.ownBlock] at hk hm
  subst hk
  subst hm
  rw [hg] at hg'
  injection (Option.some.inj hg') with _ h2 _
  exact he h2
end Go.Proofs.Ytjiepoeeahnbgaa
