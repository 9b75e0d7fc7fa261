
/- A slice of bools that came in. -/
import Derived.Test.YtjiepoeeahnbgaaBase
import Derived.Deep.Slices
import Derived.Deep.Grids
namespace Go.Proofs.Ytjiepoeeahnbgaa
set_option linter.unusedVariables false
set_option linter.unusedSimpArgs false
open Go.RowKit Go.Deep Go.ChangeShapes Go.WideShapes
theorem rd_bools {P : Program} {H : Type} {enc : TypeId × Value → H} {t e : TypeId} {W : World} {base fuel len cap : Nat} {held : Bool} {a : Option Addr} {x : DataW H × List MemPlace}
    (ht : P.underlying t = some (.slice e)) (he : P.underlying e = some .bool) (hc : P.cellsOf e = 1)
    (h : DataW.trod enc P W base (fun _ => true) held fuel t [.slice a len cap] = some x) :
    ∃ xs : List Bool, len = xs.length ∧ Rd W (.slice a xs.length cap) xs.length (xs.map Value.bool) := by
  rcases open_bools ht he hc h with ⟨hcs, _⟩ | ⟨x, l, c, B, hcs, _, hl, hm, _, hcell⟩
  · simp at hcs
    obtain ⟨rfl, rfl, rfl⟩ := hcs
    exact ⟨[], rfl, Rd.nil W⟩
  · simp at hcs
    obtain ⟨rfl, rfl, rfl⟩ := hcs
    refine ⟨(List.range len).map B, by simp, ?_⟩
    have hlen : ((List.range len).map B).length = len := by simp
    rw [hlen]
    refine ⟨_, cap, rfl, hl, hm, (fun h => by cases h), ?_⟩
    rcases Nat.eq_zero_or_pos len with rfl | hp
    · exact .inl ⟨rfl, by simp⟩
    · have h0 := hcell 0 (by omega)
      have hs : x.spot = none := by
        have e : x.add 0 = x := by simp [Addr.add]
        rw [e] at h0
        simp only [World.cell?] at h0
        split at h0
        · split at h0
          · simp at h0
          · simpa using ‹¬ x.spot.isSome = true›
        · simp at h0
      obtain ⟨b, off, spot⟩ := x
      simp only at hs
      subst hs
      refine .inr ⟨b, off, rfl, fun j u hj => ?_⟩
      rw [List.getElem?_map] at hj
      obtain ⟨y, hy, rfl⟩ := Option.map_eq_some_iff.1 hj
      have hjl : j < len := by
        have := (List.getElem?_eq_some_iff.1 hy).1
        simp at this
        omega
      have := hcell j (by omega)
      have e2 : (⟨b, off, none⟩ : Addr).add j = ⟨b, off + j, none⟩ := by unfold Addr.add; split <;> simp_all
      rw [e2] at this
      rw [this]
      rw [List.getElem?_map, List.getElem?_range hjl] at hy
      simp at hy
      rw [hy]

end Go.Proofs.Ytjiepoeeahnbgaa
