/- What is put later is due later: in plain words. -/
import Derived.Test.YtkmjeadnkndhbaaTimerRel
namespace Go.Proofs.Ytkmjeadnkndhbaa
set_option linter.unusedVariables false
set_option linter.unusedSimpArgs false
open Go.RowKit
section
variable (m : Nat) (T : Nat → Nat) (g : Nat → Bool)
def dL (j : Nat) : Int := (j : Int) + 1 + (T j : Int)
def lat1 (i : Nat) : List Due := (List.range i).map fun j : Nat => (⟨(j : Int), dL T j - (i : Int)⟩ : Due)
def lat2 (i : Nat) : List Due := ((List.range m).filter fun j : Nat => decide (i ≤ j) || !g j).map fun j : Nat => (⟨(j : Int), dL T j - (m : Int)⟩ : Due)
def lat3 (k : Nat) : List Due := ((List.range m).filter fun j : Nat => !g j && decide ((k : Int) ≤ dL T j - (m : Int))).map fun j : Nat => (⟨(j : Int), dL T j - (m : Int) - ((k : Int) - 1)⟩ : Due)
def wantL (i : Nat) (x : Nat) : List Int := ((List.range i).filter fun j : Nat => !g j && decide (dL T j - (m : Int) = (x : Int))).map fun j : Nat => (j : Int)
theorem lat1_len (i : Nat) : (lat1 T i).length = i := by simp [lat1]
theorem lat1_none (i : Nat) : idxD (lat1 T i) (i : Int) = none := by
  rw [idxD_none_iff]
  intro h
  obtain ⟨d, hd, e⟩ := List.mem_map.1 h
  obtain ⟨j, hj, rfl⟩ := List.mem_map.1 hd
  have := List.mem_range.1 hj
  simp at e
  omega
theorem rest1 (hT : ∀ j, j < m → 40 ≤ T j ∧ T j ≤ 69) (hm : m ≤ 40) (i : Nat) (hi : i < m) : restR (lat1 T i) ++ [⟨(i : Int), (T i : Int)⟩] = lat1 T (i + 1) := by
  have e1 : (lat1 T i).filter (fun d => !(d.more == 1)) = lat1 T i := by
    rw [List.filter_eq_self]
    intro d hd
    obtain ⟨j, hj, rfl⟩ := List.mem_map.1 hd
    have hj := List.mem_range.1 hj
    have := hT j (by omega)
    unfold dL
    simp
    omega
  unfold restR
  rw [e1]
  unfold lat1
  rw [List.range_succ, List.map_append, List.map_map]
  congr 1
  · refine List.map_congr_left (fun j _ => ?_)
    simp only [Function.comp]
    congr 1
    omega
  · simp only [List.map_cons, List.map_nil]
    unfold dL
    congr 2
    omega
theorem lat1_last (i : Nat) : (⟨(i : Int), (T i : Int)⟩ : Due) ∈ lat1 T (i + 1) := by
  refine List.mem_map.2 ⟨i, List.mem_range.2 (by omega), ?_⟩
  unfold dL
  congr 1
  omega
theorem lat2_zero : lat2 m T g 0 = lat1 T m := by
  unfold lat2 lat1
  rw [List.filter_eq_self.2 (fun j _ => by simp)]
theorem lat2_same (i : Nat) (h : g i = false) : lat2 m T g (i + 1) = lat2 m T g i := by
  unfold lat2
  congr 1
  refine List.filter_congr (fun j _ => ?_)
  by_cases e : j = i
  · subst e; simp [h]
  · congr 1
    rw [decide_eq_decide]
    omega
theorem lat2_cut (i : Nat) (h : g i = true) : (lat2 m T g i).filter (fun d => !(d.id == (i : Int))) = lat2 m T g (i + 1) := by
  unfold lat2
  rw [List.filter_map, List.filter_filter]
  congr 1
  refine List.filter_congr (fun j _ => ?_)
  simp only [Function.comp]
  by_cases e : j = i
  · subst e; simp [h]
  · have : ((j : Int) == (i : Int)) = false := by simp; omega
    rw [this]
    simp only [Bool.not_false, Bool.true_and]
    congr 1
    rw [decide_eq_decide]
    omega
theorem lat2_mem (i : Nat) (hi : i < m) : (i : Int) ∈ (lat2 m T g i).map Due.id := by
  unfold lat2
  rw [List.map_map]
  exact List.mem_map.2 ⟨i, List.mem_filter.2 ⟨List.mem_range.2 hi, by simp⟩, rfl⟩
theorem lat3_one (hT : ∀ j, j < m → 40 ≤ T j ∧ T j ≤ 69) (hm : m ≤ 40) : lat3 m T g 1 = lat2 m T g m := by
  unfold lat3 lat2
  have e : (List.range m).filter (fun j => !g j && decide (((1 : Nat) : Int) ≤ dL T j - (m : Int))) = (List.range m).filter (fun j => decide (m ≤ j) || !g j) := by
    refine List.filter_congr (fun j hj => ?_)
    have hj := List.mem_range.1 hj
    have := hT j hj
    have h1 : decide (((1 : Nat) : Int) ≤ dL T j - (m : Int)) = true := decide_eq_true (by unfold dL; omega)
    have h2 : decide (m ≤ j) = false := decide_eq_false (by omega)
    rw [h1, h2, Bool.and_true, Bool.false_or]
  rw [e]
  refine List.map_congr_left (fun j _ => ?_)
  congr 1
  omega
theorem out3 (k : Nat) : outR (lat3 m T g k) = wantL m T g m k := by
  unfold outR lat3 wantL
  rw [List.filter_map, List.map_map, List.filter_filter]
  have e : (List.range m).filter (fun a => ((fun d : Due => d.more == 1) ∘ fun j : Nat => (⟨(j : Int), dL T j - (m : Int) - ((k : Int) - 1)⟩ : Due)) a && (!g a && decide ((k : Int) ≤ dL T a - (m : Int)))) = (List.range m).filter (fun j => !g j && decide (dL T j - (m : Int) = (k : Int))) := by
    refine List.filter_congr (fun j _ => ?_)
    simp only [Function.comp]
    by_cases h : dL T j - (m : Int) = (k : Int)
    · have h1 : (dL T j - (m : Int) - ((k : Int) - 1) == 1) = true := by simp; omega
      rw [h1, decide_eq_true h, decide_eq_true (by omega), Bool.true_and]
    · have h1 : (dL T j - (m : Int) - ((k : Int) - 1) == 1) = false := by simp; omega
      rw [h1, decide_eq_false h, Bool.false_and, Bool.and_false]
  rw [e]
  rfl
theorem rest3 (k : Nat) : restR (lat3 m T g k) = lat3 m T g (k + 1) := by
  unfold restR lat3
  rw [List.filter_map, List.map_map, List.filter_filter]
  have e : (List.range m).filter (fun a => ((fun d : Due => !(d.more == 1)) ∘ fun j : Nat => (⟨(j : Int), dL T j - (m : Int) - ((k : Int) - 1)⟩ : Due)) a && (!g a && decide ((k : Int) ≤ dL T a - (m : Int)))) = (List.range m).filter (fun j => !g j && decide (((k + 1 : Nat) : Int) ≤ dL T j - (m : Int))) := by
    refine List.filter_congr (fun j _ => ?_)
    simp only [Function.comp]
    by_cases h : dL T j - (m : Int) = (k : Int)
    · have h1 : (dL T j - (m : Int) - ((k : Int) - 1) == 1) = true := by simp; omega
      rw [h1, Bool.not_true, Bool.false_and, decide_eq_false (by omega), Bool.and_false]
    · have h1 : (dL T j - (m : Int) - ((k : Int) - 1) == 1) = false := by simp; omega
      rw [h1, Bool.not_false, Bool.true_and]
      congr 1
      rw [decide_eq_decide]
      omega
  rw [e]
  refine List.map_congr_left (fun j _ => ?_)
  simp only [Function.comp]
  congr 1
  omega
theorem lat3_end (hT : ∀ j, j < m → 40 ≤ T j ∧ T j ≤ 69) (hm : m ≤ 40) : lat3 m T g 80 = [] := by
  unfold lat3
  rw [List.filter_eq_nil_iff.2, List.map_nil]
  intro j hj
  have hj := List.mem_range.1 hj
  have := hT j hj
  have h1 : decide (((80 : Nat) : Int) ≤ dL T j - (m : Int)) = false := decide_eq_false (by unfold dL; omega)
  rw [h1, Bool.and_false]
  decide
theorem want_zero (x : Nat) : wantL m T g 0 x = [] := rfl
theorem want_same (i x : Nat) (h : g i = true ∨ ¬ dL T i - (m : Int) = (x : Int)) : wantL m T g (i + 1) x = wantL m T g i x := by
  unfold wantL
  rw [List.range_succ, List.filter_append]
  have : [i].filter (fun j => !g j && decide (dL T j - (m : Int) = (x : Int))) = [] := by
    rcases h with h | h
    · simp [h]
    · simp [h]
  rw [this, List.append_nil]
theorem want_push (i x : Nat) (h : g i = false) (hx : dL T i - (m : Int) = (x : Int)) : wantL m T g (i + 1) x = wantL m T g i x ++ [(i : Int)] := by
  unfold wantL
  rw [List.range_succ, List.filter_append, List.map_append]
  have : [i].filter (fun j => !g j && decide (dL T j - (m : Int) = (x : Int))) = [i] := by simp [h, hx]
  rw [this]
  rfl
theorem want_len (i x : Nat) : (wantL m T g i x).length ≤ i := by
  unfold wantL
  rw [List.length_map]
  exact Nat.le_trans (List.length_filter_le _ _) (by simp)
end
theorem nodup_id {L : List Due} (h : (L.map Due.id).Nodup) {x y : Due} (hx : x ∈ L) (hy : y ∈ L) (e : x.id = y.id) : x = y := by
  obtain ⟨i, hi, rfl⟩ := List.getElem_of_mem hx
  obtain ⟨j, hj, rfl⟩ := List.getElem_of_mem hy
  have hinj := List.pairwise_iff_getElem.1 h
  by_cases hij : i = j
  · subst hij; rfl
  · exfalso
    rcases Nat.lt_or_ge i j with hlt | hge
    · have := hinj i j (by simpa using hi) (by simpa using hj) hlt
      simp only [List.getElem_map] at this
      exact this e
    · have := hinj j i (by simpa using hj) (by simpa using hi) (by omega)
      simp only [List.getElem_map] at this
      exact this e.symm
theorem Rel.left_mem {ds L : List Due} (h : Rel ds L) {x : Due} (hx : x ∈ L) : leftD ds x.id 0 = (x.more, true) := by
  have hn : ¬ idxD L x.id = Option.none := fun c => (idxD_none_iff L x.id).1 c (List.mem_map_of_mem hx)
  cases hk : idxD L x.id with
  | none => exact absurd hk hn
  | some j =>
    obtain ⟨j1, j2⟩ := idxD_some hk
    have e := nodup_id h.ids (List.getElem_mem j1) hx j2
    exact h.left x.id j x hk (by rw [List.getElem?_eq_getElem j1, e])
theorem Rel.cut_mem {ds L : List Due} (h : Rel ds L) (id : Int) (hm : id ∈ L.map Due.id) : ∃ k, idxD ds id = some k ∧ Rel (cutD ds k) (L.filter fun d => !(d.id == id)) := by
  have hn : ¬ idxD L id = Option.none := fun c => (idxD_none_iff L id).1 c hm
  have hn2 : ¬ idxD ds id = Option.none := fun c => hn ((h.none id).1 c)
  cases hk : idxD ds id with
  | none => exact absurd hk hn2
  | some k =>
    cases hj : idxD L id with
    | none => exact absurd hj hn
    | some j =>
      obtain ⟨j1, j2⟩ := idxD_some hj
      have := h.cut id k j hk hj
      rw [erase_filter Due.id L j id h.ids j1 j2] at this
      exact ⟨k, rfl, this⟩
end Go.Proofs.Ytkmjeadnkndhbaa
