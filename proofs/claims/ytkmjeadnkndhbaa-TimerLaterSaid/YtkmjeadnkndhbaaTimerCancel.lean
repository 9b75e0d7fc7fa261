/- What (*Timer).Cancel does. -/
import Derived.Test.YtkmjeadnkndhbaaTimerTwins
import Derived.Deep.RegionHeld3
namespace Go.Proofs.Ytkmjeadnkndhbaa
set_option linter.unusedVariables false
set_option linter.unusedSimpArgs false
open Go.RowKit

/-- Without the one at place k; who stands behind him is due when he was. -/
def cutD : List Due → Nat → List Due
  | [], _ => []
  | d :: l, 0 => match l with
    | [] => []
    | e :: r => ⟨e.id, e.more + d.more⟩ :: r
  | d :: l, k + 1 => d :: cutD l k

theorem cut_last {ds : List Due} {k : Nat} (hk : k + 1 = ds.length) : cutD ds k = ds.eraseIdx k := by
  induction ds generalizing k with
  | nil => simp at hk
  | cons d l ih =>
    cases k with
    | zero =>
      have : l = [] := List.eq_nil_of_length_eq_zero (by rw [List.length_cons] at hk; omega)
      subst this
      rfl
    | succ k => simp only [cutD, List.eraseIdx_cons_succ]; rw [ih (by simp at hk; omega)]
theorem cut_mid {ds : List Due} {k : Nat} {x y : Due} (hx : ds[k]? = some x) (hy : ds[k + 1]? = some y) : cutD ds k = (ds.set (k + 1) ⟨y.id, y.more + x.more⟩).eraseIdx k := by
  induction ds generalizing k with
  | nil => simp at hx
  | cons d l ih =>
    cases k with
    | zero =>
      cases l with
      | nil => simp at hy
      | cons e r =>
        simp at hx hy
        subst hx
        subst hy
        rfl
    | succ k =>
      simp only [List.getElem?_cons_succ] at hx hy
      simp only [cutD, List.set_cons_succ, List.eraseIdx_cons_succ]
      rw [ih hx hy]

set_option maxHeartbeats 6400000 in
set_option maxRecDepth 100000 in
theorem cancel_ok (p g : Nat) (ds : List Due) (id : Int) (k : Nat) (w : World) (h : TimAt w p (some g) ds) (hm : ds.length ≤ 99999) (hdo : DOk ds) (hk : idxD ds id = some k) :
    Calls Try.prog 13 #[.pointer (some ⟨p, 0, none⟩), .int .i64 id] w fun e w' => e = .returned (.int .i64 0) ∧ TimAt w' p (some g) (cutD ds k) ∧ Upd [p, g] w w' := by
  have HK := Lib.hid hk
  have hkl : k < ds.length := by
    rw [idxD, List.findIdx?_eq_some_iff_getElem] at hk
    exact hk.1
  clear hk
  go_enter Try.func13, Try.ntmps13
  go_wp2_with fail
  refine (find_any p _ ds id _ h (by omega)).mono ?_
  rintro e w1 ⟨rfl, hu⟩
  rw [HK.out]
  simp only [optD]
  have hT1 := h.step hu
  obtain ⟨a, cap, hp1, hown, hab⟩ := hT1.ex
  obtain ⟨ad, rfl, rfl⟩ : ∃ x : Addr, a = some x ∧ g = x.block := by
    cases a with
    | none => simp [Value.ownBlock] at hab
    | some x => simp [Value.ownBlock] at hab; exact ⟨x, rfl, hab.symm⟩
  obtain ⟨R, _, hadr, _⟩ := own_parts' hown
  obtain ⟨g, off, spot⟩ := ad
  cases hadr
  simp only at hab ⊢
  obtain ⟨c0, f0⟩ := one_cell hp1
  have hpg : g ≠ p := row_ne hp1 hown rfl
  by_cases hlast : k + 1 < ds.length
  · obtain ⟨x, hx⟩ : ∃ x, ds[k]? = some x := ⟨_, List.getElem?_eq_getElem hkl⟩
    obtain ⟨y, hy⟩ : ∃ y, ds[k + 1]? = some y := ⟨_, List.getElem?_eq_getElem hlast⟩
    obtain ⟨_, e2, _⟩ := own_cells hown hx
    obtain ⟨_, e4, e5⟩ := own_cells hown hy
    have hxo := hdo x (List.mem_of_getElem? hx)
    have hyo := hdo y (List.mem_of_getElem? hy)
    have hw1 : IntKind.i64.wrap ((k : Int) + 1) = (k : Int) + 1 := IntWalk.i64_in _ (by omega)
    have hw2 : IntKind.i64.wrap (y.more + x.more) = y.more + x.more := IntWalk.i64_in _ (by omega)
    have hi1 : (0 : Int) ≤ (k : Int) + 1 := by omega
    have hi2 : (k : Int) + 1 < (ds.length : Int) := by omega
    have hi3 : (0 : Int) ≤ (k : Int) := by omega
    have hi4 : (k : Int) < (ds.length : Int) := by omega
    go_wp2_with fail
    go_region
    go_wp2_with fail
    have hown2 := own_more hown hy (y.more + x.more)
    have hu1 : Upd [g] w1 (w1.setCell ⟨g, (k + 1) * 2 + 1, none⟩ (.int .i64 (y.more + x.more))).drew := ((Upd.refl _ _).setCell _ _ (fun _ => by simp)).drew
    obtain ⟨W1, hW1⟩ : ∃ W1, W1 = (w1.setCell ⟨g, (k + 1) * 2 + 1, none⟩ (.int .i64 (y.more + x.more))).drew := ⟨_, rfl⟩
    have hown3 : W1.ownsRow 0 55 2 (.slice (some ⟨g, 0, none⟩) (ds.set (k + 1) ⟨y.id, y.more + x.more⟩).length cap) (ds.set (k + 1) ⟨y.id, y.more + x.more⟩).length ((ds.set (k + 1) ⟨y.id, y.more + x.more⟩).flatMap Due.enc) := by rw [hW1]; exact hown2
    rw [← hW1] at hu1 ⊢
    have hdel := delete_any g cap 0 k (ds.set (k + 1) ⟨y.id, y.more + x.more⟩) W1 hown3 (by rw [List.length_set]; omega) (by rw [List.length_set]; omega)
    rw [List.length_set, ← cut_mid hx hy] at hdel
    have hcl : (cutD ds k).length = ds.length - 1 := by rw [cut_mid hx hy, List.length_eraseIdx_of_lt (by rw [List.length_set]; exact hkl), List.length_set]
    clear hown2 hown3 hW1 e2 e4 e5
    have hp2 := hu1.keep hp1 (by simpa using fun h => hpg h.symm)
    refine hdel.mono ?_
    rintro e w3 ⟨rfl, hown4, hu3⟩
    have hp3 := hu3.keep hp2 (by simpa using fun h => hpg h.symm)
    obtain ⟨d0, t0⟩ := one_cell hp3
    clear c0 f0 hdel
    go_wp2
    go_ret
    have hu5 : Upd [p] w3 (w3.setCell ⟨p, 0, none⟩ (.slice (some ⟨g, 0, none⟩) (ds.length - 1) cap)) := (Upd.refl _ _).setCell _ _ (fun _ => by simp)
    refine ⟨rfl, ⟨some ⟨g, 0, none⟩, cap, by rw [hcl]; exact one_set hp3, by rw [hcl]; exact own_keep hown4 hu5 (fun q hq => by simpa using row_ne hp3 hown4 hq), rfl⟩, ?_⟩
    exact ((hu.mono (T := [p, g]) (by simp)).trans (hu1.transS hu3) (fun y hy _ => by simp at hy; simp [hy])).trans hu5 (fun y hy _ => by simp at hy; simp [hy])
  · have hlk : k + 1 = ds.length := by omega
    go_wp2_with fail
    have hu1 : Upd [g] w1 w1 := Upd.refl _ _
    have hdel := delete_any g cap 0 k ds w1 hown hkl (by omega)
    rw [← cut_last hlk] at hdel
    have hcl : (cutD ds k).length = ds.length - 1 := by rw [cut_last hlk, List.length_eraseIdx_of_lt hkl]
    have hp2 := hu1.keep hp1 (by simpa using fun h => hpg h.symm)
    refine hdel.mono ?_
    rintro e w3 ⟨rfl, hown4, hu3⟩
    have hp3 := hu3.keep hp2 (by simpa using fun h => hpg h.symm)
    obtain ⟨d0, t0⟩ := one_cell hp3
    clear c0 f0 hdel
    go_wp2
    go_ret
    have hu5 : Upd [p] w3 (w3.setCell ⟨p, 0, none⟩ (.slice (some ⟨g, 0, none⟩) (ds.length - 1) cap)) := (Upd.refl _ _).setCell _ _ (fun _ => by simp)
    refine ⟨rfl, ⟨some ⟨g, 0, none⟩, cap, by rw [hcl]; exact one_set hp3, by rw [hcl]; exact own_keep hown4 hu5 (fun q hq => by simpa using row_ne hp3 hown4 hq), rfl⟩, ?_⟩
    exact ((hu.mono (T := [p, g]) (by simp)).trans (hu1.transS hu3) (fun y hy _ => by simp at hy; simp [hy])).trans hu5 (fun y hy _ => by simp at hy; simp [hy])
end Go.Proofs.Ytkmjeadnkndhbaa
