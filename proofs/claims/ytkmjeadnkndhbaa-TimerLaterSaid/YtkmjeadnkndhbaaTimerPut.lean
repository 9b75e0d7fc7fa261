/- What (*Timer).Put does. -/
import Derived.Test.YtkmjeadnkndhbaaTimer
namespace Go.Proofs.Ytkmjeadnkndhbaa
set_option linter.unusedVariables false
set_option linter.unusedSimpArgs false
open Go.RowKit

/-- One more, due at the n-th tick. -/
def putD : List Due → Int → Int → List Due
  | [], id, n => [⟨id, n⟩]
  | d :: l, id, n => if n < d.more then ⟨id, n⟩ :: ⟨d.id, d.more - n⟩ :: l else d :: putD l id (n - d.more)
def DOk (ds : List Due) : Prop := ∀ d ∈ ds, 0 ≤ d.more ∧ d.more ≤ 1099511627776

theorem own_cells {w : World} {base g cap : Nat} {ds : List Due} (h : w.ownsRow base 55 2 (.slice (some ⟨g, 0, none⟩) ds.length cap) ds.length (ds.flatMap Due.enc)) {k : Nat} {x : Due} (hk : ds[k]? = some x) :
    w.cell? ⟨g, k * 2, none⟩ = some (.int .i64 x.id) ∧ w.cell? ⟨g, k * 2 + 1, none⟩ = some (.int .i64 x.more) ∧ w.frozen? ⟨g, k * 2 + 1, none⟩ = false := by
  obtain ⟨b, off, he, h0, h1⟩ := RdD.cells (Rd.of_own h) hk
  cases he
  obtain ⟨R, _, _, _, _, hg, _⟩ := own_parts' h
  refine ⟨by simpa using h0, by simpa using h1, ?_⟩
  simp only at hg
  simp [World.frozen?, hg]
theorem split_at {ds : List Due} {k : Nat} {x : Due} (hk : ds[k]? = some x) : ds = ds.take k ++ (x :: ds.drop (k + 1)) := by
  have hl := (List.getElem?_eq_some_iff.1 hk).1
  rw [List.getElem?_eq_getElem hl] at hk
  cases hk
  rw [List.getElem_cons_drop, List.take_append_drop]
theorem own_more {w : World} {base g cap : Nat} {ds : List Due} (h : w.ownsRow base 55 2 (.slice (some ⟨g, 0, none⟩) ds.length cap) ds.length (ds.flatMap Due.enc)) {k : Nat} {x : Due} (hk : ds[k]? = some x) (m : Int) :
    (w.setCell ⟨g, k * 2 + 1, none⟩ (.int .i64 m)).ownsRow base 55 2 (.slice (some ⟨g, 0, none⟩) (ds.set k ⟨x.id, m⟩).length cap) (ds.set k ⟨x.id, m⟩).length ((ds.set k ⟨x.id, m⟩).flatMap Due.enc) := by
  have hl := (List.getElem?_eq_some_iff.1 hk).1
  obtain ⟨R, hb, _, hnc, hcm, hg, hel, hsz⟩ := own_parts' h
  simp only at hb hg
  have hset : ds.set k ⟨x.id, m⟩ = ds.take k ++ ((⟨x.id, m⟩ : Due) :: ds.drop (k + 1)) := by
    rw [List.set_eq_take_append_cons_drop, if_pos hl]
  have hds : ds.flatMap Due.enc = (ds.take k).flatMap Due.enc ++ (.int .i64 x.id :: .int .i64 x.more :: (ds.drop (k + 1)).flatMap Due.enc) := by
    conv => lhs; rw [split_at hk]
    rw [flat_due]
    rfl
  have hE : (ds.set k ⟨x.id, m⟩).flatMap Due.enc = (ds.take k).flatMap Due.enc ++ (.int .i64 x.id :: .int .i64 m :: (ds.drop (k + 1)).flatMap Due.enc) := by
    rw [hset, flat_due]
    rfl
  have hA := take_flat (ds := ds) (i := k) (by omega)
  rw [List.length_set]
  refine own_make (R := R) ?_ hb (by rw [due_len, List.length_set]) hnc hcm (by rw [List.length_append, due_len, List.length_set]; rw [List.length_append, due_len] at hsz; exact hsz)
  have hcur : (ds.flatMap Due.enc ++ R).toArray.setIfInBounds (k * 2 + 1) (.int .i64 m) = ((ds.set k ⟨x.id, m⟩).flatMap Due.enc ++ R).toArray := by
    rw [hds, hE, List.setIfInBounds_toArray]
    congr 1
    generalize (ds.take k).flatMap Due.enc = A at hA
    rw [List.append_assoc, List.append_assoc, List.set_append_right _ _ (by omega), hA, show k * 2 + 1 - k * 2 = 1 by omega]
    rfl
  simp only [World.setCell, Array.getElem?_modify, if_true, hg, Option.map_some, hcur]
  rfl

theorem put_bad (p : Nat) (id n : Int) (w : World) (h : id < 0 ∨ 255 < id ∨ n < 1 ∨ 1099511627776 < n) :
    Calls Try.prog 9 #[.pointer (some ⟨p, 0, none⟩), .int .i64 id, .int .i64 n] w fun e w' => e = .returned (.int .i64 1) ∧ w = w' := by
  by_cases h1 : id < 0
  · have d1 : decide (id < 0) = true := decide_eq_true h1
    clear h h1
    go_enter Try.func9, Try.ntmps9
    go_wp2
    go_step3
    go_wp2
    rw [Exit.noGoto_ret]
    go_ret
    exact ⟨rfl, rfl⟩
  · have d1 : decide (id < 0) = false := decide_eq_false h1
    by_cases h2 : 255 < id
    · have d2 : decide (255 < id) = true := decide_eq_true h2
      clear h h1 h2
      go_enter Try.func9, Try.ntmps9
      go_wp2
      go_step3
      go_wp2
      rw [Exit.noGoto_ret]
      go_ret
      exact ⟨rfl, rfl⟩
    · have d2 : decide (255 < id) = false := decide_eq_false h2
      by_cases h3 : n < 1
      · have d3 : decide (n < 1) = true := decide_eq_true h3
        clear h h1 h2 h3
        go_enter Try.func9, Try.ntmps9
        go_wp2
        go_step3
        go_wp2
        rw [Exit.noGoto_ret]
        go_ret
        exact ⟨rfl, rfl⟩
      · have d3 : decide (n < 1) = false := decide_eq_false h3
        have d4 : decide (1099511627776 < n) = true := decide_eq_true (by omega)
        clear h h1 h2 h3
        go_enter Try.func9, Try.ntmps9
        go_wp2
        go_step3
        go_wp2
        rw [Exit.noGoto_ret]
        go_ret
        exact ⟨rfl, rfl⟩

theorem put_twice (p : Nat) (b : Option Nat) (ds : List Due) (k : Nat) (id n : Int) (w : World) (h : TimAt w p b ds) (hm : ds.length ≤ 100000) (h1 : 0 ≤ id) (h2 : id ≤ 255) (h3 : 1 ≤ n) (h4 : n ≤ 1099511627776) (hk : idxD ds id = some k) :
    Calls Try.prog 9 #[.pointer (some ⟨p, 0, none⟩), .int .i64 id, .int .i64 n] w fun e w' => e = .returned (.int .i64 6) ∧ Upd [] w w' := by
  have HK := Lib.hid hk
  clear hk
  go_enter Try.func9, Try.ntmps9
  go_wp2
  go_step3
  go_wp2_with fail
  refine (find_any p b ds id _ h hm).mono ?_
  rintro e w1 ⟨rfl, hu⟩
  rw [HK.out]
  simp only [optD]
  go_wp2
  rw [Exit.noGoto_ret]
  go_ret
  exact ⟨rfl, hu⟩

theorem drop_cons {ds : List Due} {k : Nat} {x : Due} (hk : ds[k]? = some x) : ds.drop k = x :: ds.drop (k + 1) := by
  have hl := (List.getElem?_eq_some_iff.1 hk).1
  rw [List.getElem?_eq_getElem hl] at hk
  cases hk
  exact (List.getElem_cons_drop (h := hl)).symm
theorem take_snoc {ds : List Due} {k : Nat} {x : Due} (hk : ds[k]? = some x) : ds.take (k + 1) = ds.take k ++ [x] := by
  rw [List.take_add_one, hk]
  rfl
theorem putD_len (ds : List Due) (id n : Int) : (putD ds id n).length = ds.length + 1 := by
  induction ds generalizing n with
  | nil => rfl
  | cons d l ih =>
    unfold putD
    split
    · simp
    · simp [ih]
theorem put_next {ds : List Due} {k : Nat} {x : Due} {id n r : Int} (hk : ds[k]? = some x) (h : putD ds id n = ds.take k ++ putD (ds.drop k) id r) (hr : ¬ r < x.more) : putD ds id n = ds.take (k + 1) ++ putD (ds.drop (k + 1)) id (r - x.more) := by
  rw [h, drop_cons hk, take_snoc hk, putD, if_neg hr]
  simp
theorem put_here {ds : List Due} {k : Nat} {x : Due} {id n r : Int} (hk : ds[k]? = some x) (h : putD ds id n = ds.take k ++ putD (ds.drop k) id r) (hr : r < x.more) : (ds.set k ⟨x.id, x.more - r⟩).take k ++ (⟨id, r⟩ : Due) :: (ds.set k ⟨x.id, x.more - r⟩).drop k = putD ds id n := by
  have hl := (List.getElem?_eq_some_iff.1 hk).1
  have hlt : (ds.take k).length = k := by simp; omega
  rw [h, drop_cons hk, putD, if_pos hr, List.set_eq_take_append_cons_drop, if_pos hl, List.take_append_of_le_length (by omega), List.take_of_length_le (by omega), List.drop_append_of_le_length (by omega), List.drop_of_length_le (by omega)]
  rfl
theorem put_end {ds : List Due} {id n r : Int} (h : putD ds id n = ds.take ds.length ++ putD (ds.drop ds.length) id r) : ds.take ds.length ++ (⟨id, r⟩ : Due) :: ds.drop ds.length = putD ds id n := by
  rw [h, List.drop_of_length_le (Nat.le_refl _)]
  rfl

theorem own_block' {w : World} {base : Nat} {e : TypeId} {size n : Nat} {v : Value} {cs : List Value} (h : w.ownsRow base e size v n cs) {k : Nat} (hk : v.ownBlock = some k) : ∃ cells, w.heap[k]? = some (.cells cells e (0, 0)) := by
  rcases h.2 with ⟨rfl, _⟩ | ⟨g, cap, cur, rfl, hb, hg, _⟩
  · simp [Value.ownBlock] at hk
  · simp [Value.ownBlock] at hk
    subst hk
    exact ⟨cur, hg⟩
theorem row_ne {w : World} {p q : Nat} {u : Value} {base size n : Nat} {v : Value} {cs : List Value} (hp : w.heap[p]? = some (.cells #[u] 53 (0, 0))) (h : w.ownsRow base 55 size v n cs) (hq : v.ownBlock = some q) : q ≠ p := by
  rintro rfl
  obtain ⟨c, hc⟩ := own_block' h hq
  rw [hp] at hc
  injection hc with hc
  injection hc with _ hc _
  exact absurd hc (by decide)

set_option maxHeartbeats 6400000 in
set_option maxRecDepth 100000 in
theorem put_ok (p : Nat) (b : Option Nat) (ds : List Due) (id n : Int) (w : World) (h : TimAt w p b ds) (hm : ds.length ≤ 99999) (hdo : DOk ds) (h1 : 0 ≤ id) (h2 : id ≤ 255) (h3 : 1 ≤ n) (h4 : n ≤ 1099511627776) (hk : idxD ds id = none) :
    Calls Try.prog 9 #[.pointer (some ⟨p, 0, none⟩), .int .i64 id, .int .i64 n] w fun e w' => ∃ b', e = .returned (.int .i64 0) ∧ TimAt w' p b' (putD ds id n) ∧ Upd (p :: b.toList) w w' ∧ ∀ k, b' = some k → b = some k ∨ w.heap.size ≤ k := by
  have HK := Lib.hid hk
  have HDO := Lib.hid hdo
  clear hk hdo
  go_enter Try.func9, Try.ntmps9
  go_wp2
  go_step3
  go_wp2_with fail
  refine (find_any p b ds id _ h (by omega)).mono ?_
  rintro e w1 ⟨rfl, hu⟩
  have hT1 := h.step hu
  obtain ⟨a, cap, hp1, hown, hab⟩ := hT1.ex
  have HT := Lib.hid hT1
  obtain ⟨c0, f0⟩ := one_cell hp1
  rw [HK.out]
  simp only [optD]
  go_wp2
  go_step3
  go_wp2
  go_loopw [2, 7] (fun rv iv wr => ∃ (k : Nat) (r : Int), rv = .int .i64 r ∧ iv = .int .i64 k ∧ k ≤ ds.length ∧ 0 ≤ r ∧ r ≤ 1099511627776 ∧ putD ds id n = ds.take k ++ putD (ds.drop k) id r ∧ w1 = wr) (fun _ iv _ => ds.length - (intOf iv).toNat)
  case atStart => exact ⟨0, n, rfl, rfl, Nat.zero_le _, by omega, h4, by simp, rfl⟩
  case round =>
    obtain ⟨k, r, rfl, rfl, hkl, hr0, hr1, hput, rfl⟩ := hrel
    have HPUT := Lib.hid hput
    clear hput
    by_cases hlt : k < ds.length
    · obtain ⟨x, hx⟩ : ∃ x, ds[k]? = some x := ⟨_, List.getElem?_eq_getElem hlt⟩
      obtain ⟨g, R, rfl, _, hnc, hcm, hg, _, _⟩ := own_parts hown (by omega)
      obtain ⟨e1, e2, e3⟩ := own_cells hown hx
      have hxo := HDO.out x (List.mem_of_getElem? hx)
      have hpg : p ≠ g := by
        rintro rfl
        rw [hp1] at hg
        injection hg with hg
        injection hg with _ hg _
        exact absurd hg (by decide)
      have hdk : ((k : Int) == (ds.length : Int)) = false := beq_eq_false_iff_ne.2 (by omega)
      have HX := Lib.hid hx
      clear hg hx
      by_cases hgt : r < x.more
      · have hd1 : decide (r < x.more) = true := decide_eq_true hgt
        go_wp2_with fail
        have hu1 : Upd [g] w1 (w1.setCell ⟨g, k * 2 + 1, none⟩ (.int .i64 (x.more - r))) := (Upd.refl _ _).setCell _ _ (fun _ => by simp)
        have hown2 := own_more hown HX.out (x.more - r)
        obtain ⟨W1, hW1⟩ : ∃ W1, W1 = w1.setCell ⟨g, k * 2 + 1, none⟩ (.int .i64 (x.more - r)) := ⟨_, rfl⟩
        have hsz : W1.heap.size = w1.heap.size := by rw [hW1]; simp [World.setCell]
        rw [← hW1] at hu1 hown2 ⊢
        have hua : Upd [] W1 (W1.alloc (.cells #[.int .i64 id, .int .i64 r] 55)) := (Upd.refl _ _).alloc _
        have hins := insert_at (some ⟨g, 0, none⟩) cap 0 w1.heap.size k (ds.set k ⟨x.id, x.more - r⟩) ⟨id, r⟩ (W1.alloc (.cells #[.int .i64 id, .int .i64 r] 55)) (own_keep0 hown2 hua) (by rw [List.length_set]; omega)
          (by rw [← hsz]; exact heap_alloc_new W1 _) (fun q hq => by have := (hown.lt q hq).2; omega) (Nat.zero_le _) (by rw [List.length_set]; omega)
        rw [List.length_set, put_here HX.out HPUT.out hgt] at hins
        have hp2 := hua.keep (hu1.keep hp1 (by simpa using hpg)) (by simp)
        have hu2 := hu1.trans0 hua
        clear hu1 hua hown2 hW1 hsz e1 e2 e3 c0 f0
        obtain ⟨W2, hW2⟩ : ∃ W2, W2 = W1.alloc (.cells #[.int .i64 id, .int .i64 r] 55) := ⟨_, rfl⟩
        rw [← hW2] at hins hp2 hu2 ⊢
        clear hW2
        refine hins.mono ?_
        rintro e w3 ⟨a3, c3, rfl, hown3, hu3, hfr⟩
        have hp3 := hu3.keep hp2 (by simp [Value.ownBlock]; exact hpg)
        obtain ⟨c0, f0⟩ := one_cell hp3
        have hu4 : Upd [g] w1 w3 := hu2.transS (hu3.mono (by simp [Value.ownBlock]))
        obtain rfl := hab
        have hs2 := hu2.size
        clear hins hu2 hp2 hu3
        go_wp2
        rw [Exit.noGoto_ret]
        go_ret
        have hu5 : Upd [p] w3 (w3.setCell ⟨p, 0, none⟩ (.slice a3 (ds.length + 1) c3)) := (Upd.refl _ _).setCell _ _ (fun _ => by simp)
        refine ⟨_, rfl, ⟨a3, c3, by rw [putD_len]; exact one_set hp3, by rw [putD_len]; exact own_keep hown3 hu5 (fun q hq => by simpa using row_ne hp3 hown3 hq), rfl⟩, ?_, ?_⟩
        · exact ((hu.mono (T := [p, g]) (by simp)).trans hu4 (fun y hy _ => by simp at hy; simp [hy])).trans hu5 (fun y hy _ => by simp at hy; simp [hy])
        · intro q hq
          rw [putD_len] at hq
          rcases hfr q hq with h | h
          · exact .inl h
          · exact .inr (by have := hu.size; have := hu4.size; omega)
      · have hd1 : decide (r < x.more) = false := decide_eq_false hgt
        go_wp2
        go_roundw
        case rel => exact ⟨k + 1, r - x.more, by go_num, by go_num, by omega, by omega, by omega, put_next HX.out HPUT.out hgt, by first | rfl | trivial⟩
        case measure => simp [intOf]; omega
    · obtain rfl : k = ds.length := by omega
      go_wp2_with fail
      have hua : Upd [] w1 (w1.alloc (.cells #[.int .i64 id, .int .i64 r] 55)) := (Upd.refl _ _).alloc _
      have hins := insert_at a cap 0 w1.heap.size ds.length ds ⟨id, r⟩ (w1.alloc (.cells #[.int .i64 id, .int .i64 r] 55)) (own_keep0 hown hua) (Nat.le_refl _)
        (heap_alloc_new w1 _) (fun q hq => by have := (hown.lt q hq).2; omega) (Nat.zero_le _) (by omega)
      rw [put_end HPUT.out] at hins
      have hp2 := hua.keep hp1 (by simp)
      obtain ⟨W2, hW2⟩ : ∃ W2, W2 = w1.alloc (.cells #[.int .i64 id, .int .i64 r] 55) := ⟨_, rfl⟩
      rw [← hW2] at hins hp2 hua ⊢
      clear hW2 c0 f0
      refine hins.mono ?_
      rintro e w3 ⟨a3, c3, rfl, hown3, hu3, hfr⟩
      have hp3 := hu3.keep hp2 (fun hq => by have hq' : (Value.slice a ds.length cap).ownBlock = some p := by simpa using hq
                                             exact absurd rfl (row_ne hp1 hown hq'))
      obtain ⟨c0, f0⟩ := one_cell hp3
      obtain rfl := hab
      have hu4 : Upd (Value.slice a ds.length cap).ownBlock.toList w1 w3 := (hua.mono (by simp)).transS hu3
      clear hins hp2 hu3
      go_wp2
      rw [Exit.noGoto_ret]
      go_ret
      have hu5 : Upd [p] w3 (w3.setCell ⟨p, 0, none⟩ (.slice a3 (ds.length + 1) c3)) := (Upd.refl _ _).setCell _ _ (fun _ => by simp)
      refine ⟨_, rfl, ⟨a3, c3, by rw [putD_len]; exact one_set hp3, by rw [putD_len]; exact own_keep hown3 hu5 (fun q hq => by simpa using row_ne hp3 hown3 hq), rfl⟩, ?_, ?_⟩
      · exact ((hu.mono (by simp)).trans hu4 (fun y hy _ => List.mem_cons_of_mem _ hy) : Upd (p :: (Value.slice a ds.length cap).ownBlock.toList) w w3).trans hu5 (fun y hy _ => by simp at hy; simp [hy])
      · intro q hq
        rw [putD_len] at hq
        rcases hfr q hq with h | h
        · exact .inl h
        · exact .inr (by have := hu.size; have := hua.size; omega)
end Go.Proofs.Ytkmjeadnkndhbaa
