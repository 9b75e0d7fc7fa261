
/- The reference's ring: a struct of a number and a row. -/
import Derived.Test.YtjiepoeeahnbgaaRing
namespace Go.Proofs.Ytjiepoeeahnbgaa
set_option linter.unusedVariables false
set_option linter.unusedSimpArgs false
open Go.RowKit Go.Conc

/-- The reference's ring at block m: so many at most, the values. -/
structure RefRing (w : World) (m most : Nat) (xs : List Int) : Prop where
  ex : ∃ a cap, w.heap[m]? = some (.cells #[.int .i64 most, .slice a xs.length cap] 106 (0, 0)) ∧ Rd w (.slice a xs.length cap) xs.length (xs.map (Value.int .i64)) ∧ (∀ k, (Value.slice a xs.length cap).ownBlock = some k → k ≠ m)
  le : xs.length ≤ most
  most : most ≤ 16
theorem RefRing.lt {w : World} {m most : Nat} {xs : List Int} (h : RefRing w m most xs) : m < w.heap.size := by
  obtain ⟨a, cap, h1, _⟩ := h.ex
  exact blk_lt h1
/-- It stays while channels alone turn. -/
theorem RefRing.keepc {w w' : World} {m most c : Nat} {xs : List Int} (h : RefRing w m most xs) (hu : Upd [c] w w') {p room : Nat} {ys : List Int} (hr : RingAt w p c room ys) : RefRing w' m most xs := by
  obtain ⟨a, cap, h1, h2, h3⟩ := h.ex
  obtain ⟨s, r, h4⟩ := hr.chan
  refine ⟨⟨a, cap, hu.keep h1 ?_, h2.keep hu ?_, h3⟩, h.le, h.most⟩
  · simp only [List.mem_singleton]
    rintro rfl
    rw [h1] at h4
    cases h4
  · intro k hk hl
    simp only [List.mem_singleton]
    rintro rfl
    obtain ⟨cc, t, f, h5⟩ := h2.blk hk hl
    rw [h5] at h4
    cases h4
theorem RefRing.keep0 {w w' : World} {m most : Nat} {xs : List Int} (h : RefRing w m most xs) (hu : Upd [] w w') : RefRing w' m most xs := by
  obtain ⟨a, cap, h1, h2, h3⟩ := h.ex
  exact ⟨⟨a, cap, hu.keep h1 (by simp), h2.keep0 hu, h3⟩, h.le, h.most⟩
theorem RingAt.keepm {w w' : World} {m most p c room : Nat} {xs ys : List Int} (hr : RingAt w p c room ys) (h : RefRing w m most xs) (hu : Upd [m] w w') : RingAt w' p c room ys := by
  obtain ⟨a, cap, h1, h2, h3⟩ := h.ex
  obtain ⟨s, r, h4⟩ := hr.chan
  refine hr.keep hu ?_ ?_
  · simp only [List.mem_singleton]
    rintro rfl
    have h5 := hr.obj
    rw [h1] at h5
    cases h5
  · simp only [List.mem_singleton]
    rintro rfl
    rw [h1] at h4
    cases h4

theorem newref_ok (room : Nat) (hr : room ≤ 16) (w : World) :
    Calls Try.prog 34 #[.int .i64 room] w fun e w' => ∃ m, e = .returned (.tuple #[.pointer (some ⟨m, 0, none⟩), .int .i64 0]) ∧ RefRing w' m room [] ∧ Upd [] w w' ∧ w.heap.size ≤ m := by
  have h0 : decide ((room : Int) < 0) = false := by simp
  have h1 : decide ((16 : Int) < (room : Int)) = false := by simp; omega
  go_enter Try.func34, Try.ntmps34
  go_wp2
  go_ret2
  exact ⟨_, rfl, ⟨⟨none, 0, heap_alloc_new _ _, Rd.nil _, fun k hk => by simp [Value.ownBlock] at hk⟩, by simp, hr⟩, (Upd.refl _ _).alloc _, by omega⟩
theorem newref_bad (room : Int) (hr : room < 0 ∨ 16 < room) (w : World) :
    Calls Try.prog 34 #[.int .i64 room] w fun e w' => e = .returned (.tuple #[.pointer none, .int .i64 1]) ∧ w = w' := by
  rcases hr with hr | hr
  · have h0 : decide ((room : Int) < 0) = true := by simpa using hr
    go_enter Try.func34, Try.ntmps34
    go_wp2
    go_ret2
    exact ⟨rfl, rfl⟩
  · have h0 : decide ((room : Int) < 0) = false := by simp; omega
    have h1 : decide ((16 : Int) < (room : Int)) = true := by simpa using hr
    go_enter Try.func34, Try.ntmps34
    go_wp2
    go_ret2
    exact ⟨rfl, rfl⟩

theorem two_cells {w : World} {b : Nat} {u v : Value} {t : TypeId} (h : w.heap[b]? = some (.cells #[u, v] t (0, 0))) : w.cell? ⟨b, 0, none⟩ = some u ∧ w.cell? ⟨b, 1, none⟩ = some v ∧ w.frozen? ⟨b, 0, none⟩ = false ∧ w.frozen? ⟨b, 1, none⟩ = false := by
  simp [World.cell?, World.frozen?, h]
theorem two_set1 {w : World} {b : Nat} {u v x : Value} {t : TypeId} (h : w.heap[b]? = some (.cells #[u, v] t (0, 0))) : (w.setCell ⟨b, 1, none⟩ x).heap[b]? = some (.cells #[u, x] t (0, 0)) := by
  simp only [World.setCell, Array.getElem?_modify, if_true, h, Option.map_some]
  rfl

set_option maxHeartbeats 800000 in
set_option maxRecDepth 100000 in
theorem pushref_room (m most : Nat) (xs : List Int) (v : Int) (w : World) (hR : RefRing w m most xs) (hlt : xs.length < most) :
    Calls Try.prog 37 #[.pointer (some ⟨m, 0, none⟩), .int .i64 v] w fun e w' => e = .returned (.bool true) ∧ RefRing w' m most (xs ++ [v]) ∧ Upd [m] w w' := by
  have hmost := hR.most
  have hlm := hR.lt
  obtain ⟨a, cap, hblk, hrd, hne⟩ := hR.ex
  obtain ⟨c0, c1, f0, f1⟩ := two_cells hblk
  have hge : decide ((most : Int) ≤ (xs.length : Int)) = false := by simp; omega
  have hge2 : decide (most ≤ xs.length) = false := by simp; omega
  go_enter Try.func37, Try.ntmps37
  go_wp2
  go_quiet (fail)
  have hu0 : Upd [] w (w.drewN nq) := (Upd.refl _ _).drewN _
  generalize w.drewN nq = w0 at hu0
  have hblk0 := hu0.keep hblk (by simp)
  have hrd0 := hrd.keep0 hu0
  have hlm0 := hu0.lt hlm
  obtain ⟨c0, c1, f0, f1⟩ := two_cells hblk0
  have hm1 : xs.length ≤ maxLen := by unfold maxLen; omega
  have hm2 : xs.length * 8 ≤ 140737488355328 := by omega
  have hm3 : xs.length + 1 ≤ maxLen := by unfold maxLen; omega
  have hm4 : (xs.length + 1) * 8 ≤ 140737488355328 := by omega
  go_wp2_with (first
    | (at_builtin; refine wp_copy tI64 rfl (.tmp 16) (.tmp 20) rfl (base := w0.heap.size) (World.ownsRow_made _ #[] 0 (by simp) (by simp) rfl) rfl rfl (hrd0.keep0 ((Upd.refl _ _).alloc _)) (by simp) (one_ints xs) hm1 hm2 (by simp) ?_; intro a1 cp1 w1 hown1 hupd1)
    | (at_builtin; refine wp_push tI64 rfl (.tmp 21) (.tmp 23) rfl hown1 [.int .i64 v] rfl rfl rfl (one_ints [v]) hm3 hm4 (Nat.le_trans (by simp) hupd1.size) ?_; intro g2 cp2 w2 hown2 hupd2
       have hu2 : Upd [] w0 w2 := (((Upd.refl [] w0).alloc _).trans hupd1 (fun x hx hl => by simp [Value.ownBlock] at hx; omega)).trans hupd2 (fun x hx hl => by have := (hown1.lt x (by simpa using hx)).1; omega)
       have hblk2 := hu2.keep hblk0 (by simp)
       obtain ⟨d0, d1, e0, e1⟩ := two_cells hblk2
       clear hupd1 hupd2 hblk hrd hblk0 hrd0 hown1))
  go_ret
  have hg2 := (hown2.lt g2 rfl).1
  have hu3 := (hu0.trans0 hu2)
  refine ⟨rfl, ⟨⟨some ⟨g2, 0, none⟩, cp2, ?_, ?_, ?_⟩, by simp; omega, hmost⟩, ((hu0.trans0 hu2).mono (by simp)).setCell _ _ (fun _ => by simp)⟩
  · have := two_set1 (x := .slice (some ⟨g2, 0, none⟩) (xs.length + 1) cp2) hblk2
    simpa using this
  · have := (Rd.of_own hown2).keep ((Upd.refl [m] w2).setCell ⟨m, 1, none⟩ (.slice (some ⟨g2, 0, none⟩) (xs.length + 1) cp2) (fun _ => by simp)) (fun k hk _ => by simp [Value.ownBlock] at hk; simp; omega)
    simpa using this
  · intro k hk
    simp [Value.ownBlock] at hk
    omega

set_option maxHeartbeats 800000 in
set_option maxRecDepth 100000 in
theorem pushref_full (m most : Nat) (xs : List Int) (v : Int) (w : World) (hR : RefRing w m most xs) (hlt : most ≤ xs.length) :
    Calls Try.prog 37 #[.pointer (some ⟨m, 0, none⟩), .int .i64 v] w fun e w' => e = .returned (.bool false) ∧ ∃ n, w' = w.drewN n := by
  have hmost := hR.most
  obtain ⟨a, cap, hblk, hrd, hne⟩ := hR.ex
  obtain ⟨c0, c1, f0, f1⟩ := two_cells hblk
  have hge : decide ((most : Int) ≤ (xs.length : Int)) = true := by simp; omega
  have hge2 : decide (most ≤ xs.length) = true := by simp; omega
  go_enter Try.func37, Try.ntmps37
  go_wp2
  go_quiet (fail)
  go_wp2
  go_ret
  exact ⟨rfl, _, rfl⟩

end Go.Proofs.Ytjiepoeeahnbgaa
