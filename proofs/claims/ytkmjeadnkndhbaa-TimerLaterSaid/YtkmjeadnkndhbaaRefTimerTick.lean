/- What the reference's Tick does. -/
import Derived.Test.YtkmjeadnkndhbaaRefTimer
namespace Go.Proofs.Ytkmjeadnkndhbaa
set_option linter.unusedVariables false
set_option linter.unusedSimpArgs false
open Go.RowKit

/-- Those that are due now, in the order in which they were put, and those that stay. -/
def outR (ds : List Due) : List Int := (ds.filter fun d => d.more == 1).map Due.id
def restR (ds : List Due) : List Due := (ds.filter fun d => !(d.more == 1)).map fun d => ⟨d.id, d.more - 1⟩
theorem outR_snoc (l : List Due) (x : Due) : outR (l ++ [x]) = outR l ++ (if x.more = 1 then [x.id] else []) := by
  simp only [outR, List.filter_append, List.map_append]
  by_cases h : x.more = 1 <;> simp [h]
theorem restR_snoc (l : List Due) (x : Due) : restR (l ++ [x]) = restR l ++ (if x.more = 1 then [] else [⟨x.id, x.more - 1⟩]) := by
  simp only [restR, List.filter_append, List.map_append]
  by_cases h : x.more = 1 <;> simp [h]
theorem outR_len (l : List Due) : (outR l).length ≤ l.length := by unfold outR; rw [List.length_map]; exact List.length_filter_le _ _
theorem restR_len (l : List Due) : (restR l).length ≤ l.length := by unfold restR; rw [List.length_map]; exact List.length_filter_le _ _
theorem set1 {w : World} {b : Nat} {u v x : Value} {t : TypeId} (h : w.heap[b]? = some (.cells #[u, v] t (0, 0))) : (w.setCell ⟨b, 1, none⟩ x).heap[b]? = some (.cells #[u, x] t (0, 0)) := by
  simp only [World.setCell, Array.getElem?_modify, if_true, h, Option.map_some]
  rfl
theorem cells2 {w : World} {b : Nat} {u v : Value} {t : TypeId} (h : w.heap[b]? = some (.cells #[u, v] t (0, 0))) : w.cell? ⟨b, 0, none⟩ = some u ∧ w.cell? ⟨b, 1, none⟩ = some v := by
  simp [World.cell?, h]
/-- Rows of unlike elements lie apart. -/
theorem own_ne {w : World} {b1 b2 s1 s2 n1 n2 : Nat} {e1 e2 : TypeId} {v1 v2 : Value} {c1 c2 : List Value} (h1 : w.ownsRow b1 e1 s1 v1 n1 c1) (h2 : w.ownsRow b2 e2 s2 v2 n2 c2) (hne : e1 ≠ e2) {k : Nat} (hk : v1.ownBlock = some k) : k ∉ v2.ownBlock.toList := by
  intro hm
  obtain ⟨x, hx⟩ := own_block' h1 hk
  obtain ⟨y, hy⟩ := own_block' h2 (by simpa using hm : v2.ownBlock = some k)
  rw [hx] at hy
  injection hy with hy
  injection hy with _ hy _
  exact hne hy

set_option maxHeartbeats 6400000 in
set_option maxRecDepth 100000 in
theorem tickR_any (m : Nat) (ds : List Due) (w : World) (h : RefT w m ds) (hm : ds.length ≤ 99999) (hdo : DOk ds) :
    Calls Try.prog 17 #[.pointer (some ⟨m, 0, none⟩)] w fun e w' => ∃ oa oc, e = .returned (.slice oa (outR ds).length oc) ∧ w'.ownsRow w.heap.size 3 1 (.slice oa (outR ds).length oc) (outR ds).length ((outR ds).map (Value.int .i64)) ∧ RefT w' m (restR ds) ∧ Upd [m] w w' := by
  have hml := h.lt
  obtain ⟨a, cap, hp1, hown⟩ := h.ex
  have hrd : RdD w (.slice a ds.length cap) ds := Rd.of_own hown
  have HP := Lib.hid hp1
  have HDO := Lib.hid hdo
  clear hown hp1 hdo
  go_enter Try.func17, Try.ntmps17
  go_wp2
  go_loopw [3, 4, 5] (fun ov lv iv wr => ∃ (k : Nat) (oa la : Option Addr) (oc lc : Nat), k ≤ ds.length ∧ iv = .int .i64 k ∧ ov = .slice oa (outR (ds.take k)).length oc ∧ lv = .slice la (restR (ds.take k)).length lc ∧
      wr.ownsRow w.heap.size 3 1 (.slice oa (outR (ds.take k)).length oc) (outR (ds.take k)).length ((outR (ds.take k)).map (Value.int .i64)) ∧
      wr.ownsRow w.heap.size 59 2 (.slice la (restR (ds.take k)).length lc) (restR (ds.take k)).length ((restR (ds.take k)).flatMap Due.enc) ∧ Upd [] w wr) (fun _ _ iv _ => ds.length - (intOf iv).toNat)
  case atStart => exact ⟨0, none, none, 0, 0, Nat.zero_le _, rfl, rfl, rfl, World.ownsRow_nil _ _ _ _, World.ownsRow_nil _ _ _ _, Upd.refl _ _⟩
  case round =>
    obtain ⟨k, oa, la, oc, lc, hk, rfl, rfl, rfl, hout, hrest, hupd⟩ := hrel
    obtain ⟨c0, f0⟩ := one_cell (hupd.keep HP.out (by simp))
    by_cases hlt : k < ds.length
    · obtain ⟨x, hx⟩ : ∃ x, ds[k]? = some x := ⟨_, List.getElem?_eq_getElem hlt⟩
      obtain ⟨b, off, rfl, x0, x1⟩ := RdD.cells (hrd.keep0 hupd) hx
      have hbl : b < wr.heap.size := block_lt_of_cell x0
      have hxo := HDO.out x (List.mem_of_getElem? hx)
      have hs1 := outR_snoc (ds.take k) x
      have hs2 := restR_snoc (ds.take k) x
      rw [← take_snoc hx] at hs1 hs2
      have hl1 := outR_len (ds.take k)
      have hl2 := restR_len (ds.take k)
      have hl3 : (ds.take k).length ≤ k := List.length_take_le _ _
      generalize outR (ds.take k) = O at hout hs1 hl1
      generalize restR (ds.take k) = L at hrest hs2 hl2
      have HS1 := Lib.hid hs1
      have HS2 := Lib.hid hs2
      have hu1 : Upd [] wr (wr.alloc (.cells #[.int .i64 x.id, .int .i64 (x.more - 1)] 59)) := (Upd.refl _ _).alloc _
      have hout1 := own_keep0 hout hu1
      have hrest1 := own_keep0 hrest hu1
      have hupd1 := hupd.trans0 hu1
      have hm1 : O.length + 1 ≤ maxLen := by unfold maxLen; omega
      have hm2 : (O.length + 1) * 8 ≤ 140737488355328 := by omega
      have hm3 : L.length + 1 ≤ maxLen := by unfold maxLen; omega
      have hm4 : (L.length + 1) * 16 ≤ 140737488355328 := by omega
      clear hs1 hs2 hx hout hrest hl1 hl2 hl3
      by_cases h1 : x.more = 1
      · rw [if_pos h1] at HS1 HS2
        rw [List.append_nil] at HS2
        have hd1 : (x.more - 1 == 0) = true := beq_iff_eq.2 (by omega)
        clear h1
        go_wp2_with (first
          | (at_builtin; refine wp_push_at tIntD rfl (.tmp 30) (.tmp 33) rfl hout1 [.int .i64 x.id] rfl rfl (World.size_alloc _ _).symm rfl (by intro u hu; simp at hu; subst hu; rfl) hm1 hm2 hupd1.size ?_; intro g3 c3 w3 hout3 hu3))
        have hrest3 := own_keep hrest1 hu3 (fun q hq => own_ne hrest1 hout1 (by decide) hq)
        have hupd3 : Upd [] w w3 := hupd1.trans hu3 (fun y hy hl => by have := (hout1.lt y (by simpa using hy)).1; omega)
        have hol : (O ++ [x.id]).length = O.length + 1 := by simp
        go_roundw
        case rel => exact ⟨k + 1, some ⟨g3, 0, none⟩, la, c3, lc, by omega, by go_num, by rw [HS1.out, hol], by rw [HS2.out], by rw [HS1.out, hol, ids_snoc]; exact hout3, by rw [HS2.out]; exact hrest3, hupd3⟩
        case measure => simp [intOf]; omega
      · rw [if_neg h1] at HS1 HS2
        rw [List.append_nil] at HS1
        have hd1 : (x.more - 1 == 0) = false := beq_eq_false_iff_ne.2 (by omega)
        go_wp2_with (first
          | (at_builtin; refine wp_push_at tDueR rfl (.tmp 35) (.tmp 37) rfl hrest1 (Due.enc ⟨x.id, x.more - 1⟩) rfl rfl (World.size_alloc _ _).symm rfl (Due.one1 _) hm3 hm4 hupd1.size ?_; intro g3 c3 w3 hrest3 hu3))
        have hout3 := own_keep hout1 hu3 (fun q hq => own_ne hout1 hrest1 (by decide) hq)
        have hupd3 : Upd [] w w3 := hupd1.trans hu3 (fun y hy hl => by have := (hrest1.lt y (by simpa using hy)).1; omega)
        have hol : (L ++ [(⟨x.id, x.more - 1⟩ : Due)]).length = L.length + 1 := by simp
        go_roundw
        case rel => exact ⟨k + 1, oa, some ⟨g3, 0, none⟩, oc, c3, by omega, by go_num, by rw [HS1.out], by rw [HS2.out, hol], by rw [HS1.out]; exact hout3, by rw [HS2.out, hol, flat_due]; simpa using hrest3, hupd3⟩
        case measure => simp [intOf]; omega
    · obtain rfl : k = ds.length := by omega
      rw [List.take_of_length_le (Nat.le_refl _)] at hout hrest
      rw [List.take_of_length_le (Nat.le_refl _)]
      have hp2 := hupd.keep HP.out (by simp)
      go_wp2
      go_ret
      have hu5 : Upd [m] wr (wr.setCell ⟨m, 0, none⟩ (.slice la (restR ds).length lc)) := (Upd.refl _ _).setCell _ _ (fun _ => by simp)
      exact ⟨oa, oc, rfl, own_keep hout hu5 (fun q hq => by have := (hout.lt q hq).1; simp; omega), ⟨la, lc, one_set hp2, own_lower (own_keep hrest hu5 (fun q hq => by have := (hrest.lt q hq).1; simp; omega)) (Nat.zero_le _)⟩, (hupd.mono (by simp)).transS hu5⟩

theorem cancelR_none (m : Nat) (ds : List Due) (id : Int) (w : World) (h : RefT w m ds) (hm : ds.length ≤ 100000) (hk : idxD ds id = none) :
    Calls Try.prog 16 #[.pointer (some ⟨m, 0, none⟩), .int .i64 id] w fun e w' => e = .returned (.int .i64 8) ∧ w = w' := by
  have HK := Lib.hid hk
  clear hk
  go_enter Try.func16, Try.ntmps16
  go_wp2_with fail
  refine (findR_any m ds id _ h hm).mono ?_
  rintro e w1 ⟨rfl, rfl⟩
  rw [HK.out]
  simp only [optD]
  go_wp2
  go_ret
  exact ⟨rfl, rfl⟩
end Go.Proofs.Ytkmjeadnkndhbaa
