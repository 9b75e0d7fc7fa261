/- slices.Insert of one element: where the row lies behind it. -/
import Derived.Test.YtkmjeadnkndhbaaDueDelete
import Derived.ArgAppend
namespace Go.Proofs.Ytkmjeadnkndhbaa
set_option linter.unusedVariables false
set_option linter.unusedSimpArgs false
open Go.RowKit

set_option maxHeartbeats 3200000 in
set_option maxRecDepth 100000 in
theorem insert_end_grow (a : Option Addr) (cap vb : Nat) (ds : List Due) (x : Due) (w : World) (hrd : Rd w (.slice a ds.length cap) ds.length (ds.flatMap Due.enc))
    (hv : w.heap[vb]? = some (.cells x.enc.toArray 55 (0, 0))) (hm : ds.length ≤ 100000) (hfull : cap < ds.length + 1) :
    Calls Try.prog 21 #[.slice a ds.length cap, .int .i64 ds.length, .slice (some ⟨vb, 0, none⟩) 1 1] w fun e w' =>
      ∃ a' c', e = .returned (.slice a' (ds.length + 1) c') ∧ w'.ownsRow w.heap.size 55 2 (.slice a' (ds.length + 1) c') (ds.length + 1) ((ds ++ [x]).flatMap Due.enc) ∧ Upd [] w w' := by
  have hd1 : ((ds.length : Int) == (ds.length : Int)) = true := by simp
  obtain ⟨a1, c1, _, hs1, hs2, hs3, hs4⟩ := hrd.cut tDue ds.length ds.length (by omega) (by omega)
  have hm1 : ds.length + 1 ≤ maxLen := by unfold maxLen; omega
  have hm2 : (ds.length + 1) * 16 ≤ 140737488355328 := by omega
  obtain ⟨ti, hti, hz, hsz, hby⟩ := tDue.info
  have hlo := due_len ds
  have hfl : (ds ++ [x]).flatMap Due.enc = ds.flatMap Due.enc ++ x.enc := by simp
  rw [hfl]
  have h1x := Due.one1 x
  obtain ⟨a9, c9, he9, h91, h92, h93, h94⟩ := hrd
  have hnone : a = none → ds.length = 0 ∧ cap = 0 := fun h => by
    cases he9
    have := h93 h
    omega
  have holds : ∀ b, a = some b → ∀ j u, (ds.flatMap Due.enc)[j]? = some u → w.cell? (b.add j) = some u := fun b hb j u hj => by
    cases he9
    rcases h94 with ⟨h, h0⟩ | ⟨b', off, hae, hc⟩
    · rw [h0] at hj; simp at hj
    · rw [hae] at hb
      cases hb
      rw [addr_off]
      exact hc j u hj
  have hc : ∀ j u, x.enc[j]? = some u → w.cell? ((⟨vb, 0, none⟩ : Addr).add j) = some u := fun j u hj => by rw [addr_off0, cell_at hv]; exact hj
  generalize ds.flatMap Due.enc = E at *
  have hxl := Due.enc_len x
  generalize x.enc = X at *
  have HF := Lib.hid hfull
  have HC := Lib.hid hc
  have HO := Lib.hid holds
  have HL := Lib.hid hlo
  have HX := Lib.hid hxl
  clear hfull hc holds hlo hxl he9 h93 h94 hv
  go_enter Try.func21, Try.ntmps21
  go_wp2_with (first
    | (at_builtin; refine wpList_append_grows _ rfl (.tmp 23) (.tmp 24) 51 rfl 55 ti _ 2 16 tDue.und hti hz hsz hby rfl (by omega) a ds.length cap E rfl hnone HL.out HO.out ⟨vb, 0, none⟩ 1 1 X rfl (by rw [HX.out]) HC.out h1x HF.out hm1 hm2 ?_; intro v3 w3 hown3 hg3; obtain ⟨a3, c3, rfl, _⟩ := own_slice hown3))
  go_ret
  exact ⟨a3, c3, rfl, hown3, (Upd.refl [] w).grown hg3 (fun k hk => by cases hk)⟩

set_option maxHeartbeats 3200000 in
set_option maxRecDepth 100000 in
theorem insert_end_room (g cap base vb : Nat) (ds : List Due) (x : Due) (w : World) (hown : w.ownsRow base 55 2 (.slice (some ⟨g, 0, none⟩) ds.length cap) ds.length (ds.flatMap Due.enc))
    (hv : w.heap[vb]? = some (.cells x.enc.toArray 55 (0, 0))) (hm : ds.length ≤ 100000) (hroom : ds.length + 1 ≤ cap) :
    Calls Try.prog 21 #[.slice (some ⟨g, 0, none⟩) ds.length cap, .int .i64 ds.length, .slice (some ⟨vb, 0, none⟩) 1 1] w fun e w' =>
      e = .returned (.slice (some ⟨g, 0, none⟩) (ds.length + 1) cap) ∧ w'.ownsRow base 55 2 (.slice (some ⟨g, 0, none⟩) (ds.length + 1) cap) (ds.length + 1) ((ds ++ [x]).flatMap Due.enc) ∧ Upd [g] w w' := by
  have hd1 : ((ds.length : Int) == (ds.length : Int)) = true := by simp
  have hs3 := fun W => run_from tDue (P := Try.prog) g ds.length cap ds.length (by omega) (by omega) (L := (ds.length : Int)) rfl W
  obtain ⟨ti, hti, hz, hsz, hby⟩ := tDue.info
  have hfl : (ds ++ [x]).flatMap Due.enc = ds.flatMap Due.enc ++ x.enc := by simp
  rw [hfl]
  have h1x := Due.one1 x
  have hc : ∀ j u, x.enc[j]? = some u → w.cell? ((⟨vb, 0, none⟩ : Addr).add j) = some u := fun j u hj => by rw [addr_off0, cell_at hv]; exact hj
  generalize ds.flatMap Due.enc = E at *
  have hxl := Due.enc_len x
  generalize x.enc = X at *
  have HC := Lib.hid hc
  have HX := Lib.hid hxl
  have HR := Lib.hid hroom
  clear hc hxl hv
  go_enter Try.func21, Try.ntmps21
  go_wp2_with (first
    | (at_builtin; refine wpList_append_fits _ rfl (.tmp 23) (.tmp 24) 51 rfl base 55 ti 2 tDue.und hti hsz g ds.length cap E rfl hown ⟨vb, 0, none⟩ 1 1 X rfl (by rw [HX.out]) HC.out h1x HR.out ?_; intro w3 hown3 hg3))
  go_ret
  exact ⟨rfl, hown3, (Upd.refl [g] w).grown hg3 (fun k hk _ => by cases hk; simp)⟩

/-- One more at place i; where the row lies then: where it lay, or in a new block. -/
theorem insert_at (a : Option Addr) (cap base vb i : Nat) (ds : List Due) (x : Due) (w : World) (hown : w.ownsRow base 55 2 (.slice a ds.length cap) ds.length (ds.flatMap Due.enc)) (hi : i ≤ ds.length)
    (hv : w.heap[vb]? = some (.cells x.enc.toArray 55 (0, 0))) (hvg : ∀ k, (Value.slice a ds.length cap).ownBlock = some k → vb ≠ k) (hbase : base ≤ w.heap.size) (hm : ds.length ≤ 100000) :
    Calls Try.prog 21 #[.slice a ds.length cap, .int .i64 i, .slice (some ⟨vb, 0, none⟩) 1 1] w fun e w' =>
      ∃ a' c', e = .returned (.slice a' (ds.length + 1) c') ∧ w'.ownsRow base 55 2 (.slice a' (ds.length + 1) c') (ds.length + 1) ((ds.take i ++ x :: ds.drop i).flatMap Due.enc) ∧ Upd (Value.slice a ds.length cap).ownBlock.toList w w' ∧
        (∀ k, (Value.slice a' (ds.length + 1) c').ownBlock = some k → (Value.slice a ds.length cap).ownBlock = some k ∨ w.heap.size ≤ k) := by
  have hfresh : ∀ {w' : World} {a' : Option Addr} {c' : Nat} {cs : List Value}, w'.ownsRow w.heap.size 55 2 (.slice a' (ds.length + 1) c') (ds.length + 1) cs → ∀ k, (Value.slice a' (ds.length + 1) c').ownBlock = some k → w.heap.size ≤ k := fun h k hk => (h.lt k hk).1
  rcases Nat.lt_or_ge i ds.length with h | h
  · obtain ⟨g, R, rfl, hb, hnc, hcm, hg, hl, hsz⟩ := own_parts hown (by omega)
    rcases Nat.lt_or_ge cap (ds.length + 1) with hc | hc
    · refine (insert_grow g cap w.heap.size vb i R ds x w hg h hnc hc hv (Nat.le_refl _) hm).mono ?_
      rintro e w' ⟨a', c', h1, h2, h3⟩
      exact ⟨a', c', h1, own_lower h2 hbase, h3.mono (by simp), fun k hk => .inr (hfresh h2 k hk)⟩
    · refine (insert_room' g cap base vb i R ds x w hg hsz h hc hcm hv (hvg g rfl) hb hm).mono ?_
      rintro e w' ⟨h1, h2, h3⟩
      exact ⟨_, _, h1, h2, h3.mono (by simp [Value.ownBlock]), fun k hk => .inl hk⟩
  · obtain rfl : i = ds.length := by omega
    rw [List.take_of_length_le (Nat.le_refl _), List.drop_of_length_le (Nat.le_refl _)]
    rcases Nat.lt_or_ge cap (ds.length + 1) with hc | hc
    · refine (insert_end_grow a cap vb ds x w (Rd.of_own hown) hv hm hc).mono ?_
      rintro e w' ⟨a', c', h1, h2, h3⟩
      exact ⟨a', c', h1, own_lower h2 hbase, h3.mono (by simp), fun k hk => .inr (hfresh h2 k hk)⟩
    · cases a with
      | none =>
        rcases hown.2 with ⟨h3, _⟩ | ⟨g, c, cur, h3, _⟩
        · injection h3
          omega
        · injection h3 with h5 _ _
          cases h5
      | some ad =>
        obtain ⟨R, hb, hadr, hnc, hcm, hg, hl, hsz⟩ := own_parts' hown
        obtain ⟨g, off, spot⟩ := ad
        cases hadr
        refine (insert_end_room g cap base vb ds x w hown hv hm hc).mono ?_
        rintro e w' ⟨h1, h2, h3⟩
        exact ⟨_, _, h1, h2, h3.mono (by simp [Value.ownBlock]), fun k hk => .inl hk⟩
end Go.Proofs.Ytkmjeadnkndhbaa
