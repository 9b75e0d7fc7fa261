/- chanq.closed: all that wait are woken, in their order. -/
import Derived.Test.YthchclhleppdhaaChanRecv
import Derived.Test.YthchclhleppdhaaOrderNil
namespace Go.Proofs.Ythchclhleppdhaa
set_option linter.unusedVariables false
set_option linter.unusedSimpArgs false
open Go.RowKit
/-- One that waits no more, and what came of it. -/
structure Wk where
  task : Int
  case_ : Int
  v : Int
  err : Int
  deriving DecidableEq
def Wk.enc (x : Wk) : List Value := [.int .i64 x.task, .int .i64 x.case_, .int .i64 x.v, .int .i64 x.err]
theorem Wk.enc_len (x : Wk) : x.enc.length = 4 := rfl
theorem Wk.one (xs : List Wk) : ∀ u ∈ xs.flatMap Wk.enc, u.oneCell' = true := by
  intro u hu
  obtain ⟨x, _, hx⟩ := List.mem_flatMap.1 hu
  simp only [Wk.enc, List.mem_cons, List.not_mem_nil, or_false] at hx
  rcases hx with rfl | rfl | rfl | rfl <;> rfl
theorem Wk.one1 (x : Wk) : ∀ u ∈ x.enc, u.oneCell' = true := fun u hu => Wk.one [x] u (by simpa using hu)
theorem tWk : ElemT Try.prog 33 37 (.agg #[.int .i64 0, .int .i64 0, .int .i64 0, .int .i64 0]) 4 32 :=
  ⟨Try.underlying33, by
    obtain ⟨i, hi, h⟩ := info_parts (show (Try.prog.info? 37).map (fun i => (i.zero, i.size, i.bytes)) = some (some (.agg #[.int .i64 0, .int .i64 0, .int .i64 0, .int .i64 0]), 4, 32) by kernel_rfl)
    exact ⟨i, hi, h⟩, rfl, by decide⟩
/-- A row of woken ones is read. -/
abbrev RdK (w : World) (v : Value) (xs : List Wk) : Prop := Rd w v xs.length (xs.flatMap Wk.enc)
theorem RdK.cells {w : World} {a : Option Addr} {cap : Nat} {xs : List Wk} (h : RdK w (.slice a xs.length cap) xs) {k : Nat} {x : Wk} (hk : xs[k]? = some x) :
    ∃ b off, a = some ⟨b, off, none⟩ ∧ w.cell? ⟨b, off + k * 4, none⟩ = some (.int .i64 x.task) ∧ w.cell? ⟨b, off + k * 4 + 1, none⟩ = some (.int .i64 x.case_) ∧ w.cell? ⟨b, off + k * 4 + 2, none⟩ = some (.int .i64 x.v) ∧ w.cell? ⟨b, off + k * 4 + 3, none⟩ = some (.int .i64 x.err) := by
  have hl := (List.getElem?_eq_some_iff.1 hk).1
  obtain ⟨b, off, rfl, hc⟩ := h.at (by omega)
  refine ⟨b, off, rfl, ?_, ?_, ?_, ?_⟩
  · have := hc (k * 4 + 0) _ (flat_get Wk.enc 4 Wk.enc_len xs k 0 x hk (by omega))
    simpa using this
  · have := hc (k * 4 + 1) _ (flat_get Wk.enc 4 Wk.enc_len xs k 1 x hk (by omega))
    simpa [Nat.add_assoc] using this
  · have := hc (k * 4 + 2) _ (flat_get Wk.enc 4 Wk.enc_len xs k 2 x hk (by omega))
    simpa [Nat.add_assoc] using this
  · have := hc (k * 4 + 3) _ (flat_get Wk.enc 4 Wk.enc_len xs k 3 x hk (by omega))
    simpa [Nat.add_assoc] using this
/-- Woken by a close. -/
def wkOf (q : List Wt) (j : Nat) : Wk := ⟨(wAt q j).task, (wAt q j).case_, 0, 9⟩
theorem types_neK : (3 : TypeId) ≠ 37 := by decide
set_option maxHeartbeats 3200000 in
theorem closed_nil (a : Option Addr) (cap : Nat) (ap : Option Addr) (pl cp : Nat) (w : World) :
    Calls Try.prog 36 #[.slice a 0 cap, .slice ap pl cp] w fun e w' => e = .returned (.slice none 0 0) ∧ Upd [] w w' := by
  go_enter Try.func36, Try.ntmps36
  go_wp2_with fail
  refine (order_nil a cap ap pl cp _).mono ?_
  rintro e w1 ⟨rfl, hu⟩
  go_wp2
  refine wp_loop_rounds 1 ?_
  rw [rounds_succ]
  go_wp2
  go_ret
  exact ⟨rfl, hu⟩
set_option maxHeartbeats 6400000 in
set_option maxRecDepth 100000 in
theorem closed_some (a ap : Option Addr) (cap cp : Nat) (q : List Wt) (ps : List Int) (w : World) (hq : RdW w (.slice a q.length cap) q) (hp : RdI w (.slice ap ps.length cp) ps) (hm : ps.length ≤ 1000000) (h0 : 0 < q.length) (hmq : q.length ≤ 1000000) :
    Calls Try.prog 36 #[.slice a q.length cap, .slice ap ps.length cp] w fun e w' => ∃ (a' : Option Addr) (c' : Nat) (M : List Nat), e = .returned (.slice a' q.length c') ∧ M.Perm (List.range q.length) ∧ M.Pairwise (goesW q ps) ∧ w'.ownsRow w.heap.size 37 4 (.slice a' q.length c') q.length ((M.map (wkOf q)).flatMap Wk.enc) ∧ Upd [] w w' := by
  have HQ := Lib.hid (fun W (hW : Upd [] w W) => hq.keep0 hW)
  have HO := Lib.hid (order_many a ap cap cp q ps w hq hp (by omega) h0 hmq)
  obtain ⟨n, hn⟩ : ∃ n, n = q.length := ⟨_, rfl⟩
  have HN := Lib.hid hn
  rw [← hn] at h0 hmq ⊢
  have HO' := Lib.hid (by have h := HO.out; rw [← hn] at h; exact h)
  clear hq hp hn HO
  go_enter Try.func36, Try.ntmps36
  go_wp2_with fail
  refine HO'.out.mono ?_
  rintro e w1 ⟨g, cg, M, rfl, hMp, hMR, hrow, hu⟩
  have HML := Lib.hid (show M.length = n by rw [hMp.length_eq]; simp)
  have HMM := Lib.hid (show ∀ x ∈ M, x < n from fun x hx => List.mem_range.1 (hMp.mem_iff.1 hx))
  have HMP := Lib.hid (And.intro hMp hMR)
  have HROW := Lib.hid hrow
  have HU := Lib.hid hu
  clear hMp hMR hrow hu HO'
  go_wp2
  go_loopw [5, 12] (fun ov iv wr => ∃ (k : Nat) (oa : Option Addr) (oc : Nat), k ≤ n ∧ iv = .int .i64 k ∧ ov = .slice oa k oc ∧ Hid (wr.ownsRow w.heap.size 3 1 (.slice (some ⟨g, 0, none⟩) n cg) n (M.map fun j : Nat => Value.int .i64 j)) ∧ Hid (wr.ownsRow w.heap.size 37 4 (.slice oa k oc) k (((M.take k).map (wkOf q)).flatMap Wk.enc)) ∧ Hid (Upd [] w wr)) (fun _ iv _ => n - (intOf iv).toNat)
  case atStart => exact ⟨0, none, 0, Nat.zero_le _, rfl, rfl, HROW, Lib.hid (World.ownsRow_nil _ _ _ _), HU⟩
  case round =>
    clear HROW HU
    obtain ⟨k, oa, oc, hk, rfl, rfl, HROW, HOWN, HU⟩ := hrel
    by_cases hlt : k < n
    · obtain ⟨j, hj⟩ : ∃ j, j = M.getD k 0 := ⟨_, rfl⟩
      have hkl : k < M.length := by rw [HML.out]; exact hlt
      have hjn : j < n := HMM.out j (by rw [hj]; exact getD_mem hkl)
      have hts : M.take (k + 1) = M.take k ++ [j] := by rw [hj]; exact take_snoc_getD hkl
      obtain ⟨x, hx⟩ : ∃ x, q[j]? = some x := ⟨_, List.getElem?_eq_getElem (by rw [← HN.out]; exact hjn)⟩
      have ex : wAt q j = x := by have := wAt_get (q := q) (x := j) (by rw [← HN.out]; exact hjn); rw [hx] at this; exact (Option.some.inj this).symm
      obtain ⟨b, off, rfl, z0, z1, z2, z3⟩ := RdW.cells (HQ.out w (Upd.refl _ _)) hx
      have hro := (Rd.of_own HROW.out)
      obtain ⟨b', off', hbe, hcell⟩ := hro.at (by omega)
      injection hbe with hbe
      injection hbe with hb1 hb2 _
      subst hb1
      subst hb2
      have cj := hcell k (.int .i64 (j : Nat)) (by rw [List.getElem?_map, List.getElem?_eq_getElem hkl, hj]; simp [List.getD, hkl])
      rw [Nat.zero_add] at cj
      have x0 := HU.out.cell z0 (by simp)
      have x1 := HU.out.cell z1 (by simp)
      have Z0 := Lib.hid z0
      have Z1 := Lib.hid z1
      have hm1 : k + 1 ≤ maxLen := by unfold maxLen; omega
      have hm2 : (k + 1) * 32 ≤ 140737488355328 := by omega
      have hbase : w.heap.size ≤ wr.heap.size := HU.out.size
      have HTS := Lib.hid hts
      have HEX := Lib.hid ex
      have k0 : (0 : Int) ≤ (k : Int) := by omega
      have k1 : (k : Int) < (n : Int) := by omega
      have j0 : (0 : Int) ≤ (j : Int) := by omega
      have j1 : (j : Int) < (q.length : Int) := by have := HN.out; omega
      have j2 : (j : Int) < (n : Int) := by omega
      have n0 := World.new_ne wr ⟨b, off + j * 4, none⟩ x0
      have n1 := World.new_ne wr ⟨b, off + j * 4 + 1, none⟩ x1
      clear hts ex hx hj z0 z1 z2 z3 hcell hro hkl
      go_wp2_with fail
      go_region_held3 (fun w' => w'.cell? ⟨b, off + j * 4, none⟩ = some (.int .i64 x.task) ∧ w'.cell? ⟨b, off + j * 4 + 1, none⟩ = some (.int .i64 x.case_)) (go_keep) (first
        | ((refine step_extend tWk rfl (.tmp 16) (.tmp 28) rfl (HOWN.out.alloc _) rfl rfl (rd_new _ (Wk.enc ⟨x.task, x.case_, 0, 9⟩) _) rfl (Wk.one1 _) hm1 hm2 (Nat.le_trans hbase (by simp)) ?_); intro g3 c3 w3 hown3 hupd3; have hupd4 : Upd [] w w3 := ((HU.out.alloc _).drew).trans hupd3 (fun y hy hl => by have := (HOWN.out.lt y (by simpa using hy)).1; omega); have d0 := hupd4.cell Z0.out (by simp); have d1 := hupd4.cell Z1.out (by simp)))
      have HO3 := Lib.hid hown3
      have HU4 := Lib.hid hupd4
      have HR4 := Lib.hid (own_keep (own_keep0 HROW.out (((Upd.refl [] wr).alloc (.cells #[.int .i64 x.task, .int .i64 x.case_, .int .i64 0, .int .i64 9] 37)).drew)) hupd3 (own_apart HROW.out HOWN.out types_neK))
      clear hown3 hupd3 hupd4 d0 d1
      go_wp2
      go_roundw
      case rel => exact ⟨k + 1, g3, c3, by omega, by go_num, rfl, HR4, Lib.hid (by rw [HTS.out, List.map_append, List.flatMap_append]; simpa [wkOf, HEX.out, Wk.enc] using HO3.out), HU4⟩
      case measure => simp [intOf]; omega
    · obtain rfl : k = n := by omega
      go_wp2
      go_ret
      have h := HOWN.out
      rw [List.take_of_length_le (by rw [HML.out]; exact Nat.le_refl _)] at h
      exact ⟨oa, oc, M, rfl, HMP.out.1, HMP.out.2, h, HU.out⟩
end Go.Proofs.Ythchclhleppdhaa
