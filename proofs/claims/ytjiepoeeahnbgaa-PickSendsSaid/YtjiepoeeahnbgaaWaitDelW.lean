
/- slices.DeleteFunc over waiters, waitq.Without: the walks. -/
import Derived.Test.YtjiepoeeahnbgaaWaitDel
namespace Go.Proofs.Ytjiepoeeahnbgaa
set_option linter.unusedVariables false
set_option linter.unusedSimpArgs false
open Go.RowKit
theorem withoutClosure_any (x : Wt) (bt : Nat) (t : Int) (W : World) (hb : W.cell? ⟨bt, 0, none⟩ = some (.int .i64 t)) :
    Calls Try.prog 53 #[.agg #[.int .i64 x.task, .int .i64 x.case_, .int .i64 x.seq, .int .i64 x.v], .pointer (some ⟨bt, 0, none⟩)] W fun e w' => e = .returned (.bool (x.task == t)) ∧ Upd [] W w' := by
  have hlt : bt < W.heap.size := block_lt_of_cell hb
  go_enter Try.func53, Try.ntmps53
  go_wp2
  go_ret
  exact ⟨rfl, (Upd.refl _ _).alloc _⟩
/-- Those that stay. -/
def keepW (pr : Wt → Bool) (q : List Wt) : List Wt := q.filter fun x => !pr x
theorem keepW_len (pr : Wt → Bool) (q : List Wt) : (keepW pr q).length ≤ q.length := List.length_filter_le _ _
theorem keepW_snoc (pr : Wt → Bool) (q : List Wt) (x : Wt) : keepW pr (q ++ [x]) = keepW pr q ++ (if pr x = true then [] else [x]) := by
  unfold keepW
  rw [List.filter_append]
  by_cases h : pr x = true <;> simp [h]
theorem takeW_snoc {q : List Wt} {k : Nat} {x : Wt} (hk : q[k]? = some x) : q.take (k + 1) = q.take k ++ [x] := by
  rw [List.take_add_one, hk]
  rfl
/-- What the row holds while it is gone through. -/
structure DelAt (base g cap : Nat) (pr : Wt → Bool) (q : List Wt) (w : World) (j : Nat) (C : List Wt) : Prop where
  own : w.ownsRow base 68 4 (.slice (some ⟨g, 0, none⟩) C.length cap) C.length (C.flatMap Wt.enc)
  len : C.length = q.length
  head : C.take (keepW pr (q.take j)).length = keepW pr (q.take j)
  tail : C.drop j = q.drop j
  gap : (keepW pr (q.take j)).length < j
theorem DelAt.at {base g cap : Nat} {pr : Wt → Bool} {q : List Wt} {w : World} {j : Nat} {C : List Wt} (h : DelAt base g cap pr q w j C) {x : Wt} (hx : q[j]? = some x) : C[j]? = some x := by
  have h1 : (C.drop j)[0]? = (q.drop j)[0]? := by rw [h.tail]
  simpa [List.getElem?_drop, hx] using h1
theorem own_cells4 {w : World} {base g cap : Nat} {C : List Wt} (h : w.ownsRow base 68 4 (.slice (some ⟨g, 0, none⟩) C.length cap) C.length (C.flatMap Wt.enc)) {k : Nat} {x : Wt} (hk : C[k]? = some x) :
    w.cell? ⟨g, k * 4, none⟩ = some (.int .i64 x.task) ∧ w.cell? ⟨g, k * 4 + 1, none⟩ = some (.int .i64 x.case_) ∧ w.cell? ⟨g, k * 4 + 2, none⟩ = some (.int .i64 x.seq) ∧ w.cell? ⟨g, k * 4 + 3, none⟩ = some (.int .i64 x.v) ∧ ∀ f, w.frozen? ⟨g, f, none⟩ = false := by
  obtain ⟨R, hb, _, hnc, hcm, hg, hl, hsz⟩ := own_parts' h
  simp only at hb hg
  have hkl := (List.getElem?_eq_some_iff.1 hk).1
  have hc : ∀ f, f < 4 → w.cell? ⟨g, k * 4 + f, none⟩ = x.enc[f]? := by
    intro f hf
    have e := flat_get Wt.enc 4 Wt.enc_len C k f x hk hf
    have hfl : k * 4 + f < (C.flatMap Wt.enc).length := by rw [flat_len Wt.enc 4 Wt.enc_len]; omega
    simp [World.cell?, hg]
    rw [List.getElem?_append_left hfl, e]
  refine ⟨?_, ?_, ?_, ?_, fun f => by simp [World.frozen?, hg]⟩
  · have := hc 0 (by omega); simpa [Wt.enc] using this
  · have := hc 1 (by omega); simpa [Wt.enc] using this
  · have := hc 2 (by omega); simpa [Wt.enc] using this
  · have := hc 3 (by omega); simpa [Wt.enc] using this
theorem DelAt.drop {base g cap : Nat} {pr : Wt → Bool} {q : List Wt} {w w' : World} {j : Nat} {C : List Wt} (h : DelAt base g cap pr q w j C) (hu : Upd [] w w') {x : Wt} (hx : q[j]? = some x) (hp : pr x = true) : DelAt base g cap pr q w' (j + 1) C ∧ keepW pr (q.take (j + 1)) = keepW pr (q.take j) := by
  have e : keepW pr (q.take (j + 1)) = keepW pr (q.take j) := by rw [takeW_snoc hx, keepW_snoc, if_pos hp, List.append_nil]
  refine ⟨⟨own_keep0 h.own hu, h.len, by rw [e]; exact h.head, ?_, by rw [e]; have := h.gap; omega⟩, e⟩
  have := congrArg (List.drop 1) h.tail
  simpa [List.drop_drop] using this
theorem DelAt.keep {base g cap : Nat} {pr : Wt → Bool} {q : List Wt} {w w' : World} {j : Nat} {C : List Wt} (h : DelAt base g cap pr q w j C) {x : Wt} (hx : q[j]? = some x) (hp : pr x = false) {i : Nat} (hi : i = (keepW pr (q.take j)).length)
    (ho : w'.ownsRow base 68 4 (.slice (some ⟨g, 0, none⟩) (C.set i x).length cap) (C.set i x).length ((C.set i x).flatMap Wt.enc)) : DelAt base g cap pr q w' (j + 1) (C.set i x) ∧ (keepW pr (q.take (j + 1))).length = i + 1 := by
  have e : keepW pr (q.take (j + 1)) = keepW pr (q.take j) ++ [x] := by rw [takeW_snoc hx, keepW_snoc, if_neg (by simp [hp])]
  have hgap := h.gap
  have hjl := (List.getElem?_eq_some_iff.1 hx).1
  have hil : i < C.length := by rw [h.len]; omega
  have el : (keepW pr (q.take (j + 1))).length = i + 1 := by rw [e, List.length_append, ← hi]; rfl
  refine ⟨⟨ho, by rw [List.length_set]; exact h.len, ?_, ?_, by rw [el]; omega⟩, el⟩
  · rw [el, e, List.take_add_one]
    have h1 : (C.set i x).take i = C.take i := by rw [List.take_set_of_le (Nat.le_refl _)]
    rw [h1]
    have h2 := h.head
    rw [← hi] at h2
    rw [h2]
    simp [hil]
  · rw [List.drop_set_of_lt (by omega)]
    have := congrArg (List.drop 1) h.tail
    simpa [List.drop_drop] using this
set_option maxHeartbeats 16000000 in
set_option maxRecDepth 100000 in
theorem deleteFunc_some (bt : Nat) (pr : Wt → Bool) (g cap base k0 : Nat) (q : List Wt) (w : World) (hown : w.ownsRow base 68 4 (.slice (some ⟨g, 0, none⟩) q.length cap) q.length (q.flatMap Wt.enc)) (hm : q.length ≤ 100000) (hk0 : idxOf pr q = some k0)
    (hcl : ∀ (x : Wt) (W : World), Upd [g] w W → Calls Try.prog 53 #[.agg #[.int .i64 x.task, .int .i64 x.case_, .int .i64 x.seq, .int .i64 x.v], .pointer (some ⟨bt, 0, none⟩)] W fun e w' => e = .returned (.bool (pr x)) ∧ Upd [] W w') :
    Calls Try.prog 52 #[.slice (some ⟨g, 0, none⟩) q.length cap, .func (.func 53) #[] #[.pointer (some ⟨bt, 0, none⟩)]] w fun e w' => e = .returned (.slice (some ⟨g, 0, none⟩) (keepW pr q).length cap) ∧ w'.ownsRow base 68 4 (.slice (some ⟨g, 0, none⟩) (keepW pr q).length cap) (keepW pr q).length ((keepW pr q).flatMap Wt.enc) ∧ Upd [g] w w' := by
  obtain ⟨R0, hb, _, hnc, hcm, -, -, -⟩ := own_parts' hown
  have hidx := indexFuncD_any bt pr (some ⟨g, 0, none⟩) cap q w (Rd.of_own hown) (by omega) (fun x W hu => hcl x W (hu.mono (by simp)))
  rw [hk0] at hidx
  have HI := Lib.hid hidx
  have HCL := Lib.hid hcl
  have hk0' := hk0
  rw [idxOf, List.findIdx?_eq_some_iff_getElem] at hk0'
  obtain ⟨hkl, hkp, hkn⟩ := hk0'
  have hke : keepW pr (q.take k0) = q.take k0 := by
    unfold keepW
    rw [List.filter_eq_self]
    intro x hx
    obtain ⟨i, hi, rfl⟩ := List.getElem_of_mem hx
    rw [List.length_take] at hi
    rw [List.getElem_take]
    simpa using hkn i (by omega)
  have hke2 : keepW pr (q.take (k0 + 1)) = q.take k0 := by
    rw [takeW_snoc (List.getElem?_eq_getElem hkl), keepW_snoc, if_pos hkp, List.append_nil, hke]
  have hD0 : DelAt base g cap pr q w (k0 + 1) q := ⟨hown, rfl, by rw [hke2, List.length_take, Nat.min_eq_left (by omega)], rfl, by rw [hke2, List.length_take]; omega⟩
  have hk0l : (keepW pr (q.take (k0 + 1))).length = k0 := by rw [hke2, List.length_take, Nat.min_eq_left (by omega)]
  have HD0 := Lib.hid hD0
  have HKL := Lib.hid hk0l
  obtain ⟨n, hn⟩ : ∃ n, n = q.length := ⟨_, rfl⟩
  have HN := Lib.hid hn
  rw [← hn] at hkl hm hnc ⊢
  clear hown hidx hcl hk0 hkp hkn hke hke2 hD0 hk0l hn
  go_enter Try.func52, Try.ntmps52
  go_wp2_with fail
  have hI := HI.out
  rw [← HN.out] at hI
  refine hI.mono ?_
  rintro e w1 ⟨rfl, hu1⟩
  simp only [optI]
  have hw1 : IntKind.i64.wrap ((k0 : Int) + 1) = ((k0 + 1 : Nat) : Int) := by rw [IntWalk.i64_in _ (by omega)]; omega
  have tneg : ((k0 : Int) == -1) = false := beq_eq_false_iff_ne.2 (by omega)
  have HU1 := Lib.hid hu1
  clear hI hu1
  go_wp2
  go_loopw [5, 6] (fun iv jv wr => ∃ (i j : Nat) (C : List Wt), iv = .int .i64 i ∧ jv = .int .i64 j ∧ j ≤ n ∧ i = (keepW pr (q.take j)).length ∧ DelAt base g cap pr q wr j C ∧ Upd [g] w wr) (fun _ jv _ => n - (intOf jv).toNat)
  case atStart =>
    refine ⟨k0, k0 + 1, q, rfl, by go_num, by omega, HKL.out.symm, ?_, HU1.out.mono (by simp)⟩
    have h := HD0.out
    exact ⟨own_keep0 h.own HU1.out, h.len, h.head, h.tail, h.gap⟩
  case round =>
    obtain ⟨i, j, C, rfl, rfl, hj, hi, hD, hU⟩ := hrel
    by_cases hlt : j < n
    · obtain ⟨x, hx⟩ : ∃ x, q[j]? = some x := ⟨_, List.getElem?_eq_getElem (by rw [← HN.out]; exact hlt)⟩
      obtain ⟨y0, y1, y2, y3, yf⟩ := own_cells4 hD.own (hD.at hx)
      have hgap := hD.gap
      have HI2 := Lib.hid hi
      have HX := Lib.hid hx
      have HD := Lib.hid hD
      have hi0 : (0 : Int) ≤ (i : Int) := by omega
      have hin : (i : Int) < (n : Int) := by omega
      have hgl : g < wr.heap.size := World.block_lt_of_cell? wr _ y0
      clear hi hx hD
      go_wp2_with fail
      refine (HCL.out x _ (hU.alloc _)).mono ?_
      rintro e w3 ⟨rfl, hu3⟩
      have hu03 : Upd [] wr w3 := ((Upd.refl [] wr).alloc _).trans0 hu3
      have hU3 : Upd [g] w w3 := hU.trans0 hu03
      have hbx := hu3.keep (heap_alloc_new wr (.cells #[.int .i64 x.task, .int .i64 x.case_, .int .i64 x.seq, .int .i64 x.v] 68)) (by simp)
      have HU03 := Lib.hid hu03
      have HU3 := Lib.hid hU3
      clear hu03 hU3 hu3 hU y0 y1 y2 y3 yf
      cases hpr : pr x with
      | true =>
        have hdd := HD.out.drop HU03.out HX.out hpr
        have HDD := Lib.hid hdd
        clear hpr hdd hbx
        go_wp2
        go_roundw
        case rel => exact ⟨i, j + 1, C, rfl, by go_num, by omega, by rw [HDD.out.2]; exact HI2.out, HDD.out.1, HU3.out⟩
        case measure => simp [intOf]; omega
      | false =>
        have hCl : i < C.length := by rw [HD.out.len, ← HN.out]; omega
        have hi4 : i < j := by rw [HI2.out]; exact hgap
        have ho3 := own_keep0 HD.out.own HU03.out
        obtain ⟨u0, u1, u2, u3, uf⟩ := own_cells4 ho3 (List.getElem?_eq_getElem hCl)
        obtain ⟨b0, b1, b2, b3⟩ : w3.cell? ⟨wr.heap.size, 0, none⟩ = some (.int .i64 x.task) ∧ w3.cell? ⟨wr.heap.size, 1, none⟩ = some (.int .i64 x.case_) ∧ w3.cell? ⟨wr.heap.size, 2, none⟩ = some (.int .i64 x.seq) ∧ w3.cell? ⟨wr.heap.size, 3, none⟩ = some (.int .i64 x.v) := by simp [World.cell?, hbx]
        have f0 := uf (i * 4)
        have f1 := uf (i * 4 + 1)
        have f2 := uf (i * 4 + 2)
        have f3 := uf (i * 4 + 3)
        have hset := own_set4 ho3 i hCl x
        have hdk := HD.out.keep HX.out hpr HI2.out hset
        have HDK := Lib.hid hdk
        have hwi : IntKind.i64.wrap ((i : Int) + 1) = ((i + 1 : Nat) : Int) := by rw [IntWalk.i64_in _ (by omega)]; omega
        generalize C[i] = ci at u0 u1 u2 u3
        have HUS := Lib.hid (show Upd [g] w ((((w3.setCell ⟨g, i * 4, none⟩ (.int .i64 x.task)).setCell ⟨g, i * 4 + 1, none⟩ (.int .i64 x.case_)).setCell ⟨g, i * 4 + 2, none⟩ (.int .i64 x.seq)).setCell ⟨g, i * 4 + 3, none⟩ (.int .i64 x.v)) from (((HU3.out.setCell _ _ (fun _ => by simp)).setCell _ _ (fun _ => by simp)).setCell _ _ (fun _ => by simp)).setCell _ _ (fun _ => by simp))
        clear hpr hset hdk uf ho3 hbx
        go_wp2
        go_roundw
        case rel => exact ⟨i + 1, j + 1, C.set i x, by go_num, by go_num, by omega, HDK.out.2.symm, HDK.out.1, HUS.out⟩
        case measure => simp [intOf]; omega
    · obtain rfl : j = n := by omega
      have htk : q.take j = q := by rw [HN.out]; exact List.take_length
      rw [htk] at hi
      have hgap := hD.gap
      have hhead := hD.head
      rw [htk] at hgap hhead
      obtain ⟨R, hbb, _, hnc2, hcm2, hg, hl, hsz⟩ := own_parts' hD.own
      simp only at hbb hg
      rw [← hi] at hhead
      have hCn : C.length = j := hD.len.trans HN.out.symm
      have hij : i < j := by rw [hi]; exact hgap
      have hs1 := fun W => run_from tWt (P := Try.prog) g j cap i (by omega) (by omega) (L := (i : Int)) rfl W
      have hs2 := fun W => run_upto tWt (P := Try.prog) g j cap i (by omega) (U := (i : Int)) rfl W
      have hcl4 : (C.flatMap Wt.enc).length = j * 4 := by rw [flat_len Wt.enc 4 Wt.enc_len, hCn]
      have hc3 : ∀ ty, (Builtin.clear_ #[44] ty #[.slice (some ⟨g, i * 4, none⟩) (j - i) (cap - i)]).run Try.prog wr = .ok (.tuple #[]) (wr.setRow g (splice (C.flatMap Wt.enc ++ R) (i * 4) (Builtin.zeroCells (Value.agg #[.int .i64 0, .int .i64 0, .int .i64 0, .int .i64 0]).cells (j - i)).toList).toArray) :=
        fun ty => run_clear_n tWt (by intro v hv; simp [Value.cells] at hv; rw [hv]; rfl) wr ty g (i * 4) (j - i) (cap - i) _ _ hg (by rw [List.length_append, hcl4]; omega) (by omega)
      obtain ⟨L4, hL4⟩ : ∃ L4, L4 = (splice (C.flatMap Wt.enc ++ R) (i * 4) (Builtin.zeroCells (Value.agg #[.int .i64 0, .int .i64 0, .int .i64 0, .int .i64 0]).cells (j - i)).toList).toArray := ⟨_, rfl⟩
      rw [← hL4] at hc3
      have hfin : (wr.setRow g L4).ownsRow base 68 4 (.slice (some ⟨g, 0, none⟩) i cap) i ((keepW pr q).flatMap Wt.enc) := by
        have eC : C.flatMap Wt.enc = (keepW pr q).flatMap Wt.enc ++ (C.drop i).flatMap Wt.enc := by rw [← hhead, ← List.flatMap_append, List.take_append_drop]
        have lk : ((keepW pr q).flatMap Wt.enc).length = i * 4 := by rw [flat_len Wt.enc 4 Wt.enc_len, hi]
        have hz : (Builtin.zeroCells (Value.agg #[.int .i64 0, .int .i64 0, .int .i64 0, .int .i64 0]).cells (j - i)).toList.length = (j - i) * 4 := by rw [Array.length_toList, size_zeroCells]; rfl
        have hsp := splice_at (A := (keepW pr q).flatMap Wt.enc) (B := (C.drop i).flatMap Wt.enc ++ R) (C := (Builtin.zeroCells (Value.agg #[.int .i64 0, .int .i64 0, .int .i64 0, .int .i64 0]).cells (j - i)).toList) lk
        rw [← List.append_assoc, ← eC] at hsp
        have hh := setRow_heap wr g _ L4 _ _ hg
        rw [hL4, hsp] at hh
        rw [hL4, hsp]
        refine own_make hh hbb lk (by omega) hcm2 ?_
        have lD : ((C.drop i).flatMap Wt.enc).length = (j - i) * 4 := by rw [flat_len Wt.enc 4 Wt.enc_len, List.length_drop, hCn]
        rw [List.length_append, lk, List.length_append, hz, List.length_drop, List.length_append, lD]
        rw [List.length_append, hcl4] at hsz
        omega
      have HFIN := Lib.hid hfin
      have HUF := Lib.hid (upd_setRow hU g L4 (fun _ => by simp))
      have HI3 := Lib.hid hi
      clear hfin hL4 hg hl hsz hcl4 hhead hgap htk hD hU hi hCn
      go_wp2_with (first | (at_builtin; refine wpl_clear _ rfl (.tmp 38) _ rfl rfl (hc3 _) ?_))
      go_ret
      rw [← HI3.out]
      exact ⟨rfl, HFIN.out, HUF.out⟩
theorem keepW_all (pr : Wt → Bool) (q : List Wt) (h : idxOf pr q = none) : keepW pr q = q := by
  unfold keepW
  rw [List.filter_eq_self]
  intro x hx
  rw [idxOf, List.findIdx?_eq_none_iff] at h
  simpa using h x hx
set_option maxHeartbeats 4000000 in
set_option maxRecDepth 100000 in
theorem deleteFunc_none (bt : Nat) (pr : Wt → Bool) (a : Option Addr) (cap : Nat) (q : List Wt) (w : World) (hq : RdW w (.slice a q.length cap) q) (hm : q.length ≤ 100000) (hk0 : idxOf pr q = none)
    (hcl : ∀ (x : Wt) (W : World), Upd [] w W → Calls Try.prog 53 #[.agg #[.int .i64 x.task, .int .i64 x.case_, .int .i64 x.seq, .int .i64 x.v], .pointer (some ⟨bt, 0, none⟩)] W fun e w' => e = .returned (.bool (pr x)) ∧ Upd [] W w') :
    Calls Try.prog 52 #[.slice a q.length cap, .func (.func 53) #[] #[.pointer (some ⟨bt, 0, none⟩)]] w fun e w' => e = .returned (.slice a q.length cap) ∧ Upd [] w w' := by
  have hidx := indexFuncD_any bt pr a cap q w hq (by omega) hcl
  rw [hk0] at hidx
  have HI := Lib.hid hidx
  obtain ⟨n, hn⟩ : ∃ n, n = q.length := ⟨_, rfl⟩
  rw [← hn] at HI ⊢
  clear hidx hcl hk0 hq hn
  go_enter Try.func52, Try.ntmps52
  go_wp2_with fail
  refine HI.out.mono ?_
  rintro e w1 ⟨rfl, hu1⟩
  simp only [optI]
  go_wp2
  go_ret
  exact ⟨rfl, hu1⟩
end Go.Proofs.Ytjiepoeeahnbgaa
