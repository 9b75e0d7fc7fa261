/- What (*Timer).Tick, Left, Cancel do. -/
import Derived.Test.YtkmjeadnkndhbaaTimerPut
namespace Go.Proofs.Ytkmjeadnkndhbaa
set_option linter.unusedVariables false
set_option linter.unusedSimpArgs false
open Go.RowKit

theorem tIntD : ElemT Try.prog 28 3 (.int .i64 0) 1 8 :=
  ⟨Try.underlying28, by
    obtain ⟨i, hi, h⟩ := info_parts (show (Try.prog.info? 3).map (fun i => (i.zero, i.size, i.bytes)) = some (some (.int .i64 0), 1, 8) by kernel_rfl)
    exact ⟨i, hi, h⟩, rfl, by omega⟩
/-- Those that are due now, and those that stay. -/
def popD : List Due → List Int × List Due
  | [] => ([], [])
  | d :: l => if d.more = 0 then (d.id :: (popD l).1, (popD l).2) else ([], d :: l)
def tickD : List Due → List Int × List Due
  | [] => ([], [])
  | d :: l => popD (⟨d.id, d.more - 1⟩ :: l)
def lenV : Option Value → Nat
  | some (.slice _ n _) => n
  | _ => 0
theorem ids_snoc (l : List Int) (x : Int) : (l ++ [x]).map (Value.int .i64) = l.map (Value.int .i64) ++ [.int .i64 x] := by simp

set_option maxHeartbeats 6400000 in
set_option maxRecDepth 100000 in
/-- The loop of Tick, from any state on. -/
theorem tick_nil (p : Nat) (b : Option Nat) (w : World) (h : TimAt w p b []) :
    Calls Try.prog 10 #[.pointer (some ⟨p, 0, none⟩)] w fun e w' => e = .returned (.slice none 0 0) ∧ w = w' := by
  obtain ⟨a, cap, hp1, hown, hab⟩ := h.ex
  obtain ⟨c0, f0⟩ := one_cell hp1
  go_enter Try.func10, Try.ntmps10
  go_wp2
  go_loopw [3] (fun ov wr => ov = .slice none 0 0 ∧ w = wr) (fun ov _ => 0)
  case atStart => exact ⟨rfl, rfl⟩
  case round =>
    obtain ⟨rfl, rfl⟩ := hrel
    go_wp2
    go_ret
    exact ⟨rfl, rfl⟩

set_option maxHeartbeats 6400000 in
set_option maxRecDepth 100000 in
theorem tick_some (p g : Nat) (d : Due) (l : List Due) (w : World) (h : TimAt w p (some g) (d :: l)) (hm : (d :: l).length ≤ 99999) (hd0 : 0 ≤ d.more) (hd1 : d.more ≤ 1099511627776) :
    Calls Try.prog 10 #[.pointer (some ⟨p, 0, none⟩)] w fun e w' => ∃ oa oc, e = .returned (.slice oa (tickD (d :: l)).1.length oc) ∧ w'.ownsRow w.heap.size 3 1 (.slice oa (tickD (d :: l)).1.length oc) (tickD (d :: l)).1.length ((tickD (d :: l)).1.map (Value.int .i64)) ∧
      TimAt w' p (some g) (tickD (d :: l)).2 ∧ Upd [p, g] w w' := by
  obtain ⟨a, cap, hp1, hown, hab⟩ := h.ex
  obtain ⟨ad, rfl, rfl⟩ : ∃ x : Addr, a = some x ∧ g = x.block := by
    cases a with
    | none => simp [Value.ownBlock] at hab
    | some x => simp [Value.ownBlock] at hab; exact ⟨x, rfl, hab.symm⟩
  obtain ⟨R, _, hadr, _⟩ := own_parts' hown
  obtain ⟨g, off, spot⟩ := ad
  cases hadr
  simp only at hab ⊢
  obtain ⟨c0, f0⟩ := one_cell hp1
  obtain ⟨e1, e2, e3⟩ := own_cells (k := 0) (x := d) hown rfl
  simp only [Nat.zero_mul, Nat.zero_add] at e1 e2 e3
  have hpg : g ≠ p := row_ne hp1 hown rfl
  have hown2 := own_more (k := 0) (x := d) hown rfl (d.more - 1)
  simp only [Nat.zero_mul, Nat.zero_add, List.set_cons_zero] at hown2
  have hgw := (hown.lt g rfl).2
  have hpw := h.lt
  have hu1 : Upd [p, g] w (w.setCell ⟨g, 1, none⟩ (.int .i64 (d.more - 1))) := (Upd.refl _ _).setCell _ _ (fun _ => by simp)
  have hu1' : Upd [g] w (w.setCell ⟨g, 1, none⟩ (.int .i64 (d.more - 1))) := (Upd.refl _ _).setCell _ _ (fun _ => by simp)
  have hT1 : TimAt (w.setCell ⟨g, 1, none⟩ (.int .i64 (d.more - 1))) p (some g) (⟨d.id, d.more - 1⟩ :: l) := ⟨some ⟨g, 0, none⟩, cap, hu1'.keep hp1 (by simpa using fun h => hpg h.symm), hown2, rfl⟩
  have htk : tickD (d :: l) = popD (⟨d.id, d.more - 1⟩ :: l) := rfl
  rw [htk]
  generalize hds : ((⟨d.id, d.more - 1⟩ : Due) :: l) = ds0 at hT1 ⊢
  have hm0 : ds0.length ≤ 99999 := by rw [← hds]; simpa using hm
  clear hds hown2 htk hu1'
  have hlen0 : decide (0 < ((d :: l).length : Int)) = true := decide_eq_true (by simp)
  go_enter Try.func10, Try.ntmps10
  go_wp2
  obtain ⟨w1, hw1⟩ : ∃ w1, w1 = w.setCell ⟨g, 1, none⟩ (.int .i64 (d.more - 1)) := ⟨_, rfl⟩
  rw [← hw1] at hT1 hu1 ⊢
  clear hw1 c0 f0 e1 e2 e3 hown h hp1 hab
  go_loopw [3] (fun ov wr => ∃ (outs : List Int) (rest : List Due) (oa : Option Addr) (oc : Nat), ov = .slice oa outs.length oc ∧ outs.length + rest.length ≤ 99999 ∧ popD ds0 = (outs ++ (popD rest).1, (popD rest).2) ∧ wr.ownsRow w.heap.size 3 1 (.slice oa outs.length oc) outs.length (outs.map (Value.int .i64)) ∧ TimAt wr p (some g) rest ∧ Upd [p, g] w wr) (fun _ wr => lenV (wr.cell? ⟨p, 0, none⟩))
  case atStart => exact ⟨[], ds0, none, 0, rfl, by simpa using hm0, by simp, World.ownsRow_nil _ _ _ _, hT1, hu1⟩
  case round =>
    clear hT1 hu1
    obtain ⟨outs, rest, oa, oc, rfl, hlen, hpop, hout, hT, hU⟩ := hrel
    obtain ⟨a, cap, hp1, hown, hab⟩ := hT.ex
    obtain ⟨c0, f0⟩ := one_cell hp1
    have HPOP := Lib.hid hpop
    clear hpop
    cases rest with
    | nil =>
      go_wp2
      go_ret
      rw [HPOP.out]
      simp only [popD, List.append_nil]
      exact ⟨oa, oc, rfl, hout, hT, hU⟩
    | cons x rest =>
      obtain ⟨ad, rfl, hag⟩ : ∃ x : Addr, a = some x ∧ g = x.block := by
        cases a with
        | none => simp [Value.ownBlock] at hab
        | some x => simp [Value.ownBlock] at hab; exact ⟨x, rfl, hab.symm⟩
      obtain ⟨R, _, hadr, _⟩ := own_parts' hown
      rw [← hag] at hadr
      subst hadr
      clear hag hab
      obtain ⟨e1, e2, e3⟩ := own_cells (k := 0) (x := x) hown rfl
      simp only [Nat.zero_mul, Nat.zero_add] at e1 e2 e3
      have hpl : decide (0 < ((x :: rest).length : Int)) = true := decide_eq_true (by simp)
      by_cases hx0 : x.more = 0
      · have hd2 : (x.more == 0) = true := beq_iff_eq.2 hx0
        have hm1 : outs.length + 1 ≤ maxLen := by unfold maxLen; omega
        have hm2 : (outs.length + 1) * 8 ≤ 140737488355328 := by omega
        have hob : ∀ y ∈ (Value.slice oa outs.length oc).ownBlock.toList, w.heap.size ≤ y := fun y hy => (hout.lt y (by simpa using hy)).1
        go_wp2_with (first
          | (at_builtin; refine wp_push tIntD rfl (.tmp 36) (.tmp 44) rfl hout [.int .i64 x.id] rfl rfl rfl (by intro u hu; simp at hu; subst hu; rfl) hm1 hm2 hU.size ?_; intro g3 c3 w3 hout3 hu3; have hp3 := hu3.keep hp1 (fun hq => by have := hob p hq; omega); obtain ⟨d0, t0⟩ := one_cell hp3; clear c0 f0 e1 e2 e3))
        have hgo : g ∉ (Value.slice oa outs.length oc).ownBlock.toList := fun hq => by have := hob g hq; omega
        have hpo : p ∉ (Value.slice oa outs.length oc).ownBlock.toList := fun hq => by have := hob p hq; omega
        have hown3 := own_keep hown hu3 (fun k hk hq => by cases hk; exact hgo hq)
        have hdel := delete_any g cap 0 0 (x :: rest) w3 hown3 (by simp) (by simp at hlen ⊢; omega)
        refine (hdel : Calls Try.prog 22 #[.slice (some ⟨g, 0, none⟩) (x :: rest).length cap, .int .i64 0, .int .i64 1] _ _).mono ?_
        rintro e w4 ⟨rfl, hown4, hu4⟩
        simp only [List.eraseIdx_cons_zero, List.length_cons, Nat.add_sub_cancel] at hown4 ⊢
        have hp4 := hu4.keep hp3 (by simpa using fun h => hpg h.symm)
        obtain ⟨j0, i0⟩ := one_cell hp4
        have hout4 := own_keep hout3 hu4 (fun k hk hq => by
          simp at hq
          have := (hout3.lt k hk).1
          omega)
        have hcell0 := one_cell hp1
        have HC0 := Lib.hid hcell0.1
        clear d0 t0 hcell0 hdel
        go_wp2
        have hu5 : Upd [p] w4 (w4.setCell ⟨p, 0, none⟩ (.slice (some ⟨g, 0, none⟩) rest.length cap)) := (Upd.refl _ _).setCell _ _ (fun _ => by simp)
        have hp5 := one_set (x := .slice (some ⟨g, 0, none⟩) rest.length cap) hp4
        go_roundw
        case rel =>
          refine ⟨outs ++ [x.id], rest, some ⟨g3, 0, none⟩, c3, by simp, by simp at hlen ⊢; omega, ?_, ?_, ⟨some ⟨g, 0, none⟩, cap, hp5, own_keep hown4 hu5 (fun k hk hq => by cases hk; simp at hq; exact hpg hq), rfl⟩, ?_⟩
          · rw [HPOP.out]
            simp [popD, hx0]
          · rw [ids_snoc, List.length_append]
            exact own_keep hout4 hu5 (fun k hk hq => by
              simp at hq
              have := (hout4.lt k hk).1
              omega)
          · exact ((hU.trans hu3 (fun y hy hl => by have := hob y hy; omega)).trans hu4 (fun y hy _ => by simp at hy; simp [hy])).trans hu5 (fun y hy _ => by simp at hy; simp [hy])
        case measure =>
          rw [(one_cell hp5).1, HC0.out]
          simp [lenV]
      · have hd2 : (x.more == 0) = false := beq_eq_false_iff_ne.2 hx0
        go_wp2
        go_ret
        rw [HPOP.out]
        simp only [popD, if_neg hx0, List.append_nil]
        exact ⟨oa, oc, rfl, hout, hT, hU⟩

/-- How long it is still. -/
def leftD : List Due → Int → Int → Int × Bool
  | [], _, _ => (0, false)
  | d :: l, id, n => if d.id = id then (n + d.more, true) else leftD l id (n + d.more)

set_option maxHeartbeats 3200000 in
set_option maxRecDepth 100000 in
theorem left_any (p : Nat) (b : Option Nat) (ds : List Due) (id : Int) (w : World) (h : TimAt w p b ds) (hm : ds.length ≤ 100000) (hdo : DOk ds) :
    Calls Try.prog 12 #[.pointer (some ⟨p, 0, none⟩), .int .i64 id] w fun e w' => e = .returned (.tuple #[.int .i64 (leftD ds id 0).1, .bool (leftD ds id 0).2]) ∧ Upd [] w w' := by
  obtain ⟨a, cap, hp1, hown, hab⟩ := h.ex
  obtain ⟨c0, f0⟩ := one_cell hp1
  have hrd : RdD w (.slice a ds.length cap) ds := Rd.of_own hown
  have HDO := Lib.hid hdo
  clear hdo hown
  go_enter Try.func12, Try.ntmps12
  go_wp2
  go_loopw [6, 14] (fun nv iv wr => ∃ (k : Nat) (s : Int), nv = .int .i64 s ∧ iv = .int .i64 k ∧ k ≤ ds.length ∧ 0 ≤ s ∧ s ≤ (k : Int) * 1099511627776 ∧ leftD ds id 0 = leftD (ds.drop k) id s ∧ Upd [] w wr) (fun _ iv _ => ds.length - (intOf iv).toNat)
  case atStart => exact ⟨0, 0, rfl, rfl, Nat.zero_le _, by omega, by omega, rfl, Upd.refl _ _⟩
  case round =>
    obtain ⟨k, s, rfl, rfl, hk, hs0, hs1, heq, hupd⟩ := hrel
    have HEQ := Lib.hid heq
    clear heq
    by_cases hlt : k < ds.length
    · obtain ⟨x, hx⟩ : ∃ x, ds[k]? = some x := ⟨_, List.getElem?_eq_getElem hlt⟩
      obtain ⟨g, off, rfl, e0, e1⟩ := RdD.cells (hrd.keep0 hupd) hx
      have hgl : g < wr.heap.size := block_lt_of_cell e0
      have hxo := HDO.out x (List.mem_of_getElem? hx)
      have hdc := drop_cons hx
      have HDC := Lib.hid hdc
      clear hx hdc
      by_cases hid : x.id = id
      · have hd1 : (x.id == id) = true := beq_iff_eq.2 hid
        go_wp2
        go_ret2
        rw [HEQ.out, HDC.out, leftD, if_pos hid]
        exact ⟨rfl, hupd.alloc _⟩
      · have hd1 : (x.id == id) = false := beq_eq_false_iff_ne.2 hid
        go_wp2
        go_roundw
        case rel => exact ⟨k + 1, s + x.more, by go_num, by go_num, by omega, by omega, by omega, by rw [HEQ.out, HDC.out, leftD, if_neg hid], hupd.alloc _⟩
        case measure => simp [intOf]; omega
    · obtain rfl : k = ds.length := by omega
      go_wp2
      go_ret2
      rw [HEQ.out, List.drop_of_length_le (Nat.le_refl _)]
      exact ⟨rfl, hupd⟩

theorem cancel_none (p : Nat) (b : Option Nat) (ds : List Due) (id : Int) (w : World) (h : TimAt w p b ds) (hm : ds.length ≤ 100000) (hk : idxD ds id = none) :
    Calls Try.prog 13 #[.pointer (some ⟨p, 0, none⟩), .int .i64 id] w fun e w' => e = .returned (.int .i64 8) ∧ Upd [] w w' := by
  have HK := Lib.hid hk
  clear hk
  go_enter Try.func13, Try.ntmps13
  go_wp2_with fail
  refine (find_any p b ds id _ h hm).mono ?_
  rintro e w1 ⟨rfl, hu⟩
  rw [HK.out]
  simp only [optD]
  go_wp2
  go_ret
  exact ⟨rfl, hu⟩
end Go.Proofs.Ytkmjeadnkndhbaa
