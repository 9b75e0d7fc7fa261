
/- What each function of package ring does, as a contract. -/
import Derived.Test.YtjiepoeeahnbgaaBase
import Derived.Conc.LoneCalls
import Derived.Conc.LoneSelect
import Derived.Conc.LoneSelectN
namespace Go.Proofs.Ytjiepoeeahnbgaa
set_option linter.unusedVariables false
set_option linter.unusedSimpArgs false
open Go.RowKit Go.Conc

theorem Upd.setChan {S : List Nat} {a b : World} (h : Upd S a b) (c cap : Nat) (buf : Array Value) (cl : Bool) (s r : Nat) (tm : Bool) (hp : c < a.heap.size → c ∈ S) : Upd S a (b.setChan c cap buf cl s r tm) :=
  ⟨h.os, h.tape, h.output, Nat.le_trans h.size (by simp [World.setChan]), fun k hk hn => by
    simp only [World.setChan]
    rw [Array.getElem?_setIfInBounds_ne (fun e => by subst e; exact hn (hp hk))]; exact h.block k hk hn⟩

theorem tI64 : ElemT Try.prog 25 2 (.int .i64 0) 1 8 :=
  ⟨Try.underlying25, by
    obtain ⟨i, hi, h⟩ := info_parts (show (Try.prog.info? 2).map (fun i => (i.zero, i.size, i.bytes)) = some (some (.int .i64 0), 1, 8) by kernel_rfl)
    exact ⟨i, hi, h⟩, rfl, by decide⟩

/-- A ring at block p, its channel at block c. -/
structure RingAt (w : World) (p c : Nat) (room : Nat) (xs : List Int) : Prop where
  obj : w.heap[p]? = some (.cells #[.chan (some c)] 101 (0, 0))
  chan : ∃ s r, w.heap[c]? = some (.chan room (xs.map (Value.int .i64)).toArray false s r false)
  le : xs.length ≤ room
  most : room ≤ 16

theorem RingAt.keep {S : List Nat} {w w' : World} {p c room : Nat} {xs : List Int} (h : RingAt w p c room xs) (hu : Upd S w w') (hp : p ∉ S) (hc : c ∉ S) : RingAt w' p c room xs := by
  obtain ⟨s, r, h2⟩ := h.chan
  exact ⟨hu.keep h.obj hp, ⟨s, r, hu.keep h2 hc⟩, h.le, h.most⟩
theorem RingAt.ltp {w : World} {p c room : Nat} {xs : List Int} (h : RingAt w p c room xs) : p < w.heap.size := blk_lt h.obj
theorem RingAt.ltc {w : World} {p c room : Nat} {xs : List Int} (h : RingAt w p c room xs) : c < w.heap.size := by
  obtain ⟨s, r, h2⟩ := h.chan
  exact blk_lt h2
theorem RingAt.ne {w : World} {p c room : Nat} {xs : List Int} (h : RingAt w p c room xs) : p ≠ c := by
  rintro rfl
  obtain ⟨s, r, h2⟩ := h.chan
  rw [h.obj] at h2
  cases h2

theorem len_any (p c room : Nat) (xs : List Int) (w : World) (h : RingAt w p c room xs) :
    Calls Try.prog 45 #[.pointer (some ⟨p, 0, none⟩)] w fun e w' => e = .returned (.int .i64 xs.length) ∧ w = w' := by
  have hc := cell_of_one h.obj
  obtain ⟨s, r, hch⟩ := h.chan
  have hlen := fun ty => run_len_chan (P := Try.prog) 99 ty Try.underlying99 hch
  clear hch
  go_enter Try.func45, Try.ntmps45
  go_wp2
  go_ret
  exact ⟨by simp, rfl⟩

theorem room_any (p c room : Nat) (xs : List Int) (w : World) (h : RingAt w p c room xs) :
    Calls Try.prog 29 #[.pointer (some ⟨p, 0, none⟩)] w fun e w' => e = .returned (.int .i64 (room - xs.length)) ∧ ∃ n, w' = w.drewN n := by
  have hc := cell_of_one h.obj
  have hl := h.le
  have hm := h.most
  obtain ⟨s, r, hch⟩ := h.chan
  have hch' : ∀ n, (w.drewN n).heap[c]? = some (.chan room (xs.map (Value.int .i64)).toArray false s r false) := fun n => hch
  have hlen := fun n ty => run_len_chan (P := Try.prog) 99 ty Try.underlying99 (hch' n)
  have hcap := fun n ty => run_cap_chan (P := Try.prog) 99 ty Try.underlying99 (hch' n)
  clear hch hch'
  go_enter Try.func29, Try.ntmps29
  go_wp2
  go_quiet (fail)
  go_wp2
  go_ret
  exact ⟨by simp, _, rfl⟩

set_option maxRecDepth 100000 in
theorem push_room0 (p c room : Nat) (xs : List Int) (s r : Nat) (v : Int) (w : World) (ho : w.heap[p]? = some (.cells #[.chan (some c)] 101 (0, 0)))
    (hch : w.heap[c]? = some (.chan room (xs.map (Value.int .i64)).toArray false s r false)) (hr : xs.length < room) :
    Calls Try.prog 25 #[.pointer (some ⟨p, 0, none⟩), .int .i64 v] w fun e w' => e = .returned (.bool true) ∧ w' = w.setChan c room ((xs ++ [v]).map (Value.int .i64)).toArray false (s + 1) r false := by
  refine calls_of_loneTo fun cs => ?_
  have e : Frame.enter Try.prog 25 #[.pointer (some ⟨p, 0, none⟩), .int .i64 v] .normal = (base 25).at ⟨#[.pointer (some ⟨p, 0, none⟩), .int .i64 v, undef, undef, undef, undef, undef, undef, undef, undef, undef, undef, undef], []⟩ [.code (Try.f25.body.getD .skip)] := by
    simp [Frame.enter, Frame.at, Try.func25, base, Try.f25]
  rw [e]
  have hc := cell_of_one ho
  refine LoneTo.goes (n := 100) ?_
  simp only [Try.f25, Option.getD_some]
  repeat (first | s_c stepG_seq | s_reg | s_op | s_c stepG_region_end)
  s_stop
  refine LoneTo.step (step_lone_select_send_room (c := c) (v := .int .i64 v) (z' := .int .i64 0) (cap := room) (s := s) (r := r) (tm := false)
    (stepG_comm (cases := #[scase c (.int .i64 v) (.int .i64 0)]) (blocking := false) (shape := .select) (w' := w) rfl rfl (by decide) (by simp [go_sem, execOp, scase, Act.eval])) hch (by simpa using hr)) ?_
  rw [Frame.finish_at]
  walk_nrm
  refine LoneTo.goes (n := 100) ?_
  repeat (first | s_c stepG_seq | s_reg | s_op | s_c stepG_region_end | s_c stepG_block | s_cond true)
  s_c stepG_ret'
  s_stop
  exact LoneTo.done ⟨.returned (.bool true), _, rfl, ⟨rfl, by simp⟩, rfl, rfl, rfl, rfl, _, Try.func25, by simp [results, Try.f25, Frame.at]⟩

set_option maxRecDepth 100000 in
theorem push_full0 (p c room : Nat) (xs : List Int) (s r : Nat) (v : Int) (w : World) (ho : w.heap[p]? = some (.cells #[.chan (some c)] 101 (0, 0)))
    (hch : w.heap[c]? = some (.chan room (xs.map (Value.int .i64)).toArray false s r false)) (hr : room ≤ xs.length) :
    Calls Try.prog 25 #[.pointer (some ⟨p, 0, none⟩), .int .i64 v] w fun e w' => e = .returned (.bool false) ∧ w = w' := by
  refine calls_of_loneTo fun cs => ?_
  have e : Frame.enter Try.prog 25 #[.pointer (some ⟨p, 0, none⟩), .int .i64 v] .normal = (base 25).at ⟨#[.pointer (some ⟨p, 0, none⟩), .int .i64 v, undef, undef, undef, undef, undef, undef, undef, undef, undef, undef, undef], []⟩ [.code (Try.f25.body.getD .skip)] := by
    simp [Frame.enter, Frame.at, Try.func25, base, Try.f25]
  rw [e]
  have hc := cell_of_one ho
  refine LoneTo.goes (n := 100) ?_
  simp only [Try.f25, Option.getD_some]
  repeat (first | s_c stepG_seq | s_reg | s_op | s_c stepG_region_end)
  s_stop
  refine LoneTo.step (step_lone_select_send_full (c := c) (v := .int .i64 v) (z' := .int .i64 0) (cap := room) (s := s) (r := r) (tm := false)
    (stepG_comm (cases := #[scase c (.int .i64 v) (.int .i64 0)]) (blocking := false) (shape := .select) (w' := w) rfl rfl (by decide) (by simp [go_sem, execOp, scase, Act.eval])) hch (by simpa using hr)) ?_
  rw [Frame.finish_at]
  walk_nrm
  refine LoneTo.goes (n := 100) ?_
  repeat (first | s_c stepG_seq | s_reg | s_op | s_c stepG_region_end | s_c stepG_block | s_cond false)
  s_c stepG_ret'
  s_stop
  exact LoneTo.done ⟨.returned (.bool false), _, rfl, ⟨rfl, rfl⟩, rfl, rfl, rfl, rfl, _, Try.func25, by simp [results, Try.f25, Frame.at]⟩

set_option maxRecDepth 100000 in
theorem pop_some0 (p c room : Nat) (x : Int) (xs : List Int) (s r : Nat) (w : World) (ho : w.heap[p]? = some (.cells #[.chan (some c)] 101 (0, 0)))
    (hch : w.heap[c]? = some (.chan room ((x :: xs).map (Value.int .i64)).toArray false s r false)) :
    Calls Try.prog 32 #[.pointer (some ⟨p, 0, none⟩)] w fun e w' => e = .returned (.tuple #[.int .i64 x, .bool true]) ∧ w' = w.setChan c room (xs.map (Value.int .i64)).toArray false s (r + 1) false := by
  refine calls_of_loneTo fun cs => ?_
  have e : Frame.enter Try.prog 32 #[.pointer (some ⟨p, 0, none⟩)] .normal = (base 32).at ⟨#[.pointer (some ⟨p, 0, none⟩), undef, undef, undef, undef, undef, undef, undef, undef, undef, undef, undef, undef, undef], []⟩ [.code (Try.f32.body.getD .skip)] := by
    simp [Frame.enter, Frame.at, Try.func32, base, Try.f32]
  rw [e]
  have hc := cell_of_one ho
  refine LoneTo.goes (n := 100) ?_
  simp only [Try.f32, Option.getD_some]
  repeat (first | s_c stepG_seq | s_reg | s_op | s_c stepG_region_end)
  s_stop
  refine LoneTo.step (step_lone_select_recv_buf (c := c) (z := .int .i64 0) (cap := room) (closed := false) (s := s) (r := r) (tm := false)
    (stepG_comm (cases := #[rcase c (.int .i64 0)]) (blocking := false) (shape := .select) (w' := w) rfl rfl (by decide) (by simp [go_sem, execOp, rcase, Act.eval])) hch (by simp)) ?_
  rw [Frame.finish_at]
  walk_nrm
  refine LoneTo.goes (n := 100) ?_
  repeat (first | s_c stepG_seq | s_reg | s_op | s_c stepG_region_end | s_c stepG_block | s_cond true)
  s_c stepG_ret'
  s_stop
  exact LoneTo.done ⟨.returned (.tuple #[.int .i64 x, .bool true]), _, rfl, ⟨rfl, by rw [List.take_of_length_le (by simp)]⟩, rfl, rfl, rfl, rfl, _, Try.func32, by simp [results, Try.f32, Frame.at]⟩

set_option maxRecDepth 100000 in
theorem pop_none0 (p c room : Nat) (s r : Nat) (w : World) (ho : w.heap[p]? = some (.cells #[.chan (some c)] 101 (0, 0)))
    (hch : w.heap[c]? = some (.chan room #[] false s r false)) :
    Calls Try.prog 32 #[.pointer (some ⟨p, 0, none⟩)] w fun e w' => e = .returned (.tuple #[.int .i64 0, .bool false]) ∧ w = w' := by
  refine calls_of_loneTo fun cs => ?_
  have e : Frame.enter Try.prog 32 #[.pointer (some ⟨p, 0, none⟩)] .normal = (base 32).at ⟨#[.pointer (some ⟨p, 0, none⟩), undef, undef, undef, undef, undef, undef, undef, undef, undef, undef, undef, undef, undef], []⟩ [.code (Try.f32.body.getD .skip)] := by
    simp [Frame.enter, Frame.at, Try.func32, base, Try.f32]
  rw [e]
  have hc := cell_of_one ho
  refine LoneTo.goes (n := 100) ?_
  simp only [Try.f32, Option.getD_some]
  repeat (first | s_c stepG_seq | s_reg | s_op | s_c stepG_region_end)
  s_stop
  refine LoneTo.step (step_lone_select_default (c := c) (z := .int .i64 0) (cap := room) (s := s) (r := r) (tm := false)
    (stepG_comm (cases := #[rcase c (.int .i64 0)]) (blocking := false) (shape := .select) (w' := w) rfl rfl (by decide) (by simp [go_sem, execOp, rcase, Act.eval])) hch) ?_
  rw [Frame.finish_at]
  walk_nrm
  refine LoneTo.goes (n := 100) ?_
  repeat (first | s_c stepG_seq | s_reg | s_op | s_c stepG_region_end | s_c stepG_block | s_cond false)
  s_c stepG_ret'
  s_stop
  exact LoneTo.done ⟨.returned (.tuple #[.int .i64 0, .bool false]), _, rfl, ⟨rfl, rfl⟩, rfl, rfl, rfl, rfl, _, Try.func32, by simp [results, Try.f32, Frame.at]⟩

theorem RingAt.set {w : World} {p c room : Nat} {xs ys : List Int} {s r : Nat} (h : RingAt w p c room xs) (hl : ys.length ≤ room) : RingAt (w.setChan c room (ys.map (Value.int .i64)).toArray false s r false) p c room ys := by
  have hne := h.ne
  refine ⟨?_, ⟨s, r, heap_setChan _ _ _ _ _ _ _ _ h.ltc⟩, hl, h.most⟩
  simp only [World.setChan]
  rw [Array.getElem?_setIfInBounds_ne (Ne.symm hne)]
  exact h.obj

theorem push_room (p c room : Nat) (xs : List Int) (v : Int) (w : World) (h : RingAt w p c room xs) (hr : xs.length < room) :
    Calls Try.prog 25 #[.pointer (some ⟨p, 0, none⟩), .int .i64 v] w fun e w' => e = .returned (.bool true) ∧ RingAt w' p c room (xs ++ [v]) ∧ Upd [c] w w' := by
  obtain ⟨s, r, hch⟩ := h.chan
  refine (push_room0 p c room xs s r v w h.obj hch hr).mono ?_
  rintro e w' ⟨rfl, rfl⟩
  exact ⟨rfl, h.set (by simp; omega), (Upd.refl _ _).setChan _ _ _ _ _ _ _ (fun _ => by simp)⟩
theorem push_full (p c room : Nat) (xs : List Int) (v : Int) (w : World) (h : RingAt w p c room xs) (hr : room ≤ xs.length) :
    Calls Try.prog 25 #[.pointer (some ⟨p, 0, none⟩), .int .i64 v] w fun e w' => e = .returned (.bool false) ∧ w = w' := by
  obtain ⟨s, r, hch⟩ := h.chan
  exact push_full0 p c room xs s r v w h.obj hch hr
theorem pop_some (p c room : Nat) (x : Int) (xs : List Int) (w : World) (h : RingAt w p c room (x :: xs)) :
    Calls Try.prog 32 #[.pointer (some ⟨p, 0, none⟩)] w fun e w' => e = .returned (.tuple #[.int .i64 x, .bool true]) ∧ RingAt w' p c room xs ∧ Upd [c] w w' := by
  obtain ⟨s, r, hch⟩ := h.chan
  refine (pop_some0 p c room x xs s r w h.obj hch).mono ?_
  rintro e w' ⟨rfl, rfl⟩
  have := h.le
  exact ⟨rfl, h.set (by simp at this; omega), (Upd.refl _ _).setChan _ _ _ _ _ _ _ (fun _ => by simp)⟩
theorem pop_none (p c room : Nat) (w : World) (h : RingAt w p c room []) :
    Calls Try.prog 32 #[.pointer (some ⟨p, 0, none⟩)] w fun e w' => e = .returned (.tuple #[.int .i64 0, .bool false]) ∧ w = w' := by
  obtain ⟨s, r, hch⟩ := h.chan
  exact pop_none0 p c room s r w h.obj hch

theorem run_mk (room : Nat) (hr : room ≤ 16) (w : World) : (Instr.makeChan 99 (.int .i64 room)).run Try.prog w = .ok (.chan (some w.heap.size)) (w.alloc (.chan room #[] false 0 0 false)) := by
  obtain ⟨i, hi, _, _, hb⟩ := tI64.info
  simpa using run_makeChan (P := Try.prog) (w := w) Try.underlying99 hi .i64 room (by omega) (by rw [hb]; omega)

theorem ringAt_new (w : World) (room : Nat) (hr : room ≤ 16) : RingAt ((w.alloc (.chan room #[] false 0 0 false)).alloc (.cells #[.chan (some w.heap.size)] 101 (0, 0))) (w.heap.size + 1) w.heap.size room [] :=
  ⟨heap_alloc2_new _ _ _, ⟨0, 0, heap_alloc2_old _ _ _⟩, by simp, hr⟩

theorem new_ok (room : Nat) (hr : room ≤ 16) (w : World) :
    Calls Try.prog 33 #[.int .i64 room] w fun e w' => ∃ p c, e = .returned (.tuple #[.pointer (some ⟨p, 0, none⟩), .int .i64 0]) ∧ RingAt w' p c room [] ∧ Upd [] w w' ∧ w.heap.size ≤ p ∧ w.heap.size ≤ c := by
  have hmk := run_mk room hr
  have h0 : decide ((room : Int) < 0) = false := by simp
  have h1 : decide ((16 : Int) < (room : Int)) = false := by simp; omega
  go_enter Try.func33, Try.ntmps33
  go_wp2
  go_ret2
  exact ⟨_, _, rfl, ringAt_new w room hr, ((Upd.refl _ _).alloc _).alloc _, by omega, by omega⟩
theorem new_bad (room : Int) (hr : room < 0 ∨ 16 < room) (w : World) :
    Calls Try.prog 33 #[.int .i64 room] w fun e w' => e = .returned (.tuple #[.pointer none, .int .i64 1]) ∧ w = w' := by
  rcases hr with hr | hr
  · have h0 : decide ((room : Int) < 0) = true := by simpa using hr
    go_enter Try.func33, Try.ntmps33
    go_wp2
    go_ret2
    exact ⟨rfl, rfl⟩
  · have h0 : decide ((room : Int) < 0) = false := by simp; omega
    have h1 : decide ((16 : Int) < (room : Int)) = true := by simpa using hr
    go_enter Try.func33, Try.ntmps33
    go_wp2
    go_ret2
    exact ⟨rfl, rfl⟩

theorem take_drop_succ (xs : List Int) (k : Nat) (h : k < xs.length) : xs.drop k ++ xs.take k = xs.getD k 0 :: (xs.drop (k + 1) ++ xs.take k) ∧ (xs.drop (k + 1) ++ xs.take k) ++ [xs.getD k 0] = xs.drop (k + 1) ++ xs.take (k + 1) ∧ (xs.take (k + 1)) = xs.take k ++ [xs.getD k 0] := by
  have e : xs.getD k 0 = xs[k] := by simp [List.getD, h]
  refine ⟨?_, ?_, ?_⟩
  · rw [List.drop_eq_getElem_cons h, e]; rfl
  · rw [List.append_assoc, e, List.take_succ_eq_append_getElem h]
  · rw [e, List.take_succ_eq_append_getElem h]

set_option maxHeartbeats 800000 in
set_option maxRecDepth 100000 in
theorem all_any (p c room : Nat) (xs : List Int) (w : World) (hR : RingAt w p c room xs) :
    Calls Try.prog 30 #[.pointer (some ⟨p, 0, none⟩)] w fun e w' => ∃ a cap, e = .returned (.slice a xs.length cap) ∧ w'.ownsRow w.heap.size 2 1 (.slice a xs.length cap) xs.length (xs.map (Value.int .i64)) ∧ RingAt w' p c room xs ∧ Upd [c] w w' := by
  have hlen := hR.le
  have hmost := hR.most
  go_enter Try.func30, Try.ntmps30
  go_wp2_with (go_at_call 45; refine (len_any p c room xs _ hR).mono ?_; rintro e w' ⟨rfl, rfl⟩)
  go_loopw [3, 8] (fun o i wr => ∃ k : Nat, k ≤ xs.length ∧ i = .int .i64 k ∧ wr.ownsRow w.heap.size 2 1 o k ((xs.take k).map (Value.int .i64)) ∧ RingAt wr p c room (xs.drop k ++ xs.take k) ∧ Upd [c] w wr) (fun _ i _ => xs.length - (intOf i).toNat)
  case atStart => exact ⟨0, Nat.zero_le _, rfl, by simpa using World.ownsRow_nil _ _ _ _, by simpa using hR, Upd.refl _ _⟩
  case round =>
    obtain ⟨k, hk, rfl, hown, hring, hupd⟩ := hrel
    by_cases hlt : k < xs.length
    · have ht := take_drop_succ xs k hlt
      generalize xs.getD k 0 = y at ht
      obtain ⟨t1, t2, t3⟩ := ht
      rw [t1] at hring
      have T2 := Lib.hid t2
      have T3 := Lib.hid t3
      clear t1 t2 t3
      go_wp2_with fail
      refine (pop_some p c room y _ _ hring).mono ?_
      rintro e w' ⟨rfl, hring1, hupd1⟩
      have hl1 := hring1.le
      have hl2 : (List.drop (k + 1) xs ++ List.take k xs).length < room := by simp; omega
      go_wp2_with fail
      refine (push_room p c room _ y _ hring1 hl2).mono ?_
      rintro e w2 ⟨rfl, hring2, hupd2⟩
      rw [T2.out] at hring2
      have hupd3 : Upd [c] wr w2 := hupd1.transS hupd2
      have hlc := hR.ltc
      have hown2 := own_keep hown hupd3 (fun k hk => by have := hown.lt k hk; simp; omega)
      clear hown hring hring1 hupd1 hupd2
      go_wp2_with (at_builtin; refine wp_push tI64 rfl (.tmp 18) (.tmp 20) rfl hown2 [.int .i64 y] rfl rfl rfl (one_ints [y]) ?h1 ?h2 ?h3 ?_)
      case h1 => unfold maxLen; omega
      case h2 => omega
      case h3 => have := hupd.size; have := hupd3.size; omega
      intro g3 c3 w3 hown3 hupd4
      have hb4 : ∀ k, u3.ownBlock = some k → w.heap.size ≤ k := fun k hk => (hown2.lt k hk).1
      have hring3 := hring2.keep hupd4 (fun hm => by have := hb4 p (by simpa using hm); have := hR.ltp; omega) (fun hm => by have := hb4 c (by simpa using hm); omega)
      have hupd5 : Upd [c] w w3 := (hupd.transS hupd3).trans hupd4 (fun x hx hlt => by have := hb4 x (by simpa using hx); omega)
      clear hupd4 hupd3 hupd hown2 hring2 hb4
      have hown4 : w3.ownsRow w.heap.size 2 1 (.slice (some ⟨g3, 0, none⟩) (k + 1) c3) (k + 1) ((xs.take (k + 1)).map (Value.int .i64)) := by rw [T3.out, List.map_append, List.map_take]; exact hown3
      clear hown3
      go_wp2
      go_roundw
      case rel => exact ⟨k + 1, by omega, by go_num, hown4, hring3, hupd5⟩
      case measure => simp [intOf]; omega
    · obtain rfl : k = xs.length := by omega
      go_wp2
      go_ret
      obtain ⟨a, cap, rfl, _⟩ := own_slice hown
      exact ⟨a, cap, rfl, by simpa using hown, by simpa using hring, hupd⟩

end Go.Proofs.Ytjiepoeeahnbgaa
