/- Any calls on a lock: who has it, who waits, who has it next. -/
import Derived.Test.YtjkacccmdccbnaaLockKnown
import Derived.Test.YtjkacccmdccbnaaLockMore
import Derived.Test.YtjkacccmdccbnaaSame
import Derived.Test.YtjkacccmdccbnaaOpen
namespace Go.Proofs.Ytjkacccmdccbnaa
set_option linter.unusedVariables false
set_option linter.unusedSimpArgs false
open Go.RowKit

/-- A call. -/
structure ActV where
  op : Int
  task : Int
  seq : Int
  pa : Option Addr
  pc : Nat
  ps : List Int
instance : Inhabited ActV := ⟨⟨0, 0, 0, none, 0, []⟩⟩
def ActV.enc (x : ActV) : List Value := [.int .i64 x.op, .int .i64 x.task, .int .i64 x.seq, .slice x.pa x.ps.length x.pc]
theorem ActV.enc_len (x : ActV) : x.enc.length = 4 := rfl

theorem four_cells {w : World} {b : Nat} {u0 u1 u2 u3 : Value} {t : TypeId} (h : w.heap[b]? = some (.cells #[u0, u1, u2, u3] t (0, 0))) :
    w.cell? ⟨b, 0, none⟩ = some u0 ∧ w.cell? ⟨b, 1, none⟩ = some u1 ∧ w.cell? ⟨b, 2, none⟩ = some u2 ∧ w.cell? ⟨b, 3, none⟩ = some u3 := by
  simp [World.cell?, h]

theorem rd_acts {H : Type} {enc0 : TypeId × Value → H} {W : World} {base fuel len cap : Nat} {held : Bool} {a : Option Addr} {y : DataW H × List MemPlace}
    (h : DataW.trod enc0 Try.prog W base (fun _ => true) held fuel 39 [.slice a len cap] = some y) :
    ∃ xs : List ActV, len = xs.length ∧ Rd W (.slice a xs.length cap) xs.length (xs.flatMap ActV.enc) ∧ ∀ x ∈ xs, RdI W (.slice x.pa x.ps.length x.pc) x.ps := by
  refine open_row (enc0 := enc0) ActV.enc (fun x => RdI W (.slice x.pa x.ps.length x.pc) x.ps) ActV.enc_len (by omega) Try.underlying39 (by kernel_rfl) (fun n cs z hz => ?_) h
  obtain ⟨m, v0, v1, v2, v3, y0, y1, y2, y3, rfl, h0, h1, h2, h3⟩ := open_fields4 Try.underlying43 (by kernel_rfl) rfl rfl rfl rfl (by kernel_rfl) (by kernel_rfl) (by kernel_rfl) (by kernel_rfl) hz
  obtain ⟨n0, e0, _, _⟩ := DataW.trod_int Try.underlying3 h0
  obtain ⟨n1, e1, _, _⟩ := DataW.trod_int Try.underlying3 h1
  obtain ⟨n2, e2, _, _⟩ := DataW.trod_int Try.underlying2 h2
  obtain ⟨pa, pc, ps, e3, hr, _⟩ := open_int_row Try.underlying22 Try.underlying3 (by kernel_rfl) h3
  simp only [List.cons.injEq, and_true] at e0 e1 e2 e3
  subst e0
  subst e1
  subst e2
  subst e3
  exact ⟨⟨n0, n1, n2, pa, pc, ps⟩, rfl, hr⟩

theorem ActV.cells {w : World} {a : Option Addr} {cap : Nat} {xs : List ActV} (h : Rd w (.slice a xs.length cap) xs.length (xs.flatMap ActV.enc)) {k : Nat} {x : ActV} (hk : xs[k]? = some x) :
    ∃ b off, a = some ⟨b, off, none⟩ ∧ w.cell? ⟨b, off + k * 4, none⟩ = some (.int .i64 x.op) ∧ w.cell? ⟨b, off + k * 4 + 1, none⟩ = some (.int .i64 x.task) ∧ w.cell? ⟨b, off + k * 4 + 2, none⟩ = some (.int .i64 x.seq) ∧ w.cell? ⟨b, off + k * 4 + 3, none⟩ = some (.slice x.pa x.ps.length x.pc) := by
  have hl := (List.getElem?_eq_some_iff.1 hk).1
  obtain ⟨b, off, rfl, hc⟩ := h.at (by omega)
  refine ⟨b, off, rfl, ?_, ?_, ?_, ?_⟩
  · have := hc (k * 4 + 0) _ (flat_get ActV.enc 4 ActV.enc_len xs k 0 x hk (by omega))
    simpa using this
  · have := hc (k * 4 + 1) _ (flat_get ActV.enc 4 ActV.enc_len xs k 1 x hk (by omega))
    simpa [Nat.add_assoc] using this
  · have := hc (k * 4 + 2) _ (flat_get ActV.enc 4 ActV.enc_len xs k 2 x hk (by omega))
    simpa [Nat.add_assoc] using this
  · have := hc (k * 4 + 3) _ (flat_get ActV.enc 4 ActV.enc_len xs k 3 x hk (by omega))
    simpa [Nat.add_assoc] using this

set_option maxHeartbeats 12800000 in
set_option maxRecDepth 100000 in
theorem lockPlays_walk (a : Option Addr) (cap : Nat) (xs : List ActV) (w : World) (hr : Rd w (.slice a xs.length cap) xs.length (xs.flatMap ActV.enc)) (hps : ∀ x ∈ xs, RdI w (.slice x.pa x.ps.length x.pc) x.ps) :
    Calls Try.prog 5 #[.slice a xs.length cap] w fun e w' => e = .returned (.bool true) ∧ Upd [] w w' := by
  go_enter Try.func5, Try.ntmps5
  go_wp2_with fail
  refine (known17_ok _).mono ?_
  rintro e w1 ⟨rfl, hU⟩
  by_cases hbad : 60 < xs.length
  · go_wp2_with fail
    go_ret
    exact ⟨rfl, hU⟩
  have HR := Lib.hid hr
  have HPS := Lib.hid hps
  clear hr hps
  go_wp2_with fail
  refine (newLock_any _).mono ?_
  rintro e w2 ⟨p, rfl, hL, hu, hp⟩
  have hpw : w.heap.size ≤ p := Nat.le_trans hU.size hp
  replace hU : Upd [] w w2 := hU.trans0 hu
  clear hu hp
  go_wp2_with fail
  refine (newLockR_any _).mono ?_
  rintro e w3 ⟨pm, rfl, hR, hu, hp⟩
  have hmw : w.heap.size ≤ pm := Nat.le_trans hU.size hp
  replace hL := hL.step hu
  replace hU : Upd [] w w3 := hU.trans0 hu
  clear hu hp
  go_wp2
  go_loopw [3, 5] (fun pv iv wr => ∃ (i px : Nat) (o : Int) (q : List Wt), pv = .pointer (some ⟨px, 0, none⟩) ∧ iv = .int .i64 i ∧ i ≤ xs.length ∧ q.length ≤ i ∧ LOk o q ∧ LockP wr px o q ∧ LockR wr pm o q ∧ w.heap.size ≤ px ∧ Upd [] w wr) (fun _ iv _ => xs.length - (intOf iv).toNat)
  case atStart => exact ⟨0, p, -1, [], rfl, rfl, Nat.zero_le _, by simp, LOk.new, hL, hR, hpw, hU⟩
  case round =>
    clear hL hR hU hpw
    obtain ⟨i, px, o, q, rfl, rfl, hi, hqi, hok, hL, hR, hpw, hU⟩ := hrel
    by_cases hlt : i < xs.length
    · obtain ⟨x, hx⟩ : ∃ x, xs[i]? = some x := ⟨_, List.getElem?_eq_getElem hlt⟩
      obtain ⟨b, off, rfl, x0, x1, x2, x3⟩ := ActV.cells (HR.out.keep0 hU) hx
      have hrp := HPS.out x (List.mem_of_getElem? hx)
      clear hx
      obtain ⟨op, task, seq, pa, pc, ps⟩ := x
      simp only at x0 x1 x2 x3 hrp
      by_cases hbig : 60 < ps.length
      · go_wp2_with fail
        go_ret
        exact ⟨rfl, hU.alloc _⟩
      have HRP := Lib.hid hrp
      have hbp : ∀ k, (Value.slice pa ps.length pc).ownBlock = some k → 0 < ps.length → k < w.heap.size := fun k hk hl => Rd.lt hrp hk (by simpa using hl)
      have HBP := Lib.hid hbp
      clear hrp hbp
      have hpm : px ≠ pm := hL.ne hR (by decide)
      obtain ⟨A, hA⟩ : ∃ A, A = wr.heap.size := ⟨_, rfl⟩
      have hAx : px < A := by rw [hA]; exact hL.lt
      have hAm : pm < A := by rw [hA]; exact hR.lt
      have hq61 : q.length ≤ 1000000 := by omega
      obtain ⟨o1, t0, nd⟩ := hok
      have hok : LOk o q := ⟨o1, t0, nd⟩
      have HOK := Lib.hid hok
      clear t0 nd hok
      have hua : Upd [] wr (wr.alloc (.cells #[.int .i64 op, .int .i64 task, .int .i64 seq, .slice pa ps.length pc] 43)) := (Upd.refl _ _).alloc _
      have hLa := hL.step hua
      have hRa := LockAt.keep0 hR hua
      have hUa := hU.trans0 hua
      have hblk : (wr.alloc (.cells #[.int .i64 op, .int .i64 task, .int .i64 seq, .slice pa ps.length pc] 43)).heap[A]? = some (.cells #[.int .i64 op, .int .i64 task, .int .i64 seq, .slice pa ps.length pc] 43 (0, 0)) := by rw [hA]; exact heap_alloc_new _ _
      have hAa : A < (wr.alloc (.cells #[.int .i64 op, .int .i64 task, .int .i64 seq, .slice pa ps.length pc] 43)).heap.size := blk_lt hblk
      have HA := Lib.hid hA
      clear hA hL hR hU hua
      have hop : op = 1 ∨ op = 2 ∨ op = 3 ∨ op = 4 ∨ (op ≠ 1 ∧ op ≠ 2 ∧ op ≠ 3 ∧ op ≠ 4) := by omega
      rcases hop with hop | hop | hop | hop | hop
      case' inl =>
        subst hop
        go_wp2_with fail
        rw [← HA.out]
        obtain ⟨wa, hwa⟩ : ∃ wa, wa = wr.alloc (.cells #[.int .i64 1, .int .i64 task, .int .i64 seq, .slice pa ps.length pc] 43) := ⟨_, rfl⟩
        rw [← hwa] at hLa hRa hUa hblk hAa ⊢
        clear hwa HA x0 x1 x2 x3
        refine (take_any px o q task seq _ hLa hq61).mono ?_
        rintro e w4 ⟨rfl, hL4, hu4⟩
        have hblk4 := hu4.keep hblk (by simp; omega)
        obtain ⟨d0, d1, d2, d3⟩ := four_cells hblk4
        have hR4 := LockAt.keep hRa hu4 (by simp; omega) (LockP.notR hLa)
        have hU4 : Upd [] w w4 := hUa.trans hu4 (fun y hy hl => by simp at hy; omega)
        have hlen := takeF_len o q task seq
        have hok4 := HOK.out.take task seq
        clear hblk hLa hRa hUa hu4
        obtain ⟨r, hr⟩ : ∃ r, r = takeF o q task seq := ⟨_, rfl⟩
        rw [← hr] at hL4 hlen hok4
        have hR4' := takeR_any pm o q task seq w4 hR4 hq61 o1
        rw [← hr] at hR4'
        rw [← hr]
        clear hr hAa
        go_wp2_with fail
        refine hR4'.mono ?_
        rintro e wt ⟨rfl, hRt, hut⟩
        have hLt := LockAt.keep hL4 hut (by simp; omega) (LockR.notP hR4)
        have hUt : Upd [] w wt := hU4.trans hut (fun y hy hl => by simp at hy; omega)
        clear hL4 hR4 hR4' hU4 d0 d1 d2 d3 hblk4 hut
        obtain ⟨rb, rn, re, ro, rq⟩ := r
        simp only at hLt hRt hlen hok4 ⊢
        have hd1 : (rb != rb) = false := by simp
        have hd2 : (re != re) = false := by simp
        have hqt : rq.length ≤ i + 1 := by omega
        have hpt := hpw
        clear hlen
      case' inr.inl =>
        subst hop
        go_wp2_with fail
        rw [← HA.out]
        obtain ⟨wa, hwa⟩ : ∃ wa, wa = wr.alloc (.cells #[.int .i64 2, .int .i64 task, .int .i64 seq, .slice pa ps.length pc] 43) := ⟨_, rfl⟩
        rw [← hwa] at hLa hRa hUa hblk hAa ⊢
        clear hwa HA x0 x1 x2 x3
        refine (give_any px o q task pa pc ps _ hLa hq61 (HRP.out.keep0 hUa) (fun k hk hl => by have := HBP.out k hk hl; omega) (by omega)).mono ?_
        rintro e w4 ⟨rfl, hL4, hu4⟩
        have hblk4 := hu4.keep hblk (by simp; omega)
        obtain ⟨d0, d1, d2, d3⟩ := four_cells hblk4
        have hR4 := LockAt.keep hRa hu4 (by simp; omega) (LockP.notR hLa)
        have hU4 : Upd [] w w4 := hUa.trans hu4 (fun y hy hl => by simp at hy; omega)
        have hlen := giveF_len o q task ps
        have hok4 := HOK.out.give task ps
        clear hblk hLa hRa hUa hu4
        obtain ⟨r, hr⟩ : ∃ r, r = giveF o q task ps := ⟨_, rfl⟩
        rw [← hr] at hL4 hlen hok4
        have hR4' := giveR_any pm o q task pa pc ps w4 hR4 hq61 (HRP.out.keep0 hU4) (by omega) HOK.out
        rw [← hr] at hR4'
        rw [← hr]
        clear hr hAa
        go_wp2_with fail
        refine hR4'.mono ?_
        rintro e wt ⟨rfl, hRt, hut⟩
        have hLt := LockAt.keep hL4 hut (by simp; omega) (LockR.notP hR4)
        have hUt : Upd [] w wt := hU4.trans hut (fun y hy hl => by simp at hy; omega)
        clear hL4 hR4 hR4' hU4 d0 d1 d2 d3 hblk4 hut
        obtain ⟨rb, rn, re, ro, rq⟩ := r
        simp only at hLt hRt hlen hok4 ⊢
        have hd1 : (rn != rn) = false := by simp
        have hd2 : (re != re) = false := by simp
        have hqt : rq.length ≤ i + 1 := by omega
        have hpt := hpw
        clear hlen
      case' inr.inr.inl =>
        subst hop
        go_wp2_with fail
        rw [← HA.out]
        obtain ⟨wa, hwa⟩ : ∃ wa, wa = wr.alloc (.cells #[.int .i64 3, .int .i64 task, .int .i64 seq, .slice pa ps.length pc] 43) := ⟨_, rfl⟩
        rw [← hwa] at hLa hRa hUa hblk hAa ⊢
        clear hwa HA x0 x1 x2 x3
        refine (leaveLock_any px o q task _ hLa hq61).mono ?_
        rintro e w4 ⟨rfl, hL4, hu4⟩
        have hblk4 := hu4.keep hblk (by simp; omega)
        obtain ⟨d0, d1, d2, d3⟩ := four_cells hblk4
        have hR4 := LockAt.keep hRa hu4 (by simp; omega) (LockP.notR hLa)
        have hU4 : Upd [] w w4 := hUa.trans hu4 (fun y hy hl => by simp at hy; omega)
        have hlen := leave_len q task
        have hok4 := HOK.out.leave task
        clear hblk hLa hRa hUa hu4 hAa
        go_wp2_with fail
        refine (leaveLockR_any pm o q task _ hR4 hq61).mono ?_
        rintro e wt ⟨rfl, hRt, hut⟩
        have hLt := LockAt.keep hL4 hut (by simp; omega) (LockR.notP hR4)
        have hUt : Upd [] w wt := hU4.trans hut (fun y hy hl => by simp at hy; omega)
        clear hL4 hR4 hU4 d0 d1 d2 d3 hblk4 hut
        obtain ⟨rq, hrq0⟩ : ∃ rq, rq = leave q task := ⟨_, rfl⟩
        obtain ⟨ro, hro0⟩ : ∃ ro, ro = o := ⟨_, rfl⟩
        rw [← hrq0] at hLt hRt hlen hok4
        rw [← hro0] at hLt hRt hok4
        have hqt : rq.length ≤ i + 1 := by omega
        have hpt := hpw
        clear hlen hrq0 hro0
      case' inr.inr.inr.inl =>
        subst hop
        go_wp2_with fail
        rw [← HA.out]
        obtain ⟨wa, hwa⟩ : ∃ wa, wa = wr.alloc (.cells #[.int .i64 4, .int .i64 task, .int .i64 seq, .slice pa ps.length pc] 43) := ⟨_, rfl⟩
        rw [← hwa] at hLa hRa hUa hblk hAa ⊢
        clear hwa HA x0 x1 x2 x3
        refine (twinLock_any px o q _ hLa hq61).mono ?_
        rintro e w4 ⟨pt, rfl, hT4, hu4, hpt4⟩
        have hblk4 := hu4.keep hblk (by simp)
        obtain ⟨d0, d1, d2, d3⟩ := four_cells hblk4
        have hL4 := LockP.step hLa hu4
        have hR4 := LockAt.keep0 hRa hu4
        have hU4 : Upd [] w w4 := hUa.trans0 hu4
        have hxt : px ≠ pt := by omega
        have hmt : pm ≠ pt := by omega
        have hpt : w.heap.size ≤ pt := by omega
        have hAt : A ≠ pt := by omega
        clear hblk hLa hRa hUa hu4 hAa
        go_wp2_with fail
        refine (take_any px o q task 1 _ hL4 hq61).mono ?_
        rintro e w5 ⟨rfl, hL5, hu5⟩
        have hblk5 := hu5.keep hblk4 (by simp; omega)
        obtain ⟨b0, b1, b2, b3⟩ := four_cells hblk5
        have hT5 := LockAt.keep hT4 hu5 (by simp; omega) (LockP.notT hL4)
        have hR5 := LockAt.keep hR4 hu5 (by simp; omega) (LockP.notR hL4)
        have hU5 : Upd [] w w5 := hU4.trans hu5 (fun y hy hl => by simp at hy; omega)
        have hlen := takeF_len o q task 1
        obtain ⟨r, hr⟩ : ∃ r, r = takeF o q task 1 := ⟨_, rfl⟩
        rw [← hr] at hL5 hlen ⊢
        clear hr hT4 hR4 hL4 hU4 hu5 d0 d1 d2 d3 hblk4
        go_wp2_with fail
        refine (give_any px r.o r.q task none 0 [] _ hL5 (by omega) (Rd.nil _) (fun k hk _ => by simp [Value.ownBlock] at hk) (by simp)).mono ?_
        rintro e wt ⟨rfl, _, hut⟩
        have hLt := LockAt.keep hT5 hut (by simp; omega) (LockP.notT hL5)
        have hRt := LockAt.keep hR5 hut (by simp; omega) (LockP.notR hL5)
        have hUt : Upd [] w wt := hU5.trans hut (fun y hy hl => by simp at hy; omega)
        have hok4 := HOK.out
        clear hL5 hR5 hT5 hU5 b0 b1 b2 b3 hblk5 hut
        obtain ⟨rq, hrq0⟩ : ∃ rq, rq = q := ⟨_, rfl⟩
        obtain ⟨ro, hro0⟩ : ∃ ro, ro = o := ⟨_, rfl⟩
        rw [← hrq0] at hLt hRt hok4
        rw [← hro0] at hLt hRt hok4
        have hqt : rq.length ≤ i + 1 := by rw [hrq0]; omega
        clear hlen hrq0 hro0
      case' inr.inr.inr.inr =>
        have e1 : (op == 1) = false := beq_eq_false_iff_ne.2 hop.1
        have e2 : (op == 2) = false := beq_eq_false_iff_ne.2 hop.2.1
        have e3 : (op == 3) = false := beq_eq_false_iff_ne.2 hop.2.2.1
        have e4 : (op == 4) = false := beq_eq_false_iff_ne.2 hop.2.2.2
        clear hop
        go_wp2_with fail
        rw [← HA.out]
        obtain ⟨wt, hwt⟩ : ∃ wt, wt = wr.alloc (.cells #[.int .i64 op, .int .i64 task, .int .i64 seq, .slice pa ps.length pc] 43) := ⟨_, rfl⟩
        rw [← hwt] at hLa hRa hUa ⊢
        have hLt := hLa
        have hRt := hRa
        have hUt := hUa
        have hok4 := HOK.out
        clear hwt HA x0 x1 x2 x3 hLa hRa hUa hblk hAa
        obtain ⟨rq, hrq0⟩ : ∃ rq, rq = q := ⟨_, rfl⟩
        obtain ⟨ro, hro0⟩ : ∃ ro, ro = o := ⟨_, rfl⟩
        rw [← hrq0] at hLt hRt hok4
        rw [← hro0] at hLt hRt hok4
        have hqt : rq.length ≤ i + 1 := by rw [hrq0]; omega
        have hpt := hpw
        clear hrq0 hro0
      all_goals
        obtain ⟨am, cm, hm1, _⟩ := hRt.ex
        obtain ⟨f0, f1, _, _⟩ := two_cells hm1
        have hmr : RdW wt (.slice am rq.length cm) rq := by
          obtain ⟨a9, c9, h9, h10⟩ := hRt.ex
          rw [hm1] at h9
          injection h9 with h9
          injection h9 with h9 _ _
          have : Value.slice am rq.length cm = Value.slice a9 rq.length c9 := by simpa using h9
          rw [this]
          exact Rd.of_own h10
        have HMR := Lib.hid hmr
        have hrq : rq.length ≤ 1000000 := by omega
        have hd3 : (ro != ro) = false := by simp
        clear hm1 hmr
        try go_wp2_with fail
        go_region_held3 (fun w' => w'.cell? ⟨pm, 0, none⟩ = some (.int .i64 ro) ∧ w'.cell? ⟨pm, 1, none⟩ = some (.slice am rq.length cm)) (go_keep) (first
          | (go_at_call 19; refine (same_any a6 am c6 cm rq _ (Rd.keep0 (Rd.of_own hown6) (by first | exact Upd.refl _ _ | exact Upd.drew (Upd.refl _ _) | exact Upd.drew (Upd.drew (Upd.refl _ _)))) (HMR.out.keep0 (hu6'.trans0 (by first | exact Upd.refl _ _ | exact Upd.drew (Upd.refl _ _) | exact Upd.drew (Upd.drew (Upd.refl _ _))))) hrq).mono ?_; rintro e w7 ⟨rfl, hu7⟩; have hu7' : Upd [] wt w7 := hu6'.trans0 ((by first | exact Upd.refl _ _ | exact Upd.drew (Upd.refl _ _) | exact Upd.drew (Upd.drew (Upd.refl _ _)) : Upd [] w6 _).trans0 hu7); have g0 := hu7'.cell f0 (by simp); have g1 := hu7'.cell f1 (by simp))
          | (go_at_call 13; refine (waiters_any _ ro rq _ (LockP.step hLt (by first | exact Upd.refl _ _ | exact Upd.drew (Upd.refl _ _) | exact Upd.drew (Upd.drew (Upd.refl _ _)))) hrq).mono ?_; rintro e w6 ⟨a6, c6, rfl, hown6, hu6⟩; have hu6' : Upd [] wt w6 := (by first | exact Upd.refl _ _ | exact Upd.drew (Upd.refl _ _) | exact Upd.drew (Upd.drew (Upd.refl _ _)) : Upd [] wt _).trans0 hu6; have e0 := hu6'.cell f0 (by simp); have e1 := hu6'.cell f1 (by simp))
          | (go_at_call 10; refine (owner_any _ ro rq _ (LockP.step hLt (by first | exact Upd.refl _ _ | exact Upd.drew (Upd.refl _ _) | exact Upd.drew (Upd.drew (Upd.refl _ _))))).mono ?_; rintro e w5 ⟨rfl, hw5⟩; subst hw5))
        go_wp2
        have hU7 := hUt.trans0 hu7'
        go_roundw
        case rel => exact ⟨i + 1, _, ro, rq, rfl, by go_num, by omega, by omega, hok4, LockP.step hLt hu7', LockAt.keep0 hRt hu7', hpt, hU7⟩
        case measure => simp [intOf]; omega
    · obtain rfl : i = xs.length := by omega
      go_wp2
      go_ret
      exact ⟨rfl, hU⟩
end Go.Proofs.Ytjkacccmdccbnaa
