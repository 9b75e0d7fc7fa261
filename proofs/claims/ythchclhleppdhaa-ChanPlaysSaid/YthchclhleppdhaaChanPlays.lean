/- Any calls on a channel of any room: what comes, who is woken, who waits, what is there. -/
import Derived.Test.YthchclhleppdhaaChan
import Derived.Test.YthchclhleppdhaaOpen
import Derived.Test.YthchclhleppdhaaChanClose
import Derived.Test.YthchclhleppdhaaWaitWithout
import Derived.Test.YthchclhleppdhaaBetIff
import Derived.Deep.RegionHeldLaw
import Derived.Deep.RegionLaw
import Derived.Test.YthchclhleppdhaaBothMore
import Derived.Test.YthchclhleppdhaaChanRow
import Derived.Test.YthchclhleppdhaaSameK
namespace Go.Proofs.Ythchclhleppdhaa
set_option linter.unusedVariables false
set_option linter.unusedSimpArgs false
open Go.RowKit Go.Deep Go.ChangeShapes Go.WideShapes
/-- A call: which, its value, who waits, the priorities. -/
structure ActC where
  op : Int
  v : Int
  wt : Wt
  pa : Option Addr
  pc : Nat
  ps : List Int
instance : Inhabited ActC := ⟨⟨0, 0, ⟨0, 0, 0, 0⟩, none, 0, []⟩⟩
def ActC.enc (x : ActC) : List Value := [.int .i64 x.op, .int .i64 x.v, .int .i64 x.wt.task, .int .i64 x.wt.case_, .int .i64 x.wt.seq, .int .i64 x.wt.v, .slice x.pa x.ps.length x.pc]
theorem ActC.enc_len (x : ActC) : x.enc.length = 7 := rfl
section
variable {H : Type} {enc0 : TypeId × Value → H} {P : Program} {W : World} {base : Nat} {held : Bool}
/-- A struct of four fields, the third one of four cells. -/
theorem open_fields1141 {t : TypeId} {f0 f1 f2 f3 : Field} {fuel : Nat} {cs : List Value} {y : DataW H × List MemPlace} (ht : P.underlying t = some (.struct #[f0, f1, f2, f3])) (hc : P.cellsOf t = 7)
    (o0 : f0.offset = 0) (o1 : f1.offset = 1) (o2 : f2.offset = 2) (o3 : f3.offset = 6) (s0 : P.cellsOf f0.type = 1) (s1 : P.cellsOf f1.type = 1) (s2 : P.cellsOf f2.type = 4) (s3 : P.cellsOf f3.type = 1)
    (h : DataW.trod enc0 P W base (fun _ => true) held fuel t cs = some y) :
    ∃ n v0 v1 v2 v3 v4 v5 v6 y0 y1 y2 y3, cs = [v0, v1, v2, v3, v4, v5, v6] ∧ DataW.trod enc0 P W base (fun _ => true) held n f0.type [v0] = some y0 ∧ DataW.trod enc0 P W base (fun _ => true) held n f1.type [v1] = some y1 ∧ DataW.trod enc0 P W base (fun _ => true) held n f2.type [v2, v3, v4, v5] = some y2 ∧ DataW.trod enc0 P W base (fun _ => true) held n f3.type [v6] = some y3 := by
  obtain ⟨xs, n, _, _, hl, hlen, hf⟩ := DataW.trod_struct ht h
  rw [hc] at hl
  match xs, hlen, cs, hl with
  | [y0, y1, y2, y3], _, [v0, v1, v2, v3, v4, v5, v6], _ =>
    have h0 := hf 0 f0 rfl
    have h1 := hf 1 f1 rfl
    have h2 := hf 2 f2 rfl
    have h3 := hf 3 f3 rfl
    rw [o0, s0] at h0
    rw [o1, s1] at h1
    rw [o2, s2] at h2
    rw [o3, s3] at h3
    exact ⟨n, v0, v1, v2, v3, v4, v5, v6, y0, y1, y2, y3, rfl, by simpa using h0, by simpa using h1, by simpa using h2, by simpa using h3⟩
end
set_option maxRecDepth 100000 in
theorem rd_actsC {H : Type} {enc0 : TypeId × Value → H} {W : World} {base fuel len cap : Nat} {held : Bool} {a : Option Addr} {y : DataW H × List MemPlace}
    (h : DataW.trod enc0 Try.prog W base (fun _ => true) held fuel 51 [.slice a len cap] = some y) :
    ∃ xs : List ActC, len = xs.length ∧ Rd W (.slice a xs.length cap) xs.length (xs.flatMap ActC.enc) ∧ ∀ x ∈ xs, RdI W (.slice x.pa x.ps.length x.pc) x.ps := by
  refine open_row (enc0 := enc0) ActC.enc (fun x => RdI W (.slice x.pa x.ps.length x.pc) x.ps) ActC.enc_len (by omega) Try.underlying51 (by kernel_rfl) (fun n cs z hz => ?_) h
  obtain ⟨n', v0, v1, v2, v3, v4, v5, v6, y0, y1, y2, y3, rfl, h0', h1', h2', h3'⟩ := open_fields1141 Try.underlying57 (by kernel_rfl) rfl rfl rfl rfl (by kernel_rfl) (by kernel_rfl) (by kernel_rfl) (by kernel_rfl) hz
  obtain ⟨n0, e0, _, _⟩ := DataW.trod_int Try.underlying3 h0'
  obtain ⟨n1, e1, _, _⟩ := DataW.trod_int Try.underlying2 h1'
  obtain ⟨m, w0, w1, w2, w3, z0, z1, z2, z3, ew, g0, g1, g2, g3⟩ := open_fields4 Try.underlying55 (by kernel_rfl) rfl rfl rfl rfl (by kernel_rfl) (by kernel_rfl) (by kernel_rfl) (by kernel_rfl) h2'
  obtain ⟨i0, a0, _, _⟩ := DataW.trod_int Try.underlying3 g0
  obtain ⟨i1, a1, _, _⟩ := DataW.trod_int Try.underlying3 g1
  obtain ⟨i2, a2, _, _⟩ := DataW.trod_int Try.underlying2 g2
  obtain ⟨i3, a3, _, _⟩ := DataW.trod_int Try.underlying2 g3
  obtain ⟨pa, pc, ps, e3, hr, _⟩ := open_int_row Try.underlying28 Try.underlying3 (by kernel_rfl) h3'
  simp only [List.cons.injEq, and_true] at e0 e1 ew a0 a1 a2 a3 e3
  obtain ⟨rfl, rfl, rfl, rfl⟩ := ew
  subst e0
  subst e1
  subst a0
  subst a1
  subst a2
  subst a3
  subst e3
  exact ⟨⟨n0, n1, ⟨i0, i1, i2, i3⟩, pa, pc, ps⟩, rfl, hr⟩
end Go.Proofs.Ythchclhleppdhaa
namespace Go.Proofs.Ythchclhleppdhaa
set_option linter.unusedVariables false
set_option linter.unusedSimpArgs false
open Go.RowKit
theorem keepW_leave (q : List Wt) (t : Int) : (q.filter fun x => !(x.task == t)) = leave q t := rfl
set_option maxHeartbeats 6400000 in
set_option maxRecDepth 100000 in
theorem chanLeave_any (p rp c room : Nat) (xs : List Int) (sq rq : List Wt) (cl : Bool) (t : Int) (w : World) (h : ChanP w p rp c room xs sq rq cl) (hms : sq.length ≤ 100000) (hmr : rq.length ≤ 100000) :
    Calls Try.prog 27 #[.pointer (some ⟨p, 0, none⟩), .int .i64 t] w fun e w' => e = .returned (.tuple #[]) ∧ ChanP w' p rp c room xs (leave sq t) (leave rq t) cl ∧ Upd [p] w w' := by
  obtain ⟨sa, sc, ra, rc, h1, h2, h3⟩ := h.ch.ex
  obtain ⟨c0, c1, c2, c3⟩ := four_cells h1
  have cf := four_frozen h1
  have hpl := h.ch.lt
  have mk : ∀ (a : Option Addr) (k : Nat) (q : List Wt), w.ownsRow 0 31 4 (.slice a q.length k) q.length (q.flatMap Wt.enc) → q.length ≤ 100000 → ∀ W, Upd [] w W → Calls Try.prog 49 #[.slice a q.length k, .int .i64 t] W fun e w' => ∃ a1 k1, e = .returned (.slice a1 (leave q t).length k1) ∧ Hid (∀ W', Upd [] w' W' → W'.ownsRow 0 31 4 (.slice a1 (leave q t).length k1) (leave q t).length ((leave q t).flatMap Wt.enc)) ∧ Upd [] w w' ∧ Upd [] W w' := by
    intro a k q ho hq W hW
    refine (without_any a k q t W ((Rd.of_own ho).keep0 hW) hq).mono ?_
    rintro e w' ⟨a1, k1, rfl, ho1, hu⟩
    exact ⟨a1, k1, rfl, Lib.hid (fun W' hW' => own_keep0 (own_lower ho1 (Nat.zero_le _)) hW'), hW.trans0 hu, hu⟩
  have HS := Lib.hid (mk sa sc sq h2 hms)
  have HR := Lib.hid (mk ra rc rq h3 hmr)
  have HH := Lib.hid (fun W (hW : Upd [] w W) => h.keep0 hW)
  have HC := Lib.hid (fun W (hW : Upd [] w W) => four_cells (hW.keep h1 (by simp)))
  have HF := Lib.hid (fun W (hW : Upd [] w W) => four_frozen (hW.keep h1 (by simp)))
  have hu0 := Upd.refl [] w
  clear h h1 h2 h3 mk
  go_enter Try.func27, Try.ntmps27
  go_wp2
  go_region_law (first
    | (have z_ := hu1; go_simp; go_at_call 49; refine Calls.mono (HR.out _ (by repeat (first | exact hu1 | refine Upd.drewN ?_ _ | refine Upd.drew ?_))) ?_; rintro e w2 ⟨a2, k2, rfl, HO2, hu2, hk2⟩; obtain ⟨c0, c1, c2, c3⟩ := HC.out _ hu2; have cf := HF.out _ hu2; dsimp only)
    | (go_simp; go_at_call 49; refine Calls.mono (HS.out _ (by repeat (first | exact hu0 | refine Upd.drewN ?_ _ | refine Upd.drew ?_))) ?_; rintro e w1 ⟨a1, k1, rfl, HO1, hu1, hk1⟩; obtain ⟨c0, c1, c2, c3⟩ := HC.out _ hu1; have cf := HF.out _ hu1; dsimp only))
  all_goals
    have ho1 := HO1.out w2 (Upd.trans0 (by repeat (first | exact Upd.refl _ _ | refine Upd.drewN ?_ _ | refine Upd.drew ?_)) hk2)
    have ho2 := HO2.out w2 (Upd.refl _ _)
    have hc0 := HH.out _ hu2
    have nt : NotT w2 [p] 31 := hc0.ch.notT (by decide)
    have hA := (hc0.setS rfl ho1).setR rfl (own_keepT ho2 ((Upd.refl [p] w2).setCell ⟨p, 1, none⟩ (.slice a1 (leave sq t).length k1) (fun _ => by simp)) nt)
    have hB := (hc0.setR rfl ho2).setS rfl (own_keepT ho1 ((Upd.refl [p] w2).setCell ⟨p, 2, none⟩ (.slice a2 (leave rq t).length k2) (fun _ => by simp)) nt)
    have hup : Upd [p] w w2 := hu2.mono (fun z hz _ => by simp at hz)
    first | go_end0 | ((try simp only [Exit.inBlock, Exit.then]); refine bodyPost_ret (results_none rfl _ _ _) rfl ?_) | skip
    first
      | exact ⟨rfl, hA, (hup.setCell _ _ (fun _ => by simp)).setCell _ _ (fun _ => by simp)⟩
      | exact ⟨rfl, hB, (hup.setCell _ _ (fun _ => by simp)).setCell _ _ (fun _ => by simp)⟩
set_option maxHeartbeats 6400000 in
set_option maxRecDepth 100000 in
theorem chanTwin_any (p rp c room : Nat) (xs : List Int) (sq rq : List Wt) (cl : Bool) (w : World) (h : ChanP w p rp c room xs sq rq cl) (hms : sq.length ≤ 100000) (hmr : rq.length ≤ 100000) :
    Calls Try.prog 29 #[.pointer (some ⟨p, 0, none⟩)] w fun e w' => ∃ p' rp' c', e = .returned (.pointer (some ⟨p', 0, none⟩)) ∧ ChanP w' p' rp' c' room xs sq rq cl ∧ ChanP w' p rp c room xs sq rq cl ∧ Upd [c] w w' ∧ w.heap.size ≤ p' ∧ w.heap.size ≤ rp' ∧ w.heap.size ≤ c' := by
  obtain ⟨sa, sc, ra, rc, h1, h2, h3⟩ := h.ch.ex
  obtain ⟨c0, c1, c2, c3⟩ := four_cells h1
  have hpc := h.pc
  have HT := Lib.hid (fun W (hW : Upd [] w W) => twin_any rp c room xs W (h.ring.keep hW (by simp) (by simp)))
  have hu00 := Upd.refl [] w
  have HD := Lib.hid (fun W (hW : Upd [c] w W) => four_cells (hW.keep h1 (by simp [hpc])))
  have HS := Lib.hid (fun W (hW : Upd [c] w W) => cloneQ_any sa sc sq W (Rd.of_own (own_keepT h2 hW h.ring.notT)) (by omega))
  have HR := Lib.hid (fun W (hW : Upd [c] w W) => cloneQ_any ra rc rq W (Rd.of_own (own_keepT h3 hW h.ring.notT)) (by omega))
  have HH := Lib.hid h
  have hu0 := Upd.refl [c] w
  clear h h1 h2 h3
  go_enter Try.func29, Try.ntmps29
  go_wp2
  go_region_held3 (fun w' => w'.cell? ⟨p, 0, none⟩ = some (.pointer (some ⟨rp, 0, none⟩)) ∧ w'.cell? ⟨p, 1, none⟩ = some (.slice sa sq.length sc) ∧ w'.cell? ⟨p, 2, none⟩ = some (.slice ra rq.length rc) ∧ w'.cell? ⟨p, 3, none⟩ = some (.bool cl)) (first | trivial | go_keep) (first
    | (have z_ := huS; go_at_call 32; refine (HR.out _ (by repeat (first | exact hcS | refine Upd.drewN ?_ _ | refine Upd.drew ?_))).mono ?_; rintro e wR ⟨aR, kR, rfl, hoR, huR⟩; have hcR : Upd [c] w wR := Upd.trans0 (by repeat (first | exact hcS | refine Upd.drewN ?_ _ | refine Upd.drew ?_)) huR; have huRS : Upd [] wS wR := Upd.trans0 (by repeat (first | exact Upd.refl _ _ | refine Upd.drewN ?_ _ | refine Upd.drew ?_)) huR; have q0 := (HD.out _ hcR).1; have q1 := (HD.out _ hcR).2.1; have q2 := (HD.out _ hcR).2.2.1; have q3 := (HD.out _ hcR).2.2.2)
    | (have z_ := hcT; go_at_call 32; refine (HS.out _ (by repeat (first | exact hcT | refine Upd.drewN ?_ _ | refine Upd.drew ?_))).mono ?_; rintro e wS ⟨aS, kS, rfl, hoS, huS⟩; have hcS : Upd [c] w wS := Upd.trans0 (by repeat (first | exact hcT | refine Upd.drewN ?_ _ | refine Upd.drew ?_)) huS; have huST : Upd [] wT wS := Upd.trans0 (by repeat (first | exact Upd.refl _ _ | refine Upd.drewN ?_ _ | refine Upd.drew ?_)) huS; have q0 := (HD.out _ hcS).1; have q1 := (HD.out _ hcS).2.1; have q2 := (HD.out _ hcS).2.2.1; have q3 := (HD.out _ hcS).2.2.2)
    | (go_at_call 51; refine (HT.out _ (by repeat (first | exact hu00 | refine Upd.drewN ?_ _ | refine Upd.drew ?_))).mono ?_; rintro e wT ⟨rq', cq', rfl, hRn, hRo, huT, hsr, hsc⟩; have hcT : Upd [c] w wT := Upd.transS (by repeat (first | exact hu0 | refine Upd.drewN ?_ _ | refine Upd.drew ?_)) huT; have q0 := (HD.out _ hcT).1; have q1 := (HD.out _ hcT).2.1; have q2 := (HD.out _ hcT).2.2.1; have q3 := (HD.out _ hcT).2.2.2))
  have hut := huST.trans0 huRS
  have hold := (HH.out.turn hcT hRo).keep0 hut
  have hnew := hRn.keep hut (by simp) (by simp)
  have hsS := own_keep0 hoS huRS
  have hs1 := hcR.size
  have HOLD := Lib.hid hold
  have HNEW := Lib.hid hnew
  have HSS := Lib.hid hsS
  have HSR := Lib.hid hoR
  have HCR := Lib.hid hcR
  clear hold hnew hsS hoR hoS hcR hRn hRo huT hcT hcS huS huST huR huRS hut q0 q1 q2 q3
  go_wp2
  go_ret
  have hal : Upd [] wR (wR.alloc (.cells #[.pointer (some ⟨rq', 0, none⟩), .slice aS sq.length kS, .slice aR rq.length kR, .bool cl] 76)) := (Upd.refl _ _).alloc _
  refine ⟨_, rq', cq', rfl, ⟨⟨aS, kS, aR, kR, heap_alloc_new _ _, own_keep0 (own_lower HSS.out (Nat.zero_le _)) hal, own_keep0 (own_lower HSR.out (Nat.zero_le _)) hal⟩, HNEW.out.keep hal (by simp) (by simp)⟩, HOLD.out.keep0 hal, HCR.out.trans0 hal, hs1, hsr, hsc⟩
end Go.Proofs.Ythchclhleppdhaa
namespace Go.Proofs.Ythchclhleppdhaa
set_option linter.unusedVariables false
set_option linter.unusedSimpArgs false
open Go.RowKit
theorem ActC.cells {w : World} {a : Option Addr} {cap : Nat} {xs : List ActC} (h : Rd w (.slice a xs.length cap) xs.length (xs.flatMap ActC.enc)) {k : Nat} {x : ActC} (hk : xs[k]? = some x) :
    ∃ b off, a = some ⟨b, off, none⟩ ∧ w.cell? ⟨b, off + k * 7, none⟩ = some (.int .i64 x.op) ∧ w.cell? ⟨b, off + k * 7 + 1, none⟩ = some (.int .i64 x.v) ∧ w.cell? ⟨b, off + k * 7 + 2, none⟩ = some (.int .i64 x.wt.task) ∧ w.cell? ⟨b, off + k * 7 + 3, none⟩ = some (.int .i64 x.wt.case_) ∧ w.cell? ⟨b, off + k * 7 + 4, none⟩ = some (.int .i64 x.wt.seq) ∧ w.cell? ⟨b, off + k * 7 + 5, none⟩ = some (.int .i64 x.wt.v) ∧ w.cell? ⟨b, off + k * 7 + 6, none⟩ = some (.slice x.pa x.ps.length x.pc) := by
  have hl := (List.getElem?_eq_some_iff.1 hk).1
  obtain ⟨b, off, rfl, hc⟩ := h.at (by omega)
  have hh : ∀ j u, j < 7 → x.enc[j]? = some u → w.cell? ⟨b, off + k * 7 + j, none⟩ = some u := fun j u hj hu => by
    have := hc (k * 7 + j) u (by rw [flat_get ActC.enc 7 ActC.enc_len xs k j x hk hj]; exact hu)
    rwa [← Nat.add_assoc] at this
  exact ⟨b, off, rfl, hh 0 _ (by omega) rfl, hh 1 _ (by omega) rfl, hh 2 _ (by omega) rfl, hh 3 _ (by omega) rfl, hh 4 _ (by omega) rfl, hh 5 _ (by omega) rfl, hh 6 _ (by omega) rfl⟩
theorem seven_cells {w : World} {b : Nat} {u0 u1 u2 u3 u4 u5 u6 : Value} {t : TypeId} (h : w.heap[b]? = some (.cells #[u0, u1, u2, u3, u4, u5, u6] t (0, 0))) :
    w.cell? ⟨b, 0, none⟩ = some u0 ∧ w.cell? ⟨b, 1, none⟩ = some u1 ∧ w.cell? ⟨b, 2, none⟩ = some u2 ∧ w.cell? ⟨b, 3, none⟩ = some u3 ∧ w.cell? ⟨b, 4, none⟩ = some u4 ∧ w.cell? ⟨b, 5, none⟩ = some u5 ∧ w.cell? ⟨b, 6, none⟩ = some u6 := by
  simp [World.cell?, h]
theorem sz_alloc (w : World) (cs : Array Value) (t : TypeId) : (w.alloc (.cells cs t)).heap.size = w.heap.size + 1 := by simp
/-- A row of those woken, made behind all that was there, stays while what was there turns. -/
theorem RdK.old {w0 w w' : World} {S : List Nat} {a : Option Addr} {ks : List Wk} {k : Nat} (h : RdK w (.slice a ks.length k) ks) (hg : ∀ g, (Value.slice a ks.length k).ownBlock = some g → w0.heap.size ≤ g) (hu : Upd S w w') (hS : ∀ x ∈ S, x < w0.heap.size) : RdK w' (.slice a ks.length k) ks :=
  Rd.keep h hu (fun g hk _ hm => by have := hg g hk; have := hS g hm; omega)
set_option maxHeartbeats 64000000 in
set_option maxRecDepth 100000 in
theorem chanPlays_walk (room : Int) (a : Option Addr) (cap : Nat) (xs : List ActC) (w : World) (_ : (Lit.int .i64 room).wf = true) (hr : Rd w (.slice a xs.length cap) xs.length (xs.flatMap ActC.enc)) (hps : ∀ x ∈ xs, RdI w (.slice x.pa x.ps.length x.pc) x.ps) :
    Calls Try.prog 7 #[.int .i64 room, .slice a xs.length cap] w fun e w' => e = .returned (.bool true) ∧ Upd [] w w' := by
  go_enter Try.func7, Try.ntmps7
  go_wp2_with fail
  refine (known15_ok _).mono ?_
  rintro e w1 ⟨rfl, hU⟩
  by_cases hbad : 60 < xs.length
  · go_wp2_with fail
    go_ret
    exact ⟨rfl, hU⟩
  have HR := Lib.hid hr
  have HPS := Lib.hid hps
  clear hr hps
  by_cases hrm : room < 0 ∨ 16 < room
  · go_wp2_with fail
    refine (chanNew_bad room hrm _).mono ?_
    rintro e w2 ⟨rfl, rfl⟩
    go_wp2_with fail
    refine (refNew_bad room hrm _).mono ?_
    rintro e w3 ⟨rfl, rfl⟩
    go_wp2
    go_ret
    exact ⟨rfl, hU⟩
  obtain ⟨n, rfl⟩ : ∃ n : Nat, room = (n : Int) := ⟨room.toNat, by omega⟩
  have hn : n ≤ 16 := by omega
  clear hrm
  go_wp2_with fail
  refine (chanNew_ok n hn _).mono ?_
  rintro e w2 ⟨p, rp, c, rfl, hC, hu, hp, hrp, hc⟩
  have hsz := hU.size
  replace hp : w.heap.size ≤ p := Nat.le_trans hU.size hp
  replace hc : w.heap.size ≤ c := Nat.le_trans hU.size hc
  replace hU : Upd [] w w2 := hU.trans0 hu
  clear hu hrp hsz
  go_wp2_with fail
  refine (refNew_ok n hn _).mono ?_
  rintro e w3 ⟨q, m, rfl, hM, hu, hq, hm⟩
  have hq0 : w.heap.size ≤ q := Nat.le_trans hU.size hq
  have hm0 : w.heap.size ≤ m := Nat.le_trans hU.size hm
  replace hC := hC.keep0 hu
  replace hU : Upd [] w w3 := hU.trans0 hu
  clear hu hq hm
  go_wp2
  go_loopw [5, 9] (fun pv iv wr => ∃ (i px rp c : Nat) (X : List Int) (S R : List Wt) (cl : Bool), pv = .pointer (some ⟨px, 0, none⟩) ∧ iv = .int .i64 i ∧ i ≤ xs.length ∧ S.length ≤ i ∧ R.length ≤ i ∧ (cl = true → S = [] ∧ R = []) ∧ ChanP wr px rp c n X S R cl ∧ ChanM wr q m n X S R cl ∧ w.heap.size ≤ px ∧ w.heap.size ≤ c ∧ Upd [] w wr) (fun _ iv _ => xs.length - (intOf iv).toNat)
  case atStart => exact ⟨0, p, rp, c, [], [], [], false, rfl, rfl, Nat.zero_le _, Nat.le_refl _, Nat.le_refl _, (fun h => by cases h), hC, hM, hp, hc, hU⟩
  case round =>
    clear hC hM hU hp hc
    obtain ⟨i, p, rp, c, X, S, R, cl, rfl, rfl, hi, hSi, hRi, hcl, hC, hM, hp, hc, hU⟩ := hrel
    by_cases hlt : i < xs.length
    · obtain ⟨x, hx⟩ : ∃ x, xs[i]? = some x := ⟨_, List.getElem?_eq_getElem hlt⟩
      obtain ⟨b, off, rfl, x0, x1, x2, x3, x4, x5, x6⟩ := ActC.cells (HR.out.keep0 hU) hx
      have hrp := HPS.out x (List.mem_of_getElem? hx)
      clear hx
      obtain ⟨op, v, ⟨wt, wc, wq, wv⟩, pa, pc, ps⟩ := x
      simp only at x0 x1 x2 x3 x4 x5 x6 hrp
      by_cases hbig : 60 < ps.length
      · go_wp2_with fail
        go_ret
        exact ⟨rfl, hU.alloc _⟩
      have HRP := Lib.hid hrp
      have HBP := Lib.hid (fun k (hk : (Value.slice pa ps.length pc).ownBlock = some k) (hl : 0 < ps.length) => show k < w.heap.size from Rd.lt hrp hk (by simpa using hl))
      clear hrp
      obtain ⟨A, hA⟩ : ∃ A, A = wr.heap.size := ⟨_, rfl⟩
      have hAp : p < A := by rw [hA]; exact hC.ch.lt
      have hAc : c < A := by rw [hA]; exact hC.clt
      have hAq : q < A := by rw [hA]; exact hM.ch.lt
      have hAm : m < A := by rw [hA]; exact hM.ring.lt
      have hua : Upd [] wr ((wr.alloc (.cells #[.int .i64 op, .int .i64 v, .int .i64 wt, .int .i64 wc, .int .i64 wq, .int .i64 wv, .slice pa ps.length pc] 57)).alloc (.cells #[.int .i64 wt, .int .i64 wc, .int .i64 wq, .int .i64 wv] 31)) := ((Upd.refl _ _).alloc _).alloc _
      have hCa := hC.keep0 hua
      have hMa := hM.keep0 hua
      have hUa := hU.trans0 hua
      have hblk : ((wr.alloc (.cells #[.int .i64 op, .int .i64 v, .int .i64 wt, .int .i64 wc, .int .i64 wq, .int .i64 wv, .slice pa ps.length pc] 57)).alloc (.cells #[.int .i64 wt, .int .i64 wc, .int .i64 wq, .int .i64 wv] 31)).heap[A]? = some (.cells #[.int .i64 op, .int .i64 v, .int .i64 wt, .int .i64 wc, .int .i64 wq, .int .i64 wv, .slice pa ps.length pc] 57 (0, 0)) := by
        rw [hA]; exact (((Upd.refl [] _).alloc _).keep (heap_alloc_new _ _) (by simp))
      have hblw : ((wr.alloc (.cells #[.int .i64 op, .int .i64 v, .int .i64 wt, .int .i64 wc, .int .i64 wq, .int .i64 wv, .slice pa ps.length pc] 57)).alloc (.cells #[.int .i64 wt, .int .i64 wc, .int .i64 wq, .int .i64 wv] 31)).heap[A + 1]? = some (.cells #[.int .i64 wt, .int .i64 wc, .int .i64 wq, .int .i64 wv] 31 (0, 0)) := by
        have h1 := heap_alloc_new (wr.alloc (.cells #[.int .i64 op, .int .i64 v, .int .i64 wt, .int .i64 wc, .int .i64 wq, .int .i64 wv, .slice pa ps.length pc] 57)) (.cells #[.int .i64 wt, .int .i64 wc, .int .i64 wq, .int .i64 wv] 31)
        have h2 : (wr.alloc (.cells #[.int .i64 op, .int .i64 v, .int .i64 wt, .int .i64 wc, .int .i64 wq, .int .i64 wv, .slice pa ps.length pc] 57)).heap.size = A + 1 := by rw [hA]; exact sz_alloc _ _ _
        rwa [h2] at h1
      have HA := Lib.hid hA
      have HCL := Lib.hid hcl
      clear hA hC hM hU hua hcl
      have hop : op = 1 ∨ op = 2 ∨ op = 3 ∨ op = 4 ∨ op = 5 ∨ op = 6 ∨ op = 7 ∨ (op ≠ 1 ∧ op ≠ 2 ∧ op ≠ 3 ∧ op ≠ 4 ∧ op ≠ 5 ∧ op ≠ 6 ∧ op ≠ 7) := by omega
      rcases hop with hop | hop | hop | hop | hop | hop | hop | hop
      · subst hop
        go_wp2_with fail
        rw [← HA.out]
        obtain ⟨wa, hwa⟩ : ∃ wa, wa = (wr.alloc (.cells #[.int .i64 1, .int .i64 v, .int .i64 wt, .int .i64 wc, .int .i64 wq, .int .i64 wv, .slice pa ps.length pc] 57)).alloc (.cells #[.int .i64 wt, .int .i64 wc, .int .i64 wq, .int .i64 wv] 31) := ⟨_, rfl⟩
        rw [← hwa] at hCa hMa hUa hblk hblw ⊢
        clear hwa HA x0 x1 x2 x3 x4 x5 x6
        have hsa := blk_lt hblw
        obtain ⟨er, ks, X', R', hcl', hRl, hkl, hP', hM'⟩ := send_both n X S R cl HCL.out (by omega) v pa pc ps (by omega)
        refine (hP' p rp c _ hCa (HRP.out.keep0 hUa)).mono ?_
        rintro e w4 ⟨ka, kc, rfl, hK4, hg4, hC4, hu4⟩
        have hblk4 := hu4.keep hblk (by simp; omega)
        obtain ⟨d0, d1, d2, d3, d4, d5, d6⟩ := seven_cells hblk4
        have hM4 := hMa.besideP hCa hu4
        have hU4 : Upd [] w w4 := hUa.trans hu4 (fun y hy hl => by simp at hy; omega)
        have hs4 := hu4.size
        clear hCa hMa hUa hu4 hP' hblk hblw
        go_wp2_with fail
        refine (hM' q m _ hM4 (HRP.out.keep0 hU4)).mono ?_
        rintro e w5 ⟨ka', kc', rfl, hK5, hg5, hM5, hu5⟩
        have hC5 := hC4.besideM hM4 hu5
        have hK45 := RdK.old hK4 hg4 hu5 (fun y hy => by simp at hy; omega)
        have hU5 : Upd [] w w5 := hU4.trans hu5 (fun y hy hl => by simp at hy; omega)
        have hd : (er != er) = false := by simp
        clear hM4 hC4 hK4 hU4 hu5 hM' d0 d1 d2 d3 d4 d5 d6 hblk4
        go_wp2_with fail
        refine (sameWoken_any ka ka' kc kc' ks _ hK45 hK5 (by omega)).mono ?_
        rintro e w6 ⟨rfl, hu6⟩
        have hC6 := hC5.keep0 hu6
        have hM6 := hM5.keep0 hu6
        have hU6 := hU5.trans0 hu6
        clear hC5 hM5 hU5 hu6 hK45 hK5
        go_wp2_with fail
        refine (chanSame_any p rp c q m n X' S R' cl _ hC6 hM6 (by omega) (by omega)).mono ?_
        rintro e w9 ⟨rfl, hC9, hM9, hu9⟩
        have hU9 : Upd [] w w9 := hU6.trans hu9 (fun y hy hl => by simp at hy; omega)
        go_wp2
        go_roundw
        case rel => exact ⟨i + 1, p, rp, c, X', S, R', cl, rfl, by go_num, by omega, by omega, by omega, hcl', hC9, hM9, hp, hc, hU9⟩
        case measure => simp [intOf]; omega
      · subst hop
        go_wp2_with fail
        rw [← HA.out]
        obtain ⟨wa, hwa⟩ : ∃ wa, wa = (wr.alloc (.cells #[.int .i64 2, .int .i64 v, .int .i64 wt, .int .i64 wc, .int .i64 wq, .int .i64 wv, .slice pa ps.length pc] 57)).alloc (.cells #[.int .i64 wt, .int .i64 wc, .int .i64 wq, .int .i64 wv] 31) := ⟨_, rfl⟩
        rw [← hwa] at hCa hMa hUa hblk hblw ⊢
        clear hwa HA x0 x1 x2 x3 x4 x5 x6
        have hsa := blk_lt hblw
        obtain ⟨v', er, ks, X', S', hcl', hSl, hkl, hP', hM'⟩ := recv_both n X S R cl HCL.out (by omega) pa pc ps (by omega)
        refine (hP' p rp c _ hCa (HRP.out.keep0 hUa)).mono ?_
        rintro e w4 ⟨ka, kc, rfl, hK4, hg4, hC4, hu4⟩
        have hblk4 := hu4.keep hblk (by simp; omega)
        obtain ⟨d0, d1, d2, d3, d4, d5, d6⟩ := seven_cells hblk4
        have hM4 := hMa.besideP hCa hu4
        have hU4 : Upd [] w w4 := hUa.trans hu4 (fun y hy hl => by simp at hy; omega)
        have hs4 := hu4.size
        clear hCa hMa hUa hu4 hP' hblk hblw
        go_wp2_with fail
        refine (hM' q m _ hM4 (HRP.out.keep0 hU4) (fun k hk hl => by have := HBP.out k hk hl; omega)).mono ?_
        rintro e w5 ⟨ka', kc', rfl, hK5, hg5, hM5, hu5⟩
        have hC5 := hC4.besideM hM4 hu5
        have hK45 := RdK.old hK4 hg4 hu5 (fun y hy => by simp at hy; omega)
        have hU5 : Upd [] w w5 := hU4.trans hu5 (fun y hy hl => by simp at hy; omega)
        have hd : (er != er) = false := by simp
        have hd2 : (v' != v') = false := by simp
        clear hM4 hC4 hK4 hU4 hu5 hM' d0 d1 d2 d3 d4 d5 d6 hblk4
        go_wp2_with fail
        refine (sameWoken_any ka ka' kc kc' ks _ hK45 hK5 (by omega)).mono ?_
        rintro e w6 ⟨rfl, hu6⟩
        have hC6 := hC5.keep0 hu6
        have hM6 := hM5.keep0 hu6
        have hU6 := hU5.trans0 hu6
        clear hC5 hM5 hU5 hu6 hK45 hK5
        go_wp2_with fail
        refine (chanSame_any p rp c q m n X' S' R cl _ hC6 hM6 (by omega) (by omega)).mono ?_
        rintro e w9 ⟨rfl, hC9, hM9, hu9⟩
        have hU9 : Upd [] w w9 := hU6.trans hu9 (fun y hy hl => by simp at hy; omega)
        go_wp2
        go_roundw
        case rel => exact ⟨i + 1, p, rp, c, X', S', R, cl, rfl, by go_num, by omega, by omega, by omega, hcl', hC9, hM9, hp, hc, hU9⟩
        case measure => simp [intOf]; omega
      · subst hop
        go_wp2_with fail
        rw [← HA.out]
        obtain ⟨wa, hwa⟩ : ∃ wa, wa = (wr.alloc (.cells #[.int .i64 3, .int .i64 v, .int .i64 wt, .int .i64 wc, .int .i64 wq, .int .i64 wv, .slice pa ps.length pc] 57)).alloc (.cells #[.int .i64 wt, .int .i64 wc, .int .i64 wq, .int .i64 wv] 31) := ⟨_, rfl⟩
        rw [← hwa] at hCa hMa hUa hblk hblw ⊢
        clear hwa HA x0 x1 x2 x3 x4 x5 x6
        have hsa := blk_lt hblw
        refine (close_both n X S R cl HCL.out (by omega) (by omega) pa pc ps (by omega) p rp c _ hCa (HRP.out.keep0 hUa)).mono ?_
        rintro e w4 ⟨er, ks, ka, kc, rfl, hkl0, hK4, hg4, hC4, hu4, hM'⟩
        have hkl : ks.length ≤ 120 := by omega
        clear hkl0
        have hblk4 := hu4.keep hblk (by simp; omega)
        obtain ⟨d0, d1, d2, d3, d4, d5, d6⟩ := seven_cells hblk4
        have hM4 := hMa.besideP hCa hu4
        have hU4 : Upd [] w w4 := hUa.trans hu4 (fun y hy hl => by simp at hy; omega)
        have hs4 := hu4.size
        clear hCa hMa hUa hu4 hblk hblw
        go_wp2_with fail
        refine (hM' q m _ hM4 (HRP.out.keep0 hU4) (fun k hk hl => by have := HBP.out k hk hl; omega)).mono ?_
        rintro e w5 ⟨ka', kc', rfl, hK5, hg5, hM5, hu5⟩
        have hC5 := hC4.besideM hM4 hu5
        have hK45 := RdK.old hK4 hg4 hu5 (fun y hy => by simp at hy; omega)
        have hU5 : Upd [] w w5 := hU4.trans hu5 (fun y hy hl => by simp at hy; omega)
        have hd : (er != er) = false := by simp
        clear hM4 hC4 hK4 hU4 hu5 hM' d0 d1 d2 d3 d4 d5 d6 hblk4
        go_wp2_with fail
        refine (sameWoken_any ka ka' kc kc' ks _ hK45 hK5 (by omega)).mono ?_
        rintro e w6 ⟨rfl, hu6⟩
        have hC6 := hC5.keep0 hu6
        have hM6 := hM5.keep0 hu6
        have hU6 := hU5.trans0 hu6
        clear hC5 hM5 hU5 hu6 hK45 hK5
        go_wp2_with fail
        refine (chanSame_any p rp c q m n X [] [] true _ hC6 hM6 (Nat.zero_le _) (Nat.zero_le _)).mono ?_
        rintro e w9 ⟨rfl, hC9, hM9, hu9⟩
        have hU9 : Upd [] w w9 := hU6.trans hu9 (fun y hy hl => by simp at hy; omega)
        go_wp2
        go_roundw
        case rel => exact ⟨i + 1, p, rp, c, X, [], [], true, rfl, by go_num, by omega, Nat.zero_le _, Nat.zero_le _, (fun _ => ⟨rfl, rfl⟩), hC9, hM9, hp, hc, hU9⟩
        case measure => simp [intOf]; omega
      · subst hop
        go_wp2_with fail
        rw [← HA.out]
        obtain ⟨wa, hwa⟩ : ∃ wa, wa = (wr.alloc (.cells #[.int .i64 4, .int .i64 v, .int .i64 wt, .int .i64 wc, .int .i64 wq, .int .i64 wv, .slice pa ps.length pc] 57)).alloc (.cells #[.int .i64 wt, .int .i64 wc, .int .i64 wq, .int .i64 wv] 31) := ⟨_, rfl⟩
        rw [← hwa] at hCa hMa hUa hblk hblw ⊢
        clear hwa HA x0 x1 x2 x3 x4 x5 x6
        have hsa := blk_lt hblw
        obtain ⟨d0, d1, d2, d3, d4, d5, d6⟩ := seven_cells hblk
        obtain ⟨y0, y1, y2, y3⟩ := four_cells hblw
        obtain ⟨er, S', hcl', hSl, hP', hM'⟩ := waitS_both n X S R cl HCL.out (by omega) ⟨wt, wc, wq, wv⟩
        go_region_held3 (fun w' => w'.cell? ⟨A + 1, 0, none⟩ = some (.int .i64 wt) ∧ w'.cell? ⟨A + 1, 1, none⟩ = some (.int .i64 wc) ∧ w'.cell? ⟨A + 1, 2, none⟩ = some (.int .i64 wq) ∧ w'.cell? ⟨A + 1, 3, none⟩ = some (.int .i64 wv) ∧ w'.cell? ⟨A, 0, none⟩ = some (.int .i64 4) ∧ w'.cell? ⟨A, 2, none⟩ = some (.int .i64 wt) ∧ w'.cell? ⟨A, 3, none⟩ = some (.int .i64 wc) ∧ w'.cell? ⟨A, 4, none⟩ = some (.int .i64 wq) ∧ w'.cell? ⟨A, 5, none⟩ = some (.int .i64 wv)) (first | trivial | go_keep) (first
          | (have z_ := hu4; go_at_call 26; refine (hM' q m _ ((hMa.besideP hCa hu4).keep0 (by repeat (first | exact Upd.refl _ _ | refine Upd.drewN ?_ _ | refine Upd.drew ?_)))).mono ?_; rintro e w5 ⟨rfl, hM5, hu5⟩; have hx5 : Upd [q, m] w4 w5 := Upd.transS (by repeat (first | exact Upd.refl _ _ | refine Upd.drewN ?_ _ | refine Upd.drew ?_)) hu5; obtain ⟨d0, d1, d2, d3, d4, d5, d6⟩ := seven_cells (hx5.keep hblk4 (by simp; omega)); obtain ⟨y0, y1, y2, y3⟩ := four_cells (hx5.keep hblw4 (by simp; omega)))
          | (go_at_call 10; refine (hP' p rp c _ (hCa.keep0 (by repeat (first | exact Upd.refl _ _ | refine Upd.drewN ?_ _ | refine Upd.drew ?_)))).mono ?_; rintro e w4 ⟨rfl, hC4, hu40⟩; have hu4 : Upd [p, c] wa w4 := Upd.transS (by repeat (first | exact Upd.refl _ _ | refine Upd.drewN ?_ _ | refine Upd.drew ?_)) hu40; have hblk4 := hu4.keep hblk (by simp; omega); have hblw4 := hu4.keep hblw (by simp; omega); obtain ⟨d0, d1, d2, d3, d4, d5, d6⟩ := seven_cells hblk4; obtain ⟨y0, y1, y2, y3⟩ := four_cells hblw4))
        have hM4 := hMa.besideP hCa hu4
        have hC5 := hC4.besideM hM4 hx5
        have hU5 : Upd [] w w5 := (hUa.trans hu4 (fun y hy hl => by simp at hy; omega)).trans hx5 (fun y hy hl => by simp at hy; omega)
        have hd : (er != er) = false := by simp
        clear hP' hM' hCa hMa hUa hM4 hC4 hu4 hx5 hu40 hu5
        go_wp2_with fail
        refine (chanSame_any p rp c q m n X S' R cl _ hC5 hM5 (by omega) (by omega)).mono ?_
        rintro e w9 ⟨rfl, hC9, hM9, hu9⟩
        have hU9 : Upd [] w w9 := hU5.trans hu9 (fun y hy hl => by simp at hy; omega)
        go_wp2
        go_roundw
        case rel => exact ⟨i + 1, p, rp, c, X, S', R, cl, rfl, by go_num, by omega, by omega, by omega, hcl', hC9, hM9, hp, hc, hU9⟩
        case measure => simp [intOf]; omega
      · subst hop
        go_wp2_with fail
        rw [← HA.out]
        obtain ⟨wa, hwa⟩ : ∃ wa, wa = (wr.alloc (.cells #[.int .i64 5, .int .i64 v, .int .i64 wt, .int .i64 wc, .int .i64 wq, .int .i64 wv, .slice pa ps.length pc] 57)).alloc (.cells #[.int .i64 wt, .int .i64 wc, .int .i64 wq, .int .i64 wv] 31) := ⟨_, rfl⟩
        rw [← hwa] at hCa hMa hUa hblk hblw ⊢
        clear hwa HA x0 x1 x2 x3 x4 x5 x6
        have hsa := blk_lt hblw
        obtain ⟨d0, d1, d2, d3, d4, d5, d6⟩ := seven_cells hblk
        obtain ⟨y0, y1, y2, y3⟩ := four_cells hblw
        obtain ⟨er, R', hcl', hSl, hP', hM'⟩ := waitR_both n X S R cl HCL.out (by omega) ⟨wt, wc, wq, wv⟩
        go_region_held3 (fun w' => w'.cell? ⟨A + 1, 0, none⟩ = some (.int .i64 wt) ∧ w'.cell? ⟨A + 1, 1, none⟩ = some (.int .i64 wc) ∧ w'.cell? ⟨A + 1, 2, none⟩ = some (.int .i64 wq) ∧ w'.cell? ⟨A + 1, 3, none⟩ = some (.int .i64 wv) ∧ w'.cell? ⟨A, 0, none⟩ = some (.int .i64 5) ∧ w'.cell? ⟨A, 2, none⟩ = some (.int .i64 wt) ∧ w'.cell? ⟨A, 3, none⟩ = some (.int .i64 wc) ∧ w'.cell? ⟨A, 4, none⟩ = some (.int .i64 wq) ∧ w'.cell? ⟨A, 5, none⟩ = some (.int .i64 wv)) (first | trivial | go_keep) (first
          | (have z_ := hu4; go_at_call 26; refine (hM' q m _ ((hMa.besideP hCa hu4).keep0 (by repeat (first | exact Upd.refl _ _ | refine Upd.drewN ?_ _ | refine Upd.drew ?_)))).mono ?_; rintro e w5 ⟨rfl, hM5, hu5⟩; have hx5 : Upd [q, m] w4 w5 := Upd.transS (by repeat (first | exact Upd.refl _ _ | refine Upd.drewN ?_ _ | refine Upd.drew ?_)) hu5; obtain ⟨d0, d1, d2, d3, d4, d5, d6⟩ := seven_cells (hx5.keep hblk4 (by simp; omega)); obtain ⟨y0, y1, y2, y3⟩ := four_cells (hx5.keep hblw4 (by simp; omega)))
          | (go_at_call 10; refine (hP' p rp c _ (hCa.keep0 (by repeat (first | exact Upd.refl _ _ | refine Upd.drewN ?_ _ | refine Upd.drew ?_)))).mono ?_; rintro e w4 ⟨rfl, hC4, hu40⟩; have hu4 : Upd [p, c] wa w4 := Upd.transS (by repeat (first | exact Upd.refl _ _ | refine Upd.drewN ?_ _ | refine Upd.drew ?_)) hu40; have hblk4 := hu4.keep hblk (by simp; omega); have hblw4 := hu4.keep hblw (by simp; omega); obtain ⟨d0, d1, d2, d3, d4, d5, d6⟩ := seven_cells hblk4; obtain ⟨y0, y1, y2, y3⟩ := four_cells hblw4))
        have hM4 := hMa.besideP hCa hu4
        have hC5 := hC4.besideM hM4 hx5
        have hU5 : Upd [] w w5 := (hUa.trans hu4 (fun y hy hl => by simp at hy; omega)).trans hx5 (fun y hy hl => by simp at hy; omega)
        have hd : (er != er) = false := by simp
        clear hP' hM' hCa hMa hUa hM4 hC4 hu4 hx5 hu40 hu5
        go_wp2_with fail
        refine (chanSame_any p rp c q m n X S R' cl _ hC5 hM5 (by omega) (by omega)).mono ?_
        rintro e w9 ⟨rfl, hC9, hM9, hu9⟩
        have hU9 : Upd [] w w9 := hU5.trans hu9 (fun y hy hl => by simp at hy; omega)
        go_wp2
        go_roundw
        case rel => exact ⟨i + 1, p, rp, c, X, S, R', cl, rfl, by go_num, by omega, by omega, by omega, hcl', hC9, hM9, hp, hc, hU9⟩
        case measure => simp [intOf]; omega
      · subst hop
        go_wp2_with fail
        rw [← HA.out]
        obtain ⟨wa, hwa⟩ : ∃ wa, wa = (wr.alloc (.cells #[.int .i64 6, .int .i64 v, .int .i64 wt, .int .i64 wc, .int .i64 wq, .int .i64 wv, .slice pa ps.length pc] 57)).alloc (.cells #[.int .i64 wt, .int .i64 wc, .int .i64 wq, .int .i64 wv] 31) := ⟨_, rfl⟩
        rw [← hwa] at hCa hMa hUa hblk hblw ⊢
        clear hwa HA x0 x1 x2 x3 x4 x5 x6
        have hsa := blk_lt hblw
        refine (chanLeave_any p rp c n X S R cl wt _ hCa (by omega) (by omega)).mono ?_
        rintro e w4 ⟨rfl, hC4, hu40⟩
        have hu4 := hu40.pc1 (c := c)
        have hblk4 := hu4.keep hblk (by simp; omega)
        obtain ⟨d0, d1, d2, d3, d4, d5, d6⟩ := seven_cells hblk4
        have hM4 := hMa.besideP hCa hu4
        have hU4 : Upd [] w w4 := hUa.trans hu4 (fun y hy hl => by simp at hy; omega)
        have hl1 := leave_len S wt
        have hl2 := leave_len R wt
        have hcl' : cl = true → leave S wt = [] ∧ leave R wt = [] := fun h => by rw [(HCL.out h).1, (HCL.out h).2]; exact ⟨rfl, rfl⟩
        clear hCa hMa hUa hu4 hu40 hblk hblw
        go_wp2_with fail
        refine (refLeave_any q m n X S R cl wt _ hM4 (by omega) (by omega)).mono ?_
        rintro e w5 ⟨rfl, hM5, hu50⟩
        have hu5 := hu50.pc1 (c := m)
        have hC5 := hC4.besideM hM4 hu5
        have hU5 : Upd [] w w5 := hU4.trans hu5 (fun y hy hl => by simp at hy; omega)
        clear hM4 hC4 hU4 hu5 hu50 d0 d1 d2 d3 d4 d5 d6 hblk4
        go_wp2_with fail
        refine (chanSame_any p rp c q m n X (leave S wt) (leave R wt) cl _ hC5 hM5 (by omega) (by omega)).mono ?_
        rintro e w9 ⟨rfl, hC9, hM9, hu9⟩
        have hU9 : Upd [] w w9 := hU5.trans hu9 (fun y hy hl => by simp at hy; omega)
        go_wp2
        go_roundw
        case rel => exact ⟨i + 1, p, rp, c, X, (leave S wt), (leave R wt), cl, rfl, by go_num, by omega, by omega, by omega, hcl', hC9, hM9, hp, hc, hU9⟩
        case measure => simp [intOf]; omega
      · subst hop
        go_wp2_with fail
        rw [← HA.out]
        obtain ⟨wa, hwa⟩ : ∃ wa, wa = (wr.alloc (.cells #[.int .i64 7, .int .i64 v, .int .i64 wt, .int .i64 wc, .int .i64 wq, .int .i64 wv, .slice pa ps.length pc] 57)).alloc (.cells #[.int .i64 wt, .int .i64 wc, .int .i64 wq, .int .i64 wv] 31) := ⟨_, rfl⟩
        rw [← hwa] at hCa hMa hUa hblk hblw ⊢
        clear hwa HA x0 x1 x2 x3 x4 x5 x6
        have hsa := blk_lt hblw
        refine (chanTwin_any p rp c n X S R cl _ hCa (by omega) (by omega)).mono ?_
        rintro e w4 ⟨p2, rp2, c2, rfl, hT4, hC4, hu40, hp2, hrp2, hc2⟩
        have hu4 := hu40.pc2 (p := p)
        have hM4 := hMa.besideP hCa hu4
        have hU4 : Upd [] w w4 := hUa.trans hu4 (fun y hy hl => by simp at hy; omega)
        clear hCa hMa hUa hu4 hu40 hblk hblw
        go_wp2_with fail
        obtain ⟨er, ks, X', R', hcl', hRl, hkl, hP', _⟩ := send_both n X S R cl HCL.out (by omega) 1 none 0 [] (by simp)
        refine (hP' p rp c _ hC4 (Rd.nil _)).mono ?_
        rintro e w5 ⟨ka, kc, rfl, _, _, hC5, hu5⟩
        have hT5 := hT4.keep hu5 (by simp; omega) (by simp; omega) (by simp; omega) (NotT.two (hC4.ch.notT (by decide)) hC4.ring.notT)
        have hM5 := hM4.besideP hC4 hu5
        have hU5 : Upd [] w w5 := hU4.trans hu5 (fun y hy hl => by simp at hy; omega)
        clear hC4 hT4 hM4 hU4 hu5 hP'
        go_wp2_with fail
        refine (close_both n X' S R' cl hcl' (by omega) (by omega) none 0 [] (by simp) p rp c _ hC5 (Rd.nil _)).mono ?_
        rintro e w6 ⟨_, _, _, _, rfl, _, _, _, hC6, hu6, _⟩
        have hT6 := hT5.keep hu6 (by simp; omega) (by simp; omega) (by simp; omega) (NotT.two (hC5.ch.notT (by decide)) hC5.ring.notT)
        have hM6 := hM5.besideP hC5 hu6
        have hU6 : Upd [] w w6 := hU5.trans hu6 (fun y hy hl => by simp at hy; omega)
        clear hC5 hT5 hM5 hU5 hu6 hC6
        go_wp2_with fail
        refine (chanSame_any p2 rp2 c2 q m n X S R cl _ hT6 hM6 (by omega) (by omega)).mono ?_
        rintro e w9 ⟨rfl, hC9, hM9, hu9⟩
        have hU9 : Upd [] w w9 := hU6.trans hu9 (fun y hy hl => by simp at hy; omega)
        go_wp2
        go_roundw
        case rel => exact ⟨i + 1, p2, rp2, c2, X, S, R, cl, rfl, by go_num, by omega, by omega, by omega, HCL.out, hC9, hM9, (by omega), (by omega), hU9⟩
        case measure => simp [intOf]; omega
      · have e1 : (op == 1) = false := beq_eq_false_iff_ne.2 (by omega)
        have e2 : (op == 2) = false := beq_eq_false_iff_ne.2 (by omega)
        have e3 : (op == 3) = false := beq_eq_false_iff_ne.2 (by omega)
        have e4 : (op == 4) = false := beq_eq_false_iff_ne.2 (by omega)
        have e5 : (op == 5) = false := beq_eq_false_iff_ne.2 (by omega)
        have e6 : (op == 6) = false := beq_eq_false_iff_ne.2 (by omega)
        have e7 : (op == 7) = false := beq_eq_false_iff_ne.2 (by omega)
        clear hop
        go_wp2_with fail
        rw [← HA.out]
        obtain ⟨wa, hwa⟩ : ∃ wa, wa = (wr.alloc (.cells #[.int .i64 op, .int .i64 v, .int .i64 wt, .int .i64 wc, .int .i64 wq, .int .i64 wv, .slice pa ps.length pc] 57)).alloc (.cells #[.int .i64 wt, .int .i64 wc, .int .i64 wq, .int .i64 wv] 31) := ⟨_, rfl⟩
        rw [← hwa] at hCa hMa hUa hblk hblw ⊢
        clear hwa HA x0 x1 x2 x3 x4 x5 x6
        have hsa := blk_lt hblw
        refine (chanSame_any p rp c q m n X S R cl _ hCa hMa (by omega) (by omega)).mono ?_
        rintro e w9 ⟨rfl, hC9, hM9, hu9⟩
        have hU9 : Upd [] w w9 := hUa.trans hu9 (fun y hy hl => by simp at hy; omega)
        go_wp2
        go_roundw
        case rel => exact ⟨i + 1, p, rp, c, X, S, R, cl, rfl, by go_num, by omega, by omega, by omega, HCL.out, hC9, hM9, hp, hc, hU9⟩
        case measure => simp [intOf]; omega
    · obtain rfl : i = xs.length := by omega
      go_wp2
      go_ret
      exact ⟨rfl, hU⟩
end Go.Proofs.Ythchclhleppdhaa
