/- (*order).take at End. -/
import Derived.Test.YtjnhahdelipebaaTakeUnlock
import Derived.Deep.RegionHeld3
import Derived.Deep.DeepCutAuto
namespace Go.Proofs.Ytjnhahdelipebaa.XA
set_option linter.unusedVariables false
set_option linter.unusedSimpArgs false
open Go.RowKit Go.Proofs.YtjnhahdelipebaaW.PrintWords Go.Proofs.YtjnhahdelipebaaW.PrintLast Go.Proofs.YtjnhahdelipebaaW.PrintMore
open Go.Proofs.YtjnhahdelipebaaH (Upd Rd)
theorem tRowP : Go.Proofs.YtjnhahdelipebaaH.ElemT Try.prog 66 42 (.slice none 0 0) 1 24 :=
  ⟨Try.underlying66, by
    obtain ⟨i, hi, h⟩ := info_parts (show (Try.prog.info? 42).map (fun i => (i.zero, i.size, i.bytes)) = some (some (.slice none 0 0), 1, 24) by kernel_rfl)
    exact ⟨i, hi, h⟩, rfl, by decide⟩
/-- The last frame. -/
theorem OrdAt.last {w0 w : World} {b : Nat} {hv fv : Value} {h : List Int} {fs : List FrmP} (k : OrdAt w0 w b hv fv h fs) (hn : 0 < fs.length) :
    ∃ g c f, f ∈ fs ∧ fv = .slice (some ⟨g, 0, none⟩) fs.length c ∧ fs.length ≤ c ∧ w.cell? ⟨g, fs.length - 1, none⟩ = some f.1 ∧ (fs.map (·.2)).getD (fs.length - 1) [] = f.2 := by
  obtain ⟨g, c, rfl, hc, _, _⟩ := own_form k.first hn
  have hi : fs.length - 1 < fs.length := by omega
  refine ⟨g, c, fs[fs.length - 1], List.getElem_mem hi, rfl, hc, ?_, ?_⟩
  · have := k.first.cells (g := g) rfl (fs.length - 1) (fs[fs.length - 1]).1 (by rw [List.getElem?_map, List.getElem?_eq_getElem hi]; rfl)
    rwa [add_plain] at this
  · rw [List.getD, List.getElem?_map, List.getElem?_eq_getElem hi]
    rfl
theorem OrdAt.popF {w0 w : World} {b : Nat} {hv : Value} {h : List Int} {fs : List FrmP} {g c : Nat} (k : OrdAt w0 w b hv (.slice (some ⟨g, 0, none⟩) fs.length c) h fs) (q : Nat) (hq : q ≤ fs.length) : OrdAt w0 (w.setCell ⟨b, 1, none⟩ (.slice (some ⟨g, 0, none⟩) q c)) b hv (.slice (some ⟨g, 0, none⟩) q c) h (fs.take q) := by
  have hown := own_takeN k.first hq
  have hlen : (fs.take q).length = q := by rw [List.length_take]; omega
  refine k.setFirst (Upd.refl _ _) ?_ (fun f hf => k.each f (List.mem_of_mem_take hf))
  rw [hlen, List.map_take]
  simpa using hown
/-- What is wanted of each world on the way to slices.Equal. -/
structure EndOn (w0 W : World) (b g : Nat) (c q : Nat) (hv : Value) (h : List Int) (fs : List FrmP) (A : Option Addr) (f : List Int) (B : Option Addr) : Prop where
  one : Kd.C (Kd.int .i64) W A f.length f
  two : Kd.C (Kd.int .i64) W B h.length h
  below : Below w0.heap.size w0 W
  fin : OrdAt w0 (W.setCell ⟨b, 1, none⟩ (.slice (some ⟨g, 0, none⟩) q c)) b hv (.slice (some ⟨g, 0, none⟩) q c) h (fs.take q)
  c0 : W.cell? ⟨b, 0, none⟩ = some hv
  c1 : W.cell? ⟨b, 1, none⟩ = some (.slice (some ⟨g, 0, none⟩) fs.length c)
  z0 : W.frozen? ⟨b, 0, none⟩ = false
  z1 : W.frozen? ⟨b, 1, none⟩ = false
  cg : ∃ v, W.cell? ⟨g, fs.length - 1, none⟩ = some v
theorem OrdAt.endOn {w0 w W : World} {b g c q : Nat} {h : List Int} {fs : List FrmP} {A : Option Addr} {c1 : Nat} {f : FrmP} {B : Option Addr} {d : Nat} (k : OrdAt w0 w b (.slice B h.length d) (.slice (some ⟨g, 0, none⟩) fs.length c) h fs) (hf : f ∈ fs) (hA : f.1 = .slice A f.2.length c1) (hq : q ≤ fs.length) (hn : 0 < fs.length) (hu : Upd [] w W) : EndOn w0 W b g c q (.slice B h.length d) h fs A f.2 B := by
  have k2 := k.step hu
  obtain ⟨x0, x1, f0, f1, _⟩ := k2.cells
  obtain ⟨A', d', e1, _, _, e4⟩ := own_C (k2.each f hf).1
  rw [hA] at e1
  cases e1
  obtain ⟨B', d'', e5, _, _, e6⟩ := own_C k2.held
  cases e5
  refine ⟨e4, e6, k2.below, k2.popF q hq, x0, x1, f0, f1, ?_⟩
  obtain ⟨g', c', f', _, he, _, hc, _⟩ := k2.last hn
  cases he
  exact ⟨_, hc⟩
set_option maxHeartbeats 16000000 in
set_option maxRecDepth 100000 in
theorem take_end_none (w0 w : World) (b : Nat) (hv fv : Value) (h : List Int) (fs : List FrmP) (hO : OrdAt w0 w b hv fv h fs) (n v wt : Int) (A : Option Addr) (m c : Nat) (h0 : fs.length = 0) :
    Calls Try.prog 34 #[.pointer (some ⟨b, 0, none⟩), .agg #[.int .i64 9, .int .i64 n, .int .i64 v, .int .i64 wt, .slice A m c]] w fun e w' => e = .returned (.bool false) ∧ Below w0.heap.size w0 w' := by
  obtain ⟨va, vc, rfl, hvc⟩ := Go.Proofs.YtjnhahdelipebaaH.own_slice hO.held
  obtain ⟨oa, oc, rfl, hoc⟩ := Go.Proofs.YtjnhahdelipebaaH.own_slice hO.first
  obtain ⟨x0, x1, f0, f1, hlt⟩ := hO.cells
  have HO := Lib.hid hO
  obtain ⟨N, hN⟩ : ∃ N, N = h.length := ⟨_, rfl⟩
  obtain ⟨F, hF⟩ : ∃ F, F = fs.length := ⟨_, rfl⟩
  rw [← hN] at x0
  rw [← hF] at x1 h0
  subst h0
  clear hN hF hO hoc hvc
  go_enter Try.func34, Try.ntmps34
  go_wp2
  go_quiet (fail)
  go_wp2
  go_ret
  exact ⟨rfl, (HO.out.step (by repeat (first | refine Upd.alloc ?_ _ | refine Upd.drewN ?_ _ | refine Upd.drew ?_ | exact Upd.refl _ _))).below⟩
set_option maxHeartbeats 16000000 in
set_option maxRecDepth 100000 in
theorem take_end (w0 w : World) (b : Nat) (hv fv : Value) (h : List Int) (fs : List FrmP) (hO : OrdAt w0 w b hv fv h fs) (n v wt : Int) (A : Option Addr) (m c : Nat) (hl : h.length ≤ 1000) (hlf : fs.length ≤ 1000) (h0 : 0 < fs.length) (r : Bool) (hr : r = decide ((fs.map (·.2)).getD (fs.length - 1) [] = h)) :
    Calls Try.prog 34 #[.pointer (some ⟨b, 0, none⟩), .agg #[.int .i64 9, .int .i64 n, .int .i64 v, .int .i64 wt, .slice A m c]] w fun e w' => e = .returned (.bool r) ∧ Below w0.heap.size w0 w' ∧ (r = true → ∃ fv', OrdAt w0 w' b hv fv' h (fs.take (fs.length - 1))) := by
  obtain ⟨va, vc, rfl, hvc⟩ := Go.Proofs.YtjnhahdelipebaaH.own_slice hO.held
  obtain ⟨x0, x1, f0, f1, hlt⟩ := hO.cells
  obtain ⟨g, gc, f, hfm, rfl, hgc, hcell, hfl⟩ := hO.last h0
  rw [hfl] at hr
  obtain ⟨fa, fc, hfa, -, -, -⟩ := own_C (hO.each f hfm).1
  have HS := Lib.hid (fun W hu => hO.endOn (q := fs.length - 1) (W := W) hfm hfa (by omega) h0 hu)
  rw [hfa] at hcell
  have HR := Lib.hid hr
  obtain ⟨N, hN⟩ : ∃ N, N = h.length := ⟨_, rfl⟩
  obtain ⟨F, hF⟩ : ∃ F, F = fs.length := ⟨_, rfl⟩
  obtain ⟨L, hL⟩ : ∃ L, L = f.2.length := ⟨_, rfl⟩
  have HN := Lib.hid hN
  have HF := Lib.hid hF
  have HL := Lib.hid hL
  rw [← hN] at x0 hl ⊢
  rw [← hF] at x1 hcell hlf h0 hgc ⊢
  rw [← hL] at hcell
  have hNm : IntKind.i64.wrap ((F : Int) - 1) = ((F - 1 : Nat) : Int) := by rw [IntWalk.i64_in _ (by omega)]; omega
  obtain ⟨q, hq⟩ : ∃ q, q = F - 1 := ⟨_, rfl⟩
  have HQ := Lib.hid hq
  rw [← hq] at hcell hNm ⊢
  have hq0 : (0 : Int) ≤ (q : Int) := by omega
  have hq1 : (q : Int) < (F : Int) := by omega
  have t0 : decide ((q : Int) < 0) = false := by simp
  have hqc : q ≤ gc := by omega
  have hup := fun W => run_uptoN tRowP g F gc q hqc W
  have HLN := Lib.hid hl
  have HEQ : Hid (∀ W, Upd [] w W → Calls Try.prog 52 #[.slice fa L fc, .slice va N vc] W fun e w' => e = .returned (.bool r) ∧ ∃ n, w' = W.drewN n) := Lib.hid (fun W hu => by
    have hk := HS.out W hu
    have := equalI_any fa fc f.2 va vc h W hk.one hk.two (by omega) r HR.out
    rw [← HL.out, ← HN.out] at this
    exact this)
  clear hN hF hL hO hgc hq hr hvc hfl hfa hfm
  go_enter Try.func34, Try.ntmps34
  go_upto_region 8 with fail
  go_cut [65] (fun s65 wx => s65 = .bool (!r) ∧ Hid (Upd [] w wx))
  case first =>
    go_region_held3 (fun w' => Upd [] w w' ∧ w'.cell? ⟨b, 0, none⟩ = some (.slice va N vc) ∧ w'.cell? ⟨b, 1, none⟩ = some (.slice (some ⟨g, 0, none⟩) F gc) ∧ w'.cell? ⟨g, q, none⟩ = some (.slice fa L fc)) (first | trivial | (refine ⟨by repeat (first | assumption | refine Upd.alloc ?_ _ | refine Upd.drewN ?_ _ | refine Upd.drew ?_ | exact Upd.refl _ _), ?_, ?_, ?_⟩ <;> go_keep) | go_keep) (first | (go_at_call 52; refine Calls.mono (HEQ.out _ (by repeat (first | assumption | refine Upd.alloc ?_ _ | refine Upd.drewN ?_ _ | refine Upd.drew ?_ | exact Upd.refl _ _))) ?_; rintro e w1 ⟨rfl, nn, rfl⟩))
    all_goals
      go_wp2_with fail
      go_meet
      exact ⟨rfl, Lib.hid (by repeat (first | assumption | refine Upd.alloc ?_ _ | refine Upd.drewN ?_ _ | refine Upd.drew ?_ | exact Upd.refl _ _))⟩
  case rest =>
    obtain ⟨rfl, hu⟩ := hcut
    have hE := HS.out _ hu.out
    obtain ⟨-, -, hbel, hfin, z0, z1, zf0, zf1, -⟩ := hE
    rw [← HN.out] at z0
    rw [← HF.out] at z1 hfin
    rw [← HQ.out] at hfin
    have HB := Lib.hid hbel
    have HFIN := Lib.hid hfin
    clear hbel hfin
    cases r
    · go_wp2
      go_ret
      exact ⟨rfl, HB.out, fun h => by cases h⟩
    · go_wp2
      go_ret
      exact ⟨rfl, HFIN.out.below, _, by have h := HFIN.out; rw [← HN.out] at h; exact h⟩
end Go.Proofs.Ytjnhahdelipebaa.XA
