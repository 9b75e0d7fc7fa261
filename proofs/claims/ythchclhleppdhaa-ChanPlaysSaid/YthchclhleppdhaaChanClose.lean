/- Close, Wait, Leave, Twin of package chanq. -/
import Derived.Test.YthchclhleppdhaaChanClosed
import Derived.Test.YthchclhleppdhaaWaitWithout
namespace Go.Proofs.Ythchclhleppdhaa
set_option linter.unusedVariables false
set_option linter.unusedSimpArgs false
open Go.RowKit
/-- Whoever waits. -/
theorem closed_any (a ap : Option Addr) (cap cp : Nat) (q : List Wt) (ps : List Int) (w : World) (hq : RdW w (.slice a q.length cap) q) (hp : RdI w (.slice ap ps.length cp) ps) (hm : ps.length ≤ 1000000) (hmq : q.length ≤ 1000000) :
    Calls Try.prog 36 #[.slice a q.length cap, .slice ap ps.length cp] w fun e w' => ∃ (a' : Option Addr) (c' : Nat) (M : List Nat), e = .returned (.slice a' q.length c') ∧ M.Perm (List.range q.length) ∧ M.Pairwise (goesW q ps) ∧ w'.ownsRow w.heap.size 37 4 (.slice a' q.length c') q.length ((M.map (wkOf q)).flatMap Wk.enc) ∧ Upd [] w w' := by
  by_cases h0 : 0 < q.length
  · exact closed_some a ap cap cp q ps w hq hp hm h0 hmq
  · obtain rfl : q = [] := List.eq_nil_of_length_eq_zero (by omega)
    refine (closed_nil a cap ap ps.length cp w).mono ?_
    rintro e w' ⟨rfl, hu⟩
    exact ⟨none, 0, [], rfl, List.Perm.refl _, List.Pairwise.nil, World.ownsRow_nil _ _ _ _, hu⟩
set_option maxHeartbeats 1600000 in
theorem chanClose_twice (p rp c room : Nat) (xs : List Int) (sq rq : List Wt) (pv : Option Addr) (pl cp : Nat) (w : World) (h : ChanP w p rp c room xs sq rq true) :
    Calls Try.prog 15 #[.pointer (some ⟨p, 0, none⟩), .slice pv pl cp] w fun e w' => e = .returned (.tuple #[.slice none 0 0, .int .i64 9]) ∧ Upd [] w w' := by
  obtain ⟨sa, sc, ra, rc, h1, h2, h3⟩ := h.ch.ex
  obtain ⟨c0, c1, c2, c3⟩ := four_cells h1
  go_enter Try.func15, Try.ntmps15
  go_wp2
  go_ret2
  exact ⟨rfl, Upd.refl _ _⟩
set_option maxHeartbeats 6400000 in
set_option maxRecDepth 100000 in
theorem chanClose_any (p rp c room : Nat) (xs : List Int) (sq rq : List Wt) (ap : Option Addr) (cp : Nat) (ps : List Int) (w : World) (h : ChanP w p rp c room xs sq rq false) (hp : RdI w (.slice ap ps.length cp) ps) (hm : ps.length ≤ 1000000) (hms : sq.length ≤ 100000) (hmr : rq.length ≤ 100000) :
    Calls Try.prog 15 #[.pointer (some ⟨p, 0, none⟩), .slice ap ps.length cp] w fun e w' => ∃ (a' : Option Addr) (c' : Nat) (M L : List Nat), e = .returned (.tuple #[.slice a' (rq.length + sq.length) c', .int .i64 0]) ∧ M.Perm (List.range rq.length) ∧ M.Pairwise (goesW rq ps) ∧ L.Perm (List.range sq.length) ∧ L.Pairwise (goesW sq ps) ∧ w'.ownsRow w.heap.size 37 4 (.slice a' (rq.length + sq.length) c') (rq.length + sq.length) ((M.map (wkOf rq) ++ L.map (wkOf sq)).flatMap Wk.enc) ∧ ChanP w' p rp c room xs [] [] true ∧ Upd [p] w w' := by
  obtain ⟨sa, sc, ra, rc, h1, h2, h3⟩ := h.ch.ex
  obtain ⟨c0, c1, c2, c3⟩ := four_cells h1
  have HS := Lib.hid (fun W (hW : Upd [] w W) => closed_any sa ap sc cp sq ps W ((Rd.of_own h2).keep0 hW) (hp.keep0 hW) hm (by omega))
  have HR := Lib.hid (fun W (hW : Upd [] w W) => closed_any ra ap rc cp rq ps W ((Rd.of_own h3).keep0 hW) (hp.keep0 hW) hm (by omega))
  have HH := Lib.hid (fun W (hW : Upd [] w W) => h.keep0 hW)
  have H1 := Lib.hid (fun W (hW : Upd [] w W) => four_cells (hW.keep h1 (by simp)))
  have HF := Lib.hid (fun W (hW : Upd [] w W) => four_frozen (hW.keep h1 (by simp)))
  have hpl := h.ch.lt
  have hm1 : rq.length + sq.length ≤ maxLen := by unfold maxLen; omega
  have hm2 : (rq.length + sq.length) * 32 ≤ 140737488355328 := by omega
  have hu0 := Upd.refl [] w
  clear h h1 h2 h3 hp
  go_enter Try.func15, Try.ntmps15
  go_wp2_with fail
  go_region_held3 (fun w' => w'.cell? ⟨p, 1, none⟩ = some (.slice sa sq.length sc) ∧ w'.cell? ⟨p, 2, none⟩ = some (.slice ra rq.length rc)) (first | trivial | go_keep) (first
    | ((refine step_extend tWk rfl (.tmp 16) (.tmp 22) rfl hoR2 rfl rfl (Rd.of_own hoS) hlS (Wk.one _) hm1 hm2 hbS ?_); intro a3 k3 w3 hown3 hupd3; have hU3 : Upd [] w w3 := Upd.trans (by repeat (first | exact huRS | refine Upd.drewN ?_ _ | refine Upd.drew ?_)) hupd3 (fun y hy hl => by have := (hoR2.lt y (by simpa using hy)).1; simp only [World.drew, World.drewN] at this; omega); have q1 := (H1.out _ hU3).2.1; have q2 := (H1.out _ hU3).2.2.1)
    | (have z_ := hoR; go_at_call 36; refine (HS.out _ (by repeat (first | exact huR | refine Upd.drewN ?_ _ | refine Upd.drew ?_))).mono ?_; rintro e wS ⟨aS, kS, L, rfl, hLp, hLR, hoS, huS⟩; have hoR2 := own_keep0 hoR huS; have huRS : Upd [] w wS := Upd.trans0 (by repeat (first | exact huR | refine Upd.drewN ?_ _ | refine Upd.drew ?_)) huS; have hbS := huRS.size; have hlS : ((L.map (wkOf sq)).flatMap Wk.enc).length = sq.length * 4 := (by rw [flat_len Wk.enc 4 Wk.enc_len, List.length_map, hLp.length_eq, List.length_range]); have q1 := (H1.out _ huRS).2.1; have q2 := (H1.out _ huRS).2.2.1)
    | (go_at_call 36; refine (HR.out _ (by repeat (first | exact hu0 | refine Upd.drewN ?_ _ | refine Upd.drew ?_))).mono ?_; rintro e wR ⟨aR, kR, M, rfl, hMp, hMR, hoR, huR'⟩; have huR : Upd [] w wR := Upd.trans0 (by repeat (first | exact hu0 | refine Upd.drewN ?_ _ | refine Upd.drew ?_)) huR'; have q1 := (H1.out _ huR).2.1; have q2 := (H1.out _ huR).2.2.1))
  obtain ⟨e0, e1, e2, e3⟩ := H1.out _ hU3
  have ef := HF.out _ hU3
  have hch := (((HH.out _ hU3).setC true).setR (a := none) (n := 0) (cap := 0) (base := 0) (q' := []) rfl (World.ownsRow_nil _ _ _ _)).setS (a := none) (n := 0) (cap := 0) (base := 0) (q' := []) rfl (World.ownsRow_nil _ _ _ _)
  have hset : Upd [p] w3 (((w3.setCell ⟨p, 3, none⟩ (.bool true)).setCell ⟨p, 2, none⟩ (.slice none 0 0)).setCell ⟨p, 1, none⟩ (.slice none 0 0)) := (((Upd.refl [p] w3).setCell _ _ (fun _ => by simp)).setCell _ _ (fun _ => by simp)).setCell _ _ (fun _ => by simp)
  have hUp : Upd [p] w (((w3.setCell ⟨p, 3, none⟩ (.bool true)).setCell ⟨p, 2, none⟩ (.slice none 0 0)).setCell ⟨p, 1, none⟩ (.slice none 0 0)) := (hU3.mono (fun z hz _ => by simp at hz)).transS hset
  have howp := own_keep hown3 hset (fun k hk => by have := (hown3.lt k hk).1; simp only [World.drew, World.drewN] at this; simp; omega)
  have HALL := Lib.hid (And.intro hMp (And.intro hMR (And.intro hLp hLR)))
  have HCH := Lib.hid hch
  have HUP := Lib.hid hUp
  have HOW := Lib.hid howp
  clear hch hset hUp howp hown3 hMp hMR hLp hLR hoR hoS hoR2
  go_wp2
  go_ret2
  exact ⟨a3, k3, M, L, rfl, HALL.out.1, HALL.out.2.1, HALL.out.2.2.1, HALL.out.2.2.2, by rw [List.flatMap_append]; exact HOW.out, HCH.out, HUP.out⟩
end Go.Proofs.Ythchclhleppdhaa
