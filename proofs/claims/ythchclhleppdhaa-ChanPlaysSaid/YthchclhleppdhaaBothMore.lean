/- Recv, Close, Wait of a channel and of the reference's: the same comes of it; either channel stays while the other one turns. -/
import Derived.Test.YthchclhleppdhaaRefChanWait
import Derived.Test.YthchclhleppdhaaSameW
import Derived.Test.YthchclhleppdhaaRow
import Derived.Test.YthchclhleppdhaaChanKnown
import Derived.Test.YthchclhleppdhaaBestMax
import Derived.Test.YthchclhleppdhaaRefCloseW
namespace Go.Proofs.Ythchclhleppdhaa
set_option linter.unusedVariables false
set_option linter.unusedSimpArgs false
open Go.RowKit
/-- The reference's channel stays while the program's ring turns. -/
theorem ChanM.keepc {w w' : World} {q m room : Nat} {xs : List Int} {sq rq : List Wt} {cl : Bool} (h : ChanM w q m room xs sq rq cl) {c cap : Nat} {buf : Array Value} {b tm : Bool} {s r : Nat} (hc : w.heap[c]? = some (.chan cap buf b s r tm)) (hu : Upd [c] w w') : ChanM w' q m room xs sq rq cl := by
  obtain ⟨_, _, _, _, h1, _⟩ := h.ch.ex
  obtain ⟨_, _, h2, _⟩ := h.ring.ex
  refine h.keep hu ?_ ?_ (NotT.chan hc) (NotT.chan hc)
  · simp only [List.mem_singleton]
    rintro rfl
    rw [h1] at hc
    cases hc
  · simp only [List.mem_singleton]
    rintro rfl
    rw [h2] at hc
    cases hc
set_option maxHeartbeats 16000000 in
set_option maxRecDepth 100000 in
theorem chanSame_any (p rp c q m room : Nat) (xs : List Int) (sq rq : List Wt) (cl : Bool) (w : World) (h : ChanP w p rp c room xs sq rq cl) (hM : ChanM w q m room xs sq rq cl) (hms : sq.length ≤ 100000) (hmr : rq.length ≤ 100000) :
    Calls Try.prog 30 #[.pointer (some ⟨p, 0, none⟩), .pointer (some ⟨q, 0, none⟩)] w fun e w' => e = .returned (.bool true) ∧ ChanP w' p rp c room xs sq rq cl ∧ ChanM w' q m room xs sq rq cl ∧ Upd [c] w w' := by
  obtain ⟨sa, sc, ra, rc, h1, h2, h3⟩ := hM.ch.ex
  obtain ⟨xa, xc, h4, h5⟩ := hM.ring.ex
  obtain ⟨s0, r0, hch⟩ := h.ring.chan
  have hle : xs.length ≤ 16 := Nat.le_trans h.ring.le h.ring.most
  have HM := Lib.hid (fun W (hW : Upd [c] w W) => hM.keepc hch hW)
  have HX := Lib.hid (fun W (hW : Upd [c] w W) => four_cells (hW.keep h1 (by
    intro hm
    simp only [List.mem_singleton] at hm
    subst hm
    rw [h1] at hch
    cases hch)))
  have HY := Lib.hid (fun W (hW : Upd [c] w W) => two_cells (hW.keep h4 (by
    intro hm
    simp only [List.mem_singleton] at hm
    subst hm
    rw [h4] at hch
    cases hch)))
  have HS := Lib.hid (fun W (hW : Upd [c] w W) => Rd.of_own (own_keepT h2 hW (NotT.chan hch)))
  have HR := Lib.hid (fun W (hW : Upd [c] w W) => Rd.of_own (own_keepT h3 hW (NotT.chan hch)))
  have HV := Lib.hid (fun W (hW : Upd [c] w W) => Rd.of_own (own_keepT h5 hW (NotT.chan hch)))
  have HP := Lib.hid (fun W (hW : Upd [] w W) => h.keep0 hW)
  obtain ⟨q0, q1, q2, q3⟩ := four_cells h1
  obtain ⟨m0, m1, _, _⟩ := two_cells h4
  have hu0 := Upd.refl [] w
  have e1 : (canS room xs rq cl == canS room xs rq cl) = true := by simp
  have e2 : (canR xs sq cl == canR xs sq cl) = true := by simp
  have e3 : (cl == cl) = true := by simp
  clear h hM h1 h2 h3 h4 h5 hch
  go_enter Try.func30, Try.ntmps30
  go_wp2
  go_region_held3 (fun w' => w'.cell? ⟨q, 0, none⟩ = some (.pointer (some ⟨m, 0, none⟩)) ∧ w'.cell? ⟨q, 1, none⟩ = some (.slice sa sq.length sc) ∧ w'.cell? ⟨q, 2, none⟩ = some (.slice ra rq.length rc) ∧ w'.cell? ⟨q, 3, none⟩ = some (.bool cl) ∧ w'.cell? ⟨m, 1, none⟩ = some (.slice xa xs.length xc)) (first | trivial | go_keep) (first
    | (have z_ := hv9; go_at_call 52; refine (same_any a9 ra c9 rc rq _ (hv9.keep0 (by repeat (first | exact Upd.refl _ _ | refine Upd.drewN ?_ _ | refine Upd.drew ?_))) (HR.out _ (by repeat (first | exact hc9 | refine Upd.drewN ?_ _ | refine Upd.drew ?_))) (by omega)).mono ?_; rintro e w10 ⟨rfl, hu10⟩; have hc10 : Upd [c] w w10 := Upd.trans0 (by repeat (first | exact hc9 | refine Upd.drewN ?_ _ | refine Upd.drew ?_)) hu10; have hp10 := hp9.keep0 (Upd.trans0 (by repeat (first | exact Upd.refl _ _ | refine Upd.drewN ?_ _ | refine Upd.drew ?_)) hu10); have q0 := (HX.out _ hc10).1; have q1 := (HX.out _ hc10).2.1; have q2 := (HX.out _ hc10).2.2.1; have q3 := (HX.out _ hc10).2.2.2; have m1 := (HY.out _ hc10).2.1)
    | (have z_ := hp8; go_at_call 14; refine (chanReceivers_any p rp c room xs sq rq cl _ (hp8.keep0 (by repeat (first | exact Upd.refl _ _ | refine Upd.drewN ?_ _ | refine Upd.drew ?_))) (by omega)).mono ?_; rintro e w9 ⟨a9, c9, rfl, ho9, hu9⟩; have hv9 := Rd.of_own ho9; have hc9 : Upd [c] w w9 := Upd.trans0 (by repeat (first | exact hc8 | refine Upd.drewN ?_ _ | refine Upd.drew ?_)) hu9; have hp9 := hp8.keep0 (Upd.trans0 (by repeat (first | exact Upd.refl _ _ | refine Upd.drewN ?_ _ | refine Upd.drew ?_)) hu9); have q0 := (HX.out _ hc9).1; have q1 := (HX.out _ hc9).2.1; have q2 := (HX.out _ hc9).2.2.1; have q3 := (HX.out _ hc9).2.2.2; have m1 := (HY.out _ hc9).2.1)
    | (have z_ := hv7; go_at_call 52; refine (same_any a7 sa c7 sc sq _ (hv7.keep0 (by repeat (first | exact Upd.refl _ _ | refine Upd.drewN ?_ _ | refine Upd.drew ?_))) (HS.out _ (by repeat (first | exact hc7 | refine Upd.drewN ?_ _ | refine Upd.drew ?_))) (by omega)).mono ?_; rintro e w8 ⟨rfl, hu8⟩; have hc8 : Upd [c] w w8 := Upd.trans0 (by repeat (first | exact hc7 | refine Upd.drewN ?_ _ | refine Upd.drew ?_)) hu8; have hp8 := hp7.keep0 (Upd.trans0 (by repeat (first | exact Upd.refl _ _ | refine Upd.drewN ?_ _ | refine Upd.drew ?_)) hu8); have q0 := (HX.out _ hc8).1; have q1 := (HX.out _ hc8).2.1; have q2 := (HX.out _ hc8).2.2.1; have q3 := (HX.out _ hc8).2.2.2; have m1 := (HY.out _ hc8).2.1)
    | (have z_ := hp6; go_at_call 13; refine (chanSenders_any p rp c room xs sq rq cl _ (hp6.keep0 (by repeat (first | exact Upd.refl _ _ | refine Upd.drewN ?_ _ | refine Upd.drew ?_))) (by omega)).mono ?_; rintro e w7 ⟨a7, c7, rfl, ho7, hu7⟩; have hv7 := Rd.of_own ho7; have hc7 : Upd [c] w w7 := Upd.trans0 (by repeat (first | exact hc6 | refine Upd.drewN ?_ _ | refine Upd.drew ?_)) hu7; have hp7 := hp6.keep0 (Upd.trans0 (by repeat (first | exact Upd.refl _ _ | refine Upd.drewN ?_ _ | refine Upd.drew ?_)) hu7); have q0 := (HX.out _ hc7).1; have q1 := (HX.out _ hc7).2.1; have q2 := (HX.out _ hc7).2.2.1; have q3 := (HX.out _ hc7).2.2.2; have m1 := (HY.out _ hc7).2.1)
    | (have z_ := hv5; go_at_call 19; refine (toUpd (row_eq a5 xa c5 xc xs _ (hv5.keep0 (by repeat (first | exact Upd.refl _ _ | refine Upd.drewN ?_ _ | refine Upd.drew ?_))) (HV.out _ (by repeat (first | exact hc5 | refine Upd.drewN ?_ _ | refine Upd.drew ?_))) (by omega))).mono ?_; rintro e w6 ⟨rfl, hu6⟩; have hc6 : Upd [c] w w6 := Upd.trans0 (by repeat (first | exact hc5 | refine Upd.drewN ?_ _ | refine Upd.drew ?_)) hu6; have hp6 := hp5.keep0 (Upd.trans0 (by repeat (first | exact Upd.refl _ _ | refine Upd.drewN ?_ _ | refine Upd.drew ?_)) hu6); have q0 := (HX.out _ hc6).1; have q1 := (HX.out _ hc6).2.1; have q2 := (HX.out _ hc6).2.2.1; have q3 := (HX.out _ hc6).2.2.2; have m1 := (HY.out _ hc6).2.1)
    | (have z_ := hu4; go_at_call 20; refine (chanValues_any p rp c room xs sq rq cl _ (HP.out _ (by repeat (first | exact hu4 | refine Upd.drewN ?_ _ | refine Upd.drew ?_)))).mono ?_; rintro e w5 ⟨a5, c5, rfl, ho5, hp5, hu5⟩; have hv5 := Rd.of_own ho5; have hc5 : Upd [c] w w5 := Upd.transS ((show Upd [] w _ from by repeat (first | exact hu4 | refine Upd.drewN ?_ _ | refine Upd.drew ?_)).mono (fun z hz _ => by simp at hz)) hu5; have q0 := (HX.out _ hc5).1; have q1 := (HX.out _ hc5).2.1; have q2 := (HX.out _ hc5).2.2.1; have q3 := (HX.out _ hc5).2.2.2; have m1 := (HY.out _ hc5).2.1)
    | (have z_ := hu3; go_at_call 16; refine (toUpd0 (chanClosed_any p rp c room xs sq rq cl _ (HP.out _ (by repeat (first | exact hu3 | refine Upd.drewN ?_ _ | refine Upd.drew ?_))))).mono ?_; rintro e w4 ⟨rfl, hk4⟩; have hu4 : Upd [] w w4 := Upd.trans0 (by repeat (first | exact hu3 | refine Upd.drewN ?_ _ | refine Upd.drew ?_)) hk4; have hc4 : Upd [c] w w4 := hu4.mono (fun z hz _ => by simp at hz); have q0 := (HX.out _ hc4).1; have q1 := (HX.out _ hc4).2.1; have q2 := (HX.out _ hc4).2.2.1; have q3 := (HX.out _ hc4).2.2.2; have m1 := (HY.out _ hc4).2.1)
    | (have z_ := hu2; go_at_call 48; refine (toUpd0 (refCanRecv_any q m room xs sq rq cl _ (HM.out _ ((show Upd [] w _ from by repeat (first | exact hu2 | refine Upd.drewN ?_ _ | refine Upd.drew ?_)).mono (fun z hz _ => by simp at hz))))).mono ?_; rintro e w3 ⟨rfl, hk3⟩; have hu3 : Upd [] w w3 := Upd.trans0 (by repeat (first | exact hu2 | refine Upd.drewN ?_ _ | refine Upd.drew ?_)) hk3; have hc3 : Upd [c] w w3 := hu3.mono (fun z hz _ => by simp at hz); have q0 := (HX.out _ hc3).1; have q1 := (HX.out _ hc3).2.1; have q2 := (HX.out _ hc3).2.2.1; have q3 := (HX.out _ hc3).2.2.2; have m1 := (HY.out _ hc3).2.1)
    | (have z_ := hu1; go_at_call 18; refine (canRecv_any p rp c room xs sq rq cl _ (HP.out _ (by repeat (first | exact hu1 | refine Upd.drewN ?_ _ | refine Upd.drew ?_)))).mono ?_; rintro e w2 ⟨rfl, hk2⟩; have hu2 : Upd [] w w2 := Upd.trans0 (by repeat (first | exact hu1 | refine Upd.drewN ?_ _ | refine Upd.drew ?_)) hk2; have hc2 : Upd [c] w w2 := hu2.mono (fun z hz _ => by simp at hz); have q0 := (HX.out _ hc2).1; have q1 := (HX.out _ hc2).2.1; have q2 := (HX.out _ hc2).2.2.1; have q3 := (HX.out _ hc2).2.2.2; have m1 := (HY.out _ hc2).2.1)
    | (have z_ := hv0; go_at_call 47; refine (refCanSend_any q m room xs sq rq cl _ (HM.out _ ((show Upd [] w _ from by repeat (first | exact hv0 | refine Upd.drewN ?_ _ | refine Upd.drew ?_)).mono (fun z hz _ => by simp at hz)))).mono ?_; rintro e w1 ⟨rfl, hk1⟩; have hu1 : Upd [] w w1 := Upd.trans0 (by repeat (first | exact hv0 | refine Upd.drewN ?_ _ | refine Upd.drew ?_)) hk1; have hc1 : Upd [c] w w1 := hu1.mono (fun z hz _ => by simp at hz); have q0 := (HX.out _ hc1).1; have q1 := (HX.out _ hc1).2.1; have q2 := (HX.out _ hc1).2.2.1; have q3 := (HX.out _ hc1).2.2.2; have m1 := (HY.out _ hc1).2.1)
    | (go_at_call 17; refine (canSend_any p rp c room xs sq rq cl _ (HP.out _ (by repeat (first | exact hu0 | refine Upd.drewN ?_ _ | refine Upd.drew ?_)))).mono ?_; rintro e w0 ⟨rfl, hk0⟩; have hv0 : Upd [] w w0 := Upd.trans0 (by repeat (first | exact hu0 | refine Upd.drewN ?_ _ | refine Upd.drew ?_)) hk0; have hc0 : Upd [c] w w0 := hv0.mono (fun z hz _ => by simp at hz); have q0 := (HX.out _ hc0).1; have q1 := (HX.out _ hc0).2.1; have q2 := (HX.out _ hc0).2.2.1; have q3 := (HX.out _ hc0).2.2.2; have m1 := (HY.out _ hc0).2.1))
  go_wp2
  go_ret
  exact ⟨rfl, hp10, HM.out _ hc10, hc10⟩
end Go.Proofs.Ythchclhleppdhaa
namespace Go.Proofs.Ythchclhleppdhaa
set_option linter.unusedVariables false
set_option linter.unusedSimpArgs false
open Go.RowKit
/-- A block that a call made: it lies behind all that was there. -/
theorem rdK_at {w : World} {g : Nat} {t : TypeId} {x : Wk} (h : w.heap[g]? = some (.cells #[.int .i64 x.task, .int .i64 x.case_, .int .i64 x.v, .int .i64 x.err] t (0, 0))) : RdK w (.slice (some ⟨g, 0, none⟩) 1 1) [x] := rdK_one h
theorem send_both (room : Nat) (X : List Int) (S R : List Wt) (cl : Bool) (hcl : cl = true → S = [] ∧ R = []) (hR : R.length ≤ 100000) (v : Int) (ap : Option Addr) (cp : Nat) (ps : List Int) (hm : ps.length ≤ 1000000) :
    ∃ (er : Int) (ks : List Wk) (X' : List Int) (R' : List Wt), (cl = true → S = [] ∧ R' = []) ∧ R'.length ≤ R.length ∧ ks.length ≤ 1 ∧
      (∀ (p rp c : Nat) (W : World), ChanP W p rp c room X S R cl → RdI W (.slice ap ps.length cp) ps → Calls Try.prog 12 #[.pointer (some ⟨p, 0, none⟩), .int .i64 v, .slice ap ps.length cp] W fun e w' => ∃ (a : Option Addr) (k : Nat), e = .returned (.tuple #[.slice a ks.length k, .int .i64 er]) ∧ RdK w' (.slice a ks.length k) ks ∧ (∀ g, (Value.slice a ks.length k).ownBlock = some g → W.heap.size ≤ g) ∧ ChanP w' p rp c room X' S R' cl ∧ Upd [p, c] W w') ∧
      (∀ (q m : Nat) (W : World), ChanM W q m room X S R cl → RdI W (.slice ap ps.length cp) ps → Calls Try.prog 22 #[.pointer (some ⟨q, 0, none⟩), .int .i64 v, .slice ap ps.length cp] W fun e w' => ∃ (a : Option Addr) (k : Nat), e = .returned (.tuple #[.slice a ks.length k, .int .i64 er]) ∧ RdK w' (.slice a ks.length k) ks ∧ (∀ g, (Value.slice a ks.length k).ownBlock = some g → W.heap.size ≤ g) ∧ ChanM w' q m room X' S R' cl ∧ Upd [q, m] W w') := by
  cases cl with
  | true =>
    refine ⟨9, [], X, R, hcl, Nat.le_refl _, Nat.zero_le _, fun p rp c W h hp => ?_, fun q m W h hp => ?_⟩
    · refine (chanSend_closed p rp c room X S R v ap ps.length cp W h).mono ?_
      rintro e w' ⟨rfl, hu⟩
      exact ⟨none, 0, rfl, Rd.nil _, (fun g hg => by simp [Value.ownBlock] at hg), h.keep0 hu, hu.mono (fun z hz _ => by simp at hz)⟩
    · refine (refSend_closed q m room X S R v ap ps.length cp W h).mono ?_
      rintro e w' ⟨rfl, hu⟩
      exact ⟨none, 0, rfl, Rd.nil _, (fun g hg => by simp [Value.ownBlock] at hg), h.keep0 hu, hu.mono (fun z hz _ => by simp at hz)⟩
  | false =>
    by_cases hr : 0 < R.length
    · obtain ⟨i, hi⟩ := bestTo_some ps R R.length hr
      have hil := bestTo_lt _ _ _ _ hi
      obtain ⟨x, hx⟩ : ∃ x, R[i]? = some x := ⟨_, List.getElem?_eq_getElem hil⟩
      refine ⟨0, [⟨x.task, x.case_, v, 0⟩], X, R.eraseIdx i, (fun h => by cases h), (by rw [List.length_eraseIdx]; split <;> omega), Nat.le_refl _, fun p rp c W h hp => ?_, fun q m W h hp => ?_⟩
      · refine (chanSend_hand p rp c room X S R v ap cp ps i x W h hp hm hR hi hx).mono ?_
        rintro e w' ⟨g, rfl, hg, h5, hC, hu⟩
        exact ⟨_, 1, rfl, rdK_one (x := ⟨x.task, x.case_, v, 0⟩) h5, (fun k hk => by simp [Value.ownBlock] at hk; omega), hC, hu.mono (fun z hz _ => by simp at hz; simp [hz])⟩
      · refine (refSend_hand q m room X S R v ap cp ps i x W h hp hm hR hi hx).mono ?_
        rintro e w' ⟨g, rfl, hg, h5, hC, hu⟩
        exact ⟨_, 1, rfl, rdK_one (x := ⟨x.task, x.case_, v, 0⟩) h5, (fun k hk => by simp [Value.ownBlock] at hk; omega), hC, hu.mono (fun z hz _ => by simp at hz; simp [hz])⟩
    · obtain rfl : R = [] := List.eq_nil_of_length_eq_zero (by omega)
      by_cases hX : X.length < room
      · refine ⟨0, [], X ++ [v], [], (fun h => by cases h), Nat.le_refl _, Nat.zero_le _, fun p rp c W h hp => ?_, fun q m W h hp => ?_⟩
        · refine (chanSend_push p rp c room X S v ap ps.length cp W h hX).mono ?_
          rintro e w' ⟨rfl, hC, hu⟩
          exact ⟨none, 0, rfl, Rd.nil _, (fun g hg => by simp [Value.ownBlock] at hg), hC, hu.mono (fun z hz _ => by simp at hz; simp [hz])⟩
        · refine (refSend_push q m room X S v ap cp ps W h hp hm hX).mono ?_
          rintro e w' ⟨rfl, hC, hu⟩
          exact ⟨none, 0, rfl, Rd.nil _, (fun g hg => by simp [Value.ownBlock] at hg), hC, hu.mono (fun z hz _ => by simp at hz; simp [hz])⟩
      · refine ⟨7, [], X, [], (fun h => by cases h), Nat.le_refl _, Nat.zero_le _, fun p rp c W h hp => ?_, fun q m W h hp => ?_⟩
        · refine (chanSend_full p rp c room X S v ap ps.length cp W h (by omega)).mono ?_
          rintro e w' ⟨rfl, hu⟩
          exact ⟨none, 0, rfl, Rd.nil _, (fun g hg => by simp [Value.ownBlock] at hg), h.keep0 hu, hu.mono (fun z hz _ => by simp at hz)⟩
        · refine (refSend_full q m room X S v ap cp ps W h hp hm (by omega)).mono ?_
          rintro e w' ⟨rfl, hu⟩
          exact ⟨none, 0, rfl, Rd.nil _, (fun g hg => by simp [Value.ownBlock] at hg), h.keep0 hu, hu.mono (fun z hz _ => by simp at hz)⟩
end Go.Proofs.Ythchclhleppdhaa
namespace Go.Proofs.Ythchclhleppdhaa
set_option linter.unusedVariables false
set_option linter.unusedSimpArgs false
open Go.RowKit
theorem ChanP.besideM {w w' : World} {p rp c q m room room' : Nat} {X X' : List Int} {S R S' R' : List Wt} {cl cl' : Bool} (h : ChanP w p rp c room X S R cl) (hM : ChanM w q m room' X' S' R' cl') (hu : Upd [q, m] w w') : ChanP w' p rp c room X S R cl := by
  obtain ⟨_, _, _, _, h1, _⟩ := h.ch.ex
  obtain ⟨s, r, h2⟩ := h.ring.chan
  have h3 := h.ring.obj
  obtain ⟨_, _, _, _, g1, _⟩ := hM.ch.ex
  obtain ⟨_, _, g2, _⟩ := hM.ring.ex
  refine h.keep hu ?_ ?_ ?_ (NotT.two (hM.ch.notT (by decide)) (hM.ring.notT (by decide)))
  · intro hx
    simp only [List.mem_cons, List.not_mem_nil, or_false] at hx
    rcases hx with rfl | rfl
    · rw [h1] at g1
      injection (Option.some.inj g1) with _ h4 _
      exact absurd h4 (by decide)
    · rw [h1] at g2
      injection (Option.some.inj g2) with _ h4 _
      exact absurd h4 (by decide)
  · intro hx
    simp only [List.mem_cons, List.not_mem_nil, or_false] at hx
    rcases hx with rfl | rfl
    · rw [h3] at g1
      injection (Option.some.inj g1) with _ h4 _
      exact absurd h4 (by decide)
    · rw [h3] at g2
      injection (Option.some.inj g2) with _ h4 _
      exact absurd h4 (by decide)
  · intro hx
    simp only [List.mem_cons, List.not_mem_nil, or_false] at hx
    rcases hx with rfl | rfl
    · rw [h2] at g1
      cases g1
    · rw [h2] at g2
      cases g2
theorem ChanM.besideP {w w' : World} {p rp c q m room room' : Nat} {X X' : List Int} {S R S' R' : List Wt} {cl cl' : Bool} (hM : ChanM w q m room X S R cl) (h : ChanP w p rp c room' X' S' R' cl') (hu : Upd [p, c] w w') : ChanM w' q m room X S R cl := by
  obtain ⟨_, _, _, _, h1, _⟩ := h.ch.ex
  obtain ⟨s, r, h2⟩ := h.ring.chan
  obtain ⟨_, _, _, _, g1, _⟩ := hM.ch.ex
  obtain ⟨_, _, g2, _⟩ := hM.ring.ex
  refine hM.keep hu ?_ ?_ (NotT.two (h.ch.notT (by decide)) h.ring.notT) (NotT.two (h.ch.notT (by decide)) h.ring.notT)
  · intro hx
    simp only [List.mem_cons, List.not_mem_nil, or_false] at hx
    rcases hx with rfl | rfl
    · rw [h1] at g1
      injection (Option.some.inj g1) with _ h4 _
      exact absurd h4 (by decide)
    · rw [h2] at g1
      cases g1
  · intro hx
    simp only [List.mem_cons, List.not_mem_nil, or_false] at hx
    rcases hx with rfl | rfl
    · rw [h1] at g2
      injection (Option.some.inj g2) with _ h4 _
      exact absurd h4 (by decide)
    · rw [h2] at g2
      cases g2
theorem ChanP.clt {w : World} {p rp c room : Nat} {X : List Int} {S R : List Wt} {cl : Bool} (h : ChanP w p rp c room X S R cl) : c < w.heap.size := by
  obtain ⟨s, r, h2⟩ := h.ring.chan
  exact blk_lt h2
theorem own_from {w : World} {base : Nat} {e : TypeId} {size n : Nat} {v : Value} {cs : List Value} (h : w.ownsRow base e size v n cs) : ∀ g, v.ownBlock = some g → base ≤ g := by
  intro g hg
  rcases h.2 with ⟨rfl, _⟩ | ⟨g', cap, cur, rfl, hb, _⟩
  · simp [Value.ownBlock] at hg
  · simp [Value.ownBlock] at hg
    omega
theorem recv_both (room : Nat) (X : List Int) (S R : List Wt) (cl : Bool) (hcl : cl = true → S = [] ∧ R = []) (hS : S.length ≤ 100000) (ap : Option Addr) (cp : Nat) (ps : List Int) (hm : ps.length ≤ 1000000) :
    ∃ (v er : Int) (ks : List Wk) (X' : List Int) (S' : List Wt), (cl = true → S' = [] ∧ R = []) ∧ S'.length ≤ S.length ∧ ks.length ≤ 1 ∧
      (∀ (p rp c : Nat) (W : World), ChanP W p rp c room X S R cl → RdI W (.slice ap ps.length cp) ps → Calls Try.prog 11 #[.pointer (some ⟨p, 0, none⟩), .slice ap ps.length cp] W fun e w' => ∃ (a : Option Addr) (k : Nat), e = .returned (.tuple #[.int .i64 v, .slice a ks.length k, .int .i64 er]) ∧ RdK w' (.slice a ks.length k) ks ∧ (∀ g, (Value.slice a ks.length k).ownBlock = some g → W.heap.size ≤ g) ∧ ChanP w' p rp c room X' S' R cl ∧ Upd [p, c] W w') ∧
      (∀ (q m : Nat) (W : World), ChanM W q m room X S R cl → RdI W (.slice ap ps.length cp) ps → (∀ k, (Value.slice ap ps.length cp).ownBlock = some k → 0 < ps.length → k ≠ m) → Calls Try.prog 24 #[.pointer (some ⟨q, 0, none⟩), .slice ap ps.length cp] W fun e w' => ∃ (a : Option Addr) (k : Nat), e = .returned (.tuple #[.int .i64 v, .slice a ks.length k, .int .i64 er]) ∧ RdK w' (.slice a ks.length k) ks ∧ (∀ g, (Value.slice a ks.length k).ownBlock = some g → W.heap.size ≤ g) ∧ ChanM w' q m room X' S' R cl ∧ Upd [q, m] W w') := by
  by_cases hs : 0 < S.length
  · have hc : cl = false := by
      cases cl with
      | false => rfl
      | true => rw [(hcl rfl).1] at hs; simp at hs
    subst hc
    obtain ⟨i, hi⟩ := bestTo_some ps S S.length hs
    have hil := bestTo_lt _ _ _ _ hi
    obtain ⟨x, hx⟩ : ∃ x, S[i]? = some x := ⟨_, List.getElem?_eq_getElem hil⟩
    cases X with
    | nil =>
      refine ⟨x.v, 0, [⟨x.task, x.case_, x.v, 0⟩], [], S.eraseIdx i, (fun h => by cases h), (by rw [List.length_eraseIdx]; split <;> omega), Nat.le_refl _, fun p rp c W h hp => ?_, fun q m W h hp hd => ?_⟩
      · refine (chanRecv_hand p rp c room S R ap cp ps i x W h hp hm hS hi hx).mono ?_
        rintro e w' ⟨g, rfl, hg, h5, hC, hu⟩
        exact ⟨_, 1, rfl, rdK_one (x := ⟨x.task, x.case_, x.v, 0⟩) h5, (fun k hk => by simp [Value.ownBlock] at hk; omega), hC, hu.mono (fun z hz _ => by simp at hz; simp [hz])⟩
      · refine (refRecv_hand q m room S R false ap cp ps i x W h hp hm hS hi hx).mono ?_
        rintro e w' ⟨g, rfl, hg, h5, hC, hu⟩
        exact ⟨_, 1, rfl, rdK_one (x := ⟨x.task, x.case_, x.v, 0⟩) h5, (fun k hk => by simp [Value.ownBlock] at hk; omega), hC, hu.mono (fun z hz _ => by simp at hz; simp [hz])⟩
    | cons y ys =>
      refine ⟨y, 0, [⟨x.task, x.case_, x.v, 0⟩], ys ++ [x.v], S.eraseIdx i, (fun h => by cases h), (by rw [List.length_eraseIdx]; split <;> omega), Nat.le_refl _, fun p rp c W h hp => ?_, fun q m W h hp hd => ?_⟩
      · refine (chanRecv_both p rp c room y ys S R false ap cp ps i x W h hp hm hS hi hx).mono ?_
        rintro e w' ⟨g, rfl, hg, h5, hC, hu⟩
        exact ⟨_, 1, rfl, rdK_one (x := ⟨x.task, x.case_, x.v, 0⟩) h5, (fun k hk => by simp [Value.ownBlock] at hk; omega), hC, hu⟩
      · refine (refRecv_both q m room y ys S R false ap cp ps i x W h hp hm hS hd hi hx).mono ?_
        rintro e w' ⟨g, rfl, hg, h5, hC, hu⟩
        exact ⟨_, 1, rfl, rdK_one (x := ⟨x.task, x.case_, x.v, 0⟩) h5, (fun k hk => by simp [Value.ownBlock] at hk; omega), hC, hu⟩
  · obtain rfl : S = [] := List.eq_nil_of_length_eq_zero (by omega)
    cases X with
    | nil =>
      refine ⟨0, if cl = true then 9 else 8, [], [], [], hcl, Nat.le_refl _, Nat.zero_le _, fun p rp c W h hp => ?_, fun q m W h hp hd => ?_⟩
      · cases cl with
        | true =>
          refine (chanRecv_closed p rp c room [] R ap ps.length cp W h).mono ?_
          rintro e w' ⟨rfl, hu⟩
          exact ⟨none, 0, rfl, Rd.nil _, (fun g hg => by simp [Value.ownBlock] at hg), h.keep0 hu, hu.mono (fun z hz _ => by simp at hz)⟩
        | false =>
          refine (chanRecv_empty p rp c room R ap ps.length cp W h).mono ?_
          rintro e w' ⟨rfl, hu⟩
          exact ⟨none, 0, rfl, Rd.nil _, (fun g hg => by simp [Value.ownBlock] at hg), h.keep0 hu, hu.mono (fun z hz _ => by simp at hz)⟩
      · refine (refRecv_none q m room R cl ap cp ps W h hp hm).mono ?_
        rintro e w' ⟨rfl, hu⟩
        exact ⟨none, 0, rfl, Rd.nil _, (fun g hg => by simp [Value.ownBlock] at hg), h.keep0 hu, hu.mono (fun z hz _ => by simp at hz)⟩
    | cons y ys =>
      refine ⟨y, 0, [], ys, [], hcl, Nat.le_refl _, Nat.zero_le _, fun p rp c W h hp => ?_, fun q m W h hp hd => ?_⟩
      · refine (chanRecv_val p rp c room y ys R cl ap ps.length cp W h).mono ?_
        rintro e w' ⟨rfl, hC, hu⟩
        exact ⟨none, 0, rfl, Rd.nil _, (fun g hg => by simp [Value.ownBlock] at hg), hC, hu.mono (fun z hz _ => by simp at hz; simp [hz])⟩
      · refine (refRecv_val q m room y ys R cl ap cp ps W h hp hm hd).mono ?_
        rintro e w' ⟨rfl, hC, hu⟩
        exact ⟨none, 0, rfl, Rd.nil _, (fun g hg => by simp [Value.ownBlock] at hg), hC, hu.mono (fun z hz _ => by simp at hz; simp [hz])⟩
theorem close_both (room : Nat) (X : List Int) (S R : List Wt) (cl : Bool) (hcl : cl = true → S = [] ∧ R = []) (hS : S.length ≤ 100000) (hR : R.length ≤ 100000) (ap : Option Addr) (cp : Nat) (ps : List Int) (hm : ps.length ≤ 1000000) (p rp c : Nat) (W : World) (h : ChanP W p rp c room X S R cl) (hp : RdI W (.slice ap ps.length cp) ps) :
    Calls Try.prog 15 #[.pointer (some ⟨p, 0, none⟩), .slice ap ps.length cp] W fun e w' => ∃ (er : Int) (ks : List Wk) (a : Option Addr) (k : Nat), e = .returned (.tuple #[.slice a ks.length k, .int .i64 er]) ∧ ks.length = S.length + R.length ∧ RdK w' (.slice a ks.length k) ks ∧ (∀ g, (Value.slice a ks.length k).ownBlock = some g → W.heap.size ≤ g) ∧ ChanP w' p rp c room X [] [] true ∧ Upd [p, c] W w' ∧
      (∀ (q m : Nat) (W : World), ChanM W q m room X S R cl → RdI W (.slice ap ps.length cp) ps → (∀ k, (Value.slice ap ps.length cp).ownBlock = some k → 0 < ps.length → k ≠ q) → Calls Try.prog 25 #[.pointer (some ⟨q, 0, none⟩), .slice ap ps.length cp] W fun e w' => ∃ (a : Option Addr) (k : Nat), e = .returned (.tuple #[.slice a ks.length k, .int .i64 er]) ∧ RdK w' (.slice a ks.length k) ks ∧ (∀ g, (Value.slice a ks.length k).ownBlock = some g → W.heap.size ≤ g) ∧ ChanM w' q m room X [] [] true ∧ Upd [q, m] W w') := by
  cases cl with
  | true =>
    obtain ⟨rfl, rfl⟩ := hcl rfl
    refine (chanClose_twice p rp c room X [] [] ap ps.length cp W h).mono ?_
    rintro e w' ⟨rfl, hu⟩
    refine ⟨9, [], none, 0, rfl, rfl, Rd.nil _, (fun g hg => by simp [Value.ownBlock] at hg), h.keep0 hu, hu.mono (fun z hz _ => by simp at hz), fun q m W h hp hd => ?_⟩
    refine (refClose_twice0 q m room X [] [] ap ps.length cp W h).mono ?_
    rintro e w' ⟨rfl, hu⟩
    exact ⟨none, 0, rfl, Rd.nil _, (fun g hg => by simp [Value.ownBlock] at hg), h.keep0 hu, hu.mono (fun z hz _ => by simp at hz)⟩
  | false =>
    refine (chanClose_any p rp c room X S R ap cp ps W h hp hm hS hR).mono ?_
    rintro e w' ⟨a', c', M, L, rfl, hMp, hMR, hLp, hLR, ho, hC, hu⟩
    have hl : R.length + S.length = (M.map (wkOf R) ++ L.map (wkOf S)).length := by
      rw [List.length_append, List.length_map, List.length_map, hMp.length_eq, hLp.length_eq, List.length_range, List.length_range]
    rw [hl] at ho
    refine ⟨0, _, a', c', by rw [hl], by omega, Rd.of_own ho, own_from ho, hC, hu.mono (fun z hz _ => by simp at hz; simp [hz]), fun q m W h hp hd => ?_⟩
    refine (refClose_any q m room X S R ap cp ps W h hp hm hS hR hd M L hMp hMR hLp hLR).mono ?_
    rintro e w' ⟨a', c', rfl, ho, hC, hu⟩
    rw [hl] at ho
    exact ⟨a', c', by rw [hl], Rd.of_own ho, own_from ho, hC, hu.mono (fun z hz _ => by simp at hz; simp [hz])⟩
theorem waitS_both (room : Nat) (X : List Int) (S R : List Wt) (cl : Bool) (hcl : cl = true → S = [] ∧ R = []) (hS : S.length ≤ 100000) (x : Wt) :
    ∃ (er : Int) (S' : List Wt), (cl = true → S' = [] ∧ R = []) ∧ S'.length ≤ S.length + 1 ∧
      (∀ (p rp c : Nat) (W : World), ChanP W p rp c room X S R cl → Calls Try.prog 10 #[.pointer (some ⟨p, 0, none⟩), .agg #[.int .i64 x.task, .int .i64 x.case_, .int .i64 x.seq, .int .i64 x.v], .bool true] W fun e w' => e = .returned (.int .i64 er) ∧ ChanP w' p rp c room X S' R cl ∧ Upd [p, c] W w') ∧
      (∀ (q m : Nat) (W : World), ChanM W q m room X S R cl → Calls Try.prog 26 #[.pointer (some ⟨q, 0, none⟩), .agg #[.int .i64 x.task, .int .i64 x.case_, .int .i64 x.seq, .int .i64 x.v], .bool true] W fun e w' => e = .returned (.int .i64 er) ∧ ChanM w' q m room X S' R cl ∧ Upd [q, m] W w') := by
  cases hc : canS room X R cl with
  | true =>
    refine ⟨10, S, hcl, by omega, fun p rp c W h => ?_, fun q m W h => ?_⟩
    · refine (chanWaitS_state p rp c room X S R cl x W h hc).mono ?_
      rintro e w' ⟨rfl, hu⟩
      exact ⟨rfl, h.keep0 hu, hu.mono (fun z hz _ => by simp at hz)⟩
    · refine (refWaitS_state q m room X S R cl x W h hc).mono ?_
      rintro e w' ⟨rfl, hu⟩
      exact ⟨rfl, h.keep0 hu, hu.mono (fun z hz _ => by simp at hz)⟩
  | false =>
    have hf : cl = false := by
      cases cl with
      | false => rfl
      | true => simp [canS] at hc
    refine ⟨if has2 S x = true then 6 else 0, if has2 S x = true then S else S ++ [x], (fun h => by rw [hf] at h; cases h), ?_, fun p rp c W h => ?_, fun q m W h => ?_⟩
    rotate_left
    · refine (chanWaitS_any p rp c room X S R cl x W h hc hS).mono ?_
      rintro e w' ⟨rfl, hC, hu⟩
      exact ⟨rfl, hC, hu.mono (fun z hz _ => by simp at hz; simp [hz])⟩
    · refine (refWaitS_any q m room X S R cl x W h hc hS).mono ?_
      rintro e w' ⟨rfl, hC, hu⟩
      exact ⟨rfl, hC, hu.mono (fun z hz _ => by simp at hz; simp [hz])⟩
    · split
      · omega
      · simp
theorem waitR_both (room : Nat) (X : List Int) (S R : List Wt) (cl : Bool) (hcl : cl = true → S = [] ∧ R = []) (hR : R.length ≤ 100000) (x : Wt) :
    ∃ (er : Int) (R' : List Wt), (cl = true → S = [] ∧ R' = []) ∧ R'.length ≤ R.length + 1 ∧
      (∀ (p rp c : Nat) (W : World), ChanP W p rp c room X S R cl → Calls Try.prog 10 #[.pointer (some ⟨p, 0, none⟩), .agg #[.int .i64 x.task, .int .i64 x.case_, .int .i64 x.seq, .int .i64 x.v], .bool false] W fun e w' => e = .returned (.int .i64 er) ∧ ChanP w' p rp c room X S R' cl ∧ Upd [p, c] W w') ∧
      (∀ (q m : Nat) (W : World), ChanM W q m room X S R cl → Calls Try.prog 26 #[.pointer (some ⟨q, 0, none⟩), .agg #[.int .i64 x.task, .int .i64 x.case_, .int .i64 x.seq, .int .i64 x.v], .bool false] W fun e w' => e = .returned (.int .i64 er) ∧ ChanM w' q m room X S R' cl ∧ Upd [q, m] W w') := by
  cases hc : canR X S cl with
  | true =>
    refine ⟨10, R, hcl, by omega, fun p rp c W h => ?_, fun q m W h => ?_⟩
    · refine (chanWaitR_state p rp c room X S R cl x W h hc).mono ?_
      rintro e w' ⟨rfl, hu⟩
      exact ⟨rfl, h.keep0 hu, hu.mono (fun z hz _ => by simp at hz)⟩
    · refine (refWaitR_state q m room X S R cl x W h hc).mono ?_
      rintro e w' ⟨rfl, hu⟩
      exact ⟨rfl, h.keep0 hu, hu.mono (fun z hz _ => by simp at hz)⟩
  | false =>
    have hf : cl = false := by
      cases cl with
      | false => rfl
      | true => simp [canR] at hc
    refine ⟨if has2 R x = true then 6 else 0, if has2 R x = true then R else R ++ [x], (fun h => by rw [hf] at h; cases h), ?_, fun p rp c W h => ?_, fun q m W h => ?_⟩
    rotate_left
    · refine (chanWaitR_any p rp c room X S R cl x W h hc hR).mono ?_
      rintro e w' ⟨rfl, hC, hu⟩
      exact ⟨rfl, hC, hu.mono (fun z hz _ => by simp at hz; simp [hz])⟩
    · refine (refWaitR_any q m room X S R cl x W h hc hR).mono ?_
      rintro e w' ⟨rfl, hC, hu⟩
      exact ⟨rfl, hC, hu.mono (fun z hz _ => by simp at hz; simp [hz])⟩
    · split
      · omega
      · simp
end Go.Proofs.Ythchclhleppdhaa
