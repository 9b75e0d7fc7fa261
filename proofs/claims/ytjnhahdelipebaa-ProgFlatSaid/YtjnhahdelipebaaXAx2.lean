-- PRINTED by print.py (a twelfth state) out of the translation. Not trusted: Lean checks it.
import Derived.Test.YtjnhahdelipebaaOpPA
import Derived.Test.YtjnhahdelipebaaPgWalk
import Derived.Test.YtjnhahdelipebaaXAx0
namespace Go.Proofs.Ytjnhahdelipebaa.XA
open Go.RowKit Go.Proofs.YtjnhahdelipebaaW.PrintWords Go.Proofs.YtjnhahdelipebaaW.PrintLast Go.Proofs.YtjnhahdelipebaaW.PrintMore
attribute [local go_sem] max2_int min2_int max_two min_two max_three min_three max_four min_four   -- for this text's walks alone
set_option linter.unusedVariables false
set_option linter.unusedSimpArgs false

/-! ### op_Check: function 33 -/
set_option maxHeartbeats 4000000 in
set_option maxRecDepth 100000 in
theorem progOp_none (c : Int) (hc : c < 1 ∨ 9 < c) (n v wt : Int) (A : Option Addr) (m cp : Nat) (l : List (S84)) (w : World) :
    Calls Try.prog 33 #[.agg #[.int .i64 c, .int .i64 n, .int .i64 v, .int .i64 wt, .slice A m cp]] w fun e w' => e = .returned (.int .i64 (chkOp c n v wt (l.map tripP))) ∧ Below w.heap.size w w' := by
  have hr : chkOp c n v wt (l.map tripP) = 3 := by unfold chkOp; rw [if_pos hc]
  rw [hr]
  have HC := Lib.hid hc
  clear hr hc
  go_enter Try.func33, Try.ntmps33
  go_wp2
  all_goals
    first
    | (exfalso; have hc := HC.out; omega)
    | (go_ret; exact ⟨rfl, (Below.refl _ _).alloc (Nat.le_refl _) _⟩)
theorem progOp_any (a0_0 : Int) (a0_1 : Int) (a0_2 : Int) (a0_3 : Int) (A0_4 : Option Addr) (c0_4 : Nat) (l0_4 : List (S84)) (w : World) (hr0_4 : Kd.C k84 w A0_4 l0_4.length l0_4) (hc : l0_4.length ≤ c0_4) :
    Calls Try.prog 33 #[.agg #[.int .i64 a0_0, .int .i64 a0_1, .int .i64 a0_2, .int .i64 a0_3, .slice A0_4 l0_4.length c0_4]] w fun e w' => e = .returned (.int .i64 (chkOp a0_0 a0_1 a0_2 a0_3 (l0_4.map tripP))) ∧ Below w.heap.size w w' := by
  by_cases h0 : a0_0 < 1 ∨ 9 < a0_0
  · exact progOp_none a0_0 h0 a0_1 a0_2 a0_3 A0_4 _ c0_4 l0_4 w
  · obtain ⟨c, rfl⟩ : ∃ c : Nat, a0_0 = c := ⟨a0_0.toNat, by omega⟩
    exact progOp_kind c (by omega) (by omega) a0_1 a0_2 a0_3 A0_4 _ c0_4 hc l0_4 rfl w hr0_4
def op_Check.f (a0_0 : Int) (a0_1 : Int) (a0_2 : Int) (a0_3 : Int) (l0_4 : List (S84)) : Option (Int) := some (chkOp a0_0 a0_1 a0_2 a0_3 (l0_4.map tripP))
theorem op_Check.calls (a0_0 : Int) (a0_1 : Int) (a0_2 : Int) (a0_3 : Int) (A0_4 : Option Addr) (c0_4 : Nat) (l0_4 : List (S84)) (r : Int) (w : World) (hr0_4 : Kd.C k84 w A0_4 l0_4.length l0_4) (hc0_4 : l0_4.length ≤ c0_4) (h : op_Check.f a0_0 a0_1 a0_2 a0_3 l0_4 = some r) :
    Calls Try.prog 33 #[.agg #[.int .i64 a0_0, .int .i64 a0_1, .int .i64 a0_2, .int .i64 a0_3, .slice A0_4 l0_4.length c0_4]] w fun e w' => e = .returned (.int .i64 r) ∧ Below w.heap.size w w' := by
  injection h with h
  subst h
  exact progOp_any a0_0 a0_1 a0_2 a0_3 A0_4 c0_4 l0_4 w hr0_4 hc0_4


/-! ### prog_Steps: function 19 -/
open Go.Proofs.YtjnhahdelipebaaH (Upd Rd)
def lastS (ts : List Int) : Int := ts.getD (ts.length - 1) 0
/-- Through all ops, with how often each is done. -/
def eachS (see : S52 → Int → Int → Int) : List S52 → List Int → Int → Int
  | [], _, n => n
  | o :: l, ts, n => if o.f0 = 8 then eachS see l (ts ++ [wrap64 (lastS ts * o.f1)]) n else if o.f0 = 9 then eachS see l (ts.take (max (ts.length - 1) 1)) n else eachS see l ts (see o (lastS ts) n)
theorem tIntS : Go.Proofs.YtjnhahdelipebaaH.ElemT Try.prog 42 3 (.int .i64 0) 1 8 :=
  ⟨Try.underlying42, by
    obtain ⟨i, hi, h⟩ := info_parts (show (Try.prog.info? 3).map (fun i => (i.zero, i.size, i.bytes)) = some (some (.int .i64 0), 1, 8) by kernel_rfl)
    exact ⟨i, hi, h⟩, rfl, by decide⟩
theorem run_uptoS {P : Program} {t e : TypeId} {z : Value} {size bytes : Nat} (T : Go.Proofs.YtjnhahdelipebaaH.ElemT P t e z size bytes) (g n cap u : Nat) (hu : u ≤ cap) {U : Int} (hU : U = (u : Int)) (W : World) :
    (Instr.slice t (.slice (some ⟨g, 0, none⟩) n cap) none (some (.int .i64 U)) none).run P W = .ok (.slice (some ⟨g, 0, none⟩) u cap) W := by
  obtain ⟨i, hi, hz, hsz, hby⟩ := T.info
  subst hU
  simp [Instr.slice, run_underlying T.und, Instr.sliceBounds, run_sliceBound, show (u : Int) ≤ (cap : Int) by omega, sizeOf, run_typeInfo _ hi, hsz, Addr.add]
theorem own_takeS {w : World} {base g cap n u : Nat} {e : TypeId} {ts : List Int} (h : w.ownsRow base e 1 (.slice (some ⟨g, 0, none⟩) n cap) n (ts.map (Value.int .i64))) (hu : u ≤ n) : w.ownsRow base e 1 (.slice (some ⟨g, 0, none⟩) u cap) u ((ts.take u).map (Value.int .i64)) := by
  rcases h.2 with ⟨he, h0⟩ | ⟨g', cap', cur, he, hb, hg, hn, hm, hs, ht⟩
  · injection he with h1; cases h1
  · injection he with h1 h2 h3
    cases h1
    subst h3
    have hl : ts.length = n := by have := h.1; simpa using this
    refine ⟨by simp; omega, .inr ⟨g, cap, cur, rfl, hb, hg, by omega, hm, hs, ?_⟩⟩
    rw [List.map_take, ← ht, List.take_take]
    congr 1
    omega
theorem own_getS {w : World} {base g cap n : Nat} {e : TypeId} {ts : List Int} (h : w.ownsRow base e 1 (.slice (some ⟨g, 0, none⟩) n cap) n (ts.map (Value.int .i64))) {i : Nat} (hi : i < ts.length) : w.cell? ⟨g, i, none⟩ = some (.int .i64 (ts.getD i 0)) := by
  have := h.cells (g := g) rfl i (.int .i64 (ts.getD i 0)) (by simp [List.getD, hi])
  rwa [add_plain] at this
set_option maxHeartbeats 8000000 in
set_option maxRecDepth 100000 in
theorem each_anyS (see : S52 → Int → Int → Int) (T nb : Nat) (A : Option Addr) (c : Nat) (l : List S52) (n0 : Int) (w0 w : World) (hl : Kd.C k52 w0 A l.length l) (hb0 : Below w0.heap.size w0 w) (hnb0 : w0.heap.size ≤ nb) (hc : l.length ≤ c) (hm : l.length ≤ 1000000000)
    (hnb : w.heap[nb]? = some (.cells #[.int .i64 n0] T (0, 0)))
    (hcl : ∀ (o : S52) (B : Option Addr) (d : Nat) (t n : Int) (W : World), Upd [nb] w W → W.heap[nb]? = some (.cells #[.int .i64 n] T (0, 0)) → Calls Try.prog 40 #[.agg #[.int .i64 o.f0, .int .i64 o.f1, .int .i64 o.f2, .int .i64 o.f3, .slice B o.f4.length d], .int .i64 t, .pointer (some ⟨nb, 0, none⟩)] W fun e w' => e = .returned (.tuple #[]) ∧ w'.heap[nb]? = some (.cells #[.int .i64 (see o t n)] T (0, 0)) ∧ Upd [nb] W w') :
    Calls Try.prog 38 #[.slice A l.length c, .func (.func 40) #[] #[.pointer (some ⟨nb, 0, none⟩)]] w fun e w' => e = .returned (.tuple #[]) ∧ w'.heap[nb]? = some (.cells #[.int .i64 (eachS see l [1] n0)] T (0, 0)) ∧ Upd [nb] w w' := by
  obtain ⟨R, hR⟩ : ∃ R, R = eachS see l [1] n0 := ⟨_, rfl⟩
  rw [← hR]
  have HR := Lib.hid hR
  have HCL := Lib.hid hcl
  have HL := Lib.hid hl
  have HNB := Lib.hid hnb
  obtain ⟨N, hN⟩ : ∃ N, N = l.length := ⟨_, rfl⟩
  have HN := Lib.hid hN
  rw [← hN] at hm ⊢
  clear hR hcl hl hnb hN hc
  go_enter Try.func38, Try.ntmps38
  go_wp2
  go_loopw [4, 11] (fun v i wr => ∃ (k g cap : Nat) (ts : List Int) (n : Int), k ≤ N ∧ i = .int .i64 k ∧ v = .slice (some ⟨g, 0, none⟩) ts.length cap ∧ 1 ≤ ts.length ∧ ts.length ≤ k + 1 ∧ wr.ownsRow w.heap.size 3 1 (.slice (some ⟨g, 0, none⟩) ts.length cap) ts.length (ts.map (Value.int .i64)) ∧ wr.heap[nb]? = some (.cells #[.int .i64 n] T (0, 0)) ∧ Upd [nb] w wr ∧ Hid (eachS see (l.drop k) ts n = R)) (fun _ i _ => N - (intOf i).toNat)
  case atStart =>
    refine ⟨0, w.heap.size, 1, [1], n0, Nat.zero_le _, rfl, rfl, by simp, by simp, ?_, ?_, (Upd.refl _ _).alloc _, Lib.hid (by rw [List.drop_zero]; exact HR.out.symm)⟩
    · exact ⟨rfl, .inr ⟨w.heap.size, 1, _, rfl, Nat.le_refl _, heap_alloc_new w _, Nat.le_refl _, by unfold maxLen; omega, rfl, rfl⟩⟩
    · exact ((Upd.refl [] w).alloc _).keep HNB.out (by simp)
  case round =>
    obtain ⟨k, g, cap, ts, n, hk, rfl, rfl, ht1, ht2, hown, hnb, hu, HE⟩ := hrel
    have hbw : Below w0.heap.size w0 wr := hb0.trans (hu.belowB hb0.size (by simpa using hnb0))
    by_cases hlt : k < N
    · have hkl : k < l.length := by rw [← HN.out]; exact hlt
      obtain ⟨ad, A4, c4, rfl, x0, x1, x2, x3, x4, -, -⟩ := at_T52 (Kd.C_below HL.out hbw) k (by omega) (by omega)
      obtain ⟨o, ho⟩ : ∃ o, o = rd_T52 l k := ⟨_, rfl⟩
      rw [← ho] at x0 x1 x2 x3 x4
      simp only [Int.toNat_natCast] at x0 x1 x2 x3 x4
      have hdr : l.drop k = o :: l.drop (k + 1) := by
        rw [List.drop_eq_getElem_cons hkl, ho]
        simp [rd_T52, List.getD, hkl]
      have hE := HE.out
      rw [hdr, eachS] at hE
      have hlast := own_getS hown (i := ts.length - 1) (by omega)
      have hli : ts.getD (ts.length - 1) 0 = lastS ts := rfl
      rw [hli] at hlast
      obtain ⟨m, hm2⟩ : ∃ m, m = ts.length := ⟨_, rfl⟩
      rw [← hm2] at hlast hown ht1 ht2 ⊢
      obtain ⟨q, hq⟩ : ∃ q, q = m - 1 := ⟨_, rfl⟩
      rw [← hq] at hlast
      have hq0 : (0 : Int) ≤ (q : Int) := by omega
      have hq1 : (q : Int) < (m : Int) := by omega
      have hqm : IntKind.i64.wrap ((m : Int) - 1) = (q : Int) := by rw [IntWalk.i64_in _ (by omega)]; omega
      obtain ⟨la, hla⟩ : ∃ la, la = lastS ts := ⟨_, rfl⟩
      rw [← hla] at hlast hE
      have HE2 := Lib.hid hE
      have HLA := Lib.hid hla
      have HM := Lib.hid hm2
      have HQ := Lib.hid hq
      have HO := Lib.hid ho
      have hadl := World.block_lt_of_cell? wr _ x1
      have hbl := World.block_lt_of_cell? wr _ hlast
      clear hE hla hm2 hq hdr hli HE ho
      by_cases h8 : o.f0 = 8
      · have t8 : (o.f0 == 8) = true := beq_iff_eq.2 h8
        have hE2 := HE2.out
        rw [if_pos h8] at hE2
        have HE3 := Lib.hid hE2
        clear HE2 hE2 h8
        have hm1 : m + 1 ≤ maxLen := by unfold maxLen; omega
        have hm3 : (m + 1) * 8 ≤ 140737488355328 := by omega
        have hown2 := Go.Proofs.YtjnhahdelipebaaH.own_keep0 hown ((Upd.refl [] wr).alloc (.cells #[.int .i64 o.f0, .int .i64 o.f1, .int .i64 o.f2, .int .i64 o.f3, .slice A4 o.f4.length c4] 52))
        have hb2 : w.heap.size ≤ (wr.alloc (.cells #[.int .i64 o.f0, .int .i64 o.f1, .int .i64 o.f2, .int .i64 o.f3, .slice A4 o.f4.length c4] 52)).heap.size := by have := hu.size; simp; omega
        go_wp2_with (first
          | (at_builtin; refine Go.Proofs.YtjnhahdelipebaaH.wp_push_at tIntS rfl (.tmp 29) (.tmp 34) rfl hown2 [.int .i64 (wrap64 (la * o.f1))] rfl rfl (World.size_alloc _ _).symm rfl (by intro u hu; simp at hu; subst hu; rfl) hm1 hm3 hb2 ?_; intro g3 c3 w3 hown3 hu3))
        have hgw := (hown.lt g rfl).1
        have hnbw := blk_lt HNB.out
        have HU3 := Lib.hid hu3
        have HOWN3 := Lib.hid hown3
        clear hu3 hown3 hown2
        go_wp2
        go_roundw
        case rel =>
          have hlen : (ts ++ [wrap64 (la * o.f1)]).length = m + 1 := by rw [List.length_append, HM.out]; rfl
          refine ⟨k + 1, g3, c3, ts ++ [wrap64 (la * o.f1)], n, by omega, by go_num, by rw [hlen], by omega, by omega, ?_, ?_, ?_, Lib.hid (by rw [HLA.out] at HE3 ⊢; exact HE3.out)⟩
          · rw [hlen]
            simpa using HOWN3.out
          · exact HU3.out.keep (((Upd.refl [] wr).alloc _).keep hnb (by simp)) (by simp [Value.ownBlock]; omega)
          · exact (hu.alloc _).trans HU3.out (fun x hx hl => by simp [Value.ownBlock] at hx; omega)
        case measure => simp [intOf]; omega
      · have t8 : (o.f0 == 8) = false := beq_eq_false_iff_ne.2 h8
        have hE2 := HE2.out
        rw [if_neg h8] at hE2
        by_cases h9 : o.f0 = 9
        · have t9 : (o.f0 == 9) = true := beq_iff_eq.2 h9
          rw [if_pos h9] at hE2
          have HE3 := Lib.hid hE2
          obtain ⟨u, hu1⟩ : ∃ u, u = max (m - 1) 1 := ⟨_, rfl⟩
          have hum : u ≤ m := by omega
          have hmc : m ≤ cap := by
            obtain ⟨a', c', he, hle⟩ := Go.Proofs.YtjnhahdelipebaaH.own_slice hown
            injection he with _ _ h3
            omega
          have htk := own_takeS hown hum
          have HTK := Lib.hid htk
          have HU1 := Lib.hid hu1
          have hrun := fun W => run_uptoS (P := Try.prog) tIntS g m cap u (by omega) (U := (u : Int)) rfl W
          have hmx : (if (1 : Int) > (q : Int) then (1 : Int) else (q : Int)) = (u : Int) := by have := HQ.out; split <;> omega
          have hmx2 : (if (q : Int) < 1 then (1 : Int) else (q : Int)) = (u : Int) := by have := HQ.out; split <;> omega
          have hmx3 : max (q : Int) 1 = (u : Int) := by have := HQ.out; omega
          clear HE2 hE2 h8 h9 hu1 htk
          go_wp2
          go_roundw
          case rel =>
            have hlen : (ts.take u).length = u := by rw [List.length_take, ← HM.out]; omega
            refine ⟨k + 1, g, cap, ts.take u, n, by omega, by go_num, by rw [hlen], by have := HU1.out; omega, by omega, by rw [hlen]; exact Go.Proofs.YtjnhahdelipebaaH.own_keep0 HTK.out ((Upd.refl [] wr).alloc _), ((Upd.refl [] wr).alloc _).keep hnb (by simp), hu.alloc _, Lib.hid (by rw [HU1.out, HM.out]; exact HE3.out)⟩
          case measure => simp [intOf]; omega
        · have t9 : (o.f0 == 9) = false := beq_eq_false_iff_ne.2 h9
          rw [if_neg h9] at hE2
          have HE3 := Lib.hid hE2
          clear HE2 hE2 h8 h9
          have hnb2 := ((Upd.refl [] wr).alloc (.cells #[.int .i64 o.f0, .int .i64 o.f1, .int .i64 o.f2, .int .i64 o.f3, .slice A4 o.f4.length c4] 52)).keep hnb (by simp)
          have hgw := (hown.lt g rfl).1
          have hnbw := blk_lt HNB.out
          go_wp2_with fail
          refine (HCL.out o A4 c4 la n _ (hu.alloc _) hnb2).mono ?_
          rintro e w1 ⟨rfl, hnb3, hu3⟩
          have HU3 := Lib.hid hu3
          have HNB3 := Lib.hid hnb3
          clear hu3 hnb3
          go_wp2
          go_roundw
          case rel =>
            refine ⟨k + 1, g, cap, ts, _, by omega, by go_num, by rw [HM.out], by have := HM.out; omega, by have := HM.out; omega, ?_, HNB3.out, (hu.alloc _).transS HU3.out, HE3⟩
            rw [← HM.out]
            exact Go.Proofs.YtjnhahdelipebaaH.own_keep (Go.Proofs.YtjnhahdelipebaaH.own_keep0 hown ((Upd.refl [] wr).alloc _)) HU3.out (fun x hx => by simp [Value.ownBlock] at hx; simp; omega)
          case measure => simp [intOf]; omega
    · obtain rfl : k = N := by omega
      have hE := HE.out
      rw [List.drop_of_length_le (by rw [← HN.out]; exact Nat.le_refl _), eachS] at hE
      subst hE
      go_wp2
      first | go_end0 | ((try simp only [Exit.inBlock, Exit.then]); refine bodyPost_ret (results_none rfl _ _ _) rfl ?_)
      exact ⟨rfl, hnb, hu⟩
def stepSee (o : S52) (t n : Int) : Int := wrap64 (n + t)
set_option maxHeartbeats 4000000 in
set_option maxRecDepth 100000 in
theorem steps_closure (nb : Nat) (o : S52) (B : Option Addr) (d : Nat) (t n : Int) (W : World) (hnb : W.heap[nb]? = some (.cells #[.int .i64 n] 3 (0, 0))) :
    Calls Try.prog 40 #[.agg #[.int .i64 o.f0, .int .i64 o.f1, .int .i64 o.f2, .int .i64 o.f3, .slice B o.f4.length d], .int .i64 t, .pointer (some ⟨nb, 0, none⟩)] W fun e w' => e = .returned (.tuple #[]) ∧ w'.heap[nb]? = some (.cells #[.int .i64 (stepSee o t n)] 3 (0, 0)) ∧ Upd [nb] W w' := by
  have hc := (blk_cell hnb 0).trans (show (#[Value.int .i64 n] : Array Value)[0]? = some (.int .i64 n) from rfl)
  have hf := blk_frozen hnb 0
  have hlt := blk_lt hnb
  have HNB1 := Lib.hid hnb
  unfold stepSee
  clear hnb
  go_enter Try.func40, Try.ntmps40
  go_wp2
  first | go_end0 | ((try simp only [Exit.inBlock, Exit.then]); refine bodyPost_ret (results_none rfl _ _ _) rfl ?_)
  exact ⟨rfl, ((Upd.refl [] _).alloc _).keep (by simpa using blk_set HNB1.out 0 (.int .i64 (wrap64 (n + t)))) (by simp), ((Upd.refl [nb] W).setCell _ _ (by simp)).alloc _⟩
def prog_Steps.f (k : Nat) (l0 : List (S52)) : Option (Int) := if l0.length ≤ 1000000000 then some (eachS stepSee l0 [1] 0) else none
theorem prog_Steps.mono : ∀ a0 k, LeO (prog_Steps.f k a0) (prog_Steps.f (k + 1) a0) := fun _ _ => LeO.refl _
set_option maxHeartbeats 4000000 in
set_option maxRecDepth 100000 in
theorem prog_Steps.calls (k : Nat) (A0 : Option Addr) (c0 : Nat) (l0 : List (S52)) (r : Int) (w : World) (hr0 : Kd.C k52 w A0 l0.length l0) (hc0 : l0.length ≤ c0) (h : prog_Steps.f k l0 = some r) :
    Calls Try.prog 19 #[.slice A0 l0.length c0] w fun e w' => e = .returned (.int .i64 r) ∧ Below w.heap.size w w' := by
  unfold prog_Steps.f at h
  split at h
  case isFalse => cases h
  case isTrue hm =>
  injection h with h
  have hB0 : Below w.heap.size w (w.alloc (.cells #[.int .i64 0] 3)) := (Below.refl _ _).alloc (Nat.le_refl _) _
  have hnb0 : (w.alloc (.cells #[.int .i64 0] 3)).heap[w.heap.size]? = some (.cells #[.int .i64 0] 3 (0, 0)) := heap_alloc_new w _
  have heach := each_anyS stepSee 3 w.heap.size A0 c0 l0 0 w _ hr0 hB0 (Nat.le_refl _) hc0 hm hnb0 (fun o B d t n W _ hn => steps_closure w.heap.size o B d t n W hn)
  rw [h] at heach
  have HB0 := Lib.hid hB0
  have HE := Lib.hid heach
  clear h hr0 hc0 hm hnb0 heach hB0
  have hmf : ∀ (fn : Fn) (first cap : Array Value) (w : World), (Instr.makeFunc fn first cap).run Try.prog w = .ok (.func fn first cap) w := fun _ _ _ _ => rfl
  go_enter Try.func19, Try.ntmps19
  go_wp2_with fail
  refine HE.out.mono ?_
  rintro e w1 ⟨rfl, hnb, hu⟩
  have hc := (blk_cell hnb 0).trans (show (#[Value.int .i64 r] : Array Value)[0]? = some (.int .i64 r) from rfl)
  go_wp2
  go_ret
  exact ⟨rfl, HB0.out.trans (hu.belowB HB0.out.size (by simp))⟩


/-! ### prog_Check: function 12 -/
def prog_Check.f (l0 : List (S52)) : Option (Int × Int) := some (chkProgP (l0.map opTP) (eachS stepSee l0 [1] 0))
set_option maxHeartbeats 4000000 in
set_option maxRecDepth 100000 in
theorem prog_Check.calls (A0 : Option Addr) (c0 : Nat) (l0 : List (S52)) (r1 r2 : Int) (w : World) (hr0 : Kd.C k52 w A0 l0.length l0) (hc0 : l0.length ≤ c0) (h : prog_Check.f l0 = some (r1, r2)) :
    Calls Try.prog 12 #[.slice A0 l0.length c0] w fun e w' => e = .returned (.tuple #[.int .i64 r1, .int .i64 r2]) ∧ Below w.heap.size w w' := by
  injection h with h
  unfold chkProgP at h
  rw [List.length_map] at h
  by_cases hm : 48 < l0.length
  · rw [if_pos hm] at h
    cases h
    obtain ⟨N, hN⟩ : ∃ N, N = l0.length := ⟨_, rfl⟩
    rw [← hN] at hm ⊢
    clear hr0 hc0 hN
    go_enter Try.func12, Try.ntmps12
    iterate 3 ((try go_step3); (try go_wp2))
    (try rw [Exit.noGoto_ret])
    go_ret2
    exact ⟨rfl, Below.refl _ _⟩
  · rw [if_neg hm] at h
    refine progCheck_any (fun k n v wt A c l W hC hc => progOp_any k n v wt A c l W hC hc) A0 c0 _ l0 rfl (eachS stepSee l0 [1] 0) r1 r2 w hr0 hc0 (by omega) (fun W hB => ?_) h
    exact prog_Steps.calls 0 A0 c0 l0 _ W (Kd.C_below hr0 hB) hc0 (by unfold prog_Steps.f; rw [if_pos (by omega)])


/-! ### prog_Match: function 15 -/
def prog_Match.l0 : Nat → Int → List Int → List (S52) → Int → Int → Option (Int)
  | 0, _, _, _, _, _ => none
  | k + 1, x1, x5, x9, x10, x11 => if x11 < x10 then (if 0 ≤ x11 then (if x11 < (x9.length : Int) then (if ((rd_T52 x9 x11).f0) = 8 then (if x5.length < 17592186044416 then (prog_Match.l0 k x1 (x5 ++ [x11]) x9 x10 (wrap64 (x11 + 1))) else (none)) else (if ((rd_T52 x9 x11).f0) = 9 then (if (x5.length : Int) = 0 then (prog_Match.l0 k x1 x5 x9 x10 (wrap64 (x11 + 1))) else (if 0 ≤ (wrap64 ((x5.length : Int) - 1)) then (if (wrap64 ((x5.length : Int) - 1)) < (x5.length : Int) then (if (wrap64 ((x5.length : Int) - 1)) ≤ (x5.length : Int) then (if (rd x5 (wrap64 ((x5.length : Int) - 1))) = x1 then (some x11) else (if x11 = x1 then (some (rd x5 (wrap64 ((x5.length : Int) - 1)))) else (prog_Match.l0 k x1 (x5.take ((wrap64 ((x5.length : Int) - 1)) : Int).toNat) x9 x10 (wrap64 (x11 + 1))))) else (none)) else (none)) else (none))) else (prog_Match.l0 k x1 x5 x9 x10 (wrap64 (x11 + 1))))) else (none)) else (none)) else (some (-1))
def prog_Match.f (k : Nat) (l0 : List (S52)) (a1 : Int) : Option (Int) := prog_Match.l0 k a1 ([] : List Int) l0 (l0.length : Int) 0
theorem prog_Match.mono_l : ∀ k, (∀ y0 y1 y2 y3 y4, LeO (prog_Match.l0 k y0 y1 y2 y3 y4) (prog_Match.l0 (k + 1) y0 y1 y2 y3 y4))
  | 0 => fun _ _ _ _ _ r h => by simp [prog_Match.l0] at h
  | k + 1 => by
    have ih0 := prog_Match.mono_l k
    · intro y0 y1 y2 y3 y4
      unfold prog_Match.l0
      repeat' first
      | (with_reducible exact ih0 _ _ _ _ _)
      | (with_reducible exact LeO.refl _)
      | (with_reducible exact LeO.none _)
      | (with_reducible refine LeO.ite ?_ ?_)
      | (with_reducible refine LeO.bind ?_ (fun _ => ?_))
      | exact ih0 _ _ _ _ _
      | exact LeO.none _
      | refine LeO.ite ?_ ?_
      | refine LeO.bind ?_ (fun _ => ?_)
theorem prog_Match.mono : ∀ a0 a1 k, LeO (prog_Match.f k a0 a1) (prog_Match.f (k + 1) a0 a1) := by
  intro a0 a1 k
  have ih0 := prog_Match.mono_l k
  unfold prog_Match.f
  repeat' first
      | (with_reducible exact ih0 _ _ _ _ _)
      | (with_reducible exact LeO.refl _)
      | (with_reducible exact LeO.none _)
      | (with_reducible refine LeO.ite ?_ ?_)
      | (with_reducible refine LeO.bind ?_ (fun _ => ?_))
      | exact ih0 _ _ _ _ _
      | exact LeO.none _
      | refine LeO.ite ?_ ?_
      | refine LeO.bind ?_ (fun _ => ?_)
set_option maxHeartbeats 8000000 in
set_option maxRecDepth 100000 in
theorem prog_Match.calls (k : Nat) (A0 : Option Addr) (c0 : Nat) (l0 : List (S52)) (a1 : Int) (r : Int) (w : World) (hr0 : Kd.C k52 w A0 l0.length l0) (hc0 : l0.length ≤ c0) (h : prog_Match.f k l0 a1 = some r) :
    Calls Try.prog 15 #[.slice A0 l0.length c0, .int .i64 a1] w fun e w' => e = .returned (.int .i64 r) ∧ Below w.heap.size w w' := by
  have hu52 := Try.underlying52
  have HR0 := Aside0.mk hr0
  have HC0 := Aside0.mk hc0
  clear hr0 hc0
  have HB := Aside0.mk (Below.refl w.heap.size w)
  have H : (prog_Match.l0 k a1 ([] : List Int) l0 (l0.length : Int) 0) = some r := h
  clear h
  have H' := Aside0.mk H
  clear H
  go_enter Try.func15, Try.ntmps15
  go_wp2
  go_loopg [5, 11] k (fun kq v5 v11 w' => ∃ (x5_1 : List Int) (x11_1 : Int), v11 = .int .i64 x11_1 ∧ Aside0 (prog_Match.l0 kq a1 x5_1 l0 (l0.length : Int) x11_1 = some r) ∧ Aside0 (kq ≤ k) ∧ Aside0 (Kd.R (Kd.int .i64) 3 w' w.heap.size (fun _ => True) v5 x5_1) ∧ Aside0 (Below w.heap.size w w'))
  case atStart => exact ⟨(([] : List Int)), (0), (by first | rfl | (simp; done) | (simp [*]; done) | (simp [Int.tdiv_eq_ediv_of_nonneg]; done)), H', ⟨Nat.le_refl _⟩, ⟨by first | exact Kd.R_nil _ _ _ _ _ | exact Kd.N_nil _ _ _ _ _ | exact Kd.V_nil _ _ _ _ _ | exact Kd.Q_nil _ _ _ _ _ | exact Kd.S_nil _ _ _ _ _⟩, ⟨by repeat (first | (with_reducible first | exact HB.out | apply below_alloc | apply pw_below_drewN | apply below_drew1) | exact HB.out)⟩⟩
  case round =>
    clear H'
    try clear c1
    try clear p2
    obtain ⟨x5_1, x11_1, rfl, HA, HK1, HO_5, HB⟩ := hrel
    cases gk with
    | zero => exact absurd HA.out (by simp [prog_Match.l0])
    | succ k1 =>
      have H := HA.out
      clear HA
      simp only [prog_Match.l0] at H
      by_cases c3 : x11_1 < (l0.length : Int)
      · rw [if_pos c3] at H
        have c3b0 : decide (x11_1 < (l0.length : Int)) = true := decide_eq_true c3
        clear c3
        by_cases c4 : 0 ≤ x11_1
        · rw [if_pos c4] at H
          have c4b0 : decide (0 ≤ x11_1) = true := decide_eq_true c4
          clear c4
          by_cases c5 : x11_1 < (l0.length : Int)
          · rw [if_pos c5] at H
            have c5b0 : decide (x11_1 < (l0.length : Int)) = true := decide_eq_true c5
            clear c5
            by_cases c6 : ((rd_T52 l0 x11_1).f0) = 8
            · rw [if_pos c6] at H
              have c6b0 : (((rd_T52 l0 x11_1).f0) == 8) = true := beq_iff_eq.mpr c6
              have c6b1 : (((rd_T52 l0 x11_1).f0) != 8) = false := bne_eq_false_iff_eq.mpr c6
              clear c6
              by_cases c7 : x5_1.length < 17592186044416
              · rw [if_pos c7] at H
                have LMc7 := Aside0.mk c7
                clear c7
                obtain ⟨y103, hy103⟩ : ∃ y_ : List Int, y_ = (x5_1 ++ [x11_1]) := ⟨_, rfl⟩
                replace H : (prog_Match.l0 k1 a1 y103 l0 (l0.length : Int) (wrap64 (x11_1 + 1))) = some r := by first | (rw [hy103]; with_reducible exact H) | (have H2_ := (Option.bind_some _ _).symm.trans H; rw [hy103]; with_reducible exact H2_) | (have H2_ := (Option.bind_some _ _).symm.trans H; with_reducible exact H2_) | with_reducible exact H | (rw [hy103]; exact H) | exact H
                have Ny103 := Aside0.mk hy103
                clear hy103
                have H' := Aside0.mk H
                clear H
                have p101 : 0 ≤ (x11_1 : Int) := of_decide_eq_true (by first | (with_reducible assumption) | assumption)
                have q101 : x11_1 < (l0.length : Int) := of_decide_eq_true (by first | (with_reducible assumption) | assumption)
                obtain ⟨ad101, A101_4, c101_4, e101, hx101_0, hx101_1, hx101_2, hx101_3, hx101_4, hl101_4, hi101_4⟩ := at_T52 HR0.out x11_1 p101 q101
                cases e101
                replace hx101_0 := (HB.out.cell (World.block_lt_of_cell? w _ hx101_0)).trans hx101_0
                replace hx101_1 := (HB.out.cell (World.block_lt_of_cell? w _ hx101_1)).trans hx101_1
                replace hx101_2 := (HB.out.cell (World.block_lt_of_cell? w _ hx101_2)).trans hx101_2
                replace hx101_3 := (HB.out.cell (World.block_lt_of_cell? w _ hx101_3)).trans hx101_3
                replace hx101_4 := (HB.out.cell (World.block_lt_of_cell? w _ hx101_4)).trans hx101_4
                have HR101_4 := Aside0.mk hi101_4
                have HC101_4 := Aside0.mk hl101_4
                clear hi101_4 hl101_4
                replace p101 := eq_true p101
                replace q101 := eq_true q101
                go_wp2_with (first | ((with_reducible refine gate_dst (N := 7) rfl ?_); refine box_event ?hg (N := 7) ?hd (cs := #[.int .i64 0, .int .i64 0, .int .i64 0, .int .i64 0, .slice none 0 0]) (t := 52) ?hr ?_; (case hd => rfl); (case hg => rfl); (case hr => first | (go_simp; done) | (go_simp; rfl)); intro gb102 hg w8 hbox hb; have n0_ := Aside0.mk (Kd.R_below (by (with_reducible repeat (first | apply Kd.R_alloc | apply Kd.R_drewN | apply Kd.R_drew)); exact HO_5.out) hb); have n1_ := Aside0.mk (below_step (by repeat (first | (with_reducible first | exact HB.out | apply below_alloc | apply pw_below_drewN | apply below_drew1) | exact HB.out)) hb); have n2_ := Aside0.mk (hbox); have n3_ := Aside0.mk ((by rw [hg]; exact (below_size (by repeat (first | (with_reducible first | exact HB.out | apply below_alloc | apply pw_below_drewN | apply below_drew1) | exact HB.out))) : w.heap.size ≤ gb102)); have n4_ := Aside0.mk ((by rw [hg]; exact (below_size (by repeat (first | (with_reducible first | exact HB.out | apply below_alloc | apply pw_below_drewN | apply below_drew1) | exact HB.out))) : w.heap.size ≤ gb102)); clear HO_5; clear HB; have HO_5 := n0_; have HB := n1_; have BK102 := n2_; have GW102 := n3_; have GE102 := n4_; clear n0_ n1_ n2_ n3_ n4_; clear hb hbox hg; have hcz9_0 : w8.cell? ⟨gb102, 0, none⟩ = some (.int .i64 0) := (blk_cell BK102.out 0).trans rfl; have hcz9_1 : w8.cell? ⟨gb102, 1, none⟩ = some (.int .i64 0) := (blk_cell BK102.out 1).trans rfl; have hcz9_2 : w8.cell? ⟨gb102, 2, none⟩ = some (.int .i64 0) := (blk_cell BK102.out 2).trans rfl; have hcz9_3 : w8.cell? ⟨gb102, 3, none⟩ = some (.int .i64 0) := (blk_cell BK102.out 3).trans rfl; have hcz9_4 : w8.cell? ⟨gb102, 4, none⟩ = some (.slice none 0 0) := (blk_cell BK102.out 4).trans rfl; have hfz9_0 := blk_frozen BK102.out 0; have hfz9_1 := blk_frozen BK102.out 1; have hfz9_2 := blk_frozen BK102.out 2; have hfz9_3 := blk_frozen BK102.out 3; have hfz9_4 := blk_frozen BK102.out 4) | ((with_reducible refine gate_builtin (b := .append) (xs := #[.tmp 20, .tmp 22]) rfl ?_); at_builtin; refine Kd.R_append (Kd.int .i64) (w0 := w) w.heap.size rfl (.tmp 20) (.tmp 22) 42 3 (.int .i64 0) 8 rfl Try.underlying42 info3 rfl (by decide) (by omega) u5 x5_1 x11_1 [.int .i64 x11_1] (fun _ => True) (fun _ => False) rfl (by first | (go_simp; done) | (go_simp; rfl)) ?aP (fun _ hk => hk.elim) ?aF ?aO ?aB ?aS ?aL ?_; (case aP => exact rfl); (case aB => exact (by repeat (first | (with_reducible first | exact HB.out | apply below_alloc | apply pw_below_drewN | apply below_drew1 | refine below_set ?_ GE102.out) | exact HB.out))); (case aF => exact (fun _ _ => trivial)); (case aO => exact (by (with_reducible repeat (first | apply Kd.R_alloc | apply Kd.R_drewN | apply Kd.R_drew)); exact Kd.R_mono (Kd.R_far (p := ⟨gb102, 4, none⟩) (Kd.R_far (p := ⟨gb102, 3, none⟩) (Kd.R_far (p := ⟨gb102, 2, none⟩) (Kd.R_far (p := ⟨gb102, 1, none⟩) (Kd.R_far (p := ⟨gb102, 0, none⟩) (Kd.R_types HO_5.out BK102.out (by decide)) (fun _ hk => hk.2) (.int .i64 ((rd_T52 l0 x11_1).f0))) (fun _ hk => hk.2) (.int .i64 ((rd_T52 l0 x11_1).f1))) (fun _ hk => hk.2) (.int .i64 ((rd_T52 l0 x11_1).f2))) (fun _ hk => hk.2) (.int .i64 ((rd_T52 l0 x11_1).f3))) (fun _ hk => hk.2) (.slice A101_4 ((rd_T52 l0 x11_1).f4).length c101_4)) (fun _ hk => trivial))); (case aS => exact (below_size (by repeat (first | (with_reducible first | exact HB.out | apply below_alloc | apply pw_below_drewN | apply below_drew1 | refine below_set ?_ GE102.out) | exact HB.out)))); (case aL => have := LMc7.out; omega); intro v104 w10 ho hb hg hat; rw [← Ny103.out] at ho; have n0_ := Aside0.mk (blk_grown (g := gb102) (o := .cells #[.int .i64 ((rd_T52 l0 x11_1).f0), .int .i64 ((rd_T52 l0 x11_1).f1), .int .i64 ((rd_T52 l0 x11_1).f2), .int .i64 ((rd_T52 l0 x11_1).f3), .slice A101_4 ((rd_T52 l0 x11_1).f4).length c101_4] 52 (0, 0)) (by (with_reducible repeat (first | refine blk_drewN ?_ _ | refine blk_drew ?_ | refine blk_alloc ?_ _)); refine blk_put (cs := #[.int .i64 ((rd_T52 l0 x11_1).f0), .int .i64 ((rd_T52 l0 x11_1).f1), .int .i64 ((rd_T52 l0 x11_1).f2), .int .i64 ((rd_T52 l0 x11_1).f3), .slice none 0 0]) ?_ 4 _ rfl; (with_reducible repeat (first | refine blk_drewN ?_ _ | refine blk_drew ?_ | refine blk_alloc ?_ _)); refine blk_put (cs := #[.int .i64 ((rd_T52 l0 x11_1).f0), .int .i64 ((rd_T52 l0 x11_1).f1), .int .i64 ((rd_T52 l0 x11_1).f2), .int .i64 0, .slice none 0 0]) ?_ 3 _ rfl; (with_reducible repeat (first | refine blk_drewN ?_ _ | refine blk_drew ?_ | refine blk_alloc ?_ _)); refine blk_put (cs := #[.int .i64 ((rd_T52 l0 x11_1).f0), .int .i64 ((rd_T52 l0 x11_1).f1), .int .i64 0, .int .i64 0, .slice none 0 0]) ?_ 2 _ rfl; (with_reducible repeat (first | refine blk_drewN ?_ _ | refine blk_drew ?_ | refine blk_alloc ?_ _)); refine blk_put (cs := #[.int .i64 ((rd_T52 l0 x11_1).f0), .int .i64 0, .int .i64 0, .int .i64 0, .slice none 0 0]) ?_ 1 _ rfl; (with_reducible repeat (first | refine blk_drewN ?_ _ | refine blk_drew ?_ | refine blk_alloc ?_ _)); refine blk_put (cs := #[.int .i64 0, .int .i64 0, .int .i64 0, .int .i64 0, .slice none 0 0]) ?_ 0 _ rfl; (with_reducible repeat (first | refine blk_drewN ?_ _ | refine blk_drew ?_ | refine blk_alloc ?_ _)); exact BK102.out) hg (Kd.R_ne HO_5.out BK102.out (by decide))); have n1_ := Aside0.mk (hb); have n2_ := Aside0.mk (ho); clear BK102; clear HB; clear HO_5; have BK102 := n0_; have HB := n1_; have HO105 := n2_; clear n0_ n1_ n2_; clear ho hb hg hat))
                go_roundg k1
                case measure => have := HK1.out; omega
                case rel => exact ⟨(y103), (wrap64 (x11_1 + 1)), (by first | rfl | (simp; done) | (simp [*]; done) | (simp [Int.tdiv_eq_ediv_of_nonneg]; done)), H', ⟨by have := HK1.out; omega⟩, ⟨by (with_reducible repeat (first | apply Kd.R_alloc | apply Kd.R_drewN | apply Kd.R_drew)); exact HO105.out⟩, ⟨by repeat (first | (with_reducible first | exact HB.out | apply below_alloc | apply pw_below_drewN | apply below_drew1 | refine below_set ?_ GE102.out) | exact HB.out)⟩⟩
              · rw [if_neg c7] at H
                exact absurd H (by simp)
            · rw [if_neg c6] at H
              have c6b0 : (((rd_T52 l0 x11_1).f0) == 8) = false := beq_eq_false_iff_ne.mpr c6
              have c6b1 : (((rd_T52 l0 x11_1).f0) != 8) = true := bne_iff_ne.mpr c6
              by_cases c11 : ((rd_T52 l0 x11_1).f0) = 9
              · rw [if_pos c11] at H
                have c11b0 : (((rd_T52 l0 x11_1).f0) == 9) = true := beq_iff_eq.mpr c11
                have c11b1 : (((rd_T52 l0 x11_1).f0) != 9) = false := bne_eq_false_iff_eq.mpr c11
                clear c11
                by_cases c12 : (x5_1.length : Int) = 0
                · rw [if_pos c12] at H
                  have c12b0 : ((x5_1.length : Int) == 0) = true := beq_iff_eq.mpr c12
                  have c12b1 : ((x5_1.length : Int) != 0) = false := bne_eq_false_iff_eq.mpr c12
                  clear c12
                  have H' := Aside0.mk H
                  clear H
                  have p101 : 0 ≤ (x11_1 : Int) := of_decide_eq_true (by first | (with_reducible assumption) | assumption)
                  have q101 : x11_1 < (l0.length : Int) := of_decide_eq_true (by first | (with_reducible assumption) | assumption)
                  obtain ⟨ad101, A101_4, c101_4, e101, hx101_0, hx101_1, hx101_2, hx101_3, hx101_4, hl101_4, hi101_4⟩ := at_T52 HR0.out x11_1 p101 q101
                  cases e101
                  replace hx101_0 := (HB.out.cell (World.block_lt_of_cell? w _ hx101_0)).trans hx101_0
                  replace hx101_1 := (HB.out.cell (World.block_lt_of_cell? w _ hx101_1)).trans hx101_1
                  replace hx101_2 := (HB.out.cell (World.block_lt_of_cell? w _ hx101_2)).trans hx101_2
                  replace hx101_3 := (HB.out.cell (World.block_lt_of_cell? w _ hx101_3)).trans hx101_3
                  replace hx101_4 := (HB.out.cell (World.block_lt_of_cell? w _ hx101_4)).trans hx101_4
                  have HR101_4 := Aside0.mk hi101_4
                  have HC101_4 := Aside0.mk hl101_4
                  clear hi101_4 hl101_4
                  replace p101 := eq_true p101
                  replace q101 := eq_true q101
                  go_wp2_with (first | ((with_reducible refine gate_dst (N := 7) rfl ?_); refine box_event ?hg (N := 7) ?hd (cs := #[.int .i64 0, .int .i64 0, .int .i64 0, .int .i64 0, .slice none 0 0]) (t := 52) ?hr ?_; (case hd => rfl); (case hg => rfl); (case hr => first | (go_simp; done) | (go_simp; rfl)); intro gb102 hg w13 hbox hb; have n0_ := Aside0.mk (Kd.R_below (by (with_reducible repeat (first | apply Kd.R_alloc | apply Kd.R_drewN | apply Kd.R_drew)); exact HO_5.out) hb); have n1_ := Aside0.mk (below_step (by repeat (first | (with_reducible first | exact HB.out | apply below_alloc | apply pw_below_drewN | apply below_drew1) | exact HB.out)) hb); have n2_ := Aside0.mk (hbox); have n3_ := Aside0.mk ((by rw [hg]; exact (below_size (by repeat (first | (with_reducible first | exact HB.out | apply below_alloc | apply pw_below_drewN | apply below_drew1) | exact HB.out))) : w.heap.size ≤ gb102)); have n4_ := Aside0.mk ((by rw [hg]; exact (below_size (by repeat (first | (with_reducible first | exact HB.out | apply below_alloc | apply pw_below_drewN | apply below_drew1) | exact HB.out))) : w.heap.size ≤ gb102)); clear HO_5; clear HB; have HO_5 := n0_; have HB := n1_; have BK102 := n2_; have GW102 := n3_; have GE102 := n4_; clear n0_ n1_ n2_ n3_ n4_; clear hb hbox hg; have hcz14_0 : w13.cell? ⟨gb102, 0, none⟩ = some (.int .i64 0) := (blk_cell BK102.out 0).trans rfl; have hcz14_1 : w13.cell? ⟨gb102, 1, none⟩ = some (.int .i64 0) := (blk_cell BK102.out 1).trans rfl; have hcz14_2 : w13.cell? ⟨gb102, 2, none⟩ = some (.int .i64 0) := (blk_cell BK102.out 2).trans rfl; have hcz14_3 : w13.cell? ⟨gb102, 3, none⟩ = some (.int .i64 0) := (blk_cell BK102.out 3).trans rfl; have hcz14_4 : w13.cell? ⟨gb102, 4, none⟩ = some (.slice none 0 0) := (blk_cell BK102.out 4).trans rfl; have hfz14_0 := blk_frozen BK102.out 0; have hfz14_1 := blk_frozen BK102.out 1; have hfz14_2 := blk_frozen BK102.out 2; have hfz14_3 := blk_frozen BK102.out 3; have hfz14_4 := blk_frozen BK102.out 4; obtain ⟨Ao15, co15, eo15⟩ := Kd.R_slice HO_5.out; subst eo15))
                  go_roundg k1
                  case measure => have := HK1.out; omega
                  case rel => exact ⟨(x5_1), (wrap64 (x11_1 + 1)), (by first | rfl | (simp; done) | (simp [*]; done) | (simp [Int.tdiv_eq_ediv_of_nonneg]; done)), H', ⟨by have := HK1.out; omega⟩, ⟨by (with_reducible repeat (first | apply Kd.R_alloc | apply Kd.R_drewN | apply Kd.R_drew)); exact Kd.R_mono (Kd.R_far (p := ⟨gb102, 4, none⟩) (Kd.R_far (p := ⟨gb102, 3, none⟩) (Kd.R_far (p := ⟨gb102, 2, none⟩) (Kd.R_far (p := ⟨gb102, 1, none⟩) (Kd.R_far (p := ⟨gb102, 0, none⟩) (Kd.R_types HO_5.out BK102.out (by decide)) (fun _ hk => hk.2) (.int .i64 ((rd_T52 l0 x11_1).f0))) (fun _ hk => hk.2) (.int .i64 ((rd_T52 l0 x11_1).f1))) (fun _ hk => hk.2) (.int .i64 ((rd_T52 l0 x11_1).f2))) (fun _ hk => hk.2) (.int .i64 ((rd_T52 l0 x11_1).f3))) (fun _ hk => hk.2) (.slice A101_4 ((rd_T52 l0 x11_1).f4).length c101_4)) (fun _ hk => trivial)⟩, ⟨by repeat (first | (with_reducible first | exact HB.out | apply below_alloc | apply pw_below_drewN | apply below_drew1 | refine below_set ?_ GE102.out) | exact HB.out)⟩⟩
                · rw [if_neg c12] at H
                  have c12b0 : ((x5_1.length : Int) == 0) = false := beq_eq_false_iff_ne.mpr c12
                  have c12b1 : ((x5_1.length : Int) != 0) = true := bne_iff_ne.mpr c12
                  have c12b2 : ¬ (x5_1 = []) := fun h_ => c12 (by rw [h_]; rfl)
                  obtain ⟨ji16, hji16⟩ : ∃ j_ : Int, (wrap64 ((x5_1.length : Int) - 1)) = j_ := ⟨_, rfl⟩
                  replace H : (if 0 ≤ (ji16) then (if (ji16) < (x5_1.length : Int) then (if (ji16) ≤ (x5_1.length : Int) then (if (rd x5_1 (ji16)) = a1 then (some x11_1) else (if x11_1 = a1 then (some (rd x5_1 (ji16))) else (prog_Match.l0 k1 a1 (x5_1.take ((ji16) : Int).toNat) l0 (l0.length : Int) (wrap64 (x11_1 + 1))))) else (none)) else (none)) else (none)) = some r := by first | (rw [hji16] at H; exact H) | (simp only [hji16] at H ⊢; exact H)
                  have hji16w : (IntKind.i64.wrap ((x5_1.length : Int) - 1)) = ji16 := (i64_w _).trans hji16
                  by_cases c17 : 0 ≤ (ji16)
                  · rw [if_pos c17] at H
                    have c17b0 : decide (0 ≤ (ji16)) = true := decide_eq_true c17
                    clear c17
                    by_cases c18 : (ji16) < (x5_1.length : Int)
                    · rw [if_pos c18] at H
                      have c18b0 : decide ((ji16) < (x5_1.length : Int)) = true := decide_eq_true c18
                      clear c18
                      by_cases c19 : (ji16) ≤ (x5_1.length : Int)
                      · rw [if_pos c19] at H
                        have c19b0 := eq_true c19
                        have c19b1 : decide ((ji16) ≤ (x5_1.length : Int)) = true := decide_eq_true c19
                        clear c19
                        obtain ⟨y107, hy107⟩ : ∃ y_ : List Int, y_ = (x5_1.take ((ji16) : Int).toNat) := ⟨_, rfl⟩
                        replace H : (if (rd x5_1 (ji16)) = a1 then (some x11_1) else (if x11_1 = a1 then (some (rd x5_1 (ji16))) else (prog_Match.l0 k1 a1 y107 l0 (l0.length : Int) (wrap64 (x11_1 + 1))))) = some r := by first | (rw [hy107]; with_reducible exact H) | (have H2_ := (Option.bind_some _ _).symm.trans H; rw [hy107]; with_reducible exact H2_) | (have H2_ := (Option.bind_some _ _).symm.trans H; with_reducible exact H2_) | with_reducible exact H | (rw [hy107]; exact H) | exact H
                        have Ny107 := Aside0.mk hy107
                        clear hy107
                        by_cases c20 : (rd x5_1 (ji16)) = a1
                        · rw [if_pos c20] at H
                          have c20b0 : ((rd x5_1 (ji16)) == a1) = true := beq_iff_eq.mpr c20
                          have c20b1 : ((rd x5_1 (ji16)) != a1) = false := bne_eq_false_iff_eq.mpr c20
                          clear c20
                          obtain rfl := Option.some.inj H
                          have p101 : 0 ≤ (x11_1 : Int) := of_decide_eq_true (by first | (with_reducible assumption) | assumption)
                          have q101 : x11_1 < (l0.length : Int) := of_decide_eq_true (by first | (with_reducible assumption) | assumption)
                          obtain ⟨ad101, A101_4, c101_4, e101, hx101_0, hx101_1, hx101_2, hx101_3, hx101_4, hl101_4, hi101_4⟩ := at_T52 HR0.out x11_1 p101 q101
                          cases e101
                          replace hx101_0 := (HB.out.cell (World.block_lt_of_cell? w _ hx101_0)).trans hx101_0
                          replace hx101_1 := (HB.out.cell (World.block_lt_of_cell? w _ hx101_1)).trans hx101_1
                          replace hx101_2 := (HB.out.cell (World.block_lt_of_cell? w _ hx101_2)).trans hx101_2
                          replace hx101_3 := (HB.out.cell (World.block_lt_of_cell? w _ hx101_3)).trans hx101_3
                          replace hx101_4 := (HB.out.cell (World.block_lt_of_cell? w _ hx101_4)).trans hx101_4
                          have HR101_4 := Aside0.mk hi101_4
                          have HC101_4 := Aside0.mk hl101_4
                          clear hi101_4 hl101_4
                          replace p101 := eq_true p101
                          replace q101 := eq_true q101
                          go_wp2_with (first | ((with_reducible refine gate_dst (N := 7) rfl ?_); refine box_event ?hg (N := 7) ?hd (cs := #[.int .i64 0, .int .i64 0, .int .i64 0, .int .i64 0, .slice none 0 0]) (t := 52) ?hr ?_; (case hd => rfl); (case hg => rfl); (case hr => first | (go_simp; done) | (go_simp; rfl)); intro gb102 hg w21 hbox hb; have n0_ := Aside0.mk (Kd.R_below (by (with_reducible repeat (first | apply Kd.R_alloc | apply Kd.R_drewN | apply Kd.R_drew)); exact HO_5.out) hb); have n1_ := Aside0.mk (below_step (by repeat (first | (with_reducible first | exact HB.out | apply below_alloc | apply pw_below_drewN | apply below_drew1) | exact HB.out)) hb); have n2_ := Aside0.mk (hbox); have n3_ := Aside0.mk ((by rw [hg]; exact (below_size (by repeat (first | (with_reducible first | exact HB.out | apply below_alloc | apply pw_below_drewN | apply below_drew1) | exact HB.out))) : w.heap.size ≤ gb102)); have n4_ := Aside0.mk ((by rw [hg]; exact (below_size (by repeat (first | (with_reducible first | exact HB.out | apply below_alloc | apply pw_below_drewN | apply below_drew1) | exact HB.out))) : w.heap.size ≤ gb102)); clear HO_5; clear HB; have HO_5 := n0_; have HB := n1_; have BK102 := n2_; have GW102 := n3_; have GE102 := n4_; clear n0_ n1_ n2_ n3_ n4_; clear hb hbox hg; have hcz22_0 : w21.cell? ⟨gb102, 0, none⟩ = some (.int .i64 0) := (blk_cell BK102.out 0).trans rfl; have hcz22_1 : w21.cell? ⟨gb102, 1, none⟩ = some (.int .i64 0) := (blk_cell BK102.out 1).trans rfl; have hcz22_2 : w21.cell? ⟨gb102, 2, none⟩ = some (.int .i64 0) := (blk_cell BK102.out 2).trans rfl; have hcz22_3 : w21.cell? ⟨gb102, 3, none⟩ = some (.int .i64 0) := (blk_cell BK102.out 3).trans rfl; have hcz22_4 : w21.cell? ⟨gb102, 4, none⟩ = some (.slice none 0 0) := (blk_cell BK102.out 4).trans rfl; have hfz22_0 := blk_frozen BK102.out 0; have hfz22_1 := blk_frozen BK102.out 1; have hfz22_2 := blk_frozen BK102.out 2; have hfz22_3 := blk_frozen BK102.out 3; have hfz22_4 := blk_frozen BK102.out 4) | ((with_reducible refine gate_store (t := 52) (p := 7) rfl ?_); refine store_event (t := 52) (p := 7) (v := ?vo_w23) (w1 := (((((w21.setCell ⟨gb102, 0, none⟩ (.int .i64 ((rd_T52 l0 x11_1).f0))).setCell ⟨gb102, 1, none⟩ (.int .i64 ((rd_T52 l0 x11_1).f1))).setCell ⟨gb102, 2, none⟩ (.int .i64 ((rd_T52 l0 x11_1).f2))).setCell ⟨gb102, 3, none⟩ (.int .i64 ((rd_T52 l0 x11_1).f3))).setCell ⟨gb102, 4, none⟩ (.slice A101_4 ((rd_T52 l0 x11_1).f4).length c101_4))) ?hg ?ho ?hn ?hr ?_; (case ho => rfl); (case hg => rfl); (case hn => rfl); (case hr => first | (go_simp; done) | (go_simp; rfl)); intro w23 hw; have n0_ : Aside0 (Kd.R (Kd.int .i64) 3 w23 w.heap.size (fun _ => True) u5 x5_1) := ⟨(by rw [hw]; exact (by (with_reducible repeat (first | apply Kd.R_alloc | apply Kd.R_drewN | apply Kd.R_drew)); exact Kd.R_mono (Kd.R_far (p := ⟨gb102, 4, none⟩) (Kd.R_far (p := ⟨gb102, 3, none⟩) (Kd.R_far (p := ⟨gb102, 2, none⟩) (Kd.R_far (p := ⟨gb102, 1, none⟩) (Kd.R_far (p := ⟨gb102, 0, none⟩) (Kd.R_types HO_5.out BK102.out (by decide)) (fun _ hk => hk.2) (.int .i64 ((rd_T52 l0 x11_1).f0))) (fun _ hk => hk.2) (.int .i64 ((rd_T52 l0 x11_1).f1))) (fun _ hk => hk.2) (.int .i64 ((rd_T52 l0 x11_1).f2))) (fun _ hk => hk.2) (.int .i64 ((rd_T52 l0 x11_1).f3))) (fun _ hk => hk.2) (.slice A101_4 ((rd_T52 l0 x11_1).f4).length c101_4)) (fun _ hk => trivial)))⟩; have n1_ : Aside0 (w23.heap[gb102]? = some (.cells #[.int .i64 ((rd_T52 l0 x11_1).f0), .int .i64 ((rd_T52 l0 x11_1).f1), .int .i64 ((rd_T52 l0 x11_1).f2), .int .i64 ((rd_T52 l0 x11_1).f3), .slice A101_4 ((rd_T52 l0 x11_1).f4).length c101_4] 52 (0, 0))) := ⟨(by rw [hw]; exact (by (with_reducible repeat (first | refine blk_drewN ?_ _ | refine blk_drew ?_ | refine blk_alloc ?_ _)); refine blk_put (cs := #[.int .i64 ((rd_T52 l0 x11_1).f0), .int .i64 ((rd_T52 l0 x11_1).f1), .int .i64 ((rd_T52 l0 x11_1).f2), .int .i64 ((rd_T52 l0 x11_1).f3), .slice none 0 0]) ?_ 4 _ rfl; (with_reducible repeat (first | refine blk_drewN ?_ _ | refine blk_drew ?_ | refine blk_alloc ?_ _)); refine blk_put (cs := #[.int .i64 ((rd_T52 l0 x11_1).f0), .int .i64 ((rd_T52 l0 x11_1).f1), .int .i64 ((rd_T52 l0 x11_1).f2), .int .i64 0, .slice none 0 0]) ?_ 3 _ rfl; (with_reducible repeat (first | refine blk_drewN ?_ _ | refine blk_drew ?_ | refine blk_alloc ?_ _)); refine blk_put (cs := #[.int .i64 ((rd_T52 l0 x11_1).f0), .int .i64 ((rd_T52 l0 x11_1).f1), .int .i64 0, .int .i64 0, .slice none 0 0]) ?_ 2 _ rfl; (with_reducible repeat (first | refine blk_drewN ?_ _ | refine blk_drew ?_ | refine blk_alloc ?_ _)); refine blk_put (cs := #[.int .i64 ((rd_T52 l0 x11_1).f0), .int .i64 0, .int .i64 0, .int .i64 0, .slice none 0 0]) ?_ 1 _ rfl; (with_reducible repeat (first | refine blk_drewN ?_ _ | refine blk_drew ?_ | refine blk_alloc ?_ _)); refine blk_put (cs := #[.int .i64 0, .int .i64 0, .int .i64 0, .int .i64 0, .slice none 0 0]) ?_ 0 _ rfl; (with_reducible repeat (first | refine blk_drewN ?_ _ | refine blk_drew ?_ | refine blk_alloc ?_ _)); exact BK102.out))⟩; have n2_ : Aside0 (Below w.heap.size w w23) := ⟨(by rw [hw]; exact (by repeat (first | (with_reducible first | exact HB.out | apply below_alloc | apply pw_below_drewN | apply below_drew1 | refine below_set ?_ GE102.out) | exact HB.out)))⟩; clear hw; clear HO_5; clear BK102; clear HB; have HO_5 := n0_; have BK102 := n1_; have HB := n2_; clear n0_ n1_ n2_; have hcz24_0 : w23.cell? ⟨gb102, 0, none⟩ = some (.int .i64 ((rd_T52 l0 x11_1).f0)) := (blk_cell BK102.out 0).trans rfl; have hcz24_1 : w23.cell? ⟨gb102, 1, none⟩ = some (.int .i64 ((rd_T52 l0 x11_1).f1)) := (blk_cell BK102.out 1).trans rfl; have hcz24_2 : w23.cell? ⟨gb102, 2, none⟩ = some (.int .i64 ((rd_T52 l0 x11_1).f2)) := (blk_cell BK102.out 2).trans rfl; have hcz24_3 : w23.cell? ⟨gb102, 3, none⟩ = some (.int .i64 ((rd_T52 l0 x11_1).f3)) := (blk_cell BK102.out 3).trans rfl; have hcz24_4 : w23.cell? ⟨gb102, 4, none⟩ = some (.slice A101_4 ((rd_T52 l0 x11_1).f4).length c101_4) := (blk_cell BK102.out 4).trans rfl; have hfz24_0 := blk_frozen BK102.out 0; have hfz24_1 := blk_frozen BK102.out 1; have hfz24_2 := blk_frozen BK102.out 2; have hfz24_3 := blk_frozen BK102.out 3; have hfz24_4 := blk_frozen BK102.out 4; obtain ⟨Ao25, co25, eo25⟩ := Kd.R_slice HO_5.out; subst eo25; have p106 : 0 ≤ ((ji16) : Int) := of_decide_eq_true (by first | (with_reducible assumption) | assumption); have q106 : (ji16) < (x5_1.length : Int) := of_decide_eq_true (by first | (with_reducible assumption) | assumption); obtain ⟨ad106, e106, hx106_0⟩ := Kd.at_int (Kd.R_reads' HO_5.out).2.2 (ji16) p106 q106; cases e106; replace p106 := eq_true p106; replace q106 := eq_true q106; have q26 : ((ji16) : Int) ≤ ((x5_1.length : Int) : Int) := of_decide_eq_true (by first | (with_reducible assumption) | assumption); obtain ⟨i026, hi026, _, hsz26, _⟩ := info_parts info3; have hcut26 := cut_to (P := Try.prog) 42 3 .i64 Try.underlying42 hi026 (some ad106) x5_1.length co25 (ji16) (of_decide_eq_true (by first | (with_reducible assumption) | assumption)) q26 (Kd.R_reads' HO_5.out).2.1; have hr26 := Kd.R_take (m := ((ji16) : Int).toNat) HO_5.out (by omega); have hy26 : y107.length = ((ji16) : Int).toNat := (by rw [Ny107.out, List.length_take]; omega); rw [← Ny107.out] at hr26; rw [← hy26] at hr26 hcut26; clear hy26 hi026 hsz26 HO_5; have HO109 := Aside0.mk hr26; clear hr26; replace q26 := eq_true q26))
                          go_ret
                          exact ⟨by first | rfl | (simp [errW_none, errW_some] <;> rfl) | (simp only [← hji16]; first | rfl | (simp [errW_none, errW_some] <;> rfl)) | (simp [*, errW_none, errW_some] <;> rfl), by repeat (first | (with_reducible first | exact HB.out | apply below_alloc | apply pw_below_drewN | apply below_drew1 | refine below_set ?_ GE102.out) | exact HB.out)⟩
                        · rw [if_neg c20] at H
                          have c20b0 : ((rd x5_1 (ji16)) == a1) = false := beq_eq_false_iff_ne.mpr c20
                          have c20b1 : ((rd x5_1 (ji16)) != a1) = true := bne_iff_ne.mpr c20
                          by_cases c27 : x11_1 = a1
                          · rw [if_pos c27] at H
                            have c27b0 : (x11_1 == a1) = true := beq_iff_eq.mpr c27
                            have c27b1 : (x11_1 != a1) = false := bne_eq_false_iff_eq.mpr c27
                            clear c27
                            obtain rfl := Option.some.inj H
                            have p101 : 0 ≤ (x11_1 : Int) := of_decide_eq_true (by first | (with_reducible assumption) | assumption)
                            have q101 : x11_1 < (l0.length : Int) := of_decide_eq_true (by first | (with_reducible assumption) | assumption)
                            obtain ⟨ad101, A101_4, c101_4, e101, hx101_0, hx101_1, hx101_2, hx101_3, hx101_4, hl101_4, hi101_4⟩ := at_T52 HR0.out x11_1 p101 q101
                            cases e101
                            replace hx101_0 := (HB.out.cell (World.block_lt_of_cell? w _ hx101_0)).trans hx101_0
                            replace hx101_1 := (HB.out.cell (World.block_lt_of_cell? w _ hx101_1)).trans hx101_1
                            replace hx101_2 := (HB.out.cell (World.block_lt_of_cell? w _ hx101_2)).trans hx101_2
                            replace hx101_3 := (HB.out.cell (World.block_lt_of_cell? w _ hx101_3)).trans hx101_3
                            replace hx101_4 := (HB.out.cell (World.block_lt_of_cell? w _ hx101_4)).trans hx101_4
                            have HR101_4 := Aside0.mk hi101_4
                            have HC101_4 := Aside0.mk hl101_4
                            clear hi101_4 hl101_4
                            replace p101 := eq_true p101
                            replace q101 := eq_true q101
                            go_wp2_with (first | ((with_reducible refine gate_dst (N := 7) rfl ?_); refine box_event ?hg (N := 7) ?hd (cs := #[.int .i64 0, .int .i64 0, .int .i64 0, .int .i64 0, .slice none 0 0]) (t := 52) ?hr ?_; (case hd => rfl); (case hg => rfl); (case hr => first | (go_simp; done) | (go_simp; rfl)); intro gb102 hg w28 hbox hb; have n0_ := Aside0.mk (Kd.R_below (by (with_reducible repeat (first | apply Kd.R_alloc | apply Kd.R_drewN | apply Kd.R_drew)); exact HO_5.out) hb); have n1_ := Aside0.mk (below_step (by repeat (first | (with_reducible first | exact HB.out | apply below_alloc | apply pw_below_drewN | apply below_drew1) | exact HB.out)) hb); have n2_ := Aside0.mk (hbox); have n3_ := Aside0.mk ((by rw [hg]; exact (below_size (by repeat (first | (with_reducible first | exact HB.out | apply below_alloc | apply pw_below_drewN | apply below_drew1) | exact HB.out))) : w.heap.size ≤ gb102)); have n4_ := Aside0.mk ((by rw [hg]; exact (below_size (by repeat (first | (with_reducible first | exact HB.out | apply below_alloc | apply pw_below_drewN | apply below_drew1) | exact HB.out))) : w.heap.size ≤ gb102)); clear HO_5; clear HB; have HO_5 := n0_; have HB := n1_; have BK102 := n2_; have GW102 := n3_; have GE102 := n4_; clear n0_ n1_ n2_ n3_ n4_; clear hb hbox hg; have hcz29_0 : w28.cell? ⟨gb102, 0, none⟩ = some (.int .i64 0) := (blk_cell BK102.out 0).trans rfl; have hcz29_1 : w28.cell? ⟨gb102, 1, none⟩ = some (.int .i64 0) := (blk_cell BK102.out 1).trans rfl; have hcz29_2 : w28.cell? ⟨gb102, 2, none⟩ = some (.int .i64 0) := (blk_cell BK102.out 2).trans rfl; have hcz29_3 : w28.cell? ⟨gb102, 3, none⟩ = some (.int .i64 0) := (blk_cell BK102.out 3).trans rfl; have hcz29_4 : w28.cell? ⟨gb102, 4, none⟩ = some (.slice none 0 0) := (blk_cell BK102.out 4).trans rfl; have hfz29_0 := blk_frozen BK102.out 0; have hfz29_1 := blk_frozen BK102.out 1; have hfz29_2 := blk_frozen BK102.out 2; have hfz29_3 := blk_frozen BK102.out 3; have hfz29_4 := blk_frozen BK102.out 4) | ((with_reducible refine gate_store (t := 52) (p := 7) rfl ?_); refine store_event (t := 52) (p := 7) (v := ?vo_w30) (w1 := (((((w28.setCell ⟨gb102, 0, none⟩ (.int .i64 ((rd_T52 l0 x11_1).f0))).setCell ⟨gb102, 1, none⟩ (.int .i64 ((rd_T52 l0 x11_1).f1))).setCell ⟨gb102, 2, none⟩ (.int .i64 ((rd_T52 l0 x11_1).f2))).setCell ⟨gb102, 3, none⟩ (.int .i64 ((rd_T52 l0 x11_1).f3))).setCell ⟨gb102, 4, none⟩ (.slice A101_4 ((rd_T52 l0 x11_1).f4).length c101_4))) ?hg ?ho ?hn ?hr ?_; (case ho => rfl); (case hg => rfl); (case hn => rfl); (case hr => first | (go_simp; done) | (go_simp; rfl)); intro w30 hw; have n0_ : Aside0 (Kd.R (Kd.int .i64) 3 w30 w.heap.size (fun _ => True) u5 x5_1) := ⟨(by rw [hw]; exact (by (with_reducible repeat (first | apply Kd.R_alloc | apply Kd.R_drewN | apply Kd.R_drew)); exact Kd.R_mono (Kd.R_far (p := ⟨gb102, 4, none⟩) (Kd.R_far (p := ⟨gb102, 3, none⟩) (Kd.R_far (p := ⟨gb102, 2, none⟩) (Kd.R_far (p := ⟨gb102, 1, none⟩) (Kd.R_far (p := ⟨gb102, 0, none⟩) (Kd.R_types HO_5.out BK102.out (by decide)) (fun _ hk => hk.2) (.int .i64 ((rd_T52 l0 x11_1).f0))) (fun _ hk => hk.2) (.int .i64 ((rd_T52 l0 x11_1).f1))) (fun _ hk => hk.2) (.int .i64 ((rd_T52 l0 x11_1).f2))) (fun _ hk => hk.2) (.int .i64 ((rd_T52 l0 x11_1).f3))) (fun _ hk => hk.2) (.slice A101_4 ((rd_T52 l0 x11_1).f4).length c101_4)) (fun _ hk => trivial)))⟩; have n1_ : Aside0 (w30.heap[gb102]? = some (.cells #[.int .i64 ((rd_T52 l0 x11_1).f0), .int .i64 ((rd_T52 l0 x11_1).f1), .int .i64 ((rd_T52 l0 x11_1).f2), .int .i64 ((rd_T52 l0 x11_1).f3), .slice A101_4 ((rd_T52 l0 x11_1).f4).length c101_4] 52 (0, 0))) := ⟨(by rw [hw]; exact (by (with_reducible repeat (first | refine blk_drewN ?_ _ | refine blk_drew ?_ | refine blk_alloc ?_ _)); refine blk_put (cs := #[.int .i64 ((rd_T52 l0 x11_1).f0), .int .i64 ((rd_T52 l0 x11_1).f1), .int .i64 ((rd_T52 l0 x11_1).f2), .int .i64 ((rd_T52 l0 x11_1).f3), .slice none 0 0]) ?_ 4 _ rfl; (with_reducible repeat (first | refine blk_drewN ?_ _ | refine blk_drew ?_ | refine blk_alloc ?_ _)); refine blk_put (cs := #[.int .i64 ((rd_T52 l0 x11_1).f0), .int .i64 ((rd_T52 l0 x11_1).f1), .int .i64 ((rd_T52 l0 x11_1).f2), .int .i64 0, .slice none 0 0]) ?_ 3 _ rfl; (with_reducible repeat (first | refine blk_drewN ?_ _ | refine blk_drew ?_ | refine blk_alloc ?_ _)); refine blk_put (cs := #[.int .i64 ((rd_T52 l0 x11_1).f0), .int .i64 ((rd_T52 l0 x11_1).f1), .int .i64 0, .int .i64 0, .slice none 0 0]) ?_ 2 _ rfl; (with_reducible repeat (first | refine blk_drewN ?_ _ | refine blk_drew ?_ | refine blk_alloc ?_ _)); refine blk_put (cs := #[.int .i64 ((rd_T52 l0 x11_1).f0), .int .i64 0, .int .i64 0, .int .i64 0, .slice none 0 0]) ?_ 1 _ rfl; (with_reducible repeat (first | refine blk_drewN ?_ _ | refine blk_drew ?_ | refine blk_alloc ?_ _)); refine blk_put (cs := #[.int .i64 0, .int .i64 0, .int .i64 0, .int .i64 0, .slice none 0 0]) ?_ 0 _ rfl; (with_reducible repeat (first | refine blk_drewN ?_ _ | refine blk_drew ?_ | refine blk_alloc ?_ _)); exact BK102.out))⟩; have n2_ : Aside0 (Below w.heap.size w w30) := ⟨(by rw [hw]; exact (by repeat (first | (with_reducible first | exact HB.out | apply below_alloc | apply pw_below_drewN | apply below_drew1 | refine below_set ?_ GE102.out) | exact HB.out)))⟩; clear hw; clear HO_5; clear BK102; clear HB; have HO_5 := n0_; have BK102 := n1_; have HB := n2_; clear n0_ n1_ n2_; have hcz31_0 : w30.cell? ⟨gb102, 0, none⟩ = some (.int .i64 ((rd_T52 l0 x11_1).f0)) := (blk_cell BK102.out 0).trans rfl; have hcz31_1 : w30.cell? ⟨gb102, 1, none⟩ = some (.int .i64 ((rd_T52 l0 x11_1).f1)) := (blk_cell BK102.out 1).trans rfl; have hcz31_2 : w30.cell? ⟨gb102, 2, none⟩ = some (.int .i64 ((rd_T52 l0 x11_1).f2)) := (blk_cell BK102.out 2).trans rfl; have hcz31_3 : w30.cell? ⟨gb102, 3, none⟩ = some (.int .i64 ((rd_T52 l0 x11_1).f3)) := (blk_cell BK102.out 3).trans rfl; have hcz31_4 : w30.cell? ⟨gb102, 4, none⟩ = some (.slice A101_4 ((rd_T52 l0 x11_1).f4).length c101_4) := (blk_cell BK102.out 4).trans rfl; have hfz31_0 := blk_frozen BK102.out 0; have hfz31_1 := blk_frozen BK102.out 1; have hfz31_2 := blk_frozen BK102.out 2; have hfz31_3 := blk_frozen BK102.out 3; have hfz31_4 := blk_frozen BK102.out 4; obtain ⟨Ao32, co32, eo32⟩ := Kd.R_slice HO_5.out; subst eo32; have p106 : 0 ≤ ((ji16) : Int) := of_decide_eq_true (by first | (with_reducible assumption) | assumption); have q106 : (ji16) < (x5_1.length : Int) := of_decide_eq_true (by first | (with_reducible assumption) | assumption); obtain ⟨ad106, e106, hx106_0⟩ := Kd.at_int (Kd.R_reads' HO_5.out).2.2 (ji16) p106 q106; cases e106; replace p106 := eq_true p106; replace q106 := eq_true q106; have q33 : ((ji16) : Int) ≤ ((x5_1.length : Int) : Int) := of_decide_eq_true (by first | (with_reducible assumption) | assumption); obtain ⟨i033, hi033, _, hsz33, _⟩ := info_parts info3; have hcut33 := cut_to (P := Try.prog) 42 3 .i64 Try.underlying42 hi033 (some ad106) x5_1.length co32 (ji16) (of_decide_eq_true (by first | (with_reducible assumption) | assumption)) q33 (Kd.R_reads' HO_5.out).2.1; have hr33 := Kd.R_take (m := ((ji16) : Int).toNat) HO_5.out (by omega); have hy33 : y107.length = ((ji16) : Int).toNat := (by rw [Ny107.out, List.length_take]; omega); rw [← Ny107.out] at hr33; rw [← hy33] at hr33 hcut33; clear hy33 hi033 hsz33 HO_5; have HO109 := Aside0.mk hr33; clear hr33; replace q33 := eq_true q33))
                            go_ret
                            exact ⟨by first | rfl | (simp [errW_none, errW_some] <;> rfl) | (simp only [← hji16]; first | rfl | (simp [errW_none, errW_some] <;> rfl)) | (simp [*, errW_none, errW_some] <;> rfl), by repeat (first | (with_reducible first | exact HB.out | apply below_alloc | apply pw_below_drewN | apply below_drew1 | refine below_set ?_ GE102.out) | exact HB.out)⟩
                          · rw [if_neg c27] at H
                            have c27b0 : (x11_1 == a1) = false := beq_eq_false_iff_ne.mpr c27
                            have c27b1 : (x11_1 != a1) = true := bne_iff_ne.mpr c27
                            have H' := Aside0.mk H
                            clear H
                            have p101 : 0 ≤ (x11_1 : Int) := of_decide_eq_true (by first | (with_reducible assumption) | assumption)
                            have q101 : x11_1 < (l0.length : Int) := of_decide_eq_true (by first | (with_reducible assumption) | assumption)
                            obtain ⟨ad101, A101_4, c101_4, e101, hx101_0, hx101_1, hx101_2, hx101_3, hx101_4, hl101_4, hi101_4⟩ := at_T52 HR0.out x11_1 p101 q101
                            cases e101
                            replace hx101_0 := (HB.out.cell (World.block_lt_of_cell? w _ hx101_0)).trans hx101_0
                            replace hx101_1 := (HB.out.cell (World.block_lt_of_cell? w _ hx101_1)).trans hx101_1
                            replace hx101_2 := (HB.out.cell (World.block_lt_of_cell? w _ hx101_2)).trans hx101_2
                            replace hx101_3 := (HB.out.cell (World.block_lt_of_cell? w _ hx101_3)).trans hx101_3
                            replace hx101_4 := (HB.out.cell (World.block_lt_of_cell? w _ hx101_4)).trans hx101_4
                            have HR101_4 := Aside0.mk hi101_4
                            have HC101_4 := Aside0.mk hl101_4
                            clear hi101_4 hl101_4
                            replace p101 := eq_true p101
                            replace q101 := eq_true q101
                            go_wp2_with (first | ((with_reducible refine gate_dst (N := 7) rfl ?_); refine box_event ?hg (N := 7) ?hd (cs := #[.int .i64 0, .int .i64 0, .int .i64 0, .int .i64 0, .slice none 0 0]) (t := 52) ?hr ?_; (case hd => rfl); (case hg => rfl); (case hr => first | (go_simp; done) | (go_simp; rfl)); intro gb102 hg w34 hbox hb; have n0_ := Aside0.mk (Kd.R_below (by (with_reducible repeat (first | apply Kd.R_alloc | apply Kd.R_drewN | apply Kd.R_drew)); exact HO_5.out) hb); have n1_ := Aside0.mk (below_step (by repeat (first | (with_reducible first | exact HB.out | apply below_alloc | apply pw_below_drewN | apply below_drew1) | exact HB.out)) hb); have n2_ := Aside0.mk (hbox); have n3_ := Aside0.mk ((by rw [hg]; exact (below_size (by repeat (first | (with_reducible first | exact HB.out | apply below_alloc | apply pw_below_drewN | apply below_drew1) | exact HB.out))) : w.heap.size ≤ gb102)); have n4_ := Aside0.mk ((by rw [hg]; exact (below_size (by repeat (first | (with_reducible first | exact HB.out | apply below_alloc | apply pw_below_drewN | apply below_drew1) | exact HB.out))) : w.heap.size ≤ gb102)); clear HO_5; clear HB; have HO_5 := n0_; have HB := n1_; have BK102 := n2_; have GW102 := n3_; have GE102 := n4_; clear n0_ n1_ n2_ n3_ n4_; clear hb hbox hg; have hcz35_0 : w34.cell? ⟨gb102, 0, none⟩ = some (.int .i64 0) := (blk_cell BK102.out 0).trans rfl; have hcz35_1 : w34.cell? ⟨gb102, 1, none⟩ = some (.int .i64 0) := (blk_cell BK102.out 1).trans rfl; have hcz35_2 : w34.cell? ⟨gb102, 2, none⟩ = some (.int .i64 0) := (blk_cell BK102.out 2).trans rfl; have hcz35_3 : w34.cell? ⟨gb102, 3, none⟩ = some (.int .i64 0) := (blk_cell BK102.out 3).trans rfl; have hcz35_4 : w34.cell? ⟨gb102, 4, none⟩ = some (.slice none 0 0) := (blk_cell BK102.out 4).trans rfl; have hfz35_0 := blk_frozen BK102.out 0; have hfz35_1 := blk_frozen BK102.out 1; have hfz35_2 := blk_frozen BK102.out 2; have hfz35_3 := blk_frozen BK102.out 3; have hfz35_4 := blk_frozen BK102.out 4) | ((with_reducible refine gate_store (t := 52) (p := 7) rfl ?_); refine store_event (t := 52) (p := 7) (v := ?vo_w36) (w1 := (((((w34.setCell ⟨gb102, 0, none⟩ (.int .i64 ((rd_T52 l0 x11_1).f0))).setCell ⟨gb102, 1, none⟩ (.int .i64 ((rd_T52 l0 x11_1).f1))).setCell ⟨gb102, 2, none⟩ (.int .i64 ((rd_T52 l0 x11_1).f2))).setCell ⟨gb102, 3, none⟩ (.int .i64 ((rd_T52 l0 x11_1).f3))).setCell ⟨gb102, 4, none⟩ (.slice A101_4 ((rd_T52 l0 x11_1).f4).length c101_4))) ?hg ?ho ?hn ?hr ?_; (case ho => rfl); (case hg => rfl); (case hn => rfl); (case hr => first | (go_simp; done) | (go_simp; rfl)); intro w36 hw; have n0_ : Aside0 (Kd.R (Kd.int .i64) 3 w36 w.heap.size (fun _ => True) u5 x5_1) := ⟨(by rw [hw]; exact (by (with_reducible repeat (first | apply Kd.R_alloc | apply Kd.R_drewN | apply Kd.R_drew)); exact Kd.R_mono (Kd.R_far (p := ⟨gb102, 4, none⟩) (Kd.R_far (p := ⟨gb102, 3, none⟩) (Kd.R_far (p := ⟨gb102, 2, none⟩) (Kd.R_far (p := ⟨gb102, 1, none⟩) (Kd.R_far (p := ⟨gb102, 0, none⟩) (Kd.R_types HO_5.out BK102.out (by decide)) (fun _ hk => hk.2) (.int .i64 ((rd_T52 l0 x11_1).f0))) (fun _ hk => hk.2) (.int .i64 ((rd_T52 l0 x11_1).f1))) (fun _ hk => hk.2) (.int .i64 ((rd_T52 l0 x11_1).f2))) (fun _ hk => hk.2) (.int .i64 ((rd_T52 l0 x11_1).f3))) (fun _ hk => hk.2) (.slice A101_4 ((rd_T52 l0 x11_1).f4).length c101_4)) (fun _ hk => trivial)))⟩; have n1_ : Aside0 (w36.heap[gb102]? = some (.cells #[.int .i64 ((rd_T52 l0 x11_1).f0), .int .i64 ((rd_T52 l0 x11_1).f1), .int .i64 ((rd_T52 l0 x11_1).f2), .int .i64 ((rd_T52 l0 x11_1).f3), .slice A101_4 ((rd_T52 l0 x11_1).f4).length c101_4] 52 (0, 0))) := ⟨(by rw [hw]; exact (by (with_reducible repeat (first | refine blk_drewN ?_ _ | refine blk_drew ?_ | refine blk_alloc ?_ _)); refine blk_put (cs := #[.int .i64 ((rd_T52 l0 x11_1).f0), .int .i64 ((rd_T52 l0 x11_1).f1), .int .i64 ((rd_T52 l0 x11_1).f2), .int .i64 ((rd_T52 l0 x11_1).f3), .slice none 0 0]) ?_ 4 _ rfl; (with_reducible repeat (first | refine blk_drewN ?_ _ | refine blk_drew ?_ | refine blk_alloc ?_ _)); refine blk_put (cs := #[.int .i64 ((rd_T52 l0 x11_1).f0), .int .i64 ((rd_T52 l0 x11_1).f1), .int .i64 ((rd_T52 l0 x11_1).f2), .int .i64 0, .slice none 0 0]) ?_ 3 _ rfl; (with_reducible repeat (first | refine blk_drewN ?_ _ | refine blk_drew ?_ | refine blk_alloc ?_ _)); refine blk_put (cs := #[.int .i64 ((rd_T52 l0 x11_1).f0), .int .i64 ((rd_T52 l0 x11_1).f1), .int .i64 0, .int .i64 0, .slice none 0 0]) ?_ 2 _ rfl; (with_reducible repeat (first | refine blk_drewN ?_ _ | refine blk_drew ?_ | refine blk_alloc ?_ _)); refine blk_put (cs := #[.int .i64 ((rd_T52 l0 x11_1).f0), .int .i64 0, .int .i64 0, .int .i64 0, .slice none 0 0]) ?_ 1 _ rfl; (with_reducible repeat (first | refine blk_drewN ?_ _ | refine blk_drew ?_ | refine blk_alloc ?_ _)); refine blk_put (cs := #[.int .i64 0, .int .i64 0, .int .i64 0, .int .i64 0, .slice none 0 0]) ?_ 0 _ rfl; (with_reducible repeat (first | refine blk_drewN ?_ _ | refine blk_drew ?_ | refine blk_alloc ?_ _)); exact BK102.out))⟩; have n2_ : Aside0 (Below w.heap.size w w36) := ⟨(by rw [hw]; exact (by repeat (first | (with_reducible first | exact HB.out | apply below_alloc | apply pw_below_drewN | apply below_drew1 | refine below_set ?_ GE102.out) | exact HB.out)))⟩; clear hw; clear HO_5; clear BK102; clear HB; have HO_5 := n0_; have BK102 := n1_; have HB := n2_; clear n0_ n1_ n2_; have hcz37_0 : w36.cell? ⟨gb102, 0, none⟩ = some (.int .i64 ((rd_T52 l0 x11_1).f0)) := (blk_cell BK102.out 0).trans rfl; have hcz37_1 : w36.cell? ⟨gb102, 1, none⟩ = some (.int .i64 ((rd_T52 l0 x11_1).f1)) := (blk_cell BK102.out 1).trans rfl; have hcz37_2 : w36.cell? ⟨gb102, 2, none⟩ = some (.int .i64 ((rd_T52 l0 x11_1).f2)) := (blk_cell BK102.out 2).trans rfl; have hcz37_3 : w36.cell? ⟨gb102, 3, none⟩ = some (.int .i64 ((rd_T52 l0 x11_1).f3)) := (blk_cell BK102.out 3).trans rfl; have hcz37_4 : w36.cell? ⟨gb102, 4, none⟩ = some (.slice A101_4 ((rd_T52 l0 x11_1).f4).length c101_4) := (blk_cell BK102.out 4).trans rfl; have hfz37_0 := blk_frozen BK102.out 0; have hfz37_1 := blk_frozen BK102.out 1; have hfz37_2 := blk_frozen BK102.out 2; have hfz37_3 := blk_frozen BK102.out 3; have hfz37_4 := blk_frozen BK102.out 4; obtain ⟨Ao38, co38, eo38⟩ := Kd.R_slice HO_5.out; subst eo38; have p106 : 0 ≤ ((ji16) : Int) := of_decide_eq_true (by first | (with_reducible assumption) | assumption); have q106 : (ji16) < (x5_1.length : Int) := of_decide_eq_true (by first | (with_reducible assumption) | assumption); obtain ⟨ad106, e106, hx106_0⟩ := Kd.at_int (Kd.R_reads' HO_5.out).2.2 (ji16) p106 q106; cases e106; replace p106 := eq_true p106; replace q106 := eq_true q106; have q39 : ((ji16) : Int) ≤ ((x5_1.length : Int) : Int) := of_decide_eq_true (by first | (with_reducible assumption) | assumption); obtain ⟨i039, hi039, _, hsz39, _⟩ := info_parts info3; have hcut39 := cut_to (P := Try.prog) 42 3 .i64 Try.underlying42 hi039 (some ad106) x5_1.length co38 (ji16) (of_decide_eq_true (by first | (with_reducible assumption) | assumption)) q39 (Kd.R_reads' HO_5.out).2.1; have hr39 := Kd.R_take (m := ((ji16) : Int).toNat) HO_5.out (by omega); have hy39 : y107.length = ((ji16) : Int).toNat := (by rw [Ny107.out, List.length_take]; omega); rw [← Ny107.out] at hr39; rw [← hy39] at hr39 hcut39; clear hy39 hi039 hsz39 HO_5; have HO109 := Aside0.mk hr39; clear hr39; replace q39 := eq_true q39))
                            go_roundg k1
                            case measure => have := HK1.out; omega
                            case rel => exact ⟨(y107), (wrap64 (x11_1 + 1)), (by first | rfl | (simp; done) | (simp [*]; done) | (simp [Int.tdiv_eq_ediv_of_nonneg]; done)), H', ⟨by have := HK1.out; omega⟩, ⟨by (with_reducible repeat (first | apply Kd.R_alloc | apply Kd.R_drewN | apply Kd.R_drew)); exact HO109.out⟩, ⟨by repeat (first | (with_reducible first | exact HB.out | apply below_alloc | apply pw_below_drewN | apply below_drew1 | refine below_set ?_ GE102.out) | exact HB.out)⟩⟩
                      · rw [if_neg c19] at H
                        exact absurd H (by simp)
                    · rw [if_neg c18] at H
                      exact absurd H (by simp)
                  · rw [if_neg c17] at H
                    exact absurd H (by simp)
              · rw [if_neg c11] at H
                have c11b0 : (((rd_T52 l0 x11_1).f0) == 9) = false := beq_eq_false_iff_ne.mpr c11
                have c11b1 : (((rd_T52 l0 x11_1).f0) != 9) = true := bne_iff_ne.mpr c11
                have H' := Aside0.mk H
                clear H
                have p101 : 0 ≤ (x11_1 : Int) := of_decide_eq_true (by first | (with_reducible assumption) | assumption)
                have q101 : x11_1 < (l0.length : Int) := of_decide_eq_true (by first | (with_reducible assumption) | assumption)
                obtain ⟨ad101, A101_4, c101_4, e101, hx101_0, hx101_1, hx101_2, hx101_3, hx101_4, hl101_4, hi101_4⟩ := at_T52 HR0.out x11_1 p101 q101
                cases e101
                replace hx101_0 := (HB.out.cell (World.block_lt_of_cell? w _ hx101_0)).trans hx101_0
                replace hx101_1 := (HB.out.cell (World.block_lt_of_cell? w _ hx101_1)).trans hx101_1
                replace hx101_2 := (HB.out.cell (World.block_lt_of_cell? w _ hx101_2)).trans hx101_2
                replace hx101_3 := (HB.out.cell (World.block_lt_of_cell? w _ hx101_3)).trans hx101_3
                replace hx101_4 := (HB.out.cell (World.block_lt_of_cell? w _ hx101_4)).trans hx101_4
                have HR101_4 := Aside0.mk hi101_4
                have HC101_4 := Aside0.mk hl101_4
                clear hi101_4 hl101_4
                replace p101 := eq_true p101
                replace q101 := eq_true q101
                go_wp2_with (first | ((with_reducible refine gate_dst (N := 7) rfl ?_); refine box_event ?hg (N := 7) ?hd (cs := #[.int .i64 0, .int .i64 0, .int .i64 0, .int .i64 0, .slice none 0 0]) (t := 52) ?hr ?_; (case hd => rfl); (case hg => rfl); (case hr => first | (go_simp; done) | (go_simp; rfl)); intro gb102 hg w40 hbox hb; have n0_ := Aside0.mk (Kd.R_below (by (with_reducible repeat (first | apply Kd.R_alloc | apply Kd.R_drewN | apply Kd.R_drew)); exact HO_5.out) hb); have n1_ := Aside0.mk (below_step (by repeat (first | (with_reducible first | exact HB.out | apply below_alloc | apply pw_below_drewN | apply below_drew1) | exact HB.out)) hb); have n2_ := Aside0.mk (hbox); have n3_ := Aside0.mk ((by rw [hg]; exact (below_size (by repeat (first | (with_reducible first | exact HB.out | apply below_alloc | apply pw_below_drewN | apply below_drew1) | exact HB.out))) : w.heap.size ≤ gb102)); have n4_ := Aside0.mk ((by rw [hg]; exact (below_size (by repeat (first | (with_reducible first | exact HB.out | apply below_alloc | apply pw_below_drewN | apply below_drew1) | exact HB.out))) : w.heap.size ≤ gb102)); clear HO_5; clear HB; have HO_5 := n0_; have HB := n1_; have BK102 := n2_; have GW102 := n3_; have GE102 := n4_; clear n0_ n1_ n2_ n3_ n4_; clear hb hbox hg; have hcz41_0 : w40.cell? ⟨gb102, 0, none⟩ = some (.int .i64 0) := (blk_cell BK102.out 0).trans rfl; have hcz41_1 : w40.cell? ⟨gb102, 1, none⟩ = some (.int .i64 0) := (blk_cell BK102.out 1).trans rfl; have hcz41_2 : w40.cell? ⟨gb102, 2, none⟩ = some (.int .i64 0) := (blk_cell BK102.out 2).trans rfl; have hcz41_3 : w40.cell? ⟨gb102, 3, none⟩ = some (.int .i64 0) := (blk_cell BK102.out 3).trans rfl; have hcz41_4 : w40.cell? ⟨gb102, 4, none⟩ = some (.slice none 0 0) := (blk_cell BK102.out 4).trans rfl; have hfz41_0 := blk_frozen BK102.out 0; have hfz41_1 := blk_frozen BK102.out 1; have hfz41_2 := blk_frozen BK102.out 2; have hfz41_3 := blk_frozen BK102.out 3; have hfz41_4 := blk_frozen BK102.out 4))
                go_roundg k1
                case measure => have := HK1.out; omega
                case rel => exact ⟨(x5_1), (wrap64 (x11_1 + 1)), (by first | rfl | (simp; done) | (simp [*]; done) | (simp [Int.tdiv_eq_ediv_of_nonneg]; done)), H', ⟨by have := HK1.out; omega⟩, ⟨by (with_reducible repeat (first | apply Kd.R_alloc | apply Kd.R_drewN | apply Kd.R_drew)); exact Kd.R_mono (Kd.R_far (p := ⟨gb102, 4, none⟩) (Kd.R_far (p := ⟨gb102, 3, none⟩) (Kd.R_far (p := ⟨gb102, 2, none⟩) (Kd.R_far (p := ⟨gb102, 1, none⟩) (Kd.R_far (p := ⟨gb102, 0, none⟩) (Kd.R_types HO_5.out BK102.out (by decide)) (fun _ hk => hk.2) (.int .i64 ((rd_T52 l0 x11_1).f0))) (fun _ hk => hk.2) (.int .i64 ((rd_T52 l0 x11_1).f1))) (fun _ hk => hk.2) (.int .i64 ((rd_T52 l0 x11_1).f2))) (fun _ hk => hk.2) (.int .i64 ((rd_T52 l0 x11_1).f3))) (fun _ hk => hk.2) (.slice A101_4 ((rd_T52 l0 x11_1).f4).length c101_4)) (fun _ hk => trivial)⟩, ⟨by repeat (first | (with_reducible first | exact HB.out | apply below_alloc | apply pw_below_drewN | apply below_drew1 | refine below_set ?_ GE102.out) | exact HB.out)⟩⟩
          · rw [if_neg c5] at H
            exact absurd H (by simp)
        · rw [if_neg c4] at H
          exact absurd H (by simp)
      · rw [if_neg c3] at H
        have c3b0 : decide (x11_1 < (l0.length : Int)) = false := decide_eq_false c3
        clear c3
        obtain rfl := Option.some.inj H
        go_wp2
        go_ret
        exact ⟨by first | rfl | (simp [errW_none, errW_some] <;> rfl) | (simp [*, errW_none, errW_some] <;> rfl), by repeat (first | (with_reducible first | exact HB.out | apply below_alloc | apply pw_below_drewN | apply below_drew1) | exact HB.out)⟩

end Go.Proofs.Ytjnhahdelipebaa.XA
