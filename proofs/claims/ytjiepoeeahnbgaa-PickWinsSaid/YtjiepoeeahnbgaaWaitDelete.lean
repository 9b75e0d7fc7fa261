
/- slices.Delete of one that waits. -/
import Derived.Test.YtjiepoeeahnbgaaWaitClone
import Derived.Test.YtjiepoeeahnbgaaRowMore
import Derived.IntWalk
namespace Go.Proofs.Ytjiepoeeahnbgaa
set_option linter.unusedVariables false
set_option linter.unusedSimpArgs false
open Go.RowKit
theorem addr_offW (b o j : Nat) : (⟨b, o, none⟩ : Addr).add j = ⟨b, o + j, none⟩ := by unfold Addr.add; split <;> simp_all
theorem wt_len (xs : List Wt) : (xs.flatMap Wt.enc).length = xs.length * 4 := flat_len Wt.enc 4 Wt.enc_len xs
theorem flat_wt (xs ys : List Wt) : (xs ++ ys).flatMap Wt.enc = xs.flatMap Wt.enc ++ ys.flatMap Wt.enc := by simp
theorem cut_flat (ds : List Wt) (i : Nat) : ds.flatMap Wt.enc = (ds.take i).flatMap Wt.enc ++ (ds.drop i).flatMap Wt.enc := by rw [← flat_wt, List.take_append_drop]
theorem take_flat {ds : List Wt} {i : Nat} (h : i ≤ ds.length) : ((ds.take i).flatMap Wt.enc).length = i * 4 := by rw [wt_len]; simp; omega
theorem drop_flat (ds : List Wt) (i : Nat) : ((ds.drop i).flatMap Wt.enc).length = (ds.length - i) * 4 := by rw [wt_len]; simp
theorem cell_at {w : World} {g : Nat} {cs : List Value} {e : TypeId} {f : Nat × Nat} (h : w.heap[g]? = some (.cells cs.toArray e f)) (j : Nat) : w.cell? ⟨g, j, none⟩ = cs[j]? := by
  simp [World.cell?, h]
theorem del_flat (ds : List Wt) (i : Nat) : (ds.eraseIdx i).flatMap Wt.enc = (ds.take i).flatMap Wt.enc ++ (ds.drop (i + 1)).flatMap Wt.enc := by rw [List.eraseIdx_eq_take_drop_succ, flat_wt]
/-- x[l:u:m] and x[l:u] of a row of the call's own. -/
theorem run_three {P : Program} {t e : TypeId} {z : Value} {size bytes : Nat} (T : ElemT P t e z size bytes) (g n cap l u m : Nat) (hl : l ≤ u) (hu : u ≤ m) (hm : m ≤ cap) (hc : ¬ (m = l)) {L U M : Int} (hL : L = (l : Int)) (hU : U = (u : Int)) (hM : M = (m : Int)) (W : World) :
    (Instr.slice t (.slice (some ⟨g, 0, none⟩) n cap) (some (.int .i64 L)) (some (.int .i64 U)) (some (.int .i64 M))).run P W = .ok (.slice (some ⟨g, l * size, none⟩) (u - l) (m - l)) W := by
  obtain ⟨i, hi, hz, hsz, hby⟩ := T.info
  subst hL
  subst hU
  subst hM
  have ha : (⟨g, 0, none⟩ : Addr).add (l * size) = ⟨g, l * size, none⟩ := by unfold Addr.add; split <;> simp_all
  simp [Instr.slice, run_underlying T.und, Instr.sliceBounds, run_sliceBound, hl, hu, hc, show (u : Int) ≤ (m : Int) by omega, show (m : Int) ≤ (cap : Int) by omega, sizeOf, run_typeInfo _ hi, hsz, ha]
theorem run_mid {P : Program} {t e : TypeId} {z : Value} {size bytes : Nat} (T : ElemT P t e z size bytes) (g n cap l u : Nat) (hl : l ≤ u) (hu : u ≤ cap) (hc : ¬ (cap = l)) {L U : Int} (hL : L = (l : Int)) (hU : U = (u : Int)) (W : World) :
    (Instr.slice t (.slice (some ⟨g, 0, none⟩) n cap) (some (.int .i64 L)) (some (.int .i64 U)) none).run P W = .ok (.slice (some ⟨g, l * size, none⟩) (u - l) (cap - l)) W := by
  obtain ⟨i, hi, hz, hsz, hby⟩ := T.info
  subst hL
  subst hU
  have ha : (⟨g, 0, none⟩ : Addr).add (l * size) = ⟨g, l * size, none⟩ := by unfold Addr.add; split <;> simp_all
  simp [Instr.slice, run_underlying T.und, Instr.sliceBounds, run_sliceBound, hl, hc, show (u : Int) ≤ (cap : Int) by omega, sizeOf, run_typeInfo _ hi, hsz, ha]

/-- An append that fits, as a step of a region that draws its order. -/
theorem step_fits {P : Program} {W : World} {ops : Array Oper} {o : Oper} {a : Act} {K : Act → World → Prop} {Q : Exit → Act → World → Prop} {E : Prop} {t e : TypeId} {z : Value} {size bytes : Nat} (T : ElemT P t e z size bytes)
    (hgd : o.guard = none) (s x : Operand) (ho : o.op = .call { callee := .builtin .append, args := #[s, x], argTypes := #[t, t] })
    {base g k cap : Nat} {xs : List Value} (hown : W.ownsRow base e size (.slice (some ⟨g, 0, none⟩) k cap) k xs) (hs : a.eval s = .slice (some ⟨g, 0, none⟩) k cap) {ad : Option Addr} {m c : Nat} {cs : List Value} (hx : a.eval x = .slice ad m c) (hr : Rd W (.slice ad m c) m cs) (had : ad ≠ none)
    (hl : cs.length = m * size) (h1 : ∀ u ∈ cs, u.oneCell' = true) (hfit : k + m ≤ cap)
    (h : ∀ w', w'.ownsRow base e size (.slice (some ⟨g, 0, none⟩) (k + m) cap) (k + m) (xs ++ cs) → Upd [g] W w' → K (a.put o.dst (.slice (some ⟨g, 0, none⟩) (k + m) cap)) w') :
    if Region.wanted o (yielded ops a.tmps) = true then Oper.wp P o a W K Q else E := by
  have hw : Region.wanted o (yielded ops a.tmps) = true := by simp [Region.wanted, hgd]
  rw [if_pos hw]
  obtain ⟨i, hi, hz, hsz, hby⟩ := T.info
  obtain ⟨A, cap', he, hc, _, h0, h2⟩ := hr
  cases he
  obtain ⟨ad, rfl⟩ : ∃ x, ad = some x := Option.ne_none_iff_exists'.1 had
  obtain ⟨w', hrun, r1, r2⟩ := run_append_fits (P := P) W base t o.type e i size T.und hi hsz g k cap xs hown ad m c cs hl (fun j u hj => by
    rcases h2 with ⟨_, rfl⟩ | ⟨b, off, he, hcell⟩
    · simp at hj
    cases he
    rw [addr_offW]
    exact hcell j u hj) h1 hfit
  unfold Oper.wp
  simp [execOp, ho, resolve, invoke, builtin, hs, hx, hrun, Result.andThen]
  exact h w' r1 ((Upd.refl _ _).grown r2 (fun k hk _ => by cases hk; simp))

set_option maxHeartbeats 6400000 in
set_option maxRecDepth 100000 in
/-- Without the one at place i. -/
theorem deleteW_any (g cap base i : Nat) (ds : List Wt) (w : World) (hown : w.ownsRow base 68 4 (.slice (some ⟨g, 0, none⟩) ds.length cap) ds.length (ds.flatMap Wt.enc)) (hi : i < ds.length) (hm : ds.length ≤ 100000) :
    Calls Try.prog 43 #[.slice (some ⟨g, 0, none⟩) ds.length cap, .int .i64 i, .int .i64 ((i : Int) + 1)] w fun e w' =>
      e = .returned (.slice (some ⟨g, 0, none⟩) (ds.length - 1) cap) ∧ w'.ownsRow base 68 4 (.slice (some ⟨g, 0, none⟩) (ds.length - 1) cap) (ds.length - 1) ((ds.eraseIdx i).flatMap Wt.enc) ∧ Upd [g] w w' := by
  obtain ⟨R, hb, _, hnc, hcm, hg, hl, hsz⟩ := own_parts' hown
  simp only at hb hg
  obtain ⟨n, hn⟩ : ∃ n, n = ds.length := ⟨_, rfl⟩
  obtain ⟨n1, hn1⟩ : ∃ n1, n = n1 + 1 := ⟨n - 1, by omega⟩
  have hA := take_flat (ds := ds) (i := i) (by omega)
  have hD := drop_flat ds (i + 1)
  have hE : ((ds.drop i).take 1).flatMap Wt.enc ++ (ds.drop (i + 1)).flatMap Wt.enc = (ds.drop i).flatMap Wt.enc := by
    rw [← flat_wt]
    congr 1
    rw [show ds.drop (i + 1) = (ds.drop i).drop 1 by rw [List.drop_drop], List.take_append_drop]
  have hEl : (((ds.drop i).take 1).flatMap Wt.enc).length = 4 := by rw [wt_len]; simp; omega
  rw [cut_flat ds i, ← hE] at hg hsz
  rw [del_flat]
  have h1D := Wt.one (ds.drop (i + 1))
  generalize (ds.take i).flatMap Wt.enc = A at *
  generalize (ds.drop (i + 1)).flatMap Wt.enc = D at *
  generalize ((ds.drop i).take 1).flatMap Wt.enc = T at *
  clear hE hl hown
  rw [← hn] at hD hi hm hnc ⊢
  rw [show n - 1 = n1 by omega]
  clear hn
  have hRl : R.length = (cap - n) * 4 := by rw [List.length_append, List.length_append, List.length_append, hA, hD, hEl] at hsz; omega
  have hownA : w.ownsRow base 68 4 (.slice (some ⟨g, 0, none⟩) i cap) i A := own_make (R := T ++ D ++ R) (by rw [← List.append_assoc]; exact hg) hb hA (by omega) hcm (by rw [← List.append_assoc]; exact hsz)
  have hs1 := fun W => run_three tWt (P := Try.prog) g n cap i (i + 1) n (by omega) (by omega) hnc (by omega) (L := (i : Int)) (U := (i : Int) + 1) (M := (n : Int)) rfl (by omega) rfl W
  have hs2 := fun W => run_upto tWt (P := Try.prog) g n cap i (by omega) (U := (i : Int)) rfl W
  have hs3 := fun W => run_from' tWt (P := Try.prog) g n cap (i + 1) (by omega) (L := (i : Int) + 1) (by omega) W
  have hrD : Rd w (.slice (some ⟨g, if cap = i + 1 then 0 else (i + 1) * 4, none⟩) (n - (i + 1)) (cap - (i + 1))) (n - (i + 1)) D := by
    refine ⟨_, _, rfl, by omega, by omega, (fun h => by cases h), ?_⟩
    by_cases hc : cap = i + 1
    · exact .inl ⟨by omega, List.eq_nil_of_length_eq_zero (by rw [hD]; omega)⟩
    · rw [if_neg hc]
      refine .inr ⟨_, _, rfl, fun j u hj => ?_⟩
      have hjl := (List.getElem?_eq_some_iff.1 hj).1
      rw [cell_at hg, List.append_assoc, List.append_assoc, List.getElem?_append_right (by omega), List.getElem?_append_right (by omega), hA, hEl, List.getElem?_append_left (by omega), show (i + 1) * 4 + j - i * 4 - 4 = j by omega]
      exact hj
  generalize (if cap = i + 1 then 0 else (i + 1) * 4) = off at hs3 hrD
  obtain ⟨m, hm2⟩ : ∃ m, m = n - (i + 1) := ⟨_, rfl⟩
  rw [← hm2] at hs3 hrD hD
  have him : i + m = n1 := by omega
  have hs4 := fun W => run_mid tWt (P := Try.prog) g n1 cap n1 n (by omega) hnc (by omega) (L := (n1 : Int)) (U := (n : Int)) rfl rfl W
  rw [show n - n1 = 1 by omega] at hs4
  have hclr : ∀ (W : World) (cur : List Value) ty, W.heap[g]? = some (.cells cur.toArray 68 (0, 0)) → n1 * 4 + 1 * 4 ≤ cur.length → (Builtin.clear_ #[44] ty #[.slice (some ⟨g, n1 * 4, none⟩) 1 (cap - n1)]).run Try.prog W = .ok (.tuple #[]) (W.setRow g (splice cur (n1 * 4) (Builtin.zeroCells (Value.agg #[.int .i64 0, .int .i64 0, .int .i64 0, .int .i64 0]).cells 1).toList).toArray) :=
    fun W cur ty h1 h2 => run_clear_n tWt (by intro v hv; simp [Value.cells] at hv; rw [hv]; rfl) W ty g (n1 * 4) 1 (cap - n1) cur _ h1 h2 (by omega)
  have hd1 : ((i : Int) == (i : Int) + 1) = false := beq_eq_false_iff_ne.2 (by omega)
  have hownAd : w.drew.ownsRow base 68 4 (.slice (some ⟨g, 0, none⟩) i cap) i A := hownA
  have hrDd := hrD.keep0 (Upd.drew (Upd.refl [] w))
  have HD := Lib.hid hD
  have HA := Lib.hid hA
  have HN := Lib.hid hn1
  have HM := Lib.hid him
  have hfit : i + m ≤ cap := by omega
  have hn1c : n1 + 1 ≤ cap := by omega
  clear hA hD hg hsz hRl hEl hn1 hm2 hownA hrD him
  go_enter Try.func43, Try.ntmps43
  go_wp2_with fail
  go_region_held3 (fun w' => True) (first | trivial | go_keep) (first
    | ((refine step_fits tWt rfl (.tmp 22) (.tmp 25) rfl hownAd rfl rfl hrDd (by simp) HD.out h1D hfit ?_); intro w3 hown3 hu3))
  rw [HM.out] at hown3 ⊢
  obtain ⟨R3, _, _, _, _, hg3, hl3, hsz3⟩ := own_parts' hown3
  simp only at hg3
  have hc3 := fun ty => hclr w3 (A ++ D ++ R3) ty hg3 (by rw [hsz3]; omega)
  obtain ⟨L4, hL4⟩ : ∃ L4, L4 = (splice (A ++ D ++ R3) (n1 * 4) (Builtin.zeroCells (Value.agg #[.int .i64 0, .int .i64 0, .int .i64 0, .int .i64 0]).cells 1).toList).toArray := ⟨_, rfl⟩
  rw [← hL4] at hc3
  have HL4 := Lib.hid hL4
  clear hL4 hclr
  go_wp2_with (refine wpl_clear _ rfl (.tmp 31) _ rfl rfl (hc3 _) ?_)
  go_ret
  refine ⟨rfl, ?_, upd_setRow ((Upd.refl _ _).drew.transS hu3) _ _ (fun _ => by simp)⟩
  have hz2 : (Builtin.zeroCells (Value.agg #[.int .i64 0, .int .i64 0, .int .i64 0, .int .i64 0]).cells 1).toList.length = 4 := by rw [Array.length_toList, size_zeroCells]; rfl
  have hR3 : R3.length = (cap - n1) * 4 := by rw [List.length_append, hl3] at hsz3; omega
  have hsp := splice_at (A := A ++ D) (B := R3) (C := (Builtin.zeroCells (Value.agg #[.int .i64 0, .int .i64 0, .int .i64 0, .int .i64 0]).cells 1).toList) hl3
  refine own_make (R := (Builtin.zeroCells (Value.agg #[.int .i64 0, .int .i64 0, .int .i64 0, .int .i64 0]).cells 1).toList ++ R3.drop 4) ?_ hb hl3 (by omega) hcm (by rw [List.length_append, hl3, List.length_append, List.length_drop, hz2, hR3]; omega)
  rw [← hz2, ← hsp, ← HL4.out]
  exact setRow_heap _ _ _ _ _ _ hg3
end Go.Proofs.Ytjiepoeeahnbgaa
