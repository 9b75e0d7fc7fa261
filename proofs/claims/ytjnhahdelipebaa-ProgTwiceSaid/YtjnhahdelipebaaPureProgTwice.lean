/- A program in a loop of n is done n times: what is told of it, in plain words. -/
import Derived.Test.YtjnhahdelipebaaEachFlat
import Derived.Test.YtjnhahdelipebaaXAx7
namespace Go.Proofs.Ytjnhahdelipebaa.Pure
set_option linter.unusedVariables false
set_option linter.unusedSimpArgs false
open Go.RowKit Go.Proofs.Ytjnhahdelipebaa.XA Go.Proofs.Ytjnhahdelipebaa.Nest Go.Proofs.YtjnhahdelipebaaW.PrintWords Go.Proofs.YtjnhahdelipebaaW.PrintLast Go.Proofs.YtjnhahdelipebaaW.PrintMore
abbrev OpS := S52
def twP (x y : Int) : List OpS := [⟨1, x, 0, 0, []⟩, ⟨2, 3, 0, 0, []⟩, ⟨1, y, 0, 0, []⟩, ⟨3, 3, 0, 0, []⟩]
def twQ (K : Nat) (x y : Int) : List OpS := (⟨8, (K : Int), 0, 0, []⟩ : OpS) :: twP x y ++ (⟨9, 0, 0, 0, []⟩ : OpS) :: []
theorem twP_flat (x y : Int) : FlatR kdP nmP 0 (twP x y) (twP x y) :=
  .op 0 _ _ _ (by simp [kdP]) (by simp [kdP]) (.op 0 _ _ _ (by simp [kdP]) (by simp [kdP]) (.op 0 _ _ _ (by simp [kdP]) (by simp [kdP]) (.op 0 _ _ _ (by simp [kdP]) (by simp [kdP]) (.nil 0))))
theorem twQ_flat (K : Nat) (hK : 1 ≤ K ∧ K ≤ 32) (x y : Int) : FlatR kdP nmP 1 (twQ K x y) (rep K (twP x y)) := by
  have := FlatR.loop (kd := kdP) (nm := nmP) 0 ⟨8, (K : Int), 0, 0, []⟩ ⟨9, 0, 0, 0, []⟩ K (twP x y) (twP x y) [] [] rfl rfl hK (twP_flat x y) rfl (.nil _)
  rw [List.append_nil] at this
  exact this
theorem twQ_ok (K : Nat) (hK : 1 ≤ K ∧ K ≤ 32) (x y : Int) (hx : 1 ≤ x ∧ x ≤ 1000) (hy : 1 ≤ y ∧ y ≤ 1000) : ∀ o ∈ (twQ K x y).map opTP, chkOpT o = 0 := by
  intro o ho
  simp only [twQ, twP, List.map_append, List.map_cons, List.map_nil, List.mem_append, List.mem_cons, List.not_mem_nil, or_false] at ho
  rcases ho with (rfl | rfl | rfl | rfl | rfl) | rfl <;> simp [opTP, chkOpT, chkOp, leastN, mostN] <;> omega
theorem twQ_check (K : Nat) (hK : 1 ≤ K ∧ K ≤ 32) (x y : Int) (hx : 1 ≤ x ∧ x ≤ 1000) (hy : 1 ≤ y ∧ y ≤ 1000) : prog_Check.f (twQ K x y) = some (0, 0) := by
  have hs := steps_flat (twQ_flat K hK x y) (by decide) (by rw [rep_len]; simp [twP]; omega)
  rw [rep_len] at hs
  unfold prog_Check.f chkProgP
  rw [hs, if_neg (by simp [twQ, twP]), badOp_none _ _ (twQ_ok K hK x y hx hy)]
  have hq : runQ 0 ((twQ K x y).map opTP) [] [] = none := rfl
  simp only [Option.getD_none, hq]
  rw [if_neg (by simp [twP]; omega)]
theorem twP_sec3 (b y x n : Int) (hy : 1 ≤ y ∧ y ≤ 1000) : (twP x y).foldl (Prog.secS 3) (b, n, false) = (mx b y, y, false) := by
  unfold twP
  simp only [List.foldl_cons, List.foldl_nil]
  simp [Prog.secS]
  rw [Prog.w64 (by omega) (by omega)]
  simp
theorem twP_sec2 (y x : Int) : (twP x y).foldl (Prog.secS 2) (0, 0, false) = (0, 0, false) := by
  unfold twP
  simp only [List.foldl_cons, List.foldl_nil]
  simp [Prog.secS]
theorem rep_sec3 (y x : Int) (hy : 1 ≤ y ∧ y ≤ 1000) : ∀ n, (rep (n + 1) (twP x y)).foldl (Prog.secS 3) (0, 0, false) = (y, y, false)
  | 0 => by
    rw [rep_succ, List.foldl_append, show rep 0 (twP x y) = [] from rfl, List.foldl_nil, twP_sec3 _ _ _ _ hy]
    unfold mx
    rw [if_pos (by omega)]
  | n + 1 => by
    rw [rep_succ, List.foldl_append, rep_sec3 y x hy n, twP_sec3 _ _ _ _ hy]
    unfold mx
    rw [if_neg (by omega)]
theorem rep_sec2 (y x : Int) : ∀ n, (rep n (twP x y)).foldl (Prog.secS 2) (0, 0, false) = (0, 0, false)
  | 0 => rfl
  | n + 1 => by rw [rep_succ, List.foldl_append, rep_sec2 y x n, twP_sec2]
theorem rep_get4 (p : List OpS) (hp : p.length = 4) : ∀ n i : Nat, i < n * 4 → (rep n p)[i]? = p[i % 4]?
  | 0, i, h => by omega
  | n + 1, i, h => by
    rw [rep_succ]
    by_cases hi : i < n * 4
    · rw [List.getElem?_append_left (by rw [rep_len, hp]; exact hi), rep_get4 p hp n i hi]
    · rw [List.getElem?_append_right (by rw [rep_len, hp]; omega), rep_len, hp]
      congr 1
      omega
theorem same_ev (o : OpS) (ho : o.f4 = []) : Ev (fun k => op_Same.f k o.f0 o.f1 o.f2 o.f3 o.f4 o.f0 o.f1 o.f2 o.f3 o.f4) true := by
  refine Ev.step (f := fun _ => some true) (fun k => ?_) (Ev.now _)
  unfold op_Same.f
  rw [if_pos rfl, if_pos rfl, if_pos rfl, if_pos rfl, ho]
  rfl
theorem ProgTwice : watchbilllaw6_ProgTwice.Pure := by
  intro a0 a1 a2 h0 h1 h2
  have b0 := Go.Proofs.YtjnhahdelipebaaH.wf_u8 h0
  have b1 := Go.Proofs.YtjnhahdelipebaaH.wf_u8 h1
  have b2 := Go.Proofs.YtjnhahdelipebaaH.wf_u8 h2
  obtain ⟨K, hK⟩ : ∃ K : Nat, K = 1 + a0.toNat % 32 := ⟨_, rfl⟩
  have eK : wrap64 (1 + wrap64 (Int.tmod a0 32)) = (K : Int) := by
    rw [Int.tmod_eq_emod_of_nonneg b0.1, Prog.w64 (x := a0 % 32) (by omega) (by omega), Prog.w64 (by omega) (by omega)]
    omega
  obtain ⟨x, hx⟩ : ∃ x, x = wrap64 (1 + wrap64 a1) := ⟨_, rfl⟩
  have hxv : x = 1 + a1 := by rw [hx, Prog.w64 (x := a1) (by omega) (by omega), Prog.w64 (by omega) (by omega)]
  obtain ⟨y, hy⟩ : ∃ y, y = wrap64 (1 + wrap64 a2) := ⟨_, rfl⟩
  have hyv : y = 1 + a2 := by rw [hy, Prog.w64 (x := a2) (by omega) (by omega), Prog.w64 (by omega) (by omega)]
  have k1 : 1 ≤ K ∧ K ≤ 32 := by omega
  have x1 : 1 ≤ x ∧ x ≤ 1000 := by omega
  have y1 : 1 ≤ y ∧ y ≤ 1000 := by omega
  have hfl := twQ_flat K k1 x y
  have hlen : (rep K (twP x y)).length = K * 4 := rep_len _ _
  have hq6 : (twQ K x y).length = 6 := rfl
  have hflat : Ev (fun k => prog_Flat.f k (twQ K x y)) (rep K (twP x y)) := flat_prog hfl (by omega) (by omega)
  have hsec3 : Ev (fun k => prog_Section.f k (twQ K x y) 3) y := by
    have := Prog.section_flat 3 (twQ K x y) _ hflat (by omega)
    obtain ⟨n, rfl⟩ : ∃ n, K = n + 1 := ⟨K - 1, by omega⟩
    unfold Prog.secL at this
    rw [rep_sec3 y x y1 n] at this
    exact this
  have hsec2 : Ev (fun k => prog_Section.f k (twQ K x y) 2) 0 := by
    have := Prog.section_flat 2 (twQ K x y) _ hflat (by omega)
    unfold Prog.secL at this
    rw [rep_sec2 y x K] at this
    exact this
  have hm0 : Ev (fun k => prog_Match.f k (twQ K x y) 0) 5 := Ev.of (fun k => prog_Match.mono _ _ k) (k := 10) (by kernel_rfl)
  have hm5 : Ev (fun k => prog_Match.f k (twQ K x y) 5) 0 := Ev.of (fun k => prog_Match.mono _ _ k) (k := 10) (by kernel_rfl)
  have hKx : 0 ≤ (K : Int) * (x + y) ∧ (K : Int) * (x + y) ≤ 32 * 2000 := ⟨Int.mul_nonneg (by omega) (by omega), Int.mul_le_mul (by omega) (by omega) (by omega) (by decide)⟩
  have hsum : sumW runW (rep K (twP x y)) = (K : Int) * (x + y) := by
    rw [sumW_rep]
    congr 1
    simp [sumW, twP, runW]
  have hco : ∀ k, prog_Cost.f k (twQ K x y) = some ((K : Int) * (x + y)) := by
    intro k
    unfold prog_Cost.f
    rw [if_pos (by omega), cost_flat hfl (by decide) (by
      intro o ho
      simp only [twQ, twP, List.mem_append, List.mem_cons, List.not_mem_nil, or_false] at ho
      rcases ho with (rfl | rfl | rfl | rfl | rfl) | rfl <;> simp [runW] <;> omega) (by rw [hsum]; omega), hsum]
  have hst : ∀ k, prog_Steps.f k (twQ K x y) = some ((K * 4 : Nat) : Int) := by
    intro k
    unfold prog_Steps.f
    rw [if_pos (by omega), steps_flat hfl (by decide) (by omega), hlen]
  have hloop : ∀ d i : Nat, K * 4 - i = d → i ≤ K * 4 → Ev (fun k => watchbilllaw6_ProgTwice.l0 k (twP x y) (rep K (twP x y)) (i : Int)) true := by
    intro d
    induction d with
    | zero =>
      intro i hd hi
      refine Ev.step (f := fun _ => some true) (fun k => ?_) (Ev.now _)
      rw [watchbilllaw6_ProgTwice.l0, if_neg (by omega)]
    | succ d ih =>
      intro i hd hi
      have hi2 := ih (i + 1) (by omega) (by omega)
      have et : Int.tmod (i : Int) 4 = ((i % 4 : Nat) : Int) := by rw [Int.tmod_eq_emod_of_nonneg (by omega)]; omega
      obtain ⟨o, ho⟩ : ∃ o, (twP x y)[i % 4]? = some o := ⟨_, List.getElem?_eq_getElem (by simp only [twP, List.length_cons, List.length_nil]; omega)⟩
      have e1 : rd_T52 (rep K (twP x y)) (i : Int) = o := by
        have := rep_get4 (twP x y) rfl K i (by omega)
        rw [ho] at this
        simp [rd_T52, List.getD, this]
      have e2 : rd_T52 (twP x y) ((i % 4 : Nat) : Int) = o := by
        have all : ∀ q : Nat, (twP x y)[q]? = some o → rd_T52 (twP x y) (q : Int) = o := fun q h => by simp [rd_T52, List.getD, h]
        exact all _ ho
      have ho4 : o.f4 = [] := by
        rcases (show i % 4 = 0 ∨ i % 4 = 1 ∨ i % 4 = 2 ∨ i % 4 = 3 by omega) with h | h | h | h <;> rw [h] at ho <;> cases ho <;> rfl
      have hb : Ev (fun k => (op_Same.f k o.f0 o.f1 o.f2 o.f3 o.f4 o.f0 o.f1 o.f2 o.f3 o.f4).bind fun t => if t = true then watchbilllaw6_ProgTwice.l0 k (twP x y) (rep K (twP x y)) (((i + 1 : Nat)) : Int) else some false) true := by
        refine Ev.bind (f := fun k t => if t = true then watchbilllaw6_ProgTwice.l0 k (twP x y) (rep K (twP x y)) (((i + 1 : Nat)) : Int) else some false) (same_ev o ho4) ?_
        simp only [if_true]
        exact hi2
      refine Ev.step (fun k => ?_) hb
      rw [watchbilllaw6_ProgTwice.l0, if_pos (by omega), if_pos (by omega), et, if_pos (by omega), if_pos (by simp only [twP, List.length_cons, List.length_nil]; omega), e1, e2, Prog.w1 (by omega)]
  have hj : Ev (fun k => watchbilllaw6_ProgTwice.j0 k (twP x y) (rep K (twP x y)) false) true := by
    refine Ev.step (fun k => ?_) (hloop (K * 4) 0 (by omega) (by omega))
    rw [watchbilllaw6_ProgTwice.j0, if_neg (by decide)]
    rfl
  suffices h : Ev (fun k => watchbilllaw6_ProgTwice.f k a0 a1 a2) true from h.rounds
  have hcoE : Ev (fun k => prog_Cost.f k (twQ K x y)) ((K : Int) * (x + y)) := ⟨0, fun k _ => hco k⟩
  have hstE : Ev (fun k => prog_Steps.f k (twQ K x y)) ((K * 4 : Nat) : Int) := ⟨0, fun k _ => hst k⟩
  have ew1 : wrap64 ((K : Int) * wrap64 (x + y)) = (K : Int) * (x + y) := by rw [Prog.w64 (x := x + y) (by omega) (by omega), Prog.w64 (by omega) (by omega)]
  have ew2 : wrap64 (4 * (K : Int)) = ((K * 4 : Nat) : Int) := by rw [Prog.w64 (by omega) (by omega)]; omega
  have hbody : Ev (fun k => (prog_Flat.f k (twQ K x y)).bind fun t => (if (0 : Int) = 0 then ((prog_Cost.f k (twQ K x y)).bind fun c => (if c = wrap64 ((K : Int) * wrap64 (x + y)) then ((prog_Steps.f k (twQ K x y)).bind fun s => (if s = wrap64 (4 * (K : Int)) then (if (t.length : Int) = wrap64 (4 * (K : Int)) then ((prog_Section.f k (twQ K x y) 3).bind fun t3 => (if t3 = y then ((prog_Section.f k (twQ K x y) 2).bind fun t2 => (if t2 = 0 then ((prog_Match.f k (twQ K x y) 0).bind fun u => (if u = 5 then ((prog_Match.f k (twQ K x y) 5).bind fun v => watchbilllaw6_ProgTwice.j0 k (twP x y) t (v != 0)) else watchbilllaw6_ProgTwice.j0 k (twP x y) t true)) else watchbilllaw6_ProgTwice.j0 k (twP x y) t true)) else watchbilllaw6_ProgTwice.j0 k (twP x y) t true)) else watchbilllaw6_ProgTwice.j0 k (twP x y) t true) else watchbilllaw6_ProgTwice.j0 k (twP x y) t true)) else watchbilllaw6_ProgTwice.j0 k (twP x y) t true)) else watchbilllaw6_ProgTwice.j0 k (twP x y) t true)) true := by
    refine Ev.bind (f := fun k t => (if (0 : Int) = 0 then ((prog_Cost.f k (twQ K x y)).bind fun c => (if c = wrap64 ((K : Int) * wrap64 (x + y)) then ((prog_Steps.f k (twQ K x y)).bind fun s => (if s = wrap64 (4 * (K : Int)) then (if (t.length : Int) = wrap64 (4 * (K : Int)) then ((prog_Section.f k (twQ K x y) 3).bind fun t3 => (if t3 = y then ((prog_Section.f k (twQ K x y) 2).bind fun t2 => (if t2 = 0 then ((prog_Match.f k (twQ K x y) 0).bind fun u => (if u = 5 then ((prog_Match.f k (twQ K x y) 5).bind fun v => watchbilllaw6_ProgTwice.j0 k (twP x y) t (v != 0)) else watchbilllaw6_ProgTwice.j0 k (twP x y) t true)) else watchbilllaw6_ProgTwice.j0 k (twP x y) t true)) else watchbilllaw6_ProgTwice.j0 k (twP x y) t true)) else watchbilllaw6_ProgTwice.j0 k (twP x y) t true) else watchbilllaw6_ProgTwice.j0 k (twP x y) t true)) else watchbilllaw6_ProgTwice.j0 k (twP x y) t true)) else watchbilllaw6_ProgTwice.j0 k (twP x y) t true)) hflat ?_
    simp only [if_true]
    refine Ev.bind (f := fun k c => (if c = wrap64 ((K : Int) * wrap64 (x + y)) then _ else _)) hcoE ?_
    simp only [ew1, if_true]
    refine Ev.bind (f := fun k s => (if s = wrap64 (4 * (K : Int)) then _ else _)) hstE ?_
    simp only [ew2, if_true, hlen]
    refine Ev.bind hsec3 ?_
    simp only [if_true]
    refine Ev.bind hsec2 ?_
    simp only [if_true]
    refine Ev.bind hm0 ?_
    simp only [if_true]
    refine Ev.bind hm5 ?_
    exact hj
  refine Ev.congr (fun k => ?_) hbody
  show (if true = true then _ else some false) = _
  rw [if_pos rfl, eK, ← hx, ← hy]
  simp only [Option.bind_some]
  rw [if_pos (by simp)]
  (try simp only [Option.bind_some])
  rw [if_pos (by simp)]
  (try simp only [Option.bind_some])
  have eq1 : ([(⟨8, (K : Int), 0, 0, []⟩ : OpS)] ++ [⟨1, x, 0, 0, []⟩, ⟨2, 3, 0, 0, []⟩, ⟨1, y, 0, 0, []⟩, ⟨3, 3, 0, 0, []⟩]) ++ [⟨9, 0, 0, 0, []⟩] = twQ K x y := rfl
  have eq2 : ([⟨1, x, 0, 0, []⟩, ⟨2, 3, 0, 0, []⟩, ⟨1, y, 0, 0, []⟩, ⟨3, 3, 0, 0, []⟩] : List OpS) = twP x y := rfl
  rw [eq1, eq2, twQ_check K k1 x y x1 y1]
  rfl
end Go.Proofs.Ytjnhahdelipebaa.Pure
