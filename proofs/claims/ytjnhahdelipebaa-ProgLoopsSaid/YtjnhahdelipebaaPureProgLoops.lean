/- A run in loops within one another: what is told of it, in plain words. -/
import Derived.Test.YtjnhahdelipebaaEachFlat
import Derived.Test.YtjnhahdelipebaaXAx8
namespace Go.Proofs.Ytjnhahdelipebaa.Pure
set_option linter.unusedVariables false
set_option linter.unusedSimpArgs false
open Go.RowKit Go.Proofs.Ytjnhahdelipebaa.XA Go.Proofs.Ytjnhahdelipebaa.Nest Go.Proofs.YtjnhahdelipebaaW.PrintWords Go.Proofs.YtjnhahdelipebaaW.PrintLast Go.Proofs.YtjnhahdelipebaaW.PrintMore
abbrev OpS := S52
def runO (x : Int) : OpS := ⟨1, x, 0, 0, []⟩
def loopO (k : Nat) : OpS := ⟨8, (k : Int), 0, 0, []⟩
def endO : OpS := ⟨9, 0, 0, 0, []⟩
/-- How many rounds the i-th loop has. -/
def kN (l : List Int) (i : Nat) : Nat := 1 + (l.getD i 0).toNat % 32
def nestL (l : List Int) (x : Int) : Nat → List OpS
  | 0 => [runO x]
  | i + 1 => loopO (kN l i) :: nestL l x i ++ [endO]
def prodL (l : List Int) : Nat → Nat
  | 0 => 1
  | i + 1 => kN l i * prodL l i
def outL (l : List Int) (x : Int) : Nat → List OpS
  | 0 => [runO x]
  | i + 1 => rep (kN l i) (outL l x i) ++ []
theorem kN_le (l : List Int) (i : Nat) : 1 ≤ kN l i ∧ kN l i ≤ 32 := by unfold kN; omega
theorem nestL_len (l : List Int) (x : Int) : ∀ i, (nestL l x i).length = 2 * i + 1
  | 0 => rfl
  | i + 1 => by simp only [nestL, List.length_append, List.length_cons, List.length_nil, nestL_len l x i]; omega
theorem nestL_flat (l : List Int) (x : Int) : ∀ i, FlatR kdP nmP i (nestL l x i) (outL l x i)
  | 0 => .op 0 _ [] [] (by simp [runO, kdP]) (by simp [runO, kdP]) (.nil 0)
  | i + 1 => FlatR.loop i (loopO (kN l i)) endO (kN l i) (nestL l x i) (outL l x i) [] [] rfl rfl (kN_le l i) (nestL_flat l x i) rfl (.nil _)
theorem outL_len (l : List Int) (x : Int) : ∀ i, (outL l x i).length = prodL l i
  | 0 => rfl
  | i + 1 => by rw [outL, List.append_nil, rep_len, outL_len l x i, prodL]
theorem outL_run (l : List Int) (x : Int) : ∀ i, sumW runW (outL l x i) = (prodL l i : Int) * x
  | 0 => by simp [outL, prodL, sumW, runW, runO]
  | i + 1 => by
    rw [outL, List.append_nil, sumW_rep, outL_run l x i, prodL]
    simp [Int.mul_assoc]
theorem prodL_le (l : List Int) : ∀ i, 1 ≤ prodL l i ∧ prodL l i ≤ 32 ^ i
  | 0 => by simp [prodL]
  | i + 1 => by
    have h1 := prodL_le l i
    have h2 := kN_le l i
    refine ⟨Nat.mul_pos (by omega) (by omega), ?_⟩
    have := Nat.mul_le_mul h2.2 h1.2
    rw [prodL, Nat.pow_succ, Nat.mul_comm (32 ^ i)]
    exact this
theorem nestL_ok (l : List Int) (x : Int) (h1 : 1 ≤ x) (h2 : x ≤ 1000) : ∀ i, ∀ o ∈ (nestL l x i).map opTP, chkOpT o = 0
  | 0 => by
    intro o ho
    simp only [nestL, List.map_cons, List.map_nil, List.mem_cons, List.not_mem_nil, or_false] at ho
    subst ho
    simp [opTP, runO, chkOpT, chkOp, leastN, mostN]
    omega
  | i + 1 => by
    intro o ho
    have hk := kN_le l i
    simp only [nestL, List.map_append, List.map_cons, List.map_nil, List.mem_append, List.mem_cons, List.not_mem_nil, or_false] at ho
    rcases ho with (rfl | ho) | rfl
    · simp [opTP, loopO, chkOpT, chkOp, leastN, mostN]
      omega
    · exact nestL_ok l x h1 h2 i o ho
    · simp [opTP, endO, chkOpT, chkOp, leastN, mostN]
theorem nestL_run (l : List Int) (x : Int) (h1 : 1 ≤ x) : ∀ i, ∀ o ∈ nestL l x i, 0 ≤ runW o
  | 0 => by
    intro o ho
    simp only [nestL, List.mem_cons, List.not_mem_nil, or_false] at ho
    subst ho
    simp [runW, runO]
    omega
  | i + 1 => by
    intro o ho
    simp only [nestL, List.mem_append, List.mem_cons, List.not_mem_nil, or_false] at ho
    rcases ho with (rfl | ho) | rfl
    · simp [runW, loopO]
    · exact nestL_run l x h1 i o ho
    · simp [runW, endO]
theorem nestL_runQ (l : List Int) (x : Int) (i : Nat) (h : i ≤ 3) : runQ 0 ((nestL l x i).map opTP) [] [] = none := by
  rcases (show i = 0 ∨ i = 1 ∨ i = 2 ∨ i = 3 by omega) with rfl | rfl | rfl | rfl <;> rfl
theorem nestL_runB (l : List Int) (x : Int) (i : Nat) (h : 4 ≤ i) (h6 : i ≤ 6) : runQ 0 ((nestL l x i).map opTP) [] [] = some 3 := by
  rcases (show i = 4 ∨ i = 5 ∨ i = 6 by omega) with rfl | rfl | rfl <;> rfl
theorem check_nest (l : List Int) (x : Int) (h1 : 1 ≤ x) (h2 : x ≤ 1000) (m : Nat) (hm : m ≤ 6) : prog_Check.f (nestL l x m) = some (if 3 < m then (3, 11) else if 512 < (prodL l m : Int) then (0, 4) else (0, 0)) := by
  have hs := steps_flat (nestL_flat l x m) hm (by
    rw [outL_len]
    have := (prodL_le l m).2
    have h32 : 32 ^ m ≤ 32 ^ 6 := Nat.pow_le_pow_right (by decide) hm
    omega)
  rw [outL_len] at hs
  unfold prog_Check.f chkProgP
  rw [hs, if_neg (by rw [List.length_map, nestL_len]; omega), badOp_none _ _ (nestL_ok l x h1 h2 m)]
  simp only [Option.getD_none]
  by_cases h3 : 3 < m
  · rw [nestL_runB l x m (by omega) hm, if_pos h3]
  · rw [nestL_runQ l x m (by omega), if_neg h3]
theorem ProgLoops : watchbilllaw6_ProgLoops.Pure := by
  intro l a1 _ _ hl ha1
  have b1 := Go.Proofs.YtjnhahdelipebaaH.wf_u8 ha1
  obtain ⟨x, hx⟩ : ∃ x, x = wrap64 (1 + wrap64 a1) := ⟨_, rfl⟩
  have hxv : x = 1 + a1 := by rw [hx]; rw [Prog.w64 (x := a1) (by omega) (by omega), Prog.w64 (by omega) (by omega)]
  have hk : ∀ i : Nat, i < l.length → wrap64 (1 + wrap64 (Int.tmod (rd l (i : Int)) 32)) = (kN l i : Int) := by
    intro i hi
    have hm : l.getD i 0 ∈ l := by simp [List.getD, hi]
    have hb := Go.Proofs.YtjnhahdelipebaaH.wf_u8 (hl _ hm)
    have e : rd l (i : Int) = l.getD i 0 := by simp [rd]
    rw [e, Int.tmod_eq_emod_of_nonneg hb.1, Prog.w64 (x := l.getD i 0 % 32) (by omega) (by omega), Prog.w64 (by omega) (by omega)]
    unfold kN
    omega
  suffices h : Ev (fun k => watchbilllaw6_ProgLoops.f k l a1) true from h.rounds
  show Ev (fun k => if true = true then (if (l.length : Int) > 6 then some true else watchbilllaw6_ProgLoops.l0 k l a1 [⟨1, wrap64 (1 + wrap64 a1), 0, 0, []⟩] 1 0) else some false) true
  simp only [if_true]
  by_cases h6 : (l.length : Int) > 6
  · simp only [if_pos h6]; exact Ev.now _
  · simp only [if_neg h6]
    have hm6 : l.length ≤ 6 := by omega
    rw [← hx]
    have hfin : Ev (fun k => watchbilllaw6_ProgLoops.l0 k l a1 (nestL l x l.length) (prodL l l.length : Int) (l.length : Int)) true := by
      have hp := prodL_le l l.length
      have hmt : 0 < l.length → Ev (fun k => prog_Match.f k (nestL l x l.length) 0) ((2 * l.length : Nat) : Int) := by
        intro h0
        obtain ⟨m, hm⟩ : ∃ m, l.length = m + 1 := ⟨l.length - 1, by omega⟩
        rw [hm]
        have := match_ev (pre := []) (preo := []) (FlatR.nil 0) (nestL_flat l x m) (loopO (kN l m)) endO [] rfl rfl (nestL l x (m + 1)) (by simp [nestL]) (by rw [nestL_len]; omega)
        simp only [List.length_nil, nestL_len] at this
        rw [show 0 + 1 + (2 * m + 1) = 2 * (m + 1) by omega] at this
        exact this
      have hck := check_nest l x (by omega) (by omega) l.length hm6
      have hst : ∀ k, l.length ≤ 3 → prog_Steps.f k (nestL l x l.length) = some (prodL l l.length : Int) := by
        intro k h3
        unfold prog_Steps.f
        rw [if_pos (by rw [nestL_len]; omega), steps_flat (nestL_flat l x l.length) hm6 (by
          rw [outL_len]
          have h32 : 32 ^ l.length ≤ 32 ^ 3 := Nat.pow_le_pow_right (by decide) h3
          omega), outL_len]
      have hpx : l.length ≤ 3 → 0 ≤ (prodL l l.length : Int) * x ∧ (prodL l l.length : Int) * x ≤ 32768 * 256 := by
        intro h3
        have h32 : 32 ^ l.length ≤ 32 ^ 3 := Nat.pow_le_pow_right (by decide) h3
        exact ⟨Int.mul_nonneg (by omega) (by omega), Int.mul_le_mul (by omega) (by omega) (by omega) (by decide)⟩
      have hco : ∀ k, l.length ≤ 3 → prog_Cost.f k (nestL l x l.length) = some ((prodL l l.length : Int) * x) := by
        intro k h3
        have := hpx h3
        unfold prog_Cost.f
        rw [if_pos (by rw [nestL_len]; omega), cost_flat (nestL_flat l x l.length) hm6 (nestL_run l x (by omega) l.length) (by rw [outL_run]; omega), outL_run]
      by_cases h3 : 3 < l.length
      · refine Ev.step (f := fun _ => some true) (fun k => ?_) (Ev.now _)
        rw [watchbilllaw6_ProgLoops.l0, if_neg (by omega), hck]
        simp only [Option.bind_some]
        rw [if_pos (by omega), if_pos h3]
        rfl
      · by_cases h512 : 512 < (prodL l l.length : Int)
        · refine Ev.step (f := fun _ => some true) (fun k => ?_) (Ev.now _)
          rw [watchbilllaw6_ProgLoops.l0, if_neg (by omega), hck]
          simp only [Option.bind_some]
          rw [if_neg (by omega), if_pos (by omega), if_neg h3, if_pos h512]
          rfl
        · have hx2 := hpx (by omega)
          have hend : Ev (fun k => if (l.length : Int) = 0 then some true else (prog_Match.f k (nestL l x l.length) 0).bind fun t => some (t == wrap64 (2 * (l.length : Int)))) true := by
            by_cases h0 : l.length = 0
            · refine Ev.congr (f := fun _ => some true) (fun k => ?_) (Ev.now _)
              rw [if_pos (by omega)]
            · refine Ev.congr (f := fun k => (prog_Match.f k (nestL l x l.length) 0).bind fun t => some (t == wrap64 (2 * (l.length : Int)))) (fun k => ?_) ?_
              · rw [if_neg (by omega)]
              · refine Ev.bind (f := fun _ t => some (t == wrap64 (2 * (l.length : Int)))) (hmt (by omega)) ?_
                rw [Prog.w64 (by omega) (by omega)]
                simp only [Int.natCast_mul, Int.cast_ofNat_Int, beq_self_eq_true]
                exact Ev.now _
          refine Ev.step (fun k => ?_) hend
          rw [watchbilllaw6_ProgLoops.l0, if_neg (by omega), hck]
          simp only [Option.bind_some]
          rw [if_neg (by omega), if_neg (by omega), if_neg h3, if_neg h512]
          simp only [if_true]
          rw [hco k (by omega), ← hx]
          simp only [Option.bind_some]
          rw [Prog.w64 (x := (prodL l l.length : Int) * x) (by omega) (by omega), if_pos rfl, hst k (by omega)]
          simp only [Option.bind_some, if_true]
    have hloop : ∀ d i : Nat, l.length - i = d → i ≤ l.length → Ev (fun k => watchbilllaw6_ProgLoops.l0 k l a1 (nestL l x i) (prodL l i : Int) (i : Int)) true := by
      intro d
      induction d with
      | zero =>
        intro i hd hi
        obtain rfl : i = l.length := by omega
        exact hfin
      | succ d ih =>
        intro i hd hi
        have hi2 := ih (i + 1) (by omega) (by omega)
        refine Ev.step (fun k => ?_) hi2
        have hp := prodL_le l i
        have h32 : 32 ^ i ≤ 32 ^ 6 := Nat.pow_le_pow_right (by decide) (by omega)
        have hkk := kN_le l i
        have hpk : kN l i * prodL l i ≤ 32 * 32 ^ 6 := Nat.mul_le_mul hkk.2 (by omega)
        have hw : wrap64 ((prodL l i : Int) * (kN l i : Int)) = ((kN l i * prodL l i : Nat) : Int) := by
          rw [← Int.natCast_mul, Nat.mul_comm]
          exact Prog.w64 (by omega) (by omega)
        rw [watchbilllaw6_ProgLoops.l0, if_pos (by omega), if_pos (by omega), hk i (by omega)]
        simp only [Option.bind_some]
        rw [if_pos (by simp only [List.length_cons, List.length_nil, nestL_len]; omega)]
        (try simp only [Option.bind_some])
        rw [if_pos (by simp only [List.length_append, List.length_cons, List.length_nil, nestL_len]; omega), hw, Prog.w1 (by omega)]
        rfl
    exact hloop l.length 0 (by omega) (by omega)
end Go.Proofs.Ytjnhahdelipebaa.Pure
