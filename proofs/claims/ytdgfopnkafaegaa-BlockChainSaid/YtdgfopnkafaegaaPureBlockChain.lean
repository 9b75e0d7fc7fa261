/- Tasks in a row, each with one lock: who holds up whom, in plain words. -/
import Derived.Test.YtdgfopnkafaegaaIsMax
import Derived.Test.YtdgfopnkafaegaaPlainEv
import Derived.Test.YtdgfopnkafaegaaXAx8
namespace Go.Proofs.Ytdgfopnkafaegaa.Pure
set_option linter.unusedVariables false
set_option linter.unusedSimpArgs false
open Go.RowKit Go.Proofs.Ytdgfopnkafaegaa.XA Go.Proofs.YtdgfopnkafaegaaW.PrintWords Go.Proofs.YtdgfopnkafaegaaW.PrintLast Go.Proofs.YtdgfopnkafaegaaW.PrintMore
open Go.Proofs.YtdgfopnkafaegaaH (prios dlt prios_get prios_len ahead_lt ahead_iff)

/-- Which lock, how long. -/
def lk (l : List Int) (i : Nat) : Int := wrap64 (Int.tmod (rd l i) 4)
def hold (n : List Int) (i : Nat) : Int := wrap64 (1 + wrap64 (rd n i))
def chP (k c : Int) : List S51 := [⟨2, k, 0, 0, []⟩, ⟨1, c, 0, 0, []⟩, ⟨3, k, 0, 0, []⟩]
def chT0 (s : ByteArray) (d k c : Int) : S54 := ⟨s, 900, d, 300, chP k c⟩
theorem chT0_f2 (s : ByteArray) (d k c : Int) : (chT0 s d k c).f2 = d := rfl
def chT (l n : List Int) (i : Nat) : S54 := chT0 (strOfNums (([(wrap64 (97 + (i : Int))) % 256] : List Int))) (wrap64 (300 + (i : Int))) (lk l i) (hold n i)
def chS (l n : List Int) (q : Nat) : List S54 := (List.range q).map (chT l n)
theorem chS_len (l n : List Int) (q : Nat) : (chS l n q).length = q := by simp [chS]
theorem chS_get (l n : List Int) (q i : Nat) (h : i < q) : rd_T54 (chS l n q) i = chT l n i := by simp [rd_T54, chS, List.getD, h]
theorem chP_plain (k c : Int) : ∀ o ∈ chP k c, o.f0 ≠ 8 := by
  intro o ho
  simp only [chP, List.mem_cons, List.not_mem_nil, or_false] at ho
  rcases ho with rfl | rfl | rfl <;> simp
theorem chP_locks (k c : Int) : locksL (chP k c) = [k] := rfl
theorem mx0 (c : Int) (h : 0 ≤ c) : mx 0 c = c := by
  unfold mx
  split <;> omega
theorem mn_l {a b : Int} (h : a ≤ b) : mn a b = a := by
  unfold mn
  split <;> omega
theorem chP_sec (k c x : Int) (hc : 0 ≤ c ∧ c ≤ 1000) : Prog.secL x (chP k c) = if k = x then c else 0 := by
  unfold Prog.secL chP
  simp only [List.foldl_cons, List.foldl_nil]
  by_cases e : k = x
  · subst e
    simp [Prog.secS]
    rw [Prog.w64 (by omega) (by omega), mx0 c hc.1]
  · simp [Prog.secS, e]
theorem chP_cost (k c : Int) (hc : 0 ≤ c ∧ c ≤ 1000) : Prog.costL (chP k c) = c := by
  unfold Prog.costL chP
  simp
  rw [Prog.w64 (x := c) (by omega) (by omega), Prog.w64 (by omega) (by omega)]

section
variable (l n : List Int) (hl : ∀ x ∈ l, (Lit.int .u8 x).wf = true) (hn : ∀ x ∈ n, (Lit.int .u8 x).wf = true) (h12 : l.length ≤ 12) (hln : l.length ≤ n.length)
include hl in
theorem lk_of (i : Nat) (h : i < l.length) : lk l i = l.getD i 0 % 4 ∧ 0 ≤ lk l i ∧ lk l i < 4 := by
  have hm : l.getD i 0 ∈ l := by simp [List.getD, h]
  have := u8_of (hl _ hm)
  unfold lk
  rw [rd_nat, Int.tmod_eq_emod_of_nonneg (by omega), w64 (by omega) (by omega)]
  omega
include hn in
theorem hold_of (i : Nat) (h : i < n.length) : hold n i = 1 + n.getD i 0 ∧ 1 ≤ hold n i ∧ hold n i ≤ 256 := by
  have hm : n.getD i 0 ∈ n := by simp [List.getD, h]
  have := u8_of (hn _ hm)
  unfold hold
  rw [rd_nat, w64 (x := n.getD i 0) (by omega) (by omega), w64 (by omega) (by omega)]
  omega
theorem dls_chS (q i : Nat) (h : i < q) (hq : q ≤ 1000000) : (dls (chS l n q)).getD i 0 = 300 + i := by
  have hw : wrap64 (300 + (i : Int)) = 300 + i := w64 (by omega) (by omega)
  have hg : (dls (chS l n q)).getD i 0 = (chT l n i).f2 := by
    rw [dls, chS, List.map_map, List.getD, List.getElem?_map, List.getElem?_range h, Option.map_some, Option.getD_some, Function.comp_apply]
  rw [hg, chT, chT0_f2, hw]
theorem dlt_chS (q i j : Nat) (hi : i < q) (hj : j < q) (hq : q ≤ 1000000) : dlt (dls (chS l n q)) i j = decide (i < j) := by
  unfold dlt
  rw [dls_chS l n q i hi hq, dls_chS l n q j hj hq]
  congr 1
  simp only [eq_iff_iff]
  omega
/-- Who is above whom. -/
theorem prio_le (q i j : Nat) (hi : i < q) (hj : j < q) (hq : q ≤ 1000000) : (prios (dls (chS l n q))).getD i 0 ≤ (prios (dls (chS l n q))).getD j 0 ↔ j ≤ i := by
  have hlen : (dls (chS l n q)).length = q := by rw [dls_len, chS_len]
  rw [prios_get _ i (by omega), prios_get _ j (by omega)]
  by_cases e : i = j
  · subst e
    simp
  · have h := ahead_iff (dls (chS l n q)) i j (by omega) (by omega) e
    rw [dlt_chS l n q i j hi hj hq] at h
    simp only [decide_eq_true_eq] at h
    constructor
    · intro h1
      rcases Nat.lt_or_ge i j with h2 | h2
      · have := h.2 h2
        omega
      · exact h2
    · intro h1
      rcases Nat.lt_or_ge (Go.Proofs.YtdgfopnkafaegaaH.ahead (dls (chS l n q)) i) (Go.Proofs.YtdgfopnkafaegaaH.ahead (dls (chS l n q)) j) with h2 | h2
      · have := h.1 h2
        omega
      · omega
theorem prio_pos (q i : Nat) (hi : i < q) : 1 ≤ (prios (dls (chS l n q))).getD i 0 := by
  have hlen : (dls (chS l n q)).length = q := by rw [dls_len, chS_len]
  rw [prios_get _ i (by omega)]
  have := ahead_lt (dls (chS l n q)) i (by omega)
  omega
/-- Who may hold up i. -/
def Bad (l : List Int) (i k : Nat) : Prop := i < k ∧ k < l.length ∧ ∃ j, j ≤ i ∧ lk l j = lk l k
include hl hn h12 hln in
theorem chain_block (h1 : 1 ≤ l.length) : ∃ B : List Int, Ev (fun k => block_Of.f k 4 [] (chS l n l.length)) B ∧ B.length = l.length ∧ ∀ i, i < l.length → IsMax (Bad l i) (hold n) (B.getD i 0) := by
  have hlen : (chS l n l.length).length = l.length := chS_len ..
  have hb := block_ev (fun i => [lk l i]) (fun x i => if lk l i = x then hold n i else 0) 4 [] (chS l n l.length) (by omega) (by decide)
    (fun i hi => by
      rw [chS_get l n _ i (by omega)]
      have := Prog.locks_ev (chP (lk l i) (hold n i)) (by simp [chP]) (by rw [chP_locks]; simp) (by rw [chP_locks]; simp)
      rw [chP_locks] at this
      exact this)
    (fun i => by simp)
    (fun x => sectsL (chS l n l.length) (fun i => if lk l i = x then hold n i else 0) (fun i => hold n i) (chS l n l.length).length)
    (fun x hx => sects_ev 4 [] (chS l n l.length) (by omega) x _ _ (fun i hi => by
      rw [chS_get l n _ i (by omega)]
      have hh := hold_of n hn i (by omega)
      have := Prog.section_ev x (chP (lk l i) (hold n i)) (chP_plain _ _) (by simp [chP])
      rw [chP_sec _ _ _ (by omega)] at this
      exact this) (fun i hi => by
      rw [chS_get l n _ i (by omega)]
      have hh := hold_of n hn i (by omega)
      have := Prog.cost_ev (chP (lk l i) (hold n i)) (chP_plain _ _) (by simp [chP])
      rw [chP_cost _ _ (by omega)] at this
      exact this) (by omega) (by omega))
    (fun x hx => by simp [sectsL])
    (fun x hx k hk => by
      have hh := hold_of n hn k (by omega)
      simp only [sectsL, List.getD, List.getElem?_map, List.getElem?_range hk, Option.map_some, Option.getD_some]
      rw [chS_get l n _ k (by omega)]
      have e3 : (chT l n k).f3 = 300 := rfl
      rw [e3, mn_l (a := hold n k) (by omega)]
      apply mn_l
      split <;> omega)
  have hpl : (prios (dls (chS l n l.length))).length = l.length := by rw [prios_len, dls_len, hlen]
  refine ⟨_, hb, by simp [blockL, hpl], fun i hi => ?_⟩
  have hcl : (ceilsL (prios (dls (chS l n l.length))) (fun i => [lk l i]) (chS l n l.length).length 4).length = 4 := by simp [ceilsL]
  have e : (blockL (prios (dls (chS l n l.length))) (ceilsL (prios (dls (chS l n l.length))) (fun i => [lk l i]) (chS l n l.length).length 4) (fun x i => if lk l i = x then hold n i else 0) (fun i => whichL (prios (dls (chS l n l.length))) i (-1))).getD i 0
      = blkV (ceilsL (prios (dls (chS l n l.length))) (fun i => [lk l i]) (chS l n l.length).length 4) (fun x i => if lk l i = x then hold n i else 0) ((prios (dls (chS l n l.length))).getD i 0) (whichL (prios (dls (chS l n l.length))) i (-1)) 4 := by
    simp [blockL, List.getD, hpl, hi, hcl]
  rw [e]
  refine (blkV_max (c := hold n) _ _ _ _ (fun x k => lk l k = x) 4 (fun y _ k _ => rfl)).congr fun k => ?_
  have hwl : k ∈ whichL (prios (dls (chS l n l.length))) i (-1) ↔ i < k ∧ k < l.length := by
    rw [whichL_low _ i (by rw [dls_len]; omega), List.mem_filter, List.mem_range, dls_len, hlen]
    constructor
    · rintro ⟨h2, h3⟩
      rw [dlt_chS l n _ i k hi h2 (by omega)] at h3
      exact ⟨by simpa using h3, h2⟩
    · rintro ⟨h2, h3⟩
      refine ⟨h3, ?_⟩
      rw [dlt_chS l n _ i k hi h3 (by omega)]
      simpa using h2
  have hcg : ∀ y, y < 4 → (¬ (ceilsL (prios (dls (chS l n l.length))) (fun i => [lk l i]) (chS l n l.length).length 4).getD y 0 < (prios (dls (chS l n l.length))).getD i 0 ↔ ∃ j, j ≤ i ∧ lk l j = y) := by
    intro y hy
    have e2 : (ceilsL (prios (dls (chS l n l.length))) (fun i => [lk l i]) (chS l n l.length).length 4).getD y 0 = ceilV (prios (dls (chS l n l.length))) (fun i => [lk l i]) y l.length := by
      simp [ceilsL, List.getD, hy, hlen]
    rw [e2]
    have hm := ceilV_max (prios (dls (chS l n l.length))) (fun i => [lk l i]) y l.length
    have hpi := prio_pos l n l.length i hi
    constructor
    · intro h2
      rcases hm.one with h3 | ⟨j, ⟨hj, hmem⟩, h3⟩
      · omega
      · refine ⟨j, ?_, (List.mem_singleton.1 hmem).symm⟩
        exact (prio_le l n l.length i j hi hj (by omega)).1 (by omega)
    · rintro ⟨j, hj, he⟩ h2
      have h3 := hm.above j ⟨by omega, by simp [he]⟩
      have h4 := (prio_le l n l.length i j hi (by omega) (by omega)).2 hj
      omega
  constructor
  · rintro ⟨y, h2, h3, h4, h5⟩
    obtain ⟨h6, h7⟩ := hwl.1 h4
    obtain ⟨j, hj, he⟩ := (hcg y h2).1 h3
    exact ⟨h6, h7, j, hj, he.trans h5.symm⟩
  · rintro ⟨h2, h3, j, hj, he⟩
    have hk := lk_of l hl k h3
    obtain ⟨y, hy⟩ : ∃ y : Nat, (y : Int) = lk l k := ⟨(lk l k).toNat, by omega⟩
    have hy4 : y < 4 := by omega
    exact ⟨y, hy4, (hcg y hy4).2 ⟨j, hj, by omega⟩, hwl.2 ⟨h2, h3⟩, hy.symm⟩

/-- The law's own loop over those ahead: is one of them as great? -/
theorem chain_l3 (B : List Int) (hl1 : l.length ≤ 12) (i k : Nat) (hi : i < l.length) (hk : k < l.length) (hkn : k < n.length) (w : Int) (hlm : ∀ j, j < l.length → Int.tmod (rd l j) 4 = lk l j) (R : Bool)
    (hyes : (∃ j, j ≤ i ∧ lk l j = lk l k) → Ev (fun f => watchbilllaw11_BlockChain.l2 f l n B i (mx w (hold n k)) ((k + 1 : Nat) : Int)) R)
    (hno : (¬ ∃ j, j ≤ i ∧ lk l j = lk l k) → Ev (fun f => watchbilllaw11_BlockChain.l2 f l n B i w ((k + 1 : Nat) : Int)) R) : ∀ d q : Nat, i + 1 - q = d → q ≤ i + 1 → ∀ g : Bool, (g = true ↔ ∃ j, j < q ∧ lk l j = lk l k) →
    Ev (fun f => watchbilllaw11_BlockChain.l3 f l n B i w k g q) R := by
  intro d
  induction d with
  | zero =>
    intro q hd hq g hg
    obtain rfl : q = i + 1 := by omega
    have hg' : g = true ↔ ∃ j, j ≤ i ∧ lk l j = lk l k := by
      rw [hg]
      constructor <;> rintro ⟨j, h1, h2⟩ <;> exact ⟨j, by omega, h2⟩
    cases g with
    | true =>
      refine Ev.step (fun f => ?_) (hyes (hg'.1 rfl))
      rw [watchbilllaw11_BlockChain.l3, if_neg (by omega), if_pos rfl, if_pos (by omega), if_pos (by omega), w1 (by omega)]
      rfl
    | false =>
      refine Ev.step (fun f => ?_) (hno (fun h => by have := hg'.2 h; cases this))
      rw [watchbilllaw11_BlockChain.l3, if_neg (by omega), if_neg (by decide), w1 (by omega)]
  | succ d ih =>
    intro q hd hq
    have e1 : i + 1 - (q + 1) = d := by omega
    have e2 : q + 1 ≤ i + 1 := by omega
    intro g hg
    cases g with
    | true =>
      obtain ⟨j, h1, h2⟩ := hg.1 rfl
      have hi := ih (q + 1) e1 e2 true ⟨fun _ => ⟨j, by omega, h2⟩, fun _ => rfl⟩
      refine Ev.step (fun f => ?_) hi
      rw [watchbilllaw11_BlockChain.l3, if_pos (by omega), if_pos rfl, w1 (by omega)]
    | false =>
      have hi := ih (q + 1) e1 e2 (Int.tmod (rd l q) 4 == Int.tmod (rd l k) 4) (by
        rw [hlm q (by omega), hlm k hk, beq_iff_eq]
        constructor
        · intro h
          exact ⟨q, by omega, h⟩
        · rintro ⟨j, h1, h2⟩
          rcases Nat.lt_or_ge j q with h3 | h3
          · have := hg.2 ⟨j, h3, h2⟩
            cases this
          · obtain rfl : j = q := by omega
            exact h2)
      refine Ev.step (fun f => ?_) hi
      rw [watchbilllaw11_BlockChain.l3, if_pos (by omega), if_neg (by decide), if_pos (by omega), if_pos (by omega), if_pos (by omega), if_pos (by omega), w1 (by omega)]
include hl h12 hln in
theorem chain_l2 (B : List Int) (hB : B.length = l.length) (i : Nat) (hi : i < l.length) (hBi : IsMax (Bad l i) (hold n) (B.getD i 0)) (hcont : Ev (fun f => watchbilllaw11_BlockChain.l1 f l n B ((i + 1 : Nat) : Int)) true) : ∀ d k : Nat, l.length - k = d → k ≤ l.length → i < k → ∀ w : Int, IsMax (fun j => Bad l i j ∧ j < k) (hold n) w →
    Ev (fun f => watchbilllaw11_BlockChain.l2 f l n B i w k) true := by
  intro d
  induction d with
  | zero =>
    intro k hd hk hik w hw
    have : w = B.getD i 0 := (hw.congr (B := Bad l i) fun j => ⟨fun h => h.1, fun h => ⟨h, by have := h.2.1; omega⟩⟩).unique hBi
    refine Ev.step (fun f => ?_) hcont
    rw [watchbilllaw11_BlockChain.l2, if_neg (by omega), if_pos (by omega), if_pos (by omega), rd_nat, if_pos this.symm, w1 (by omega)]
  | succ d ih =>
    intro k hd hk hik w hw
    have hkl : k < l.length := by omega
    have h3 := chain_l3 l n B h12 i k hi hkl (by omega) w (fun j hj => by
        have hm : l.getD j 0 ∈ l := by simp [List.getD, hj]
        have := u8_of (hl _ hm)
        unfold lk
        rw [rd_nat, Int.tmod_eq_emod_of_nonneg (by omega), w64 (by omega) (by omega)]) true
      (fun hy => ih (k + 1) (by omega) (by omega) (by omega) _ ((hw.put k).congr fun j => by
        constructor
        · rintro (⟨h1, h2⟩ | rfl)
          · exact ⟨h1, by omega⟩
          · exact ⟨⟨hik, hkl, hy⟩, by omega⟩
        · rintro ⟨h1, h2⟩
          by_cases e : j = k
          · exact .inr e
          · exact .inl ⟨h1, by omega⟩))
      (fun hno => ih (k + 1) (by omega) (by omega) (by omega) _ (hw.congr fun j => by
        constructor
        · rintro ⟨h1, h2⟩
          exact ⟨h1, by omega⟩
        · rintro ⟨h1, h2⟩
          refine ⟨h1, ?_⟩
          rcases Nat.lt_or_ge j k with h | h
          · exact h
          · obtain rfl : j = k := by omega
            exact absurd h1.2.2 hno)) _ 0 rfl (by omega) false ⟨fun h => (by cases h), fun h => (by obtain ⟨j, h1, _⟩ := h; exact absurd h1 (Nat.not_lt_zero _))⟩
    refine Ev.step (fun f => ?_) h3
    rw [watchbilllaw11_BlockChain.l2, if_pos (by omega)]
    rfl
include hl h12 hln in
theorem chain_l1 (B : List Int) (hB : B.length = l.length) (hBi : ∀ i, i < l.length → IsMax (Bad l i) (hold n) (B.getD i 0)) : ∀ d i : Nat, l.length - i = d → i ≤ l.length → Ev (fun f => watchbilllaw11_BlockChain.l1 f l n B i) true := by
  intro d
  induction d with
  | zero =>
    intro i hd hi
    exact Ev.step (f := fun _ => some _) (fun k => by rw [watchbilllaw11_BlockChain.l1, if_neg (by omega)]) (Ev.now _)
  | succ d ih =>
    intro i hd hi
    have h2 := chain_l2 l n hl h12 hln B hB i (by omega) (hBi i (by omega)) (ih (i + 1) (by omega) (by omega)) _ (i + 1) rfl (by omega) (by omega) 0 ((IsMax.none _).congr fun k => ⟨fun h => h.elim, fun h => by have := h.1.1; omega⟩)
    refine Ev.step (fun f => ?_) h2
    rw [watchbilllaw11_BlockChain.l1, if_pos (by omega), w1 (by omega)]
include hl hn h12 hln in
theorem chain_l0 (h1 : 1 ≤ l.length) : ∀ d q : Nat, l.length - q = d → q ≤ l.length → Ev (fun f => watchbilllaw11_BlockChain.l0 f l n q 4 (chS l n q)) true := by
  intro d
  induction d with
  | zero =>
    intro q hd hq
    obtain rfl : q = l.length := by omega
    obtain ⟨B, hB, hlB, hBi⟩ := chain_block l n hl hn h12 hln h1
    refine Ev.step (fun f => by rw [watchbilllaw11_BlockChain.l0, if_neg (by omega)]) (Ev.bind hB ?_)
    refine Ev.congr (fun f => ?_) (chain_l1 l n hl h12 hln B hlB hBi _ 0 rfl (by omega))
    rw [if_pos (by omega)]
    rfl
  | succ d ih =>
    intro q hd hq
    have hi := ih (q + 1) (by omega) (by omega)
    refine Ev.step (fun f => ?_) hi
    rw [watchbilllaw11_BlockChain.l0, if_pos (by omega), if_pos (by omega), if_pos (by omega), chS_len, if_pos (by omega), w1 (by omega)]
    have e : chS l n (q + 1) = chS l n q ++ [chT l n q] := by simp [chS, List.range_succ]
    rw [e]
    rfl
end
set_option maxRecDepth 100000 in
theorem chain_known : watchbilllaw11_known.f 60 = some true := by kernel_rfl
theorem BlockChain : watchbilllaw11_BlockChain.Pure := by
  intro l n _ _ hl _ _ hn
  have hk : Ev (fun k => watchbilllaw11_known.f k) true := Ev.of watchbilllaw11_known.mono chain_known
  refine Ev.rounds (Ev.bind (f := fun k t => if t = true then (if (l.length : Int) < 1 then (watchbilllaw11_BlockChain.j0 k l n true) else (if (l.length : Int) > 12 then (watchbilllaw11_BlockChain.j0 k l n true) else (watchbilllaw11_BlockChain.j0 k l n (decide ((n.length : Int) < (l.length : Int)))))) else (some false)) hk ?_)
  have ht : Ev (fun k => watchbilllaw11_BlockChain.j0 k l n true) true := Ev.step (f := fun _ => some true) (fun k => by rw [watchbilllaw11_BlockChain.j0, if_pos rfl]) (Ev.now _)
  by_cases h1 : (l.length : Int) < 1
  · exact Ev.congr (fun k => by rw [if_pos rfl, if_pos h1]) ht
  · by_cases h2 : (l.length : Int) > 12
    · exact Ev.congr (fun k => by rw [if_pos rfl, if_neg h1, if_pos h2]) ht
    · by_cases h3 : (n.length : Int) < (l.length : Int)
      · exact Ev.congr (fun k => by rw [if_pos rfl, if_neg h1, if_neg h2, decide_eq_true h3]) ht
      · refine Ev.congr (fun k => by rw [if_pos rfl, if_neg h1, if_neg h2, decide_eq_false h3]) ?_
        have h := chain_l0 l n hl hn (by omega) (by omega) (by omega) _ 0 rfl (by omega)
        refine Ev.step (fun k => ?_) h
        rw [watchbilllaw11_BlockChain.j0, if_neg (by decide)]
        rfl
end Go.Proofs.Ytdgfopnkafaegaa.Pure
