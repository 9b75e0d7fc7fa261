/- What the printed CheckSet of the reference tells, in plain words. -/
import Derived.Test.YthdmomaephiodaaFlatRef
import Derived.Test.YthdmomaephiodaaXAx7
import Derived.Test.YthdmomaephiodaaXAx4
namespace Go.Proofs.Ythdmomaephiodaa.Nest
set_option linter.unusedVariables false
set_option linter.unusedSimpArgs false
open Go.RowKit Go.Proofs.Ythdmomaephiodaa.XA Go.Proofs.YthdmomaephiodaaW.PrintWords Go.Proofs.YthdmomaephiodaaW.PrintLast Go.Proofs.YthdmomaephiodaaW.PrintMore
/-- What is run, of ops as they are done. -/
def costRL (l : List S92) : Int := l.foldl (fun n o => if o.f0 = 1 then wrap64 (n + o.f1) else n) 0
theorem costR_loop (l : List S92) (hn : l.length ≤ 1000000000) : ∀ (d q : Nat) (n : Int), l.length - q = d → q ≤ l.length → Ev (fun k => watchbillref8_Cost.l0 k l n q) ((l.drop q).foldl (fun n o => if o.f0 = 1 then wrap64 (n + o.f1) else n) n) := by
  intro d
  induction d with
  | zero =>
    intro q n hd hq
    rw [List.drop_of_length_le (by omega)]
    exact Ev.step (f := fun _ => some _) (fun k => by rw [watchbillref8_Cost.l0, if_neg (by omega)]; rfl) (Ev.now _)
  | succ d ih =>
    intro q n hd hq
    have hlt : q < l.length := by omega
    have hr : rd_T92 l q = l[q] := by simp [rd_T92, List.getD, hlt]
    have hi := ih (q + 1) (if l[q].f0 = 1 then wrap64 (n + l[q].f1) else n) (by omega) (by omega)
    rw [List.drop_eq_getElem_cons hlt, List.foldl_cons]
    refine Ev.step (fun k => ?_) hi
    rw [watchbillref8_Cost.l0, if_pos (by omega), if_pos (by omega), hr, w1 (by omega)]
    by_cases h1 : l[q].f0 = 1
    · rw [if_pos h1, if_pos h1]
    · rw [if_neg h1, if_neg h1]
theorem flatR_len {l out : List S92} (h : FlatR kdR nmR 3 l out) (hn : l.length ≤ 48) : out.length ≤ 2000000 := by
  have := h.len
  have e : (32 : Nat) ^ 3 = 32768 := by decide
  rw [e] at this
  omega
theorem costR_ev {l out : List S92} (h : FlatR kdR nmR 3 l out) (hn : l.length ≤ 48) : Ev (fun k => watchbillref8_Cost.f k l) (costRL out) := by
  have hl := flatR_len h hn
  exact Ev.bind (f := fun k t => watchbillref8_Cost.l0 k t 0 0) (flat_ref h (by omega) (by omega)) (costR_loop out (by omega) _ 0 0 rfl (by omega))
theorem ok_cases {o : OpT} (h : chkOpT o = 0) : o.2.2.2.2.length ≤ 4 := by
  unfold chkOpT chkOp at h
  split at h
  · cases h
  · split at h
    · cases h
    · split at h
      · cases h
      · split at h
        · omega
        · split at h
          · cases h
          · omega
theorem name_loop (s : ByteArray) (hn : s.size ≤ 1000000) : ∀ d q : Nat, s.size - q = d → q ≤ s.size → ∃ b, Ev (fun k => watchbillref8_Name.l0 k s q) b := by
  intro d
  induction d with
  | zero =>
    intro q hd hq
    exact ⟨true, Ev.step (f := fun _ => some _) (fun k => by rw [watchbillref8_Name.l0, if_neg (by omega)]) (Ev.now _)⟩
  | succ d ih =>
    intro q hd hq
    obtain ⟨b, hb⟩ := ih (q + 1) (by omega) (by omega)
    by_cases h1 : bt s q < 97
    · exact ⟨false, Ev.step (f := fun _ => some _) (fun k => by rw [watchbillref8_Name.l0, if_pos (by omega), if_pos (by omega), if_pos h1]) (Ev.now _)⟩
    · by_cases h2 : bt s q > 122
      · exact ⟨false, Ev.step (f := fun _ => some _) (fun k => by rw [watchbillref8_Name.l0, if_pos (by omega), if_pos (by omega), if_neg h1, if_pos h2]) (Ev.now _)⟩
      · exact ⟨b, Ev.step (fun k => by rw [watchbillref8_Name.l0, if_pos (by omega), if_pos (by omega), if_neg h1, if_neg h2, w1 (by omega)]) hb⟩
theorem name_ev (s : ByteArray) : ∃ b, Ev (fun k => watchbillref8_Name.f k s) b := by
  have ht : Ev (fun k => watchbillref8_Name.j0 k s true) false := Ev.step (f := fun _ => some _) (fun k => by rw [watchbillref8_Name.j0, if_pos rfl]) (Ev.now _)
  by_cases h1 : (s.size : Int) < 1
  · exact ⟨false, Ev.congr (fun k => by unfold watchbillref8_Name.f; rw [if_pos h1]) ht⟩
  · by_cases h2 : (s.size : Int) > 8
    · exact ⟨false, Ev.congr (fun k => by unfold watchbillref8_Name.f; rw [if_neg h1, decide_eq_true h2]) ht⟩
    · obtain ⟨b, hb⟩ := name_loop s (by omega) _ 0 rfl (by omega)
      refine ⟨b, Ev.congr (fun k => by unfold watchbillref8_Name.f; rw [if_neg h1, decide_eq_false h2]) (Ev.step (fun k => ?_) hb)⟩
      rw [watchbillref8_Name.j0, if_neg (by decide)]
      rfl
theorem known_loop (a0 a1 a2 a3 : Int) (l : List S109) (s : Int) (cs : List S63) (ts : List S60) (hn : l.length ≤ 1000000) : ∀ d q : Nat, l.length - q = d → q ≤ l.length → ∃ b, Ev (fun k => watchbillref8_known.l0 k q a0 a1 a2 a3 l s cs ts) b := by
  intro d
  induction d with
  | zero =>
    intro q hd hq
    exact ⟨true, Ev.step (f := fun _ => some _) (fun k => by rw [watchbillref8_known.l0, if_neg (by omega)]) (Ev.now _)⟩
  | succ d ih =>
    intro q hd hq
    obtain ⟨b, hb⟩ := ih (q + 1) (by omega) (by omega)
    by_cases h1 : (rd_T109 l q).f1 ≥ (cs.length : Int)
    · exact ⟨false, Ev.step (f := fun _ => some _) (fun k => by rw [watchbillref8_known.l0, if_pos (by omega), if_pos (by omega), if_pos h1]) (Ev.now _)⟩
    · exact ⟨b, Ev.step (fun k => by rw [watchbillref8_known.l0, if_pos (by omega), if_pos (by omega), if_neg h1, w1 (by omega)]) hb⟩
theorem known_ev (a0 a1 a2 a3 : Int) (l : List S109) (s : Int) (cs : List S63) (ts : List S60) (hn : l.length ≤ 1000000) : ∃ b, Ev (fun k => watchbillref8_known.f k a0 a1 a2 a3 l s cs ts) b := by
  have hj : ∀ c : Bool, ∃ b, Ev (fun k => watchbillref8_known.j0 k a0 c a0 a1 a2 a3 l s cs ts) b := by
    intro c
    cases c with
    | true => exact ⟨_, Ev.step (f := fun _ => some _) (fun k => by rw [watchbillref8_known.j0, if_pos rfl]) (Ev.now _)⟩
    | false =>
      by_cases h4 : a0 = 4
      · exact ⟨_, Ev.step (f := fun _ => some _) (fun k => by rw [watchbillref8_known.j0, if_neg (by decide), if_pos h4]) (Ev.now _)⟩
      · by_cases h5 : a0 = 5
        · exact ⟨_, Ev.step (f := fun _ => some _) (fun k => by rw [watchbillref8_known.j0, if_neg (by decide), if_neg h4, if_pos h5]) (Ev.now _)⟩
        · by_cases h6 : a0 = 6
          · exact ⟨_, Ev.step (f := fun _ => some _) (fun k => by rw [watchbillref8_known.j0, if_neg (by decide), if_neg h4, if_neg h5, if_pos h6]) (Ev.now _)⟩
          · obtain ⟨b, hb⟩ := known_loop a0 a1 a2 a3 l s cs ts hn _ 0 rfl (by omega)
            exact ⟨b, Ev.step (fun k => by rw [watchbillref8_known.j0, if_neg (by decide), if_neg h4, if_neg h5, if_neg h6]; rfl) hb⟩
  by_cases h2 : a0 = 2
  · obtain ⟨b, hb⟩ := hj (a0 == 2)
    exact ⟨b, Ev.congr (fun k => by unfold watchbillref8_known.f; rw [if_pos h2]) hb⟩
  · obtain ⟨b, hb⟩ := hj (a0 == 3)
    exact ⟨b, Ev.congr (fun k => by unfold watchbillref8_known.f; rw [if_neg h2]) hb⟩

/-- What CheckProg takes. -/
def ProgOK (p : List S92) : Prop := (chkProg (p.map opTR)).2 = 0
theorem ProgOK.flat {p : List S92} (h : ProgOK p) : p.length ≤ 48 ∧ (∀ o ∈ p, chkOpT (opTR o) = 0) ∧ ∃ out, FlatR kdR nmR 3 p out := chk_flat kdR nmR opTR (fun _ => rfl) (fun _ => rfl) p h
section
variable (s : Int) (cs : List S63) (ts : List S60)
theorem task_l1 (n : ByteArray) (x y z : Int) (p : List S92) (h : ProgOK p) : ∀ d q : Nat, p.length - q = d → q ≤ p.length → ∃ e, Ev (fun k => watchbillref8_checkTask.l1 k q s cs ts n x y z p) e ∧ (e = 0 → ProgOK p) := by
  obtain ⟨h48, hok, _⟩ := h.flat
  intro d
  induction d with
  | zero =>
    intro q hd hq
    exact ⟨0, Ev.step (f := fun _ => some _) (fun k => by rw [watchbillref8_checkTask.l1, if_neg (by omega)]) (Ev.now _), fun _ => h⟩
  | succ d ih =>
    intro q hd hq
    obtain ⟨e, he, hP⟩ := ih (q + 1) (by omega) (by omega)
    have hlt : q < p.length := by omega
    have hr : rd_T92 p q = p[q] := by simp [rd_T92, List.getD, hlt]
    have hc := ok_cases (hok p[q] (List.getElem_mem hlt))
    simp only [opTR, List.length_map] at hc
    obtain ⟨b, hb⟩ := known_ev p[q].f0 p[q].f1 p[q].f2 p[q].f3 p[q].f4 s cs ts (by omega)
    cases b with
    | true =>
      refine ⟨e, Ev.step (fun k => by rw [watchbillref8_checkTask.l1, if_pos (by omega), if_pos (by omega), hr]) (Ev.bind hb ?_), hP⟩
      exact Ev.congr (fun k => by rw [if_pos rfl, w1 (by omega)]) he
    | false =>
      refine ⟨3, Ev.step (fun k => by rw [watchbillref8_checkTask.l1, if_pos (by omega), if_pos (by omega), hr]) (Ev.bind hb ?_), fun h => by cases h⟩
      exact Ev.congr (fun k => by rw [if_neg (by decide)]) (Ev.now _)
theorem task_j1 (c : Bool) (n : ByteArray) (x y z : Int) (p : List S92) : ∃ e, Ev (fun k => watchbillref8_checkTask.j1 k c s cs ts n x y z p) e ∧ (e = 0 → ProgOK p) := by
  cases c with
  | true => exact ⟨1, Ev.step (f := fun _ => some _) (fun k => by rw [watchbillref8_checkTask.j1, if_pos rfl]) (Ev.now _), fun h => by cases h⟩
  | false =>
    by_cases h0 : (chkProg (p.map opTR)).2 = 0
    · have hp : ProgOK p := h0
      obtain ⟨h48, hok, out, hf⟩ := hp.flat
      have hc := costR_ev hf h48
      by_cases hz : costRL out = 0
      · refine ⟨5, Ev.step (f := fun k => (watchbillref8_Cost.f k p).bind fun t => if t = 0 then some 5 else watchbillref8_checkTask.l1 k 0 s cs ts n x y z p) (fun k => ?_) (Ev.bind hc (Ev.congr (fun k => by rw [if_pos hz]) (Ev.now _))), fun h => by cases h⟩
        rw [watchbillref8_checkTask.j1, if_neg (by decide)]
        unfold watchbillref8_CheckProg.f
        simp only [Option.bind_some]
        rw [if_pos h0]
      · obtain ⟨e, he, hP⟩ := task_l1 s cs ts n x y z p hp _ 0 rfl (by omega)
        refine ⟨e, Ev.step (f := fun k => (watchbillref8_Cost.f k p).bind fun t => if t = 0 then some 5 else watchbillref8_checkTask.l1 k 0 s cs ts n x y z p) (fun k => ?_) (Ev.bind hc (Ev.congr (fun k => by rw [if_neg hz]; rfl) he)), hP⟩
        rw [watchbillref8_checkTask.j1, if_neg (by decide)]
        unfold watchbillref8_CheckProg.f
        simp only [Option.bind_some]
        rw [if_pos h0]
    · refine ⟨(chkProg (p.map opTR)).2, Ev.step (f := fun _ => some _) (fun k => ?_) (Ev.now _), fun h => absurd h h0⟩
      rw [watchbillref8_checkTask.j1, if_neg (by decide)]
      unfold watchbillref8_CheckProg.f
      simp only [Option.bind_some]
      rw [if_neg h0]
theorem task_l0 (i : Nat) (hi : i < ts.length) (hn : ts.length ≤ 12) (n : ByteArray) (x y z : Int) (p : List S92) : ∀ d q : Nat, i - q = d → q ≤ i → ∃ e, Ev (fun k => watchbillref8_checkTask.l0 k (i : Int) q s cs ts n x y z p) e ∧ (e = 0 → ProgOK p) := by
  intro d
  induction d with
  | zero =>
    intro q hd hq
    obtain rfl : q = i := by omega
    obtain ⟨e1, he1, hP1⟩ := task_j1 s cs ts true n x y z p
    by_cases h1 : x < 1
    · exact ⟨e1, Ev.step (fun k => by rw [watchbillref8_checkTask.l0, if_neg (by omega), if_pos h1]) he1, hP1⟩
    · by_cases h2 : x > 1099511627776
      · exact ⟨e1, Ev.step (fun k => by rw [watchbillref8_checkTask.l0, if_neg (by omega), if_neg h1, if_pos h2]) he1, hP1⟩
      · by_cases h3 : y < 1
        · exact ⟨e1, Ev.step (fun k => by rw [watchbillref8_checkTask.l0, if_neg (by omega), if_neg h1, if_neg h2, if_pos h3]) he1, hP1⟩
        · by_cases h4 : y > x
          · exact ⟨e1, Ev.step (fun k => by rw [watchbillref8_checkTask.l0, if_neg (by omega), if_neg h1, if_neg h2, if_neg h3, if_pos h4]) he1, hP1⟩
          · by_cases h5 : z < 1
            · exact ⟨e1, Ev.step (fun k => by rw [watchbillref8_checkTask.l0, if_neg (by omega), if_neg h1, if_neg h2, if_neg h3, if_neg h4, if_pos h5]) he1, hP1⟩
            · obtain ⟨e2, he2, hP2⟩ := task_j1 s cs ts (decide (z > y)) n x y z p
              exact ⟨e2, Ev.step (fun k => by rw [watchbillref8_checkTask.l0, if_neg (by omega), if_neg h1, if_neg h2, if_neg h3, if_neg h4, if_neg h5]) he2, hP2⟩
  | succ d ih =>
    intro q hd hq
    obtain ⟨e, he, hP⟩ := ih (q + 1) (by omega) (by omega)
    by_cases h1 : ((rd_T60 ts q).f0).toList = n.toList
    · exact ⟨6, Ev.step (f := fun _ => some _) (fun k => by rw [watchbillref8_checkTask.l0, if_pos (by omega), if_pos (by omega), if_pos (by omega), if_pos h1]) (Ev.now _), fun h => by cases h⟩
    · exact ⟨e, Ev.step (fun k => by rw [watchbillref8_checkTask.l0, if_pos (by omega), if_pos (by omega), if_pos (by omega), if_neg h1, w1 (by omega)]) he, hP⟩
theorem task_ev (i : Nat) (hi : i < ts.length) (hn : ts.length ≤ 12) : ∃ e, Ev (fun k => watchbillref8_checkTask.f k s cs ts (i : Int)) e ∧ (e = 0 → ProgOK (rd_T60 ts i).f4) := by
  obtain ⟨b, hb⟩ := name_ev (rd_T60 ts i).f0
  cases b with
  | true =>
    obtain ⟨e, he, hP⟩ := task_l0 s cs ts i hi hn (rd_T60 ts i).f0 (rd_T60 ts i).f1 (rd_T60 ts i).f2 (rd_T60 ts i).f3 (rd_T60 ts i).f4 _ 0 rfl (by omega)
    refine ⟨e, Ev.congr (fun k => by unfold watchbillref8_checkTask.f; rw [if_pos (by omega), if_pos (by omega)]) (Ev.bind hb (Ev.congr (fun k => by rw [if_pos rfl]; rfl) he)), hP⟩
  | false =>
    exact ⟨3, Ev.congr (fun k => by unfold watchbillref8_checkTask.f; rw [if_pos (by omega), if_pos (by omega)]) (Ev.bind hb (Ev.congr (fun k => by rw [if_neg (by decide)]) (Ev.now _))), fun h => by cases h⟩
/-- A set that may be. -/
structure SetOK (s : Int) (cs : List S63) (ts : List S60) : Prop where
  locks : 0 ≤ s ∧ s ≤ 8
  chans : cs.length ≤ 8
  tasks : 1 ≤ ts.length ∧ ts.length ≤ 12
  progs : ∀ i, i < ts.length → ProgOK (rd_T60 ts i).f4
theorem set_l1 (h0 : 0 ≤ s ∧ s ≤ 8) (h1 : cs.length ≤ 8) (h2 : 1 ≤ ts.length ∧ ts.length ≤ 12) : ∀ d q : Nat, ts.length - q = d → q ≤ ts.length → (∀ i, i < q → ProgOK (rd_T60 ts i).f4) → ∃ e : Int × Int, Ev (fun k => watchbillref8_CheckSet.l1 k q s cs ts) e ∧ (e.2 = 0 → SetOK s cs ts) := by
  intro d
  induction d with
  | zero =>
    intro q hd hq hp
    exact ⟨(0, 0), Ev.step (f := fun _ => some _) (fun k => by rw [watchbillref8_CheckSet.l1, if_neg (by omega)]) (Ev.now _), fun _ => ⟨h0, h1, h2, fun i hi => hp i (by omega)⟩⟩
  | succ d ih =>
    intro q hd hq hp
    obtain ⟨e, he, hP⟩ := task_ev s cs ts q (by omega) (by omega)
    by_cases hz : e = 0
    · obtain ⟨r, hr, hR⟩ := ih (q + 1) (by omega) (by omega) (fun i hi => by
        rcases Nat.lt_or_ge i q with h | h
        · exact hp i h
        · obtain rfl : i = q := by omega
          exact hP hz)
      exact ⟨r, Ev.step (fun k => by rw [watchbillref8_CheckSet.l1, if_pos (by omega)]) (Ev.bind he (Ev.congr (fun k => by rw [if_pos hz, w1 (by omega)]) hr)), hR⟩
    · exact ⟨((q : Int), e), Ev.step (fun k => by rw [watchbillref8_CheckSet.l1, if_pos (by omega)]) (Ev.bind he (Ev.congr (fun k => by rw [if_neg hz]) (Ev.now _))), fun h => absurd h hz⟩
theorem set_l0 (h0 : 0 ≤ s ∧ s ≤ 8) (h1 : cs.length ≤ 8) (h2 : 1 ≤ ts.length ∧ ts.length ≤ 12) : ∀ d q : Nat, cs.length - q = d → q ≤ cs.length → ∃ e : Int × Int, Ev (fun k => watchbillref8_CheckSet.l0 k q s cs ts) e ∧ (e.2 = 0 → SetOK s cs ts) := by
  intro d
  induction d with
  | zero =>
    intro q hd hq
    obtain ⟨e, he, hP⟩ := set_l1 s cs ts h0 h1 h2 _ 0 rfl (by omega) (fun i hi => absurd hi (Nat.not_lt_zero _))
    exact ⟨e, Ev.step (fun k => by rw [watchbillref8_CheckSet.l0, if_neg (by omega)]; rfl) he, hP⟩
  | succ d ih =>
    intro q hd hq
    obtain ⟨e, he, hP⟩ := ih (q + 1) (by omega) (by omega)
    by_cases c1 : (rd_T63 cs q).f0 < 0
    · exact ⟨(0, 1), Ev.step (f := fun _ => some _) (fun k => by rw [watchbillref8_CheckSet.l0, if_pos (by omega), if_pos (by omega), if_pos c1]) (Ev.now _), fun h => by cases h⟩
    · by_cases c2 : (rd_T63 cs q).f0 > 16
      · exact ⟨(0, 1), Ev.step (f := fun _ => some _) (fun k => by rw [watchbillref8_CheckSet.l0, if_pos (by omega), if_pos (by omega), if_neg c1, if_pos c2]) (Ev.now _), fun h => by cases h⟩
      · by_cases c3 : (rd_T63 cs q).f1 < -1
        · exact ⟨(0, 1), Ev.step (f := fun _ => some _) (fun k => by rw [watchbillref8_CheckSet.l0, if_pos (by omega), if_pos (by omega), if_neg c1, if_neg c2, if_pos c3]) (Ev.now _), fun h => by cases h⟩
        · by_cases c4 : (rd_T63 cs q).f1 ≥ (ts.length : Int)
          · exact ⟨(0, 1), Ev.step (f := fun _ => some _) (fun k => by rw [watchbillref8_CheckSet.l0, if_pos (by omega), if_pos (by omega), if_neg c1, if_neg c2, if_neg c3, if_pos c4]) (Ev.now _), fun h => by cases h⟩
          · exact ⟨e, Ev.step (fun k => by rw [watchbillref8_CheckSet.l0, if_pos (by omega), if_pos (by omega), if_neg c1, if_neg c2, if_neg c3, if_neg c4, w1 (by omega)]) he, hP⟩
theorem checkSet_ev : ∃ e : Int × Int, Ev (fun k => watchbillref8_CheckSet.f k s cs ts) e ∧ (e.2 = 0 → SetOK s cs ts) := by
  have ht : Ev (fun k => watchbillref8_CheckSet.j0 k true s cs ts) (0, 1) := Ev.step (f := fun _ => some _) (fun k => by rw [watchbillref8_CheckSet.j0, if_pos rfl]) (Ev.now _)
  have ht1 : Ev (fun k => watchbillref8_CheckSet.j1 k true s cs ts) (0, 18) := Ev.step (f := fun _ => some _) (fun k => by rw [watchbillref8_CheckSet.j1, if_pos rfl]) (Ev.now _)
  by_cases h1 : s < 0
  · exact ⟨_, Ev.congr (fun k => by unfold watchbillref8_CheckSet.f; rw [if_pos h1]) ht, fun h => by cases h⟩
  · by_cases h2 : s > 8
    · exact ⟨_, Ev.congr (fun k => by unfold watchbillref8_CheckSet.f; rw [if_neg h1, decide_eq_true h2]) ht, fun h => by cases h⟩
    · have hstart : ∀ e, Ev (fun k => watchbillref8_CheckSet.j0 k false s cs ts) e → Ev (fun k => watchbillref8_CheckSet.f k s cs ts) e := fun e he => Ev.congr (fun k => by unfold watchbillref8_CheckSet.f; rw [if_neg h1, decide_eq_false h2]) he
      by_cases h3 : (cs.length : Int) > 8
      · exact ⟨_, hstart _ (Ev.step (fun k => by rw [watchbillref8_CheckSet.j0, if_neg (by decide), if_pos h3]) ht1), fun h => by cases h⟩
      · by_cases h4 : (ts.length : Int) < 1
        · exact ⟨_, hstart _ (Ev.step (fun k => by rw [watchbillref8_CheckSet.j0, if_neg (by decide), if_neg h3, if_pos h4]) ht1), fun h => by cases h⟩
        · by_cases h5 : (ts.length : Int) > 12
          · exact ⟨_, hstart _ (Ev.step (fun k => by rw [watchbillref8_CheckSet.j0, if_neg (by decide), if_neg h3, if_neg h4, decide_eq_true h5]) ht1), fun h => by cases h⟩
          · obtain ⟨e, he, hP⟩ := set_l0 s cs ts (by omega) (by omega) (by omega) _ 0 rfl (by omega)
            refine ⟨e, hstart _ (Ev.step (fun k => by rw [watchbillref8_CheckSet.j0, if_neg (by decide), if_neg h3, if_neg h4, decide_eq_false h5]) (Ev.step (fun k => ?_) he)), hP⟩
            rw [watchbillref8_CheckSet.j1, if_neg (by decide)]
            rfl
end
end Go.Proofs.Ythdmomaephiodaa.Nest
