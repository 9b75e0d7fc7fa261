/- Loops within one another: what ops are done, in plain words. -/
import Derived.Test.YtjnhahdelipebaaChkDef
namespace Go.Proofs.Ytjnhahdelipebaa.Nest
set_option linter.unusedVariables false
set_option linter.unusedSimpArgs false
open Go.RowKit Go.Proofs.Ytjnhahdelipebaa.XA
def rep {α : Type} (n : Nat) (l : List α) : List α := (List.replicate n l).flatten
theorem rep_len {α : Type} (n : Nat) (l : List α) : (rep n l).length = n * l.length := by simp [rep]
theorem rep_succ {α : Type} (n : Nat) (l : List α) : rep (n + 1) l = rep n l ++ l := by
  unfold rep
  rw [List.replicate_succ', List.flatten_append]
  simp
theorem rep_map {α β : Type} (g : α → β) (n : Nat) (l : List α) : rep n (l.map g) = (rep n l).map g := by
  unfold rep
  rw [List.map_flatten, List.map_replicate]
/-- l is done as out; at most d loops within one another. -/
inductive FlatR {α : Type} (kd nm : α → Int) : Nat → List α → List α → Prop
  | nil (d : Nat) : FlatR kd nm d [] []
  | op (d : Nat) (o : α) (l out : List α) : kd o ≠ 8 → kd o ≠ 9 → FlatR kd nm d l out → FlatR kd nm d (o :: l) (o :: out)
  | loop (d : Nat) (o e : α) (n : Nat) (body bout l out : List α) : kd o = 8 → nm o = (n : Int) → (1 ≤ n ∧ n ≤ 32) → FlatR kd nm d body bout → kd e = 9 → FlatR kd nm (d + 1) l out → FlatR kd nm (d + 1) (o :: body ++ e :: l) (rep n bout ++ out)
theorem FlatR.len {α : Type} {kd nm : α → Int} {d : Nat} {l out : List α} (h : FlatR kd nm d l out) : out.length ≤ l.length * 32 ^ d := by
  induction h with
  | nil d => simp
  | op d o l out h1 h2 _ ih =>
    simp only [List.length_cons]
    have : 1 ≤ 32 ^ d := Nat.pow_pos (by decide)
    rw [Nat.add_mul]
    omega
  | loop d o e n body bout l out h1 h2 h3 _ h5 _ ih1 ih2 =>
    rw [List.length_append, rep_len]
    simp only [List.length_cons, List.length_append, List.cons_append]
    have e1 : n * bout.length ≤ 32 * (body.length * 32 ^ d) := Nat.mul_le_mul h3.2 ih1
    have e2 : 32 * (body.length * 32 ^ d) = body.length * 32 ^ (d + 1) := by rw [Nat.pow_succ]; simp [Nat.mul_comm, Nat.mul_left_comm]
    have e3 : (body.length + (l.length + 1) + 1) * 32 ^ (d + 1) = body.length * 32 ^ (d + 1) + l.length * 32 ^ (d + 1) + 2 * 32 ^ (d + 1) := by
      rw [show body.length + (l.length + 1) + 1 = body.length + l.length + 2 by omega, Nat.add_mul, Nat.add_mul]
    rw [e3]
    omega
theorem FlatR.map {α β : Type} {kd nm : α → Int} {kd' nm' : β → Int} (g : α → β) (hk : ∀ x, kd' (g x) = kd x) (hn : ∀ x, nm' (g x) = nm x) {d : Nat} {l out : List α} (h : FlatR kd nm d l out) : FlatR kd' nm' d (l.map g) (out.map g) := by
  induction h with
  | nil d => exact .nil d
  | op d o l out h1 h2 _ ih => exact .op d (g o) _ _ (by rw [hk]; exact h1) (by rw [hk]; exact h2) ih
  | loop d o e n body bout l out h1 h2 h3 _ h5 _ ih1 ih2 =>
    have := FlatR.loop d (g o) (g e) n (body.map g) (bout.map g) (l.map g) (out.map g) (by rw [hk]; exact h1) (by rw [hn]; exact h2) h3 ih1 (by rw [hk]; exact h5) ih2
    rw [rep_map] at this
    simpa using this
theorem FlatR.mono {α : Type} {kd nm : α → Int} {d : Nat} {l out : List α} (h : FlatR kd nm d l out) : ∀ d', d ≤ d' → FlatR kd nm d' l out := by
  induction h with
  | nil d => exact fun d' _ => .nil d'
  | op d o l out h1 h2 _ ih => exact fun d' hd => .op d' o _ _ h1 h2 (ih d' hd)
  | loop d o e n body bout l out h1 h2 h3 _ h5 _ ih1 ih2 =>
    intro d' hd
    obtain ⟨c, rfl⟩ : ∃ c, d' = c + 1 := ⟨d' - 1, by omega⟩
    exact .loop c o e n body bout l out h1 h2 h3 (ih1 c (by omega)) h5 (ih2 (c + 1) hd)
/-- What is done is of what stands there. -/
theorem FlatR.mem {α : Type} {kd nm : α → Int} {d : Nat} {l out : List α} (h : FlatR kd nm d l out) : ∀ x ∈ out, x ∈ l ∧ kd x ≠ 8 ∧ kd x ≠ 9 := by
  induction h with
  | nil d => intro x hx; cases hx
  | op d o l out h1 h2 _ ih =>
    intro x hx
    rcases List.mem_cons.1 hx with rfl | hx
    · exact ⟨List.mem_cons_self, h1, h2⟩
    · have := ih x hx
      exact ⟨List.mem_cons_of_mem _ this.1, this.2⟩
  | loop d o e n body bout l out h1 h2 h3 _ h5 _ ih1 ih2 =>
    intro x hx
    rcases List.mem_append.1 hx with hx | hx
    · have hb : x ∈ bout := by
        unfold rep at hx
        rw [List.mem_flatten] at hx
        obtain ⟨l', hl', hx'⟩ := hx
        rw [List.mem_replicate] at hl'
        exact hl'.2 ▸ hx'
      have := ih1 x hb
      exact ⟨by simp [this.1], this.2⟩
    · have := ih2 x hx
      exact ⟨by simp [this.1], this.2⟩

theorem FlatR.append {α : Type} {kd nm : α → Int} {d : Nat} {l out : List α} (h : FlatR kd nm d l out) : ∀ (m mout : List α), FlatR kd nm d m mout → FlatR kd nm d (l ++ m) (out ++ mout) := by
  induction h with
  | nil d => exact fun m mo hm => hm
  | op d o l out h1 h2 _ ih => exact fun m mo hm => .op d o _ _ h1 h2 (ih m mo hm)
  | loop d o e n body bout l out h1 h2 h3 hb h5 _ ih1 ih2 =>
    intro m mo hm
    have := FlatR.loop d o e n body bout (l ++ m) (out ++ mo) h1 h2 h3 hb h5 (ih2 m mo hm)
    simpa using this
theorem FlatR.snoc {α : Type} {kd nm : α → Int} {d : Nat} {l out : List α} (h : FlatR kd nm d l out) (o : α) (h8 : kd o ≠ 8) (h9 : kd o ≠ 9) : FlatR kd nm d (l ++ [o]) (out ++ [o]) := h.append _ _ (.op d o [] [] h8 h9 (.nil d))
/-- c loops are open: what is left closes them, one by one. -/
def Parse {α : Type} (kd nm : α → Int) : Nat → List α → Prop
  | 0, l => ∃ out, FlatR kd nm 3 l out
  | c + 1, l => ∃ body e rest bout, l = body ++ e :: rest ∧ FlatR kd nm (3 - (c + 1)) body bout ∧ kd e = 9 ∧ Parse kd nm c rest
theorem Parse.op {α : Type} {kd nm : α → Int} (o : α) (h8 : kd o ≠ 8) (h9 : kd o ≠ 9) : ∀ (c : Nat) (l : List α), Parse kd nm c l → Parse kd nm c (o :: l)
  | 0, l, ⟨out, h⟩ => ⟨o :: out, .op _ o l out h8 h9 h⟩
  | c + 1, l, ⟨body, e, rest, bout, hl, h, he, hp⟩ => ⟨o :: body, e, rest, o :: bout, by rw [hl]; rfl, .op _ o body bout h8 h9 h, he, hp⟩
theorem Parse.close {α : Type} {kd nm : α → Int} (o : α) (h9 : kd o = 9) (c : Nat) (l : List α) (h : Parse kd nm c l) : Parse kd nm (c + 1) (o :: l) := ⟨[], o, l, [], rfl, .nil _, h9, h⟩
theorem Parse.open {α : Type} {kd nm : α → Int} (o : α) (n : Nat) (h8 : kd o = 8) (hn : nm o = (n : Int)) (hn2 : 1 ≤ n ∧ n ≤ 32) : ∀ (c : Nat) (hc : c < 3) (l : List α), Parse kd nm (c + 1) l → Parse kd nm c (o :: l)
  | 0, hc, l, ⟨body, e, rest, bout, hl, h, he, ⟨out, hp⟩⟩ => ⟨rep n bout ++ out, by rw [hl]; exact .loop 2 o e n body bout rest out h8 hn hn2 h he hp⟩
  | c + 1, hc, l, ⟨body, e, rest, bout, hl, h, he, ⟨body2, e2, rest2, bout2, hl2, h2, he2, hp⟩⟩ => by
    refine ⟨o :: body ++ e :: body2, e2, rest2, rep n bout ++ bout2, by rw [hl, hl2]; simp, ?_, he2, hp⟩
    have e1 : 3 - (c + 1) = (3 - (c + 1 + 1)) + 1 := by omega
    rw [e1] at h2 ⊢
    exact .loop _ o e n body bout body2 bout2 h8 hn hn2 h he h2

def okOp {α : Type} (tr : α → OpT) (o : α) : Prop := chkOpT (tr o) = 0
theorem ok_loop {o : OpT} (h : chkOpT o = 0) (h8 : o.1 = 8) : ∃ n : Nat, o.2.1 = (n : Int) ∧ 1 ≤ n ∧ n ≤ 32 := by
  unfold chkOpT chkOp leastN mostN at h
  rw [h8] at h
  have : 1 ≤ o.2.1 ∧ o.2.1 ≤ 32 := by
    simp at h
    split at h
    · cases h
    · split at h
      · cases h
      · omega
  exact ⟨o.2.1.toNat, by omega, by omega, by omega⟩
theorem bad_none : ∀ (l : List OpT) (i : Nat), badOp i l = none → ∀ o ∈ l, chkOpT o = 0
  | [], _, _ => fun o ho => by cases ho
  | x :: l, i, h => by
    unfold badOp at h
    split at h
    · intro o ho
      rcases List.mem_cons.1 ho with rfl | ho
      · assumption
      · exact bad_none l (i + 1) h o ho
    · cases h
theorem bad_ne : ∀ (l : List OpT) (i : Nat) (p : Int × Int), badOp i l = some p → p.2 ≠ 0
  | [], _, p, h => by cases h
  | x :: l, i, p, h => by
    unfold badOp at h
    split at h
    · exact bad_ne l (i + 1) p h
    · cases h; assumption
/-- Ops that are in order are loops within one another. -/
theorem run_parse {α : Type} (kd nm : α → Int) (tr : α → OpT) (hk : ∀ x, kd x = (tr x).1) (hn : ∀ x, nm x = (tr x).2.1) : ∀ (l : List α) (i : Nat) (h : List Int) (op : List OpenT) (st : Int), (∀ o ∈ l, chkOpT (tr o) = 0) → (runP i (l.map tr) h op st).2 = 0 → op.length ≤ 3 → Parse kd nm op.length l
  | [], i, h, op, st, _, hr, _ => by
    simp only [List.map_nil, runP] at hr
    split at hr
    · simp at hr
    · rename_i hno
      have : op.length = 0 := by omega
      rw [this]
      exact ⟨[], .nil _⟩
  | o :: l, i, h, op, st, hok, hr, h3 => by
    have hok' : ∀ x ∈ l, chkOpT (tr x) = 0 := fun x hx => hok x (List.mem_cons_of_mem _ hx)
    have hoko := hok o List.mem_cons_self
    simp only [List.map_cons, runP] at hr
    cases hp : pStep (tr o).1 (tr o).2.1 (tr o).2.2.2.1 h op st with
    | none => rw [hp] at hr; simp at hr
    | some s =>
      obtain ⟨h', op', st'⟩ := s
      rw [hp] at hr
      simp only at hr
      unfold pStep at hp
      by_cases k8 : (tr o).1 = 8
      · rw [if_pos k8] at hp
        split at hp
        · cases hp
        · rename_i hlt
          cases hp
          have ih := run_parse kd nm tr hk hn l (i + 1) h (op ++ [(h, (tr o).2.1, st)]) 0 hok' hr (by simp; omega)
          rw [List.length_append] at ih
          obtain ⟨n, e1, e2, e3⟩ := ok_loop hoko k8
          exact Parse.open o n (by rw [hk]; exact k8) (by rw [hn]; exact e1) ⟨e2, e3⟩ op.length (by omega) l ih
      · rw [if_neg k8] at hp
        by_cases k9 : (tr o).1 = 9
        · rw [if_pos k9] at hp
          split at hp
          · cases hp
          · rename_i h0
            split at hp
            · cases hp
              have ih := run_parse kd nm tr hk hn l (i + 1) h (op.take (op.length - 1)) _ hok' hr (by simp; omega)
              have e : (op.take (op.length - 1)).length = op.length - 1 := by simp
              rw [e] at ih
              have := Parse.close (kd := kd) (nm := nm) o (by rw [hk]; exact k9) _ l ih
              rwa [show op.length - 1 + 1 = op.length by omega] at this
            · cases hp
        · rw [if_neg k9] at hp
          have hop : op' = op := by
            split at hp
            · split at hp
              · cases hp
              · cases hp; rfl
            · split at hp
              · split at hp
                · cases hp
                · split at hp
                  · cases hp; rfl
                  · cases hp
              · split at hp
                · cases hp
                · cases hp; rfl
          subst hop
          have ih := run_parse kd nm tr hk hn l (i + 1) h' op' st' hok' hr h3
          exact Parse.op o (by rw [hk]; exact k8) (by rw [hk]; exact k9) _ l ih
/-- What CheckProg takes: 48 ops at most, each right by itself, loops within one another. -/
theorem chk_flat {α : Type} (kd nm : α → Int) (tr : α → OpT) (hk : ∀ x, kd x = (tr x).1) (hn : ∀ x, nm x = (tr x).2.1) (l : List α) (h : (chkProg (l.map tr)).2 = 0) : l.length ≤ 48 ∧ (∀ o ∈ l, chkOpT (tr o) = 0) ∧ ∃ out, FlatR kd nm 3 l out := by
  unfold chkProg at h
  rw [List.length_map] at h
  by_cases h48 : 48 < l.length
  · rw [if_pos h48] at h; simp at h
  · rw [if_neg h48] at h
    cases hb : badOp 0 (l.map tr) with
    | some p =>
      rw [hb] at h
      exact absurd h (bad_ne _ _ _ hb)
    | none =>
      rw [hb] at h
      have hok : ∀ o ∈ l, chkOpT (tr o) = 0 := fun o ho => bad_none _ _ hb _ (List.mem_map_of_mem ho)
      exact ⟨by omega, hok, run_parse kd nm tr hk hn l 0 [] [] 0 hok h (by simp)⟩
end Go.Proofs.Ytjnhahdelipebaa.Nest
