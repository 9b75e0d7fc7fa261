/- Rows of elements that lead to rows, appended: append(append([]T{}, a...), b...) of rows that came in. -/
import Derived.Test.YtjnhahdelipebaaXAx0
import Derived.Maps.AppendAt
namespace Go.Proofs.Ytjnhahdelipebaa.RowC
set_option linter.unusedVariables false
set_option linter.unusedSimpArgs false
open Go.RowKit Go.Proofs.Ytjnhahdelipebaa.XA Go.Proofs.YtjnhahdelipebaaW.PrintWords Go.Proofs.YtjnhahdelipebaaW.PrintLast
section
variable {α : Type} {d : Kd α} {w : World}
/-- Cells that read as these elements. -/
def encC (d : Kd α) (w : World) : List α → List Value → Prop
  | [], cs => cs = []
  | x :: l, cs => ∃ c r, cs = c ++ r ∧ d.K w x c ∧ encC d w l r
theorem encC_len : ∀ {l : List α} {cs : List Value}, encC d w l cs → cs.length = l.length * d.sz
  | [], cs, h => by rw [show cs = [] from h]; simp
  | x :: l, cs, ⟨c, r, e, hk, hr⟩ => by rw [e, List.length_append, d.K_len hk, encC_len hr, List.length_cons, Nat.add_mul]; omega
theorem encC_one : ∀ {l : List α} {cs : List Value}, encC d w l cs → ∀ u ∈ cs, u.oneCell' = true
  | [], cs, h => by rw [show cs = [] from h]; intro u hu; cases hu
  | x :: l, cs, ⟨c, r, e, hk, hr⟩ => by
    intro u hu
    rw [e] at hu
    rcases List.mem_append.1 hu with hu | hu
    · exact d.K_one hk u hu
    · exact encC_one hr u hu
theorem encC_append : ∀ {l m : List α} {a b : List Value}, encC d w l a → encC d w m b → encC d w (l ++ m) (a ++ b)
  | [], m, a, b, h, k => by rw [show a = [] from h]; exact k
  | x :: l, m, a, b, ⟨c, r, e, hk, hr⟩, k => ⟨c, r ++ b, by rw [e, List.append_assoc], hk, encC_append hr k⟩
theorem encC_below {w1 : World} (hb : Below w.heap.size w w1) : ∀ {l : List α} {cs : List Value}, encC d w l cs → encC d w1 l cs
  | [], cs, h => h
  | x :: l, cs, ⟨c, r, e, hk, hr⟩ => ⟨c, r, e, d.K_below hb hk, encC_below hb hr⟩
theorem encC_get : ∀ {l : List α} {cs : List Value}, encC d w l cs → ∀ (j : Nat) (p : α), l[j]? = some p → ∃ c : List Value, c.length = d.sz ∧ d.K w p c ∧ ∀ (i : Nat) (u : Value), c[i]? = some u → cs[j * d.sz + i]? = some u
  | [], cs, h, j, p, hp => by simp at hp
  | x :: l, cs, ⟨c, r, e, hk, hr⟩, 0, p, hp => by
    simp only [List.getElem?_cons_zero, Option.some.injEq] at hp
    subst hp
    refine ⟨c, d.K_len hk, hk, fun i u hu => ?_⟩
    rw [e, Nat.zero_mul, Nat.zero_add, List.getElem?_append_left (List.getElem?_eq_some_iff.1 hu).1]
    exact hu
  | x :: l, cs, ⟨c, r, e, hk, hr⟩, j + 1, p, hp => by
    simp only [List.getElem?_cons_succ] at hp
    obtain ⟨c2, h1, h2, h3⟩ := encC_get hr j p hp
    refine ⟨c2, h1, h2, fun i u hu => ?_⟩
    have hl := d.K_len hk
    have := h3 i u hu
    rw [e, List.getElem?_append_right (by rw [hl, Nat.add_mul]; omega), hl, ← this]
    congr 1
    rw [Nat.add_mul]
    omega
theorem encC_of {ad : Addr} : ∀ (l : List α) (k : Nat), (∀ (j : Nat) (p : α), l[j]? = some p → ∃ c : List Value, c.length = d.sz ∧ d.K w p c ∧ ∀ (i : Nat) (u : Value), c[i]? = some u → w.cell? (ad.add ((k + j) * d.sz + i)) = some u) → ∃ cs, encC d w l cs ∧ ∀ (j : Nat) (u : Value), cs[j]? = some u → w.cell? (ad.add (k * d.sz + j)) = some u
  | [], k, _ => ⟨[], rfl, fun j u h => by simp at h⟩
  | x :: l, k, h => by
    obtain ⟨c, hl, hk, hc⟩ := h 0 x rfl
    obtain ⟨r, hr, hrc⟩ := encC_of l (k + 1) (fun j p hp => by
      obtain ⟨c2, h1, h2, h3⟩ := h (j + 1) p (by simpa using hp)
      exact ⟨c2, h1, h2, fun i u hu => by rw [show k + 1 + j = k + (j + 1) by omega]; exact h3 i u hu⟩)
    refine ⟨c ++ r, ⟨c, r, rfl, hk, hr⟩, fun j u hu => ?_⟩
    by_cases hj : j < c.length
    · rw [List.getElem?_append_left hj] at hu
      exact hc j u hu
    · rw [List.getElem?_append_right (by omega)] at hu
      have := hrc (j - c.length) u hu
      rw [show k * d.sz + j = (k + 1) * d.sz + (j - c.length) by rw [Nat.add_mul]; omega]
      exact this
/-- A row that came in, as cells. -/
theorem cells_of_C {A : Option Addr} {n : Nat} {l : List α} (h : Kd.C d w A n l) : ∃ cs, encC d w l cs ∧ cs.length = n * d.sz ∧ (A = none → n = 0) ∧ ∀ ad, A = some ad → ∀ (j : Nat) (u : Value), cs[j]? = some u → w.cell? (ad.add j) = some u := by
  obtain ⟨h1, h2, h3⟩ := h
  cases A with
  | none =>
    have h0 : n = 0 := by
      rcases Nat.eq_zero_or_pos n with h0 | h0
      · exact h0
      · obtain ⟨ad, e, _⟩ := h3 h0
        cases e
    subst h0
    have hl : l = [] := List.eq_nil_of_length_eq_zero h1
    subst hl
    exact ⟨[], rfl, by simp, fun _ => rfl, (fun ad e => by cases e)⟩
  | some ad =>
    have hc : ∃ cs, encC d w l cs ∧ ∀ (j : Nat) (u : Value), cs[j]? = some u → w.cell? (ad.add (0 * d.sz + j)) = some u := by
      refine encC_of l 0 (fun j p hp => ?_)
      have hj := (List.getElem?_eq_some_iff.1 hp).1
      obtain ⟨ad', e, hcell⟩ := h3 (by omega)
      cases e
      obtain ⟨c, a1, a2, a3⟩ := hcell j p hp
      exact ⟨c, a1, a2, fun i u hu => by rw [Nat.zero_add]; exact a3 i u hu⟩
    obtain ⟨cs, e1, e2⟩ := hc
    refine ⟨cs, e1, by rw [encC_len e1, h1], (fun e => by cases e), fun ad' e j u hu => ?_⟩
    cases e
    have := e2 j u hu
    rwa [Nat.zero_mul, Nat.zero_add] at this
/-- A row that the call owns reads so. -/
theorem C_of_own {base n : Nat} {e : TypeId} {v : Value} {l : List α} {cs : List Value} (ho : w.ownsRow base e d.sz v n cs) (he : encC d w l cs) (hn : l.length = n) (hm : n ≤ 9223372036854775807) : ∃ A c, v = .slice A n c ∧ n ≤ c ∧ Kd.C d w A n l := by
  have hcl := ho.1
  rcases ho.2 with ⟨rfl, h0⟩ | ⟨g, cap, cur, rfl, hb, hg, hnc, hmx, hs, ht⟩
  · exact ⟨none, 0, by rw [h0], by omega, hn, hm, fun hp => by omega⟩
  · refine ⟨some ⟨g, 0, none⟩, cap, rfl, hnc, hn, hm, fun hp => ⟨⟨g, 0, none⟩, rfl, fun j p hp => ?_⟩⟩
    obtain ⟨c, a1, a2, a3⟩ := encC_get he j p hp
    refine ⟨c, a1, a2, fun i u hu => ?_⟩
    have h1 := a3 i u hu
    rw [← ht, List.getElem?_take] at h1
    split at h1
    · rw [Array.getElem?_toList] at h1
      have e2 : ((⟨g, 0, none⟩ : Addr).add (j * d.sz + i)) = ⟨g, j * d.sz + i, none⟩ := by unfold Addr.add; simp; omega
      rw [e2]
      simp [World.cell?, hg, h1]
    · cases h1
end
section
variable {P : Program} {ops : Array Oper} {rest : List Oper} {o : Oper} {a : Act} {Q : Exit → Act → World → Prop}
/-- append(s, x...), of a row that came in. -/
theorem wp_appC {W : World} (hgd : o.guard = none) (s x : Operand) (t e : TypeId) (z : Value) (size bytes : Nat)
    (ho : o.op = .call { callee := .builtin .append, args := #[s, x], argTypes := #[t, t] })
    (ht : P.underlying t = some (.slice e)) (hinfo : (P.info? e).map (fun i => (i.zero, i.size, i.bytes)) = some (some z, size, bytes)) (hz : z.cells.size = size) (hb0 : 0 < bytes) (hsz : 0 < size)
    (base : Nat) (v : Value) (n : Nat) (xs : List Value) (hs : a.eval s = v) (hown : W.ownsRow base e size v n xs) (A : Option Addr) (m c : Nat) (hx : a.eval x = .slice A m c) (news : List Value)
    (hl : news.length = m * size) (hA : A = none → m = 0) (hnews : ∀ ad, A = some ad → ∀ (j : Nat) (u : Value), news[j]? = some u → W.cell? (ad.add j) = some u) (h1 : ∀ u ∈ news, u.oneCell' = true)
    (hbytes : (n + m) * bytes ≤ 140737488355328) (hbase : base ≤ W.heap.size)
    (h : ∀ v1 w1, w1.ownsRow base e size v1 (n + m) (xs ++ news) → W.grownBy w1 v.ownBlock → wpList P ops Q rest (a.put o.dst v1) w1) :
    wpList P ops Q (o :: rest) a W := by
  obtain ⟨i0, hi, hzz⟩ := Option.map_eq_some_iff.1 hinfo
  simp only [Prod.mk.injEq] at hzz
  obtain ⟨hz0, hz1, hz2⟩ := hzz
  have hlen : n + m ≤ 140737488355328 := Nat.le_trans (Nat.le_mul_of_pos_right _ hb0) hbytes
  have hrun : ∃ v1 w1, (Builtin.append_ #[t, t] o.type #[v, .slice A m c]).run P W = .ok v1 w1 ∧ w1.ownsRow base e size v1 (n + m) (xs ++ news) ∧ W.grownBy w1 v.ownBlock := by
    rcases A with _ | ad
    · have h0 := hA rfl
      subst h0
      obtain rfl : news = [] := List.eq_nil_of_length_eq_zero (by simpa using hl)
      refine ⟨v, W, ?_, by simpa using hown, World.grownBy.refl W _⟩
      rcases hown.2 with ⟨rfl, hn⟩ | ⟨g, cap, cur, rfl, _, _, hnc, _⟩
      · simp [Builtin.append_, run_underlying ht, sizeOf, typeInfo, hi, Builtin.lenOf, Builtin.firstCells]
      · simp [Builtin.append_, run_underlying ht, sizeOf, typeInfo, hi, Builtin.lenOf, Builtin.firstCells, hnc, storeCells]
    · obtain ⟨v1, w1, hr, h2, h3, _, h5⟩ := run_append_own_at (P := P) W base t o.type e i0 z size bytes ht hi hz0 hz1 hz2 hz hsz v n xs hown ad m c news hl (hnews ad rfl) h1 (by simp only [maxLen]; omega) hbytes hbase
      exact ⟨v1, w1, hr, h2, h3⟩
  obtain ⟨v1, w1, hr, hown1, hg⟩ := hrun
  refine wpList_plain hgd fun K hK => ?_
  unfold Oper.wp execOp
  simp only [ho, resolve, invoke, builtin, Sem.run_bind, Sem.run_pure, Result.andThen_ok, List.map_toArray, List.map_cons, List.map_nil, hs, hx, hr]
  exact hK _ _ (h v1 w1 hown1 hg)
end
end Go.Proofs.Ytjnhahdelipebaa.RowC
