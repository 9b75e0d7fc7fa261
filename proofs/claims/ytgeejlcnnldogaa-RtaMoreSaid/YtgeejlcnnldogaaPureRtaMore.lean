/- With more to do, with one more load, with a shorter period nothing is done earlier. -/
import Derived.Test.YtgeejlcnnldogaaRtaLoads
import Derived.Test.YtgeejlcnnldogaaXAx13
namespace Go.Proofs.Ytgeejlcnnldogaa.Pure
set_option linter.unusedVariables false
set_option linter.unusedSimpArgs false
open Go.RowKit Go.Proofs.Ytgeejlcnnldogaa.XA Go.Proofs.YtgeejlcnnldogaaW.PrintWords Go.Proofs.YtgeejlcnnldogaaW.PrintLast Go.Proofs.YtgeejlcnnldogaaW.PrintMore

theorem often_up {r p : Int} (hp : 1 ≤ p) : r ≤ p * often r p := by
  have e1 := Int.mul_ediv_add_emod r p
  have m2 := Int.emod_lt_of_pos r (show 0 < p by omega)
  unfold often
  split
  · rw [Int.mul_add]
    omega
  · rw [Int.mul_add]
    omega
theorem often_least {r p o : Int} (hp : 1 ≤ p) (h : r ≤ p * o) : often r p ≤ o := by
  have e1 := Int.mul_ediv_add_emod r p
  have m1 := Int.emod_nonneg r (show p ≠ 0 by omega)
  rcases Int.lt_or_le o (often r p) with h1 | h1
  · exfalso
    unfold often at h1
    split at h1
    · have := Int.mul_le_mul_of_nonneg_left (show o ≤ r / p by omega) (show 0 ≤ p by omega)
      omega
    · have := Int.mul_le_mul_of_nonneg_left (show o ≤ r / p - 1 by omega) (show 0 ≤ p by omega)
      rw [Int.mul_sub] at this
      omega
  · exact h1
theorem often_shorter {r p p2 : Int} (hr : 0 ≤ r) (h1 : 1 ≤ p2) (h : p2 ≤ p) : often r p ≤ often r p2 := by
  refine often_least (by omega) ?_
  have h2 := often_up (r := r) h1
  have h3 := Int.mul_le_mul_of_nonneg_right h (often_nonneg hr h1)
  omega
theorem loadS_set (r : Int) (hr : 0 ≤ r) (x : S58) : ∀ (a : List S58) (k : Nat), k < a.length → 1 ≤ x.f0 → x.f0 ≤ (a.getD k z58).f0 → x.f1 = (a.getD k z58).f1 → 0 ≤ x.f1 → loadS r a ≤ loadS r (a.set k x)
  | [], k, hk, _, _, _, _ => by simp at hk
  | y :: a, 0, hk, h1, h2, h3, h4 => by
    simp [List.getD] at h2 h3
    have := Int.mul_le_mul_of_nonneg_right (often_shorter hr h1 h2) h4
    simp only [List.set_cons_zero, loadS]
    rw [← h3]
    omega
  | y :: a, k + 1, hk, h1, h2, h3, h4 => by
    have ih := loadS_set r hr x a k (by simpa using hk) h1 (by simpa [List.getD] using h2) (by simpa [List.getD] using h3) h4
    simp only [List.set_cons_succ, loadS]
    omega

def fin (r : Int × Int × Int) (bt : Int × Int × Int) : Option Bool := if bt.2.2 = 0 then (if r.2.2 = 0 then (if bt.1 ≥ r.1 then (some true) else (some (r.2.2 == 15))) else (some (r.2.2 == 15))) else (if bt.2.2 = 13 then (some true) else (some (bt.2.2 == 15)))

theorem more_end (own own2 : Int) (ho : 0 ≤ own ∧ own ≤ 255) (ho2 : 0 ≤ own2 ∧ own2 ≤ 1000) (a b : List S58) (ha : SmallL a) (hb : SmallL b) (hna : a.length ≤ 100) (hnb : b.length ≤ 100) (hmore : ∀ r, 0 ≤ r → own + loadS r a ≤ own2 + loadS r b) :
    Ev (fun k => (rta_Fix.f k own2 b 5000).bind (fin (fixG own a 5000 1000 0 own))) true := by
  have e1 := fix_ev own2 5000 ho2.1 (by omega) (by omega) (by omega) b hb.ok (by omega)
  have hS0 := loadS_nonneg ho2.1 b hb.ok
  rcases fixG_bad own2 b 5000 (small_no own2 (by omega) b hb hnb 5000 (by omega)) (small_pos own2 ho2.1 b hb) 1000 0 own2 ho2.1 with ⟨q, n, h⟩ | h | h
  · rw [h] at e1
    refine Ev.bind e1 ?_
    obtain ⟨h1, h2, h3, -, -⟩ := fixG_ok own2 b hb.ok 5000 1000 0 own2 q n ho2.1 h (by omega)
    have hq0 : 0 ≤ q := by omega
    have hm := hmore q hq0
    have hSa := loadS_nonneg hq0 a ha.ok
    rcases fixG_more own own2 a b ha.ok 5000 q hq0 h2 h3 (fun r h0 _ => hmore r h0) (small_no own (by omega) a ha hna 5000 (by omega)) ho.1 1000 0 own ho.1 (by omega) with ⟨p, m, hp, hpq⟩ | hp
    · rw [hp]
      unfold fin
      simp [hpq]
      exact Ev.now true
    · rw [hp]
      unfold fin
      simp
      exact Ev.now true
  · rw [h] at e1
    refine Ev.bind e1 ?_
    unfold fin
    simp
    exact Ev.now true
  · rw [h] at e1
    refine Ev.bind e1 ?_
    unfold fin
    simp
    exact Ev.now true

theorem rd_load (a : List S58) (k : Nat) : rd_T58 a k = a.getD k z58 := by simp [rd_T58]

theorem more_loop (own more which : Int) (ho : 0 ≤ own ∧ own ≤ 255) (hm : 0 ≤ more ∧ more ≤ 255) (hw : 0 ≤ which ∧ which ≤ 255) (l : List Int) (hl : ∀ x ∈ l, 0 ≤ x ∧ x ≤ 255) (hn : l.length ≤ 20) : ∀ (d j : Nat), l.length / 2 - j = d → 2 * j ≤ l.length →
    Ev (fun k => watchbilllaw12_RtaMore.l0 k own l more which (lds l j) (2 * j : Nat)) true := by
  intro d
  induction d with
  | zero =>
    intro j hd hj
    have hj10 : j ≤ 10 := by omega
    have ha := lds_small l hl j
    have hla := lds_len l j
    have hup : ∀ x ∈ lds l j, x.f0 ≤ 257 := by
      intro x hx
      simp only [lds, List.mem_map] at hx
      obtain ⟨t, _, rfl⟩ := hx
      have h1 := getD_bd l hl (2 * t)
      simp only [ld]
      omega
    generalize lds l j = a at ha hla hup ⊢
    have e1 := fix_ev own 5000 ho.1 (by omega) (by omega) (by omega) a ha.ok (by omega)
    have t3 : Int.tmod which 3 = which % 3 := Int.tmod_eq_emod_of_nonneg hw.1
    have t2 : Int.tmod more 2 = more % 2 := Int.tmod_eq_emod_of_nonneg hm.1
    have t9 : Int.tmod more 9 = more % 9 := Int.tmod_eq_emod_of_nonneg hm.1
    have hw3 := w64 (x := which) (by omega) (by omega)
    have hap : ([] : List S58) ++ a = a := List.nil_append a
    have hl0 : ([] : List S58).length + a.length < 8796093022208 := by simp; omega
    by_cases c0 : which % 3 = 0
    · have h := more_end own (own + more) ho (by omega) a a ha ha (by omega) (by omega) (fun r h0 => by omega)
      refine Ev.step (f := fun k => (rta_Fix.f k own a 5000).bind fun bt284 => (rta_Fix.f k (own + more) a 5000).bind (fin bt284)) (fun k => ?_) (Ev.bind e1 h)
      rw [watchbilllaw12_RtaMore.l0, if_neg (by rw [w64 (by omega) (by omega)]; omega)]
      simp only [Option.bind_some, hap, if_pos hl0, t3, if_pos c0, w64 (x := own) (by omega) (by omega), w64 (x := more) (by omega) (by omega), w64 (x := own + more) (by omega) (by omega)]
      rfl
    · by_cases c1 : which % 3 = 1
      · have hb : SmallL (a ++ [⟨3, more % 2⟩]) := by
          intro x hx
          rcases List.mem_append.1 hx with h | h
          · exact ha x h
          · rw [List.mem_singleton] at h
            subst h
            show 1 ≤ (3 : Int) ∧ 0 ≤ more % 2 ∧ more % 2 ≤ 7
            omega
        have h := more_end own own ho (by omega) a (a ++ [⟨3, more % 2⟩]) ha hb (by omega) (by simp; omega) (fun r h0 => by
          rw [loadS_append]
          have := loadS_nonneg h0 [⟨3, more % 2⟩] (fun x hx => hb.ok x (List.mem_append_right _ hx))
          omega)
        refine Ev.step (f := fun k => (rta_Fix.f k own a 5000).bind fun bt284 => (rta_Fix.f k own (a ++ [⟨3, more % 2⟩]) 5000).bind (fin bt284)) (fun k => ?_) (Ev.bind e1 h)
        have hl1 : a.length < 8796093022208 := by omega
        rw [watchbilllaw12_RtaMore.l0, if_neg (by rw [w64 (by omega) (by omega)]; omega)]
        simp only [Option.bind_some, hap, if_pos hl0, t3, if_neg c0, if_pos c1, if_pos hl1, t2, w64 (x := own) (by omega) (by omega), w64 (x := more % 2) (by omega) (by omega)]
        rfl
      · have c2 : which % 3 = 2 := by omega
        by_cases hz : a.length = 0
        · have h := more_end own own ho (by omega) a a ha ha (by omega) (by omega) (fun r h0 => by omega)
          refine Ev.step (f := fun k => (rta_Fix.f k own a 5000).bind fun bt284 => (rta_Fix.f k own a 5000).bind (fin bt284)) (fun k => ?_) (Ev.bind e1 h)
          have hz1 : ¬ ((a.length : Int) > 0) := by omega
          rw [watchbilllaw12_RtaMore.l0, if_neg (by rw [w64 (by omega) (by omega)]; omega)]
          simp only [Option.bind_some, hap, if_pos hl0, t3, if_neg c0, if_neg c1, if_pos c2, if_neg hz1, w64 (x := own) (by omega) (by omega)]
          rfl
        · obtain ⟨k0, hk0, hk1⟩ : ∃ k0 : Nat, Int.tmod (wrap64 which) (a.length : Int) = (k0 : Int) ∧ k0 < a.length := by
            rw [hw3, Int.tmod_eq_emod_of_nonneg hw.1]
            have := Int.emod_nonneg which (b := (a.length : Int)) (by omega)
            have := Int.emod_lt_of_pos which (b := (a.length : Int)) (by omega)
            exact ⟨(which % (a.length : Int)).toNat, by omega, by omega⟩
          have hmem : a.getD k0 z58 ∈ a := by simp [List.getD, hk1]
          have hx := ha _ hmem
          have hu := hup _ hmem
          obtain ⟨x, hxx⟩ : ∃ x : S58, x = ⟨mx 1 (wrap64 ((rd_T58 a k0).f0 - wrap64 (more % 9))), (rd_T58 a k0).f1⟩ := ⟨_, rfl⟩
          have hx0 : 1 ≤ x.f0 ∧ x.f0 ≤ (a.getD k0 z58).f0 ∧ x.f1 = (a.getD k0 z58).f1 := by
            rw [hxx, rd_load, w64 (x := more % 9) (by omega) (by omega), w64 (by omega) (by omega)]
            refine ⟨?_, ?_, rfl⟩
            · show 1 ≤ mx 1 _
              unfold mx
              split <;> omega
            · show mx 1 _ ≤ _
              unfold mx
              split <;> omega
          have hb : SmallL (a.set k0 x) := by
            intro y hy
            rcases List.mem_or_eq_of_mem_set hy with h | h
            · exact ha y h
            · subst h
              omega
          have h := more_end own own ho (by omega) a (a.set k0 x) ha hb (by omega) (by simp; omega) (fun r h0 => by
            have := loadS_set r h0 x a k0 hk1 hx0.1 hx0.2.1 hx0.2.2 (by omega)
            omega)
          refine Ev.step (f := fun k => (rta_Fix.f k own a 5000).bind fun bt284 => (rta_Fix.f k own (a.set k0 x) 5000).bind (fin bt284)) (fun k => ?_) (Ev.bind e1 h)
          have hz1 : (a.length : Int) > 0 := by omega
          have hz2 : ¬ ((a.length : Int) = 0) := by omega
          have hp1 : (0 : Int) ≤ (k0 : Int) := by omega
          have hp2 : (k0 : Int) < (a.length : Int) := by omega
          rw [watchbilllaw12_RtaMore.l0, if_neg (by rw [w64 (by omega) (by omega)]; omega)]
          simp only [Option.bind_some, hap, if_pos hl0, t3, if_neg c0, if_neg c1, if_pos c2, if_pos hz1, if_neg hz2, hk0, if_pos hp1, if_pos hp2, t9, ← hxx, Int.toNat_natCast, w64 (x := own) (by omega) (by omega)]
          rfl
  | succ d ih =>
    intro j hd hj
    have hlt : 2 * j + 1 < l.length := by omega
    refine Ev.step (fun k => ?_) (ih (j + 1) (by omega) (by omega))
    have e1 : wrap64 (((2 * j : Nat) : Int) + 2) = ((2 * (j + 1) : Nat) : Int) := by rw [w64 (by omega) (by omega)]; omega
    rw [watchbilllaw12_RtaMore.l0, if_pos (by rw [w1 (by omega)]; omega), if_pos (by omega), if_pos (by omega), if_pos (by rw [w1 (by omega)]; omega), if_pos (by rw [lds_len]; omega), elt l hl j (by omega), e1, ← lds_succ]

theorem RtaMore : watchbilllaw12_RtaMore.Pure := by
  intro own l more which ho hm h8 hwf hmo hwh
  have hl : ∀ x ∈ l, 0 ≤ x ∧ x ≤ 255 := fun x hx => u8_of (hwf x hx)
  refine Ev.rounds (r := true) ?_
  unfold watchbilllaw12_RtaMore.f watchbilllaw12_known.f
  simp only [Option.bind_some, if_true]
  by_cases h1 : (l.length : Int) > 20
  · exact Ev.congr (fun k => by rw [if_pos h1]) (Ev.now true)
  · refine Ev.congr (fun k => by rw [if_neg h1]) ?_
    exact more_loop own more which (u8_of ho) (u8_of hmo) (u8_of hwh) l hl (by omega) (l.length / 2) 0 (by omega) (by omega)
end Go.Proofs.Ytgeejlcnnldogaa.Pure
