/- A stable sort of fewer than twenty places by waitq.Order's comparison. -/
import Derived.Test.YthchclhleppdhaaBase
import Derived.RegionTactic
import Derived.Deep.RegionHeld3
import Derived.IntWalk
namespace Go.Proofs.Ythchclhleppdhaa
set_option linter.unusedVariables false
set_option linter.unusedSimpArgs false
open Go.RowKit

/-- Block g begins with the numbers l. -/
def RowN (w : World) (g : Nat) (t : TypeId) (cap : Nat) (l : List Nat) : Prop :=
  ∃ c : Array Value, w.heap[g]? = some (.cells c t (0, 0)) ∧ c.size = cap ∧ l.length ≤ cap ∧ ∀ i, i < l.length → c[i]? = some (.int .i64 (l.getD i 0 : Nat))

theorem RowN.lt {w : World} {g : Nat} {t : TypeId} {cap : Nat} {l : List Nat} (h : RowN w g t cap l) : g < w.heap.size := by
  obtain ⟨c, hb, _⟩ := h
  exact blk_lt hb
theorem RowN.cell {w : World} {g : Nat} {t : TypeId} {cap : Nat} {l : List Nat} (h : RowN w g t cap l) {i : Nat} (hi : i < l.length) : w.cell? ⟨g, i, none⟩ = some (.int .i64 (l.getD i 0 : Nat)) := by
  obtain ⟨c, hb, _, _, hc⟩ := h
  simp [World.cell?, hb, hc i hi]
theorem RowN.frozen {w : World} {g : Nat} {t : TypeId} {cap : Nat} {l : List Nat} (h : RowN w g t cap l) (i : Nat) : w.frozen? ⟨g, i, none⟩ = false := by
  obtain ⟨c, hb, _⟩ := h
  simp [World.frozen?, hb]
theorem RowN.keep {w w' : World} {g : Nat} {t : TypeId} {cap : Nat} {l : List Nat} (h : RowN w g t cap l) {S : List Nat} (hu : Upd S w w') (hg : g ∉ S) : RowN w' g t cap l := by
  obtain ⟨c, hb, r⟩ := h
  exact ⟨c, hu.keep hb hg, r⟩
theorem RowN.set {w : World} {g : Nat} {t : TypeId} {cap : Nat} {l : List Nat} (h : RowN w g t cap l) (i x : Nat) : RowN (w.setCell ⟨g, i, none⟩ (.int .i64 x)) g t cap (l.set i x) := by
  obtain ⟨c, hb, hs, hl, hc⟩ := h
  refine ⟨c.setIfInBounds i (.int .i64 x), by simp [World.setCell, Array.getElem?_modify, hb], by simpa using hs, by simpa using hl, fun j hj => ?_⟩
  rw [List.length_set] at hj
  rw [Array.getElem?_setIfInBounds]
  by_cases e : i = j
  · subst e
    rw [if_pos rfl, if_pos (by omega)]
    simp [List.getD, hj]
  · rw [if_neg e, hc j hj]
    simp [List.getD, List.getElem?_set_ne e]
theorem RowN.drew {w : World} {g : Nat} {t : TypeId} {cap : Nat} {l : List Nat} (h : RowN w g t cap l) : RowN w.drew g t cap l := h
theorem RowN.alike {w w' : World} {g : Nat} {t : TypeId} {cap : Nat} {l : List Nat} (h : RowN w g t cap l) (he : w'.heap = w.heap) : RowN w' g t cap l := by
  obtain ⟨c, hb, r⟩ := h
  exact ⟨c, by rw [he]; exact hb, r⟩

theorem cell_set_ne (w : World) (g i j : Nat) (v : Value) (h : i ≠ j) : (w.setCell ⟨g, i, none⟩ v).cell? ⟨g, j, none⟩ = w.cell? ⟨g, j, none⟩ := by
  simp only [World.cell?, World.setCell, Array.getElem?_modify, if_true]
  cases hb : w.heap[g]? with
  | none => rfl
  | some o =>
    cases o <;> simp [Array.getElem?_setIfInBounds, h]

/-- A row that the call owns, and back. -/
theorem RowN.of_own {w : World} {base : Nat} {e : TypeId} {v : Value} {l : List Nat} (h : w.ownsRow base e 1 v l.length (l.map fun j : Nat => Value.int .i64 j)) (hl : 0 < l.length) : ∃ g cap, v = .slice (some ⟨g, 0, none⟩) l.length cap ∧ base ≤ g ∧ cap ≤ maxLen ∧ RowN w g e cap l := by
  rcases h.2 with ⟨_, h0⟩ | ⟨g, cap, cur, rfl, hb, hg, hn, hm, hs, ht⟩
  · omega
  · refine ⟨g, cap, rfl, hb, hm, cur, hg, by omega, hn, fun i hi => ?_⟩
    have h1 := congrArg (fun z : List Value => z[i]?) ht
    simp only [Nat.mul_one, List.getElem?_take, List.getElem?_map] at h1
    rw [if_pos hi, Array.getElem?_toList] at h1
    rw [h1]
    simp [List.getD, hi]
theorem RowN.to_own {w : World} {base g cap : Nat} {e : TypeId} {l : List Nat} (h : RowN w g e cap l) (hb : base ≤ g) (hm : cap ≤ maxLen) : w.ownsRow base e 1 (.slice (some ⟨g, 0, none⟩) l.length cap) l.length (l.map fun j : Nat => Value.int .i64 j) := by
  obtain ⟨c, hg, hs, hl, hc⟩ := h
  refine ⟨by simp, .inr ⟨g, cap, c, rfl, hb, hg, hl, hm, by omega, ?_⟩⟩
  apply List.ext_getElem?
  intro i
  simp only [Nat.mul_one, List.getElem?_take, List.getElem?_map]
  by_cases hi : i < l.length
  · rw [if_pos hi, Array.getElem?_toList, hc i hi]
    simp [List.getD, hi]
  · rw [if_neg hi]
    simp [List.getElem?_eq_none (Nat.not_lt.1 hi)]

/-- Places by an order: each comparison of a later number with an earlier one tells it. -/
structure Ord (N : Nat) (cf : Nat → Nat → Int) (R : Nat → Nat → Prop) : Prop where
  cmp : ∀ x y, x < N → y < x → (cf x y < 0 ↔ R x y)
  total : ∀ x y, x ≠ y → R x y ∨ R y x
  trans : ∀ x y z, R x y → R y z → R x z

theorem take_mem_lt {M : List Nat} (hinc : M.Pairwise (· < ·)) {k : Nat} (hk : k < M.length) {y : Nat} (hy : y ∈ M.take k) : y < M.getD k 0 := by
  have h := hinc
  rw [← List.take_append_drop k M, List.pairwise_append] at h
  have hd : M.drop k = M.getD k 0 :: M.drop (k + 1) := by
    rw [List.drop_eq_getElem_cons hk]
    simp [List.getD, hk]
  exact h.2.2 y hy _ (by rw [hd]; exact List.mem_cons_self)
theorem take_snoc_getD {M : List Nat} {k : Nat} (hk : k < M.length) : M.take (k + 1) = M.take k ++ [M.getD k 0] := by
  rw [List.take_succ_eq_append_getElem hk]
  simp [List.getD, hk]
theorem getD_mem {M : List Nat} {k : Nat} (hk : k < M.length) : M.getD k 0 ∈ M := by
  simp [List.getD, hk]
theorem mid_get (A : List Nat) (x : Nat) (B : List Nat) : (A ++ x :: B).getD A.length 0 = x := by
  simp [List.getD]
theorem mid_set (A : List Nat) (x y : Nat) (B : List Nat) : (A ++ x :: B).set A.length y = A ++ y :: B := by
  induction A with
  | nil => rfl
  | cons a A ih => simp [ih]

set_option maxHeartbeats 4000000 in
set_option maxRecDepth 100000 in
theorem insertion_any (N : Nat) (cf : Nat → Nat → Int) (R : Nat → Nat → Prop) (hO : Ord N cf R) (cap0 : Array Value) (g cap : Nat) (A M B : List Nat) (a b : Nat) (ha : a = A.length) (hb : b = a + M.length) (w : World)
    (hrow : RowN w g 3 cap (A ++ M ++ B)) (hcap : (A ++ M ++ B).length ≤ 9223372036854775000) (hinc : M.Pairwise (· < ·)) (hN : ∀ x ∈ M, x < N) (hN2 : N ≤ 9223372036854775000)
    (hcl : ∀ (x y : Nat) (W : World), x < N → y < N → Upd [g] w W → Calls Try.prog 65 (#[.int .i64 x, .int .i64 y] ++ cap0) W fun e w' => e = .returned (.int .i64 (cf x y)) ∧ Upd [] W w') :
    Calls Try.prog 70 #[.slice (some ⟨g, 0, none⟩) (A ++ M ++ B).length cap, .int .i64 a, .int .i64 b, .func (.func 65) #[] cap0] w fun e w' =>
      e = .returned (.tuple #[]) ∧ ∃ M', M'.Perm M ∧ M'.Pairwise R ∧ RowN w' g 3 cap (A ++ M' ++ B) ∧ Upd [g] w w' := by
  obtain ⟨n, hn⟩ : ∃ n, n = (A ++ M ++ B).length := ⟨_, rfl⟩
  have hncap : n ≤ cap := by obtain ⟨c, _, _, h, _⟩ := hrow; omega
  have hnl : A.length + M.length + B.length = n := by rw [hn]; simp; omega
  rw [← hn] at hcap ⊢
  have HO := Lib.hid hO
  have HCL := Lib.hid hcl
  have HINC := Lib.hid hinc
  have HNN := Lib.hid hN
  have HN := Lib.hid hn
  have HA := Lib.hid ha
  have HB := Lib.hid hb
  have hbn : b ≤ n := by omega
  have han : a ≤ n := by omega
  clear hO hcl hinc hN hn ha hb
  go_enter Try.func70, Try.ntmps70
  go_wp2
  go_loopw [8] (fun i wr => ∃ (k ii : Nat) (S : List Nat), 1 ≤ k ∧ (k ≤ M.length ∨ k = 1) ∧ Hid (ii = a + k) ∧ i = .int .i64 ii ∧ S.Perm (M.take k) ∧ S.Pairwise R ∧ RowN wr g 3 cap (A ++ S ++ M.drop k ++ B) ∧ Upd [g] w wr) (fun i _ => b + 1 - (intOf i).toNat)
  case atStart =>
    refine ⟨1, a + 1, M.take 1, Nat.le_refl 1, .inr rfl, Lib.hid rfl, by go_num, List.Perm.refl _, ?_, by rw [List.append_assoc A, List.take_append_drop]; exact hrow, Upd.refl _ _⟩
    cases M <;> simp
  case round =>
    obtain ⟨k, ii, S, hk1, hk2, HII, rfl, hperm, hpair, hr, hu⟩ := hrel
    have HPERM := Lib.hid hperm
    have HPAIR := Lib.hid hpair
    clear hperm hpair
    by_cases hlt : k < M.length
    · have hib : ii < b := by have := HII.out; have := HB.out; omega
      have hkm : M.drop k = M.getD k 0 :: M.drop (k + 1) := by
        rw [List.drop_eq_getElem_cons hlt]
        simp [List.getD, hlt]
      obtain ⟨x, hx⟩ : ∃ x, x = M.getD k 0 := ⟨_, rfl⟩
      rw [hkm, ← hx] at hr
      have hSlen : S.length = k := by rw [HPERM.out.length_eq]; simp; omega
      have HX := Lib.hid hx
      have HS := Lib.hid hSlen
      clear hkm hx hSlen
      obtain ⟨T, hT⟩ : ∃ T, T = M.drop (k + 1) ++ B := ⟨_, rfl⟩
      have hr' : RowN wr g 3 cap (A ++ S ++ x :: T) := by rw [hT]; simpa using hr
      clear hr
      have HT := Lib.hid hT
      clear hT
      go_wp2
      obtain ⟨wo, hwo⟩ : ∃ wo : World, wo = wr := ⟨_, rfl⟩
      rw [← hwo] at hr' hu ⊢
      clear hwo
      go_loopw [9] (fun j wr => ∃ (S1 S2 : List Nat) (jj : Nat), S = S1 ++ S2 ∧ Hid (jj = a + S1.length) ∧ j = .int .i64 jj ∧ (∀ y ∈ S2, R x y) ∧ RowN wr g 3 cap (A ++ S1 ++ x :: S2 ++ T) ∧ Upd [g] w wr) (fun j _ => (intOf j).toNat)
      case atStart => exact ⟨S, [], ii, by simp, Lib.hid (by rw [HS.out, HII.out]), rfl, by simp, by simpa using hr', hu⟩
      case round =>
        clear hr' hu
        obtain ⟨S1, S2, jj, hS12, HJJ, rfl, hgt, hr, hu⟩ := hrel
        have HGT := Lib.hid hgt
        have HS12 := Lib.hid hS12
        clear hgt hS12
        rcases List.eq_nil_or_concat S1 with h0 | ⟨S1', y, h1⟩
        · subst h0
          have hd1 : decide (a < jj) = false := decide_eq_false (by have := HJJ.out; simp at this; omega)
          go_wp2
          go_quiet (fail)
          go_wp2
          go_roundw
          case rel =>
            refine ⟨k + 1, ii + 1, x :: S2, by omega, .inl (by omega), Lib.hid (by rw [HII.out]; omega), by go_num, ?_, ?_, ?_, by repeat (first | exact hu | refine Upd.drewN ?_ _ | refine Upd.drew ?_)⟩
            · rw [take_snoc_getD hlt, ← HX.out]
              have h1 := HPERM.out
              rw [HS12.out] at h1
              simp only [List.nil_append] at h1
              exact (List.Perm.cons x h1).trans (List.perm_append_singleton x _).symm
            · refine List.pairwise_cons.2 ⟨HGT.out, ?_⟩
              have h1 := HPAIR.out
              rw [HS12.out] at h1
              simpa using h1
            · have h1 : RowN wr g 3 cap (A ++ [] ++ x :: S2 ++ T) := hr
              rw [HT.out] at h1
              refine RowN.alike (w := wr) ?_ rfl
              simpa using h1
          case measure => simp [intOf]; omega
        · subst h1
          simp only [List.concat_eq_append] at hr
          obtain ⟨p, hp⟩ : ∃ p, p = A.length + S1'.length := ⟨_, rfl⟩
          obtain ⟨j, rfl⟩ : ∃ j, j = jj := ⟨_, rfl⟩
          have hj : j = p + 1 := by have h1 := HJJ.out; have h2 := HA.out; simp at h1; omega
          have hd1 : decide (a < j) = true := decide_eq_true (by have := HA.out; omega)
          have hr2 : RowN wr g 3 cap (A ++ S1' ++ y :: x :: S2 ++ T) := by simpa using hr
          have hlen : (A ++ S1' ++ y :: x :: S2 ++ T).length = n := by
            rw [HN.out]
            have h1 := congrArg List.length HS12.out
            have h2 := HS.out
            have h3 := congrArg List.length HT.out
            simp at h1 h3 ⊢
            omega
          have hp1 : j < n := by rw [← hlen]; simp; omega
          have c0 : wr.cell? ⟨g, p, none⟩ = some (.int .i64 y) := by
            have e : (A ++ S1' ++ y :: x :: S2 ++ T).getD p 0 = y := by rw [hp]; have := mid_get (A ++ S1') y (x :: S2 ++ T); simp at this ⊢
            rw [hr2.cell (i := p) (by rw [hlen]; omega), e]
          have c1 : wr.cell? ⟨g, j, none⟩ = some (.int .i64 x) := by
            have e : (A ++ S1' ++ y :: x :: S2 ++ T).getD j 0 = x := by rw [hj, hp]; simpa [Nat.add_assoc] using mid_get (A ++ S1' ++ [y]) x (S2 ++ T)
            rw [hr2.cell (i := j) (by rw [hlen]; omega), e]
          have f0 := hr2.frozen p
          have f1 := hr2.frozen j
          clear hr
          have hyx : y < x := by
            rw [HX.out]
            refine take_mem_lt HINC.out hlt (HPERM.out.mem_iff.1 ?_)
            rw [HS12.out]
            simp
          have hxN : x < N := HNN.out _ (by rw [HX.out]; exact getD_mem hlt)
          have hyN : y < N := by omega
          have hgx : g < wr.heap.size := hr2.lt
          have i1 : IntKind.i64.wrap ((j : Int) - 1) = (p : Int) := by rw [IntWalk.i64_in _ (by omega)]; omega
          have hj0 : (0 : Int) ≤ (p : Int) := by omega
          have hpn : (p : Int) < (n : Int) := by omega
          have hjn : (j : Int) < (n : Int) := by omega
          have HP := Lib.hid hp
          have HJ := Lib.hid hj
          clear hp hj hlen
          go_wp2
          by_cases hcmp : cf x y < 0
          · have hd2 : decide (cf x y < 0) = true := decide_eq_true hcmp
            have HC := Lib.hid hcmp
            clear hcmp
            go_region_held3 (fun w' => w'.cell? ⟨g, p, none⟩ = some (.int .i64 y) ∧ w'.cell? ⟨g, j, none⟩ = some (.int .i64 x)) (first | trivial | go_keep) (first
              | (go_at_call 65; refine (HCL.out x y _ hxN hyN (by repeat (first | exact hu | refine Upd.drewN ?_ _ | refine Upd.drew ?_))).mono ?_; rintro e w1 ⟨rfl, hu1⟩; have d0 := hu1.cell (p := ⟨g, p, none⟩) c0 (by simp); have d1 := hu1.cell (p := ⟨g, j, none⟩) c1 (by simp); have hu2 : Upd [g] w w1 := Upd.trans0 (by repeat (first | exact hu | refine Upd.drewN ?_ _ | refine Upd.drew ?_)) hu1; have hr3 : RowN w1 g 3 cap (A ++ S1' ++ y :: x :: S2 ++ T) := RowN.keep (by exact hr2) hu1 (by simp)))
            have f0 := hr3.frozen p
            have f1 := hr3.frozen j
            have hg1 : g < w1.heap.size := hr3.lt
            have HR3 := Lib.hid hr3
            have HU2 := Lib.hid hu2
            clear hu1 hr3 hu2 hr2 hu c0 c1
            have hpj : p ≠ j := by have := HJ.out; omega
            have s1 : (w1.setCell ⟨g, j, none⟩ (.int .i64 y)).cell? ⟨g, p, none⟩ = some (.int .i64 y) := by rw [cell_set_ne _ _ _ _ _ (Ne.symm hpj)]; exact d0
            have s2 : (w1.setCell ⟨g, p, none⟩ (.int .i64 x)).cell? ⟨g, j, none⟩ = some (.int .i64 x) := by rw [cell_set_ne _ _ _ _ _ hpj]; exact d1
            go_wp2
            go_region
            clear s1 s2 d0 d1 f0 f1
            go_wp2
            go_roundw
            case rel =>
              refine ⟨S1', y :: S2, p, by rw [HS12.out]; simp, Lib.hid (by rw [HP.out, HA.out]), by first | rfl | (congr 1; have := HJ.out; omega), ?_, ?_, ?_⟩
              · intro z hz
                rcases List.mem_cons.1 hz with rfl | hz
                · exact (HO.out.cmp _ _ hxN hyx).1 HC.out
                · exact HGT.out z hz
              · have hl : ((A ++ S1' ++ y :: x :: S2 ++ T).set j y).set p x = A ++ S1' ++ x :: (y :: S2) ++ T := by
                  have e1 := mid_set (A ++ S1' ++ [y]) x y (S2 ++ T)
                  have e2 := mid_set (A ++ S1') y x (y :: S2 ++ T)
                  rw [HJ.out, HP.out]
                  simp [Nat.add_assoc] at e1 e2 ⊢
                  first | done | (rw [e1]; exact e2) | skip
                rw [← hl]
                exact (HR3.out.set j y).set p x
              · exact ((HU2.out.setCell ⟨g, j, none⟩ (.int .i64 y) (by simp)).setCell ⟨g, p, none⟩ (.int .i64 x) (by simp)).drew
            case measure => simp [intOf]; have := HJ.out; omega
          · have hd2 : decide (cf x y < 0) = false := decide_eq_false hcmp
            have HC := Lib.hid hcmp
            clear hcmp
            go_region_held3 (fun w' => w'.cell? ⟨g, p, none⟩ = some (.int .i64 y) ∧ w'.cell? ⟨g, j, none⟩ = some (.int .i64 x)) (first | trivial | go_keep) (first
              | (go_at_call 65; refine (HCL.out x y _ hxN hyN (by repeat (first | exact hu | refine Upd.drewN ?_ _ | refine Upd.drew ?_))).mono ?_; rintro e w1 ⟨rfl, hu1⟩; have d0 := hu1.cell (p := ⟨g, p, none⟩) c0 (by simp); have d1 := hu1.cell (p := ⟨g, j, none⟩) c1 (by simp); have hu2 : Upd [g] w w1 := Upd.trans0 (by repeat (first | exact hu | refine Upd.drewN ?_ _ | refine Upd.drew ?_)) hu1; have hr3 : RowN w1 g 3 cap (A ++ S1' ++ y :: x :: S2 ++ T) := RowN.keep (by exact hr2) hu1 (by simp)))
            have HR3 := Lib.hid hr3
            have HU2 := Lib.hid hu2
            clear hu1 hr3 hu2 hr2 hu c0 c1 d0 d1
            go_wp2
            go_roundw
            case rel =>
              refine ⟨k + 1, ii + 1, S1' ++ y :: x :: S2, by omega, .inl (by omega), Lib.hid (by rw [HII.out]; omega), by go_num, ?_, ?_, ?_, HU2.out⟩
              · rw [take_snoc_getD hlt, ← HX.out]
                have h1 := HPERM.out
                rw [HS12.out] at h1
                simp only [List.concat_eq_append, List.append_assoc, List.singleton_append] at h1
                refine List.Perm.trans ?_ (List.Perm.append_right [x] h1)
                rw [List.append_assoc]
                refine List.Perm.append_left S1' ?_
                simp only [List.cons_append]
                exact List.Perm.cons y (List.perm_append_singleton x S2).symm
              · have h1 := HPAIR.out
                rw [HS12.out] at h1
                simp only [List.concat_eq_append, List.append_assoc, List.singleton_append] at h1
                have hyR : R y x := by
                  rcases HO.out.total y x (by omega) with h | h
                  · exact h
                  · exact absurd ((HO.out.cmp x y hxN hyx).2 h) (Int.not_lt.2 (by simpa using HC.out))
                rw [List.pairwise_append] at h1 ⊢
                refine ⟨h1.1, ?_, ?_⟩
                · refine List.pairwise_cons.2 ⟨?_, List.pairwise_cons.2 ⟨HGT.out, (List.pairwise_cons.1 h1.2.1).2⟩⟩
                  intro z hz
                  rcases List.mem_cons.1 hz with rfl | hz
                  · exact hyR
                  · exact (List.pairwise_cons.1 h1.2.1).1 z hz
                · intro z hz u hu
                  rcases List.mem_cons.1 hu with rfl | hu
                  · exact h1.2.2 z hz _ List.mem_cons_self
                  · rcases List.mem_cons.1 hu with rfl | hu
                    · exact HO.out.trans _ _ _ (h1.2.2 z hz _ List.mem_cons_self) hyR
                    · exact h1.2.2 z hz _ (List.mem_cons_of_mem _ hu)
              · have h1 := HR3.out
                rw [HT.out] at h1
                simpa using h1
            case measure => simp [intOf]; omega
    · have hdone : decide (ii < b) = false := decide_eq_false (by have := HII.out; have := HB.out; omega)
      have htk : M.take k = M := List.take_of_length_le (by omega)
      have hdk : M.drop k = [] := List.drop_of_length_le (by omega)
      rw [hdk] at hr
      have HTK := Lib.hid htk
      clear htk hdk
      go_wp2
      first | go_end0 | ((try simp only [Exit.inBlock, Exit.then]); refine bodyPost_ret (results_none rfl _ _ _) rfl ?_)
      exact ⟨rfl, S, by rw [← HTK.out]; exact HPERM.out, HPAIR.out, by simpa using hr, hu⟩

/-- Fewer than twenty: one insertion sort. -/
theorem stable_few (N : Nat) (cf : Nat → Nat → Int) (R : Nat → Nat → Prop) (hO : Ord N cf R) (cap0 : Array Value) (g cap : Nat) (M : List Nat) (w : World)
    (hrow : RowN w g 3 cap M) (hcap : M.length ≤ 9223372036854775000) (hinc : M.Pairwise (· < ·)) (hN : ∀ x ∈ M, x < N) (hN2 : N ≤ 9223372036854775000) (hfew : M.length < 20)
    (hcl : ∀ (x y : Nat) (W : World), x < N → y < N → Upd [g] w W → Calls Try.prog 65 (#[.int .i64 x, .int .i64 y] ++ cap0) W fun e w' => e = .returned (.int .i64 (cf x y)) ∧ Upd [] W w') :
    Calls Try.prog 69 #[.slice (some ⟨g, 0, none⟩) M.length cap, .int .i64 M.length, .func (.func 65) #[] cap0] w fun e w' =>
      e = .returned (.tuple #[]) ∧ ∃ M', M'.Perm M ∧ M'.Pairwise R ∧ RowN w' g 3 cap M' ∧ Upd [g] w w' := by
  have hi := insertion_any N cf R hO cap0 g cap [] M [] 0 M.length rfl (by simp) w (by simpa using hrow) (by simpa using hcap) hinc hN hN2 hcl
  simp only [List.nil_append, List.append_nil] at hi
  obtain ⟨n, hn⟩ : ∃ n, n = M.length := ⟨_, rfl⟩
  rw [← hn] at hi hfew ⊢
  have HI := Lib.hid hi
  clear hi hn hcl hN hinc hO
  go_enter Try.func69, Try.ntmps69
  go_wp2
  refine wp_loop_rounds 1 ?_
  rw [rounds_succ]
  go_wp2_with fail
  refine HI.out.mono ?_
  rintro e w1 ⟨rfl, M', hp, hR, hr, hu⟩
  have HM := Lib.hid (And.intro hp (And.intro hR (And.intro hr hu)))
  clear hp hR hr hu hrow
  go_wp2
  refine wp_loop_rounds 1 ?_
  rw [rounds_succ]
  go_wp2
  first | go_end0 | ((try simp only [Exit.inBlock, Exit.then]); refine bodyPost_ret (results_none rfl _ _ _) rfl ?_)
  exact ⟨rfl, M', HM.out⟩

theorem sortStable_few (N : Nat) (cf : Nat → Nat → Int) (R : Nat → Nat → Prop) (hO : Ord N cf R) (cap0 : Array Value) (g cap : Nat) (M : List Nat) (w : World)
    (hrow : RowN w g 3 cap M) (hcap : M.length ≤ 9223372036854775000) (hinc : M.Pairwise (· < ·)) (hN : ∀ x ∈ M, x < N) (hN2 : N ≤ 9223372036854775000) (hfew : M.length < 20)
    (hcl : ∀ (x y : Nat) (W : World), x < N → y < N → Upd [g] w W → Calls Try.prog 65 (#[.int .i64 x, .int .i64 y] ++ cap0) W fun e w' => e = .returned (.int .i64 (cf x y)) ∧ Upd [] W w') :
    Calls Try.prog 64 #[.slice (some ⟨g, 0, none⟩) M.length cap, .func (.func 65) #[] cap0] w fun e w' =>
      e = .returned (.tuple #[]) ∧ ∃ M', M'.Perm M ∧ M'.Pairwise R ∧ RowN w' g 3 cap M' ∧ Upd [g] w w' := by
  have hi := stable_few N cf R hO cap0 g cap M w hrow hcap hinc hN hN2 hfew hcl
  obtain ⟨n, hn⟩ : ∃ n, n = M.length := ⟨_, rfl⟩
  rw [← hn] at hi ⊢
  have HI := Lib.hid hi
  clear hi hn hcl hN hinc hO
  go_enter Try.func64, Try.ntmps64
  go_wp2_with fail
  refine HI.out.mono ?_
  rintro e w1 ⟨rfl, M', hp, hR, hr, hu⟩
  have HM := Lib.hid (And.intro hp (And.intro hR (And.intro hr hu)))
  clear hp hR hr hu hrow
  go_wp2
  first | go_end0 | ((try simp only [Exit.inBlock, Exit.then]); refine bodyPost_ret (results_none rfl _ _ _) rfl ?_)
  exact ⟨rfl, M', HM.out⟩
end Go.Proofs.Ythchclhleppdhaa
