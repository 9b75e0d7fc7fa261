/- The program's timer and the reference's: how they belong together, in plain words. -/
import Derived.Test.YtkmjeadnkndhbaaRefTimerTick
namespace Go.Proofs.Ytkmjeadnkndhbaa
set_option linter.unusedVariables false
set_option linter.unusedSimpArgs false
open Go.RowKit
abbrev Pt := Int × Int
def ptD (d : Due) : Pt := (d.id, d.more)
/-- Behind all that are due no later. -/
def ins (x : Pt) : List Pt → List Pt
  | [] => [x]
  | y :: l => if y.2 ≤ x.2 then y :: ins x l else x :: y :: l
def srt (L : List Due) : List Pt := L.foldl (fun acc d => ins (ptD d) acc) []
abbrev Asc (l : List Pt) : Prop := l.Pairwise (fun a b => a.2 ≤ b.2)
theorem ins_mem (x y : Pt) : ∀ l, y ∈ ins x l ↔ y = x ∨ y ∈ l
  | [] => by simp [ins]
  | z :: l => by
    unfold ins
    split
    · simp only [List.mem_cons, ins_mem x y l]
      constructor
      · rintro (h | h | h)
        · exact .inr (.inl h)
        · exact .inl h
        · exact .inr (.inr h)
      · rintro (h | h | h)
        · exact .inr (.inl h)
        · exact .inl h
        · exact .inr (.inr h)
    · simp only [List.mem_cons]
theorem ins_len (x : Pt) : ∀ l, (ins x l).length = l.length + 1
  | [] => rfl
  | z :: l => by
    unfold ins
    split
    · simp [ins_len x l]
    · simp
theorem ins_asc (x : Pt) : ∀ l, Asc l → Asc (ins x l)
  | [], _ => by simp [ins, Asc]
  | y :: l, h => by
    have h' := List.pairwise_cons.1 h
    unfold ins
    split
    · rename_i hy
      refine List.pairwise_cons.2 ⟨fun z hz => ?_, ins_asc x l h'.2⟩
      rcases (ins_mem x z l).1 hz with rfl | hz
      · exact hy
      · exact h'.1 z hz
    · rename_i hy
      refine List.pairwise_cons.2 ⟨fun z hz => ?_, h⟩
      rcases List.mem_cons.1 hz with rfl | hz
      · omega
      · have := h'.1 z hz; omega
theorem ins_split (x : Pt) : ∀ l, Asc l → ∃ A B, l = A ++ B ∧ ins x l = A ++ x :: B ∧ (∀ y ∈ A, y.2 ≤ x.2) ∧ (∀ y ∈ B, x.2 < y.2)
  | [], _ => ⟨[], [], rfl, rfl, by simp, by simp⟩
  | y :: l, h => by
    have h' := List.pairwise_cons.1 h
    unfold ins
    split
    · rename_i hy
      obtain ⟨A, B, e1, e2, e3, e4⟩ := ins_split x l h'.2
      refine ⟨y :: A, B, by rw [e1]; rfl, by rw [e2]; rfl, fun z hz => ?_, e4⟩
      rcases List.mem_cons.1 hz with rfl | hz
      · exact hy
      · exact e3 z hz
    · rename_i hy
      refine ⟨[], y :: l, rfl, rfl, by simp, fun z hz => ?_⟩
      rcases List.mem_cons.1 hz with rfl | hz
      · omega
      · have := h'.1 z hz; omega
theorem srt_snoc (L : List Due) (d : Due) : srt (L ++ [d]) = ins (ptD d) (srt L) := by simp [srt]
theorem srt_ind {P : List Due → List Pt → Prop} (h0 : P [] []) (h1 : ∀ L d, P L (srt L) → P (L ++ [d]) (ins (ptD d) (srt L))) (L : List Due) : P L (srt L) := by
  have : ∀ n, ∀ L : List Due, L.length = n → P L (srt L) := by
    intro n
    induction n with
    | zero =>
      intro L hL
      obtain rfl := List.eq_nil_of_length_eq_zero hL
      exact h0
    | succ n ih =>
      intro L hL
      have hne : L ≠ [] := fun c => by rw [c] at hL; cases hL
      have e : L = L.dropLast ++ [L.getLast hne] := (List.dropLast_concat_getLast hne).symm
      rw [e, srt_snoc]
      exact h1 _ _ (ih _ (by rw [List.length_dropLast]; omega))
  exact this _ L rfl
theorem srt_asc (L : List Due) : Asc (srt L) := srt_ind (P := fun _ l => Asc l) List.Pairwise.nil (fun _ d h => ins_asc _ _ h) L
theorem srt_mem (L : List Due) (y : Pt) : y ∈ srt L ↔ y ∈ L.map ptD :=
  srt_ind (P := fun L l => y ∈ l ↔ y ∈ L.map ptD) (by simp) (fun L d h => by rw [ins_mem, h]; simp only [List.map_append, List.mem_append, List.map_cons, List.map_nil, List.mem_cons, List.not_mem_nil, or_false]; exact or_comm) L
theorem srt_len (L : List Due) : (srt L).length = L.length :=
  srt_ind (P := fun L l => l.length = L.length) rfl (fun L d h => by rw [ins_len, h]; simp) L
theorem ins_filter (p : Pt → Bool) (x : Pt) : ∀ l, Asc l → (ins x l).filter p = if p x then ins x (l.filter p) else l.filter p
  | [], _ => by by_cases h : p x <;> simp [ins, h]
  | y :: l, h => by
    have h' := List.pairwise_cons.1 h
    have ih := ins_filter p x l h'.2
    by_cases hy : y.2 ≤ x.2
    · rw [ins, if_pos hy]
      by_cases py : p y
      · rw [List.filter_cons_of_pos py, ih, List.filter_cons_of_pos py]
        split
        · rw [ins, if_pos hy]
        · rfl
      · rw [List.filter_cons_of_neg py, ih, List.filter_cons_of_neg py]
    · rw [ins, if_neg hy]
      by_cases px : p x
      · rw [List.filter_cons_of_pos px, if_pos px]
        have hall : ∀ z ∈ (y :: l).filter p, x.2 < z.2 := by
          intro z hz
          rcases List.mem_cons.1 (List.mem_filter.1 hz).1 with rfl | hz
          · omega
          · have := h'.1 z hz; omega
        cases hf : (y :: l).filter p with
        | nil => rfl
        | cons z r =>
          rw [hf] at hall
          have := hall z (by simp)
          rw [ins, if_neg (by omega)]
      · rw [List.filter_cons_of_neg px, if_neg px]
theorem srt_filter (p : Pt → Bool) (L : List Due) : (srt L).filter p = srt (L.filter fun d => p (ptD d)) :=
  srt_ind (P := fun L l => l.filter p = srt (L.filter fun d => p (ptD d))) rfl (fun L d h => by
    rw [ins_filter p _ _ (srt_asc L), h, List.filter_append]
    by_cases hd : p (ptD d)
    · have e : [d].filter (fun d => p (ptD d)) = [d] := by simp [hd]
      rw [if_pos hd, e, srt_snoc]
    · have e : [d].filter (fun d => p (ptD d)) = [] := by simp [hd]
      rw [if_neg hd, e, List.append_nil]) L
def shf (c : Int) (x : Pt) : Pt := (x.1, x.2 + c)
theorem ins_shift (c : Int) (x : Pt) : ∀ l, (ins x l).map (shf c) = ins (shf c x) (l.map (shf c))
  | [] => rfl
  | y :: l => by
    unfold ins
    by_cases h : y.2 ≤ x.2
    · rw [if_pos h]
      simp only [List.map_cons]
      rw [if_pos (show (shf c y).2 ≤ (shf c x).2 by unfold shf; simp only; omega), ins_shift c x l]
    · rw [if_neg h]
      simp only [List.map_cons]
      rw [if_neg (show ¬ (shf c y).2 ≤ (shf c x).2 by unfold shf; simp only; omega)]
theorem srt_shift (c : Int) (L : List Due) : (srt L).map (shf c) = srt (L.map fun d => ⟨d.id, d.more + c⟩) :=
  srt_ind (P := fun L l => l.map (shf c) = srt (L.map fun d => ⟨d.id, d.more + c⟩)) rfl (fun L d h => by
    rw [ins_shift, h, List.map_append, List.map_cons, List.map_nil, srt_snoc]
    rfl) L
theorem absD_shift (ds : List Due) : ∀ b c, absD ds (b + c) = (absD ds b).map (shf c) := by
  induction ds with
  | nil => intro b c; rfl
  | cons d l ih =>
    intro b c
    rw [absD, absD, List.map_cons, ← ih]
    congr 1
    · unfold shf; simp only; congr 1; omega
    · congr 1; omega
/-- All alike in time: as they were put. -/
theorem srt_same (t : Int) (L : List Due) (h : ∀ d ∈ L, d.more = t) : srt L = L.map ptD := by
  have : ∀ l : List Pt, ∀ x : Pt, (∀ y ∈ l, y.2 = x.2) → ins x l = l ++ [x] := by
    intro l x
    induction l with
    | nil => intro _; rfl
    | cons y l ih =>
      intro hl
      rw [ins, if_pos (by rw [hl y (by simp)]; exact Int.le_refl _), ih (fun z hz => hl z (List.mem_cons_of_mem _ hz))]
      rfl
  refine srt_ind (P := fun L l => (∀ d ∈ L, d.more = t) → l = L.map ptD) (fun _ => rfl) (fun L d ih hL => ?_) L h
  have e := ih (fun x hx => hL x (by simp [hx]))
  rw [this _ _ (fun y hy => by
    rw [e] at hy
    obtain ⟨z, hz, rfl⟩ := List.mem_map.1 hy
    show z.more = d.more
    rw [hL z (by simp [hz]), hL d (by simp)]), e]
  simp
/-- How the two belong together. -/
structure Rel (ds L : List Due) : Prop where
  abs : absD ds 0 = srt L
  ids : (L.map Due.id).Nodup
  rng : ∀ d ∈ L, 1 ≤ d.more ∧ d.more ≤ 1099511627776
theorem Rel.nil : Rel [] [] := ⟨rfl, List.nodup_nil, by simp⟩
theorem Rel.len {ds L : List Due} (h : Rel ds L) : ds.length = L.length := by
  have h1 : (absD ds 0).length = ds.length := by
    have := congrArg List.length (absD_ids ds 0)
    simpa using this
  rw [← h1, h.abs, srt_len]
theorem dok_of : ∀ (ds : List Due) (b : Int), Asc (absD ds b) → (∀ x ∈ absD ds b, b ≤ x.2 ∧ x.2 ≤ b + 1099511627776) → DOk ds
  | [], _, _, _ => fun d hd => by cases hd
  | d :: l, b, ha, hr => by
    rw [absD] at ha hr
    have ha' := List.pairwise_cons.1 ha
    have h0 := hr (d.id, b + d.more) (by simp)
    simp only at h0
    intro x hx
    rcases List.mem_cons.1 hx with rfl | hx
    · omega
    · exact dok_of l (b + d.more) ha'.2 (fun y hy => ⟨ha'.1 y hy, by have := hr y (List.mem_cons_of_mem _ hy); omega⟩) x hx
theorem Rel.dok {ds L : List Due} (h : Rel ds L) : DOk ds := by
  refine dok_of ds 0 (by rw [h.abs]; exact srt_asc L) (fun x hx => ?_)
  rw [h.abs, srt_mem] at hx
  obtain ⟨d, hd, rfl⟩ := List.mem_map.1 hx
  have := h.rng d hd
  show 0 ≤ d.more ∧ d.more ≤ 0 + 1099511627776
  omega
theorem idxD_none_iff (ds : List Due) (id : Int) : idxD ds id = none ↔ id ∉ ds.map Due.id := by
  unfold idxD
  rw [List.findIdx?_eq_none_iff]
  constructor
  · intro h hm
    obtain ⟨d, hd, e⟩ := List.mem_map.1 hm
    have := h d hd
    simp [e] at this
  · intro h d hd
    have : d.id ≠ id := fun e => h (e ▸ List.mem_map_of_mem hd)
    simpa using this
theorem Rel.id_mem {ds L : List Due} (h : Rel ds L) (id : Int) : id ∈ ds.map Due.id ↔ id ∈ L.map Due.id := by
  rw [← absD_ids ds 0, h.abs]
  constructor
  · intro hm
    obtain ⟨x, hx, rfl⟩ := List.mem_map.1 hm
    rw [srt_mem] at hx
    obtain ⟨d, hd, rfl⟩ := List.mem_map.1 hx
    exact List.mem_map_of_mem hd
  · intro hm
    obtain ⟨d, hd, rfl⟩ := List.mem_map.1 hm
    exact List.mem_map.2 ⟨ptD d, (srt_mem L _).2 (List.mem_map_of_mem hd), rfl⟩
theorem Rel.none {ds L : List Due} (h : Rel ds L) (id : Int) : idxD ds id = none ↔ idxD L id = none := by
  rw [idxD_none_iff, idxD_none_iff, h.id_mem]
theorem Rel.put {ds L : List Due} (h : Rel ds L) (id n : Int) (h1 : 1 ≤ n) (h2 : n ≤ 1099511627776) (hk : idxD L id = Option.none) : Rel (putD ds id n) (L ++ [⟨id, n⟩]) := by
  obtain ⟨A, B, e1, e2, e3, e4⟩ := ins_split (id, n) (srt L) (srt_asc L)
  refine ⟨?_, ?_, fun d hd => ?_⟩
  · rw [srt_snoc]
    show _ = ins (id, n) (srt L)
    rw [e2]
    have := absD_put ds id 0 n A B (by rw [h.abs]; exact e1) (fun x hx => by have := e3 x hx; simp only at this; omega) (fun x hx => by have := e4 x hx; simp only at this; omega)
    rw [Int.zero_add] at this
    exact this
  · rw [List.map_append, List.nodup_append]
    refine ⟨h.ids, by simp, ?_⟩
    intro a ha b hb e
    simp at hb
    subst e hb
    exact (idxD_none_iff L a).1 hk ha
  · rcases List.mem_append.1 hd with hd | hd
    · exact h.rng d hd
    · simp at hd; subst hd; exact ⟨h1, h2⟩
theorem asc_split (l : List Pt) (hl : Asc l) (h1 : ∀ x ∈ l, 1 ≤ x.2) : l = l.filter (fun x => x.2 == 1) ++ l.filter (fun x => !(x.2 == 1)) := by
  induction l with
  | nil => rfl
  | cons y l ih =>
    have h' := List.pairwise_cons.1 hl
    by_cases hy : y.2 = 1
    · have e : (y.2 == 1) = true := by simp [hy]
      rw [List.filter_cons_of_pos (by simp [hy]), List.filter_cons_of_neg (by simp [hy])]
      rw [List.cons_append, ← ih h'.2 (fun x hx => h1 x (List.mem_cons_of_mem _ hx))]
    · have hall : ∀ z ∈ y :: l, ¬ z.2 = 1 := by
        intro z hz
        rcases List.mem_cons.1 hz with rfl | hz
        · exact hy
        · have := h'.1 z hz
          have := h1 y (by simp)
          omega
      have e1 : (y :: l).filter (fun x => x.2 == 1) = [] := by
        rw [List.filter_eq_nil_iff]
        intro z hz
        simpa using hall z hz
      have e2 : (y :: l).filter (fun x => !(x.2 == 1)) = y :: l := by
        rw [List.filter_eq_self]
        intro z hz
        simpa using hall z hz
      rw [e1, e2, List.nil_append]
theorem Rel.tick {ds L : List Due} (h : Rel ds L) : (tickD ds).1 = outR L ∧ Rel (tickD ds).2 (restR L) := by
  have h1 : ∀ x ∈ srt L, 1 ≤ x.2 := by
    intro x hx
    rw [srt_mem] at hx
    obtain ⟨d, hd, rfl⟩ := List.mem_map.1 hx
    exact (h.rng d hd).1
  have hs := asc_split (srt L) (srt_asc L) h1
  have ht := tickD_abs ds 0 ((srt L).filter fun x => x.2 == 1) ((srt L).filter fun x => !(x.2 == 1)) (by rw [h.abs]; exact hs) (fun x hx => by have := (List.mem_filter.1 hx).2; simp at this; omega) (fun x hx => by
    have h2 := List.mem_filter.1 hx
    have := h1 x h2.1
    have h3 := h2.2
    simp at h3
    omega)
  refine ⟨?_, ?_, ?_, ?_⟩
  · rw [ht.1, srt_filter, srt_same 1 _ (fun d hd => by have := (List.mem_filter.1 hd).2; simpa [ptD] using this)]
    unfold outR
    rw [List.map_map]
    rfl
  · have e := ht.2
    have e2 := absD_shift (tickD ds).2 0 1
    rw [e] at e2
    have e3 : absD (tickD ds).2 0 = ((srt L).filter fun x => !(x.2 == 1)).map (shf (-1)) := by
      rw [e2, List.map_map]
      conv => lhs; rw [← List.map_id (absD (tickD ds).2 0)]
      refine List.map_congr_left (fun x _ => ?_)
      unfold shf
      simp only [Function.comp, id]
      rw [show x.2 + 1 + -1 = x.2 by omega]
    rw [e3, srt_filter, srt_shift]
    rfl
  · unfold restR
    rw [List.map_map]
    exact List.Sublist.nodup ((List.filter_sublist (l := L)).map Due.id) h.ids
  · intro d hd
    unfold restR at hd
    obtain ⟨e, he, rfl⟩ := List.mem_map.1 hd
    have h2 := List.mem_filter.1 he
    have := h.rng e h2.1
    have h3 := h2.2
    simp at h3
    show 1 ≤ e.more - 1 ∧ e.more - 1 ≤ _
    omega
/-- With ids of their own: without the place is without the id. -/
theorem erase_filter {α : Type} (f : α → Int) : ∀ (l : List α) (k : Nat) (id : Int), (l.map f).Nodup → (hk : k < l.length) → f l[k] = id → l.eraseIdx k = l.filter (fun x => !(f x == id))
  | [], k, id, _, hk, _ => by simp at hk
  | x :: l, 0, id, hn, hk, he => by
    simp at he
    rw [List.map_cons, List.nodup_cons] at hn
    rw [List.eraseIdx_cons_zero, List.filter_cons_of_neg (by simp [he])]
    symm
    rw [List.filter_eq_self]
    intro y hy
    have : f y ≠ id := fun c => hn.1 (by rw [he, ← c]; exact List.mem_map_of_mem hy)
    simpa using this
  | x :: l, k + 1, id, hn, hk, he => by
    simp at he hk
    rw [List.map_cons, List.nodup_cons] at hn
    have hx : f x ≠ id := fun c => hn.1 (by rw [c, ← he]; exact List.mem_map_of_mem (List.getElem_mem hk))
    rw [List.eraseIdx_cons_succ, List.filter_cons_of_pos (by simpa using hx), erase_filter f l k id hn.2 hk he]
theorem cutD_abs : ∀ (ds : List Due) (k : Nat) (b : Int), absD (cutD ds k) b = (absD ds b).eraseIdx k
  | [], _, _ => rfl
  | [d], 0, b => rfl
  | d :: e :: r, 0, b => by
    rw [cutD, absD, absD, absD, List.eraseIdx_cons_zero]
    rw [show b + (e.more + d.more) = b + d.more + e.more by omega]
  | d :: l, k + 1, b => by
    rw [cutD, absD, absD, List.eraseIdx_cons_succ, cutD_abs l k]
theorem idxD_some {ds : List Due} {id : Int} {k : Nat} (h : idxD ds id = some k) : ∃ hk : k < ds.length, ds[k].id = id := by
  rw [idxD, List.findIdx?_eq_some_iff_getElem] at h
  obtain ⟨h1, h2, _⟩ := h
  exact ⟨h1, by simpa using h2⟩
theorem srt_ids (L : List Due) : (L.map Due.id).Nodup → ((srt L).map (·.1)).Nodup := by
  refine srt_ind (P := fun L l => (L.map Due.id).Nodup → (l.map (·.1)).Nodup) (fun _ => List.nodup_nil) (fun L d ih hn => ?_) L
  rw [List.map_append, List.nodup_append] at hn
  have ihn := ih hn.1
  obtain ⟨A, B, e1, e2, -, -⟩ := ins_split (ptD d) (srt L) (srt_asc L)
  rw [e2]
  rw [e1, List.map_append, List.nodup_append] at ihn
  have hnot : ∀ x ∈ srt L, x.1 ≠ d.id := by
    intro x hx c
    rw [srt_mem] at hx
    obtain ⟨y, hy, rfl⟩ := List.mem_map.1 hx
    exact hn.2.2 y.id (List.mem_map_of_mem hy) d.id (by simp) c
  rw [List.map_append, List.map_cons, List.nodup_append, List.nodup_cons]
  refine ⟨ihn.1, ⟨fun c => ?_, ihn.2.1⟩, ?_⟩
  · obtain ⟨x, hx, e⟩ := List.mem_map.1 c
    exact hnot x (by rw [e1]; simp [hx]) e
  · intro a ha b hb
    rcases List.mem_cons.1 hb with rfl | hb
    · obtain ⟨x, hx, e⟩ := List.mem_map.1 ha
      intro c
      exact hnot x (by rw [e1]; simp [hx]) (e.trans c)
    · exact ihn.2.2 a ha b hb

theorem Rel.cut {ds L : List Due} (h : Rel ds L) (id : Int) (k j : Nat) (hk : idxD ds id = some k) (hj : idxD L id = some j) : Rel (cutD ds k) (L.eraseIdx j) := by
  obtain ⟨k1, k2⟩ := idxD_some hk
  obtain ⟨j1, j2⟩ := idxD_some hj
  have eL := erase_filter Due.id L j id h.ids j1 j2
  have hids := srt_ids L h.ids
  have hlen : (srt L).length = ds.length := by rw [srt_len, h.len]
  have hgk : ((srt L)[k]'(by omega)).1 = id := by
    have e := absD_ids ds 0
    rw [h.abs] at e
    have : ((srt L).map (·.1))[k]? = (ds.map Due.id)[k]? := by rw [e]
    rw [List.getElem?_map, List.getElem?_map, List.getElem?_eq_getElem (by omega), List.getElem?_eq_getElem k1] at this
    simp only [Option.map_some, Option.some.injEq] at this
    rw [this]
    exact k2
  refine ⟨?_, ?_, ?_⟩
  · rw [cutD_abs, h.abs, erase_filter (·.1) (srt L) k id hids (by omega) hgk, srt_filter, eL]
    rfl
  · rw [eL]
    exact List.Sublist.nodup ((List.filter_sublist (l := L)).map Due.id) h.ids
  · intro d hd
    rw [eL] at hd
    exact h.rng d (List.mem_filter.1 hd).1
theorem leftD_abs : ∀ (ds : List Due) (id b : Int) (t : Int), (absD ds b).find? (fun x => x.1 == id) = some (id, t) → leftD ds id b = (t, true)
  | [], id, b, t, h => by simp [absD] at h
  | d :: l, id, b, t, h => by
    rw [absD, List.find?_cons] at h
    unfold leftD
    by_cases e : d.id = id
    · rw [if_pos e]
      simp only [e, beq_self_eq_true] at h
      injection h with h
      injection h with _ h
      rw [h]
    · rw [if_neg e]
      have e2 : (d.id == id) = false := by simpa using e
      simp only [e2] at h
      exact leftD_abs l id (b + d.more) t h
theorem leftD_none : ∀ (ds : List Due) (id b : Int), idxD ds id = Option.none → leftD ds id b = (0, false)
  | [], _, _, _ => rfl
  | d :: l, id, b, h => by
    have hn := (idxD_none_iff _ _).1 h
    rw [List.map_cons, List.mem_cons, not_or] at hn
    unfold leftD
    rw [if_neg (fun c => hn.1 c.symm)]
    exact leftD_none l id _ ((idxD_none_iff _ _).2 hn.2)
theorem Rel.left {ds L : List Due} (h : Rel ds L) (id : Int) (j : Nat) (x : Due) (hj : idxD L id = some j) (hx : L[j]? = some x) : leftD ds id 0 = (x.more, true) := by
  obtain ⟨j1, j2⟩ := idxD_some hj
  rw [List.getElem?_eq_getElem j1] at hx
  cases hx
  refine leftD_abs ds id 0 _ ?_
  rw [h.abs, List.find?_eq_some_iff_append]
  have hm : ptD L[j] ∈ srt L := (srt_mem L _).2 (List.mem_map_of_mem (List.getElem_mem j1))
  obtain ⟨A, B, e⟩ := List.append_of_mem hm
  refine ⟨by simp, A, B, by rw [e]; unfold ptD; rw [j2], fun y hy => ?_⟩
  have hy2 : y ∈ srt L := by rw [e]; simp [hy]
  have hy3 := hy2
  rw [srt_mem] at hy2
  obtain ⟨d, hd, rfl⟩ := List.mem_map.1 hy2
  by_cases c : d.id = id
  · exfalso
    -- of one id there is just one
    have hdl : d = L[j] := by
      obtain ⟨i, hi, rfl⟩ := List.getElem_of_mem hd
      have hinj := List.pairwise_iff_getElem.1 h.ids
      by_cases hij : i = j
      · subst hij; rfl
      · exfalso
        rcases Nat.lt_or_ge i j with hlt | hge
        · have := hinj i j (by simpa using hi) (by simpa using j1) hlt
          simp only [List.getElem_map] at this
          exact this (c.trans j2.symm)
        · have := hinj j i (by simpa using j1) (by simpa using hi) (by omega)
          simp only [List.getElem_map] at this
          exact this (j2.trans c.symm)
    have hnd := srt_ids L h.ids
    rw [e, List.map_append, List.nodup_append] at hnd
    exact hnd.2.2 d.id (List.mem_map.2 ⟨ptD d, hy, rfl⟩) d.id (by rw [List.map_cons]; rw [hdl]; exact List.mem_cons_self) rfl
  · have : ((ptD d).1 == id) = false := by simpa [ptD] using c
    simp [this]
end Go.Proofs.Ytkmjeadnkndhbaa
