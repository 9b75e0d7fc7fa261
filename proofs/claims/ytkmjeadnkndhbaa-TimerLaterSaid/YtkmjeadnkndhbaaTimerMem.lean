/- The two timers side by side in memory; each call on both. -/
import Derived.Test.YtkmjeadnkndhbaaTimerRel
import Derived.Test.YtkmjeadnkndhbaaRefTimerCut
import Derived.Test.YtkmjeadnkndhbaaTimerTwins
import Derived.Test.YtkmjeadnkndhbaaOpen
namespace Go.Proofs.Ytkmjeadnkndhbaa
set_option linter.unusedVariables false
set_option linter.unusedSimpArgs false
open Go.RowKit Go.Deep Go.ChangeShapes Go.WideShapes
structure ActT where
  op : Int
  id : Int
  inn : Int
instance : Inhabited ActT := ⟨⟨0, 0, 0⟩⟩
def ActT.enc (x : ActT) : List Value := [.int .i64 x.op, .int .i64 x.id, .int .i64 x.inn]
theorem ActT.enc_len (x : ActT) : x.enc.length = 3 := rfl
theorem flat_act : ∀ (xs : List ActT) (j f : Nat) (x : ActT), xs[j]? = some x → f < 3 → (xs.flatMap ActT.enc)[j * 3 + f]? = x.enc[f]?
  | [], j, f, x, h, _ => by simp at h
  | y :: l, 0, f, x, h, hf => by
    simp at h
    subst h
    rw [List.flatMap_cons, List.getElem?_append_left (by rw [ActT.enc_len]; omega)]
    simp
  | y :: l, j + 1, f, x, h, hf => by
    rw [List.flatMap_cons, List.getElem?_append_right (by rw [ActT.enc_len]; omega), ActT.enc_len, show (j + 1) * 3 + f - 3 = j * 3 + f by omega]
    exact flat_act l j f x (by simpa using h) hf
theorem open_fields3 {P : Program} {W : World} {base : Nat} {H : Type} {enc0 : TypeId × Value → H} {held : Bool} {t : TypeId} {f0 f1 f2 : Field} {fuel : Nat} {cs : List Value} {y : DataW H × List MemPlace} (ht : P.underlying t = some (.struct #[f0, f1, f2])) (hc : P.cellsOf t = 3)
    (o0 : f0.offset = 0) (o1 : f1.offset = 1) (o2 : f2.offset = 2) (s0 : P.cellsOf f0.type = 1) (s1 : P.cellsOf f1.type = 1) (s2 : P.cellsOf f2.type = 1)
    (h : DataW.trod enc0 P W base (fun _ => true) held fuel t cs = some y) :
    ∃ n v0 v1 v2 y0 y1 y2, cs = [v0, v1, v2] ∧ DataW.trod enc0 P W base (fun _ => true) held n f0.type [v0] = some y0 ∧ DataW.trod enc0 P W base (fun _ => true) held n f1.type [v1] = some y1 ∧ DataW.trod enc0 P W base (fun _ => true) held n f2.type [v2] = some y2 := by
  obtain ⟨xs, n, _, _, hl, hlen, hf⟩ := DataW.trod_struct ht h
  rw [hc] at hl
  match xs, hlen, cs, hl with
  | [y0, y1, y2], _, [v0, v1, v2], _ =>
    have h0 := hf 0 f0 rfl
    have h1 := hf 1 f1 rfl
    have h2 := hf 2 f2 rfl
    rw [o0, s0] at h0
    rw [o1, s1] at h1
    rw [o2, s2] at h2
    exact ⟨n, v0, v1, v2, y0, y1, y2, rfl, by simpa using h0, by simpa using h1, by simpa using h2⟩
theorem rd_actsT {H : Type} {enc0 : TypeId × Value → H} {W : World} {base fuel len cap : Nat} {held : Bool} {a : Option Addr} {y : DataW H × List MemPlace}
    (h : DataW.trod enc0 Try.prog W base (fun _ => true) held fuel 40 [.slice a len cap] = some y) :
    ∃ xs : List ActT, len = xs.length ∧ Rd W (.slice a xs.length cap) xs.length (xs.flatMap ActT.enc) ∧ ∀ x ∈ xs, True := by
  refine open_row (enc0 := enc0) ActT.enc (fun x => True) ActT.enc_len (by omega) Try.underlying40 (by kernel_rfl) (fun n cs z hz => ?_) h
  obtain ⟨m, v0, v1, v2, y0, y1, y2, rfl, h0, h1, h2⟩ := open_fields3 Try.underlying46 (by kernel_rfl) rfl rfl rfl (by kernel_rfl) (by kernel_rfl) (by kernel_rfl) hz
  obtain ⟨n0, e0, _, _⟩ := DataW.trod_int Try.underlying3 h0
  obtain ⟨n1, e1, _, _⟩ := DataW.trod_int Try.underlying3 h1
  obtain ⟨n2, e2, _, _⟩ := DataW.trod_int Try.underlying2 h2
  simp only [List.cons.injEq, and_true] at e0 e1 e2
  subst e0
  subst e1
  subst e2
  exact ⟨⟨n0, n1, n2⟩, rfl, trivial⟩
theorem ActT.cells {w : World} {a : Option Addr} {cap : Nat} {xs : List ActT} (h : Rd w (.slice a xs.length cap) xs.length (xs.flatMap ActT.enc)) {k : Nat} {x : ActT} (hk : xs[k]? = some x) :
    ∃ b off, a = some ⟨b, off, none⟩ ∧ w.cell? ⟨b, off + k * 3, none⟩ = some (.int .i64 x.op) ∧ w.cell? ⟨b, off + k * 3 + 1, none⟩ = some (.int .i64 x.id) ∧ w.cell? ⟨b, off + k * 3 + 2, none⟩ = some (.int .i64 x.inn) := by
  have hl := (List.getElem?_eq_some_iff.1 hk).1
  obtain ⟨b, off, rfl, hc⟩ := h.at (by omega)
  refine ⟨b, off, rfl, ?_, ?_, ?_⟩
  · have := hc (k * 3 + 0) _ (flat_act xs k 0 x hk (by omega))
    simpa using this
  · have := hc (k * 3 + 1) _ (flat_act xs k 1 x hk (by omega))
    simpa [Nat.add_assoc] using this
  · have := hc (k * 3 + 2) _ (flat_act xs k 2 x hk (by omega))
    simpa [Nat.add_assoc] using this
theorem ne_types {w : World} {i j : Nat} {c1 c2 : Array Value} {t1 t2 : TypeId} {f1 f2 : Nat × Nat} (h1 : w.heap[i]? = some (.cells c1 t1 f1)) (h2 : w.heap[j]? = some (.cells c2 t2 f2)) (hne : t1 ≠ t2) : i ≠ j := by
  intro e
  subst e
  rw [h1] at h2
  injection h2 with h2
  injection h2 with _ h2 _
  exact hne h2
/-- The program's timer at p (its row at b), the reference's at m. -/
structure MemB (w0 w : World) (p : Nat) (b : Option Nat) (m : Nat) (ds L : List Due) : Prop where
  tim : TimAt w p b ds
  ref : RefT w m L
  hp : w0.heap.size ≤ p
  hb : ∀ k, b = some k → w0.heap.size ≤ k
  hm : w0.heap.size ≤ m
  upd : Upd [] w0 w
theorem MemB.step {w0 w w' : World} {p m : Nat} {b : Option Nat} {ds L : List Due} (h : MemB w0 w p b m ds L) (hu : Upd [] w w') : MemB w0 w' p b m ds L :=
  ⟨h.tim.step hu, h.ref.step hu, h.hp, h.hb, h.hm, h.upd.trans0 hu⟩
theorem RefT.other {w w' : World} {p m : Nat} {b : Option Nat} {ds L : List Due} (hr : RefT w m L) (ht : TimAt w p b ds) (hu : Upd (p :: b.toList) w w') : RefT w' m L := by
  obtain ⟨a, cap, h1, h2⟩ := hr.ex
  obtain ⟨a2, cap2, h3, h4, h5⟩ := ht.ex
  have hb : ∀ k, b = some k → ∃ cells, w.heap[k]? = some (.cells cells 55 (0, 0)) := fun k hk => own_block' h4 (h5.trans hk)
  refine ⟨a, cap, hu.keep h1 ?_, own_keep h2 hu (fun k hk => ?_)⟩
  · intro hm
    rcases List.mem_cons.1 hm with e | e
    · exact ne_types h1 h3 (by decide) e
    · obtain ⟨c, hc⟩ := hb m (by simpa using e)
      exact ne_types h1 hc (by decide) rfl
  · obtain ⟨c, hc⟩ := own_block' h2 hk
    intro hm
    rcases List.mem_cons.1 hm with e | e
    · exact ne_types hc h3 (by decide) e
    · obtain ⟨c2, hc2⟩ := hb k (by simpa using e)
      exact ne_types hc hc2 (by decide) rfl
theorem TimAt.otherR {w w' : World} {p m : Nat} {b : Option Nat} {ds L : List Due} (ht : TimAt w p b ds) (hr : RefT w m L) (hu : Upd [m] w w') : TimAt w' p b ds := by
  obtain ⟨a, cap, h1, h2⟩ := hr.ex
  obtain ⟨a2, cap2, h3, h4, h5⟩ := ht.ex
  refine ht.keep hu ?_ (fun k hk => ?_)
  · simp
    exact fun e => ne_types h1 h3 (by decide) e.symm
  · obtain ⟨c, hc⟩ := own_block' h4 (h5.trans hk)
    simp
    exact fun e => ne_types h1 hc (by decide) e.symm
theorem MemB.tim' {w0 w w' : World} {p m : Nat} {b b' : Option Nat} {ds ds' L : List Due} (h : MemB w0 w p b m ds L) (ht : TimAt w' p b' ds') (hu : Upd (p :: b.toList) w w') (hf : ∀ k, b' = some k → b = some k ∨ w.heap.size ≤ k) : MemB w0 w' p b' m ds' L :=
  ⟨ht, h.ref.other h.tim hu, h.hp, fresh_next (c := w') h.upd h.hb hf, h.hm, h.upd.far hu h.hp h.hb⟩
theorem MemB.ref' {w0 w w' : World} {p m : Nat} {b : Option Nat} {ds L L' : List Due} (h : MemB w0 w p b m ds L) (hr : RefT w' m L') (hu : Upd [m] w w') : MemB w0 w' p b m ds L' :=
  ⟨h.tim.otherR h.ref hu, hr, h.hp, h.hb, h.hm, h.upd.trans hu (fun x hx hl => by simp at hx; have := h.hm; omega)⟩
/-- A call that came in stays as it is. -/
def KeepA (w w' : World) : Prop := ∀ (B : Nat) (c : Array Value) (f : Nat × Nat), w.heap[B]? = some (.cells c 46 f) → w'.heap[B]? = some (.cells c 46 f)
theorem KeepA.of {w w' : World} (hu : Upd [] w w') : KeepA w w' := fun B c f h => hu.keep h (by simp)
theorem KeepA.refl (w : World) : KeepA w w := fun _ _ _ h => h
theorem KeepA.tim {w w' : World} {p : Nat} {b : Option Nat} {ds : List Due} (ht : TimAt w p b ds) (hu : Upd (p :: b.toList) w w') : KeepA w w' := by
  intro B c f h
  obtain ⟨a2, cap2, h3, h4, h5⟩ := ht.ex
  refine hu.keep h (fun hm => ?_)
  rcases List.mem_cons.1 hm with e | e
  · exact ne_types h h3 (by decide) e
  · obtain ⟨c2, hc2⟩ := own_block' h4 (h5.trans (show b = some B by simpa using e))
    exact ne_types h hc2 (by decide) rfl
theorem KeepA.ref {w w' : World} {m : Nat} {L : List Due} (hr : RefT w m L) (hu : Upd [m] w w') : KeepA w w' := by
  intro B c f h
  obtain ⟨a, cap, h1, h2⟩ := hr.ex
  exact hu.keep h (fun hm => ne_types h h1 (by decide) (by simpa using hm))
def badP (id n : Int) : Prop := id < 0 ∨ 255 < id ∨ n < 1 ∨ 1099511627776 < n
instance (id n : Int) : Decidable (badP id n) := by unfold badP; infer_instance
/-- What Put tells; what is there behind it. -/
def putC (L : List Due) (id n : Int) : Int := if badP id n then 1 else if idxD L id = Option.none then 0 else 6
def putL (L : List Due) (id n : Int) : List Due := if badP id n then L else if idxD L id = Option.none then L ++ [⟨id, n⟩] else L
def putDs (ds : List Due) (id n : Int) : List Due := if badP id n then ds else if idxD ds id = Option.none then putD ds id n else ds
theorem Rel.putS {ds L : List Due} (h : Rel ds L) (id n : Int) : Rel (putDs ds id n) (putL L id n) := by
  unfold putDs putL
  by_cases hb : badP id n
  · rw [if_pos hb, if_pos hb]; exact h
  · rw [if_neg hb, if_neg hb]
    unfold badP at hb
    by_cases hk : idxD L id = Option.none
    · rw [if_pos hk, if_pos ((h.none id).2 hk)]
      exact h.put id n (by omega) (by omega) hk
    · rw [if_neg hk, if_neg (fun c => hk ((h.none id).1 c))]
      exact h
theorem putL_len (L : List Due) (id n : Int) : (putL L id n).length ≤ L.length + 1 := by
  unfold putL
  (repeat' split) <;> simp
theorem some_of {o : Option Nat} (h : ¬ o = Option.none) : ∃ k, o = some k := by
  cases o with
  | none => exact absurd rfl h
  | some k => exact ⟨k, rfl⟩
theorem putP_any (w0 w : World) (p m : Nat) (b : Option Nat) (ds L : List Due) (h : MemB w0 w p b m ds L) (hR : Rel ds L) (hm : L.length ≤ 1000) (id n : Int) :
    Calls Try.prog 9 #[.pointer (some ⟨p, 0, none⟩), .int .i64 id, .int .i64 n] w fun e w' => e = .returned (.int .i64 (putC L id n)) ∧ (∃ b', MemB w0 w' p b' m (putDs ds id n) L) ∧ KeepA w w' := by
  have hlen := hR.len
  unfold putC putDs
  by_cases hb : badP id n
  · simp only [if_pos hb]
    refine (put_bad p id n w hb).mono ?_
    rintro e w' ⟨rfl, rfl⟩
    exact ⟨rfl, ⟨b, h⟩, KeepA.refl _⟩
  · simp only [if_neg hb]
    unfold badP at hb
    by_cases hk : idxD L id = Option.none
    · have hk2 := (hR.none id).2 hk
      simp only [if_pos hk, if_pos hk2]
      refine (put_ok p b ds id n w h.tim (by omega) hR.dok (by omega) (by omega) (by omega) (by omega) hk2).mono ?_
      rintro e w' ⟨b', rfl, ht, hu, hf⟩
      exact ⟨rfl, ⟨b', h.tim' ht hu hf⟩, KeepA.tim h.tim hu⟩
    · have hk2 : ¬ idxD ds id = Option.none := fun c => hk ((hR.none id).1 c)
      simp only [if_neg hk, if_neg hk2]
      obtain ⟨k, hk3⟩ := some_of hk2
      refine (put_twice p b ds k id n w h.tim (by omega) (by omega) (by omega) (by omega) (by omega) hk3).mono ?_
      rintro e w' ⟨rfl, hu⟩
      exact ⟨rfl, ⟨b, h.step hu⟩, KeepA.of hu⟩
theorem putR_any (w0 w : World) (p m : Nat) (b : Option Nat) (ds L : List Due) (h : MemB w0 w p b m ds L) (hm : L.length ≤ 1000) (id n : Int) :
    Calls Try.prog 15 #[.pointer (some ⟨m, 0, none⟩), .int .i64 id, .int .i64 n] w fun e w' => e = .returned (.int .i64 (putC L id n)) ∧ MemB w0 w' p b m ds (putL L id n) ∧ KeepA w w' := by
  unfold putC putL
  by_cases hb : badP id n
  · simp only [if_pos hb]
    refine (putR_bad m id n w hb).mono ?_
    rintro e w' ⟨rfl, rfl⟩
    exact ⟨rfl, h, KeepA.refl _⟩
  · simp only [if_neg hb]
    unfold badP at hb
    by_cases hk : idxD L id = Option.none
    · simp only [if_pos hk]
      refine (putR_ok m L id n w h.ref (by omega) (by omega) (by omega) (by omega) (by omega) hk).mono ?_
      rintro e w' ⟨rfl, hr, hu⟩
      exact ⟨rfl, h.ref' hr hu, KeepA.ref h.ref hu⟩
    · simp only [if_neg hk]
      obtain ⟨k, hk3⟩ := some_of hk
      refine (putR_twice m L k id n w h.ref (by omega) (by omega) (by omega) (by omega) (by omega) hk3).mono ?_
      rintro e w' ⟨rfl, rfl⟩
      exact ⟨rfl, h, KeepA.refl _⟩
def cutC (L : List Due) (id : Int) : Int := if idxD L id = Option.none then 8 else 0
def cutL (L : List Due) (id : Int) : List Due := match idxD L id with | Option.none => L | some k => L.eraseIdx k
def cutDs (ds : List Due) (id : Int) : List Due := match idxD ds id with | Option.none => ds | some k => cutD ds k
theorem Rel.cutS {ds L : List Due} (h : Rel ds L) (id : Int) : Rel (cutDs ds id) (cutL L id) := by
  unfold cutDs cutL
  cases hk : idxD L id with
  | none => rw [(h.none id).2 hk]; exact h
  | some j =>
    have : ¬ idxD ds id = Option.none := fun c => by rw [(h.none id).1 c] at hk; cases hk
    obtain ⟨k, hk2⟩ := some_of this
    rw [hk2]
    exact h.cut id k j hk2 hk
theorem cutL_len (L : List Due) (id : Int) : (cutL L id).length ≤ L.length := by
  unfold cutL
  split
  · exact Nat.le_refl _
  · exact List.length_eraseIdx_le _ _
theorem cutP_any (w0 w : World) (p m : Nat) (b : Option Nat) (ds L : List Due) (h : MemB w0 w p b m ds L) (hR : Rel ds L) (hm : L.length ≤ 1000) (id : Int) :
    Calls Try.prog 13 #[.pointer (some ⟨p, 0, none⟩), .int .i64 id] w fun e w' => e = .returned (.int .i64 (cutC L id)) ∧ MemB w0 w' p b m (cutDs ds id) L ∧ KeepA w w' := by
  have hlen := hR.len
  unfold cutC cutDs
  by_cases hk : idxD L id = Option.none
  · have hk2 := (hR.none id).2 hk
    rw [hk2, if_pos hk]
    refine (cancel_none p b ds id w h.tim (by omega) hk2).mono ?_
    rintro e w' ⟨rfl, hu⟩
    exact ⟨rfl, h.step hu, KeepA.of hu⟩
  · have hk2 : ¬ idxD ds id = Option.none := fun c => hk ((hR.none id).1 c)
    obtain ⟨k, hk3⟩ := some_of hk2
    rw [hk3, if_neg hk]
    obtain ⟨hkl, -⟩ := idxD_some hk3
    obtain ⟨g, rfl⟩ : ∃ g, b = some g := by
      obtain ⟨d, l, hd⟩ : ∃ d l, ds = d :: l := by
        cases ds with
        | nil => simp at hkl
        | cons d l => exact ⟨d, l, rfl⟩
      have := h.tim
      rw [hd] at this
      exact this.some
    refine (cancel_ok p g ds id k w h.tim (by omega) hR.dok hk3).mono ?_
    rintro e w' ⟨rfl, ht, hu⟩
    exact ⟨rfl, h.tim' ht hu (fun k hk => .inl hk), KeepA.tim h.tim hu⟩
theorem cutR_any (w0 w : World) (p m : Nat) (b : Option Nat) (ds L : List Due) (h : MemB w0 w p b m ds L) (hm : L.length ≤ 1000) (id : Int) :
    Calls Try.prog 16 #[.pointer (some ⟨m, 0, none⟩), .int .i64 id] w fun e w' => e = .returned (.int .i64 (cutC L id)) ∧ MemB w0 w' p b m ds (cutL L id) ∧ KeepA w w' := by
  unfold cutC cutL
  by_cases hk : idxD L id = Option.none
  · rw [hk, if_pos rfl]
    refine (cancelR_none m L id w h.ref (by omega) hk).mono ?_
    rintro e w' ⟨rfl, rfl⟩
    exact ⟨rfl, h, KeepA.refl _⟩
  · obtain ⟨k, hk3⟩ := some_of hk
    rw [hk3, if_neg (by simp)]
    refine (cancelR_ok m L id k w h.ref (by omega) hk3).mono ?_
    rintro e w' ⟨rfl, hr, hu⟩
    exact ⟨rfl, h.ref' hr hu, KeepA.ref h.ref hu⟩
/-- How long it is still. -/
def leftL (L : List Due) (id : Int) : Int × Bool := match idxD L id with | Option.none => (0, false) | some k => ((L.getD k ⟨0, 0⟩).more, true)
theorem leftP_any (w0 w : World) (p m : Nat) (b : Option Nat) (ds L : List Due) (h : MemB w0 w p b m ds L) (hR : Rel ds L) (hm : L.length ≤ 1000) (id : Int) :
    Calls Try.prog 12 #[.pointer (some ⟨p, 0, none⟩), .int .i64 id] w fun e w' => e = .returned (.tuple #[.int .i64 (leftL L id).1, .bool (leftL L id).2]) ∧ MemB w0 w' p b m ds L ∧ KeepA w w' := by
  have hlen := hR.len
  have he : leftD ds id 0 = leftL L id := by
    unfold leftL
    cases hk : idxD L id with
    | none => exact leftD_none ds id 0 ((hR.none id).2 hk)
    | some j =>
      obtain ⟨j1, j2⟩ := idxD_some hk
      have := hR.left id j L[j] hk (List.getElem?_eq_getElem j1)
      rw [this]
      simp [List.getD, j1]
  rw [← he]
  refine (left_any p b ds id w h.tim (by omega) hR.dok).mono ?_
  rintro e w' ⟨rfl, hu⟩
  exact ⟨rfl, h.step hu, KeepA.of hu⟩
theorem leftR_any (w0 w : World) (p m : Nat) (b : Option Nat) (ds L : List Due) (h : MemB w0 w p b m ds L) (hm : L.length ≤ 1000) (id : Int) :
    Calls Try.prog 19 #[.pointer (some ⟨m, 0, none⟩), .int .i64 id] w fun e w' => e = .returned (.tuple #[.int .i64 (leftL L id).1, .bool (leftL L id).2]) ∧ MemB w0 w' p b m ds L ∧ KeepA w w' := by
  unfold leftL
  cases hk : idxD L id with
  | none =>
    refine (leftR_none m L id w h.ref (by omega) hk).mono ?_
    rintro e w' ⟨rfl, rfl⟩
    exact ⟨rfl, h, KeepA.refl _⟩
  | some j =>
    obtain ⟨j1, j2⟩ := idxD_some hk
    refine (leftR_some m L id j L[j] w h.ref (by omega) hk (List.getElem?_eq_getElem j1)).mono ?_
    rintro e w' ⟨rfl, rfl⟩
    refine ⟨?_, h, KeepA.refl _⟩
    simp [List.getD, j1]
/-- Another timer is changed. -/
theorem MemB.aside {w0 w w' : World} {p p' m : Nat} {b b' : Option Nat} {ds ds' L : List Due} (h : MemB w0 w p b m ds L) (hq : TimAt w p' b' ds') (hp' : w0.heap.size ≤ p') (hb' : ∀ k, b' = some k → w0.heap.size ≤ k) (s : Nat) (h1 : p < s) (h2 : ∀ k, b = some k → k < s) (h3 : s ≤ p') (h4 : ∀ k, b' = some k → s ≤ k) (hu : Upd (p' :: b'.toList) w w') : MemB w0 w' p b m ds L :=
  ⟨h.tim.below hu h1 h2 h3 h4, h.ref.other hq hu, h.hp, h.hb, h.hm, h.upd.far hu hp' hb'⟩
theorem MemB.asideUp {w0 w w' : World} {p p' m : Nat} {b b' : Option Nat} {ds ds' L : List Due} (h : MemB w0 w p b m ds L) (hq : TimAt w p' b' ds') (hp' : w0.heap.size ≤ p') (hb' : ∀ k, b' = some k → w0.heap.size ≤ k) (s : Nat) (h1 : s ≤ p) (h2 : ∀ k, b = some k → s ≤ k) (h3 : p' < s) (h4 : ∀ k, b' = some k → k < s) (hu : Upd (p' :: b'.toList) w w') : MemB w0 w' p b m ds L :=
  ⟨h.tim.above hu h1 h2 h3 h4, h.ref.other hq hu, h.hp, h.hb, h.hm, h.upd.far hu hp' hb'⟩
end Go.Proofs.Ytkmjeadnkndhbaa
