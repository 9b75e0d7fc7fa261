/- watchbilllaw16.Made: channels of any room with what they begin with. -/
import Derived.Test.YtjiepoeeahnbgaaPickLeave
import Derived.Test.YtjiepoeeahnbgaaRefSend
import Derived.Test.YtjiepoeeahnbgaaPush2
namespace Go.Proofs.Ytjiepoeeahnbgaa
set_option linter.unusedVariables false
set_option linter.unusedSimpArgs false
open Go.RowKit
theorem ChanP.beside {w w' : World} {p rp c room : Nat} {xs : List Int} {sq rq : List Wt} {cl : Bool} (h : ChanP w p rp c room xs sq rq cl) {base n size : Nat} {e : TypeId} {v : Value} {cs : List Value} (ho : w.ownsRow base e size v n cs)
    (h1 : 76 ≠ e) (h2 : 101 ≠ e) (h3 : e ≠ 68) (hu : Upd v.ownBlock.toList w w') : ChanP w' p rp c room xs sq rq cl := by
  have hn : ∀ {k : Nat} {cells : Array Value} {t : TypeId}, w.heap[k]? = some (.cells cells t (0, 0)) → t ≠ e → k ∉ v.ownBlock.toList := by
    intro k cells t hk hne hm
    obtain ⟨cc, hc⟩ := own_block ho (by simpa using hm)
    rw [hk] at hc
    injection (Option.some.inj hc) with _ h4 _
    exact hne h4
  obtain ⟨_, _, _, _, hp, _⟩ := h.ch.ex
  refine h.keep hu (hn hp h1) (hn h.ring.obj h2) ?_ ?_
  · intro hm
    obtain ⟨cc, hc⟩ := own_block ho (by simpa using hm)
    obtain ⟨s, r, hr⟩ := h.ring.chan
    rw [hr] at hc
    cases hc
  · intro k hk cells hc
    obtain ⟨cc, hc2⟩ := own_block ho (by simpa using hk)
    rw [hc] at hc2
    injection (Option.some.inj hc2) with _ h4 _
    exact h3 h4.symm
theorem ChanP.row {w w' : World} {p rp c room : Nat} {xs : List Int} {sq rq : List Wt} {cl : Bool} (h : ChanP w p rp c room xs sq rq cl) {base n size : Nat} {e : TypeId} {v : Value} {cs : List Value} (ho : w.ownsRow base e size v n cs)
    (h1 : 76 ≠ e) (hu : Upd [p, c] w w') : w'.ownsRow base e size v n cs :=
  own_keepT ho hu (NotT.two (h.ch.notT h1) h.ring.notT)
theorem Upd.pc1 {w w' : World} {p c : Nat} (h : Upd [p] w w') : Upd [p, c] w w' := h.mono (fun z hz _ => by simp at hz; simp [hz])
theorem Upd.pc2 {w w' : World} {p c : Nat} (h : Upd [c] w w') : Upd [p, c] w w' := h.mono (fun z hz _ => by simp at hz; simp [hz])
theorem Upd.pc0 {w w' : World} {p c : Nat} (h : Upd [] w w') : Upd [p, c] w w' := h.mono (fun z hz _ => by simp at hz)
theorem Upd.fresh {w0 w w' : World} {p c : Nat} (h : Upd [] w0 w) (hu : Upd [p, c] w w') (hp : w0.heap.size ≤ p) (hc : w0.heap.size ≤ c) : Upd [] w0 w' :=
  h.trans hu (fun x hx hl => by simp at hx; omega)
theorem blk_apart {w : World} {k : Nat} {cells : Array Value} {t e : TypeId} (hk : w.heap[k]? = some (.cells cells t (0, 0))) {base size n : Nat} {v : Value} {cs : List Value} (ho : w.ownsRow base e size v n cs) (hne : t ≠ e) : k ∉ v.ownBlock.toList := by
  intro hm
  obtain ⟨cc, hc⟩ := own_block ho (by simpa using hm)
  rw [hk] at hc
  injection (Option.some.inj hc) with _ h4 _
  exact hne h4
theorem ChanP.clt {w : World} {p rp c room : Nat} {X : List Int} {S R : List Wt} {cl : Bool} (h : ChanP w p rp c room X S R cl) : c < w.heap.size := by
  obtain ⟨s, r, h2⟩ := h.ring.chan
  exact blk_lt h2
/-- How a channel begins: its room, its values. -/
structure Sx where
  room : Nat
  va : Option Addr
  vc : Nat
  vs : List Int
def Sx.enc (x : Sx) : List Value := [.int .u8 x.room, .slice x.va x.vs.length x.vc, .slice none 0 0, .slice none 0 0, .bool false]
theorem Sx.enc_len (x : Sx) : x.enc.length = 5 := rfl
abbrev RdSx (w : World) (v : Value) (l : List Sx) : Prop := Rd w v l.length (l.flatMap Sx.enc)
theorem RdSx.cells {w : World} {a : Option Addr} {cap : Nat} {l : List Sx} (h : RdSx w (.slice a l.length cap) l) {k : Nat} {x : Sx} (hk : l[k]? = some x) :
    ∃ b off, a = some ⟨b, off, none⟩ ∧ w.cell? ⟨b, off + k * 5, none⟩ = some (.int .u8 x.room) ∧ w.cell? ⟨b, off + k * 5 + 1, none⟩ = some (.slice x.va x.vs.length x.vc) ∧ w.cell? ⟨b, off + k * 5 + 2, none⟩ = some (.slice none 0 0) ∧ w.cell? ⟨b, off + k * 5 + 3, none⟩ = some (.slice none 0 0) ∧ w.cell? ⟨b, off + k * 5 + 4, none⟩ = some (.bool false) := by
  have hl := (List.getElem?_eq_some_iff.1 hk).1
  obtain ⟨b, off, rfl, hc⟩ := h.at (by omega)
  have hh : ∀ j u, j < 5 → x.enc[j]? = some u → w.cell? ⟨b, off + k * 5 + j, none⟩ = some u := fun j u hj hu => by
    have := hc (k * 5 + j) u (by rw [flat_get Sx.enc 5 Sx.enc_len l k j x hk hj]; exact hu)
    rwa [← Nat.add_assoc] at this
  exact ⟨b, off, rfl, hh 0 _ (by omega) rfl, hh 1 _ (by omega) rfl, hh 2 _ (by omega) rfl, hh 3 _ (by omega) rfl, hh 4 _ (by omega) rfl⟩
theorem five_cells {w : World} {b : Nat} {u0 u1 u2 u3 u4 : Value} {t : TypeId} (h : w.heap[b]? = some (.cells #[u0, u1, u2, u3, u4] t (0, 0))) :
    w.cell? ⟨b, 0, none⟩ = some u0 ∧ w.cell? ⟨b, 1, none⟩ = some u1 ∧ w.cell? ⟨b, 2, none⟩ = some u2 ∧ w.cell? ⟨b, 3, none⟩ = some u3 ∧ w.cell? ⟨b, 4, none⟩ = some u4 := by
  simp [World.cell?, h]
/-- Channels, each its own, wherever their row lies. -/
structure ChAll (w : World) (st : List ChSt) : Prop where
  all : ∀ (i : Nat) (s : ChSt), st[i]? = some s → s.lies w
  ne : ∀ (i j : Nat) (s t : ChSt), st[i]? = some s → st[j]? = some t → i ≠ j → s.p ≠ t.p ∧ s.c ≠ t.c
theorem ChAll.nil (w : World) : ChAll w [] := ⟨fun i s h => by simp at h, fun i j s t h => by simp at h⟩
theorem ChAll.keep0 {w w' : World} {st : List ChSt} (h : ChAll w st) (hu : Upd [] w w') : ChAll w' st := ⟨fun i s hs => ChanP.keep0 (h.all i s hs) hu, h.ne⟩
theorem ChAll.beside {w w' : World} {st : List ChSt} (h : ChAll w st) {base n size : Nat} {e : TypeId} {v : Value} {cs : List Value} (ho : w.ownsRow base e size v n cs)
    (h1 : 76 ≠ e) (h2 : 101 ≠ e) (h3 : e ≠ 68) (hu : Upd v.ownBlock.toList w w') : ChAll w' st :=
  ⟨fun i s hs => ChanP.beside (h.all i s hs) ho h1 h2 h3 hu, h.ne⟩
theorem ChAll.low {w : World} {st : List ChSt} (h : ChAll w st) {i : Nat} {s : ChSt} (hs : st[i]? = some s) : s.p < w.heap.size ∧ s.c < w.heap.size := by
  have := h.all i s hs
  obtain ⟨_, _, hc⟩ := this.ring.chan
  exact ⟨this.ch.lt, (Array.getElem?_eq_some_iff.1 hc).1⟩
theorem ChAll.snoc {w0 w : World} {st : List ChSt} (h0 : ChAll w0 st) (h : ChAll w st) {s : ChSt} (hs : s.lies w) (hp : w0.heap.size ≤ s.p) (hc : w0.heap.size ≤ s.c) : ChAll w (st ++ [s]) := by
  have key : ∀ (i : Nat) (t : ChSt), (st ++ [s])[i]? = some t → (st[i]? = some t ∧ i < st.length) ∨ (t = s ∧ i = st.length) := by
    intro i t ht
    rw [List.getElem?_append] at ht
    split at ht
    · exact .inl ⟨ht, by assumption⟩
    · have := (List.getElem?_eq_some_iff.1 ht).1
      simp at this
      have e : i - st.length = 0 := by omega
      rw [e] at ht
      simp at ht
      exact .inr ⟨ht.symm, by omega⟩
  refine ⟨fun i t ht => ?_, fun i j t u ht hu hne => ?_⟩
  · rcases key i t ht with ⟨h1, _⟩ | ⟨rfl, _⟩
    · exact h.all i t h1
    · exact hs
  · rcases key i t ht with ⟨h1, _⟩ | ⟨rfl, h1⟩
    · rcases key j u hu with ⟨h2, _⟩ | ⟨rfl, h2⟩
      · exact h.ne i j t u h1 h2 hne
      · have := h0.low h1
        constructor <;> omega
    · rcases key j u hu with ⟨h2, _⟩ | ⟨rfl, h2⟩
      · have := h0.low h2
        constructor <;> omega
      · omega
/-- The channels as they begin. -/
def Begun (xs : List Sx) (B : Nat) (st : List ChSt) : Prop :=
  ∀ (j : Nat) (s : ChSt), st[j]? = some s → B ≤ s.p ∧ B ≤ s.c ∧ ∃ x, xs[j]? = some x ∧ s.room = x.room % 5 ∧ s.X = x.vs ∧ s.S = [] ∧ s.R = [] ∧ s.cl = false
theorem Begun.snoc {xs : List Sx} {B : Nat} {st : List ChSt} (h : Begun xs B st) {x : Sx} (hx : xs[st.length]? = some x) {p rp c : Nat} (hp : B ≤ p) (hc : B ≤ c) : Begun xs B (st ++ [⟨p, rp, c, x.room % 5, x.vs, [], [], false⟩]) := by
  intro j s hs
  rw [List.getElem?_append] at hs
  split at hs
  · exact h j s hs
  · have := (List.getElem?_eq_some_iff.1 hs).1
    simp at this
    have e : j - st.length = 0 := by omega
    rw [e] at hs
    simp at hs
    subst hs
    have e2 : j = st.length := by omega
    subst e2
    exact ⟨hp, hc, x, hx, rfl, rfl, rfl, rfl, rfl⟩
theorem tCh : ElemT Try.prog 31 39 (.pointer none) 1 8 :=
  ⟨Try.underlying31, by
    obtain ⟨i, hi, h⟩ := info_parts (show (Try.prog.info? 39).map (fun i => (i.zero, i.size, i.bytes)) = some (some (.pointer none), 1, 8) by kernel_rfl)
    exact ⟨i, hi, h⟩, rfl, by decide⟩
theorem tRf : ElemT Try.prog 32 59 (.pointer none) 1 8 :=
  ⟨Try.underlying32, by
    obtain ⟨i, hi, h⟩ := info_parts (show (Try.prog.info? 59).map (fun i => (i.zero, i.size, i.bytes)) = some (some (.pointer none), 1, 8) by kernel_rfl)
    exact ⟨i, hi, h⟩, rfl, by decide⟩
set_option maxHeartbeats 32000000 in
set_option maxRecDepth 100000 in
theorem made_any (a : Option Addr) (cap : Nat) (xs : List Sx) (w : World) (hr : RdSx w (.slice a xs.length cap) xs) (hv : ∀ x ∈ xs, RdI w (.slice x.va x.vs.length x.vc) x.vs ∧ x.vs.length ≤ x.room % 5 ∧ x.room < 256) (hm : xs.length ≤ 20) :
    Calls Try.prog 7 #[.slice a xs.length cap] w fun e w' => ∃ a1 c1 a2 c2 st, e = .returned (.tuple #[.slice a1 st.length c1, .slice a2 st.length c2, .bool true]) ∧ st.length = xs.length ∧ Begun xs w.heap.size st ∧ Chans w' a1 c1 st ∧ Upd [] w w' := by
  have HR := Lib.hid hr
  have HV := Lib.hid hv
  clear hr hv
  go_enter Try.func7, Try.ntmps7
  go_wp2
  go_loopw [5, 6, 7] (fun av bv iv wr => ∃ (i : Nat) (a1 a2 : Option Addr) (c1 c2 : Nat) (st : List ChSt) (qs : List Value), av = .slice a1 i c1 ∧ bv = .slice a2 i c2 ∧ iv = .int .i64 i ∧ i ≤ xs.length ∧ st.length = i ∧ Hid (Begun xs w.heap.size st) ∧ Hid (ChAll wr st) ∧ Hid (wr.ownsRow w.heap.size 39 1 (.slice a1 i c1) i (st.map ChSt.ptr)) ∧ Hid (wr.ownsRow w.heap.size 59 1 (.slice a2 i c2) i qs) ∧ Hid (Upd [] w wr)) (fun _ _ iv _ => xs.length - (intOf iv).toNat)
  case atStart => exact ⟨0, none, none, 0, 0, [], [], rfl, rfl, rfl, Nat.zero_le _, rfl, Lib.hid (fun j s h => by simp at h), Lib.hid (ChAll.nil _), Lib.hid (World.ownsRow_nil _ _ _ _), Lib.hid (World.ownsRow_nil _ _ _ _), Lib.hid (Upd.refl _ _)⟩
  case round =>
    obtain ⟨W1, hW1⟩ : ∃ W1, W1 = wr := ⟨_, rfl⟩
    subst hW1
    obtain ⟨i, a1, a2, c1, c2, st, qs, rfl, rfl, rfl, hi, hl, HB, HC, HA1, HA2, HU⟩ := hrel
    by_cases hlt : i < xs.length
    · obtain ⟨x, hx⟩ : ∃ x, xs[i]? = some x := ⟨_, List.getElem?_eq_getElem hlt⟩
      obtain ⟨b, off, rfl, x0, x1, x2, x3, x4⟩ := RdSx.cells (Rd.keep0 HR.out HU.out) hx
      obtain ⟨hrv, hle, h256⟩ := HV.out x (List.mem_of_getElem? hx)
      have HX := Lib.hid hx
      have HRV := Lib.hid hrv
      clear hx hrv
      obtain ⟨room, va, vc, vs⟩ := x
      simp only at x0 x1 x2 x3 x4 hle h256
      obtain ⟨n, hn⟩ : ∃ n, n = room % 5 := ⟨_, rfl⟩
      have ht : (room : Int).tmod 5 = (n : Int) := by rw [Int.tmod_eq_emod_of_nonneg (by omega)]; omega
      rw [← hn] at hle
      have hn4 : n ≤ 4 := by omega
      have HN := Lib.hid hn
      clear hn
      obtain ⟨A, hA⟩ : ∃ A, A = W1.heap.size := ⟨_, rfl⟩
      obtain ⟨w0, hw0⟩ : ∃ w0, w0 = W1.alloc (.cells #[.int .u8 room, .slice va vs.length vc, .slice none 0 0, .slice none 0 0, .bool false] 28) := ⟨_, rfl⟩
      have hb0 : w0.heap[A]? = some (.cells #[.int .u8 room, .slice va vs.length vc, .slice none 0 0, .slice none 0 0, .bool false] 28 (0, 0)) := by rw [hA, hw0]; exact heap_alloc_new _ _
      have hu0 : Upd [] W1 w0 := by rw [hw0]; exact (Upd.refl _ _).alloc _
      have hsz0 : A < w0.heap.size := blk_lt hb0
      go_wp2_with fail
      rw [← hA, ← hw0]
      have HA := Lib.hid hA
      clear hA hw0 x0 x1 x2 x3 x4
      refine (chanNew_ok n (by omega) _).mono ?_
      rintro e w1 ⟨p, rp, c, rfl, hC1, hu1, hp, hrp, hc⟩
      have hb1 := hu1.keep hb0 (by simp)
      obtain ⟨d0, d1, d2, d3, d4⟩ := five_cells hb1
      go_wp2_with fail
      refine (refNew_ok n (by omega) _).mono ?_
      rintro e w2 ⟨q, m, rfl, hM2, hu2, hq, hm2⟩
      have hb2 := hu2.keep hb1 (by simp)
      have hC2 := hC1.keep0 hu2
      have hpl : p < w1.heap.size := hC1.ch.lt
      have hcl : c < w1.heap.size := hC1.clt
      have hR1 := hC1.ring.obj
      have hsW := hu0.size
      have hU2 : Upd [] W1 w2 := (hu0.trans0 hu1).trans0 hu2
      clear d0 d1 d2 d3 d4 hC1 hb1 hb0 hu2 hu1 hu0
      obtain ⟨d0, d1, d2, d3, d4⟩ := five_cells hb2
      have hrl : rp < w1.heap.size := blk_lt hR1
      have hW0 : W1.heap.size ≤ w0.heap.size := hsW
      have HB2 := Lib.hid hb2
      clear d0 d1 d2 d3 d4 hb2 hR1
      go_wp2
      go_loopw [13] (fun kv wq => ∃ k : Nat, kv = .int .i64 k ∧ k ≤ vs.length ∧ Hid (wq.heap[A]? = some (.cells #[.int .u8 room, .slice va vs.length vc, .slice none 0 0, .slice none 0 0, .bool false] 28 (0, 0))) ∧ ChanP wq p rp c n (vs.take k) [] [] false ∧ ChanM wq q m n (vs.take k) [] [] false ∧ Upd [] W1 wq) (fun kv _ => vs.length - (intOf kv).toNat)
      case atStart => exact ⟨0, rfl, Nat.zero_le _, HB2, hC2, hM2, hU2⟩
      case round =>
        clear hC2 hM2 hU2 HB2
        obtain ⟨w5, hw5⟩ : ∃ w5, w5 = wr := ⟨_, rfl⟩
        subst hw5
        obtain ⟨k, rfl, hk, HBQ, hCq, hMq, hUq⟩ := hrel
        obtain ⟨d0, d1, d2, d3, d4⟩ := five_cells HBQ.out
        by_cases hlk : k < vs.length
        · obtain ⟨y, hy⟩ : ∃ y, vs[k]? = some y := ⟨_, List.getElem?_eq_getElem hlk⟩
          obtain ⟨bv, ov, rfl, hcv⟩ := (Rd.keep0 HRV.out (HU.out.trans0 hUq)).at (by omega)
          have hbv : bv < w.heap.size := Rd.lt HRV.out rfl (by simp; omega)
          have hWs := HU.out.size
          have hyc := hcv k (.int .i64 y) (by rw [List.getElem?_map, hy]; rfl)
          have htk : vs.take (k + 1) = vs.take k ++ [y] := by rw [List.take_add_one, hy]; rfl
          have hlen : (vs.take k).length < n := by simp; omega
          have HTK := Lib.hid htk
          clear hcv htk hy
          go_wp2_with fail
          refine (chanSend_push p rp c n (vs.take k) [] y none 0 0 _ hCq hlen).mono ?_
          rintro e w3 ⟨rfl, hC3, hu3⟩
          have hM3 := hMq.keep hu3 (by simp; omega) (by simp; omega) hCq.ring.notT hCq.ring.notT
          have hb3 := hu3.keep HBQ.out (by simp; omega)
          have hU3 : Upd [] W1 w3 := hUq.trans hu3 (fun z hz hl => by simp at hz; omega)
          have hyc3 := (hu3.cell hyc (by simp; omega))
          obtain ⟨e0, e1, e2, e3, e4⟩ := five_cells hb3
          clear hMq hCq d0 d1 d2 d3 d4 hyc hu3
          go_wp2_with fail
          refine (refSend_push q m n (vs.take k) [] y none 0 [] _ hM3 (Rd.nil _) (by simp) hlen).mono ?_
          rintro e w4 ⟨rfl, hM4, hu4⟩
          have hC4 := hC3.keep hu4 (by simp; omega) (by simp; omega) (by simp; omega) (hM3.ring.notT (by decide))
          have hb4 := hu4.keep hb3 (by simp; omega)
          have hU4 : Upd [] W1 w4 := hU3.trans hu4 (fun z hz hl => by simp at hz; omega)
          rw [← HTK.out] at hM4 hC4
          go_wp2
          go_roundw
          case rel => exact ⟨k + 1, by go_num, by omega, Lib.hid hb4, hC4, hM4, hU4⟩
          case measure => simp [intOf]; omega
        · obtain rfl : k = vs.length := by omega
          rw [List.take_length] at hCq hMq
          go_wp2
          go_loopw [14] (fun kv wq => kv = .int .i64 0 ∧ w5 = wq) (fun _ _ => 0)
          case atStart => exact ⟨rfl, rfl⟩
          case round =>
            obtain ⟨rfl, rfl⟩ := hrel
            obtain ⟨d0, d1, d2, d3, d4⟩ := five_cells HBQ.out
            go_wp2
            go_loopw [16] (fun kv wq => kv = .int .i64 0 ∧ w5 = wq) (fun _ _ => 0)
            case atStart => exact ⟨rfl, rfl⟩
            case round =>
              obtain ⟨rfl, rfl⟩ := hrel
              obtain ⟨d0, d1, d2, d3, d4⟩ := five_cells HBQ.out
              have hu5 : Upd [] w w5 := HU.out.trans0 hUq
              have hsz5 := hu5.size
              have hAll := ChAll.snoc HC.out (HC.out.keep0 hUq) (s := ⟨p, rp, c, n, vs, [], [], false⟩) hCq (by simp; omega) (by simp; omega)
              have ho1 := own_keep0 HA1.out hUq
              have ho2 := own_keep0 HA2.out hUq
              have hWs := HU.out.size
              have hBg : Begun xs w.heap.size (st ++ [⟨p, rp, c, n, vs, [], [], false⟩]) := by
                rw [HN.out]
                exact HB.out.snoc (x := ⟨room, va, vc, vs⟩) (by rw [hl]; exact HX.out) (by omega) (by omega)
              have hs1 : i + 1 ≤ maxLen := by unfold maxLen; omega
              have hs3 : (i + 1) * 8 ≤ 140737488355328 := by omega
              have HBG := Lib.hid hBg
              clear hBg hCq hMq
              go_wp2_with (first
                | (at_builtin; refine wp_push2 tCh rfl (.tmp 146) (.tmp 148) rfl ho1 [.pointer (some ⟨p, 0, none⟩)] rfl rfl rfl rfl (by intro y hy; simp at hy; subst hy; rfl) hs1 hs3 hsz5 ?_; intro g3 c3 w6 hown6 hu6 hat6; have ho26 := own_keep ho2 hu6 (own_apart ho2 ho1 (by decide)); have hAll6 := hAll.beside ho1 (by decide) (by decide) (by decide) hu6; have hU6 : Upd [] w w6 := hu5.trans hu6 (fun z hz hl => by have := (ho1.lt z (by simpa using hz)).1; omega); have hsz6 := hU6.size)
                | (at_builtin; refine wp_push2 tRf rfl (.tmp 150) (.tmp 152) rfl ho26 [.pointer (some ⟨q, 0, none⟩)] rfl rfl rfl rfl (by intro y hy; simp at hy; subst hy; rfl) hs1 hs3 hsz6 ?_; intro g4 c4 w7 hown7 hu7 hat7; have ho17 := own_keep hown6 hu7 (own_apart hown6 ho26 (by decide)); have hAll7 := hAll6.beside ho26 (by decide) (by decide) (by decide) hu7; have hU7 : Upd [] w w7 := hU6.trans hu7 (fun z hz hl => by have := (ho26.lt z (by simpa using hz)).1; omega)))
              go_roundw
              case rel => exact ⟨i + 1, _, _, _, _, st ++ [⟨p, rp, c, n, vs, [], [], false⟩], _, rfl, rfl, by go_num, by omega, by simp [hl], HBG, Lib.hid hAll7, Lib.hid (by rw [List.map_append]; exact ho17), Lib.hid hown7, Lib.hid hU7⟩
              case measure => simp [intOf]; omega
    · obtain rfl : i = xs.length := by omega
      go_wp2
      go_ret3
      exact ⟨a1, c1, a2, c2, st, (by rw [hl]; rfl), hl, HB.out, ⟨own_lower (by rw [hl]; exact HA1.out) (Nat.zero_le _), HC.out.all, HC.out.ne⟩, HU.out⟩
end Go.Proofs.Ytjiepoeeahnbgaa
