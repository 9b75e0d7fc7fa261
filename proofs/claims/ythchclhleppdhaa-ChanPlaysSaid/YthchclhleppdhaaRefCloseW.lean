/- The reference's Close. -/
import Derived.Test.YthchclhleppdhaaRefChanWait
import Derived.Test.YthchclhleppdhaaSameK
import Derived.Test.YthchclhleppdhaaRefOrderO
namespace Go.Proofs.Ythchclhleppdhaa
set_option linter.unusedVariables false
set_option linter.unusedSimpArgs false
open Go.RowKit
set_option maxHeartbeats 1600000 in
theorem refClose_twice0 (q m room : Nat) (xs : List Int) (sq rq : List Wt) (ap : Option Addr) (pl cp : Nat) (w : World) (h : ChanM w q m room xs sq rq true) :
    Calls Try.prog 25 #[.pointer (some ⟨q, 0, none⟩), .slice ap pl cp] w fun e w' => e = .returned (.tuple #[.slice none 0 0, .int .i64 9]) ∧ Upd [] w w' := by
  obtain ⟨sa, sc, ra, rc, h1, h2, h3⟩ := h.ch.ex
  obtain ⟨c0, c1, c2, c3⟩ := four_cells h1
  go_enter Try.func25, Try.ntmps25
  go_wp2
  go_ret2
  exact ⟨rfl, Upd.refl _ _⟩
theorem notT_row {w : World} {base n size : Nat} {e f : TypeId} {v : Value} {cs : List Value} (ho : w.ownsRow base e size v n cs) (hne : e ≠ f) : NotT w v.ownBlock.toList f := by
  intro k hk cells hc
  obtain ⟨cc, h2⟩ := own_block ho (by simpa using hk)
  rw [hc] at h2
  injection (Option.some.inj h2) with _ h4 _
  exact hne h4.symm
theorem blk_out {w : World} {k : Nat} {cells : Array Value} {t e : TypeId} (hk : w.heap[k]? = some (.cells cells t (0, 0))) {base size n : Nat} {v : Value} {cs : List Value} (ho : w.ownsRow base e size v n cs) (hne : t ≠ e) : k ∉ v.ownBlock.toList := by
  intro hm
  obtain ⟨cc, hc⟩ := own_block ho (by simpa using hm)
  rw [hk] at hc
  injection (Option.some.inj hc) with _ h4 _
  exact hne h4
set_option maxHeartbeats 16000000 in
set_option maxRecDepth 100000 in
theorem refClose_any (q m room : Nat) (xs : List Int) (sq rq : List Wt) (ap : Option Addr) (cp : Nat) (ps : List Int) (w : World) (h : ChanM w q m room xs sq rq false) (hp : RdI w (.slice ap ps.length cp) ps) (hm : ps.length ≤ 1000000) (hms : sq.length ≤ 100000) (hmr : rq.length ≤ 100000) (hd : ∀ k, (Value.slice ap ps.length cp).ownBlock = some k → 0 < ps.length → k ≠ q) (M L : List Nat) (hMp : M.Perm (List.range rq.length)) (hMR : M.Pairwise (goesW rq ps)) (hLp : L.Perm (List.range sq.length)) (hLR : L.Pairwise (goesW sq ps)) :
    Calls Try.prog 25 #[.pointer (some ⟨q, 0, none⟩), .slice ap ps.length cp] w fun e w' => ∃ (a' : Option Addr) (c' : Nat), e = .returned (.tuple #[.slice a' (rq.length + sq.length) c', .int .i64 0]) ∧ w'.ownsRow w.heap.size 71 4 (.slice a' (rq.length + sq.length) c') (rq.length + sq.length) ((M.map (wkOf rq) ++ L.map (wkOf sq)).flatMap Wk.enc) ∧ ChanM w' q m room xs [] [] true ∧ Upd [q] w w' := by
  obtain ⟨sa, sc, ra, rc, h1, h2, h3⟩ := h.ch.ex
  obtain ⟨c0, c1, c2, c3⟩ := four_cells h1
  have cf := four_frozen h1
  have hql := h.ch.lt
  have hC1 := h.setC true
  have hu1 : Upd [q] w (w.setCell ⟨q, 3, none⟩ (.bool true)) := (Upd.refl [q] w).setCell _ _ (fun _ => by simp)
  have hs1 : (w.setCell ⟨q, 3, none⟩ (.bool true)).heap.size = w.heap.size := by simp [World.setCell]
  have HPS := Lib.hid (fun W (hW : Upd [q] w W) => (hp.keep hW (fun k hk hl => by have := hd k hk (by simpa using hl); simpa using this) : RdI W (.slice ap ps.length cp) ps))
  have HMR := Lib.hid (And.intro hMp hMR)
  have HLR := Lib.hid (And.intro hLp hLR)
  have HML := Lib.hid (show M.length = rq.length by rw [hMp.length_eq]; simp)
  have HLL := Lib.hid (show L.length = sq.length by rw [hLp.length_eq]; simp)
  have HMM := Lib.hid (show ∀ x ∈ M, x < rq.length from fun x hx => List.mem_range.1 (hMp.mem_iff.1 hx))
  have HLM := Lib.hid (show ∀ x ∈ L, x < sq.length from fun x hx => List.mem_range.1 (hLp.mem_iff.1 hx))
  clear h h2 h3 hp hMp hMR hLp hLR hd
  go_enter Try.func25, Try.ntmps25
  go_upto_region 5 with fail
  generalize hW1 : w.setCell ⟨q, 3, none⟩ (.bool true) = W1 at *
  clear hW1 c0 c1 c2 c3 cf h1
  obtain ⟨sa1, sc1, ra1, rc1, g1, g2, g3⟩ := hC1.ch.ex
  obtain ⟨d0, d1, d2, d3⟩ := four_cells g1
  have HC1 := Lib.hid hC1
  have HU1 := Lib.hid hu1
  have HORD := Lib.hid (order21_own ra1 ap rc1 cp rq ps W1 (Rd.of_own g3) (HPS.out _ hu1) hm (by omega) M HMR.out.1 HMR.out.2)
  clear hC1 hu1 g1 g2 g3
  go_wp2_with fail
  refine HORD.out.mono ?_
  rintro e w2 ⟨ma, mc, rfl, ho2, hu2⟩
  have HROW := Lib.hid (own_lower ho2 (base' := w.heap.size) (by omega))
  have HC := Lib.hid (HC1.out.keep0 hu2)
  have HU := Lib.hid (HU1.out.trans0 hu2)
  clear ho2 hu2 HORD HC1 HU1 d0 d1 d2 d3
  go_wp2
  go_loopw [6, 8] (fun ov iv wr => ∃ (k : Nat) (oa : Option Addr) (oc : Nat), iv = .int .i64 k ∧ ov = .slice oa (k) oc ∧ k ≤ rq.length ∧ Hid (wr.ownsRow w.heap.size 3 1 (.slice ma rq.length mc) rq.length (M.map fun j : Nat => Value.int .i64 j)) ∧ Hid (wr.ownsRow w.heap.size 71 4 (.slice oa (k) oc) (k) (((M.take k).map (wkOf rq)).flatMap Wk.enc)) ∧ Hid (ChanM wr q m room xs sq rq true) ∧ Hid (Upd [q] w wr)) (fun _ iv _ => rq.length - (intOf iv).toNat)
  case atStart => exact ⟨0, none, 0, rfl, rfl, Nat.zero_le _, HROW, Lib.hid (World.ownsRow_nil _ _ _ _), HC, HU⟩
  case round =>
    clear HROW HC HU
    obtain ⟨k, oa, oc, rfl, rfl, hk, HROW, HOWN, HC, HU⟩ := hrel
    by_cases hlt : k < rq.length
    · obtain ⟨j, hj⟩ : ∃ j, j = M.getD k 0 := ⟨_, rfl⟩
      have hkl : k < M.length := by rw [HML.out]; exact hlt
      have hjn : j < rq.length := HMM.out j (by rw [hj]; exact getD_mem hkl)
      have hts : M.take (k + 1) = M.take k ++ [j] := by rw [hj]; exact take_snoc_getD hkl
      obtain ⟨x, hx⟩ : ∃ x, rq[j]? = some x := ⟨_, List.getElem?_eq_getElem hjn⟩
      have ex : wAt rq j = x := by have := wAt_get (q := rq) (x := j) hjn; rw [hx] at this; exact (Option.some.inj this).symm
      obtain ⟨sa2, sc2, ra2, rc2, g1, g2, g3⟩ := HC.out.ch.ex
      obtain ⟨d0, d1, d2, d3⟩ := four_cells g1
      obtain ⟨b, off, hab, z0, z1, z2, z3⟩ := RdW.cells (Rd.of_own g3) hx
      obtain ⟨b', off', hbe, hcell⟩ := (Rd.of_own HROW.out).at (by omega)
      have cj := hcell k (.int .i64 (j : Nat)) (by rw [List.getElem?_map, List.getElem?_eq_getElem hkl, hj]; simp [List.getD, hkl])
      subst hab
      have hm1 : (k) + 1 ≤ maxLen := by unfold maxLen; omega
      have hm2 : ((k) + 1) * 32 ≤ 140737488355328 := by omega
      have hsz := HU.out.size
      have HTS := Lib.hid hts
      have HEX := Lib.hid ex
      have k0 : (0 : Int) ≤ (k : Int) := by omega
      have k1 : (k : Int) < (rq.length : Int) := by omega
      have j0 : (0 : Int) ≤ (j : Int) := by omega
      have j1 : (j : Int) < (rq.length : Int) := by omega
      subst hbe
      have n0 := World.new_ne wr ⟨b, off + j * 4, none⟩ z0
      have n1 := World.new_ne wr ⟨b, off + j * 4 + 1, none⟩ z1
      have n2 := World.new_ne wr ⟨b, off + j * 4 + 2, none⟩ z2
      have n3 := World.new_ne wr ⟨b, off + j * 4 + 3, none⟩ z3
      have n4 := World.new_ne wr ⟨b', off' + k, none⟩ cj
      have n5 := World.new_ne wr ⟨q, 2, none⟩ d2
      clear hts ex hx hj hcell hkl g1 g2 g3
      go_wp2_with fail
      go_region_held3 (fun w' => w'.cell? ⟨q, 2, none⟩ = some (.slice (some ⟨b, off, none⟩) rq.length rc2) ∧ w'.cell? ⟨b', off' + k, none⟩ = some (.int .i64 (j : Nat)) ∧ w'.cell? ⟨b, off + j * 4, none⟩ = some (.int .i64 x.task) ∧ w'.cell? ⟨b, off + j * 4 + 1, none⟩ = some (.int .i64 x.case_) ∧ w'.cell? ⟨b, off + j * 4 + 2, none⟩ = some (.int .i64 x.seq) ∧ w'.cell? ⟨b, off + j * 4 + 3, none⟩ = some (.int .i64 x.v)) (first | trivial | go_keep) (fail)
      obtain ⟨W5, hW5⟩ : ∃ W5, W5 = (wr.alloc (.cells #[.int .i64 x.task, .int .i64 x.case_, .int .i64 x.seq, .int .i64 x.v] 55)).drew := ⟨_, rfl⟩
      have hu5 : Upd [] wr W5 := by rw [hW5]; exact ((Upd.refl _ _).alloc _).drew
      have h5 : W5.heap[wr.heap.size]? = some (.cells #[.int .i64 x.task, .int .i64 x.case_, .int .i64 x.seq, .int .i64 x.v] 55 (0, 0)) := by rw [hW5]; exact heap_alloc_new wr _
      obtain ⟨y0, y1, y2, y3⟩ := four_cells h5
      have HOWN5 := Lib.hid (own_keep0 HOWN.out hu5)
      have HROW5 := Lib.hid (own_keep0 HROW.out hu5)
      have HC5 := Lib.hid (HC.out.keep0 hu5)
      have HU5 := Lib.hid (HU.out.trans0 hu5)
      have hsz5 := HU5.out.size
      rw [← hW5]
      clear hW5 hu5 h5 z0 z1 z2 z3 n0 n1 n2 n3 n4 n5 cj d0 d1 d2 d3 HOWN HROW HC HU
      go_wp2_with (first
        | (at_builtin; refine wp_push_at tWkr rfl (.tmp 41) (.tmp 47) rfl HOWN5.out [.int .i64 x.task, .int .i64 x.case_, .int .i64 0, .int .i64 9] rfl rfl rfl rfl (Wk.one1 ⟨x.task, x.case_, 0, 9⟩) hm1 hm2 hsz5 ?_; intro g6 c6 w6 hown6 hu6; have HOWN6 := Lib.hid hown6; have HROW6 := Lib.hid (own_keep HROW5.out hu6 (own_apart HROW5.out HOWN5.out (by decide))); have HC6 := Lib.hid (HC5.out.keep hu6 (by obtain ⟨_, _, _, _, hx1, _⟩ := HC5.out.ch.ex; exact blk_out hx1 HOWN5.out (by decide)) (by obtain ⟨_, _, hx2, _⟩ := HC5.out.ring.ex; exact blk_out hx2 HOWN5.out (by decide)) (notT_row HOWN5.out (by decide)) (notT_row HOWN5.out (by decide))); have HU6 := Lib.hid (HU5.out.trans hu6 (fun x hx hl => by have := (HOWN5.out.lt x (by simpa using hx)).1; omega)); clear hown6 hu6))
      go_roundw
      case rel => exact ⟨k + 1, _, _, by go_num, rfl, by omega, HROW6, Lib.hid (by rw [HTS.out]; simpa [wkOf, HEX.out, Wk.enc, Nat.add_assoc] using HOWN6.out), HC6, HU6⟩
      case measure => simp [intOf]; omega
    · obtain rfl : k = rq.length := by omega
      have hout := HOWN.out
      rw [List.take_of_length_le (by rw [HML.out]; exact Nat.le_refl _)] at hout
      obtain ⟨sa2, sc2, ra2, rc2, g1, g2, g3⟩ := HC.out.ch.ex
      obtain ⟨d0, d1, d2, d3⟩ := four_cells g1
      have hsz := HU.out.size
      have HORD := Lib.hid (order21_own sa2 ap sc2 cp sq ps wr (Rd.of_own g2) (HPS.out _ HU.out) hm (by omega) L HLR.out.1 HLR.out.2)
      have HOUT := Lib.hid hout
      clear hout g1 g2 g3 HROW HOWN hk hlt
      go_wp2_with fail
      refine HORD.out.mono ?_
      rintro e w3 ⟨ma, mc, rfl, ho3, hu3⟩
      have HROW := Lib.hid (own_lower ho3 hsz)
      have HOUT3 := Lib.hid (own_keep0 HOUT.out hu3)
      have HC3 := Lib.hid (HC.out.keep0 hu3)
      have HU3 := Lib.hid (HU.out.trans0 hu3)
      clear ho3 hu3 HORD HC HU HOUT d0 d1 d2 d3
      go_wp2
      go_loopw [6, 10] (fun ov iv wr => ∃ (k : Nat) (oa : Option Addr) (oc : Nat), iv = .int .i64 k ∧ ov = .slice oa (rq.length + k) oc ∧ k ≤ sq.length ∧ Hid (wr.ownsRow w.heap.size 3 1 (.slice ma sq.length mc) sq.length (L.map fun j : Nat => Value.int .i64 j)) ∧ Hid (wr.ownsRow w.heap.size 71 4 (.slice oa (rq.length + k) oc) (rq.length + k) ((M.map (wkOf rq) ++ (L.take k).map (wkOf sq)).flatMap Wk.enc)) ∧ Hid (ChanM wr q m room xs sq rq true) ∧ Hid (Upd [q] w wr)) (fun _ iv _ => sq.length - (intOf iv).toNat)
      case atStart => exact ⟨0, oa, oc, rfl, rfl, Nat.zero_le _, HROW, Lib.hid (by simpa using HOUT3.out), HC3, HU3⟩
      case round =>
        clear HROW HC3 HU3 HOUT3
        obtain ⟨k, oa, oc, rfl, rfl, hk, HROW, HOWN, HC, HU⟩ := hrel
        by_cases hlt : k < sq.length
        · obtain ⟨j, hj⟩ : ∃ j, j = L.getD k 0 := ⟨_, rfl⟩
          have hkl : k < L.length := by rw [HLL.out]; exact hlt
          have hjn : j < sq.length := HLM.out j (by rw [hj]; exact getD_mem hkl)
          have hts : L.take (k + 1) = L.take k ++ [j] := by rw [hj]; exact take_snoc_getD hkl
          obtain ⟨x, hx⟩ : ∃ x, sq[j]? = some x := ⟨_, List.getElem?_eq_getElem hjn⟩
          have ex : wAt sq j = x := by have := wAt_get (q := sq) (x := j) hjn; rw [hx] at this; exact (Option.some.inj this).symm
          obtain ⟨sa2, sc2, ra2, rc2, g1, g2, g3⟩ := HC.out.ch.ex
          obtain ⟨d0, d1, d2, d3⟩ := four_cells g1
          obtain ⟨b, off, hab, z0, z1, z2, z3⟩ := RdW.cells (Rd.of_own g2) hx
          obtain ⟨b', off', hbe, hcell⟩ := (Rd.of_own HROW.out).at (by omega)
          have cj := hcell k (.int .i64 (j : Nat)) (by rw [List.getElem?_map, List.getElem?_eq_getElem hkl, hj]; simp [List.getD, hkl])
          subst hab
          have hm1 : (rq.length + k) + 1 ≤ maxLen := by unfold maxLen; omega
          have hm2 : ((rq.length + k) + 1) * 32 ≤ 140737488355328 := by omega
          have hsz := HU.out.size
          have HTS := Lib.hid hts
          have HEX := Lib.hid ex
          have k0 : (0 : Int) ≤ (k : Int) := by omega
          have k1 : (k : Int) < (sq.length : Int) := by omega
          have j0 : (0 : Int) ≤ (j : Int) := by omega
          have j1 : (j : Int) < (sq.length : Int) := by omega
          subst hbe
          have n0 := World.new_ne wr ⟨b, off + j * 4, none⟩ z0
          have n1 := World.new_ne wr ⟨b, off + j * 4 + 1, none⟩ z1
          have n2 := World.new_ne wr ⟨b, off + j * 4 + 2, none⟩ z2
          have n3 := World.new_ne wr ⟨b, off + j * 4 + 3, none⟩ z3
          have n4 := World.new_ne wr ⟨b', off' + k, none⟩ cj
          have n5 := World.new_ne wr ⟨q, 1, none⟩ d1
          clear hts ex hx hj hcell hkl g1 g2 g3
          go_wp2_with fail
          go_region_held3 (fun w' => w'.cell? ⟨q, 1, none⟩ = some (.slice (some ⟨b, off, none⟩) sq.length sc2) ∧ w'.cell? ⟨b', off' + k, none⟩ = some (.int .i64 (j : Nat)) ∧ w'.cell? ⟨b, off + j * 4, none⟩ = some (.int .i64 x.task) ∧ w'.cell? ⟨b, off + j * 4 + 1, none⟩ = some (.int .i64 x.case_) ∧ w'.cell? ⟨b, off + j * 4 + 2, none⟩ = some (.int .i64 x.seq) ∧ w'.cell? ⟨b, off + j * 4 + 3, none⟩ = some (.int .i64 x.v)) (first | trivial | go_keep) (fail)
          obtain ⟨W5, hW5⟩ : ∃ W5, W5 = (wr.alloc (.cells #[.int .i64 x.task, .int .i64 x.case_, .int .i64 x.seq, .int .i64 x.v] 55)).drew := ⟨_, rfl⟩
          have hu5 : Upd [] wr W5 := by rw [hW5]; exact ((Upd.refl _ _).alloc _).drew
          have h5 : W5.heap[wr.heap.size]? = some (.cells #[.int .i64 x.task, .int .i64 x.case_, .int .i64 x.seq, .int .i64 x.v] 55 (0, 0)) := by rw [hW5]; exact heap_alloc_new wr _
          obtain ⟨y0, y1, y2, y3⟩ := four_cells h5
          have HOWN5 := Lib.hid (own_keep0 HOWN.out hu5)
          have HROW5 := Lib.hid (own_keep0 HROW.out hu5)
          have HC5 := Lib.hid (HC.out.keep0 hu5)
          have HU5 := Lib.hid (HU.out.trans0 hu5)
          have hsz5 := HU5.out.size
          rw [← hW5]
          clear hW5 hu5 h5 z0 z1 z2 z3 n0 n1 n2 n3 n4 n5 cj d0 d1 d2 d3 HOWN HROW HC HU
          go_wp2_with (first
            | (at_builtin; refine wp_push_at tWkr rfl (.tmp 71) (.tmp 77) rfl HOWN5.out [.int .i64 x.task, .int .i64 x.case_, .int .i64 0, .int .i64 9] rfl rfl rfl rfl (Wk.one1 ⟨x.task, x.case_, 0, 9⟩) hm1 hm2 hsz5 ?_; intro g6 c6 w6 hown6 hu6; have HOWN6 := Lib.hid hown6; have HROW6 := Lib.hid (own_keep HROW5.out hu6 (own_apart HROW5.out HOWN5.out (by decide))); have HC6 := Lib.hid (HC5.out.keep hu6 (by obtain ⟨_, _, _, _, hx1, _⟩ := HC5.out.ch.ex; exact blk_out hx1 HOWN5.out (by decide)) (by obtain ⟨_, _, hx2, _⟩ := HC5.out.ring.ex; exact blk_out hx2 HOWN5.out (by decide)) (notT_row HOWN5.out (by decide)) (notT_row HOWN5.out (by decide))); have HU6 := Lib.hid (HU5.out.trans hu6 (fun x hx hl => by have := (HOWN5.out.lt x (by simpa using hx)).1; omega)); clear hown6 hu6))
          go_roundw
          case rel => exact ⟨k + 1, _, _, by go_num, rfl, by omega, HROW6, Lib.hid (by rw [HTS.out]; simpa [wkOf, HEX.out, Wk.enc, Nat.add_assoc] using HOWN6.out), HC6, HU6⟩
          case measure => simp [intOf]; omega
        · obtain rfl : k = sq.length := by omega
          have hout := HOWN.out
          rw [List.take_of_length_le (by rw [HLL.out]; exact Nat.le_refl _)] at hout
          obtain ⟨sa2, sc2, ra2, rc2, g1, g2, g3⟩ := HC.out.ch.ex
          obtain ⟨d0, d1, d2, d3⟩ := four_cells g1
          have df := four_frozen g1
          have hch := ((HC.out).setR (a := none) (n := 0) (cap := 0) (base := 0) (q' := []) rfl (World.ownsRow_nil _ _ _ _)).setS (a := none) (n := 0) (cap := 0) (base := 0) (q' := []) rfl (World.ownsRow_nil _ _ _ _)
          have hset : Upd [q] wr ((wr.setCell ⟨q, 2, none⟩ (.slice none 0 0)).setCell ⟨q, 1, none⟩ (.slice none 0 0)) := ((Upd.refl [q] wr).setCell _ _ (fun _ => by simp)).setCell _ _ (fun _ => by simp)
          have hout2 := own_keep hout hset (fun k hk => by have := (hout.lt k hk).1; simp; omega)
          have HCH := Lib.hid hch
          have HUP := Lib.hid (HU.out.transS hset)
          have HOUT := Lib.hid hout2
          clear hch hset hout hout2 g1 g2 g3 HROW HOWN HC HU hk hlt
          go_wp2
          go_ret2
          exact ⟨oa, oc, rfl, HOUT.out, HCH.out, HUP.out⟩
end Go.Proofs.Ythchclhleppdhaa
