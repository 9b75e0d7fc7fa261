/- Any pushes and pops on a ring of any room, held against the reference's. -/
import Derived.Test.YtfimcimbnoolnaaRingKnown
import Derived.Deep.RegionHeld3
namespace Go.Proofs.Ytfimcimbnoolnaa
set_option linter.unusedVariables false
set_option linter.unusedSimpArgs false
open Go.RowKit Go.Conc

/-- Ring and reference hold the same, both made behind block number B. -/
structure Both (w0 w : World) (p c m room : Nat) (ys : List Int) : Prop where
  ring : RingAt w p c room ys
  ref : RefRing w m room ys
  upd : Upd [] w0 w
  hp : w0.heap.size ≤ p
  hc : w0.heap.size ≤ c
  hm : w0.heap.size ≤ m
theorem Both.chan {w0 w w' : World} {p c m room : Nat} {ys zs : List Int} (h : Both w0 w p c m room ys) (hr : RingAt w' p c room zs) (hu : Upd [c] w w') : RefRing w' m room ys ∧ Upd [] w0 w' := by
  have := h.hc
  exact ⟨h.ref.keepc hu h.ring, h.upd.trans hu (fun x hx hl => by simp at hx; omega)⟩
theorem Both.step {w0 w w' : World} {p c m room : Nat} {ys : List Int} (h : Both w0 w p c m room ys) (hu : Upd [] w w') : Both w0 w' p c m room ys :=
  ⟨h.ring.keep hu (by simp) (by simp), h.ref.keep0 hu, h.upd.trans0 hu, h.hp, h.hc, h.hm⟩

theorem push_any (p c room : Nat) (xs : List Int) (v : Int) (w : World) (h : RingAt w p c room xs) :
    Calls Try.prog 11 #[.pointer (some ⟨p, 0, none⟩), .int .i64 v] w fun e w' => ∃ b zs, e = .returned (.bool b) ∧ RingAt w' p c room zs ∧ Upd [c] w w' := by
  by_cases hr : xs.length < room
  · exact (push_room p c room xs v w h hr).mono fun e w' ⟨h1, h2, h3⟩ => ⟨_, _, h1, h2, h3⟩
  · refine (push_full p c room xs v w h (by omega)).mono ?_
    rintro e w' ⟨rfl, rfl⟩
    exact ⟨_, _, rfl, h, Upd.refl _ _⟩
theorem pop_any (p c room : Nat) (xs : List Int) (w : World) (h : RingAt w p c room xs) :
    Calls Try.prog 12 #[.pointer (some ⟨p, 0, none⟩)] w fun e w' => ∃ v b zs, e = .returned (.tuple #[.int .i64 v, .bool b]) ∧ RingAt w' p c room zs ∧ Upd [c] w w' := by
  cases xs with
  | nil =>
    refine (pop_none p c room w h).mono ?_
    rintro e w' ⟨rfl, rfl⟩
    exact ⟨_, _, _, rfl, h, Upd.refl _ _⟩
  | cons x xs => exact (pop_some p c room x xs w h).mono fun e w' ⟨h1, h2, h3⟩ => ⟨_, _, _, h1, h2, h3⟩

set_option maxHeartbeats 6400000 in
set_option maxRecDepth 100000 in
theorem ringPlays_walk (room : Int) (a : Option Addr) (cap : Nat) (xs : List Int) (w : World) (hx : Rd w (.slice a xs.length cap) xs.length (xs.map (Value.int .i64))) :
    Calls Try.prog 3 #[.int .i64 room, .slice a xs.length cap] w fun e w' => e = .returned (.bool true) ∧ Upd [] w w' := by
  go_enter Try.func3, Try.ntmps3
  go_wp2_with fail
  refine (known3_ok _).mono ?_
  rintro e w1 ⟨rfl, hu1⟩
  by_cases hl : xs.length ≤ 80
  · have hl0 : decide ((80 : Int) < (xs.length : Int)) = false := decide_eq_false (by omega)
    have hl0' : decide (80 < xs.length) = false := decide_eq_false (by omega)
    by_cases hroom : room < 0 ∨ 16 < room
    · go_wp2_with fail
      refine (toUpd0 (new_bad room hroom _)).mono ?_
      rintro e w2 ⟨rfl, hu2⟩
      go_wp2_with fail
      refine (toUpd0 (newref_bad room hroom _)).mono ?_
      rintro e w3 ⟨rfl, hu3⟩
      go_wp2
      go_ret
      exact ⟨rfl, (hu1.trans0 hu2).trans0 hu3⟩
    · obtain ⟨n, rfl⟩ := Int.eq_ofNat_of_zero_le (show 0 ≤ room by omega)
      have hn16 : n ≤ 16 := by omega
      clear hroom
      go_wp2_with fail
      refine (new_ok n hn16 _).mono ?_
      rintro e w2 ⟨p, c, rfl, hr, hu2, hp, hc⟩
      go_wp2_with fail
      refine (newref_ok n hn16 _).mono ?_
      rintro e w3 ⟨m, rfl, hm, hu3, hm3⟩
      have hb : Both w w3 p c m n [] := ⟨hr.keep hu3 (by simp) (by simp), hm, (hu1.trans0 hu2).trans0 hu3, Nat.le_trans hu1.size hp, Nat.le_trans hu1.size hc, Nat.le_trans (hu1.trans0 hu2).size hm3⟩
      clear hr hm hu1 hu2 hu3 hp hc hm3
      go_wp2
      go_loopw [5, 9] (fun r i wr => ∃ (k p c : Nat) (ys : List Int), k ≤ xs.length ∧ i = .int .i64 k ∧ r = .pointer (some ⟨p, 0, none⟩) ∧ Both w wr p c m n ys) (fun _ i _ => xs.length - (intOf i).toNat)
      case atStart => exact ⟨0, p, c, [], Nat.zero_le _, rfl, rfl, hb⟩
      case round =>
        clear hb
        obtain ⟨k, p, c, ys, hk, rfl, rfl, hb⟩ := hrel
        by_cases hlt : k < xs.length
        · have hc := get_ints hlt
          generalize xs.getD k 0 = y at hc
          obtain ⟨b, off, rfl, hcell⟩ := hx.at (by omega)
          have g1 := hcell k _ hc
          have hbw : b < w.heap.size := hx.lt (k := b) rfl (by simp; omega)
          have gw : ∀ w', Upd [] w w' → w'.cell? ⟨b, off + k, none⟩ = some (.int .i64 y) := fun w' hu => hu.cell g1 (by simp)
          have GW := Lib.hid gw
          clear hc hcell gw g1
          have g1 := GW.out _ hb.upd
          go_upto_if 53 with (fail)
          go_cut [5] (fun s5 wx => ∃ (p c : Nat), s5 = .pointer (some ⟨p, 0, none⟩) ∧ Both w wx p c m n ys)
          case first =>
            by_cases h16 : y.tmod 16 = 0
            · have hd : (y.tmod 16 == 0) = true := beq_iff_eq.2 h16
              clear h16
              go_wp2_with fail
              refine (twin_any p c n ys _ hb.ring).mono ?_
              rintro e w4 ⟨q, d, rfl, htw4, hring4, hu4, hq, hd⟩
              have href4 := (hb.chan hring4 hu4).1
              have hupd4 := (hb.chan hring4 hu4).2
              have hpl := hb.ring.ltp
              have hcl := hb.ring.ltc
              have hbs := hb.upd.size
              have hb4 : Both w w4 p c m n ys := ⟨hring4, href4, hupd4, hb.hp, hb.hc, hb.hm⟩
              clear hb hring4 hu4 href4 hupd4 g1
              go_wp2_with fail
              refine (push_any p c n ys _ _ hb4.ring).mono ?_
              rintro e w5 ⟨b5, z5, rfl, hring5, hu5⟩
              have hbt5 := hb4.chan hring5 hu5
              have htw5 := htw4.keep hu5 (by simp; omega) (by simp; omega)
              clear hu5 htw4
              go_wp2_with fail
              refine (pop_any p c n z5 _ hring5).mono ?_
              rintro e w6 ⟨v6, b6, z6, rfl, hring6, hu6⟩
              have href6 := hbt5.1.keepc hu6 hring5
              have hc4 := hb4.hc
              have hupd6 : Upd [] w w6 := hbt5.2.trans hu6 (fun x hx hl => by simp at hx; omega)
              have htw6 := htw5.keep hu6 (by simp; omega) (by simp; omega)
              clear hu6 htw5 hbt5 hring5
              go_wp2_with fail
              refine (pop_any p c n z6 _ hring6).mono ?_
              rintro e w7 ⟨v7, b7, z7, rfl, hring7, hu7⟩
              have href7 := href6.keepc hu7 hring6
              have hupd7 : Upd [] w w7 := hupd6.trans hu7 (fun x hx hl => by simp at hx; omega)
              have htw7 := htw6.keep hu7 (by simp; omega) (by simp; omega)
              have hm4 := hb4.hm
              clear hu7 htw6 href6 hring6 hring7 hb4
              go_wp2
              go_meet
              exact ⟨q, d, rfl, htw7, href7, hupd7, by omega, by omega, hm4⟩
            · have hd : (y.tmod 16 == 0) = false := beq_eq_false_iff_ne.2 h16
              clear h16
              go_wp2
              go_meet
              exact ⟨p, c, rfl, hb⟩
          case rest =>
            clear hb g1
            obtain ⟨p, c, rfl, hb⟩ := hcut
            have g1 := GW.out _ hb.upd
            go_upto_if 70 with (fail)
            go_cut [] (fun wx => ∃ zs, Both w wx p c m n zs)
            case first =>
              have hd0 : Upd [] wc wc.drew := (Upd.refl _ _).drew
              have hi0 : (0 : Int) ≤ (k : Int) := by omega
              have hi1 : (k : Int) < (xs.length : Int) := by omega
              by_cases h2 : y.tmod 2 = 0
              · have hd : (y.tmod 2 == 0) = true := beq_iff_eq.2 h2
                clear h2
                have hbd := hb.step hd0
                clear hd0 hb
                by_cases hlen : ys.length < n
                · go_wp2_with fail
                  go_region_held3 (fun w' => w'.cell? ⟨b, off + k, none⟩ = some (.int .i64 y)) (go_keep) (first
                    | (go_at_call 11; refine (push_room p c n ys y _ hbd.ring hlen).mono ?_; rintro e w5 ⟨rfl, hring5, hu5⟩; have hbt5 := hbd.chan hring5 hu5; have g5 := GW.out _ hbt5.2)
                    | (go_at_call 13; refine (pushref_room m n ys y _ hbt5.1 hlen).mono ?_; rintro e w6 ⟨rfl, href6, hu6⟩; have hupd6 : Upd [] w w6 := hbt5.2.trans hu6 (fun x hx hl => by have := hbd.hm; simp at hx; omega); have g6 := GW.out _ hupd6))
                  have hring6 := hring5.keepm hbt5.1 hu6
                  have hb6 : Both w w6 p c m n (ys ++ [y]) := ⟨hring6, href6, hupd6, hbd.hp, hbd.hc, hbd.hm⟩
                  clear hbd hring5 hu5 hbt5 g5 href6 hu6 hupd6 g6 hring6 g1
                  go_wp2
                  go_meet
                  exact ⟨_, hb6⟩
                · have hge : n ≤ ys.length := by omega
                  clear hlen
                  go_wp2_with fail
                  go_region_held3 (fun w' => w'.cell? ⟨b, off + k, none⟩ = some (.int .i64 y)) (go_keep) (first
                    | (go_at_call 11; refine (toUpd0 (push_full p c n ys y _ hbd.ring hge)).mono ?_; rintro e w5 ⟨rfl, hu5⟩; have hb5 := hbd.step hu5; have g5 := GW.out _ hb5.upd)
                    | (go_at_call 13; refine (toUpd (pushref_full m n ys y _ hb5.ref hge)).mono ?_; rintro e w6 ⟨rfl, hu6⟩; have hb6 := hb5.step hu6; have g6 := GW.out _ hb6.upd))
                  clear hbd hu5 hb5 g5 hu6 g6 g1
                  go_wp2
                  go_meet
                  exact ⟨_, hb6⟩
              · have hd : (y.tmod 2 == 0) = false := beq_eq_false_iff_ne.2 h2
                clear h2 hd0 g1
                cases ys with
                | nil =>
                  go_wp2_with fail
                  refine (toUpd0 (pop_none p c n _ hb.ring)).mono ?_
                  rintro e w5 ⟨rfl, hu5⟩
                  have hb5 := hb.step hu5
                  clear hb hu5
                  go_wp2_with fail
                  refine (toUpd0 (popref_none m n _ hb5.ref)).mono ?_
                  rintro e w6 ⟨rfl, hu6⟩
                  have hb6 := hb5.step hu6
                  clear hb5 hu6
                  go_wp2
                  go_meet
                  exact ⟨_, hb6⟩
                | cons z zs =>
                  go_wp2_with fail
                  refine (pop_some p c n z zs _ hb.ring).mono ?_
                  rintro e w5 ⟨rfl, hring5, hu5⟩
                  have hbt5 := hb.chan hring5 hu5
                  go_wp2_with fail
                  refine (popref_some m n z zs _ hbt5.1).mono ?_
                  rintro e w6 ⟨rfl, href6, hu6⟩
                  have hupd6 : Upd [] w w6 := hbt5.2.trans hu6 (fun x hx hl => by have := hb.hm; simp at hx; omega)
                  have hring6 := hring5.keepm hbt5.1 hu6
                  have hb6 : Both w w6 p c m n zs := ⟨hring6, href6, hupd6, hb.hp, hb.hc, hb.hm⟩
                  clear hb hring5 hu5 hbt5 href6 hu6 hupd6 hring6
                  go_wp2
                  go_meet
                  exact ⟨_, hb6⟩
            case rest =>
              clear hb g1
              obtain ⟨zs, hb⟩ := hcut
              have hd0 : Upd [] wc wc.drew := (Upd.refl _ _).drew
              have hbd := hb.step hd0
              clear hd0 hb
              obtain ⟨aL, cL, hblk, hrdL, hneL⟩ := hbd.ref.ex
              obtain ⟨c0, c1, f0, f1⟩ := two_cells hblk
              have hle := hbd.ring.le
              have gm : ∀ w', Upd [] wc.drew w' → w'.cell? ⟨m, 0, none⟩ = some (.int .i64 n) ∧ w'.cell? ⟨m, 1, none⟩ = some (.slice aL zs.length cL) := fun w' hu => ⟨hu.cell c0 (by simp), hu.cell c1 (by simp)⟩
              have hpc := hbd.hc
              have hmc : m ≠ c := by
                rintro rfl
                obtain ⟨s, r, h4⟩ := hbd.ring.chan
                rw [hblk] at h4
                cases h4
              have hLc : ∀ k, (Value.slice aL zs.length cL).ownBlock = some k → 0 < (zs.map (Value.int .i64)).length → k ∉ [c] := by
                intro k hk hl
                simp only [List.mem_singleton]
                rintro rfl
                obtain ⟨cc, t, f, h5⟩ := hrdL.blk hk hl
                obtain ⟨s, r, h4⟩ := hbd.ring.chan
                rw [h5] at h4
                cases h4
              have GM := Lib.hid gm
              have HLC := Lib.hid hLc
              have hwrap : IntKind.i64.wrap ((n : Int) - (zs.length : Int)) = (n : Int) - (zs.length : Int) := IntWalk.i64_in _ (by omega)
              clear gm hLc f0 f1 hneL
              go_wp2_with fail
              go_region_held3 (fun w' => w'.cell? ⟨m, 0, none⟩ = some (.int .i64 n) ∧ w'.cell? ⟨m, 1, none⟩ = some (.slice aL zs.length cL)) (first | go_keep) (first
                | (go_at_call 17; refine (toUpd (row_eq _ _ _ _ zs _ (Rd.of_own hown7) (hrd7.keep hu7 HLC.out) (by omega))).mono ?_; rintro e w8 ⟨rfl, hu8⟩; have hb8 := hb7.step hu8; have c8 := hu8.cell c7a (by simp); have d8 := hu8.cell c7b (by simp))
                | (go_at_call 18; refine (all_any p c n zs _ hb6.ring).mono ?_; rintro e w7 ⟨a7, c7, rfl, hown7, hring7, hu7⟩; have hbt7 := hb6.chan hring7 hu7; have hb7 : Both w w7 p c m n zs := ⟨hring7, hbt7.1, hbt7.2, hbd.hp, hbd.hc, hbd.hm⟩; have c7a := hu7.cell c6 (by simpa using hmc); have c7b := hu7.cell d6 (by simpa using hmc))
                | (go_at_call 16; refine (toUpd (room_any p c n zs _ hb5.ring)).mono ?_; rintro e w6 ⟨rfl, hu6⟩; have hb6 := hb5.step hu6; have c6 := hu6.cell c5 (by simp); have d6 := hu6.cell d5 (by simp); have hrd7 := hrd5.keep0 hu6)
                | (go_at_call 15; refine (toUpd0 (len_any p c n zs _ hbd.ring)).mono ?_; rintro e w5 ⟨rfl, hu5⟩; have hb5 := hbd.step hu5; have c5 := hu5.cell c0 (by simp); have d5 := hu5.cell c1 (by simp); have hrd5 := hrdL.keep0 hu5))
              have hupd8 := hb8
              clear hbd hb5 hb6 hb7 hb8 hbt7 hring7 hown7 hrd7 hrd5 hrdL hblk hwrap c0 c1 c5 d5 c6 d6 c7a c7b c8 d8 hu5 hu6 hu7 hu8
              go_wp2
              go_roundw
              case rel => exact ⟨k + 1, p, c, zs, by omega, by go_num, rfl, hupd8⟩
              case measure => simp [intOf]; omega
        · obtain rfl : k = xs.length := by omega
          go_wp2
          go_ret
          exact ⟨rfl, hb.upd⟩
  · have hl0 : decide ((80 : Int) < (xs.length : Int)) = true := decide_eq_true (by omega)
    have hl0' : decide (80 < xs.length) = true := decide_eq_true (by omega)
    go_wp2
    go_ret
    exact ⟨rfl, hu1⟩
theorem ringPlays_law (room : Int) (a : Option Addr) (cap : Nat) (xs : List Int) (w : World) (h0 : (Lit.int .i64 room).wf = true) (hx : Rd w (.slice a xs.length cap) xs.length (xs.map (Value.int .i64))) (_ : ∀ n ∈ xs, (Lit.int .i64 n).wf = true) :
    Calls Try.prog 3 #[.int .i64 room, .slice a xs.length cap] w fun e w' => e = .returned (.bool true) ∧ Upd [] w w' :=
  ringPlays_walk room a cap xs w hx
end Go.Proofs.Ytfimcimbnoolnaa
