/- All that take a lock have it, each once, by their priorities. -/
import Derived.Test.YtjkacccmdccbnaaLockTwins
import Derived.Deep.OwnRows
namespace Go.Proofs.Ytjkacccmdccbnaa
set_option linter.unusedVariables false
set_option linter.unusedSimpArgs false
open Go.RowKit

theorem rowIs_keep {w w' : World} {b : Nat} {t : TypeId} {n : Nat} {f : Nat → Value} {S : List Nat} (h : w.rowIs b t n f) (hu : Upd S w w') (hb : b ∉ S) : w'.rowIs b t n f :=
  h.of_block (hu.block _ h.lt hb)
theorem rowIs_notT {w : World} {b : Nat} {t E : TypeId} {n : Nat} {f : Nat → Value} (h : w.rowIs b t n f) (hne : t ≠ E) : NotT w [b] E := by
  obtain ⟨c, hc, _⟩ := h
  exact NotT.one hc hne
theorem bool_info : (Try.prog.info? 4).map (fun i => (i.zero, i.size, i.bytes)) = some (some (.bool false), 1, 1) := by kernel_rfl
/-- One waits less. -/
theorem qp_drop (n : Nat) (P : Nat → Bool) (t : Nat) (ht : t < n) (hP : P t = true) : (qp n P).length = (qp n (fun x => P x && !(x == t))).length + 1 := by
  induction n with
  | zero => omega
  | succ n ih =>
    rw [qp_succ, qp_succ, List.length_append, List.length_append]
    rcases Nat.lt_or_ge t n with h | h
    · rw [ih h]
      have : (n == t) = false := beq_eq_false_iff_ne.2 (by omega)
      rw [this]
      simp
      omega
    · obtain rfl : t = n := by omega
      rw [hP]
      simp
      congr 1
      exact qp_congr fun j hj => by have : (j == t) = false := beq_eq_false_iff_ne.2 (by omega); simp [this]
theorem qp_none {n : Nat} {P : Nat → Bool} (h : qp n P = []) : ∀ j, j < n → P j = false := by
  intro j hj
  cases hP : P j with
  | false => rfl
  | true =>
    have : mkw j ∈ qp n P := mem_qp.2 ⟨j, hj, hP, rfl⟩
    rw [h] at this
    cases this
theorem qp_any_some {n : Nat} {P : Nat → Bool} (h : qp n P ≠ []) : ∃ j, j < n ∧ P j = true := by
  obtain ⟨x, hx⟩ := List.exists_mem_of_ne_nil _ h
  obtain ⟨j, h1, h2, _⟩ := mem_qp.1 hx
  exact ⟨j, h1, h2⟩
theorem prioOf_get {ps : List Int} {j : Nat} (h : j < ps.length) : prioOf ps j = ps.getD j 0 := by
  unfold prioOf
  rw [if_neg (by omega), if_neg (by omega)]
  simp
theorem rdI_lt {w : World} {a : Option Addr} {cap : Nat} {ps : List Int} (h : RdI w (.slice a ps.length cap) ps) (k : Nat) (hk : (Value.slice a ps.length cap).ownBlock = some k) (hl : 0 < ps.length) : k < w.heap.size :=
  Rd.lt h hk (by simpa using hl)

set_option maxHeartbeats 6400000 in
set_option maxRecDepth 100000 in
theorem lockOnce_walk (a : Option Addr) (cap : Nat) (ps : List Int) (w : World) (hr : RdI w (.slice a ps.length cap) ps) :
    Calls Try.prog 3 #[.slice a ps.length cap] w fun e w' => e = .returned (.bool true) ∧ Upd [] w w' := by
  go_enter Try.func3, Try.ntmps3
  go_wp2_with fail
  refine (known17_ok _).mono ?_
  rintro e w1 ⟨rfl, hU⟩
  by_cases hbad : ps.length < 1 ∨ 40 < ps.length
  · rcases hbad with hbad | hbad
    · go_wp2_with fail
      go_ret
      exact ⟨rfl, hU⟩
    · go_wp2_with fail
      go_ret
      exact ⟨rfl, hU⟩
  have hl1 : 1 ≤ ps.length := by omega
  have hl40 : ps.length ≤ 40 := by omega
  clear hbad
  have hrl := rdI_lt hr
  obtain ⟨b0, off0, hae0, _⟩ := hr.at (by omega)
  subst hae0
  have HR0 := Lib.hid hr
  clear hr
  go_wp2_with fail
  refine (newLock_any _).mono ?_
  rintro e w2 ⟨p, rfl, hL, hu, hp⟩
  have hpw : w.heap.size ≤ p := Nat.le_trans hU.size hp
  have hpn : ∀ k, (Value.slice (some ⟨b0, off0, none⟩) ps.length cap).ownBlock = some k → 0 < ps.length → k ≠ p := fun k hk hl => by have := hrl k hk hl; omega
  have HPN := Lib.hid hpn
  clear hpn hrl
  replace hU : Upd [] w w2 := hU.trans0 hu
  clear hu hp
  have hmk : ∀ W : World, (Instr.makeSlice 29 (.int .i64 (ps.length : Int)) (.int .i64 (ps.length : Int))).run Try.prog W = .ok (.slice (some ⟨W.heap.size, 0, none⟩) ps.length ps.length) (W.alloc (.cells (madeCells #[.bool false] ps.length) 4)) :=
    fun W => run_make_row' 29 4 (.bool false) 1 Try.underlying29 bool_info rfl .i64 .i64 ps.length (by omega) (by omega) W
  go_wp2
  go_loopw [4] (fun i wr => ∃ (j : Nat), j ≤ ps.length ∧ i = .int .i64 j ∧ LockP wr p (if j = 0 then -1 else 0) (qgt j 0) ∧ Upd [] w wr) (fun i _ => ps.length - (intOf i).toNat)
  case atStart => exact ⟨0, Nat.zero_le _, rfl, hL, hU⟩
  case round =>
    clear hL hU
    obtain ⟨j, hj, rfl, hL, hU⟩ := hrel
    by_cases hlt : j < ps.length
    · have hll := qgt_len j 0
      have HLL := Lib.hid hll
      clear hll
      by_cases hj0 : j = 0
      · subst hj0
        go_wp2_with fail
        refine (take_free p [] 0 0 _ hL (by simp) (by omega) rfl).mono ?_
        rintro e w3 ⟨rfl, hL3, hu⟩
        replace hU : Upd [] w w3 := hU.trans hu (fun x hx hl => by simp at hx; omega)
        clear hL hu
        go_wp2
        go_roundw
        case rel => exact ⟨1, by omega, by first | rfl | go_num, hL3, hU⟩
        case measure => (simp [intOf]; try omega)
      · rw [if_neg hj0] at hL
        have hd1 : ((j : Int) == 0) = false := beq_eq_false_iff_ne.2 (by omega)
        go_wp2_with fail
        refine (take_wait p 0 (qgt j 0) j j _ hL (by rw [HLL.out]; omega) (by omega) (by omega) (by omega) (qgt_any (Nat.le_refl _))).mono ?_
        rintro e w3 ⟨rfl, hL3, hu⟩
        rw [qgt_take (by omega)] at hL3
        replace hU : Upd [] w w3 := hU.trans hu (fun x hx hl => by simp at hx; omega)
        clear hL hu
        go_wp2
        go_roundw
        case rel => exact ⟨j + 1, by omega, by go_num, by rw [if_neg (by omega)]; exact hL3, hU⟩
        case measure => simp [intOf]; omega
    · obtain rfl : j = ps.length := by omega
      rw [if_neg (by omega)] at hL
      have hlen := qgt_len ps.length 0
      have HLEN := Lib.hid hlen
      clear hj hlt hlen
      obtain ⟨g, hg⟩ : ∃ g, g = wr.heap.size := ⟨_, rfl⟩
      have hpg : p < g := by rw [hg]; exact hL.lt
      have hgw : w.heap.size ≤ g := by rw [hg]; exact hU.size
      have hrow := World.rowIs_made wr (.bool false) ps.length 4
      rw [← hg] at hrow
      have hL2 := hL.step ((Upd.refl [] wr).alloc (.cells (madeCells #[.bool false] ps.length) 4))
      replace hU := hU.alloc (.cells (madeCells #[.bool false] ps.length) 4)
      have HG := Lib.hid hg
      clear hL hg
      go_wp2
      rw [← HG.out]
      obtain ⟨wm, hwm⟩ : ∃ wm, wm = wr.alloc (.cells (madeCells #[.bool false] ps.length) 4) := ⟨_, rfl⟩
      rw [← hwm] at hrow hL2 hU ⊢
      clear hwm HG hmk
      go_loopw [8, 9] (fun kv nv wr => ∃ (n : Nat), nv = .int .i64 n ∧ n ≤ ps.length ∧ Upd [] w wr ∧ ((∃ (kk : Nat) (P : Nat → Bool), kv = .int .i64 kk ∧ kk < ps.length ∧ P kk = false ∧ (qp ps.length P).length + n + 1 = ps.length ∧ LockP wr p kk (qp ps.length P) ∧ wr.rowIs g 4 ps.length (fun x => .bool (!P x && !(x == kk)))) ∨ (kv = .int .i64 (-1) ∧ n = ps.length ∧ LockP wr p (-1) []))) (fun _ i _ => ps.length - (intOf i).toNat)
      case atStart => exact ⟨0, rfl, Nat.zero_le _, hU, .inl ⟨0, _, rfl, by omega, by simp, by rw [HLEN.out]; omega, hL2, hrow.congr fun x hx => by cases x <;> simp⟩⟩
      case round =>
        clear hU hL2 hrow
        obtain ⟨n, rfl, hn, hU, ⟨kk, P, rfl, hkk, hPk, hpl, hL, hrow⟩ | ⟨rfl, hnl, hL⟩⟩ := hrel
        · have hnlt : n < ps.length := by omega
          have hck : wr.cell? ⟨g, kk, none⟩ = some (.bool false) := by have := hrow.cell hkk; simpa using this
          have hfk := hrow.frozen kk
          have hd1 : ((kk : Int) != (kk : Int)) = false := by simp
          have hd2 : decide (ps.length ≤ kk) = false := decide_eq_false (by omega)
          have hd3 : decide ((kk : Int) < 0) = false := decide_eq_false (by omega)
          have HPL := Lib.hid hpl
          clear hpl
          go_wp2_with fail
          refine (owner_any p kk _ _ hL).mono ?_
          rintro e w3 ⟨rfl, rfl⟩
          go_wp2_with fail
          have hu2 : Upd [g] wr (wr.setCell ⟨g, kk, none⟩ (.bool true)) := (Upd.refl [g] wr).setCell _ _ (fun _ => by simp)
          have hL3 := hL.keep hu2 (by simp; omega) (rowIs_notT hrow (by decide))
          have hrow3 : (wr.setCell ⟨g, kk, none⟩ (.bool true)).rowIs g 4 ps.length (fun x => .bool (!P x)) := (hrow.set kk (.bool true)).congr fun x hx => by
            by_cases hxk : x = kk
            · subst hxk; simp [hPk]
            · have : (x == kk) = false := beq_eq_false_iff_ne.2 hxk
              simp [hxk, this]
          have hU3 : Upd [] w (wr.setCell ⟨g, kk, none⟩ (.bool true)) := hU.setCell _ _ (fun h => by exfalso; dsimp only at h; omega)
          obtain ⟨wm2, hwm2⟩ : ∃ wm2, wm2 = wr.setCell ⟨g, kk, none⟩ (.bool true) := ⟨_, rfl⟩
          rw [← hwm2] at hL3 hrow3 hU3 ⊢
          clear hwm2 hck hfk hL hrow hU hu2
          have hr3 := HR0.out.keep0 hU3
          by_cases hq : qp ps.length P = []
          · rw [hq] at hL3
            have hn1 : n + 1 = ps.length := by have h := HPL.out; rw [hq, List.length_nil] at h; omega
            have hPall := qp_none hq
            have HPALL := Lib.hid hPall
            clear hq hPall
            refine (give_none p kk _ cap ps _ hL3 hr3 HPN.out (by omega) (by omega)).mono ?_
            rintro e w4 ⟨rfl, hL4, hu⟩
            have hrow4 := rowIs_keep hrow3 hu (by simp; omega)
            replace hU : Upd [] w w4 := hU3.trans hu (fun x hx hl => by simp at hx; omega)
            clear hL3 hrow3 hU3 hr3 hu
            go_wp2
            go_loopw [12] (fun i wr => ∃ (x : Nat), x ≤ ps.length ∧ i = .int .i64 x ∧ Upd [] w wr ∧ LockP wr p (-1) [] ∧ wr.rowIs g 4 ps.length (fun x => .bool (!P x))) (fun i _ => ps.length - (intOf i).toNat)
            case atStart => exact ⟨0, Nat.zero_le _, rfl, hU, hL4, hrow4⟩
            case round =>
              clear hU hL4 hrow4
              obtain ⟨x, hx, rfl, hU, hL, hrow⟩ := hrel
              by_cases hxl : x < ps.length
              · have hcx : wr.cell? ⟨g, x, none⟩ = some (.bool true) := by have := hrow.cell hxl; rw [HPALL.out x hxl] at this; simpa using this
                go_wp2
                go_quiet (fail)
                go_wp2
                go_roundw
                case rel => exact ⟨x + 1, by omega, by go_num, hU.drewN _, hL.step ((Upd.refl _ _).drewN _), hrow⟩
                case measure => simp [intOf]; omega
              · clear hrow
                go_wp2
                go_roundw
                case rel => exact ⟨ps.length, by go_num, Nat.le_refl _, hU, .inr ⟨rfl, rfl, hL⟩⟩
                case measure => simp [intOf]; omega
          · obtain ⟨b, jn, hb1, hb2, hjn, hPj, hbest⟩ := qp_best ps ps.length P (qp_any_some hq)
            have hdrop := qp_drop ps.length P jn hjn hPj
            have HB1 := Lib.hid hb1
            have HB2 := Lib.hid hb2
            have HBEST := Lib.hid hbest
            have HDROP := Lib.hid hdrop
            have HPJ := Lib.hid hPj
            clear hb1 hb2 hq hbest hdrop hPj
            refine (give_some p kk (qp ps.length P) b (mkw jn) _ cap ps _ hL3 (by have := HPL.out; omega) hr3 HPN.out (by omega) (by omega) HB1.out HB2.out).mono ?_
            rintro e w4 ⟨rfl, hL4, hu⟩
            have hL5 : LockP w4 p (jn : Int) (qp ps.length (fun x => P x && !(x == jn))) := by rw [← leave_qp]; exact hL4
            have hrow4 := rowIs_keep hrow3 hu (by simp; omega)
            replace hU : Upd [] w w4 := hU3.trans hu (fun x hx hl => by simp at hx; omega)
            clear hL3 hrow3 hU3 hr3 hu hL4
            simp only [mkw]
            go_wp2
            go_loopw [12] (fun i wr => ∃ (x : Nat), x ≤ ps.length ∧ i = .int .i64 x ∧ Upd [] w wr ∧ LockP wr p (jn : Int) (qp ps.length (fun x => P x && !(x == jn))) ∧ wr.rowIs g 4 ps.length (fun x => .bool (!P x))) (fun i _ => ps.length - (intOf i).toNat)
            case atStart => exact ⟨0, Nat.zero_le _, rfl, hU, hL5, hrow4⟩
            case round =>
              clear hU hL5 hrow4
              obtain ⟨x, hx, rfl, hU, hL, hrow⟩ := hrel
              by_cases hxl : x < ps.length
              · have hcx := hrow.cell hxl
                cases hPx : P x with
                | false =>
                  rw [hPx] at hcx
                  simp only [Bool.not_false] at hcx
                  clear hPx
                  go_wp2
                  go_quiet (fail)
                  go_wp2
                  go_roundw
                  case rel => exact ⟨x + 1, by omega, by go_num, hU.drewN _, hL.step ((Upd.refl _ _).drewN _), hrow⟩
                  case measure => simp [intOf]; omega
                | true =>
                  rw [hPx] at hcx
                  simp only [Bool.not_true] at hcx
                  have hle := (HBEST.out x hxl hPx).1
                  rw [prioOf_get hxl, prioOf_get hjn] at hle
                  have hcp := get_ints hxl
                  have hcq := get_ints hjn
                  generalize ps.getD x 0 = y1 at hcp hle
                  generalize ps.getD jn 0 = y2 at hcq hle
                  have hdle : decide (y2 < y1) = false := decide_eq_false (by omega)
                  obtain ⟨b', off, hae, hcell⟩ := (HR0.out.keep0 hU).at (by omega)
                  have hbo : b0 = b' ∧ off0 = off := by
                    injection hae with h
                    injection h with h1 h2
                    exact ⟨h1, h2⟩
                  obtain ⟨rfl, rfl⟩ := hbo
                  clear hae
                  have g1 := hcell x _ hcp
                  have g2 := hcell jn _ hcq
                  clear hPx hcell hcp hcq
                  go_wp2
                  go_quiet (fail)
                  go_wp2
                  go_roundw
                  case rel => exact ⟨x + 1, by omega, by go_num, hU.drewN _, hL.step ((Upd.refl _ _).drewN _), hrow⟩
                  case measure => simp [intOf]; omega
              · have hmm : (qp ps.length (fun x => P x && !(x == jn))).length + (n + 1) + 1 = ps.length := by have := HDROP.out; have := HPL.out; omega
                have HMM := Lib.hid hmm
                clear hmm
                go_wp2
                go_roundw
                case rel => exact ⟨n + 1, by go_num, by omega, hU, .inl ⟨jn, _, rfl, hjn, by simp, HMM.out, hL, hrow.congr fun x hx => by
                  by_cases hxj : x = jn
                  · subst hxj; simp [HPJ.out]
                  · have : (x == jn) = false := beq_eq_false_iff_ne.2 hxj
                    simp [this]⟩⟩
                case measure => simp [intOf]; omega
        · have hd1 : ((-1 : Int) == -1) = true := rfl
          subst hnl
          clear hn
          go_wp2_with fail
          refine (owner_any p (-1) _ _ hL).mono ?_
          rintro e w3 ⟨rfl, rfl⟩
          go_wp2_with fail
          go_ret
          exact ⟨rfl, hU⟩
end Go.Proofs.Ytjkacccmdccbnaa
