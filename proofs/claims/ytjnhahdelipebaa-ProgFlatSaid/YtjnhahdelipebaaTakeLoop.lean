/- (*order).take at Loop; take at any op. -/
import Derived.Test.YtjnhahdelipebaaTakeEnd
namespace Go.Proofs.Ytjnhahdelipebaa.XA
set_option linter.unusedVariables false
set_option linter.unusedSimpArgs false
open Go.RowKit Go.Proofs.YtjnhahdelipebaaW.PrintWords Go.Proofs.YtjnhahdelipebaaW.PrintLast Go.Proofs.YtjnhahdelipebaaW.PrintMore
open Go.Proofs.YtjnhahdelipebaaH (Upd Rd)
/-- What is wanted of each world on the way to the append onto the frames. -/
structure FirstOn (w0 W : World) (b : Nat) (hv fv cv : Value) (h : List Int) (fs : List FrmP) (F : Nat) : Prop where
  first2 : W.ownsRow w0.heap.size 42 1 fv F (fs.map (·.1))
  size : w0.heap.size ≤ W.heap.size
  fin : ∀ {w3 : World} {g c : Nat}, Upd fv.ownBlock.toList W w3 → w3.ownsRow w0.heap.size 42 1 (.slice (some ⟨g, 0, none⟩) (F + 1) c) (F + 1) (fs.map (·.1) ++ [cv]) →
    OrdAt w0 (w3.setCell ⟨b, 1, none⟩ (.slice (some ⟨g, 0, none⟩) (F + 1) c)) b hv (.slice (some ⟨g, 0, none⟩) (F + 1) c) h (fs ++ [(cv, h)]) ∧ w3.cell? ⟨b, 1, none⟩ = some fv ∧ w3.frozen? ⟨b, 1, none⟩ = false
theorem OrdAt.firstOn {w0 w1 W : World} {b : Nat} {hv fv cv : Value} {h : List Int} {fs : List FrmP} (k : OrdAt w0 w1 b hv fv h fs) (hc : w1.ownsRow w0.heap.size 3 1 cv h.length (h.map (Value.int .i64))) (hap : ∀ x, cv.ownBlock = some x → hv.ownBlock ≠ some x) (hu : Upd [] w1 W) (F : Nat) (hF : F = fs.length) : FirstOn w0 W b hv fv cv h fs F := by
  subst hF
  have k2 := k.step hu
  have hc2 := Go.Proofs.YtjnhahdelipebaaH.own_keep0 hc hu
  refine ⟨k2.first, k2.below.size, fun {w3 g c} hu3 hown => ?_⟩
  have hbk : w3.heap[b]? = some (.cells #[hv, fv] 68 (0, 0)) := hu3.keep k2.blk (fun hm => own_ne_blk k2.first k2.blk (by decide) (by simpa using hm))
  have hlen : (fs ++ [(cv, h)]).length = fs.length + 1 := by simp
  refine ⟨k2.setFirst hu3 (by rw [hlen]; simpa using hown) (fun f hf => ?_), (blk_cell hbk 1).trans rfl, blk_frozen hbk 1⟩
  rcases List.mem_append.1 hf with h1 | h1
  · exact k2.each f h1
  · simp only [List.mem_cons, List.not_mem_nil, or_false] at h1
    subst h1
    exact ⟨hc2, hap⟩
/-- A clone lies apart from what was there. -/
theorem clone_apart {W w1 : World} {base0 : Nat} {hv cv : Value} {e e' : TypeId} {n n' : Nat} {cs cs' : List Value} (h1 : W.ownsRow base0 e 1 hv n cs) (h2 : w1.ownsRow W.heap.size e' 1 cv n' cs') : ∀ x, cv.ownBlock = some x → hv.ownBlock ≠ some x := by
  intro x hx he
  have a := own_base h2 x hx
  rcases h1.2 with ⟨h3, _⟩ | ⟨g, cap, cur, h3, _, hh, _⟩
  · rw [h3] at he; simp [Value.ownBlock] at he
  · rw [h3] at he
    have : g = x := by simpa [Value.ownBlock] using he
    have := blk_lt hh
    omega
set_option maxHeartbeats 16000000 in
set_option maxRecDepth 100000 in
theorem take_loop (w0 w : World) (b : Nat) (hv fv : Value) (h : List Int) (fs : List FrmP) (hO : OrdAt w0 w b hv fv h fs) (n v wt : Int) (A : Option Addr) (m c : Nat) (hl : h.length ≤ 1000) (hlf : fs.length ≤ 1000) (r : Bool) (hr : r = decide (fs.length < 3)) :
    Calls Try.prog 34 #[.pointer (some ⟨b, 0, none⟩), .agg #[.int .i64 8, .int .i64 n, .int .i64 v, .int .i64 wt, .slice A m c]] w fun e w' => e = .returned (.bool r) ∧ ∃ fv' cv, OrdAt w0 w' b hv fv' h (fs ++ [(cv, h)]) := by
  obtain ⟨va, vc, rfl, hvc⟩ := Go.Proofs.YtjnhahdelipebaaH.own_slice hO.held
  obtain ⟨oa, oc, rfl, hoc⟩ := Go.Proofs.YtjnhahdelipebaaH.own_slice hO.first
  obtain ⟨i0, hi, hz, hsz, hby⟩ := tRowP.info
  obtain ⟨x0, x1, f0, f1, hlt⟩ := hO.cells
  obtain ⟨N, hN⟩ : ∃ N, N = h.length := ⟨_, rfl⟩
  obtain ⟨F, hF⟩ : ∃ F, F = fs.length := ⟨_, rfl⟩
  have HO := Lib.hid hO
  have HN := Lib.hid hN
  have HF := Lib.hid hF
  have HCL : Hid (∀ W, Upd [] w W → Calls Try.prog 51 #[.slice va N vc] W fun e w' => ∃ a' c', e = .returned (.slice a' N c') ∧ Upd [] w w' ∧ OrdAt w0 w' b (.slice va N vc) (.slice oa F oc) h fs ∧ ∀ W', Upd [] w' W' → FirstOn w0 W' b (.slice va N vc) (.slice oa F oc) (.slice a' N c') h fs F) := Lib.hid (fun W hu => by
    have k := hO.step hu
    have hk := cloneI_any w0.heap.size va vc h W k.held (by omega)
    rw [← hN] at hk k
    rw [← hF] at k
    refine hk.mono ?_
    rintro e w' ⟨a', c', rfl, hown, hu2⟩
    have k2 := k.step hu2
    have hap := clone_apart k.held hown
    exact ⟨a', c', rfl, hu.trans0 hu2, k2, fun W' hu3 => k2.firstOn (by rw [← hN]; exact Go.Proofs.YtjnhahdelipebaaH.own_lower (base := W.heap.size) hown k.below.size) hap hu3 F hF⟩)
  rw [← hN] at x0 hl ⊢
  rw [← hF] at x1 hlf hr
  have hm1 : F + 1 ≤ maxLen := by unfold maxLen; omega
  have hm3 : (F + 1) * 24 ≤ 140737488355328 := by omega
  have hd : decide ((F : Int) + 1 ≤ 3) = r := by rw [hr, decide_eq_decide]; omega
  have HD := Lib.hid hd
  clear hN hF hO hvc hoc hr hd
  go_enter Try.func34, Try.ntmps34
  go_upto_region 5 with fail
  go_region_law (first
    | (refine step_append_lies _ rfl (.tmp 31) (.tmp 37) 66 rfl w0.heap.size 42 i0 (.slice none 0 0) 1 24 Try.underlying66 hi hz hsz hby rfl (by decide) (.slice oa F oc) F (fs.map (·.1)) rfl (FirstOn.first2 (HFI.out _ (by repeat (first | refine Upd.alloc ?_ _ | refine Upd.drewN ?_ _ | refine Upd.drew ?_ | exact Upd.refl _ _)))) _ 1 1 [.slice a1 N c1] rfl rfl (cell_one_at (by simp)) (by intro y hy; simp at hy; subst hy; rfl) (by decide) hm1 hm3 (FirstOn.size (HFI.out _ (by repeat (first | refine Upd.alloc ?_ _ | refine Upd.drewN ?_ _ | refine Upd.drew ?_ | exact Upd.refl _ _)))) _ rfl ?_; intro g3 c3 w3 hown3 hgr hat hlt3; have hfin := FirstOn.fin (HFI.out _ (by repeat (first | refine Upd.alloc ?_ _ | refine Upd.drewN ?_ _ | refine Upd.drew ?_ | exact Upd.refl _ _))) (Upd.of_grown hgr) hown3; have HFIN := Lib.hid hfin.1; have z0 := hfin.2.1; have z1 := hfin.2.2; clear hfin hgr hown3 hat)
    | (go_simp; go_at_call 51; refine Calls.mono (HCL.out _ (by repeat (first | refine Upd.alloc ?_ _ | refine Upd.drewN ?_ _ | refine Upd.drew ?_ | exact Upd.refl _ _))) ?_; rintro e w1 ⟨a1, c1, rfl, hu1, hO1, hfi⟩; have HFI := Lib.hid hfi; obtain ⟨y0, y1, g0, g1, ylt⟩ := hO1.cells; clear hO1 hfi hu1; dsimp only))
  all_goals
    go_wp2
    go_ret
    exact ⟨ret_blT HD.out, _, _, HFIN.out⟩
theorem take_any (w0 w : World) (b : Nat) (hv fv : Value) (h : List Int) (fs : List FrmP) (hO : OrdAt w0 w b hv fv h fs) (k n v wt : Int) (A : Option Addr) (m c : Nat) (hl : h.length ≤ 1000) (hlf : fs.length ≤ 1000) :
    Calls Try.prog 34 #[.pointer (some ⟨b, 0, none⟩), .agg #[.int .i64 k, .int .i64 n, .int .i64 v, .int .i64 wt, .slice A m c]] w fun e w' => ∃ r, e = .returned (.bool r) ∧ Below w0.heap.size w0 w' ∧ r = (tStep k n wt h (fs.map (·.2))).isSome ∧ ∀ p, tStep k n wt h (fs.map (·.2)) = some p → ∃ hv' fv' fs', fs'.map (·.2) = p.2 ∧ OrdAt w0 w' b hv' fv' p.1 fs' := by
  by_cases h8 : k = 8
  · subst h8
    refine (take_loop w0 w b hv fv h fs hO n v wt A m c hl hlf _ rfl).mono ?_
    rintro e w' ⟨rfl, fv', cv, hO'⟩
    refine ⟨_, rfl, hO'.below, ?_, ?_⟩
    · unfold tStep
      rw [if_pos rfl, List.length_map]
      by_cases h3 : 3 ≤ fs.length
      · rw [if_pos h3, decide_eq_false (by omega)]; rfl
      · rw [if_neg h3, decide_eq_true (by omega)]; rfl
    · intro p hp
      unfold tStep at hp
      rw [if_pos rfl, List.length_map] at hp
      split at hp
      · cases hp
      · cases hp
        exact ⟨_, _, _, by simp, hO'⟩
  · by_cases h9 : k = 9
    · subst h9
      by_cases h0 : fs.length = 0
      · refine (take_end_none w0 w b hv fv h fs hO n v wt A m c h0).mono ?_
        rintro e w' ⟨rfl, hb⟩
        have ht : tStep 9 n wt h (fs.map (·.2)) = none := by unfold tStep; rw [if_neg (by decide), if_pos rfl, List.length_map, if_pos h0]
        rw [ht]
        exact ⟨_, rfl, hb, rfl, fun p hp => by cases hp⟩
      · refine (take_end w0 w b hv fv h fs hO n v wt A m c hl hlf (by omega) _ rfl).mono ?_
        rintro e w' ⟨rfl, hb, hO'⟩
        refine ⟨_, rfl, hb, ?_, ?_⟩
        · unfold tStep
          rw [if_neg (by decide), if_pos rfl, List.length_map, if_neg h0]
          split
          · rename_i hh; rw [decide_eq_true hh]; rfl
          · rename_i hh; rw [decide_eq_false hh]; rfl
        · intro p hp
          unfold tStep at hp
          rw [if_neg (by decide), if_pos rfl, List.length_map, if_neg h0] at hp
          split at hp
          · rename_i hh
            cases hp
            obtain ⟨fv', hq⟩ := hO' (decide_eq_true hh)
            exact ⟨_, _, _, by rw [List.map_take], hq⟩
          · cases hp
    · by_cases h2 : k = 2
      · subst h2
        by_cases hg : 0 < h.length ∧ n ≤ lastH h
        · refine (take_lock_bad w0 w b hv fv h fs hO n v wt A m c hl hg.1 hg.2).mono ?_
          rintro e w' ⟨rfl, hb⟩
          have ht : tStep 2 n wt h (fs.map (·.2)) = none := by unfold tStep; rw [if_neg (by decide), if_neg (by decide), if_pos rfl, if_pos hg]
          rw [ht]
          exact ⟨_, rfl, hb, rfl, fun p hp => by cases hp⟩
        · refine (take_lock_ok w0 w b hv fv h fs hO n v wt A m c hl (by omega)).mono ?_
          rintro e w' ⟨rfl, hv', hO'⟩
          have ht : tStep 2 n wt h (fs.map (·.2)) = some (h ++ [n], fs.map (·.2)) := by unfold tStep; rw [if_neg (by decide), if_neg (by decide), if_pos rfl, if_neg hg]
          rw [ht]
          exact ⟨_, rfl, hO'.below, rfl, fun p hp => by cases hp; exact ⟨_, _, _, rfl, hO'⟩⟩
      · by_cases h3 : k = 3
        · subst h3
          by_cases hg : 0 < h.length ∧ lastH h = n
          · refine (take_unlock_ok w0 w b hv fv h fs hO n v wt A m c hl hg.1 hg.2).mono ?_
            rintro e w' ⟨rfl, hv', hO'⟩
            have ht : tStep 3 n wt h (fs.map (·.2)) = some (h.take (h.length - 1), fs.map (·.2)) := by unfold tStep; rw [if_neg (by decide), if_neg (by decide), if_neg (by decide), if_pos rfl, if_neg (by omega), if_pos hg.2]
            rw [ht]
            exact ⟨_, rfl, hO'.below, rfl, fun p hp => by cases hp; exact ⟨_, _, _, rfl, hO'⟩⟩
          · refine (take_unlock_bad w0 w b hv fv h fs hO n v wt A m c hl (by omega)).mono ?_
            rintro e w' ⟨rfl, hb⟩
            have ht : tStep 3 n wt h (fs.map (·.2)) = none := by
              unfold tStep
              rw [if_neg (by decide), if_neg (by decide), if_neg (by decide), if_pos rfl]
              by_cases hz : h.length = 0
              · rw [if_pos hz]
              · rw [if_neg hz, if_neg (fun c => hg ⟨by omega, c⟩)]
            rw [ht]
            exact ⟨_, rfl, hb, rfl, fun p hp => by cases hp⟩
        · refine (take_other w0 w b hv fv h fs hO k n v wt A m c hl h2 h3 h8 h9 _ rfl).mono ?_
          rintro e w' ⟨rfl, hO'⟩
          refine ⟨_, rfl, hO'.below, ?_, ?_⟩
          · unfold tStep
            rw [if_neg h8, if_neg h9, if_neg h2, if_neg h3]
            split
            · rename_i hh; rw [decide_eq_true hh]; rfl
            · rename_i hh; rw [decide_eq_false hh]; rfl
          · intro p hp
            unfold tStep at hp
            rw [if_neg h8, if_neg h9, if_neg h2, if_neg h3] at hp
            split at hp
            · cases hp
            · cases hp
              exact ⟨_, _, _, rfl, hO'⟩
end Go.Proofs.Ytjnhahdelipebaa.XA
