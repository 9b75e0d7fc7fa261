/- slices.Insert and slices.Delete of one element of a timer's row. -/
import Derived.Test.YtkmjeadnkndhbaaDue
import Derived.Deep.RegionHeld3
namespace Go.Proofs.Ytkmjeadnkndhbaa
set_option linter.unusedVariables false
set_option linter.unusedSimpArgs false
open Go.RowKit

theorem flat_due (xs ys : List Due) : (xs ++ ys).flatMap Due.enc = xs.flatMap Due.enc ++ ys.flatMap Due.enc := by simp

set_option maxHeartbeats 3200000 in
set_option maxRecDepth 100000 in
/-- At the end: an append. -/
theorem insert_end (a : Option Addr) (cap base vb : Nat) (ds : List Due) (x : Due) (w : World) (hown : w.ownsRow base 55 2 (.slice a ds.length cap) ds.length (ds.flatMap Due.enc))
    (hv : w.heap[vb]? = some (.cells x.enc.toArray 55 (0, 0))) (hbase : base ≤ w.heap.size) (hm : ds.length ≤ 100000) :
    Calls Try.prog 21 #[.slice a ds.length cap, .int .i64 ds.length, .slice (some ⟨vb, 0, none⟩) 1 1] w fun e w' =>
      ∃ a' c', e = .returned (.slice a' (ds.length + 1) c') ∧ w'.ownsRow base 55 2 (.slice a' (ds.length + 1) c') (ds.length + 1) ((ds ++ [x]).flatMap Due.enc) ∧ Upd (Value.slice a ds.length cap).ownBlock.toList w w' := by
  have hrv : Rd w (.slice (some ⟨vb, 0, none⟩) 1 1) 1 x.enc := ⟨_, 1, rfl, Nat.le_refl _, by unfold maxLen; omega, (fun h => by cases h), .inr ⟨_, _, rfl, fun j u hj => by
    simp [World.cell?, hv]
    exact hj⟩⟩
  have hd1 : ((ds.length : Int) == (ds.length : Int)) = true := by simp
  have hrd := Rd.of_own hown
  obtain ⟨a1, c1, _, hs1, hs2, hs3, hs4⟩ := hrd.cut tDue ds.length ds.length (by omega) (by omega)
  have hm1 : ds.length + 1 ≤ maxLen := by unfold maxLen; omega
  have hm2 : (ds.length + 1) * 16 ≤ 140737488355328 := by omega
  clear hrd hv
  go_enter Try.func21, Try.ntmps21
  go_wp2_with (first
    | (at_builtin; refine wp_extend tDue rfl (.tmp 23) (.tmp 24) rfl hown rfl rfl hrv rfl (Due.one1 x) hm1 hm2 hbase ?_; intro a3 c3 w3 hown3 hu3))
  go_ret
  exact ⟨a3, c3, rfl, by first | exact hown3 | (rw [show (ds ++ [x]).flatMap Due.enc = ds.flatMap Due.enc ++ x.enc by simp]; exact hown3), hu3⟩

theorem ins_flat (ds : List Due) (x : Due) (i : Nat) : (ds.take i ++ x :: ds.drop i).flatMap Due.enc = (ds.take i).flatMap Due.enc ++ (x.enc ++ (ds.drop i).flatMap Due.enc) := by simp
theorem cut_flat (ds : List Due) (i : Nat) : ds.flatMap Due.enc = (ds.take i).flatMap Due.enc ++ (ds.drop i).flatMap Due.enc := by rw [← flat_due, List.take_append_drop]
theorem take_flat {ds : List Due} {i : Nat} (h : i ≤ ds.length) : ((ds.take i).flatMap Due.enc).length = i * 2 := by rw [due_len]; simp; omega
theorem drop_flat (ds : List Due) (i : Nat) : ((ds.drop i).flatMap Due.enc).length = (ds.length - i) * 2 := by rw [due_len]; simp
theorem cell_at {w : World} {g : Nat} {cs : List Value} {e : TypeId} {f : Nat × Nat} (h : w.heap[g]? = some (.cells cs.toArray e f)) (j : Nat) : w.cell? ⟨g, j, none⟩ = cs[j]? := by
  simp [World.cell?, h]

set_option maxHeartbeats 6400000 in
set_option maxRecDepth 100000 in
/-- No room: a new row. -/
theorem insert_grow (g cap base vb i : Nat) (R : List Value) (ds : List Due) (x : Due) (w : World) (hg : w.heap[g]? = some (.cells (ds.flatMap Due.enc ++ R).toArray 55 (0, 0))) (hi : i < ds.length) (hcn : ds.length ≤ cap) (hcap : cap < ds.length + 1)
    (hv : w.heap[vb]? = some (.cells x.enc.toArray 55 (0, 0))) (hbase : base ≤ w.heap.size) (hm : ds.length ≤ 100000) :
    Calls Try.prog 21 #[.slice (some ⟨g, 0, none⟩) ds.length cap, .int .i64 i, .slice (some ⟨vb, 0, none⟩) 1 1] w fun e w' =>
      ∃ a' c', e = .returned (.slice a' (ds.length + 1) c') ∧ w'.ownsRow base 55 2 (.slice a' (ds.length + 1) c') (ds.length + 1) ((ds.take i ++ x :: ds.drop i).flatMap Due.enc) ∧ Upd [] w w' := by
  obtain rfl : cap = ds.length := by omega
  obtain ⟨n, hn⟩ : ∃ n, n = ds.length := ⟨_, rfl⟩
  obtain ⟨ti, hti, hz, hsz, hby⟩ := tDue.info
  obtain ⟨k, hk⟩ : ∃ k, n = i + k := ⟨n - i, by omega⟩
  have hd1 : ((i : Int) == (n : Int)) = false := beq_eq_false_iff_ne.2 (by omega)
  have hci : ¬ (n = i) := by omega
  have hA := take_flat (ds := ds) (i := i) (by omega)
  have hD := drop_flat ds i
  rw [cut_flat ds i, List.append_assoc] at hg
  rw [ins_flat]
  have h1A := Due.one (ds.take i)
  have h1D := Due.one (ds.drop i)
  have h1x := Due.one1 x
  have hX := Due.enc_len x
  generalize (ds.take i).flatMap Due.enc = A at *
  generalize (ds.drop i).flatMap Due.enc = D at *
  generalize x.enc = X at *
  rw [← hn] at hD hi hm ⊢
  clear hcap hcn hn
  have hgl : g < w.heap.size := blk_lt hg
  have hvl : vb < w.heap.size := blk_lt hv
  have heq := fun ty => Lib.run_append_grow_zeros (P := Try.prog) w 51 3 ty 55 ti (.agg #[.int .i64 0, .int .i64 0]) .i64 .i64 Try.underlying51 Try.underlying3 hti hz (some ⟨g, 0, none⟩) i n A (by
    have := run_loadCells_list (P := Try.prog) w.drew ⟨g, 0, none⟩ A (fun j v hj => by
      rw [show (⟨g, 0, none⟩ : Addr).add j = ⟨g, j, none⟩ by unfold Addr.add; split <;> simp_all]
      rw [cell_at (w := w.drew) hg, List.getElem?_append_left (by have := (List.getElem?_eq_some_iff.1 hj).1; omega)]
      exact hj)
    rw [hA] at this
    simpa [Builtin.firstCells, hsz] using this) (k + 1) (by omega) (by omega) (by omega) (by omega) (by rw [hby]; omega) (growslice_fits (by omega) (by rw [hby]; omega))
  obtain ⟨C, hC⟩ : ∃ C, C = grownCap w (i + (k + 1)) n 55 := ⟨_, rfl⟩
  have hCge : i + (k + 1) ≤ C := by rw [hC]; exact grownCap_ge w _ n _
  have hCm : C ≤ maxLen := by rw [hC]; exact grownCap_le_maxLen w _ n _ (by unfold maxLen; omega)
  rw [← hC] at heq
  obtain ⟨n1, hn1⟩ : ∃ n1, n1 = i + (k + 1) := ⟨_, rfl⟩
  have hn1n : n1 = n + 1 := by omega
  have hkk : (((k + 1 : Nat) : Int)) = (n : Int) + 1 - (i : Int) := by omega
  rw [hkk, ← hn1] at heq
  rw [← hn1] at hCge
  have hzl : ∀ m, (Builtin.zeroCells (Value.agg #[.int .i64 0, .int .i64 0]).cells m).size = m * 2 := fun m => by rw [size_zeroCells]; rfl
  obtain ⟨Z, hZ⟩ : ∃ Z : List Value, Z = (Builtin.zeroCells (Value.agg #[.int .i64 0, .int .i64 0]).cells (k + 1)).toList ++ (Builtin.zeroCells (Value.agg #[.int .i64 0, .int .i64 0]).cells (C - n1)).toList := ⟨_, rfl⟩
  have hZl : Z.length = (C - i) * 2 := by rw [hZ, List.length_append, Array.length_toList, Array.length_toList, hzl, hzl]; omega
  have hAZ : A.toArray ++ Builtin.zeroCells (Value.agg #[.int .i64 0, .int .i64 0]).cells (k + 1) ++ Builtin.zeroCells (Value.agg #[.int .i64 0, .int .i64 0]).cells (C - n1) = (A ++ Z).toArray := by
    rw [hZ]
    apply Array.ext'
    simp
  rw [hAZ] at heq
  obtain ⟨G, hG⟩ : ∃ G, G = w.heap.size := ⟨_, rfl⟩
  obtain ⟨W1, hW1⟩ : ∃ W1, W1 = w.drew.alloc (.cells (A ++ Z).toArray 55) := ⟨_, rfl⟩
  have hg1 : W1.heap[G]? = some (.cells (A ++ Z).toArray 55 (0, 0)) := by rw [hW1, hG]; exact heap_alloc_new w.drew _
  have hu1 : Upd [] w W1 := by rw [hW1]; exact ((Upd.refl _ _).drew).alloc _
  rw [← hG, ← hW1] at heq
  have hgs1 := hu1.keep hg (by simp)
  have hv1 := hu1.keep hv (by simp)
  have hGg : g ≠ G := by omega
  have hGv : vb ≠ G := by omega
  clear hW1 hAZ hZ hzl hC hg hv
  have hcp1 := fun ty => run_copy_n tDue W1 ty G (i * 2) (n1 - i) (C - i) ⟨vb, 0, none⟩ 1 1 (A ++ Z) _ X hg1 (by rw [hX, show Nat.min 1 (n1 - i) = 1 by simp only [Nat.min_def]; split <;> omega])
    (fun j v hj => by rw [addr_off0, cell_at hv1]; exact hj) (by rw [List.length_append, hA, hX, hZl]; omega) h1x
  rw [splice_at (A := A) (B := Z) (C := X) hA, hX] at hcp1
  obtain ⟨W2, hW2⟩ : ∃ W2, W2 = W1.setRow G (A ++ (X ++ Z.drop 2)).toArray := ⟨_, rfl⟩
  have hg2 : W2.heap[G]? = some (.cells (A ++ (X ++ Z.drop 2)).toArray 55 (0, 0)) := by rw [hW2]; exact setRow_heap _ _ _ _ _ _ hg1
  have hgs2 : W2.heap[g]? = some (.cells (A ++ (D ++ R)).toArray 55 (0, 0)) := by rw [hW2, setRow_other _ _ _ _ hGg]; exact hgs1
  have hu2 : Upd [] w W2 := by rw [hW2]; exact upd_setRow hu1 _ _ (fun h => by omega)
  rw [← hW2] at hcp1
  clear hW2 hu1 hgs1 hv1 hg1
  have hkm : Nat.min (n - i) (n1 - (i + 1)) = k := by simp only [Nat.min_def]; split <;> omega
  have hcp2 := fun (W : World) (hW : W.heap = W2.heap) ty => run_copy_n tDue W ty G ((i + 1) * 2) (n1 - (i + 1)) (C - (i + 1)) ⟨g, i * 2, none⟩ (n - i) (n - i) (A ++ (X ++ Z.drop 2)) _ D (by rw [hW]; exact hg2) (by rw [hkm, hD]; omega)
    (fun j v hj => by
      have hjl := (List.getElem?_eq_some_iff.1 hj).1
      rw [addr_off, cell_at (by rw [hW]; exact hgs2), List.getElem?_append_right (by omega), hA, show i * 2 + j - i * 2 = j by omega, List.getElem?_append_left hjl]
      exact hj) (by rw [List.length_append, List.length_append, List.length_drop, hA, hX, hZl, hD]; omega) h1D
  rw [← List.append_assoc A X, splice_at (A := A ++ X) (B := Z.drop 2) (C := D) (by rw [List.length_append, hA, hX]; omega)] at hcp2
  obtain ⟨L3, hL3⟩ : ∃ L3, L3 = (A ++ X ++ (D ++ (Z.drop 2).drop D.length)).toArray := ⟨_, rfl⟩
  rw [← hL3] at hcp2
  have HL3 := Lib.hid hL3
  have HG2 := Lib.hid hg2
  have HU2 := Lib.hid hu2
  clear hL3 hu2
  have hb1 : (i : Int) ≤ (n1 : Int) := by omega
  have hb2 : (i : Int) + 1 ≤ (n1 : Int) := by omega
  have hCi : ¬ (C = i) := by omega
  have hCi1 : ¬ (C = i + 1) := by omega
  have hs1 := fun W => run_from tDue (P := Try.prog) G n1 C (i + 1) (by omega) hCi1 (L := (i : Int) + 1) (by omega) W
  have hs2 := fun W => run_from tDue (P := Try.prog) g n n i (by omega) hci (L := (i : Int)) rfl W
  have HA := Lib.hid hA
  have HD := Lib.hid hD
  have HX := Lib.hid hX
  have HZ := Lib.hid hZl
  have HG := Lib.hid hG
  have HN := Lib.hid hn1n
  have HK := Lib.hid hkk
  clear hA hD hX hZl hG hn1 hn1n hkk hg2 hgs2 hk hkm hd1
  have hd1 : ((i : Int) == (n : Int)) = false := beq_eq_false_iff_ne.2 (by omega)
  have hwrap : IntKind.i64.wrap ((i : Int) + 1) = (i : Int) + 1 := IntWalk.i64_in _ (by omega)
  go_enter Try.func21, Try.ntmps21
  go_wp2_with (first
    | (at_builtin; refine Lib.wpList_append_run _ rfl (.tmp 34) (.tmp 39) _ _ rfl _ _ rfl rfl _ _ (heq _) ?_)
    | (refine wpl_copy _ rfl (.tmp 43) (.tmp 44) _ _ rfl rfl rfl (hcp1 _) ?_))
  go_region_held3 (fun w' => True) (first | trivial | go_keep) (first
    | ((refine step_cp rfl (.tmp 50) (.tmp 53) 51 51 rfl rfl rfl (hcp2 W2.drew rfl _) ?_)))
  go_wp2
  go_ret
  rw [← HN.out]
  refine ⟨some ⟨G, 0, none⟩, C, rfl, ?_, upd_setRow HU2.out.drew _ _ (fun h => by have := HG.out; omega)⟩
  have hA := HA.out
  have hD := HD.out
  have hX := HX.out
  have hZl := HZ.out
  have hn1 := HN.out
  refine own_make (R := (Z.drop 2).drop D.length) ?_ (by have := HG.out; omega) (by rw [List.length_append, List.length_append, hA, hX, hD]; omega) (by omega) (by omega) (by rw [List.length_append, List.length_append, List.length_append, List.length_drop, List.length_drop, hA, hX, hD, hZl]; omega)
  rw [show (A ++ (X ++ D) ++ (Z.drop 2).drop D.length).toArray = L3 by rw [HL3.out]; congr 1; simp]
  exact setRow_heap _ _ _ _ _ _ HG2.out

set_option maxHeartbeats 6400000 in
set_option maxRecDepth 100000 in
/-- There is room: in place. -/
theorem insert_room' (g cap base vb i : Nat) (R : List Value) (ds : List Due) (x : Due) (w : World) (hg : w.heap[g]? = some (.cells (ds.flatMap Due.enc ++ R).toArray 55 (0, 0))) (hgl : (ds.flatMap Due.enc ++ R).length = cap * 2) (hi : i < ds.length) (hcap : ds.length + 1 ≤ cap) (hcm : cap ≤ maxLen)
    (hv : w.heap[vb]? = some (.cells x.enc.toArray 55 (0, 0))) (hvg : vb ≠ g) (hbase : base ≤ g) (hm : ds.length ≤ 100000) :
    Calls Try.prog 21 #[.slice (some ⟨g, 0, none⟩) ds.length cap, .int .i64 i, .slice (some ⟨vb, 0, none⟩) 1 1] w fun e w' =>
      e = .returned (.slice (some ⟨g, 0, none⟩) (ds.length + 1) cap) ∧ w'.ownsRow base 55 2 (.slice (some ⟨g, 0, none⟩) (ds.length + 1) cap) (ds.length + 1) ((ds.take i ++ x :: ds.drop i).flatMap Due.enc) ∧ Upd [g] w w' := by
  obtain ⟨n, hn⟩ : ∃ n, n = ds.length := ⟨_, rfl⟩
  obtain ⟨n1, hn1⟩ : ∃ n1, n1 = n + 1 := ⟨_, rfl⟩
  have hd1 : ((i : Int) == (n : Int)) = false := beq_eq_false_iff_ne.2 (by omega)
  have hci : ¬ (cap = i) := by omega
  have hci1 : ¬ (cap = i + 1) := by omega
  have hd2 : decide (cap < n + 1) = false := decide_eq_false (by omega)
  have hA := take_flat (ds := ds) (i := i) (by omega)
  have hD := drop_flat ds i
  rw [cut_flat ds i, List.append_assoc] at hg hgl
  rw [ins_flat]
  have h1D := Due.one (ds.drop i)
  have h1x := Due.one1 x
  have hX := Due.enc_len x
  generalize (ds.take i).flatMap Due.enc = A at *
  generalize (ds.drop i).flatMap Due.enc = D at *
  generalize x.enc = X at *
  rw [← hn] at hD hi hm hcap ⊢
  rw [← hn1] at hcap ⊢
  clear hn
  have hcap2 : n + 1 ≤ cap := by omega
  have hRl : R.length = (cap - n) * 2 := by rw [List.length_append, List.length_append, hA, hD] at hgl; omega
  obtain ⟨T, hT⟩ : ∃ T, T = (D ++ R).take 2 := ⟨_, rfl⟩
  obtain ⟨U, hU⟩ : ∃ U, U = (D ++ R).drop 2 := ⟨_, rfl⟩
  have hTU : D ++ R = T ++ U := by rw [hT, hU, List.take_append_drop]
  have hTl : T.length = 2 := by rw [hT, List.length_take, List.length_append, hD, hRl]; omega
  have hUl : U.length = (cap - i - 1) * 2 := by rw [hU, List.length_drop, List.length_append, hD, hRl]; omega
  have hov : ∀ lb cb, (callFunc 27 #[.slice (some ⟨vb, 0, none⟩) 1 1, .slice (some ⟨g, (i + 1) * 2, none⟩) lb cb]).run Try.prog w = .ok (.value (.bool false)) w := fun lb cb => by
    rw [run_callFunc_extern Try.func27 (by kernel_rfl) (by kernel_rfl) (by kernel_rfl) (e := Extern.SlicesOverlaps.overlaps #[51, 51] #[4]) (by kernel_rfl),
      Lib.run_overlaps_apart w 51 4 55 Try.underlying51 2 (fun W => by obtain ⟨ti, h1, h2, h3, h4⟩ := tDue.info; simp [sizeOf, run_typeInfo _ h1, h3]) ⟨vb, 0, none⟩ ⟨g, (i + 1) * 2, none⟩ 1 1 lb cb hvg 55 55 2 (cap * 2) (by simp [World.shape?, hv, hX]) (by simp only [World.shape?, hg]; rw [List.size_toArray, hgl]) (by omega) (by simp [World.frozen?, hv]) (by simp [World.frozen?, hv])]
    rfl
  have hkm : Nat.min (n1 - i) (n1 - (i + 1)) = n - i := by simp only [Nat.min_def]; split <;> omega
  have hg0 : w.heap[g]? = some (.cells (A ++ T ++ U).toArray 55 (0, 0)) := by rw [List.append_assoc, ← hTU]; exact hg
  have hcp1 := fun ty => run_copy_n tDue w.drew ty g ((i + 1) * 2) (n1 - (i + 1)) (cap - (i + 1)) ⟨g, i * 2, none⟩ (n1 - i) (cap - i) (A ++ T ++ U) _ D hg0 (by rw [hkm, hD])
    (fun j v hj => by
      have hjl := (List.getElem?_eq_some_iff.1 hj).1
      rw [addr_off, cell_at (w := w.drew) hg, List.getElem?_append_right (by omega), hA, show i * 2 + j - i * 2 = j by omega, List.getElem?_append_left hjl]
      exact hj) (by rw [List.length_append, List.length_append, hA, hTl, hUl, hD]; omega) h1D
  rw [splice_at (A := A ++ T) (B := U) (C := D) (by rw [List.length_append, hA, hTl]; omega), List.append_assoc] at hcp1
  obtain ⟨W1, hW1⟩ : ∃ W1, W1 = w.drew.setRow g (A ++ (T ++ (D ++ U.drop D.length))).toArray := ⟨_, rfl⟩
  have hg1 : W1.heap[g]? = some (.cells (A ++ (T ++ (D ++ U.drop D.length))).toArray 55 (0, 0)) := by rw [hW1]; exact setRow_heap w.drew _ _ _ _ _ hg0
  have hv1 : W1.heap[vb]? = some (.cells X.toArray 55 (0, 0)) := by rw [hW1, setRow_other _ _ _ _ hvg]; exact hv
  have hu1 : Upd [g] w W1 := by rw [hW1]; exact upd_setRow ((Upd.refl _ _).drew) _ _ (fun _ => by simp)
  rw [← hW1] at hcp1
  have hcp2 := fun (W : World) (hW : W.heap = W1.heap) ty => run_copy_n tDue W ty g (i * 2) (n1 - i) (cap - i) ⟨vb, 0, none⟩ 1 1 (A ++ (T ++ (D ++ U.drop D.length))) _ X (by rw [hW]; exact hg1) (by rw [hX, show Nat.min 1 (n1 - i) = 1 by simp only [Nat.min_def]; split <;> omega])
    (fun j v hj => by rw [addr_off0, cell_at (by rw [hW]; exact hv1)]; exact hj) (by rw [List.length_append, hA, hX, List.length_append, hTl]; omega) h1x
  rw [splice_at (A := A) (B := T ++ (D ++ U.drop D.length)) (C := X) hA, hX, show (T ++ (D ++ U.drop D.length)).drop 2 = D ++ U.drop D.length by rw [← hTl, List.drop_left]] at hcp2
  obtain ⟨L3, hL3⟩ : ∃ L3, L3 = (A ++ (X ++ (D ++ U.drop D.length))).toArray := ⟨_, rfl⟩
  rw [← hL3] at hcp2
  have hb1 : (i : Int) ≤ (n1 : Int) := by omega
  have hb2 : (i : Int) + 1 ≤ (n1 : Int) := by omega
  have hs1 := fun W => run_from tDue (P := Try.prog) g n1 cap (i + 1) (by omega) hci1 (L := (i : Int) + 1) (by omega) W
  have hs2 := fun W => run_from tDue (P := Try.prog) g n1 cap i (by omega) hci (L := (i : Int)) rfl W
  have hs3 := fun W => run_from tDue (P := Try.prog) g n cap i (by omega) hci (L := (i : Int)) rfl W
  have hs4 := fun W => run_upto tDue (P := Try.prog) g n cap n1 (by omega) (U := (n : Int) + 1) (by omega) W
  have hwrap : IntKind.i64.wrap ((i : Int) + 1) = (i : Int) + 1 := IntWalk.i64_in _ (by omega)
  have HA := Lib.hid hA
  have HD := Lib.hid hD
  have HX := Lib.hid hX
  have HU := Lib.hid hUl
  have HN := Lib.hid hn1
  have HL3 := Lib.hid hL3
  have HG1 := Lib.hid hg1
  have HU1 := Lib.hid hu1
  clear hA hD hX hUl hTl hT hU hTU hn1 hL3 hg1 hu1 hv1 hg hg0 hv hW1 hgl hRl hkm
  go_enter Try.func21, Try.ntmps21
  go_wp2_with (simp only [hov])
  go_region_held3 (fun w' => True) (first | trivial | go_keep) (first
    | ((refine step_cp rfl (.tmp 73) (.tmp 76) 51 51 rfl rfl rfl (hcp1 _) ?_)))
  go_wp2_with (refine wpl_copy _ rfl (.tmp 80) (.tmp 81) _ _ rfl rfl rfl (hcp2 _ rfl _) ?_)
  go_ret
  refine ⟨rfl, ?_, upd_setRow HU1.out _ _ (fun _ => by simp)⟩
  have hA := HA.out
  have hD := HD.out
  have hX := HX.out
  have hUl := HU.out
  have hn1 := HN.out
  refine own_make (R := U.drop D.length) ?_ hbase (by rw [List.length_append, List.length_append, hA, hX, hD]; omega) (by omega) hcm (by rw [List.length_append, List.length_append, List.length_append, List.length_drop, hA, hX, hD, hUl]; omega)
  rw [show (A ++ (X ++ D) ++ U.drop D.length).toArray = L3 by rw [HL3.out]; congr 1; simp]
  exact setRow_heap _ _ _ _ _ _ HG1.out

end Go.Proofs.Ytkmjeadnkndhbaa
