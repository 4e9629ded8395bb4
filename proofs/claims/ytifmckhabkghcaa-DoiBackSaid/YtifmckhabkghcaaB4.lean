/- Contract of basic.Encode, where a label can be told. -/
import Derived.Test.YtifmckhabkghcaaB3
namespace Go.Proofs.Ytifmckhabkghcaa.P
open Go.RowKit
set_option linter.unusedSimpArgs false

/-- A level's byte. -/
def lvb (n : Nat) : Nat := if n = 0 then 171 else if n = 1 then 150 else if n = 2 then 90 else 61
theorem lv4_get (n : Nat) (h : n < 4) : lv4[n]? = some (.int .u8 (lvb n)) := by
  have : n = 0 ∨ n = 1 ∨ n = 2 ∨ n = 3 := by omega
  rcases this with rfl | rfl | rfl | rfl <;> rfl
/-- All blocks but D are as they were. -/
structure FrD (W : World) (D : Nat) (w : World) : Prop where
  size : W.heap.size ≤ w.heap.size
  block : ∀ k, k < W.heap.size → k ≠ D → w.heap[k]? = W.heap[k]?
theorem FrD.refl (W : World) (D : Nat) : FrD W D W := ⟨Nat.le_refl _, fun _ _ _ => rfl⟩
theorem FrD.drew {W w : World} {D : Nat} (h : FrD W D w) : FrD W D w.drew := ⟨h.size, h.block⟩
theorem FrD.of_below {W w : World} {D : Nat} (h : Below W.heap.size W w) : FrD W D w := ⟨h.size, fun k hk _ => h.block k hk⟩
theorem FrD.set {W w : World} {D : Nat} (h : FrD W D w) (j : Nat) (u : Value) : FrD W D (w.setCell ⟨D, j, none⟩ u) := ⟨by simpa using h.size, fun k hk hd => (heap_setCell_other w _ k u hd).trans (h.block k hk hd)⟩
theorem FrD.keep {W w' : World} {A B n D : Nat} {x : Lab} {t : TypeId} (h : FrD W D w') (hA : W.heap[A]? = some (.cells (labA x) t (0, 0))) (hB : W.heap[B]? = some (.cells lv4 80 (0, 0))) (hn : n < 4) (hx : x.lv = n) (hDA : A ≠ D) (hDB : B ≠ D) :
    w'.cell? ⟨A, 0, none⟩ = some (.int .i64 n) ∧ w'.cell? ⟨B, n, none⟩ = some (.int .u8 (lvb n)) ∧ w'.rangeAt A 1 (catL x.S) := by
  have h1 := (h.block A (lt_of_block hA) hDA).trans hA
  refine ⟨?_, ?_, range_of h1⟩
  · rw [cell_of_row _ _ _ _ _ _ h1, ← hx]; rfl
  · rw [cell_of_row _ _ _ _ _ _ ((h.block B (lt_of_block hB) hDB).trans hB)]; exact lv4_get n hn
theorem authL_len (S : Nat) : (authL S).length = authN S := by simp [authL]
/-- An option's data. -/
def encL (x : Lab) : List Nat := lvb x.lv.toNat :: authL x.S
set_option maxRecDepth 100000 in
set_option maxHeartbeats 4000000 in
theorem encode13_ok (x : Lab) (hS : x.S < 2 ^ 240) (hr : rightL x = true) (hf : fitsB x = true) (w : World) : Calls Try.prog 13 #[.agg (labA x)] w fun e w' => e = .returned (.tuple #[.agg #[.int .i64 130, .string (bs (encL x))], .int .i64 0]) ∧ Below w.heap.size w w' := by
  have hu25 := Try.underlying25
  have hu27 := Try.underlying27
  have hu56 := Try.underlying56
  have hu80 := Try.underlying80
  have hu82 := Try.underlying82
  have hu23 := Try.underlying23
  obtain ⟨z, hz⟩ := info25z x
  have HZ := Lib.hid hz
  have s0 : 0 < (labA x).size := by rw [labA_size]; decide
  have s1 : (labA x).size ≤ 1000 := by rw [labA_size]; decide
  have HR := Lib.hid (right44 x)
  have HF := Lib.hid (fits14 x)
  have HLV := Lib.hid levels45
  have HAU := Lib.hid (show ∀ w, Calls Try.prog 46 #[.agg (catL x.S).toArray] w fun e w' => ∃ g, e = .returned (.slice (some ⟨g, 0, none⟩) (authN x.S) (authN x.S)) ∧ w.heap.size ≤ g ∧ w'.heap[g]? = some (.cells (bytes (authL x.S)).toArray 5 (0, 0)) ∧ Below w.heap.size w w' from auth46 x.S hS)
  rw [hr] at HR
  rw [hf] at HF
  obtain ⟨n, hn⟩ : ∃ n : Nat, x.lv = n := ⟨x.lv.toNat, by simp [fitsB] at hf; omega⟩
  have hn4 : n < 4 := by simp [fitsB] at hf; omega
  have HN := Lib.hid hn
  have HE := Lib.hid (show encL x = lvb n :: authL x.S by unfold encL; rw [hn]; rfl)
  have H0 := Lib.hid (heap_alloc2_old w (.cells (labA x) 25) (.cells opt0 27))
  have H1 := Lib.hid (heap_alloc2_new w (.cells (labA x) 25) (.cells opt0 27))
  have HB := Lib.hid (bel_alloc (bel_alloc (Below.refl w.heap.size w) (.cells (labA x) 25)) (.cells opt0 27))
  have HC := Lib.hid (bel_alloc (Below.refl _ ((w.alloc (.cells (labA x) 25)).alloc (.cells opt0 27))) (.cells (labA x) 25))
  have H2 := Lib.hid (range_lab (show (((w.alloc (.cells (labA x) 25)).alloc (.cells opt0 27)).alloc (.cells (labA x) 25)).heap[w.heap.size + 2]? = some (.cells (labA x) 25 (0, 0)) by
    have h := heap_alloc_new ((w.alloc (.cells (labA x) 25)).alloc (.cells opt0 27)) (.cells (labA x) 25)
    simpa using h))
  unfold opt0 at H0 H1 H2 HB HC
  have hi23 := info23L x.S
  clear hz hr hf hn
  go_enter Try.func13, Try.ntmps13
  go_wp2_with (first
    | (refine wpList_load_row rfl 25 (.tmp 1) rfl w.heap.size rfl 25 (labA x) (0, 0) _ H0.out hu25 rfl (info25 _) ?_)
    | (refine wpList_load_row rfl 25 (.tmp 1) rfl w.heap.size rfl 25 (labA x) (0, 0) _ K0.out hu25 rfl (info25 _) ?_)
    | (refine build1 rfl 56 25 (.tmp 6) rfl (labA x) rfl z hu56 HZ.out s0 s1 ?_)
    | (go_at_call 44; (with_reducible refine (HR.out _ _ _ H2.out).mono ?_); rintro e w4 ⟨rfl, hb'⟩; have HB' := Lib.hid (bel_trans HC.out hb'); have K0 := Lib.hid (blk_below H0.out HB'.out); have K1 := Lib.hid (blk_below H1.out HB'.out); clear hb')
    | (go_at_call 14; (with_reducible refine (HF.out _).mono ?_); rintro e w5 ⟨rfl, hb'⟩; have HB2 := Lib.hid hb'; have K2 := Lib.hid (blk_below K1.out hb'); have K3 := Lib.hid (blk_below K0.out hb'); clear hb')
    | (go_at_call 45; (with_reducible refine (HLV.out _).mono ?_); rintro e w6 ⟨rfl, hb'⟩; have HB3 := Lib.hid (bel_alloc hb' (.cells lv4 80)); have N4 := Lib.hid (heap_alloc_new w6 (.cells lv4 80)); have K4 := Lib.hid (blk_below K2.out HB3.out); have K5 := Lib.hid (blk_below K3.out HB3.out); have hs6 := hb'.size; unfold lv4; unfold lv4 at HB3 N4 K4 K5; clear hb'))
  have BW := Lib.hid (below_then HB.out HB.out.size (below_then HB'.out HB'.out.size (below_then HB2.out HB2.out.size HB3.out)))
  have hne4 : w6.heap.size ≠ w.heap.size + 1 := by have := lt_of_block K2.out; omega
  generalize w6.alloc (.cells #[.int .u8 171, .int .u8 150, .int .u8 90, .int .u8 61] 80) = W at N4 K4 K5 BW ⊢
  generalize w6.heap.size = B4 at N4 hne4 ⊢
  have hau := authN_le x.S
  have hn0 : (0 : Int) ≤ (n : Int) := by omega
  have hn5 : (n : Int) < 4 := by omega
  have hd0 : w.heap.size ≠ w.heap.size + 1 := by omega
  have hDlt : w.heap.size + 1 < W.heap.size := lt_of_block K4.out
  refine wp_region_held_drew (S := fun w' => FrD W (w.heap.size + 1) w') (by kernel_rfl) (FrD.refl _ _).drew (fun hHeld => ?_)
  refine held_take 0 (some 17) (.pointer (some ⟨w.heap.size, 0, none⟩)) rfl rfl (by kernel_rfl) (by kernel_rfl) (by kernel_rfl) (fun _ _ _ h => h) (Or.inl ⟨rfl, fun w' h => by go_simp⟩) hHeld ?_
  simp only [Act.put, List.setIfInBounds_toArray, List.set_cons_zero, List.set_cons_succ]
  refine held_take 1 (some 18) (.int .i64 n) rfl rfl (by kernel_rfl) (by kernel_rfl) (by kernel_rfl) (fun _ _ _ h => h) (Or.inl ⟨rfl, fun w' h => by
    have c := (h.keep K5.out N4.out hn4 HN.out hd0 hne4).1
    go_simp⟩) hHeld ?_
  simp only [Act.put, List.setIfInBounds_toArray, List.set_cons_zero, List.set_cons_succ]
  refine held_take 2 (some 19) (.pointer (some ⟨B4, n, none⟩)) rfl rfl (by kernel_rfl) (by kernel_rfl) (by kernel_rfl) (fun _ _ _ h => h) (Or.inl ⟨rfl, fun w' h => by go_simp⟩) hHeld ?_
  simp only [Act.put, List.setIfInBounds_toArray, List.set_cons_zero, List.set_cons_succ]
  refine held_take 3 (some 20) (.int .u8 (lvb n)) rfl rfl (by kernel_rfl) (by kernel_rfl) (by kernel_rfl) (fun _ _ _ h => h) (Or.inl ⟨rfl, fun w' h => by
    have c := (h.keep K5.out N4.out hn4 HN.out hd0 hne4).2.1
    go_simp⟩) hHeld ?_
  simp only [Act.put, List.setIfInBounds_toArray, List.set_cons_zero, List.set_cons_succ]
  refine held_take 5 (some 22) (.pointer (some ⟨w.heap.size, 1, none⟩)) rfl rfl (by kernel_rfl) (by kernel_rfl) (by kernel_rfl) (fun _ _ _ h => h) (Or.inl ⟨rfl, fun w' h => by go_simp⟩) hHeld ?_
  simp only [Act.put, List.setIfInBounds_toArray, List.set_cons_zero, List.set_cons_succ]
  refine held_take 6 (some 23) (.agg (catA x.S)) rfl rfl (by kernel_rfl) (by kernel_rfl) (by kernel_rfl) (fun _ _ _ h => h) (yieldsIf_load_mid rfl 23 (.tmp 22) rfl w.heap.size 1 rfl (catL x.S) _ (fun w' h => (h.keep K5.out N4.out hn4 HN.out hd0 hne4).2.2) hu23 rfl hi23) hHeld ?_
  simp only [Act.put, List.setIfInBounds_toArray, List.set_cons_zero, List.set_cons_succ]
  refine wpAnyH_ready (rs := [4, 7]) (by kernel_rfl) (by simp) (AllReadyH.cons rfl (fun K hK => ?_) (AllReadyH.cons rfl (fun K hK => ?_) AllReadyH.nil))
  · refine st_val (some 21) (.slice (some ⟨W.heap.size, 0, none⟩) 1 1) (w' := (W.alloc (.cells #[.int .u8 (lvb n)] 5)).drew) rfl rfl (by go_simp) ?_
    refine hK.out _ _ (FrD.of_below (bel_alloc (Below.refl W.heap.size W) _).drew) (fun hHeld => ?_)
    clear hK K
    simp only [Act.put, List.setIfInBounds_toArray, List.set_cons_zero, List.set_cons_succ]
    refine held_call 7 (some 24) 46 #[.agg (catA x.S)] (by kernel_rfl) rfl rfl rfl (by go_simp) ?_
    refine (auth46 x.S hS _).mono ?_
    rintro e w7 ⟨g, rfl, hg, hgb, hb7⟩
    have hb8 : Below W.heap.size W w7 := bel_trans (bel_alloc (Below.refl W.heap.size W) _).drew hb7
    have KX : w7.heap[W.heap.size]? = some (.cells #[.int .u8 (lvb n)] 5 (0, 0)) := blk_drew (heap_alloc_new W _) hb7
    have AU : w7.heap[g]? = some (.cells (bytes (authL x.S)).toArray 5 (0, 0)) := hgb
    refine ⟨_, rfl, FrD.of_below hb8, ?_⟩
    simp only [Act.put, List.setIfInBounds_toArray, List.set_cons_zero, List.set_cons_succ]
    refine held_step 8 _ (by kernel_rfl) rfl (fun K hK => ?_)
    refine step_app W rfl (.tmp 21) (.tmp 24) rfl W.heap.size g (authN x.S) (lvb n) rfl rfl (authL x.S) (authL_len _) (by omega) KX AU hb8 (Nat.le_refl _) (fun g8 cp8 w9 hcv hb9 => ?_)
    show K (Act.put _ (some 25) _) _
    refine hK.out _ _ (FrD.of_below hb9) (fun _ => ?_)
    clear hK K
    simp only [Act.put, List.setIfInBounds_toArray, List.set_cons_zero, List.set_cons_succ]
    refine held_op 9 (some 26) (.string (bs (lvb n :: authL x.S))) (w' := w9) (by kernel_rfl) rfl rfl rfl (by go_simp) (FrD.of_below hb9) ?_
    simp only [Act.put, List.setIfInBounds_toArray, List.set_cons_zero, List.set_cons_succ]
    refine held_op 10 (some 27) (.agg #[.int .i64 130, .string (bs (lvb n :: authL x.S))]) (w' := w9) (by kernel_rfl) rfl rfl rfl (by go_simp) (FrD.of_below hb9) ?_
    simp only [Act.put, List.setIfInBounds_toArray, List.set_cons_zero, List.set_cons_succ]
    have KD := blk_below K4.out hb9
    refine held_skip 11 (w' := (w9.setCell ⟨w.heap.size + 1, 0, none⟩ (.int .i64 130)).setCell ⟨w.heap.size + 1, 1, none⟩ (.string (bs (lvb n :: authL x.S)))) (by kernel_rfl) rfl rfl rfl (by
      have e0 : w9.cell? ⟨w.heap.size + 1, 0, none⟩ = some (.int .i64 0) := cell_of_row _ _ _ _ _ _ KD
      have e1 : w9.cell? ⟨w.heap.size + 1, 1, none⟩ = some (.string ⟨#[]⟩) := cell_of_row _ _ _ _ _ _ KD
      have f0 : w9.frozen? ⟨w.heap.size + 1, 0, none⟩ = false := frozen_of_row _ _ _ _ _ KD
      have f1 : w9.frozen? ⟨w.heap.size + 1, 1, none⟩ = false := frozen_of_row _ _ _ _ _ KD
      clear KD hcv
      go_simp) (((FrD.of_below hb9).set 0 _).set 1 _) ?_
    have KE : ((w9.setCell ⟨w.heap.size + 1, 0, none⟩ (.int .i64 130)).setCell ⟨w.heap.size + 1, 1, none⟩ (.string (bs (lvb n :: authL x.S)))).heap[w.heap.size + 1]? = some (.cells #[.int .i64 130, .string (bs (lvb n :: authL x.S))] 27 (0, 0)) :=
      heap_setCell_same _ _ 1 _ 27 _ (heap_setCell_same _ _ 0 _ 27 _ KD)
    refine held_op 12 (some 3) (.int .i64 0) (w' := (w9.setCell ⟨w.heap.size + 1, 0, none⟩ (.int .i64 130)).setCell ⟨w.heap.size + 1, 1, none⟩ (.string (bs (lvb n :: authL x.S)))) (by kernel_rfl) rfl rfl rfl (by go_simp) (((FrD.of_below hb9).set 0 _).set 1 _) ?_
    refine wpAnyH_done (by kernel_rfl) ?_ _
    simp only [Act.put, List.setIfInBounds_toArray, List.set_cons_zero, List.set_cons_succ]
    have KF := Lib.hid KE
    have BX := Lib.hid (((below_then BW.out BW.out.size hb9).setCell (p := ⟨w.heap.size + 1, 0, none⟩) (by simp) (.int .i64 130)).setCell (p := ⟨w.heap.size + 1, 1, none⟩) (by simp) (.string (bs (lvb n :: authL x.S))))
    clear KE KD hcv
    go_wp2_with fail
    refine bodyPost_ret (results_row_tmp rfl _ _ (w.heap.size + 1) 27 #[.int .i64 130, .string (bs (lvb n :: authL x.S))] (0, 0) _ rfl KF.out hu27 rfl (info27 _ _)) rfl ⟨by rw [HE.out]; rfl, BX.out⟩
  · refine st_call (some 24) 46 #[.agg (catA x.S)] rfl rfl (by go_simp) ?_
    refine (auth46 x.S hS _).mono ?_
    rintro e w7 ⟨g, rfl, hg, hgb, hb7⟩
    have hb6 : Below W.heap.size W w7 := bel_trans (Below.refl W.heap.size W).drew hb7
    refine ⟨_, rfl, ?_⟩
    refine hK.out _ _ (FrD.of_below hb6) (fun hHeld => ?_)
    clear hK K
    simp only [Act.put, List.setIfInBounds_toArray, List.set_cons_zero, List.set_cons_succ]
    refine held_op 4 (some 21) (.slice (some ⟨w7.heap.size, 0, none⟩) 1 1) (w' := w7.alloc (.cells #[.int .u8 (lvb n)] 5)) (by kernel_rfl) rfl rfl rfl (by go_simp) (FrD.of_below (bel_alloc hb6 _)) ?_
    simp only [Act.put, List.setIfInBounds_toArray, List.set_cons_zero, List.set_cons_succ]
    have hb8 : Below W.heap.size W (w7.alloc (.cells #[.int .u8 (lvb n)] 5)) := bel_alloc hb6 _
    have KX : (w7.alloc (.cells #[.int .u8 (lvb n)] 5)).heap[w7.heap.size]? = some (.cells #[.int .u8 (lvb n)] 5 (0, 0)) := heap_alloc_new _ _
    have AU : (w7.alloc (.cells #[.int .u8 (lvb n)] 5)).heap[g]? = some (.cells (bytes (authL x.S)).toArray 5 (0, 0)) := (heap_alloc_old _ _ (lt_of_block hgb)).trans hgb
    refine held_step 8 _ (by kernel_rfl) rfl (fun K hK => ?_)
    refine step_app W rfl (.tmp 21) (.tmp 24) rfl w7.heap.size g (authN x.S) (lvb n) rfl rfl (authL x.S) (authL_len _) (by omega) KX AU hb8 (hb6.size) (fun g8 cp8 w9 hcv hb9 => ?_)
    show K (Act.put _ (some 25) _) _
    refine hK.out _ _ (FrD.of_below hb9) (fun _ => ?_)
    clear hK K
    simp only [Act.put, List.setIfInBounds_toArray, List.set_cons_zero, List.set_cons_succ]
    refine held_op 9 (some 26) (.string (bs (lvb n :: authL x.S))) (w' := w9) (by kernel_rfl) rfl rfl rfl (by go_simp) (FrD.of_below hb9) ?_
    simp only [Act.put, List.setIfInBounds_toArray, List.set_cons_zero, List.set_cons_succ]
    refine held_op 10 (some 27) (.agg #[.int .i64 130, .string (bs (lvb n :: authL x.S))]) (w' := w9) (by kernel_rfl) rfl rfl rfl (by go_simp) (FrD.of_below hb9) ?_
    simp only [Act.put, List.setIfInBounds_toArray, List.set_cons_zero, List.set_cons_succ]
    have KD := blk_below K4.out hb9
    refine held_skip 11 (w' := (w9.setCell ⟨w.heap.size + 1, 0, none⟩ (.int .i64 130)).setCell ⟨w.heap.size + 1, 1, none⟩ (.string (bs (lvb n :: authL x.S)))) (by kernel_rfl) rfl rfl rfl (by
      have e0 : w9.cell? ⟨w.heap.size + 1, 0, none⟩ = some (.int .i64 0) := cell_of_row _ _ _ _ _ _ KD
      have e1 : w9.cell? ⟨w.heap.size + 1, 1, none⟩ = some (.string ⟨#[]⟩) := cell_of_row _ _ _ _ _ _ KD
      have f0 : w9.frozen? ⟨w.heap.size + 1, 0, none⟩ = false := frozen_of_row _ _ _ _ _ KD
      have f1 : w9.frozen? ⟨w.heap.size + 1, 1, none⟩ = false := frozen_of_row _ _ _ _ _ KD
      clear KD hcv
      go_simp) (((FrD.of_below hb9).set 0 _).set 1 _) ?_
    have KE : ((w9.setCell ⟨w.heap.size + 1, 0, none⟩ (.int .i64 130)).setCell ⟨w.heap.size + 1, 1, none⟩ (.string (bs (lvb n :: authL x.S)))).heap[w.heap.size + 1]? = some (.cells #[.int .i64 130, .string (bs (lvb n :: authL x.S))] 27 (0, 0)) :=
      heap_setCell_same _ _ 1 _ 27 _ (heap_setCell_same _ _ 0 _ 27 _ KD)
    refine held_op 12 (some 3) (.int .i64 0) (w' := (w9.setCell ⟨w.heap.size + 1, 0, none⟩ (.int .i64 130)).setCell ⟨w.heap.size + 1, 1, none⟩ (.string (bs (lvb n :: authL x.S)))) (by kernel_rfl) rfl rfl rfl (by go_simp) (((FrD.of_below hb9).set 0 _).set 1 _) ?_
    refine wpAnyH_done (by kernel_rfl) ?_ _
    simp only [Act.put, List.setIfInBounds_toArray, List.set_cons_zero, List.set_cons_succ]
    have KF := Lib.hid KE
    have BX := Lib.hid (((below_then BW.out BW.out.size hb9).setCell (p := ⟨w.heap.size + 1, 0, none⟩) (by simp) (.int .i64 130)).setCell (p := ⟨w.heap.size + 1, 1, none⟩) (by simp) (.string (bs (lvb n :: authL x.S))))
    clear KE KD hcv
    go_wp2_with fail
    refine bodyPost_ret (results_row_tmp rfl _ _ (w.heap.size + 1) 27 #[.int .i64 130, .string (bs (lvb n :: authL x.S))] (0, 0) _ rfl KF.out hu27 rfl (info27 _ _)) rfl ⟨by rw [HE.out]; rfl, BX.out⟩
end Go.Proofs.Ytifmckhabkghcaa.P
