/- DoiTells (walk). -/
import Derived.Test.YtifmckhabkghcaaV9
import Derived.Test.YtifmckhabkghcaaU2
namespace Go.Proofs.Ytifmckhabkghcaa.P
open Go.RowKit
set_option linter.unusedSimpArgs false

set_option maxRecDepth 100000 in
set_option maxHeartbeats 1000000 in
theorem tells8_great (d : Dm) (x : Lab) (w : World) (h : greatB d = true) : Calls Try.prog 8 #[.agg (dmA d), .agg (labA x)] w fun e w' => e = .returned (.bool true) ∧ Below w.heap.size w w' := by
  have hu47 := Try.underlying47
  have HK := Lib.hid awake23
  have HG := Lib.hid (great22 d)
  rw [h] at HG
  have HB := Lib.hid (bel_alloc (bel_alloc (Below.refl w.heap.size w) (.cells (dmA d) 47)) (.cells (labA x) 25))
  clear h
  obtain ⟨num, A1, c1, lv, A2, c2, ct⟩ := d
  unfold dmA at HB HG ⊢
  simp only at HB HG ⊢
  go_enter Try.func8, Try.ntmps8
  go_wp2_with (first
    | (go_at_call 22; refine (HG.out _).mono ?_; rintro e w1 ⟨rfl, hb⟩; have HB1 := Lib.hid (bel_trans HB.out hb); clear hb)
    | (go_at_call 23; refine (HK.out _).mono ?_; rintro e w2 ⟨rfl, hb⟩; have HB2 := Lib.hid (bel_trans HB1.out hb); clear hb))
  go_ret
  exact ⟨rfl, HB2.out⟩
set_option maxRecDepth 100000 in
set_option maxHeartbeats 8000000 in
theorem tells8_ok (d : Dm) (x : Lab) (w : World) (hg : greatB d = false) (h : DmA w d) (hx : x.S < 2 ^ 240) : Calls Try.prog 8 #[.agg (dmA d), .agg (labA x)] w fun e w' => e = .returned (.bool true) ∧ Below w.heap.size w w' := by
  have hu25 := Try.underlying25
  have hu47 := Try.underlying47
  have hu51 := Try.underlying51
  have HK := Lib.hid awake23
  have HG := Lib.hid (great22 d)
  rw [hg] at HG
  obtain ⟨h1, h2⟩ : d.lv.length ≤ 300 ∧ d.ct.length ≤ 300 := by simp [greatB] at hg; exact hg
  have HO := Lib.hid (fun W (hb : Below w.heap.size w W) => out24 d x W (h.below hb) h1 h2)
  have HBk := Lib.hid (fun W (hb : Below w.heap.size w W) => back25 d x W (h.below hb) h1 h2)
  have HTo := Lib.hid (fun W (hb : Below w.heap.size w W) => rtell29o d x W (h.below hb) h1 h2 hx)
  have HTk := Lib.hid (fun W (hb : Below w.heap.size w W) => rtell29k d x W (h.below hb) h1 h2 hx)
  have HTL := Lib.hid (fun W (hb : Below w.heap.size w W) => tells30 d x W (h.below hb) h1 h2)
  have HRT := Lib.hid (fun W (hb : Below w.heap.size w W) => right28one d W (h.below hb) h1 h2)
  have HRR := Lib.hid (fun W (hb : Below w.heap.size w W) => right26 d W (h.below hb) h1 h2)
  have HQ1 := Lib.hid (fun W => eq25 (mvX_wf d x false) (mvX_wf d x false) (mvX_lt d x false) (mvX_lt d x false) W)
  have HQ2 := Lib.hid (fun W => eq25 (mvX_wf d x true) (mvX_wf d x true) (mvX_lt d x true) (mvX_lt d x true) W)
  rw [show decide (mvX d x false = mvX d x false) = true by simp] at HQ1
  rw [show decide (mvX d x true = mvX d x true) = true by simp] at HQ2
  have J0 := Lib.hid (heap_alloc2_old w (.cells (dmA d) 47) (.cells (labA x) 25))
  have J1 := Lib.hid (heap_alloc2_new w (.cells (dmA d) 47) (.cells (labA x) 25))
  have HB := Lib.hid (bel_alloc (bel_alloc (Below.refl w.heap.size w) (.cells (dmA d) 47)) (.cells (labA x) 25))
  clear h hx hg h1 h2
  generalize mvX d x false = X1 at HO HTo HQ1
  generalize mvE d x false = E1 at HO HTo HTL
  generalize mvX d x true = X2 at HBk HTk HQ2
  generalize mvE d x true = E2 at HBk HTk
  generalize rightD d = rd at HRT HRR
  obtain ⟨num, A1, c1, lv, A2, c2, ct⟩ := d
  unfold dmA at HB HG J0 HO HBk HTo HTk HTL HRT HRR ⊢
  unfold dmA at J1
  simp only at HB HG J0 J1 HO HBk HTo HTk HTL HRT HRR ⊢
  have hz : ∃ bz, bz = decide (E1 = 0) := ⟨_, rfl⟩
  obtain ⟨bz, hbz⟩ := hz
  rw [← hbz] at HTL
  have HZ1 := Lib.hid (show decide ((E1 : Int) = 0) = bz by rw [hbz]; simp)
  have HZ2 := Lib.hid (show ((E1 : Int) == 0) = bz by rw [hbz, Bool.eq_iff_iff]; simp)
  clear hbz
  go_enter Try.func8, Try.ntmps8
  go_wp2_with (first
    | (go_at_call 22; refine (HG.out _).mono ?_; rintro e w1 ⟨rfl, hb⟩; have D1 := Lib.hid (blk_below J0.out hb); have Z1 := Lib.hid (blk_below J1.out hb); have HB1 := Lib.hid (bel_trans HB.out hb); have c0 : w1.cell? ⟨w.heap.size, 0, none⟩ = some (.int .u32 num) := cell_of_row _ _ _ _ _ _ D1.out; have c1' : w1.cell? ⟨w.heap.size, 1, none⟩ = some (.slice A1 lv.length c1) := cell_of_row _ _ _ _ _ _ D1.out; have c2' : w1.cell? ⟨w.heap.size, 2, none⟩ = some (.slice A2 ct.length c2) := cell_of_row _ _ _ _ _ _ D1.out; clear hb)
    | (refine wpList_load_row rfl 25 (.tmp 3) rfl (w.heap.size + 1) rfl 25 (labA x) (0, 0) _ Z1.out hu25 rfl (info25 _) ?_)
    | (go_at_call 24; (with_reducible refine (HO.out _ HB1.out).mono ?_); rintro e w2 ⟨rfl, hb⟩; have D2 := Lib.hid ((heap_alloc_old w2 (.cells (labA X1) 25) (lt_of_block (blk_below D1.out hb))).trans (blk_below D1.out hb)); have Z2 := Lib.hid ((heap_alloc_old w2 (.cells (labA X1) 25) (lt_of_block (blk_below Z1.out hb))).trans (blk_below Z1.out hb)); have L1_2 := Lib.hid (heap_alloc_new w2 (.cells (labA X1) 25)); have HB2 := Lib.hid (bel_alloc (bel_trans HB1.out hb) (.cells (labA X1) 25)); have NN2 := Lib.hid (heap_alloc_new w2 (.cells z25 25)); have NA2 := Lib.hid (World.setRow_alloc_new w2 z25 (labA X1) 25); unfold z25 at NN2 NA2; clear hb)
    | (refine wpList_store_row rfl 25 (.tmp 5) (.tmp 20) rfl w2.heap.size (labA X1) rfl rfl 25 z25 NN2.out (info25 _) (by rw [labA_size]; rfl) (all_oneCell_toArray (labL_one _)) ?_; rw [NA2.out]; have c0 : (w2.alloc (.cells (labA X1) 25)).cell? ⟨w.heap.size, 0, none⟩ = some (.int .u32 num) := cell_of_row _ _ _ _ _ _ D2.out; have c1' : (w2.alloc (.cells (labA X1) 25)).cell? ⟨w.heap.size, 1, none⟩ = some (.slice A1 lv.length c1) := cell_of_row _ _ _ _ _ _ D2.out; have c2' : (w2.alloc (.cells (labA X1) 25)).cell? ⟨w.heap.size, 2, none⟩ = some (.slice A2 ct.length c2) := cell_of_row _ _ _ _ _ _ D2.out)
    | (refine wpList_load_row rfl 25 (.tmp 3) rfl (w.heap.size + 1) rfl 25 (labA x) (0, 0) _ Z2.out hu25 rfl (info25 _) ?_)
    | (go_at_call 25; (with_reducible refine (HBk.out _ HB2.out).mono ?_); rintro e w3 ⟨rfl, hb⟩; have D3 := Lib.hid ((heap_alloc_old w3 (.cells (labA X2) 25) (lt_of_block (blk_below D2.out hb))).trans (blk_below D2.out hb)); have Z3 := Lib.hid ((heap_alloc_old w3 (.cells (labA X2) 25) (lt_of_block (blk_below Z2.out hb))).trans (blk_below Z2.out hb)); have L1_3 := Lib.hid ((heap_alloc_old w3 (.cells (labA X2) 25) (lt_of_block (blk_below L1_2.out hb))).trans (blk_below L1_2.out hb)); have L2_3 := Lib.hid (heap_alloc_new w3 (.cells (labA X2) 25)); have HB3 := Lib.hid (bel_alloc (bel_trans HB2.out hb) (.cells (labA X2) 25)); have NN3 := Lib.hid (heap_alloc_new w3 (.cells z25 25)); have NA3 := Lib.hid (World.setRow_alloc_new w3 z25 (labA X2) 25); unfold z25 at NN3 NA3; clear hb)
    | (refine wpList_store_row rfl 25 (.tmp 7) (.tmp 26) rfl w3.heap.size (labA X2) rfl rfl 25 z25 NN3.out (info25 _) (by rw [labA_size]; rfl) (all_oneCell_toArray (labL_one _)) ?_; rw [NA3.out]; have c0 : (w3.alloc (.cells (labA X2) 25)).cell? ⟨w.heap.size, 0, none⟩ = some (.int .u32 num) := cell_of_row _ _ _ _ _ _ D3.out; have c1' : (w3.alloc (.cells (labA X2) 25)).cell? ⟨w.heap.size, 1, none⟩ = some (.slice A1 lv.length c1) := cell_of_row _ _ _ _ _ _ D3.out; have c2' : (w3.alloc (.cells (labA X2) 25)).cell? ⟨w.heap.size, 2, none⟩ = some (.slice A2 ct.length c2) := cell_of_row _ _ _ _ _ _ D3.out)
    | (refine wpList_load_row rfl 25 (.tmp 3) rfl (w.heap.size + 1) rfl 25 (labA x) (0, 0) _ Z3.out hu25 rfl (info25 _) ?_)
    | (go_at_call 29; (with_reducible refine (HTo.out _ HB3.out).mono ?_); rintro e w4 ⟨rfl, hb⟩; have D4 := Lib.hid ((heap_alloc_old w4 (.cells (labA X1) 25) (lt_of_block (blk_below D3.out hb))).trans (blk_below D3.out hb)); have Z4 := Lib.hid ((heap_alloc_old w4 (.cells (labA X1) 25) (lt_of_block (blk_below Z3.out hb))).trans (blk_below Z3.out hb)); have L1_4 := Lib.hid ((heap_alloc_old w4 (.cells (labA X1) 25) (lt_of_block (blk_below L1_3.out hb))).trans (blk_below L1_3.out hb)); have L2_4 := Lib.hid ((heap_alloc_old w4 (.cells (labA X1) 25) (lt_of_block (blk_below L2_3.out hb))).trans (blk_below L2_3.out hb)); have L3_4 := Lib.hid (heap_alloc_new w4 (.cells (labA X1) 25)); have HB4 := Lib.hid (bel_alloc (bel_trans HB3.out hb) (.cells (labA X1) 25)); have NN4 := Lib.hid (heap_alloc_new w4 (.cells z25 25)); have NA4 := Lib.hid (World.setRow_alloc_new w4 z25 (labA X1) 25); unfold z25 at NN4 NA4; clear hb)
    | (refine wpList_store_row rfl 25 (.tmp 9) (.tmp 32) rfl w4.heap.size (labA X1) rfl rfl 25 z25 NN4.out (info25 _) (by rw [labA_size]; rfl) (all_oneCell_toArray (labL_one _)) ?_; rw [NA4.out]; have c0 : (w4.alloc (.cells (labA X1) 25)).cell? ⟨w.heap.size, 0, none⟩ = some (.int .u32 num) := cell_of_row _ _ _ _ _ _ D4.out; have c1' : (w4.alloc (.cells (labA X1) 25)).cell? ⟨w.heap.size, 1, none⟩ = some (.slice A1 lv.length c1) := cell_of_row _ _ _ _ _ _ D4.out; have c2' : (w4.alloc (.cells (labA X1) 25)).cell? ⟨w.heap.size, 2, none⟩ = some (.slice A2 ct.length c2) := cell_of_row _ _ _ _ _ _ D4.out)
    | (refine wpList_load_row rfl 25 (.tmp 3) rfl (w.heap.size + 1) rfl 25 (labA x) (0, 0) _ Z4.out hu25 rfl (info25 _) ?_)
    | (go_at_call 29; (with_reducible refine (HTk.out _ HB4.out).mono ?_); rintro e w5 ⟨rfl, hb⟩; have D5 := Lib.hid ((heap_alloc_old w5 (.cells (labA X2) 25) (lt_of_block (blk_below D4.out hb))).trans (blk_below D4.out hb)); have Z5 := Lib.hid ((heap_alloc_old w5 (.cells (labA X2) 25) (lt_of_block (blk_below Z4.out hb))).trans (blk_below Z4.out hb)); have L1_5 := Lib.hid ((heap_alloc_old w5 (.cells (labA X2) 25) (lt_of_block (blk_below L1_4.out hb))).trans (blk_below L1_4.out hb)); have L2_5 := Lib.hid ((heap_alloc_old w5 (.cells (labA X2) 25) (lt_of_block (blk_below L2_4.out hb))).trans (blk_below L2_4.out hb)); have L3_5 := Lib.hid ((heap_alloc_old w5 (.cells (labA X2) 25) (lt_of_block (blk_below L3_4.out hb))).trans (blk_below L3_4.out hb)); have L4_5 := Lib.hid (heap_alloc_new w5 (.cells (labA X2) 25)); have HB5 := Lib.hid (bel_alloc (bel_trans HB4.out hb) (.cells (labA X2) 25)); have NN5 := Lib.hid (heap_alloc_new w5 (.cells z25 25)); have NA5 := Lib.hid (World.setRow_alloc_new w5 z25 (labA X2) 25); unfold z25 at NN5 NA5; clear hb)
    | (refine wpList_store_row rfl 25 (.tmp 11) (.tmp 38) rfl w5.heap.size (labA X2) rfl rfl 25 z25 NN5.out (info25 _) (by rw [labA_size]; rfl) (all_oneCell_toArray (labL_one _)) ?_; rw [NA5.out]; have c0 : (w5.alloc (.cells (labA X2) 25)).cell? ⟨w.heap.size, 0, none⟩ = some (.int .u32 num) := cell_of_row _ _ _ _ _ _ D5.out; have c1' : (w5.alloc (.cells (labA X2) 25)).cell? ⟨w.heap.size, 1, none⟩ = some (.slice A1 lv.length c1) := cell_of_row _ _ _ _ _ _ D5.out; have c2' : (w5.alloc (.cells (labA X2) 25)).cell? ⟨w.heap.size, 2, none⟩ = some (.slice A2 ct.length c2) := cell_of_row _ _ _ _ _ _ D5.out))
  clear c0 c1' c2'
  generalize hL1 : w2.heap.size = L1 at L1_5 ⊢
  generalize hL2 : w3.heap.size = L2 at L2_5 ⊢
  generalize hL3 : w4.heap.size = L3 at L3_5 ⊢
  generalize hL4 : w5.heap.size = L4 at L4_5 ⊢
  clear hL1 hL2 hL3 hL4
  generalize w5.alloc (.cells (labA X2) 25) = W at D5 Z5 L1_5 L2_5 L3_5 L4_5 HB5 ⊢
  have BW0 := HB5
  have cD0 : W.cell? ⟨w.heap.size, 0, none⟩ = some (.int .u32 num) := cell_of_row _ _ _ _ _ _ D5.out
  have cD1 : W.cell? ⟨w.heap.size, 1, none⟩ = some (.slice A1 lv.length c1) := cell_of_row _ _ _ _ _ _ D5.out
  have cD2 : W.cell? ⟨w.heap.size, 2, none⟩ = some (.slice A2 ct.length c2) := cell_of_row _ _ _ _ _ _ D5.out
  have sD := lt_of_block D5.out
  have sX := lt_of_block Z5.out
  have s1 := lt_of_block L1_5.out
  have s2 := lt_of_block L2_5.out
  have s3 := lt_of_block L3_5.out
  have s4 := lt_of_block L4_5.out
  have RX := Lib.hid (range_lab Z5.out)
  have R1 := Lib.hid (range_lab L1_5.out)
  have R2 := Lib.hid (range_lab L2_5.out)
  have R3 := Lib.hid (range_lab L3_5.out)
  have R4 := Lib.hid (range_lab L4_5.out)
  clear D5 Z5 L1_5 L2_5 L3_5 L4_5 HG HO HBk HTo HTk J0 J1 HB
  refine wp_region_held_drew (S := fun w' => Below W.heap.size W w') (by kernel_rfl) (Below.refl _ _).drew (fun hHeld => ?_)
  refine held_take 0 (some 40) (.agg (labA X1)) rfl rfl (by kernel_rfl) (by kernel_rfl) (by kernel_rfl) (fun _ _ _ h => h) (yieldsIf_load_mid rfl 25 (.tmp 5) rfl L1 0 rfl (labL X1) _ (fun w' h => range_below R1.out s1 h) hu25 rfl (info25L X1)) hHeld ?_
  simp only [Act.put, List.setIfInBounds_toArray, List.set_cons_zero, List.set_cons_succ]
  refine held_take 1 (some 41) (.agg (labA X1)) rfl rfl (by kernel_rfl) (by kernel_rfl) (by kernel_rfl) (fun _ _ _ h => h) (yieldsIf_load_mid rfl 25 (.tmp 9) rfl L3 0 rfl (labL X1) _ (fun w' h => range_below R3.out s3 h) hu25 rfl (info25L X1)) hHeld ?_
  simp only [Act.put, List.setIfInBounds_toArray, List.set_cons_zero, List.set_cons_succ]
  refine held_take 2 (some 42) (.bool true) rfl rfl (by kernel_rfl) (by kernel_rfl) (by kernel_rfl) (fun _ _ _ h => h) (Or.inl ⟨rfl, fun w' h => by
    have q1 := HQ1.out
    have q2 := gd25
    go_simp⟩) hHeld ?_
  simp only [Act.put, List.setIfInBounds_toArray, List.set_cons_zero, List.set_cons_succ]
  refine held_take 3 (some 43) (.bool true) rfl rfl (by kernel_rfl) (by kernel_rfl) (by kernel_rfl) (fun _ _ _ h => h) (Or.inl ⟨rfl, fun w' h => by
    go_simp⟩) hHeld ?_
  simp only [Act.put, List.setIfInBounds_toArray, List.set_cons_zero, List.set_cons_succ]
  refine held_take 4 (some 44) (.int .i64 E1) rfl rfl (by kernel_rfl) (by kernel_rfl) (by kernel_rfl) (fun _ _ _ h => h) (Or.inl ⟨rfl, fun w' h => by
    go_simp⟩) hHeld ?_
  simp only [Act.put, List.setIfInBounds_toArray, List.set_cons_zero, List.set_cons_succ]
  refine held_take 5 (some 45) (.int .i64 E1) rfl rfl (by kernel_rfl) (by kernel_rfl) (by kernel_rfl) (fun _ _ _ h => h) (Or.inl ⟨rfl, fun w' h => by
    go_simp⟩) hHeld ?_
  simp only [Act.put, List.setIfInBounds_toArray, List.set_cons_zero, List.set_cons_succ]
  refine held_take 6 (some 46) (.bool true) rfl rfl (by kernel_rfl) (by kernel_rfl) (by kernel_rfl) (fun _ _ _ h => h) (Or.inl ⟨rfl, fun w' h => by
    go_simp⟩) hHeld ?_
  simp only [Act.put, List.setIfInBounds_toArray, List.set_cons_zero, List.set_cons_succ]
  refine held_take 7 (some 47) (.bool true) rfl rfl (by kernel_rfl) (by kernel_rfl) (by kernel_rfl) (fun _ _ _ h => h) (Or.inl ⟨rfl, fun w' h => by
    go_simp⟩) hHeld ?_
  simp only [Act.put, List.setIfInBounds_toArray, List.set_cons_zero, List.set_cons_succ]
  refine held_take 8 (some 48) (.bool true) rfl rfl (by kernel_rfl) (by kernel_rfl) (by kernel_rfl) (fun _ _ _ h => h) (Or.inl ⟨rfl, fun w' h => by
    go_simp⟩) hHeld ?_
  simp only [Act.put, List.setIfInBounds_toArray, List.set_cons_zero, List.set_cons_succ]
  refine held_take 9 (some 49) (.agg (labA X2)) rfl rfl (by kernel_rfl) (by kernel_rfl) (by kernel_rfl) (fun _ _ _ h => h) (yieldsIf_load_mid rfl 25 (.tmp 7) rfl L2 0 rfl (labL X2) _ (fun w' h => range_below R2.out s2 h) hu25 rfl (info25L X2)) hHeld ?_
  simp only [Act.put, List.setIfInBounds_toArray, List.set_cons_zero, List.set_cons_succ]
  refine held_take 10 (some 50) (.agg (labA X2)) rfl rfl (by kernel_rfl) (by kernel_rfl) (by kernel_rfl) (fun _ _ _ h => h) (yieldsIf_load_mid rfl 25 (.tmp 11) rfl L4 0 rfl (labL X2) _ (fun w' h => range_below R4.out s4 h) hu25 rfl (info25L X2)) hHeld ?_
  simp only [Act.put, List.setIfInBounds_toArray, List.set_cons_zero, List.set_cons_succ]
  refine held_take 11 (some 51) (.bool true) rfl rfl (by kernel_rfl) (by kernel_rfl) (by kernel_rfl) (fun _ _ _ h => h) (Or.inl ⟨rfl, fun w' h => by
    have q1 := HQ2.out
    have q2 := gd25
    go_simp⟩) hHeld ?_
  simp only [Act.put, List.setIfInBounds_toArray, List.set_cons_zero, List.set_cons_succ]
  refine held_take 12 (some 52) (.bool true) rfl rfl (by kernel_rfl) (by kernel_rfl) (by kernel_rfl) (fun _ _ _ h => h) (Or.inl ⟨rfl, fun w' h => by
    go_simp⟩) hHeld ?_
  simp only [Act.put, List.setIfInBounds_toArray, List.set_cons_zero, List.set_cons_succ]
  refine held_take 13 (some 53) (.bool true) rfl rfl (by kernel_rfl) (by kernel_rfl) (by kernel_rfl) (fun _ _ _ h => h) (Or.inl ⟨rfl, fun w' h => by
    go_simp⟩) hHeld ?_
  simp only [Act.put, List.setIfInBounds_toArray, List.set_cons_zero, List.set_cons_succ]
  refine held_take 14 (some 54) (.int .i64 E2) rfl rfl (by kernel_rfl) (by kernel_rfl) (by kernel_rfl) (fun _ _ _ h => h) (Or.inl ⟨rfl, fun w' h => by
    go_simp⟩) hHeld ?_
  simp only [Act.put, List.setIfInBounds_toArray, List.set_cons_zero, List.set_cons_succ]
  refine held_take 15 (some 55) (.int .i64 E2) rfl rfl (by kernel_rfl) (by kernel_rfl) (by kernel_rfl) (fun _ _ _ h => h) (Or.inl ⟨rfl, fun w' h => by
    go_simp⟩) hHeld ?_
  simp only [Act.put, List.setIfInBounds_toArray, List.set_cons_zero, List.set_cons_succ]
  refine held_take 16 (some 56) (.bool true) rfl rfl (by kernel_rfl) (by kernel_rfl) (by kernel_rfl) (fun _ _ _ h => h) (Or.inl ⟨rfl, fun w' h => by
    go_simp⟩) hHeld ?_
  simp only [Act.put, List.setIfInBounds_toArray, List.set_cons_zero, List.set_cons_succ]
  refine held_take 17 (some 57) (.bool true) rfl rfl (by kernel_rfl) (by kernel_rfl) (by kernel_rfl) (fun _ _ _ h => h) (Or.inl ⟨rfl, fun w' h => by
    go_simp⟩) hHeld ?_
  simp only [Act.put, List.setIfInBounds_toArray, List.set_cons_zero, List.set_cons_succ]
  refine held_take 18 (some 58) (.bool true) rfl rfl (by kernel_rfl) (by kernel_rfl) (by kernel_rfl) (fun _ _ _ h => h) (Or.inl ⟨rfl, fun w' h => by
    go_simp⟩) hHeld ?_
  simp only [Act.put, List.setIfInBounds_toArray, List.set_cons_zero, List.set_cons_succ]
  refine held_take 19 (some 59) (.agg #[.int .u32 num, .slice A1 lv.length c1, .slice A2 ct.length c2]) rfl rfl (by kernel_rfl) (by kernel_rfl) (by kernel_rfl) (fun _ _ _ h => h) (Or.inl ⟨rfl, fun w' h => by
    have c0 := (h.cell (p := ⟨w.heap.size, 0, none⟩) sD).trans cD0
    have c1 := (h.cell (p := ⟨w.heap.size, 1, none⟩) sD).trans cD1
    have c2 := (h.cell (p := ⟨w.heap.size, 2, none⟩) sD).trans cD2
    go_simp⟩) hHeld ?_
  simp only [Act.put, List.setIfInBounds_toArray, List.set_cons_zero, List.set_cons_succ]
  refine held_take 20 (some 60) (.agg (labA x)) rfl rfl (by kernel_rfl) (by kernel_rfl) (by kernel_rfl) (fun _ _ _ h => h) (yieldsIf_load_mid rfl 25 (.tmp 3) rfl (w.heap.size + 1) 0 rfl (labL x) _ (fun w' h => range_below RX.out sX h) hu25 rfl (info25L x)) hHeld ?_
  simp only [Act.put, List.setIfInBounds_toArray, List.set_cons_zero, List.set_cons_succ]
  refine held_take 22 (some 62) (.int .i64 E1) rfl rfl (by kernel_rfl) (by kernel_rfl) (by kernel_rfl) (fun _ _ _ h => h) (Or.inl ⟨rfl, fun w' h => by
    go_simp⟩) hHeld ?_
  simp only [Act.put, List.setIfInBounds_toArray, List.set_cons_zero, List.set_cons_succ]
  refine held_take 23 (some 63) (.bool bz) rfl rfl (by kernel_rfl) (by kernel_rfl) (by kernel_rfl) (fun _ _ _ h => h) (Or.inl ⟨rfl, fun w' h => by
    have z1 := HZ1.out
    have z2 := HZ2.out
    go_simp⟩) hHeld ?_
  simp only [Act.put, List.setIfInBounds_toArray, List.set_cons_zero, List.set_cons_succ]
  refine held_call 21 (some 61) 30 #[.agg #[.int .u32 num, .slice A1 lv.length c1, .slice A2 ct.length c2], .agg (labA x)] (by kernel_rfl) rfl rfl rfl (by go_simp) ?_
  refine (HTL.out _ (below_then BW0.out BW0.out.size hHeld)).mono ?_
  rintro e w1 ⟨rfl, hb⟩
  have hHeld := bel_trans hHeld hb
  refine ⟨_, rfl, hHeld, ?_⟩
  simp only [Act.put, List.setIfInBounds_toArray, List.set_cons_zero, List.set_cons_succ]
  refine held_take 24 (some 64) (.bool true) rfl rfl (by kernel_rfl) (by kernel_rfl) (by kernel_rfl) (fun _ _ _ h => h) (Or.inl ⟨rfl, fun w' h => by
    go_simp⟩) hHeld ?_
  simp only [Act.put, List.setIfInBounds_toArray, List.set_cons_zero, List.set_cons_succ]
  refine held_take 25 (some 65) (.bool true) rfl rfl (by kernel_rfl) (by kernel_rfl) (by kernel_rfl) (fun _ _ _ h => h) (Or.inl ⟨rfl, fun w' h => by
    go_simp⟩) hHeld ?_
  simp only [Act.put, List.setIfInBounds_toArray, List.set_cons_zero, List.set_cons_succ]
  refine held_take 26 (some 66) (.bool true) rfl rfl (by kernel_rfl) (by kernel_rfl) (by kernel_rfl) (fun _ _ _ h => h) (Or.inl ⟨rfl, fun w' h => by
    go_simp⟩) hHeld ?_
  simp only [Act.put, List.setIfInBounds_toArray, List.set_cons_zero, List.set_cons_succ]
  refine held_take 27 (some 67) (.agg #[.int .u32 num, .slice A1 lv.length c1, .slice A2 ct.length c2]) rfl rfl (by kernel_rfl) (by kernel_rfl) (by kernel_rfl) (fun _ _ _ h => h) (Or.inl ⟨rfl, fun w' h => by
    have c0 := (h.cell (p := ⟨w.heap.size, 0, none⟩) sD).trans cD0
    have c1 := (h.cell (p := ⟨w.heap.size, 1, none⟩) sD).trans cD1
    have c2 := (h.cell (p := ⟨w.heap.size, 2, none⟩) sD).trans cD2
    go_simp⟩) hHeld ?_
  simp only [Act.put, List.setIfInBounds_toArray, List.set_cons_zero, List.set_cons_succ]
  refine held_take 30 (some 70) (.agg #[.int .u32 num, .slice A1 lv.length c1, .slice A2 ct.length c2]) rfl rfl (by kernel_rfl) (by kernel_rfl) (by kernel_rfl) (fun _ _ _ h => h) (Or.inl ⟨rfl, fun w' h => by
    have c0 := (h.cell (p := ⟨w.heap.size, 0, none⟩) sD).trans cD0
    have c1 := (h.cell (p := ⟨w.heap.size, 1, none⟩) sD).trans cD1
    have c2 := (h.cell (p := ⟨w.heap.size, 2, none⟩) sD).trans cD2
    go_simp⟩) hHeld ?_
  simp only [Act.put, List.setIfInBounds_toArray, List.set_cons_zero, List.set_cons_succ]
  refine held_op 28 (some 68) (.slice (some ⟨w1.heap.size, 0, none⟩) 1 1) (w' := w1.alloc (.cells #[.int .u32 num, .slice A1 lv.length c1, .slice A2 ct.length c2] 47)) (by kernel_rfl) rfl rfl rfl (by go_simp) (bel_alloc hHeld _) ?_
  simp only [Act.put, List.setIfInBounds_toArray, List.set_cons_zero, List.set_cons_succ]
  have hHeld1 := hHeld
  have hHeld : Below W.heap.size W (w1.alloc (.cells #[.int .u32 num, .slice A1 lv.length c1, .slice A2 ct.length c2] 47)) := bel_alloc hHeld _
  refine held_call 29 (some 69) 28 #[.slice (some ⟨w1.heap.size, 0, none⟩) 1 1] (by kernel_rfl) rfl rfl rfl (by go_simp) ?_
  refine (HRT.out w1 (below_then BW0.out BW0.out.size hHeld1)).mono ?_
  rintro e w2 ⟨rfl, hb⟩
  have hHeld := bel_trans hHeld hb
  refine ⟨_, rfl, hHeld, ?_⟩
  simp only [Act.put, List.setIfInBounds_toArray, List.set_cons_zero, List.set_cons_succ]
  refine held_call 31 (some 71) 26 #[.agg #[.int .u32 num, .slice A1 lv.length c1, .slice A2 ct.length c2]] (by kernel_rfl) rfl rfl rfl (by go_simp) ?_
  refine (HRR.out w2 (below_then BW0.out BW0.out.size hHeld)).mono ?_
  rintro e w3 ⟨rfl, hb⟩
  have hHeld := bel_trans hHeld hb
  refine ⟨_, rfl, hHeld, ?_⟩
  simp only [Act.put, List.setIfInBounds_toArray, List.set_cons_zero, List.set_cons_succ]
  refine held_take 32 (some 72) (.bool true) rfl rfl (by kernel_rfl) (by kernel_rfl) (by kernel_rfl) (fun _ _ _ h => h) (Or.inl ⟨rfl, fun w' h => by
    go_simp⟩) hHeld ?_
  simp only [Act.put, List.setIfInBounds_toArray, List.set_cons_zero, List.set_cons_succ]
  refine held_take 33 (some 73) (.bool true) rfl rfl (by kernel_rfl) (by kernel_rfl) (by kernel_rfl) (fun _ _ _ h => h) (Or.inl ⟨rfl, fun w' h => by
    go_simp⟩) hHeld ?_
  simp only [Act.put, List.setIfInBounds_toArray, List.set_cons_zero, List.set_cons_succ]
  refine held_take 34 (some 74) (.bool true) rfl rfl (by kernel_rfl) (by kernel_rfl) (by kernel_rfl) (fun _ _ _ h => h) (Or.inl ⟨rfl, fun w' h => by
    go_simp⟩) hHeld ?_
  simp only [Act.put, List.setIfInBounds_toArray, List.set_cons_zero, List.set_cons_succ]
  refine held_call 35 (some 75) 23 #[] (by kernel_rfl) rfl rfl rfl (by go_simp) ?_
  refine (HK.out _).mono ?_
  rintro e w4 ⟨rfl, hb⟩
  have hHeld := bel_trans hHeld hb
  refine ⟨_, rfl, hHeld, ?_⟩
  simp only [Act.put, List.setIfInBounds_toArray, List.set_cons_zero, List.set_cons_succ]
  refine held_take 36 (some 76) (.bool true) rfl rfl (by kernel_rfl) (by kernel_rfl) (by kernel_rfl) (fun _ _ _ h => h) (Or.inl ⟨rfl, fun w' h => by
    go_simp⟩) hHeld ?_
  simp only [Act.put, List.setIfInBounds_toArray, List.set_cons_zero, List.set_cons_succ]
  refine held_op 37 (some 4) (.bool true) (w' := w4) (by kernel_rfl) rfl rfl rfl (by go_simp) hHeld ?_
  refine wpAnyH_done (by kernel_rfl) ?_ _
  simp only [Act.put, List.setIfInBounds_toArray, List.set_cons_zero, List.set_cons_succ]
  go_wp2_with fail
  go_ret
  exact ⟨rfl, below_then BW0.out BW0.out.size hHeld⟩
theorem tells8 (d : Dm) (x : Lab) (w : World) (h : DmA w d) (hx : x.S < 2 ^ 240) : Calls Try.prog 8 #[.agg (dmA d), .agg (labA x)] w fun e w' => e = .returned (.bool true) ∧ Below w.heap.size w w' := by
  cases hg : greatB d with
  | true => exact tells8_great d x w hg
  | false => exact tells8_ok d x w hg h hx
end Go.Proofs.Ytifmckhabkghcaa.P
