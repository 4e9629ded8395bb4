/- DoiBack (walk). -/
import Derived.Test.YtifmckhabkghcaaV10
namespace Go.Proofs.Ytifmckhabkghcaa.P
open Go.RowKit
set_option linter.unusedSimpArgs false

set_option maxRecDepth 100000 in
set_option maxHeartbeats 1000000 in
theorem back6_great (d : Dm) (x : Lab) (w : World) (h : greatB d = true) : Calls Try.prog 6 #[.agg (dmA d), .agg (labA x)] w fun e w' => e = .returned (.bool true) ∧ Below w.heap.size w w' := by
  have hu47 := Try.underlying47
  have HK := Lib.hid awake23
  have HG := Lib.hid (great22 d)
  rw [h] at HG
  have HB := Lib.hid (bel_alloc (bel_alloc (Below.refl w.heap.size w) (.cells (dmA d) 47)) (.cells (labA x) 25))
  clear h
  obtain ⟨num, A1, c1, lv, A2, c2, ct⟩ := d
  unfold dmA at HB HG ⊢
  simp only at HB HG ⊢
  go_enter Try.func6, Try.ntmps6
  go_wp2_with (first
    | (go_at_call 22; refine (HG.out _).mono ?_; rintro e w1 ⟨rfl, hb⟩; have HB1 := Lib.hid (bel_trans HB.out hb); clear hb)
    | (go_at_call 23; refine (HK.out _).mono ?_; rintro e w2 ⟨rfl, hb⟩; have HB2 := Lib.hid (bel_trans HB1.out hb); clear hb))
  go_ret
  exact ⟨rfl, HB2.out⟩
set_option maxRecDepth 100000 in
set_option maxHeartbeats 8000000 in
theorem back6_ok (d : Dm) (x : Lab) (w : World) (hg : greatB d = false) (h : DmA w d) (hw : (Lit.int .i64 x.lv).wf = true) (hx : x.S < 2 ^ 240) : Calls Try.prog 6 #[.agg (dmA d), .agg (labA x)] w fun e w' => e = .returned (.bool true) ∧ Below w.heap.size w w' := by
  have hu25 := Try.underlying25
  have hu47 := Try.underlying47
  have HK := Lib.hid awake23
  have HG := Lib.hid (great22 d)
  rw [hg] at HG
  obtain ⟨h1, h2⟩ : d.lv.length ≤ 300 ∧ d.ct.length ≤ 300 := by simp [greatB] at hg; exact hg
  have HO := Lib.hid (fun W (hb : Below w.heap.size w W) => out24 d x W (h.below hb) h1 h2)
  have HBk := Lib.hid (fun W (hb : Below w.heap.size w W) => back25 d x W (h.below hb) h1 h2)
  have HB1k := Lib.hid (show mvE d x false = 0 → ∀ W, Below w.heap.size w W → Calls Try.prog 25 #[.agg (dmA d), .agg (labA (mvX d x false))] W fun e w' => e = .returned (.tuple #[.agg (labA x), .int .i64 0]) ∧ Below W.heap.size W w' from fun he W hb => by
    have hh := back25 d (mvX d x false) W (h.below hb) h1 h2
    have e := mv_back hx he
    rw [Bool.not_false] at e
    rw [e.1, e.2] at hh
    exact hh)
  have HO2 := Lib.hid (show mvE d x true = 0 → ∀ W, Below w.heap.size w W → Calls Try.prog 24 #[.agg (dmA d), .agg (labA (mvX d x true))] W fun e w' => e = .returned (.tuple #[.agg (labA x), .int .i64 0]) ∧ Below W.heap.size W w' from fun he W hb => by
    have hh := out24 d (mvX d x true) W (h.below hb) h1 h2
    have e := mv_back hx he
    rw [Bool.not_true] at e
    rw [e.1, e.2] at hh
    exact hh)
  have heq := eq25 hw hw hx hx
  rw [show decide (x = x) = true by simp] at heq
  have hgd := gd25
  have J0 := Lib.hid (heap_alloc2_old w (.cells (dmA d) 47) (.cells (labA x) 25))
  have J1 := Lib.hid (heap_alloc2_new w (.cells (dmA d) 47) (.cells (labA x) 25))
  have HB := Lib.hid (bel_alloc (bel_alloc (Below.refl w.heap.size w) (.cells (dmA d) 47)) (.cells (labA x) 25))
  clear h hx hw hg h1 h2
  generalize mvX d x false = X1 at HO HB1k
  generalize mvE d x false = E1 at HO HB1k
  generalize mvX d x true = X2 at HBk HO2
  generalize mvE d x true = E2 at HBk HO2
  obtain ⟨num, A1, c1, lv, A2, c2, ct⟩ := d
  unfold dmA at HB HG J0 J1 HO HBk HB1k HO2 ⊢
  simp only at HB HG J0 J1 HO HBk HB1k HO2 ⊢
  by_cases he1 : E1 = 0
  · subst he1
    have HB1q := Lib.hid (HB1k.out rfl)
    clear HB1k
    by_cases he2 : E2 = 0
    · subst he2
      have HO2q := Lib.hid (HO2.out rfl)
      clear HO2
      go_enter Try.func6, Try.ntmps6
      go_wp2_with (first
        | (go_at_call 22; refine (HG.out _).mono ?_; rintro e w1 ⟨rfl, hb⟩; have D1 := Lib.hid (blk_below J0.out hb); have Z1 := Lib.hid (blk_below J1.out hb); have HB1 := Lib.hid (bel_trans HB.out hb); have c0 : w1.cell? ⟨w.heap.size, 0, none⟩ = some (.int .u32 num) := cell_of_row _ _ _ _ _ _ D1.out; have c1' : w1.cell? ⟨w.heap.size, 1, none⟩ = some (.slice A1 lv.length c1) := cell_of_row _ _ _ _ _ _ D1.out; have c2' : w1.cell? ⟨w.heap.size, 2, none⟩ = some (.slice A2 ct.length c2) := cell_of_row _ _ _ _ _ _ D1.out; clear hb)
        | (refine wpList_load_row rfl 25 (.tmp 3) rfl (w.heap.size + 1) rfl 25 (labA x) (0, 0) _ Z1.out hu25 rfl (info25 _) ?_)
        | (go_at_call 24; (with_reducible refine (HO.out _ HB1.out).mono ?_); rintro e w2 ⟨rfl, hb⟩; have D2 := Lib.hid ((heap_alloc_old w2 (.cells (labA X1) 25) (lt_of_block (blk_below D1.out hb))).trans (blk_below D1.out hb)); have Z2 := Lib.hid ((heap_alloc_old w2 (.cells (labA X1) 25) (lt_of_block (blk_below Z1.out hb))).trans (blk_below Z1.out hb)); have La2 := Lib.hid (heap_alloc_new w2 (.cells (labA X1) 25)); have HB2 := Lib.hid (bel_alloc (bel_trans HB1.out hb) (.cells (labA X1) 25)); have NN2 := Lib.hid (heap_alloc_new w2 (.cells z25 25)); have NA2 := Lib.hid (World.setRow_alloc_new w2 z25 (labA X1) 25); unfold z25 at NN2 NA2; clear hb)
        | (refine wpList_store_row rfl 25 (.tmp 5) (.tmp 20) rfl w2.heap.size (labA X1) rfl rfl 25 z25 NN2.out (info25 _) (by rw [labA_size]; rfl) (all_oneCell_toArray (labL_one _)) ?_; rw [NA2.out]; have c0 : (w2.alloc (.cells (labA X1) 25)).cell? ⟨w.heap.size, 0, none⟩ = some (.int .u32 num) := cell_of_row _ _ _ _ _ _ D2.out; have c1' : (w2.alloc (.cells (labA X1) 25)).cell? ⟨w.heap.size, 1, none⟩ = some (.slice A1 lv.length c1) := cell_of_row _ _ _ _ _ _ D2.out; have c2' : (w2.alloc (.cells (labA X1) 25)).cell? ⟨w.heap.size, 2, none⟩ = some (.slice A2 ct.length c2) := cell_of_row _ _ _ _ _ _ D2.out)
        | (refine wpList_load_row rfl 25 (.tmp 5) rfl w2.heap.size rfl 25 (labA X1) (0, 0) _ La2.out hu25 rfl (info25 _) ?_)
        | (go_at_call 25; (with_reducible refine (HB1q.out _ HB2.out).mono ?_); rintro e w3 ⟨rfl, hb⟩; have D3 := Lib.hid ((heap_alloc_old w3 (.cells (labA x) 25) (lt_of_block (blk_below D2.out hb))).trans (blk_below D2.out hb)); have Z3 := Lib.hid ((heap_alloc_old w3 (.cells (labA x) 25) (lt_of_block (blk_below Z2.out hb))).trans (blk_below Z2.out hb)); have La3 := Lib.hid ((heap_alloc_old w3 (.cells (labA x) 25) (lt_of_block (blk_below La2.out hb))).trans (blk_below La2.out hb)); have Lb3 := Lib.hid (heap_alloc_new w3 (.cells (labA x) 25)); have HB3 := Lib.hid (bel_alloc (bel_trans HB2.out hb) (.cells (labA x) 25)); have NN3 := Lib.hid (heap_alloc_new w3 (.cells z25 25)); have NA3 := Lib.hid (World.setRow_alloc_new w3 z25 (labA x) 25); unfold z25 at NN3 NA3; clear hb)
        | (refine wpList_store_row rfl 25 (.tmp 7) (.tmp 28) rfl w3.heap.size (labA x) rfl rfl 25 z25 NN3.out (info25 _) (by rw [labA_size]; rfl) (all_oneCell_toArray (labL_one _)) ?_; rw [NA3.out]; have c0 : (w3.alloc (.cells (labA x) 25)).cell? ⟨w.heap.size, 0, none⟩ = some (.int .u32 num) := cell_of_row _ _ _ _ _ _ D3.out; have c1' : (w3.alloc (.cells (labA x) 25)).cell? ⟨w.heap.size, 1, none⟩ = some (.slice A1 lv.length c1) := cell_of_row _ _ _ _ _ _ D3.out; have c2' : (w3.alloc (.cells (labA x) 25)).cell? ⟨w.heap.size, 2, none⟩ = some (.slice A2 ct.length c2) := cell_of_row _ _ _ _ _ _ D3.out)
        | (refine wpList_load_row rfl 25 (.tmp 7) rfl w3.heap.size rfl 25 (labA x) (0, 0) _ Lb3.out hu25 rfl (info25 _) ?_)
        | (refine wpList_load_row rfl 25 (.tmp 3) rfl (w.heap.size + 1) rfl 25 (labA x) (0, 0) _ Z3.out hu25 rfl (info25 _) ?_)
        | (go_at_call 25; (with_reducible refine (HBk.out _ HB3.out).mono ?_); rintro e w4 ⟨rfl, hb⟩; have D4 := Lib.hid ((heap_alloc_old w4 (.cells (labA X2) 25) (lt_of_block (blk_below D3.out hb))).trans (blk_below D3.out hb)); have Z4 := Lib.hid ((heap_alloc_old w4 (.cells (labA X2) 25) (lt_of_block (blk_below Z3.out hb))).trans (blk_below Z3.out hb)); have La4 := Lib.hid ((heap_alloc_old w4 (.cells (labA X2) 25) (lt_of_block (blk_below La3.out hb))).trans (blk_below La3.out hb)); have Lb4 := Lib.hid ((heap_alloc_old w4 (.cells (labA X2) 25) (lt_of_block (blk_below Lb3.out hb))).trans (blk_below Lb3.out hb)); have Lc4 := Lib.hid (heap_alloc_new w4 (.cells (labA X2) 25)); have HB4 := Lib.hid (bel_alloc (bel_trans HB3.out hb) (.cells (labA X2) 25)); have NN4 := Lib.hid (heap_alloc_new w4 (.cells z25 25)); have NA4 := Lib.hid (World.setRow_alloc_new w4 z25 (labA X2) 25); unfold z25 at NN4 NA4; clear hb)
        | (refine wpList_store_row rfl 25 (.tmp 9) (.tmp 41) rfl w4.heap.size (labA X2) rfl rfl 25 z25 NN4.out (info25 _) (by rw [labA_size]; rfl) (all_oneCell_toArray (labL_one _)) ?_; rw [NA4.out]; have c0 : (w4.alloc (.cells (labA X2) 25)).cell? ⟨w.heap.size, 0, none⟩ = some (.int .u32 num) := cell_of_row _ _ _ _ _ _ D4.out; have c1' : (w4.alloc (.cells (labA X2) 25)).cell? ⟨w.heap.size, 1, none⟩ = some (.slice A1 lv.length c1) := cell_of_row _ _ _ _ _ _ D4.out; have c2' : (w4.alloc (.cells (labA X2) 25)).cell? ⟨w.heap.size, 2, none⟩ = some (.slice A2 ct.length c2) := cell_of_row _ _ _ _ _ _ D4.out)
        | (refine wpList_load_row rfl 25 (.tmp 9) rfl w4.heap.size rfl 25 (labA X2) (0, 0) _ Lc4.out hu25 rfl (info25 _) ?_)
        | (go_at_call 24; (with_reducible refine (HO2q.out _ HB4.out).mono ?_); rintro e w5 ⟨rfl, hb⟩; have D5 := Lib.hid ((heap_alloc_old w5 (.cells (labA x) 25) (lt_of_block (blk_below D4.out hb))).trans (blk_below D4.out hb)); have Z5 := Lib.hid ((heap_alloc_old w5 (.cells (labA x) 25) (lt_of_block (blk_below Z4.out hb))).trans (blk_below Z4.out hb)); have Ld5 := Lib.hid (heap_alloc_new w5 (.cells (labA x) 25)); have HB5 := Lib.hid (bel_alloc (bel_trans HB4.out hb) (.cells (labA x) 25)); have NN5 := Lib.hid (heap_alloc_new w5 (.cells z25 25)); have NA5 := Lib.hid (World.setRow_alloc_new w5 z25 (labA x) 25); unfold z25 at NN5 NA5; clear hb)
        | (refine wpList_store_row rfl 25 (.tmp 11) (.tmp 49) rfl w5.heap.size (labA x) rfl rfl 25 z25 NN5.out (info25 _) (by rw [labA_size]; rfl) (all_oneCell_toArray (labL_one _)) ?_; rw [NA5.out]; have c0 : (w5.alloc (.cells (labA x) 25)).cell? ⟨w.heap.size, 0, none⟩ = some (.int .u32 num) := cell_of_row _ _ _ _ _ _ D5.out; have c1' : (w5.alloc (.cells (labA x) 25)).cell? ⟨w.heap.size, 1, none⟩ = some (.slice A1 lv.length c1) := cell_of_row _ _ _ _ _ _ D5.out; have c2' : (w5.alloc (.cells (labA x) 25)).cell? ⟨w.heap.size, 2, none⟩ = some (.slice A2 ct.length c2) := cell_of_row _ _ _ _ _ _ D5.out)
        | (refine wpList_load_row rfl 25 (.tmp 11) rfl w5.heap.size rfl 25 (labA x) (0, 0) _ Ld5.out hu25 rfl (info25 _) ?_)
        | (refine wpList_load_row rfl 25 (.tmp 3) rfl (w.heap.size + 1) rfl 25 (labA x) (0, 0) _ Z5.out hu25 rfl (info25 _) ?_)
        | (go_at_call 23; refine (HK.out _).mono ?_; rintro e w9 ⟨rfl, hb⟩; have HB9 := Lib.hid (bel_trans HB5.out hb); clear hb))
      go_ret
      exact ⟨rfl, HB9.out⟩
    · have d2 : decide ((E2 : Int) = 0) = false := decide_eq_false (by omega)
      have d2' : ((E2 : Int) == 0) = false := beq_eq_false_iff_ne.2 (by omega)
      clear HO2 he2
      go_enter Try.func6, Try.ntmps6
      go_wp2_with (first
        | (go_at_call 22; refine (HG.out _).mono ?_; rintro e w1 ⟨rfl, hb⟩; have D1 := Lib.hid (blk_below J0.out hb); have Z1 := Lib.hid (blk_below J1.out hb); have HB1 := Lib.hid (bel_trans HB.out hb); have c0 : w1.cell? ⟨w.heap.size, 0, none⟩ = some (.int .u32 num) := cell_of_row _ _ _ _ _ _ D1.out; have c1' : w1.cell? ⟨w.heap.size, 1, none⟩ = some (.slice A1 lv.length c1) := cell_of_row _ _ _ _ _ _ D1.out; have c2' : w1.cell? ⟨w.heap.size, 2, none⟩ = some (.slice A2 ct.length c2) := cell_of_row _ _ _ _ _ _ D1.out; clear hb)
        | (refine wpList_load_row rfl 25 (.tmp 3) rfl (w.heap.size + 1) rfl 25 (labA x) (0, 0) _ Z1.out hu25 rfl (info25 _) ?_)
        | (go_at_call 24; (with_reducible refine (HO.out _ HB1.out).mono ?_); rintro e w2 ⟨rfl, hb⟩; have D2 := Lib.hid ((heap_alloc_old w2 (.cells (labA X1) 25) (lt_of_block (blk_below D1.out hb))).trans (blk_below D1.out hb)); have Z2 := Lib.hid ((heap_alloc_old w2 (.cells (labA X1) 25) (lt_of_block (blk_below Z1.out hb))).trans (blk_below Z1.out hb)); have La2 := Lib.hid (heap_alloc_new w2 (.cells (labA X1) 25)); have HB2 := Lib.hid (bel_alloc (bel_trans HB1.out hb) (.cells (labA X1) 25)); have NN2 := Lib.hid (heap_alloc_new w2 (.cells z25 25)); have NA2 := Lib.hid (World.setRow_alloc_new w2 z25 (labA X1) 25); unfold z25 at NN2 NA2; clear hb)
        | (refine wpList_store_row rfl 25 (.tmp 5) (.tmp 20) rfl w2.heap.size (labA X1) rfl rfl 25 z25 NN2.out (info25 _) (by rw [labA_size]; rfl) (all_oneCell_toArray (labL_one _)) ?_; rw [NA2.out]; have c0 : (w2.alloc (.cells (labA X1) 25)).cell? ⟨w.heap.size, 0, none⟩ = some (.int .u32 num) := cell_of_row _ _ _ _ _ _ D2.out; have c1' : (w2.alloc (.cells (labA X1) 25)).cell? ⟨w.heap.size, 1, none⟩ = some (.slice A1 lv.length c1) := cell_of_row _ _ _ _ _ _ D2.out; have c2' : (w2.alloc (.cells (labA X1) 25)).cell? ⟨w.heap.size, 2, none⟩ = some (.slice A2 ct.length c2) := cell_of_row _ _ _ _ _ _ D2.out)
        | (refine wpList_load_row rfl 25 (.tmp 5) rfl w2.heap.size rfl 25 (labA X1) (0, 0) _ La2.out hu25 rfl (info25 _) ?_)
        | (go_at_call 25; (with_reducible refine (HB1q.out _ HB2.out).mono ?_); rintro e w3 ⟨rfl, hb⟩; have D3 := Lib.hid ((heap_alloc_old w3 (.cells (labA x) 25) (lt_of_block (blk_below D2.out hb))).trans (blk_below D2.out hb)); have Z3 := Lib.hid ((heap_alloc_old w3 (.cells (labA x) 25) (lt_of_block (blk_below Z2.out hb))).trans (blk_below Z2.out hb)); have La3 := Lib.hid ((heap_alloc_old w3 (.cells (labA x) 25) (lt_of_block (blk_below La2.out hb))).trans (blk_below La2.out hb)); have Lb3 := Lib.hid (heap_alloc_new w3 (.cells (labA x) 25)); have HB3 := Lib.hid (bel_alloc (bel_trans HB2.out hb) (.cells (labA x) 25)); have NN3 := Lib.hid (heap_alloc_new w3 (.cells z25 25)); have NA3 := Lib.hid (World.setRow_alloc_new w3 z25 (labA x) 25); unfold z25 at NN3 NA3; clear hb)
        | (refine wpList_store_row rfl 25 (.tmp 7) (.tmp 28) rfl w3.heap.size (labA x) rfl rfl 25 z25 NN3.out (info25 _) (by rw [labA_size]; rfl) (all_oneCell_toArray (labL_one _)) ?_; rw [NA3.out]; have c0 : (w3.alloc (.cells (labA x) 25)).cell? ⟨w.heap.size, 0, none⟩ = some (.int .u32 num) := cell_of_row _ _ _ _ _ _ D3.out; have c1' : (w3.alloc (.cells (labA x) 25)).cell? ⟨w.heap.size, 1, none⟩ = some (.slice A1 lv.length c1) := cell_of_row _ _ _ _ _ _ D3.out; have c2' : (w3.alloc (.cells (labA x) 25)).cell? ⟨w.heap.size, 2, none⟩ = some (.slice A2 ct.length c2) := cell_of_row _ _ _ _ _ _ D3.out)
        | (refine wpList_load_row rfl 25 (.tmp 7) rfl w3.heap.size rfl 25 (labA x) (0, 0) _ Lb3.out hu25 rfl (info25 _) ?_)
        | (refine wpList_load_row rfl 25 (.tmp 3) rfl (w.heap.size + 1) rfl 25 (labA x) (0, 0) _ Z3.out hu25 rfl (info25 _) ?_)
        | (go_at_call 25; (with_reducible refine (HBk.out _ HB3.out).mono ?_); rintro e w4 ⟨rfl, hb⟩; have D4 := Lib.hid ((heap_alloc_old w4 (.cells (labA X2) 25) (lt_of_block (blk_below D3.out hb))).trans (blk_below D3.out hb)); have Z4 := Lib.hid ((heap_alloc_old w4 (.cells (labA X2) 25) (lt_of_block (blk_below Z3.out hb))).trans (blk_below Z3.out hb)); have La4 := Lib.hid ((heap_alloc_old w4 (.cells (labA X2) 25) (lt_of_block (blk_below La3.out hb))).trans (blk_below La3.out hb)); have Lb4 := Lib.hid ((heap_alloc_old w4 (.cells (labA X2) 25) (lt_of_block (blk_below Lb3.out hb))).trans (blk_below Lb3.out hb)); have Lc4 := Lib.hid (heap_alloc_new w4 (.cells (labA X2) 25)); have HB4 := Lib.hid (bel_alloc (bel_trans HB3.out hb) (.cells (labA X2) 25)); have NN4 := Lib.hid (heap_alloc_new w4 (.cells z25 25)); have NA4 := Lib.hid (World.setRow_alloc_new w4 z25 (labA X2) 25); unfold z25 at NN4 NA4; clear hb)
        | (refine wpList_store_row rfl 25 (.tmp 9) (.tmp 41) rfl w4.heap.size (labA X2) rfl rfl 25 z25 NN4.out (info25 _) (by rw [labA_size]; rfl) (all_oneCell_toArray (labL_one _)) ?_; rw [NA4.out]; have c0 : (w4.alloc (.cells (labA X2) 25)).cell? ⟨w.heap.size, 0, none⟩ = some (.int .u32 num) := cell_of_row _ _ _ _ _ _ D4.out; have c1' : (w4.alloc (.cells (labA X2) 25)).cell? ⟨w.heap.size, 1, none⟩ = some (.slice A1 lv.length c1) := cell_of_row _ _ _ _ _ _ D4.out; have c2' : (w4.alloc (.cells (labA X2) 25)).cell? ⟨w.heap.size, 2, none⟩ = some (.slice A2 ct.length c2) := cell_of_row _ _ _ _ _ _ D4.out)
        | (go_at_call 23; refine (HK.out _).mono ?_; rintro e w9 ⟨rfl, hb⟩; have HB9 := Lib.hid (bel_trans HB4.out hb); clear hb))
      go_ret
      exact ⟨rfl, HB9.out⟩
  · have d1 : decide ((E1 : Int) = 0) = false := decide_eq_false (by omega)
    have d1' : ((E1 : Int) == 0) = false := beq_eq_false_iff_ne.2 (by omega)
    clear HB1k he1
    by_cases he2 : E2 = 0
    · subst he2
      have HO2q := Lib.hid (HO2.out rfl)
      clear HO2
      go_enter Try.func6, Try.ntmps6
      go_wp2_with (first
        | (go_at_call 22; refine (HG.out _).mono ?_; rintro e w1 ⟨rfl, hb⟩; have D1 := Lib.hid (blk_below J0.out hb); have Z1 := Lib.hid (blk_below J1.out hb); have HB1 := Lib.hid (bel_trans HB.out hb); have c0 : w1.cell? ⟨w.heap.size, 0, none⟩ = some (.int .u32 num) := cell_of_row _ _ _ _ _ _ D1.out; have c1' : w1.cell? ⟨w.heap.size, 1, none⟩ = some (.slice A1 lv.length c1) := cell_of_row _ _ _ _ _ _ D1.out; have c2' : w1.cell? ⟨w.heap.size, 2, none⟩ = some (.slice A2 ct.length c2) := cell_of_row _ _ _ _ _ _ D1.out; clear hb)
        | (refine wpList_load_row rfl 25 (.tmp 3) rfl (w.heap.size + 1) rfl 25 (labA x) (0, 0) _ Z1.out hu25 rfl (info25 _) ?_)
        | (go_at_call 24; (with_reducible refine (HO.out _ HB1.out).mono ?_); rintro e w2 ⟨rfl, hb⟩; have D2 := Lib.hid ((heap_alloc_old w2 (.cells (labA X1) 25) (lt_of_block (blk_below D1.out hb))).trans (blk_below D1.out hb)); have Z2 := Lib.hid ((heap_alloc_old w2 (.cells (labA X1) 25) (lt_of_block (blk_below Z1.out hb))).trans (blk_below Z1.out hb)); have La2 := Lib.hid (heap_alloc_new w2 (.cells (labA X1) 25)); have HB2 := Lib.hid (bel_alloc (bel_trans HB1.out hb) (.cells (labA X1) 25)); have NN2 := Lib.hid (heap_alloc_new w2 (.cells z25 25)); have NA2 := Lib.hid (World.setRow_alloc_new w2 z25 (labA X1) 25); unfold z25 at NN2 NA2; clear hb)
        | (refine wpList_store_row rfl 25 (.tmp 5) (.tmp 20) rfl w2.heap.size (labA X1) rfl rfl 25 z25 NN2.out (info25 _) (by rw [labA_size]; rfl) (all_oneCell_toArray (labL_one _)) ?_; rw [NA2.out]; have c0 : (w2.alloc (.cells (labA X1) 25)).cell? ⟨w.heap.size, 0, none⟩ = some (.int .u32 num) := cell_of_row _ _ _ _ _ _ D2.out; have c1' : (w2.alloc (.cells (labA X1) 25)).cell? ⟨w.heap.size, 1, none⟩ = some (.slice A1 lv.length c1) := cell_of_row _ _ _ _ _ _ D2.out; have c2' : (w2.alloc (.cells (labA X1) 25)).cell? ⟨w.heap.size, 2, none⟩ = some (.slice A2 ct.length c2) := cell_of_row _ _ _ _ _ _ D2.out)
        | (refine wpList_load_row rfl 25 (.tmp 3) rfl (w.heap.size + 1) rfl 25 (labA x) (0, 0) _ Z2.out hu25 rfl (info25 _) ?_)
        | (go_at_call 25; (with_reducible refine (HBk.out _ HB2.out).mono ?_); rintro e w4 ⟨rfl, hb⟩; have D4 := Lib.hid ((heap_alloc_old w4 (.cells (labA X2) 25) (lt_of_block (blk_below D2.out hb))).trans (blk_below D2.out hb)); have Z4 := Lib.hid ((heap_alloc_old w4 (.cells (labA X2) 25) (lt_of_block (blk_below Z2.out hb))).trans (blk_below Z2.out hb)); have La4 := Lib.hid ((heap_alloc_old w4 (.cells (labA X2) 25) (lt_of_block (blk_below La2.out hb))).trans (blk_below La2.out hb)); have Lc4 := Lib.hid (heap_alloc_new w4 (.cells (labA X2) 25)); have HB4 := Lib.hid (bel_alloc (bel_trans HB2.out hb) (.cells (labA X2) 25)); have NN4 := Lib.hid (heap_alloc_new w4 (.cells z25 25)); have NA4 := Lib.hid (World.setRow_alloc_new w4 z25 (labA X2) 25); unfold z25 at NN4 NA4; clear hb)
        | (refine wpList_store_row rfl 25 (.tmp 9) (.tmp 41) rfl w4.heap.size (labA X2) rfl rfl 25 z25 NN4.out (info25 _) (by rw [labA_size]; rfl) (all_oneCell_toArray (labL_one _)) ?_; rw [NA4.out]; have c0 : (w4.alloc (.cells (labA X2) 25)).cell? ⟨w.heap.size, 0, none⟩ = some (.int .u32 num) := cell_of_row _ _ _ _ _ _ D4.out; have c1' : (w4.alloc (.cells (labA X2) 25)).cell? ⟨w.heap.size, 1, none⟩ = some (.slice A1 lv.length c1) := cell_of_row _ _ _ _ _ _ D4.out; have c2' : (w4.alloc (.cells (labA X2) 25)).cell? ⟨w.heap.size, 2, none⟩ = some (.slice A2 ct.length c2) := cell_of_row _ _ _ _ _ _ D4.out)
        | (refine wpList_load_row rfl 25 (.tmp 9) rfl w4.heap.size rfl 25 (labA X2) (0, 0) _ Lc4.out hu25 rfl (info25 _) ?_)
        | (go_at_call 24; (with_reducible refine (HO2q.out _ HB4.out).mono ?_); rintro e w5 ⟨rfl, hb⟩; have D5 := Lib.hid ((heap_alloc_old w5 (.cells (labA x) 25) (lt_of_block (blk_below D4.out hb))).trans (blk_below D4.out hb)); have Z5 := Lib.hid ((heap_alloc_old w5 (.cells (labA x) 25) (lt_of_block (blk_below Z4.out hb))).trans (blk_below Z4.out hb)); have Ld5 := Lib.hid (heap_alloc_new w5 (.cells (labA x) 25)); have HB5 := Lib.hid (bel_alloc (bel_trans HB4.out hb) (.cells (labA x) 25)); have NN5 := Lib.hid (heap_alloc_new w5 (.cells z25 25)); have NA5 := Lib.hid (World.setRow_alloc_new w5 z25 (labA x) 25); unfold z25 at NN5 NA5; clear hb)
        | (refine wpList_store_row rfl 25 (.tmp 11) (.tmp 49) rfl w5.heap.size (labA x) rfl rfl 25 z25 NN5.out (info25 _) (by rw [labA_size]; rfl) (all_oneCell_toArray (labL_one _)) ?_; rw [NA5.out]; have c0 : (w5.alloc (.cells (labA x) 25)).cell? ⟨w.heap.size, 0, none⟩ = some (.int .u32 num) := cell_of_row _ _ _ _ _ _ D5.out; have c1' : (w5.alloc (.cells (labA x) 25)).cell? ⟨w.heap.size, 1, none⟩ = some (.slice A1 lv.length c1) := cell_of_row _ _ _ _ _ _ D5.out; have c2' : (w5.alloc (.cells (labA x) 25)).cell? ⟨w.heap.size, 2, none⟩ = some (.slice A2 ct.length c2) := cell_of_row _ _ _ _ _ _ D5.out)
        | (refine wpList_load_row rfl 25 (.tmp 11) rfl w5.heap.size rfl 25 (labA x) (0, 0) _ Ld5.out hu25 rfl (info25 _) ?_)
        | (refine wpList_load_row rfl 25 (.tmp 3) rfl (w.heap.size + 1) rfl 25 (labA x) (0, 0) _ Z5.out hu25 rfl (info25 _) ?_)
        | (go_at_call 23; refine (HK.out _).mono ?_; rintro e w9 ⟨rfl, hb⟩; have HB9 := Lib.hid (bel_trans HB5.out hb); clear hb))
      go_ret
      exact ⟨rfl, HB9.out⟩
    · have d2 : decide ((E2 : Int) = 0) = false := decide_eq_false (by omega)
      have d2' : ((E2 : Int) == 0) = false := beq_eq_false_iff_ne.2 (by omega)
      clear HO2 he2
      go_enter Try.func6, Try.ntmps6
      go_wp2_with (first
        | (go_at_call 22; refine (HG.out _).mono ?_; rintro e w1 ⟨rfl, hb⟩; have D1 := Lib.hid (blk_below J0.out hb); have Z1 := Lib.hid (blk_below J1.out hb); have HB1 := Lib.hid (bel_trans HB.out hb); have c0 : w1.cell? ⟨w.heap.size, 0, none⟩ = some (.int .u32 num) := cell_of_row _ _ _ _ _ _ D1.out; have c1' : w1.cell? ⟨w.heap.size, 1, none⟩ = some (.slice A1 lv.length c1) := cell_of_row _ _ _ _ _ _ D1.out; have c2' : w1.cell? ⟨w.heap.size, 2, none⟩ = some (.slice A2 ct.length c2) := cell_of_row _ _ _ _ _ _ D1.out; clear hb)
        | (refine wpList_load_row rfl 25 (.tmp 3) rfl (w.heap.size + 1) rfl 25 (labA x) (0, 0) _ Z1.out hu25 rfl (info25 _) ?_)
        | (go_at_call 24; (with_reducible refine (HO.out _ HB1.out).mono ?_); rintro e w2 ⟨rfl, hb⟩; have D2 := Lib.hid ((heap_alloc_old w2 (.cells (labA X1) 25) (lt_of_block (blk_below D1.out hb))).trans (blk_below D1.out hb)); have Z2 := Lib.hid ((heap_alloc_old w2 (.cells (labA X1) 25) (lt_of_block (blk_below Z1.out hb))).trans (blk_below Z1.out hb)); have La2 := Lib.hid (heap_alloc_new w2 (.cells (labA X1) 25)); have HB2 := Lib.hid (bel_alloc (bel_trans HB1.out hb) (.cells (labA X1) 25)); have NN2 := Lib.hid (heap_alloc_new w2 (.cells z25 25)); have NA2 := Lib.hid (World.setRow_alloc_new w2 z25 (labA X1) 25); unfold z25 at NN2 NA2; clear hb)
        | (refine wpList_store_row rfl 25 (.tmp 5) (.tmp 20) rfl w2.heap.size (labA X1) rfl rfl 25 z25 NN2.out (info25 _) (by rw [labA_size]; rfl) (all_oneCell_toArray (labL_one _)) ?_; rw [NA2.out]; have c0 : (w2.alloc (.cells (labA X1) 25)).cell? ⟨w.heap.size, 0, none⟩ = some (.int .u32 num) := cell_of_row _ _ _ _ _ _ D2.out; have c1' : (w2.alloc (.cells (labA X1) 25)).cell? ⟨w.heap.size, 1, none⟩ = some (.slice A1 lv.length c1) := cell_of_row _ _ _ _ _ _ D2.out; have c2' : (w2.alloc (.cells (labA X1) 25)).cell? ⟨w.heap.size, 2, none⟩ = some (.slice A2 ct.length c2) := cell_of_row _ _ _ _ _ _ D2.out)
        | (refine wpList_load_row rfl 25 (.tmp 3) rfl (w.heap.size + 1) rfl 25 (labA x) (0, 0) _ Z2.out hu25 rfl (info25 _) ?_)
        | (go_at_call 25; (with_reducible refine (HBk.out _ HB2.out).mono ?_); rintro e w4 ⟨rfl, hb⟩; have D4 := Lib.hid ((heap_alloc_old w4 (.cells (labA X2) 25) (lt_of_block (blk_below D2.out hb))).trans (blk_below D2.out hb)); have Z4 := Lib.hid ((heap_alloc_old w4 (.cells (labA X2) 25) (lt_of_block (blk_below Z2.out hb))).trans (blk_below Z2.out hb)); have La4 := Lib.hid ((heap_alloc_old w4 (.cells (labA X2) 25) (lt_of_block (blk_below La2.out hb))).trans (blk_below La2.out hb)); have Lc4 := Lib.hid (heap_alloc_new w4 (.cells (labA X2) 25)); have HB4 := Lib.hid (bel_alloc (bel_trans HB2.out hb) (.cells (labA X2) 25)); have NN4 := Lib.hid (heap_alloc_new w4 (.cells z25 25)); have NA4 := Lib.hid (World.setRow_alloc_new w4 z25 (labA X2) 25); unfold z25 at NN4 NA4; clear hb)
        | (refine wpList_store_row rfl 25 (.tmp 9) (.tmp 41) rfl w4.heap.size (labA X2) rfl rfl 25 z25 NN4.out (info25 _) (by rw [labA_size]; rfl) (all_oneCell_toArray (labL_one _)) ?_; rw [NA4.out]; have c0 : (w4.alloc (.cells (labA X2) 25)).cell? ⟨w.heap.size, 0, none⟩ = some (.int .u32 num) := cell_of_row _ _ _ _ _ _ D4.out; have c1' : (w4.alloc (.cells (labA X2) 25)).cell? ⟨w.heap.size, 1, none⟩ = some (.slice A1 lv.length c1) := cell_of_row _ _ _ _ _ _ D4.out; have c2' : (w4.alloc (.cells (labA X2) 25)).cell? ⟨w.heap.size, 2, none⟩ = some (.slice A2 ct.length c2) := cell_of_row _ _ _ _ _ _ D4.out)
        | (go_at_call 23; refine (HK.out _).mono ?_; rintro e w9 ⟨rfl, hb⟩; have HB9 := Lib.hid (bel_trans HB4.out hb); clear hb))
      go_ret
      exact ⟨rfl, HB9.out⟩
theorem back6 (d : Dm) (x : Lab) (w : World) (h : DmA w d) (hw : (Lit.int .i64 x.lv).wf = true) (hx : x.S < 2 ^ 240) : Calls Try.prog 6 #[.agg (dmA d), .agg (labA x)] w fun e w' => e = .returned (.bool true) ∧ Below w.heap.size w w' := by
  cases hg : greatB d with
  | true => exact back6_great d x w hg
  | false => exact back6_ok d x w hg h hw hx
end Go.Proofs.Ytifmckhabkghcaa.P
