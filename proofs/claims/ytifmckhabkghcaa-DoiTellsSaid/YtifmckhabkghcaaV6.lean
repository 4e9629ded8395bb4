/- Contracts of doi.Out, Back, Tells; of the reference's Tell (layer 12). -/
import Derived.Test.YtifmckhabkghcaaV5
namespace Go.Proofs.Ytifmckhabkghcaa.P
open Go.RowKit
set_option linter.unusedSimpArgs false
attribute [local go_sem ↓] ldi25

set_option maxRecDepth 100000 in
set_option maxHeartbeats 2000000 in
theorem out24 (d : Dm) (x : Lab) (w : World) (h : DmA w d) (h1 : d.lv.length ≤ 300) (h2 : d.ct.length ≤ 300) :
    Calls Try.prog 24 #[.agg (dmA d), .agg (labA x)] w fun e w' => e = .returned (.tuple #[.agg (labA (mvX d x false)), .int .i64 (mvE d x false)]) ∧ Below w.heap.size w w' := by
  have hu25 := Try.underlying25
  have hu47 := Try.underlying47
  have Z0 := heap_alloc2_old w (.cells (dmA d) 47) (.cells (labA x) 25)
  have Z1 := heap_alloc2_new w (.cells (dmA d) 47) (.cells (labA x) 25)
  have ZB := bel_alloc (bel_alloc (Below.refl w.heap.size w) (.cells (dmA d) 47)) (.cells (labA x) 25)
  have HB := Lib.hid (bel_alloc ZB (.cells z25 25))
  have HM := Lib.hid (move51o d x _ (h.below HB.out) h1 h2)
  have H1 := Lib.hid ((heap_alloc_old _ (.cells z25 25) (lt_of_block Z1)).trans Z1)
  have H2 := Lib.hid (show (((w.alloc (.cells (dmA d) 47)).alloc (.cells (labA x) 25)).alloc (.cells z25 25)).heap[w.heap.size + 2]? = some (.cells z25 25 (0, 0)) from by
    have := heap_alloc_new ((w.alloc (.cells (dmA d) 47)).alloc (.cells (labA x) 25)) (.cells z25 25)
    simpa using this)
  clear Z0 Z1 ZB h h1 h2
  generalize mvX d x false = X at HM ⊢
  generalize mvE d x false = E at HM ⊢
  obtain ⟨num, A1, c1, lv, A2, c2, ct⟩ := d
  unfold dmA at HB H1 H2 HM ⊢
  simp only at HB H1 H2 HM ⊢
  unfold z25 at HB H1 H2 HM
  go_enter Try.func24, Try.ntmps24
  go_wp2_with (first
    | (refine wpList_load_row rfl 25 (.tmp 3) rfl (w.heap.size + 1) rfl 25 (labA x) (0, 0) _ H1.out hu25 rfl (info25 _) ?_)
    | (go_at_call 51; refine HM.out.mono ?_; rintro e w1 ⟨rfl, hb⟩; have K2 := Lib.hid (blk_below H2.out hb); have HB1 := Lib.hid (bel_trans HB.out hb); clear hb)
    | (refine wpList_store_row rfl 25 (.tmp 4) (.tmp 9) rfl (w.heap.size + 2) (labA X) rfl rfl 25 z25 K2.out (info25 _) (by rw [labA_size]; rfl) (all_oneCell_toArray (labL_one _)) ?_))
  refine bodyPost_ret (results_row_tmp rfl _ _ (w.heap.size + 2) 25 (labA X) (0, 0) _ rfl (setRow_heap _ (w.heap.size + 2) _ _ 25 _ K2.out) hu25 rfl (info25 _)) rfl ⟨rfl, bel_setRow HB1.out _ _ (by omega)⟩
set_option maxRecDepth 100000 in
set_option maxHeartbeats 2000000 in
theorem back25 (d : Dm) (x : Lab) (w : World) (h : DmA w d) (h1 : d.lv.length ≤ 300) (h2 : d.ct.length ≤ 300) :
    Calls Try.prog 25 #[.agg (dmA d), .agg (labA x)] w fun e w' => e = .returned (.tuple #[.agg (labA (mvX d x true)), .int .i64 (mvE d x true)]) ∧ Below w.heap.size w w' := by
  have hu25 := Try.underlying25
  have hu47 := Try.underlying47
  have Z0 := heap_alloc2_old w (.cells (dmA d) 47) (.cells (labA x) 25)
  have Z1 := heap_alloc2_new w (.cells (dmA d) 47) (.cells (labA x) 25)
  have ZB := bel_alloc (bel_alloc (Below.refl w.heap.size w) (.cells (dmA d) 47)) (.cells (labA x) 25)
  have HB := Lib.hid (bel_alloc ZB (.cells z25 25))
  have HM := Lib.hid (move51k d x _ (h.below HB.out) h1 h2)
  have H1 := Lib.hid ((heap_alloc_old _ (.cells z25 25) (lt_of_block Z1)).trans Z1)
  have H2 := Lib.hid (show (((w.alloc (.cells (dmA d) 47)).alloc (.cells (labA x) 25)).alloc (.cells z25 25)).heap[w.heap.size + 2]? = some (.cells z25 25 (0, 0)) from by
    have := heap_alloc_new ((w.alloc (.cells (dmA d) 47)).alloc (.cells (labA x) 25)) (.cells z25 25)
    simpa using this)
  clear Z0 Z1 ZB h h1 h2
  generalize mvX d x true = X at HM ⊢
  generalize mvE d x true = E at HM ⊢
  obtain ⟨num, A1, c1, lv, A2, c2, ct⟩ := d
  unfold dmA at HB H1 H2 HM ⊢
  simp only at HB H1 H2 HM ⊢
  unfold z25 at HB H1 H2 HM
  go_enter Try.func25, Try.ntmps25
  go_wp2_with (first
    | (refine wpList_load_row rfl 25 (.tmp 3) rfl (w.heap.size + 1) rfl 25 (labA x) (0, 0) _ H1.out hu25 rfl (info25 _) ?_)
    | (go_at_call 51; refine HM.out.mono ?_; rintro e w1 ⟨rfl, hb⟩; have K2 := Lib.hid (blk_below H2.out hb); have HB1 := Lib.hid (bel_trans HB.out hb); clear hb)
    | (refine wpList_store_row rfl 25 (.tmp 4) (.tmp 9) rfl (w.heap.size + 2) (labA X) rfl rfl 25 z25 K2.out (info25 _) (by rw [labA_size]; rfl) (all_oneCell_toArray (labL_one _)) ?_))
  refine bodyPost_ret (results_row_tmp rfl _ _ (w.heap.size + 2) 25 (labA X) (0, 0) _ rfl (setRow_heap _ (w.heap.size + 2) _ _ 25 _ K2.out) hu25 rfl (info25 _)) rfl ⟨rfl, bel_setRow HB1.out _ _ (by omega)⟩
set_option maxRecDepth 100000 in
set_option maxHeartbeats 2000000 in
theorem tells30 (d : Dm) (x : Lab) (w : World) (h : DmA w d) (h1 : d.lv.length ≤ 300) (h2 : d.ct.length ≤ 300) :
    Calls Try.prog 30 #[.agg (dmA d), .agg (labA x)] w fun e w' => e = .returned (.bool (decide (mvE d x false = 0))) ∧ Below w.heap.size w w' := by
  have hu25 := Try.underlying25
  have hu47 := Try.underlying47
  have HB := Lib.hid (bel_alloc (bel_alloc (Below.refl w.heap.size w) (.cells (dmA d) 47)) (.cells (labA x) 25))
  have HM := Lib.hid (out24 d x _ (h.below HB.out) h1 h2)
  have H1 := Lib.hid (heap_alloc2_new w (.cells (dmA d) 47) (.cells (labA x) 25))
  clear h h1 h2
  generalize mvX d x false = X at HM
  generalize mvE d x false = E at HM ⊢
  obtain ⟨num, A1, c1, lv, A2, c2, ct⟩ := d
  unfold dmA at HB H1 HM ⊢
  simp only at HB H1 HM ⊢
  by_cases he : E = 0
  · subst he
    go_enter Try.func30, Try.ntmps30
    go_wp2_with (first
      | (refine wpList_load_row rfl 25 (.tmp 3) rfl (w.heap.size + 1) rfl 25 (labA x) (0, 0) _ H1.out hu25 rfl (info25 _) ?_)
      | (go_at_call 24; refine HM.out.mono ?_; rintro e w1 ⟨rfl, hb⟩; have HB1 := Lib.hid (bel_trans HB.out hb); have N00 := Lib.hid (heap_alloc_new w1 (.cells z25 25)); have NA := Lib.hid (World.setRow_alloc_new w1 z25 (labA X) 25); unfold z25 at N00 NA; clear hb)
      | (refine wpList_store_row rfl 25 (.tmp 5) (.tmp 11) rfl w1.heap.size (labA X) rfl rfl 25 z25 N00.out (info25 _) (by rw [labA_size]; rfl) (all_oneCell_toArray (labL_one _)) ?_; rw [NA.out]))
    go_ret
    exact ⟨by simp, bel_alloc HB1.out _⟩
  · have d0 : decide ((E : Int) = 0) = false := decide_eq_false (by omega)
    have d1 : ((E : Int) == 0) = false := beq_eq_false_iff_ne.2 (by omega)
    have HE := Lib.hid (show decide (E = 0) = false from decide_eq_false he)
    clear he
    go_enter Try.func30, Try.ntmps30
    go_wp2_with (first
      | (refine wpList_load_row rfl 25 (.tmp 3) rfl (w.heap.size + 1) rfl 25 (labA x) (0, 0) _ H1.out hu25 rfl (info25 _) ?_)
      | (go_at_call 24; refine HM.out.mono ?_; rintro e w1 ⟨rfl, hb⟩; have HB1 := Lib.hid (bel_trans HB.out hb); have N00 := Lib.hid (heap_alloc_new w1 (.cells z25 25)); have NA := Lib.hid (World.setRow_alloc_new w1 z25 (labA X) 25); unfold z25 at N00 NA; clear hb)
      | (refine wpList_store_row rfl 25 (.tmp 5) (.tmp 11) rfl w1.heap.size (labA X) rfl rfl 25 z25 N00.out (info25 _) (by rw [labA_size]; rfl) (all_oneCell_toArray (labL_one _)) ?_; rw [NA.out]))
    go_ret
    exact ⟨by rw [HE.out]; rfl, bel_alloc HB1.out _⟩
end Go.Proofs.Ytifmckhabkghcaa.P
