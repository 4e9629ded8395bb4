/- TableNone (walk). -/
import Derived.Test.YtifmckhabkghcaaT9
namespace Go.Proofs.Ytifmckhabkghcaa.P
open Go.RowKit
set_option linter.unusedSimpArgs false

set_option maxRecDepth 100000 in
set_option maxHeartbeats 2000000 in
theorem none12 (n : Int) (x : Lab) (w : World) : Calls Try.prog 12 #[.int .i64 n, .agg (labA x)] w fun e w' => e = .returned (.bool true) ∧ Below w.heap.size w w' := by
  have hu25 := Try.underlying25
  have hu56 := Try.underlying56
  have hu60 := Try.underlying60
  have HA := Lib.hid (at39_nil n)
  have HF := Lib.hid (find40_nil x)
  have HL := Lib.hid len43_nil
  have HW := Lib.hid (within35_nil x x)
  have HB := Lib.hid (below37_nil n)
  have HX := Lib.hid all42_nil
  have HK := Lib.hid awake31
  have H0 := Lib.hid (heap_alloc_new w (.cells (labA x) 25))
  have HB0 := Lib.hid (bel_alloc (Below.refl w.heap.size w) (.cells (labA x) 25))
  go_enter Try.func12, Try.ntmps12
  go_wp2_with (first
    | (go_at_call 39; refine (HA.out _).mono ?_; rintro e w1 ⟨rfl, hb⟩; have K1 := Lib.hid ((heap_alloc_old w1 (.cells (labA ⟨0, 0⟩) 25) (lt_of_block (blk_below H0.out hb))).trans (blk_below H0.out hb)); have HB1 := Lib.hid (bel_alloc (bel_trans HB0.out hb) (.cells (labA ⟨0, 0⟩) 25)); have N00 := Lib.hid (heap_alloc_new w1 (.cells z25 25)); have NA := Lib.hid (World.setRow_alloc_new w1 z25 (labA ⟨0, 0⟩) 25); unfold z25 at N00 NA; clear hb)
    | (refine wpList_store_row rfl 25 (.tmp 6) (.tmp 14) rfl w1.heap.size (labA ⟨0, 0⟩) rfl rfl 25 z25 N00.out (info25 _) (by rw [labA_size]; rfl) (all_oneCell_toArray (labL_one _)) ?_; rw [NA.out])
    | (refine wpList_load_row rfl 25 (.tmp 3) rfl w.heap.size rfl 25 (labA x) (0, 0) _ K1.out hu25 rfl (info25 _) ?_)
    | (go_at_call 40; refine (HF.out _).mono ?_; rintro e w2 ⟨rfl, hb⟩; have K2 := Lib.hid (blk_below K1.out hb); have HB2 := Lib.hid (bel_trans HB1.out hb); clear hb)
    | (go_at_call 43; refine (HL.out _).mono ?_; rintro e w3 ⟨rfl, rfl⟩)
    | (refine load_row_g 25 (.tmp 3) rfl w.heap.size rfl 25 (labA x) (0, 0) _ K2.out hu25 rfl (info25 _) rfl ?_)
    | (go_at_call 35; refine (HW.out _).mono ?_; rintro e w4 ⟨rfl, hb⟩; have HB4 := Lib.hid (bel_trans HB2.out hb); clear hb)
    | (go_at_call 37; refine (HB.out _).mono ?_; rintro e w5 ⟨rfl, hb⟩; have HB5 := Lib.hid (bel_trans HB4.out hb); clear hb)
    | (go_at_call 42; refine (HX.out _).mono ?_; rintro e w6 ⟨rfl, rfl⟩)
    | (go_at_call 31; refine (HK.out _).mono ?_; rintro e w7 ⟨rfl, hb⟩; have HB7 := Lib.hid (bel_trans HB5.out hb); clear hb))
  go_ret
  exact ⟨rfl, HB7.out⟩
end Go.Proofs.Ytifmckhabkghcaa.P
