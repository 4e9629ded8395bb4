/- BasicEncodes (walk). -/
import Derived.Test.YtifmckhabkghcaaE1
namespace Go.Proofs.Ytifmckhabkghcaa.P
open Go.RowKit
set_option linter.unusedSimpArgs false

set_option maxRecDepth 100000 in
set_option maxHeartbeats 2000000 in
theorem encodes4_no (x : Lab) (hS : x.S < 2 ^ 240) (he : encE x ≠ 0) (w : World) : Calls Try.prog 4 #[.agg (labA x)] w fun e w' => e = .returned (.bool true) ∧ Below w.heap.size w w' := by
  have hu25 := Try.underlying25
  have hu27 := Try.underlying27
  have HA := Lib.hid awake15
  have HF := Lib.hid (fits14 x)
  rw [encE_fits, decide_eq_false he] at HF
  have HE := Lib.hid (show ∀ w, Calls Try.prog 13 #[.agg (labA x)] w fun e w' => e = .returned (.tuple #[.agg #[.int .i64 0, .string { data := #[] }], .int .i64 (encE x)]) ∧ Below w.heap.size w w' from fun w => by
    have h := enc13 x hS w
    rw [show encK x = 0 by simp [encK, he], show encD x = [] by simp [encD, he]] at h
    exact h)
  have HD := Lib.hid (show ∀ w, Calls Try.prog 18 #[.agg (labA x)] w fun e w' => e = .returned (.tuple #[.string { data := #[] }, .int .i64 (encE x)]) ∧ Below w.heap.size w w' from fun w => by
    have h := data18 x hS w
    rw [show encD x = [] by simp [encD, he]] at h
    exact h)
  have H0 := Lib.hid (heap_alloc_new w (.cells (labA x) 25))
  have HB0 := Lib.hid (bel_alloc (Below.refl w.heap.size w) (.cells (labA x) 25))
  generalize encE x = n at HE HD he
  have d0 : decide ((n : Int) = 0) = false := decide_eq_false (by omega)
  go_enter Try.func4, Try.ntmps4
  go_wp2_with (first
    | (refine wpList_load_row rfl 25 (.tmp 1) rfl w.heap.size rfl 25 (labA x) (0, 0) _ H0.out hu25 rfl (info25 _) ?_)
    | (go_at_call 13; refine (HE.out _).mono ?_; rintro e w1 ⟨rfl, hb1⟩; have K0 := Lib.hid ((heap_alloc_old w1 (.cells #[.int .i64 0, .string { data := #[] }] 27) (lt_of_block (blk_below H0.out hb1))).trans (blk_below H0.out hb1)); have K1 := Lib.hid (heap_alloc_new w1 (.cells #[.int .i64 0, .string { data := #[] }] 27)); have HB1 := Lib.hid (bel_trans HB0.out (bel_alloc hb1 (.cells #[.int .i64 0, .string { data := #[] }] 27))); have hz1 := lt_of_block K1.out; clear hb1 H0 HB0)
    | (refine wpList_load_row rfl 25 (.tmp 1) rfl w.heap.size rfl 25 (labA x) (0, 0) _ K0.out hu25 rfl (info25 _) ?_)
    | (go_at_call 18; refine (HD.out _).mono ?_; rintro e w2 ⟨rfl, hb2⟩; have M0 := Lib.hid (blk_below K0.out hb2); have M1 := blk_below K1.out hb2; have c0 : w2.cell? ⟨w1.heap.size, 0, none⟩ = some (.int .i64 0) := cell_of_row _ _ _ _ _ _ M1; have c1 : w2.cell? ⟨w1.heap.size, 1, none⟩ = some (.string { data := #[] }) := cell_of_row _ _ _ _ _ _ M1; have HB2 := Lib.hid (below_then HB1.out HB1.out.size hb2); have hz2 := lt_of_block M1; clear hb2 M1)
    | (refine load_row_g 25 (.tmp 1) rfl w.heap.size rfl 25 (labA x) (0, 0) _ M0.out hu25 rfl (info25 _) rfl ?_)
    | (go_at_call 14; refine (HF.out _).mono ?_; rintro e w3 ⟨rfl, hb3⟩; have d0 : w3.cell? ⟨w1.heap.size, 0, none⟩ = some (.int .i64 0) := (hb3.cell (p := ⟨w1.heap.size, 0, none⟩) hz2).trans c0; have HB3 := Lib.hid (below_then HB2.out HB2.out.size hb3); clear hb3)
    | (go_at_call 15; refine (HA.out _).mono ?_; rintro e w4 ⟨rfl, hb4⟩; have HB4 := Lib.hid (below_then HB3.out HB3.out.size hb4); clear hb4))
  go_ret
  exact ⟨rfl, HB4.out⟩
set_option maxRecDepth 100000 in
set_option maxHeartbeats 4000000 in
theorem encodes4_ok (x : Lab) (hw : (Lit.int .i64 x.lv).wf = true) (hS : x.S < 2 ^ 240) (he : encE x = 0) (w : World) : Calls Try.prog 4 #[.agg (labA x)] w fun e w' => e = .returned (.bool true) ∧ Below w.heap.size w w' := by
  have hu25 := Try.underlying25
  have hu27 := Try.underlying27
  have HA := Lib.hid awake15
  have HF := Lib.hid (fits14 x)
  rw [encE_fits, decide_eq_true he] at HF
  have HE := Lib.hid (show ∀ w, Calls Try.prog 13 #[.agg (labA x)] w fun e w' => e = .returned (.tuple #[.agg #[.int .i64 130, .string (bs (encD x))], .int .i64 0]) ∧ Below w.heap.size w w' from fun w => by
    have h := enc13 x hS w
    rw [show encK x = 130 by simp [encK, he], he] at h
    exact h)
  have HD := Lib.hid (show ∀ w, Calls Try.prog 18 #[.agg (labA x)] w fun e w' => e = .returned (.tuple #[.string (bs (encD x)), .int .i64 0]) ∧ Below w.heap.size w w' from fun w => by
    have h := data18 x hS w
    rw [he] at h
    exact h)
  have HC := Lib.hid (show ∀ w, Calls Try.prog 19 #[.agg #[.int .i64 130, .string (bs (encD x))]] w fun e w' => e = .returned (.tuple #[.agg (labA x), .int .i64 0]) ∧ Below w.heap.size w w' from fun w => by
    obtain ⟨l0, l1⟩ := encD_len he
    have h := dec19 (encD x) (encD_lt x) l0 l1 w
    rw [(dec_enc hS he).1, (dec_enc hS he).2] at h
    exact h)
  have heq := eq25 hw hw hS hS
  rw [show decide (x = x) = true by simp] at heq
  have hgd := gd25
  have H0 := Lib.hid (heap_alloc_new w (.cells (labA x) 25))
  have HB0 := Lib.hid (bel_alloc (Below.refl w.heap.size w) (.cells (labA x) 25))
  clear he hw hS
  generalize bs (encD x) = D at HE HD HC
  go_enter Try.func4, Try.ntmps4
  go_wp2_with (first
    | (refine wpList_load_row rfl 25 (.tmp 1) rfl w.heap.size rfl 25 (labA x) (0, 0) _ H0.out hu25 rfl (info25 _) ?_)
    | (go_at_call 13; refine (HE.out _).mono ?_; rintro e w1 ⟨rfl, hb1⟩; have K0 := Lib.hid ((heap_alloc_old w1 (.cells #[.int .i64 130, .string D] 27) (lt_of_block (blk_below H0.out hb1))).trans (blk_below H0.out hb1)); have K1 := Lib.hid (heap_alloc_new w1 (.cells #[.int .i64 130, .string D] 27)); have HB1 := Lib.hid (bel_trans HB0.out (bel_alloc hb1 (.cells #[.int .i64 130, .string D] 27))); have hz1 := lt_of_block K1.out; clear hb1 H0 HB0)
    | (refine wpList_load_row rfl 25 (.tmp 1) rfl w.heap.size rfl 25 (labA x) (0, 0) _ K0.out hu25 rfl (info25 _) ?_)
    | (go_at_call 18; refine (HD.out _).mono ?_; rintro e w2 ⟨rfl, hb2⟩; have M0 := Lib.hid (blk_below K0.out hb2); have M1 := Lib.hid (blk_below K1.out hb2); have c0 : w2.cell? ⟨w1.heap.size, 0, none⟩ = some (.int .i64 130) := cell_of_row _ _ _ _ _ _ M1.out; have c1 : w2.cell? ⟨w1.heap.size, 1, none⟩ = some (.string D) := cell_of_row _ _ _ _ _ _ M1.out; have HB2 := Lib.hid (below_then HB1.out HB1.out.size hb2); clear hb2)
    | (refine load_row_g 25 (.tmp 1) rfl w.heap.size rfl 25 (labA x) (0, 0) _ M0.out hu25 rfl (info25 _) rfl ?_)
    | (go_at_call 14; refine (HF.out _).mono ?_; rintro e w3 ⟨rfl, hb3⟩; have Q0 := Lib.hid (blk_below M0.out hb3); have d0 : w3.cell? ⟨w1.heap.size, 0, none⟩ = some (.int .i64 130) := (hb3.cell (p := ⟨w1.heap.size, 0, none⟩) (lt_of_block M1.out)).trans c0; have d1 : w3.cell? ⟨w1.heap.size, 1, none⟩ = some (.string D) := (hb3.cell (p := ⟨w1.heap.size, 1, none⟩) (lt_of_block M1.out)).trans c1; have HB3 := Lib.hid (below_then HB2.out HB2.out.size hb3); clear hb3)
    | (go_at_call 19; refine (HC.out _).mono ?_; rintro e w5 ⟨rfl, hb5⟩; have U0 := Lib.hid ((heap_alloc_old w5 (.cells (labA x) 25) (lt_of_block (blk_below Q0.out hb5))).trans (blk_below Q0.out hb5)); have N00 := Lib.hid (heap_alloc_new w5 (.cells z25 25)); have U1 := Lib.hid (heap_alloc_new w5 (.cells (labA x) 25)); have NA := Lib.hid (World.setRow_alloc_new w5 z25 (labA x) 25); unfold z25 at N00 NA; have HB5 := Lib.hid (bel_alloc (below_then HB3.out HB3.out.size hb5) (.cells (labA x) 25)); clear hb5)
    | (refine wpList_store_row rfl 25 (.tmp 7) (.tmp 49) rfl w5.heap.size (labA x) rfl rfl 25 z25 N00.out (info25 _) (by rw [labA_size]; rfl) (all_oneCell_toArray (labL_one _)) ?_; rw [NA.out])
    | (refine wpList_load_row rfl 25 (.tmp 7) rfl w5.heap.size rfl 25 (labA x) (0, 0) _ U1.out hu25 rfl (info25 _) ?_)
    | (refine wpList_load_row rfl 25 (.tmp 1) rfl w.heap.size rfl 25 (labA x) (0, 0) _ U0.out hu25 rfl (info25 _) ?_)
    | (go_at_call 15; refine (HA.out _).mono ?_; rintro e w4 ⟨rfl, hb4⟩; have HB4 := Lib.hid (below_then HB5.out HB5.out.size hb4); clear hb4))
  go_ret
  exact ⟨rfl, HB4.out⟩
theorem encodes4 (x : Lab) (hw : (Lit.int .i64 x.lv).wf = true) (hS : x.S < 2 ^ 240) (w : World) : Calls Try.prog 4 #[.agg (labA x)] w fun e w' => e = .returned (.bool true) ∧ Below w.heap.size w w' := by
  by_cases he : encE x = 0
  · exact encodes4_ok x hw hS he w
  · exact encodes4_no x hS he w
end Go.Proofs.Ytifmckhabkghcaa.P
