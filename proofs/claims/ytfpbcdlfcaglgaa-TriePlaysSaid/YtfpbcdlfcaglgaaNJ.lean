/- awake (layer 14). -/
import Derived.Test.YtfpbcdlfcaglgaaNI
namespace Go.Proofs.Ytfpbcdlfcaglgaa.P
open Go.RowKit

theorem rt1 : rtA r1 = #[.int .u32 167772160, .int .i64 8, .int .i64 1] := rfl
theorem rt2 : rtA r2 = #[.int .u32 167837696, .int .i64 16, .int .i64 2] := rfl
theorem aw_n1 : addN [] r1 = [r1] ∧ addN [r1] r2 = [r1, r2] ∧ errR [] r1 = 0 ∧ errR [r1] r2 = 0 := by decide +kernel
theorem aw_a1 (w : World) (M B g : Nat) (vf : Value) (h : TrS w M B g vf 1 []) : Calls Try.prog 9 #[.pointer (some ⟨B, 0, none⟩), .agg #[.int .u32 167772160, .int .i64 8, .int .i64 1]] w fun e w' => e = .returned (.int .i64 0) ∧ ∃ g' vf', TrS w' M B g' vf' 33 [r1] ∧ Below M w w' := by
  rw [← rt1]
  refine (addS w M B g vf 1 [] h r1 (by decide) (by decide)).mono ?_
  rintro e w' ⟨h1, g', vf', h2, h3⟩
  rw [aw_n1.2.2.1] at h1
  rw [aw_n1.1] at h2
  exact ⟨h1, g', vf', h2, h.low h3⟩
theorem aw_a2 (w : World) (M B g : Nat) (vf : Value) (h : TrS w M B g vf 33 [r1]) : Calls Try.prog 9 #[.pointer (some ⟨B, 0, none⟩), .agg #[.int .u32 167837696, .int .i64 16, .int .i64 2]] w fun e w' => e = .returned (.int .i64 0) ∧ ∃ g' vf', TrS w' M B g' vf' 65 [r1, r2] ∧ Below M w w' := by
  rw [← rt2]
  refine (addS w M B g vf 33 [r1] h r2 (by decide) (by decide)).mono ?_
  rintro e w' ⟨h1, g', vf', h2, h3⟩
  rw [aw_n1.2.2.2] at h1
  rw [aw_n1.2.1] at h2
  exact ⟨h1, g', vf', h2, h.low h3⟩
theorem aw_f1 (w : World) (M B g : Nat) (vf : Value) (h : TrS w M B g vf 65 [r1, r2]) : Calls Try.prog 10 #[.pointer (some ⟨B, 0, none⟩), .int .u32 167838211] w fun e w' => e = .returned (.tuple #[.agg #[.int .u32 167837696, .int .i64 16, .int .i64 2], .bool true]) ∧ Below w.heap.size w w' := by
  have := findS w M B g vf 65 _ h 167838211 (by decide)
  refine this.mono ?_
  rintro e w' ⟨o, h1, h2, h3⟩
  rw [aw_find1 h2] at h1
  exact ⟨by rw [h1, ← rt2]; rfl, h3⟩
theorem aw_f2 (w : World) (M B g : Nat) (vf : Value) (h : TrS w M B g vf 65 [r1, r2]) : Calls Try.prog 10 #[.pointer (some ⟨B, 0, none⟩), .int .u32 167903232] w fun e w' => e = .returned (.tuple #[.agg #[.int .u32 167772160, .int .i64 8, .int .i64 1], .bool true]) ∧ Below w.heap.size w w' := by
  have := findS w M B g vf 65 _ h 167903232 (by decide)
  refine this.mono ?_
  rintro e w' ⟨o, h1, h2, h3⟩
  rw [aw_find2 h2] at h1
  exact ⟨by rw [h1, ← rt1]; rfl, h3⟩
theorem one_r1 : (#[.int .u32 167772160, .int .i64 8, .int .i64 1] : Array Value).all (·.oneCell') = true := by simp [Value.oneCell']
theorem one_r2 : (#[.int .u32 167837696, .int .i64 16, .int .i64 2] : Array Value).all (·.oneCell') = true := by simp [Value.oneCell']
set_option maxHeartbeats 1000000 in
theorem awake7 (w : World) : Calls Try.prog 7 #[] w fun e w' => e = .returned (.bool true) ∧ Below w.heap.size w w' := by
  have hu30 := Try.underlying30
  have hu32 := Try.underlying32
  have HN := Lib.hid (newS w)
  go_enter Try.func7, Try.ntmps7
  go_wp2_with (first
    | (go_at_call 8; refine Calls.mono HN.out ?_; rintro e w1 ⟨B, g, rfl, ht, hb, _, _⟩; have HB1 := Lib.hid hb; have HA1 := Lib.hid (aw_a1 w1 w.heap.size B g _ ht); clear ht hb)
    | (go_at_call 9; refine Calls.mono HA1.out ?_; rintro e w2 ⟨rfl, g2, vf2, ht, hb⟩; have HB2 := Lib.hid (HB1.out.trans hb); have HA2 := Lib.hid (aw_a2 w2 w.heap.size B g2 vf2 ht); clear ht hb HA1)
    | (go_at_call 9; refine Calls.mono HA2.out ?_; rintro e w3 ⟨rfl, g3, vf3, ht, hb⟩; have HB3 := Lib.hid (HB2.out.trans hb); have HT3 := Lib.hid ht; have HF1 := Lib.hid (aw_f1 w3 w.heap.size B g3 vf3 ht); clear ht hb HA2)
    | (go_at_call 10; refine Calls.mono HF1.out ?_; rintro e w4 ⟨rfl, hb⟩; have HB4 := Lib.hid (below_then HB3.out HB3.out.size hb); have HT4 := Lib.hid (HT3.out.below hb); have N0 := Lib.hid (heap_alloc_new w4 (.cells rz 32)); clear hb HF1)
    | (refine wpList_store_row rfl 32 (.tmp 4) (.tmp 20) rfl w4.heap.size #[.int .u32 167837696, .int .i64 16, .int .i64 2] rfl rfl 32 rz N0.out (info32 _ _ _) rfl one_r2 ?_; rw [World.setRow_alloc_new]; have HB5 := Lib.hid (bel_alloc HB4.out (.cells #[.int .u32 167837696, .int .i64 16, .int .i64 2] 32)); have HT5 := Lib.hid (HT4.out.below (bel_alloc (Below.refl _ _) (.cells #[.int .u32 167837696, .int .i64 16, .int .i64 2] 32))); have HF2 := Lib.hid (aw_f2 _ w.heap.size B g3 vf3 HT5.out); have k2 : (w4.alloc (.cells #[.int .u32 167837696, .int .i64 16, .int .i64 2] 32)).cell? ⟨w4.heap.size, 2, none⟩ = some (.int .i64 2) := World.cell?_alloc_mark w4 #[.int .u32 167837696, .int .i64 16, .int .i64 2] 32 (0, 0) 2; generalize w4.alloc (.cells #[.int .u32 167837696, .int .i64 16, .int .i64 2] 32) = w5 at HB5 HT5 HF2 k2 ⊢)
    | (go_at_call 10; refine Calls.mono HF2.out ?_; rintro e w6 ⟨rfl, hb⟩; have HB6 := Lib.hid (below_then HB5.out HB5.out.size hb); have k2 := cell_below k2 hb; have N6 := Lib.hid (heap_alloc_new w6 (.cells rz 32)); clear hb HF2)
    | (refine wpList_store_row rfl 32 (.tmp 6) (.tmp 25) rfl w6.heap.size #[.int .u32 167772160, .int .i64 8, .int .i64 1] rfl rfl 32 rz N6.out (info32 _ _ _) rfl one_r1 ?_; rw [World.setRow_alloc_new]; have k2 := cell_below k2 (bel_alloc (Below.refl _ w6) (.cells #[.int .u32 167772160, .int .i64 8, .int .i64 1] 32)); have k6 : (w6.alloc (.cells #[.int .u32 167772160, .int .i64 8, .int .i64 1] 32)).cell? ⟨w6.heap.size, 2, none⟩ = some (.int .i64 1) := World.cell?_alloc_mark w6 #[.int .u32 167772160, .int .i64 8, .int .i64 1] 32 (0, 0) 2))
  go_ret
  exact ⟨rfl, bel_alloc HB6.out _⟩
end Go.Proofs.Ytfpbcdlfcaglgaa.P
