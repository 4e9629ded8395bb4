/- TrieFull walked (layer 14). -/
import Derived.Test.YtfpbcdlfcaglgaaNS
namespace Go.Proofs.Ytfpbcdlfcaglgaa.P
open Go.RowKit

theorem all22_nil (w : World) : Calls Try.prog 22 #[.pointer none] w fun e w' => e = .returned (.slice none 0 0) ∧ Below w.heap.size w w' := by
  go_enter Try.func22, Try.ntmps22
  go_wp2_with fail
  go_ret
  exact ⟨rfl, Below.refl _ _⟩
def fr8 (i : Nat) : Rt := ⟨i * 2 ^ 24, 8, 0⟩
def full (i : Nat) : List Rt := (List.range i).map fr8
theorem full_succ (i : Nat) : full (i + 1) = full i ++ [fr8 i] := by simp [full, List.range_succ]
theorem full_len (i : Nat) : (full i).length = i := by simp [full]
theorem fr8_right : ∀ i, i < 256 → rightB (i * 2 ^ 24) 8 = true := by decide +kernel
theorem full_err {i : Nat} (hi : i < 256) : errR (full i) (fr8 i) = 0 ∧ addN (full i) (fr8 i) = full (i + 1) := by
  have h : errR (full i) (fr8 i) = 0 := by
    refine err_zero (fr8_right i hi) ?_ (by rw [full_len]; exact hi)
    rintro ⟨y, hy, e1, _⟩
    obtain ⟨j, hj, rfl⟩ := List.mem_map.1 hy
    rw [List.mem_range] at hj
    have : j * 2 ^ 24 = i * 2 ^ 24 := e1
    omega
  exact ⟨h, by rw [addN, if_pos h, full_succ]⟩
theorem full_9 : errR (full 256) rt0 = 9 ∧ addN (full 256) rt0 = full 256 := by
  have hr : rightB 0 0 = true := by decide +kernel
  have hi : inB (full 256) rt0 = false := by
    rw [Bool.eq_false_iff]
    intro e
    obtain ⟨y, hy, _, e2⟩ := (inB_iff _ _).1 e
    obtain ⟨j, _, rfl⟩ := List.mem_map.1 hy
    cases e2
  have h : errR (full 256) rt0 = 9 := by
    have hl : 256 ≤ (full 256).length := by rw [full_len]; exact Nat.le_refl _
    simp only [errR, show rightB rt0.ad rt0.bt = true from hr, hi, if_true, hl]
    rfl
  exact ⟨h, by rw [addN, if_neg (by rw [h]; decide)]⟩
theorem full_mem {n : Nat} (hn : n < 256) : fr8 n ∈ full 256 := List.mem_map.2 ⟨n, List.mem_range.2 hn, rfl⟩
theorem full_again {now : List Rt} (h : ∀ y ∈ now, y ∈ full 256) (hl : now.length < 256) : errR now rt0 = 0 := by
  refine err_zero (by decide +kernel) ?_ hl
  rintro ⟨y, hy, _, e2⟩
  obtain ⟨j, _, rfl⟩ := List.mem_map.1 (h y hy)
  cases e2
theorem fr8_val (n : Nat) : ((fr8 n).ad : Int) = (n : Int) * 16777216 := by
  show ((n * 2 ^ 24 : Nat) : Int) = _
  omega
theorem drop8 {w : World} {M B g K n : Nat} {vf : Value} (h : TrS w M B g vf K (full 256)) (hn : n < 256) (hK : K ≤ 90000) :
    Calls Try.prog 12 #[.pointer (some ⟨B, 0, none⟩), .agg #[.int .u32 ((n : Int) * 16777216), .int .i64 8]] w fun e w' => e = .returned (.int .i64 0) ∧ ∃ g' vf', TrS w' M B g' vf' (K + 32) (dropN (full 256) (fr8 n).ad (fr8 n).bt) ∧ Chg B g vf w w' g' vf' := by
  rw [← fr8_val]
  have hD := (drop_in h.uq h.ok (full_mem hn)).1
  refine (dropS w M B g vf K _ h (fr8 n).ad (fr8 n).bt (show n * 2 ^ 24 < 2 ^ 32 by omega) hK (by rw [full_len]; omega)).mono fun e w' hh => ⟨?_, hh.2⟩
  rw [hh.1, hD]
theorem rtA_8 (n : Nat) : rtA (fr8 n) = #[.int .u32 ((n : Int) * 16777216), .int .i64 8, .int .i64 0] := by
  show #[Value.int .u32 ((fr8 n).ad : Int), .int .i64 8, .int .i64 0] = _
  rw [fr8_val]
set_option maxHeartbeats 2000000 in
theorem full6 (n a : Nat) (pa : Nat) (pb : Int) (w : World) (hn : n < 256) :
    Calls Try.prog 6 #[.int .u8 n, .int .u32 a, .agg #[.int .u32 pa, .int .i64 pb]] w fun e w' => e = .returned (.bool true) ∧ Below w.heap.size w w' := by
  have hu22 := Try.underlying22
  have hu30 := Try.underlying30
  have hu32 := Try.underlying32
  have HK := Lib.hid awake7
  have HN := Lib.hid hn
  have HBX := Lib.hid (bel_alloc (Below.refl _ w) (.cells #[.int .u32 (pa : Int), .int .i64 pb] 30))
  have HXX := Lib.hid (heap_alloc_new w (.cells #[.int .u32 (pa : Int), .int .i64 pb] 30))
  go_enter Try.func6, Try.ntmps6
  go_wp2_with fail
  generalize w.alloc (.cells #[.int .u32 (pa : Int), .int .i64 pb] 30) = W at *
  go_wp2_with (first
    | (go_at_call 7; refine Calls.mono (HK.out _) ?_; rintro e w1 ⟨rfl, hb⟩; have HB1 := Lib.hid (below_then HBX.out HBX.out.size hb); have HX1 := Lib.hid (blk_below HXX.out hb); clear hb)
    | (go_at_call 8; refine Calls.mono (newS w1) ?_; rintro e w2 ⟨B, g0, rfl, ht, hb, _, _⟩; have HT2 := Lib.hid (show TrS w2 w1.heap.size B g0 (.slice none 0 0) 1 (full 0) from ht); have HB2 := Lib.hid hb; clear ht hb))
  go_loopg [8] 257 (fun gg s8 wr => ∃ (i g : Nat) (vf : Value), i ≤ 256 ∧ 257 - i ≤ gg ∧ s8 = .int .i64 i ∧ Hid (TrS wr w1.heap.size B g vf (1 + 32 * i) (full i)) ∧ Hid (Below w1.heap.size w1 wr))
  case atStart => exact ⟨0, g0, _, Nat.zero_le _, Nat.sub_le _ _, rfl, HT2, HB2⟩
  case round =>
    obtain ⟨i, g, vf, hi, hgg, rfl, HT, BR⟩ := hrel
    clear HT2 HB2
    by_cases hlt : i < 256
    · have d1 : decide ((i : Int) < 256) = true := decide_eq_true (by omega)
      have HAS := Lib.hid (add_zero wr w1.heap.size B g vf (1 + 32 * i) _ HT.out (fr8 i) (show i * 2 ^ 24 < 2 ^ 32 by omega) (by omega) (full_err hlt).1)
      rw [rtA_8] at HAS
      go_wp2_with (first
        | (go_at_call 9; refine Calls.mono HAS.out ?_; rintro e w3 ⟨rfl, g3, vf3, ht3, hc3⟩; have HT3 := Lib.hid ht3; have HB3 := Lib.hid (BR.out.trans (HT.out.low hc3)); clear ht3 hc3))
      go_roundg (257 - (i + 1))
      case measure => omega
      case rel =>
        refine ⟨i + 1, g3, vf3, hlt, Nat.le_refl _, by go_num, Lib.hid ?_, HB3⟩
        rw [show 1 + 32 * (i + 1) = 1 + 32 * i + 32 by omega, ← (full_err hlt).2]
        exact HT3.out
    · have d1 : decide ((i : Int) < 256) = false := decide_eq_false (by omega)
      have hi2 : i = 256 := by omega
      subst hi2
      have HA1 := Lib.hid (show Calls Try.prog 9 #[.pointer (some ⟨B, 0, none⟩), .agg (rtA rt0)] wr fun e w' => e = .returned (.int .i64 9) ∧ ∃ g' vf', TrS w' w1.heap.size B g' vf' (1 + 32 * 256 + 32) (full 256) ∧ Chg B g vf wr w' g' vf' from
        (addS wr w1.heap.size B g vf (1 + 32 * 256) _ HT.out rt0 (by decide) (by omega)).mono fun e w' hh => by rw [full_9.1, full_9.2] at hh; exact hh)
      have hXlt : w.heap.size < w1.heap.size := lt_of_block HX1.out
      go_wp2_with (first
        | (go_at_call 9; refine Calls.mono HA1.out ?_; clear HA1; rintro e w3 ⟨rfl, g3, vf3, ht3, hc3⟩; have HT3 := Lib.hid ht3; have HB3 := Lib.hid (BR.out.trans (HT.out.low hc3)); have HD := Lib.hid (drop_in ht3.uq ht3.ok (full_mem HN.out)); have HDR := Lib.hid (show Calls Try.prog 12 #[.pointer (some ⟨B, 0, none⟩), .agg #[.int .u32 ((n : Int) * 16777216), .int .i64 8]] w3 fun e w' => e = .returned (.int .i64 0) ∧ ∃ g' vf', TrS w' w1.heap.size B g' vf' (1 + 32 * 256 + 32 + 32) (dropN (full 256) (fr8 n).ad (fr8 n).bt) ∧ Chg B g3 vf3 w3 w' g' vf' from drop8 ht3 HN.out (by omega)); clear ht3 hc3)
        | (go_at_call 12; refine Calls.mono HDR.out ?_; clear HDR; rintro e w4 ⟨rfl, g4, vf4, ht4, hc4⟩; have HT4 := Lib.hid ht4; have HB4 := Lib.hid (HB3.out.trans (HT3.out.low hc4)); have HA2 := Lib.hid (add_zero w4 w1.heap.size B g4 vf4 _ _ ht4 rt0 (by decide) (by omega) (full_again (fun y hy => ((HD.out.2.1 y).1 hy).1) (by have := HD.out.2.2; rw [full_len] at this; omega))); clear ht4 hc4)
        | (go_at_call 9; refine Calls.mono HA2.out ?_; clear HA2; rintro e w5 ⟨rfl, g5, vf5, ht5, hc5⟩; have HB5 := Lib.hid (HB4.out.trans (HT4.out.low hc5)); have HX5 := Lib.hid ((HB5.out.block _ hXlt).trans HX1.out); clear ht5 hc5)
        | (go_at_call 10; refine Calls.mono (show Calls Try.prog 10 #[.pointer none, .int .u32 a] w5 fun e w' => e = .returned (.tuple #[.agg (rtA rt0), .bool false]) ∧ Below w5.heap.size w5 w' from find10_nil w5 a) ?_; rintro e w6 ⟨rfl, hb⟩; have HB6 := Lib.hid (bel_alloc (below_then HB5.out HB5.out.size hb) (.cells (rtA rt0) 32)); have HX6 := Lib.hid (blk_below (blk_below HX5.out hb) (bel_alloc (Below.refl _ _) (.cells (rtA rt0) 32))); have N6 := Lib.hid (heap_alloc_new w6 (.cells rz 32)); clear hb)
        | (refine wpList_store_row rfl 32 (.tmp 13) (.tmp 50) rfl w6.heap.size (rtA rt0) rfl rfl 32 rz N6.out (info32 _ _ _) rfl (one32 _) ?_; rw [World.setRow_alloc_new]; generalize w6.alloc (.cells (rtA rt0) 32) = w7 at HB6 HX6 ⊢; have c0 : w7.cell? ⟨w.heap.size, 0, none⟩ = some (.int .u32 pa) := (by rw [cell_of_row _ _ _ _ _ _ HX6.out]; rfl); have c1 : w7.cell? ⟨w.heap.size, 1, none⟩ = some (.int .i64 pb) := (by rw [cell_of_row _ _ _ _ _ _ HX6.out]; rfl))
        | (go_at_call 20; refine Calls.mono (show Calls Try.prog 20 #[.pointer none, .agg #[.int .u32 pa, .int .i64 pb]] w7 fun e w' => e = .returned (.tuple #[.agg (rtA rt0), .bool false]) ∧ Below w7.heap.size w7 w' from get20_nil w7 pa pb) ?_; rintro e w8 ⟨rfl, hb⟩; have HB8 := Lib.hid (bel_alloc (below_then HB6.out HB6.out.size hb) (.cells (rtA rt0) 32)); have c0 := cell_below (cell_below c0 hb) (bel_alloc (Below.refl _ w8) (.cells (rtA rt0) 32)); have c1 := cell_below (cell_below c1 hb) (bel_alloc (Below.refl _ w8) (.cells (rtA rt0) 32)); have N8 := Lib.hid (heap_alloc_new w8 (.cells rz 32)); clear hb)
        | (refine wpList_store_row rfl 32 (.tmp 15) (.tmp 56) rfl w8.heap.size (rtA rt0) rfl rfl 32 rz N8.out (info32 _ _ _) rfl (one32 _) ?_; rw [World.setRow_alloc_new]; generalize w8.alloc (.cells (rtA rt0) 32) = w9 at HB8 c0 c1 ⊢)
        | (go_at_call 9; refine Calls.mono (add9_nil w9 ⟨pa, pb, 0⟩) ?_; rintro e w10 ⟨rfl, hb⟩; have HB10 := Lib.hid (below_then HB8.out HB8.out.size hb); have c0 := cell_below c0 hb; have c1 := cell_below c1 hb; clear hb)
        | (go_at_call 12; refine Calls.mono (drop12_nil w10 pa pb) ?_; rintro e w11 ⟨rfl, hb⟩; have HB11 := Lib.hid (below_then HB10.out HB10.out.size hb); clear hb)
        | (go_at_call 13; refine Calls.mono (len13_nil w11) ?_; rintro e w12 ⟨rfl, rfl⟩)
        | (go_at_call 14; refine Calls.mono (nodes14_nil w11) ?_; rintro e w12 ⟨rfl, rfl⟩)
        | (go_at_call 22; refine Calls.mono (all22_nil w11) ?_; rintro e w13 ⟨rfl, hb⟩; have HB13 := Lib.hid (below_then HB11.out HB11.out.size hb); clear hb))
      go_ret
      exact ⟨rfl, bel_trans HB1.out HB13.out⟩
end Go.Proofs.Ytfpbcdlfcaglgaa.P
