/- BasicDecodes (walk). -/
import Derived.Test.YtifmckhabkghcaaE1
namespace Go.Proofs.Ytifmckhabkghcaa.P
open Go.RowKit
set_option linter.unusedSimpArgs false

set_option maxRecDepth 100000 in
set_option maxHeartbeats 1000000 in
theorem decodes5_long (k : Int) (s : ByteArray) (b : Int) (hs : 200 < s.size) (w : World) : Calls Try.prog 5 #[.agg #[.int .i64 k, .string s], .int .u8 b] w fun e w' => e = .returned (.bool true) ∧ Below w.heap.size w w' := by
  have hu27 := Try.underlying27
  have HA := Lib.hid awake15
  have d0 : decide (200 < (s.size : Int)) = true := decide_eq_true (by omega)
  have HB0 := Lib.hid (bel_alloc (Below.refl w.heap.size w) (.cells #[.int .i64 k, .string s] 27))
  go_enter Try.func5, Try.ntmps5
  go_wp2_with (first
    | (go_at_call 15; refine (HA.out _).mono ?_; rintro e w4 ⟨rfl, hb4⟩; have HB4 := Lib.hid (below_then HB0.out HB0.out.size hb4); clear hb4))
  go_ret
  exact ⟨rfl, HB4.out⟩
set_option maxRecDepth 100000 in
set_option maxHeartbeats 4000000 in
theorem decodes5_ok (k : Int) (l : List Nat) (hl : ∀ b ∈ l, b < 256) (b : Int) (h1 : l.length ≤ 200) (w : World) : Calls Try.prog 5 #[.agg #[.int .i64 k, .string (bs l)], .int .u8 b] w fun e w' => e = .returned (.bool true) ∧ Below w.heap.size w w' := by
  have hu25 := Try.underlying25
  have hu27 := Try.underlying27
  have HA := Lib.hid awake15
  have hsz := bs_size l
  have d0 : decide (200 < (l.length : Int)) = false := decide_eq_false (by omega)
  have HE := Lib.hid (dec19a k l hl h1)
  have HD := Lib.hid (dec20a k l hl h1)
  have hok := DL_ok k l
  have heq := eq25 hok.1 hok.1 hok.2 hok.2
  rw [show decide (DL k l = DL k l) = true by simp] at heq
  have hgd := gd25
  have HLV := Lib.hid (level17 b)
  have HW4 := Lib.hid (want4 b)
  have HWO := Lib.hid (want_ok b)
  have HH := Lib.hid (fun (i : Nat) (hi : i < 4) (h : byteL i = b) => want_hit hi h)
  have HN := Lib.hid (fun (i : Nat) (hi : i < 4) (h : byteL i ≠ b) => want_no hi h)
  have HBY := Lib.hid byte21
  generalize DL k l = X at HE HD heq
  generalize DN k l = N at HE HD
  have JB := Lib.hid (bel_alloc (Below.refl w.heap.size w) (.cells #[.int .i64 k, .string (bs l)] 27))
  have J0 := heap_alloc_new w (.cells #[.int .i64 k, .string (bs l)] 27)
  clear hl hok
  have hJ0 := Lib.hid J0
  clear J0
  go_enter Try.func5, Try.ntmps5
  go_wp2_with (first
    | (go_at_call 19; refine (HE.out _).mono ?_; rintro e w1 ⟨rfl, hb1⟩; have K0 := blk_below hJ0.out hb1; have N00 := Lib.hid (heap_alloc_new w1 (.cells z25 25)); have K1 := Lib.hid (heap_alloc_new w1 (.cells (labA X) 25)); have NA := Lib.hid (World.setRow_alloc_new w1 z25 (labA X) 25); unfold z25 at N00 NA; have HB1 := Lib.hid (bel_alloc (below_then JB.out JB.out.size hb1) (.cells (labA X) 25)); have KK := Lib.hid ((heap_alloc_old w1 (.cells (labA X) 25) (lt_of_block K0)).trans K0); have c0 : (w1.alloc (.cells (labA X) 25)).cell? ⟨w.heap.size, 0, none⟩ = some (.int .i64 k) := cell_of_row _ _ _ _ _ _ KK.out; have c1 : (w1.alloc (.cells (labA X) 25)).cell? ⟨w.heap.size, 1, none⟩ = some (.string (bs l)) := cell_of_row _ _ _ _ _ _ KK.out; clear hb1 K0)
    | (refine wpList_store_row rfl 25 (.tmp 5) (.tmp 21) rfl w1.heap.size (labA X) rfl rfl 25 z25 N00.out (info25 _) (by rw [labA_size]; rfl) (all_oneCell_toArray (labL_one _)) ?_; rw [NA.out])
    | (go_at_call 20; refine (HD.out _).mono ?_; rintro e w2 ⟨rfl, hb2⟩; have M1 := blk_below K1.out hb2; have N01 := Lib.hid (heap_alloc_new w2 (.cells z25 25)); have NB := Lib.hid (World.setRow_alloc_new w2 z25 (labA X) 25); have M2 := Lib.hid ((heap_alloc_old w2 (.cells (labA X) 25) (lt_of_block M1)).trans M1); have M3 := Lib.hid (heap_alloc_new w2 (.cells (labA X) 25)); unfold z25 at N01 NB; have HB2 := Lib.hid (bel_alloc (below_then HB1.out HB1.out.size hb2) (.cells (labA X) 25)); clear hb2 M1)
    | (refine wpList_store_row rfl 25 (.tmp 7) (.tmp 26) rfl w2.heap.size (labA X) rfl rfl 25 z25 N01.out (info25 _) (by rw [labA_size]; rfl) (all_oneCell_toArray (labL_one _)) ?_; rw [NB.out])
    | (go_at_call 17; refine (HLV.out _).mono ?_; rintro e w3 ⟨rfl, hb3⟩; have U2 := Lib.hid (blk_below M2.out hb3); have U3 := Lib.hid (blk_below M3.out hb3); have HB3 := Lib.hid (below_then HB2.out HB2.out.size hb3); clear hb3))
  generalize w2.heap.size = L2 at M3 U3 ⊢
  generalize w1.heap.size = L1 at K1 M2 U2 ⊢
  go_loopg [11, 12] 4 (fun gg s11 s12 wr => ∃ i : Nat, i ≤ 4 ∧ 4 - i ≤ gg ∧ s12 = .int .i64 i ∧ s11 = .int .i64 (wantN b i) ∧ w3 = wr)
  case atStart => exact ⟨0, Nat.zero_le _, Nat.le_refl _, rfl, by show Value.int .i64 0 = _; congr 1; unfold wantN; split <;> omega, rfl⟩
  case round =>
    obtain ⟨i, hi, hgg, rfl, rfl, rfl⟩ := hrel
    by_cases hlt : i < 4
    · have d1 : decide ((i : Int) < 4) = true := decide_eq_true (by omega)
      have q1 : IntKind.i64.wrap ((i : Int) + 1) = (i : Int) + 1 := IntWalk.i64_in _ (by omega)
      cases hb : (byteL i == b) with
      | true =>
        have HE := Lib.hid (HH.out i hlt (beq_iff_eq.1 hb))
        generalize wantN b i = q
        have HQ := Lib.hid (HBY.out (i : Int))
        generalize byteL i = y at hb HQ
        go_wp2_with (first
          | (go_at_call 21; refine (HQ.out _).mono ?_; rintro e w6 ⟨rfl, rfl⟩))
        go_roundg (4 - (i + 1))
        case measure => omega
        case rel => exact ⟨i + 1, hlt, Nat.le_refl _, rfl, by rw [HE.out], rfl⟩
      | false =>
        have HE := Lib.hid (HN.out i hlt (beq_eq_false_iff_ne.1 hb))
        have HQ := Lib.hid (HBY.out (i : Int))
        generalize byteL i = y at hb HQ
        go_wp2_with (first
          | (go_at_call 21; refine (HQ.out _).mono ?_; rintro e w6 ⟨rfl, rfl⟩))
        go_roundg (4 - (i + 1))
        case measure => omega
        case rel => exact ⟨i + 1, hlt, Nat.le_refl _, rfl, by rw [HE.out], rfl⟩
    · have hi4 : i = 4 := by omega
      subst hi4
      rw [HW4.out]
      have HQ := Lib.hid (HBY.out (lvlN b))
      generalize lvlN b = q at HQ HWO
      generalize byteL q = y at HQ HWO
      cases hb : lvlB b with
      | true =>
        have hy : (y == b) = true := beq_iff_eq.2 (of_decide_eq_true (by rw [← HWO.out]; exact hb))
        clear HWO hb
        go_wp2_with (first
          | (refine wpList_load_row rfl 25 (.tmp 5) rfl L1 rfl 25 (labA X) (0, 0) _ U2.out hu25 rfl (info25 _) ?_)
          | (refine wpList_load_row rfl 25 (.tmp 7) rfl L2 rfl 25 (labA X) (0, 0) _ U3.out hu25 rfl (info25 _) ?_)
          | (go_at_call 21; refine (HQ.out _).mono ?_; rintro e w6 ⟨rfl, rfl⟩)
          | (go_at_call 15; refine (HA.out _).mono ?_; rintro e w4 ⟨rfl, hb4⟩; have HB4 := Lib.hid (below_then HB3.out HB3.out.size hb4); clear hb4))
        go_ret
        exact ⟨rfl, HB4.out⟩
      | false =>
        have hy : (y == b) = false := beq_eq_false_iff_ne.2 (of_decide_eq_false (by rw [← HWO.out]; exact hb))
        clear HWO hb
        go_wp2_with (first
          | (refine wpList_load_row rfl 25 (.tmp 5) rfl L1 rfl 25 (labA X) (0, 0) _ U2.out hu25 rfl (info25 _) ?_)
          | (refine wpList_load_row rfl 25 (.tmp 7) rfl L2 rfl 25 (labA X) (0, 0) _ U3.out hu25 rfl (info25 _) ?_)
          | (go_at_call 21; refine (HQ.out _).mono ?_; rintro e w6 ⟨rfl, rfl⟩)
          | (go_at_call 15; refine (HA.out _).mono ?_; rintro e w4 ⟨rfl, hb4⟩; have HB4 := Lib.hid (below_then HB3.out HB3.out.size hb4); clear hb4))
        go_ret
        exact ⟨rfl, HB4.out⟩
theorem decodes5 (k : Int) (s : ByteArray) (b : Int) (w : World) : Calls Try.prog 5 #[.agg #[.int .i64 k, .string s], .int .u8 b] w fun e w' => e = .returned (.bool true) ∧ Below w.heap.size w w' := by
  by_cases hs : 200 < s.size
  · exact decodes5_long k s b hs w
  · have h := decodes5_ok k (bl s) (bl_lt s) b (by rw [bl_len]; omega) w
    rw [bl_bs] at h
    exact h
end Go.Proofs.Ytifmckhabkghcaa.P
