/- BasicSizes. -/
import Derived.Test.YtifmckhabkghcaaB5
import Derived.Laws.StructEq
namespace Go.Proofs.Ytifmckhabkghcaa.P
open Go.RowKit
set_option linter.unusedSimpArgs false

theorem encE_fits (x : Lab) : fitsB x = decide (encE x = 0) := by
  unfold encE fitsB rightL
  by_cases h0 : 0 ≤ x.lv <;> by_cases h1 : x.lv < 4 <;> by_cases h2 : x.lv ≤ 255 <;> by_cases h3 : mostB x.S 240 < 28 <;> simp [h0, h1, h2, h3] <;> omega
theorem eq27 (k l : Int) (s t : ByteArray) (w : World) : (Op.equalIn 10000 27 (.agg #[.int .i64 k, .string s]) (.agg #[.int .i64 l, .string t])).run Try.prog w = .ok (decide (k = l) && decide (s = t)) w := by
  have u3 := Try.underlying3
  have a3 := Try.isAgg3
  have z3 := Try.sizeOf3
  have u9 := Try.underlying9
  have a9 := Try.isAgg9
  have z9 := Try.sizeOf9
  have hS : Try.prog.underlying 27 = some (.struct (Try.prog.fieldsOf 27)) := by kernel_rfl
  rw [show (10000 : Nat) = 9999 + 1 from rfl, run_equalIn_struct w 9999 27 _ _ hS (by kernel_rfl)]
  simp only [Program.fieldsOf, Try.underlying27]
  by_cases h : k = l
  · have q : decide (k = l) = true := decide_eq_true h
    go_simp
    by_cases hst : s = t
    · subst hst; simp
    · rw [if_neg (fun h => hst (by
        rw [ByteArray.toList_eq, ByteArray.toList_eq] at h
        exact ByteArray.ext (Array.toList_inj.1 h)))]
      simp [hst]
  · have q : decide (k = l) = false := decide_eq_false h
    go_simp
theorem gd27 (op : BinOp) (a b : Operand) (xs ys : Array Value) (w : World) : (eqGuard op 27 a b (.agg xs) (.agg ys)).run Try.prog w = .ok () w := run_eqGuard_agg w op 27 a b xs ys (by kernel_rfl)
theorem eq27z (w : World) : (Op.equalIn 10000 27 (.agg #[.int .i64 0, .string { data := #[] }]) (.agg #[.int .i64 0, .string { data := #[] }])).run Try.prog w = .ok true w := by
  rw [eq27]; simp
set_option maxRecDepth 100000 in
set_option maxHeartbeats 2000000 in
theorem sizes3_no (x : Lab) (hS : x.S < 2 ^ 240) (he : encE x ≠ 0) (w : World) : Calls Try.prog 3 #[.agg (labA x)] w fun e w' => e = .returned (.bool true) ∧ Below w.heap.size w w' := by
  have hu25 := Try.underlying25
  have hu27 := Try.underlying27
  have hu23 := Try.underlying23
  have heq := eq27z
  have hgd := gd27
  have HA := Lib.hid awake15
  have HF := Lib.hid (fits14 x)
  rw [encE_fits, decide_eq_false he] at HF
  have HE := Lib.hid (show ∀ w, Calls Try.prog 13 #[.agg (labA x)] w fun e w' => e = .returned (.tuple #[.agg #[.int .i64 0, .string { data := #[] }], .int .i64 (encE x)]) ∧ Below w.heap.size w w' from fun w => by
    have h := enc13 x hS w
    rw [show encK x = 0 by simp [encK, he], show encD x = [] by simp [encD, he]] at h
    exact h)
  have H0 := Lib.hid (heap_alloc_new w (.cells (labA x) 25))
  have HB0 := Lib.hid (bel_alloc (Below.refl w.heap.size w) (.cells (labA x) 25))
  generalize encE x = n at HE he
  have d0 : decide ((n : Int) = 0) = false := decide_eq_false (by omega)
  go_enter Try.func3, Try.ntmps3
  go_wp2_with (first
    | (refine wpList_load_row rfl 25 (.tmp 1) rfl w.heap.size rfl 25 (labA x) (0, 0) _ H0.out hu25 rfl (info25 _) ?_)
    | (go_at_call 13; refine (HE.out _).mono ?_; rintro e w1 ⟨rfl, hb1⟩; have K0 := Lib.hid ((heap_alloc_old w1 (.cells #[.int .i64 0, .string { data := #[] }] 27) (lt_of_block (blk_below H0.out hb1))).trans (blk_below H0.out hb1)); have HB1 := Lib.hid (bel_alloc hb1 (.cells #[.int .i64 0, .string { data := #[] }] 27)); clear hb1)
    | (refine load_row_g 25 (.tmp 1) rfl w.heap.size rfl 25 (labA x) (0, 0) _ K0.out hu25 rfl (info25 _) rfl ?_)
    | (go_at_call 14; refine (HF.out _).mono ?_; rintro e w2 ⟨rfl, hb2⟩; have HB2 := Lib.hid hb2; clear hb2)
    | (go_at_call 15; refine (HA.out _).mono ?_; rintro e w3 ⟨rfl, hb3⟩; have HB3 := Lib.hid hb3; clear hb3))
  go_ret
  exact ⟨rfl, below_then HB0.out HB0.out.size (below_then HB1.out HB1.out.size (below_then HB2.out HB2.out.size HB3.out))⟩
theorem bs_size (l : List Nat) : (bs l).size = l.length := by simp [bs, ByteArray.size]
theorem lvb_lt (n : Nat) : lvb n < 256 := by unfold lvb; split <;> (try split) <;> (try split) <;> omega
theorem bs0 (b : Nat) (l : List Nat) (hb : b < 256) (h : 0 < (bs (b :: l)).size) : ((bs (b :: l))[0]'h).toNat = b := by
  show (UInt8.ofNat b).toNat = b
  simp; omega
theorem lvl_of (n : Nat) (h : n < 4) : lvlI (lvb n) = n := by
  have : n = 0 ∨ n = 1 ∨ n = 2 ∨ n = 3 := by omega
  rcases this with rfl | rfl | rfl | rfl <;> rfl
theorem mostB_28 (S : Nat) (h : mostB S 240 < 28) : mostB S 28 = mostB S 240 := by
  have : ∀ d, d ≤ 212 → mostB S (28 + d) = mostB S 28 := by
    intro d
    induction d with
    | zero => intro _; rfl
    | succ d ih =>
      intro hd
      show (if S.testBit (28 + d) = true then ((28 + d : Nat) : Int) else mostB S (28 + d)) = mostB S 28
      rw [if_neg, ih (by omega)]
      intro hb
      have := mostB_le S 240 (28 + d) (by omega) hb
      omega
  exact (this 212 (Nat.le_refl _)).symm
set_option maxRecDepth 100000 in
set_option maxHeartbeats 2000000 in
theorem sizes3_ok (x : Lab) (hS : x.S < 2 ^ 240) (he : encE x = 0) (w : World) : Calls Try.prog 3 #[.agg (labA x)] w fun e w' => e = .returned (.bool true) ∧ Below w.heap.size w w' := by
  have hu25 := Try.underlying25
  have hu27 := Try.underlying27
  have hu23 := Try.underlying23
  have HA := Lib.hid awake15
  have hff : fitsB x = true := by rw [encE_fits]; exact decide_eq_true he
  obtain ⟨n, hn⟩ : ∃ n : Nat, x.lv = n := ⟨x.lv.toNat, by simp [fitsB] at hff; omega⟩
  have hn4 : n < 4 := by simp [fitsB] at hff; omega
  have hm : mostB x.S 240 < 28 := by simp [fitsB] at hff; omega
  have HE := Lib.hid (show ∀ w, Calls Try.prog 13 #[.agg (labA x)] w fun e w' => e = .returned (.tuple #[.agg #[.int .i64 130, .string (bs (lvb n :: authL x.S))], .int .i64 0]) ∧ Below w.heap.size w w' from fun w => by
    have h := enc13 x hS w
    rw [show encK x = 130 by simp [encK, he], show encD x = lvb n :: authL x.S by simp [encD, he, encL, hn], he] at h
    exact h)
  have HG := Lib.hid (fun k w => has16 x.S k w)
  have H0 := Lib.hid (heap_alloc_new w (.cells (labA x) 25))
  have HB0 := Lib.hid (bel_alloc (Below.refl w.heap.size w) (.cells (labA x) 25))
  have hsz : (bs (lvb n :: authL x.S)).size = 1 + authN x.S := by rw [bs_size, List.length_cons, authL_len]; omega
  have HM := Lib.hid (mostB_28 x.S hm)
  have HLV := Lib.hid (show ∀ w, Calls Try.prog 17 #[.int .u8 (lvb n)] w fun e w' => e = .returned (.tuple #[.int .i64 n, .bool true]) ∧ Below w.heap.size w w' from fun w => by
    have h := level17 (lvb n) w
    have e := lvl_of n hn4
    rw [show lvlN (lvb n) = n by unfold lvlN; rw [e]; omega, show lvlB (lvb n) = true by unfold lvlB; rw [e]; simp] at h
    exact h)
  have hL0 := labA_0 x
  rw [hn] at hL0
  have hau := authN_le x.S
  have hai := authN_int x.S
  have hmg := mostB_ge x.S 240
  clear hff he
  have hbz : ((1 + (authN x.S : Int)) == 0) = false := by simp; omega
  go_enter Try.func3, Try.ntmps3
  go_wp2_with (first
    | (refine wpList_load_row rfl 25 (.tmp 1) rfl w.heap.size rfl 25 (labA x) (0, 0) _ H0.out hu25 rfl (info25 _) ?_)
    | (go_at_call 13; refine (HE.out _).mono ?_; rintro e w1 ⟨rfl, hb1⟩; have K0 := Lib.hid ((heap_alloc_old w1 (.cells #[.int .i64 130, .string (bs (lvb n :: authL x.S))] 27) (lt_of_block (blk_below H0.out hb1))).trans (blk_below H0.out hb1)); have K1 := Lib.hid (heap_alloc_new w1 (.cells #[.int .i64 130, .string (bs (lvb n :: authL x.S))] 27)); have HB1 := Lib.hid (below_then HB0.out HB0.out.size (bel_alloc hb1 (.cells #[.int .i64 130, .string (bs (lvb n :: authL x.S))] 27))); clear hb1))
  clear H0 HE HB0
  generalize w1.heap.size = D at K1 ⊢
  go_loopg [5, 6] 28 (fun gg s5 s6 wr => ∃ (i : Nat), i ≤ 28 ∧ 28 - i ≤ gg ∧ s5 = .int .i64 (mostB x.S i) ∧ s6 = .int .i64 i ∧ Hid (wr.heap[w.heap.size]? = some (.cells (labA x) 25 (0, 0))) ∧ Hid (wr.heap[D]? = some (.cells #[.int .i64 130, .string (bs (lvb n :: authL x.S))] 27 (0, 0))) ∧ Hid (Below w.heap.size w wr))
  case atStart => exact ⟨0, Nat.zero_le _, Nat.le_refl _, rfl, rfl, K0, K1, HB1⟩
  case round =>
    obtain ⟨i, hi, hgg, rfl, rfl, K2, K3, BR⟩ := hrel
    clear K0 K1 HB1
    have R2 := Lib.hid (range_of K2.out)
    have hi23 := info23L x.S
    by_cases hlt : i < 28
    · have d1 : decide ((i : Int) < 28) = true := decide_eq_true (by omega)
      have q1 : IntKind.i64.wrap ((i : Int) + 1) = ((i + 1 : Nat) : Int) := by rw [IntWalk.i64_in _ (by omega)]; rfl
      cases hb : x.S.testBit i with
      | true =>
        have HH := Lib.hid (show ∀ w, Calls Try.prog 16 #[.agg (catA x.S), .int .i64 i] w fun e w' => e = .returned (.bool true) ∧ Below w.heap.size w w' from fun w => by
          have h := HG.out i w
          rwa [show hasB x.S i = true by simp [hasB, rightB, hb]; omega] at h)
        go_wp2_with (first
          | (refine load_mid_g 23 (.tmp 35) rfl w.heap.size 1 rfl (catL x.S) _ R2.out hu23 rfl hi23 rfl ?_)
          | (go_at_call 16; refine (HH.out _).mono ?_; rintro e w2 ⟨rfl, hb2⟩; have K4 := Lib.hid (blk_below K2.out hb2); have K5 := Lib.hid (blk_below K3.out hb2); have B5 := Lib.hid (below_then BR.out BR.out.size hb2); clear hb2))
        go_roundg (28 - (i + 1))
        case measure => omega
        case rel => exact ⟨i + 1, hlt, Nat.le_refl _, by show _ = Value.int .i64 (if x.S.testBit i = true then (i : Int) else mostB x.S i); rw [if_pos hb], rfl, K4, K5, B5⟩
      | false =>
        have HH := Lib.hid (show ∀ w, Calls Try.prog 16 #[.agg (catA x.S), .int .i64 i] w fun e w' => e = .returned (.bool false) ∧ Below w.heap.size w w' from fun w => by
          have h := HG.out i w
          rwa [show hasB x.S i = false by simp [hasB, hb]] at h)
        go_wp2_with (first
          | (refine load_mid_g 23 (.tmp 35) rfl w.heap.size 1 rfl (catL x.S) _ R2.out hu23 rfl hi23 rfl ?_)
          | (go_at_call 16; refine (HH.out _).mono ?_; rintro e w2 ⟨rfl, hb2⟩; have K4 := Lib.hid (blk_below K2.out hb2); have K5 := Lib.hid (blk_below K3.out hb2); have B5 := Lib.hid (below_then BR.out BR.out.size hb2); clear hb2))
        go_roundg (28 - (i + 1))
        case measure => omega
        case rel => exact ⟨i + 1, hlt, Nat.le_refl _, by show _ = Value.int .i64 (if x.S.testBit i = true then (i : Int) else mostB x.S i); rw [if_neg (by rw [hb]; decide)], rfl, K4, K5, B5⟩
    · have d1 : decide ((i : Int) < 28) = false := decide_eq_false (by omega)
      have hi2 : i = 28 := by omega
      subst hi2
      rw [HM.out]
      have c0 := (cell_of_row _ _ _ _ _ _ K2.out : wr.cell? ⟨w.heap.size, 0, none⟩ = _)
      rw [hL0] at c0
      have cD : wr.cell? ⟨D, 1, none⟩ = some (.string (bs (lvb n :: authL x.S))) := cell_of_row _ _ _ _ _ _ K3.out
      generalize hmo : mostB x.S 240 = m at hai hmg
      have hb0 := bs0 (lvb n) (authL x.S) (lvb_lt n)
      have q2 : IntKind.i64.wrap (m + 7) = m + 7 := IntWalk.i64_in _ (by omega)
      have q3 : Int.tdiv (m + 7) 7 = (authN x.S : Int) := by rw [Int.tdiv_eq_ediv_of_nonneg (by omega)]; exact hai
      have q4 : IntKind.i64.wrap (authN x.S : Int) = authN x.S := IntWalk.i64_in _ (by omega)
      have q5 : IntKind.i64.wrap (1 + (authN x.S : Int)) = 1 + authN x.S := IntWalk.i64_in _ (by omega)
      go_wp2_with (first
        | (go_at_call 17; refine (HLV.out _).mono ?_; rintro e w2 ⟨rfl, hb2⟩; have c1 : w2.cell? ⟨w.heap.size, 0, none⟩ = some (.int .i64 n) := (hb2.cell (p := ⟨w.heap.size, 0, none⟩) (lt_of_block K2.out)).trans c0; have c2 : w2.cell? ⟨D, 1, none⟩ = some (.string (bs (lvb n :: authL x.S))) := (hb2.cell (p := ⟨D, 1, none⟩) (lt_of_block K3.out)).trans cD; have HB2 := Lib.hid hb2; clear hb2)
        | (go_at_call 15; refine (HA.out _).mono ?_; rintro e w3 ⟨rfl, hb3⟩; have HB3 := Lib.hid hb3; clear hb3))
      go_ret
      exact ⟨rfl, below_then BR.out BR.out.size (below_then HB2.out HB2.out.size HB3.out)⟩
theorem sizes3 (x : Lab) (hS : x.S < 2 ^ 240) (w : World) : Calls Try.prog 3 #[.agg (labA x)] w fun e w' => e = .returned (.bool true) ∧ Below w.heap.size w w' := by
  by_cases he : encE x = 0
  · exact sizes3_ok x hS he w
  · exact sizes3_no x hS he w
end Go.Proofs.Ytifmckhabkghcaa.P
