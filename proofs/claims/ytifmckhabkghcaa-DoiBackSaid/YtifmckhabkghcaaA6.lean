/- Contracts of label.Right (one), Dominates, In, of the references' Within and Dominates. For labels; no condition beyond the bytes'. -/
import Derived.Test.YtifmckhabkghcaaA5
namespace Go.Proofs.Ytifmckhabkghcaa.P
open Go.RowKit
set_option linter.unusedSimpArgs false

set_option maxRecDepth 100000 in
set_option maxHeartbeats 2000000 in
theorem rwithin61 (S T : Nat) (hS : S < 2 ^ 240) (w : World) : Calls Try.prog 61 #[.agg (catA S), .agg (catA T)] w fun e w' => e = .returned (.bool (decide (S &&& T = S))) ∧ Below w.heap.size w w' := by
  have hu23 := Try.underlying23
  have H0 := Lib.hid (heap_alloc2_old w (.cells (catA S) 23) (.cells (catA T) 23))
  have H1 := Lib.hid (heap_alloc2_new w (.cells (catA S) 23) (.cells (catA T) 23))
  have HB := Lib.hid (bel_alloc (bel_alloc (Below.refl w.heap.size w) (.cells (catA S) 23)) (.cells (catA T) 23))
  go_enter Try.func61, Try.ntmps61
  go_wp2_with fail
  go_loopg [5] 240 (fun gg s5 wr => ∃ n : Nat, n ≤ 240 ∧ 240 - n ≤ gg ∧ s5 = .int .i64 n ∧ Hid (∀ j, j < n → S.testBit j = true → T.testBit j = true) ∧ Hid (wr.heap[w.heap.size]? = some (.cells (catA S) 23 (0, 0))) ∧ Hid (wr.heap[w.heap.size + 1]? = some (.cells (catA T) 23 (0, 0))) ∧ Hid (Below w.heap.size w wr))
  case atStart => exact ⟨0, Nat.zero_le _, Nat.le_refl _, rfl, fun j hj => absurd hj (Nat.not_lt_zero _), H0.out, H1.out, HB.out⟩
  case round =>
    obtain ⟨n, hn, hgg, rfl, HI, K0, K1, BR⟩ := hrel
    clear H0 H1 HB
    by_cases hlt : n < 240
    · have h0 : (0 : Int) ≤ (n : Int) := by omega
      have h1 : (n : Int) < 240 := by omega
      have hr : rightB n = true := by unfold rightB; simp; omega
      cases hb : S.testBit n with
      | false =>
        have HE := Lib.hid (show hasB S n = false by simp [hasB, hb])
        have HH := Lib.hid (has16 S n)
        have HI2 := Lib.hid (show ∀ j, j < n + 1 → S.testBit j = true → T.testBit j = true from fun j hj hs => by
          rcases Nat.lt_or_ge j n with h | h
          · exact HI.out j h hs
          · obtain rfl : j = n := by omega
            rw [hb] at hs; cases hs)
        rw [HE.out] at HH
        clear hb hr
        go_wp2_with (first
          | (refine load_row_g 23 (.tmp 2) rfl w.heap.size rfl 23 (catA S) (0, 0) _ K0.out hu23 rfl (info23 _) rfl ?_)
          | (go_at_call 16; (with_reducible refine (HH.out _).mono ?_); rintro e w4 ⟨rfl, hb'⟩; have HB' := Lib.hid hb'; clear hb'))
        go_roundg (240 - (n + 1))
        case measure => omega
        case rel => exact ⟨n + 1, by omega, Nat.le_refl _, by go_num, HI2.out, blk_below K0.out HB'.out, blk_below K1.out HB'.out, below_then BR.out BR.out.size HB'.out⟩
      | true =>
        have HE := Lib.hid (show hasB S n = true by simp [hasB, hb, hr])
        have HH := Lib.hid (has16 S n)
        have HT := Lib.hid (has16 T n)
        rw [HE.out] at HH
        cases hc : T.testBit n with
        | true =>
          have HF := Lib.hid (show hasB T n = true by simp [hasB, hc, hr])
          have HI2 := Lib.hid (show ∀ j, j < n + 1 → S.testBit j = true → T.testBit j = true from fun j hj hs => by
            rcases Nat.lt_or_ge j n with h | h
            · exact HI.out j h hs
            · obtain rfl : j = n := by omega
              exact hc)
          rw [HF.out] at HT
          clear hb hc hr
          go_wp2_with (first
            | (refine load_row_g 23 (.tmp 2) rfl w.heap.size rfl 23 (catA S) (0, 0) _ K0.out hu23 rfl (info23 _) rfl ?_)
            | (refine load_row_g 23 (.tmp 3) rfl (w.heap.size + 1) rfl 23 (catA T) (0, 0) _ K4.out hu23 rfl (info23 _) rfl ?_)
            | (go_at_call 16; (with_reducible refine (HH.out _).mono ?_); rintro e w4 ⟨rfl, hb'⟩; have HB' := Lib.hid hb'; have K3 := Lib.hid (blk_below K0.out hb'); have K4 := Lib.hid (blk_below K1.out hb'); clear hb')
            | (go_at_call 16; (with_reducible refine (HT.out _).mono ?_); rintro e w5 ⟨rfl, hb'⟩; have HB2 := Lib.hid hb'; clear hb'))
          go_roundg (240 - (n + 1))
          case measure => omega
          case rel =>
            have hb3 := below_then HB'.out HB'.out.size HB2.out
            exact ⟨n + 1, by omega, Nat.le_refl _, by go_num, HI2.out, blk_below K0.out hb3, blk_below K1.out hb3, below_then BR.out BR.out.size hb3⟩
        | false =>
          have HF := Lib.hid (show hasB T n = false by simp [hasB, hc])
          have HN := Lib.hid (show decide (S &&& T = S) = false from decide_eq_false (fun e => by
            have := congrArg (·.testBit n) e
            simp [Nat.testBit_and, hb, hc] at this))
          rw [HF.out] at HT
          clear hb hc hr
          go_wp2_with (first
            | (refine load_row_g 23 (.tmp 2) rfl w.heap.size rfl 23 (catA S) (0, 0) _ K0.out hu23 rfl (info23 _) rfl ?_)
            | (refine load_row_g 23 (.tmp 3) rfl (w.heap.size + 1) rfl 23 (catA T) (0, 0) _ K4.out hu23 rfl (info23 _) rfl ?_)
            | (go_at_call 16; (with_reducible refine (HH.out _).mono ?_); rintro e w4 ⟨rfl, hb'⟩; have HB' := Lib.hid hb'; have K3 := Lib.hid (blk_below K0.out hb'); have K4 := Lib.hid (blk_below K1.out hb'); clear hb')
            | (go_at_call 16; (with_reducible refine (HT.out _).mono ?_); rintro e w5 ⟨rfl, hb'⟩; have HB2 := Lib.hid hb'; clear hb'))
          go_ret
          exact ⟨ret_bool HN.out.symm, below_then BR.out BR.out.size (below_then HB'.out HB'.out.size HB2.out)⟩
    · have hn2 : n = 240 := by omega
      subst hn2
      have HN := Lib.hid (show decide (S &&& T = S) = true from decide_eq_true (set_ext_bits (Nat.lt_of_le_of_lt Nat.and_le_left hS) hS fun k hk => by
        rw [Nat.testBit_and]
        cases hb : S.testBit k with
        | false => rfl
        | true => rw [HI.out k hk hb]; rfl))
      have e0 : ((240 : Nat) : Int) = 240 := rfl
      rw [e0]
      clear e0
      go_wp2_with fail
      go_ret
      exact ⟨ret_bool HN.out.symm, BR.out⟩

/-- Does a label dominate another one? -/
def domB (x y : Lab) : Bool := decide (y.lv ≤ x.lv) && decide (y.S &&& x.S = y.S)
set_option maxRecDepth 100000 in
set_option maxHeartbeats 2000000 in
theorem dom66 (x y : Lab) (hy : y.S < 2 ^ 240) (w : World) : Calls Try.prog 66 #[.agg (labA x), .agg (labA y)] w fun e w' => e = .returned (.bool (domB x y)) ∧ Below w.heap.size w w' := by
  have hu23 := Try.underlying23
  have hu25 := Try.underlying25
  have H0 := heap_alloc2_old w (.cells (labA x) 25) (.cells (labA y) 25)
  have H1 := heap_alloc2_new w (.cells (labA x) 25) (.cells (labA y) 25)
  have R0 := Lib.hid (range_of H0)
  have R1 := Lib.hid (range_of H1)
  have HW := Lib.hid (within74 y.S x.S hy)
  have HB := Lib.hid (bel_alloc (bel_alloc (Below.refl w.heap.size w) (.cells (labA x) 25)) (.cells (labA y) 25))
  have c0 := labA_0 x
  have d0 := labA_0 y
  have hi0 := info23L x.S
  have hi1 := info23L y.S
  clear H0 H1
  by_cases hl : y.lv ≤ x.lv
  · have HE := Lib.hid (show domB x y = decide (y.S &&& x.S = y.S) by simp [domB, hl])
    have hd : decide (y.lv ≤ x.lv) = true := decide_eq_true hl
    generalize y.S &&& x.S = q at HE HW
    go_enter Try.func66, Try.ntmps66
    go_wp2_with (first
      | (refine load_mid_g 23 (.tmp 11) rfl (w.heap.size + 1) 1 rfl (catL y.S) _ R1.out hu23 rfl hi1 rfl ?_)
      | (refine load_mid_g 23 (.tmp 13) rfl w.heap.size 1 rfl (catL x.S) _ R0.out hu23 rfl hi0 rfl ?_)
      | (go_at_call 74; refine (HW.out _).mono ?_; rintro e w4 ⟨rfl, hb'⟩; have HB' := Lib.hid hb'; clear hb'))
    go_ret
    exact ⟨ret_bool HE.out.symm, below_then HB.out HB.out.size HB'.out⟩
  · have HE := Lib.hid (show domB x y = false by simp [domB, hl])
    have hd : decide (y.lv ≤ x.lv) = false := decide_eq_false hl
    go_enter Try.func66, Try.ntmps66
    go_wp2_with fail
    go_ret
    exact ⟨ret_bool HE.out.symm, HB.out⟩
set_option maxRecDepth 100000 in
set_option maxHeartbeats 2000000 in
theorem rdom33 (x y : Lab) (hy : y.S < 2 ^ 240) (w : World) : Calls Try.prog 33 #[.agg (labA x), .agg (labA y)] w fun e w' => e = .returned (.bool (domB x y)) ∧ Below w.heap.size w w' := by
  have hu23 := Try.underlying23
  have hu25 := Try.underlying25
  have H0 := heap_alloc2_old w (.cells (labA x) 25) (.cells (labA y) 25)
  have H1 := heap_alloc2_new w (.cells (labA x) 25) (.cells (labA y) 25)
  have R0 := Lib.hid (range_of H0)
  have R1 := Lib.hid (range_of H1)
  have HW := Lib.hid (rwithin61 y.S x.S hy)
  have HB := Lib.hid (bel_alloc (bel_alloc (Below.refl w.heap.size w) (.cells (labA x) 25)) (.cells (labA y) 25))
  have c0 := labA_0 x
  have d0 := labA_0 y
  have hi0 := info23L x.S
  have hi1 := info23L y.S
  clear H0 H1
  by_cases hl : y.lv ≤ x.lv
  · have HE := Lib.hid (show domB x y = decide (y.S &&& x.S = y.S) by simp [domB, hl])
    have hd : decide (y.lv ≤ x.lv) = true := decide_eq_true hl
    generalize y.S &&& x.S = q at HE HW
    go_enter Try.func33, Try.ntmps33
    go_wp2_with (first
      | (refine load_mid_g 23 (.tmp 11) rfl (w.heap.size + 1) 1 rfl (catL y.S) _ R1.out hu23 rfl hi1 rfl ?_)
      | (refine load_mid_g 23 (.tmp 13) rfl w.heap.size 1 rfl (catL x.S) _ R0.out hu23 rfl hi0 rfl ?_)
      | (go_at_call 61; refine (HW.out _).mono ?_; rintro e w4 ⟨rfl, hb'⟩; have HB' := Lib.hid hb'; clear hb'))
    go_ret
    exact ⟨ret_bool HE.out.symm, below_then HB.out HB.out.size HB'.out⟩
  · have HE := Lib.hid (show domB x y = false by simp [domB, hl])
    have hd : decide (y.lv ≤ x.lv) = false := decide_eq_false hl
    go_enter Try.func33, Try.ntmps33
    go_wp2_with fail
    go_ret
    exact ⟨ret_bool HE.out.symm, HB.out⟩
end Go.Proofs.Ytifmckhabkghcaa.P
