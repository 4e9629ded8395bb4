/- Contracts of addr.Right, and the reference's Right and Holds (layer 3). -/
import Derived.Test.YtfpbcdlfcaglgaaN2
import Derived.Laws.StructEq
namespace Go.Proofs.Ytfpbcdlfcaglgaa.P
open Go.RowKit

/-- The worlds that are W, and more. -/
def BW (W : World) : Type := {w' : World // Below W.heap.size W w'}
instance (W : World) : Nonempty (BW W) := ⟨⟨W, Below.refl _ _⟩⟩
def BW.w {W : World} (u : BW W) : World := u.1
theorem BW.b {W : World} (u : BW W) : Below W.heap.size W u.w := u.2
theorem region_bw {P : Program} {id : Nat} {Q : Exit → Act → World → Prop} {a : Act} {W : World} {l : List Oper} (hm : P.follows .mixedOrders = true) (hB : Region.lexB .any l.toArray = true)
    (h : wpQuiet P l.toArray (fun w' => ∃ u : BW W, w' = u.w) (fun a' => ∀ w', (∃ u : BW W, w' = u.w) → Q .normal a' w') l a) : (Code.region id l.toArray true).wp P Q a W :=
  wp_region_quiet (C := fun w' => ∃ u : BW W, w' = u.w) hm hB ⟨⟨_, (Below.refl W.heap.size W).drew⟩, rfl⟩ (by simpa using h)
theorem call_bw {P : Program} {f : FuncId} {args : Array Value} {v : Value} {W : World} (h : ∀ w, Calls P f args w fun e w' => e = .returned v ∧ Below w.heap.size w w') (u : BW W) :
    Calls P f args u.w fun e w' => e = .returned v ∧ ∃ u' : BW W, w' = u'.w := (h u.w).mono fun _ w' hh => ⟨hh.1, ⟨w', bel_trans u.b hh.2⟩, rfl⟩
theorem bw_cell {W : World} {a : Addr} {v : Value} (h : W.cell? a = some v) (u : BW W) : u.w.cell? a = some v := (u.b.cell (p := a) (World.block_lt_of_cell? W a h)).trans h

theorem eq30d (d : Nat) (a b a' b' : Int) (w : World) : (Op.equalIn (d + 2) 30 (.agg #[.int .u32 a, .int .i64 b]) (.agg #[.int .u32 a', .int .i64 b'])).run Try.prog w = .ok (a == a' && b == b') w := by
  have u3 := Try.underlying3
  have a3 := Try.isAgg3
  have z3 := Try.sizeOf3
  have u23 := Try.underlying23
  have a23 := Try.isAgg23
  have z23 := Try.sizeOf23
  have hS : Try.prog.underlying 30 = some (.struct (Try.prog.fieldsOf 30)) := by kernel_rfl
  rw [run_equalIn_struct w (d + 1) 30 _ _ hS (by kernel_rfl)]
  simp only [Program.fieldsOf, Try.underlying30]
  cases h1 : a == a' <;> cases h2 : b == b' <;> go_simp
theorem eq30 (a b a' b' : Int) (w : World) : (Op.equalIn 10000 30 (.agg #[.int .u32 a, .int .i64 b]) (.agg #[.int .u32 a', .int .i64 b'])).run Try.prog w = .ok (a == a' && b == b') w := eq30d 9998 a b a' b' w
theorem gd30 (op : BinOp) (a b : Operand) (xs ys : Array Value) (w : World) : (eqGuard op 30 a b (.agg xs) (.agg ys)).run Try.prog w = .ok () w := run_eqGuard_agg w op 30 a b xs ys (by kernel_rfl)
theorem eq32 (a b o a' b' o' : Int) (w : World) : (Op.equalIn 10000 32 (.agg #[.int .u32 a, .int .i64 b, .int .i64 o]) (.agg #[.int .u32 a', .int .i64 b', .int .i64 o'])).run Try.prog w = .ok (a == a' && b == b' && o == o') w := by
  have u3 := Try.underlying3
  have a3 := Try.isAgg3
  have z3 := Try.sizeOf3
  have a30 := Try.isAgg30
  have z30 := Try.sizeOf30
  have e30 := eq30d 9997 a b a' b'
  have hS : Try.prog.underlying 32 = some (.struct (Try.prog.fieldsOf 32)) := by kernel_rfl
  rw [show (10000 : Nat) = 9999 + 1 from rfl, run_equalIn_struct w 9999 32 _ _ hS (by kernel_rfl)]
  simp only [Program.fieldsOf, Try.underlying32]
  cases h1 : (a == a' && b == b') <;> cases h2 : o == o' <;> go_simp
theorem gd32 (op : BinOp) (a b : Operand) (xs ys : Array Value) (w : World) : (eqGuard op 32 a b (.agg xs) (.agg ys)).run Try.prog w = .ok () w := run_eqGuard_agg w op 32 a b xs ys (by kernel_rfl)

/-- A prefix, as Right judges it. -/
def rightB (a : Nat) (b : Int) : Bool := decide (0 ≤ b) && okP a b.toNat
theorem rightB_nat (a n : Nat) : rightB a n = okP a n := by simp [rightB]
theorem right24 (a : Nat) (ha : a < 2 ^ 32) (b : Int) (w : World) : Calls Try.prog 24 #[.agg #[.int .u32 a, .int .i64 b]] w fun e w' => e = .returned (.bool (rightB a b)) ∧ Below w.heap.size w w' := by
  have hu30 := Try.underlying30
  have c0 := bw_cell (World.cell?_alloc_mark w #[.int .u32 (a : Int), .int .i64 b] 30 (0, 0) 0)
  have c1 := bw_cell (World.cell?_alloc_mark w #[.int .u32 (a : Int), .int .i64 b] 30 (0, 0) 1)
  have HB := Lib.hid (bel_alloc (Below.refl _ w) (.cells #[.int .u32 (a : Int), .int .i64 b] 30))
  by_cases hb0 : 0 ≤ b
  · obtain ⟨n, rfl⟩ : ∃ n : Nat, b = n := ⟨b.toNat, by omega⟩
    have d0 : decide (0 ≤ (n : Int)) = true := decide_eq_true hb0
    by_cases hb1 : n ≤ 32
    · have d1 : decide ((n : Int) ≤ 32) = true := decide_eq_true (by omega)
      have HC := Lib.hid (cut32 a n ha hb1)
      have heq := eq30 a n ((a &&& mk n : Nat) : Int) n
      have hgd := gd30
      go_enter Try.func24, Try.ntmps24
      go_wp2_with fail
      refine region_bw (by kernel_rfl) (by kernel_rfl) ?_
      repeat (go_big_quiet_step ((go_at_call 32; exact call_bw HC.out _)))
      refine wpQuiet_nil ?_
      rintro _ ⟨u, rfl⟩
      have hb' := Lib.hid (BW.b u)
      generalize u.w = w4 at hb' ⊢
      clear c0 c1
      go_wp2_with fail
      go_ret
      exact ⟨ret_bool (show ((a : Int) == ((a &&& mk n : Nat) : Int)) = rightB a n by
        rw [rightB_nat, Bool.eq_iff_iff]
        simp only [okP, hb1, Bool.and_eq_true, beq_iff_eq, decide_eq_true_eq, true_and]
        omega), bel_trans HB.out hb'.out⟩
    · have d1 : decide ((n : Int) ≤ 32) = false := decide_eq_false (by omega)
      go_enter Try.func24, Try.ntmps24
      go_wp2_with fail
      refine region_bw (by kernel_rfl) (by kernel_rfl) ?_
      repeat (go_big_quiet_step (fail))
      refine wpQuiet_nil ?_
      rintro _ ⟨u, rfl⟩
      have hb' := Lib.hid (BW.b u)
      generalize u.w = w4 at hb' ⊢
      clear c0 c1
      go_wp2_with fail
      go_ret
      exact ⟨ret_bool (by simp [rightB, okP, hb1]), bel_trans HB.out hb'.out⟩
  · have d0 : decide (0 ≤ b) = false := decide_eq_false hb0
    go_enter Try.func24, Try.ntmps24
    go_wp2_with fail
    refine region_bw (by kernel_rfl) (by kernel_rfl) ?_
    repeat (go_big_quiet_step (fail))
    refine wpQuiet_nil ?_
    rintro _ ⟨u, rfl⟩
    have hb' := Lib.hid (BW.b u)
    generalize u.w = w4 at hb' ⊢
    clear c0 c1
    go_wp2_with fail
    go_ret
    exact ⟨ret_bool (by unfold rightB; rw [d0]; rfl), bel_trans HB.out hb'.out⟩

theorem okP_no {a n k : Nat} (ha : a < 2 ^ 32) (h1 : n ≤ k) (h2 : k < 32) (h : bt a k = true) : okP a n = false := by
  rw [Bool.eq_false_iff]
  intro h3
  have := ((okP_iff ha).1 h3).2 k h1 h2
  rw [h] at this; cases this
theorem okP_yes {a n : Nat} (ha : a < 2 ^ 32) (hn : n ≤ 32) (h : ∀ k, n ≤ k → k < 32 → bt a k = false) : okP a n = true := (okP_iff ha).2 ⟨hn, h⟩
set_option maxHeartbeats 1000000 in
theorem right17 (a : Nat) (ha : a < 2 ^ 32) (b : Int) (w : World) : Calls Try.prog 17 #[.agg #[.int .u32 a, .int .i64 b]] w fun e w' => e = .returned (.bool (rightB a b)) ∧ Below w.heap.size w w' := by
  have hu30 := Try.underlying30
  have c0 : (w.alloc (.cells #[.int .u32 (a : Int), .int .i64 b] 30)).cell? ⟨w.heap.size, 0, none⟩ = some (.int .u32 (a : Int)) := World.cell?_alloc_mark w #[.int .u32 (a : Int), .int .i64 b] 30 (0, 0) 0
  have c1 : (w.alloc (.cells #[.int .u32 (a : Int), .int .i64 b] 30)).cell? ⟨w.heap.size, 1, none⟩ = some (.int .i64 b) := World.cell?_alloc_mark w #[.int .u32 (a : Int), .int .i64 b] 30 (0, 0) 1
  have HB := Lib.hid (bel_alloc (Below.refl _ w) (.cells #[.int .u32 (a : Int), .int .i64 b] 30))
  by_cases hb0 : 0 ≤ b
  · obtain ⟨n, rfl⟩ : ∃ n : Nat, b = n := ⟨b.toNat, by omega⟩
    by_cases hb1 : n ≤ 32
    · have d0 : decide ((n : Int) < 0) = false := decide_eq_false (by omega)
      have d1 : decide ((n : Int) > 32) = false := decide_eq_false (by omega)
      have HO := Lib.hid (fun h => (rightB_nat a n).trans (okP_yes ha hb1 h))
      have HN := Lib.hid (fun k h1 h2 h => (rightB_nat a n).trans (okP_no (n := n) (k := k) ha h1 h2 h))
      have HAN := Lib.hid ha
      generalize rightB a n = ans at HO HN ⊢
      go_enter Try.func17, Try.ntmps17
      go_wp2_with fail
      generalize w.alloc (.cells #[.int .u32 (a : Int), .int .i64 n] 30) = W at *
      go_loopg [3] 33 (fun gg s3 wr => ∃ k : Nat, n ≤ k ∧ k ≤ 32 ∧ 32 - k ≤ gg ∧ s3 = .int .i64 k ∧ W = wr ∧ Hid (∀ j, n ≤ j → j < k → bt a j = false))
      case atStart => exact ⟨n, Nat.le_refl _, hb1, by omega, rfl, rfl, fun j h1 h2 => absurd h1 (by omega)⟩
      case round =>
        obtain ⟨k, hk0, hk1, hgg, rfl, rfl, HI⟩ := hrel
        by_cases hk : k < 32
        · have dk : decide ((k : Int) < 32) = true := decide_eq_true (by omega)
          have HC := Lib.hid (bit25 a k HAN.out hk)
          have HD := Lib.hid (bit28 a k HAN.out hk)
          cases hbt : bt a k with
          | true =>
            have HR := Lib.hid (HN.out k hk0 hk hbt)
            have HD := Lib.hid (show ∀ w, Calls Try.prog 28 #[.int .u32 a, .int .i64 k] w fun e w' => e = .returned (.int .i64 1) ∧ w = w' by have := HD.out; rw [hbt] at this; exact this)
            clear hbt
            go_wp2_with (go_at_call 28; refine (HD.out _).mono ?_; rintro e w' ⟨rfl, rfl⟩)
            go_ret
            exact ⟨ret_bool HR.out.symm, HB.out⟩
          | false =>
            have HF := Lib.hid hbt
            have HD := Lib.hid (show ∀ w, Calls Try.prog 28 #[.int .u32 a, .int .i64 k] w fun e w' => e = .returned (.int .i64 0) ∧ w = w' by have := HD.out; rw [hbt] at this; exact this)
            clear hbt
            go_wp2_with (go_at_call 28; refine (HD.out _).mono ?_; rintro e w' ⟨rfl, rfl⟩)
            go_roundg (32 - (k + 1))
            case measure => omega
            case rel =>
              refine ⟨k + 1, by omega, by omega, Nat.le_refl _, by go_num, rfl, fun j h1 h2 => ?_⟩
              rcases Nat.lt_or_ge j k with h | h
              · exact HI.out j h1 h
              · rw [show j = k by omega]; exact HF.out
        · have dk : decide ((k : Int) < 32) = false := decide_eq_false (by omega)
          have HR := Lib.hid (HO.out (fun j h1 h2 => HI.out j h1 (by omega)))
          go_wp2_with fail
          go_ret
          exact ⟨ret_bool HR.out.symm, HB.out⟩
    · have d0 : decide ((n : Int) < 0) = false := decide_eq_false (by omega)
      have d1 : decide ((n : Int) > 32) = true := decide_eq_true (by omega)
      have HO := Lib.hid (show rightB a n = false by simp [rightB, okP, hb1])
      go_enter Try.func17, Try.ntmps17
      go_wp2_with fail
      go_ret
      exact ⟨ret_bool HO.out.symm, HB.out⟩
  · have d0 : decide (b < 0) = true := decide_eq_true (by omega)
    have HO := Lib.hid (show rightB a b = false by unfold rightB; rw [decide_eq_false hb0]; rfl)
    go_enter Try.func17, Try.ntmps17
    go_wp2_with fail
    go_ret
    exact ⟨ret_bool HO.out.symm, HB.out⟩
end Go.Proofs.Ytfpbcdlfcaglgaa.P
