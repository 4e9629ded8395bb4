/- basic.Encode in one contract; awake of law11. -/
import Derived.Test.YtifmckhabkghcaaB4
namespace Go.Proofs.Ytifmckhabkghcaa.P
open Go.RowKit
set_option linter.unusedSimpArgs false

/-- What Encode's error is. -/
def encE (x : Lab) : Nat := if rightL x then (if fitsB x then 0 else 5) else 1
def encK (x : Lab) : Nat := if encE x = 0 then 130 else 0
def encD (x : Lab) : List Nat := if encE x = 0 then encL x else []
theorem enc13 (x : Lab) (hS : x.S < 2 ^ 240) (w : World) : Calls Try.prog 13 #[.agg (labA x)] w fun e w' => e = .returned (.tuple #[.agg #[.int .i64 (encK x), .string (bs (encD x))], .int .i64 (encE x)]) ∧ Below w.heap.size w w' := by
  cases hr : rightL x with
  | false =>
    refine (encode13_arg x hr w).mono ?_
    rintro e w' ⟨rfl, hb⟩
    refine ⟨?_, hb⟩
    simp [encK, encD, encE, hr, opt0, bs]
  | true =>
    cases hf : fitsB x with
    | false =>
      refine (encode13_long x hr hf w).mono ?_
      rintro e w' ⟨rfl, hb⟩
      refine ⟨?_, hb⟩
      simp [encK, encD, encE, hr, hf, opt0, bs]
    | true =>
      refine (encode13_ok x hS hr hf w).mono ?_
      rintro e w' ⟨rfl, hb⟩
      refine ⟨?_, hb⟩
      simp [encK, encD, encE, hr, hf]
def c256 : Array Value := #[.int .u8 0, .int .u8 128, .int .u8 0, .int .u8 0, .int .u8 0, .int .u8 0, .int .u8 0, .int .u8 0, .int .u8 0, .int .u8 0, .int .u8 0, .int .u8 0, .int .u8 0, .int .u8 0, .int .u8 0, .int .u8 0, .int .u8 0, .int .u8 0, .int .u8 0, .int .u8 0, .int .u8 0, .int .u8 0, .int .u8 0, .int .u8 0, .int .u8 0, .int .u8 0, .int .u8 0, .int .u8 0, .int .u8 0, .int .u8 0]
def l256 : Array Value := #[.int .i64 1, .int .u8 0, .int .u8 128, .int .u8 0, .int .u8 0, .int .u8 0, .int .u8 0, .int .u8 0, .int .u8 0, .int .u8 0, .int .u8 0, .int .u8 0, .int .u8 0, .int .u8 0, .int .u8 0, .int .u8 0, .int .u8 0, .int .u8 0, .int .u8 0, .int .u8 0, .int .u8 0, .int .u8 0, .int .u8 0, .int .u8 0, .int .u8 0, .int .u8 0, .int .u8 0, .int .u8 0, .int .u8 0, .int .u8 0, .int .u8 0]
theorem catA0 : catA 0 = z23 := by kernel_rfl
theorem catA256 : catA (withS 0 8) = c256 := by kernel_rfl
theorem labA256 : labA ⟨1, 256⟩ = l256 := by kernel_rfl
theorem put48z (w : World) : Calls Try.prog 48 #[.agg z23, .int .i64 8, .bool true] w fun e w' => e = .returned (.agg c256) ∧ Below w.heap.size w w' := by
  have h := put48 0 8 w
  rw [catA0, catA256] at h
  exact h
theorem enc13z (w : World) : Calls Try.prog 13 #[.agg l256] w fun e w' => e = .returned (.tuple #[.agg #[.int .i64 130, .string { data := #[150, 1, 64] }], .int .i64 0]) ∧ Below w.heap.size w w' := by
  have h := enc13 ⟨1, 256⟩ (by decide) w
  rw [labA256] at h
  refine h.mono ?_
  rintro e w' ⟨rfl, hb⟩
  refine ⟨?_, hb⟩
  kernel_rfl
set_option maxRecDepth 100000 in
set_option maxHeartbeats 1000000 in
theorem awake15 (w : World) : Calls Try.prog 15 #[] w fun e w' => e = .returned (.bool true) ∧ Below w.heap.size w w' := by
  have HP := Lib.hid put48z
  have HE := Lib.hid enc13z
  unfold z23 c256 at HP
  unfold l256 at HE
  go_enter Try.func15, Try.ntmps15
  go_wp2_with (first
    | (go_at_call 48; refine (HP.out _).mono ?_; rintro e w1 ⟨rfl, hb1⟩; have HB1 := Lib.hid hb1; clear hb1)
    | (go_at_call 13; refine (HE.out _).mono ?_; rintro e w2 ⟨rfl, hb2⟩; have HB2 := Lib.hid hb2; clear hb2))
  go_ret
  refine ⟨rfl, ?_⟩
  trace_state
  exact below_then HB1.out HB1.out.size (bel_alloc HB2.out _)
end Go.Proofs.Ytifmckhabkghcaa.P
