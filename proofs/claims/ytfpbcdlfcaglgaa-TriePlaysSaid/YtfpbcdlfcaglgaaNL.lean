/- Contract of bare; Drop, purely; Drop where it refuses (layer 14). -/
import Derived.Test.YtfpbcdlfcaglgaaNI
namespace Go.Proofs.Ytfpbcdlfcaglgaa.P
open Go.RowKit

/-- Is a node not needed? -/
def bareB (x : Nd) : Bool := !x.has && (x.a == -1 && x.b == -1)
theorem eq54 (a b c d : Int) (w : World) : (Op.equalIn 10000 54 (.agg #[.int .i64 a, .int .i64 b]) (.agg #[.int .i64 c, .int .i64 d])).run Try.prog w = .ok (a == c && b == d) w := by
  have u3 := Try.underlying3
  have a3 := Try.isAgg3
  have z3 := Try.sizeOf3
  rw [show (10000 : Nat) = 9999 + 1 from rfl, Op.equalIn]
  simp only [Sem.run_bind, run_underlying Try.underlying54, Result.andThen_ok]
  simp only [Std.Legacy.Range.forIn_eq_forIn_range', Std.Legacy.Range.size, Nat.sub_zero, Nat.add_sub_cancel, Nat.div_one, List.range'_succ, List.range'_zero, List.forIn_cons, List.forIn_nil]
  cases h1 : a == c <;> cases h2 : b == d <;> go_simp
theorem gd54 (op : BinOp) (a b : Operand) (xs ys : Array Value) (w : World) : (eqGuard op 54 a b (.agg xs) (.agg ys)).run Try.prog w = .ok () w := run_eqGuard_agg w op 54 a b xs ys (by kernel_rfl)
def ndA (x : Nd) : Array Value := #[.int .i64 x.a, .int .i64 x.b, .int .u32 x.r.ad, .int .i64 x.r.bt, .int .i64 x.r.ou, .bool x.has]
set_option maxHeartbeats 1000000 in
theorem bare29 (x : Nd) (w : World) : Calls Try.prog 29 #[.agg (ndA x)] w fun e w' => e = .returned (.bool (bareB x)) ∧ Below w.heap.size w w' := by
  have hu56 := Try.underlying56
  have hu54 := Try.underlying54
  have HB := Lib.hid (bel_alloc (Below.refl _ w) (.cells (ndA x) 56))
  have c0 : (w.alloc (.cells (ndA x) 56)).cell? ⟨w.heap.size, 0, none⟩ = some (.int .i64 x.a) := World.cell?_alloc_mark w (ndA x) 56 (0, 0) 0
  have c1 : (w.alloc (.cells (ndA x) 56)).cell? ⟨w.heap.size, 1, none⟩ = some (.int .i64 x.b) := World.cell?_alloc_mark w (ndA x) 56 (0, 0) 1
  have c5 : (w.alloc (.cells (ndA x) 56)).cell? ⟨w.heap.size, 5, none⟩ = some (.bool x.has) := World.cell?_alloc_mark w (ndA x) 56 (0, 0) 5
  have HS := Lib.hid (show bareB x = (!x.has && (x.a == -1 && x.b == -1)) from rfl)
  generalize bareB x = ans at HS ⊢
  unfold ndA at *
  cases hh : x.has with
  | true =>
    rw [hh] at HS c5 HB c0 c1
    go_enter Try.func29, Try.ntmps29
    go_wp2_with fail
    generalize w.alloc (.cells #[.int .i64 x.a, .int .i64 x.b, .int .u32 x.r.ad, .int .i64 x.r.bt, .int .i64 x.r.ou, .bool true] 56) = W at *
    go_wp2_with fail
    go_ret
    exact ⟨ret_bool (by rw [HS.out]; rfl), HB.out⟩
  | false =>
    rw [hh] at HS c5 HB c0 c1
    have heq := eq54 x.a x.b (-1) (-1)
    have hgd := gd54
    go_enter Try.func29, Try.ntmps29
    go_wp2_with fail
    generalize w.alloc (.cells #[.int .i64 x.a, .int .i64 x.b, .int .u32 x.r.ad, .int .i64 x.r.bt, .int .i64 x.r.ou, .bool false] 56) = W at *
    go_wp2_with fail
    go_ret
    exact ⟨ret_bool (by rw [HS.out]; rfl), HB.out⟩
end Go.Proofs.Ytfpbcdlfcaglgaa.P
