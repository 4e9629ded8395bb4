/- '==' of two arrays of counters, of two lines, that are the same. For the program's counters (layer 26). -/
import Derived.Test.YtkpnbkcebpeaoaaF1
import Derived.Laws.StructEq
namespace Go.Proofs.Ytkpnbkcebpeaoaa.P
open Go.RowKit

set_option maxRecDepth 100000 in
theorem eq37 (c : List Int) (h : c.length = 16) (w : World) : (Op.equalIn 10000 37 (.agg (c.map (Value.int .i64)).toArray) (.agg (c.map (Value.int .i64)).toArray)).run Try.prog w = .ok true w := by
  have u3 := Try.underlying3
  have a3 := Try.isAgg3
  have z3 := Try.sizeOf3
  match c, h with
  | [x0, x1, x2, x3, x4, x5, x6, x7, x8, x9, x10, x11, x12, x13, x14, x15], _ =>
    simp only [List.map_cons, List.map_nil]
    rw [show (10000 : Nat) = 9999 + 1 from rfl, Op.equalIn]
    simp only [Sem.run_bind, run_underlying Try.underlying37, Result.andThen_ok]
    simp only [Std.Legacy.Range.forIn_eq_forIn_range', Std.Legacy.Range.size, Nat.sub_zero, Nat.add_sub_cancel, Nat.div_one, List.range'_succ, List.range'_zero, List.forIn_cons, List.forIn_nil]
    go_simp

theorem eq31 (s d p sp dp : Int) (w : World) : (Op.equalIn 9999 31 (.agg #[.int .u32 s, .int .u32 d, .int .i64 p, .int .i64 sp, .int .i64 dp]) (.agg #[.int .u32 s, .int .u32 d, .int .i64 p, .int .i64 sp, .int .i64 dp])).run Try.prog w = .ok true w := by
  have u3 := Try.underlying3
  have a3 := Try.isAgg3
  have z3 := Try.sizeOf3
  have u29 := Try.underlying29
  have a29 := Try.isAgg29
  have z29 := Try.sizeOf29
  have hS : Try.prog.underlying 31 = some (.struct (Try.prog.fieldsOf 31)) := by kernel_rfl
  rw [show (9999 : Nat) = 9998 + 1 from rfl, run_equalIn_struct w 9998 31 _ _ hS (by kernel_rfl)]
  simp only [Program.fieldsOf, Try.underlying31]
  go_simp

theorem eq42 (x : LineC) (w : World) : (Op.equalIn 10000 42 (.agg (lnC x).toArray) (.agg (lnC x).toArray)).run Try.prog w = .ok true w := by
  have u3 := Try.underlying3
  have a3 := Try.isAgg3
  have z3 := Try.sizeOf3
  have u28 := Try.underlying28
  have a28 := Try.isAgg28
  have z28 := Try.sizeOf28
  have a31 := Try.isAgg31
  have z31 := Try.sizeOf31
  have e31 := eq31 x.s x.d x.p x.sp x.dp
  have hS : Try.prog.underlying 42 = some (.struct (Try.prog.fieldsOf 42)) := by kernel_rfl
  rw [show (10000 : Nat) = 9999 + 1 from rfl, run_equalIn_struct w 9999 42 _ _ hS (by kernel_rfl)]
  simp only [Program.fieldsOf, Try.underlying42, lnC]
  go_simp
theorem gd42 (op : BinOp) (a b : Operand) (xs ys : Array Value) (w : World) : (eqGuard op 42 a b (.agg xs) (.agg ys)).run Try.prog w = .ok () w := run_eqGuard_agg w op 42 a b xs ys (by kernel_rfl)
theorem gd37 (op : BinOp) (a b : Operand) (xs ys : Array Value) (w : World) : (eqGuard op 37 a b (.agg xs) (.agg ys)).run Try.prog w = .ok () w := run_eqGuard_agg w op 37 a b xs ys (by kernel_rfl)
end Go.Proofs.Ytkpnbkcebpeaoaa.P
