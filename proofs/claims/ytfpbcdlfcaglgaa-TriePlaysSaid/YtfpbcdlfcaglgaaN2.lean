/- Contracts of bit, Mask, Cut, Right and the reference's bit, Right, Holds (layers 3 and 14). -/
import Derived.Test.YtfpbcdlfcaglgaaProg
import Derived.Test.YtfpbcdlfcaglgaaN1
import Derived.Below
import Derived.OneCell
import Derived.Deep.Draws
import Derived.Deep.AppendLies
import Derived.Maps.AppendAt
import Derived.OwnWalk
import Derived.Laws.OwnMore
import Derived.Tactics
import Derived.Laws.Slices
import Derived.WalkKit
import Derived.KernelRfl
import Derived.RowKit3
import Derived.Deep.LoopGhost
import Derived.Deep.QuietTactic
import Derived.BigQuiet
import Derived.WideLaws
import Derived.Deep.RegionHeld3
import Derived.Deep.RegionLaw
import Derived.Deep.CutRange
import Derived.Deep.WholeRow
import Derived.Great.BuildSlice
import Derived.Deep.MidRow
import Derived.Laws.Rows
import Derived.OrdersHeld
import Derived.RowKit
import Derived.WalkMore
import Derived.Lib.Hide
import Derived.Outline
namespace Go.Proofs.Ytfpbcdlfcaglgaa.P
open Go.RowKit

theorem below_then {B : Nat} {a b c : World} (h : Below B a b) (hs : B ≤ b.heap.size) (k : Below b.heap.size b c) : Below B a c := h.trans (k.mono hs)
theorem bel_trans {w w1 w2 : World} (h : Below w.heap.size w w1) (k : Below w1.heap.size w1 w2) : Below w.heap.size w w2 := below_then h h.size k
theorem bel_alloc {w w1 : World} (h : Below w.heap.size w w1) (o : Obj) : Below w.heap.size w (w1.alloc o) := h.alloc h.size o
theorem bel_drewN {B : Nat} {w w1 : World} (h : Below B w w1) (n : Nat) : Below B w (w1.drewN n) := ⟨h.os, h.tape, h.output, h.size, h.block⟩
theorem ret_int {k : IntKind} {a b : Int} (h : a = b) : Ending.returned (.int k a) = .returned (.int k b) := by rw [h]
theorem ret_bool {a b : Bool} (h : a = b) : Ending.returned (.bool a) = .returned (.bool b) := by rw [h]
theorem wraps_u32 (n : Int) (h₀ : 0 ≤ n) (h₁ : n < 2 ^ 32) : IntKind.u32.wrap n = n := by rw [IntKind.wrap_u32]; omega
theorem and32 (a b : Nat) (ha : a < 2 ^ 32) (hb : b < 2 ^ 32) : Go.bits .and .u32 a b = ((a &&& b : Nat) : Int) := (bits_nat .u32 32 (by decide) wraps_u32 a b ha hb).1
theorem quietL {P : Program} {f : FuncId} {args : Array Value} {w : World} {n : Nat} {v : Value} (h : Calls P f args (w.drewN n) fun e w' => e = .returned v ∧ w.drewN n = w') :
    Calls P f args (w.drewN n) fun e w'' => e = .returned v ∧ ∃ m, w'' = w.drewN m := h.mono fun _ _ hh => ⟨hh.1, n, hh.2.symm⟩

theorem bit_val (a k : Nat) (ha : a < 2 ^ 32) : wrap64 (Go.bits .and .u32 ((a : Int) / 2 ^ (31 - k)) 1) = bI (bt a k) := by
  have e : ((a : Int) / 2 ^ (31 - k)) = ((a / 2 ^ (31 - k) : Nat) : Int) := by simp
  have h := and32 (a / 2 ^ (31 - k)) 1 (Nat.lt_of_le_of_lt (Nat.div_le_self _ _) ha) (by decide)
  rw [e, show (1 : Int) = ((1 : Nat) : Int) from rfl, h, shr_and, bI_eq, bt]
  cases a.testBit (31 - k) <;> simp [wrap64, bN]
theorem bit25 (a k : Nat) (ha : a < 2 ^ 32) (hk : k < 32) (w : World) : Calls Try.prog 25 #[.int .u32 a, .int .i64 k] w fun e w' => e = .returned (.int .i64 (bI (bt a k))) ∧ w = w' := by
  have h0 : (0 : Int) ≤ (k : Int) := by omega
  have h1 : (k : Int) < 32 := by omega
  have h2 : (0 : Int) ≤ (a : Int) := by omega
  have h3 : (a : Int) < 4294967296 := by omega
  go_enter Try.func25, Try.ntmps25
  go_wp2
  go_ret
  exact ⟨ret_int (bit_val a k ha), rfl⟩
theorem bit28 (a k : Nat) (ha : a < 2 ^ 32) (hk : k < 32) (w : World) : Calls Try.prog 28 #[.int .u32 a, .int .i64 k] w fun e w' => e = .returned (.int .i64 (bI (bt a k))) ∧ w = w' := by
  have h0 : (0 : Int) ≤ (k : Int) := by omega
  have h1 : (k : Int) < 32 := by omega
  have h2 : (0 : Int) ≤ (a : Int) := by omega
  have h3 : (a : Int) < 4294967296 := by omega
  go_enter Try.func28, Try.ntmps28
  go_wp2
  go_ret
  exact ⟨ret_int (bit_val a k ha), rfl⟩

theorem mk_lt (n : Nat) : mk n < 2 ^ 32 := by
  have := Nat.two_pow_pos (32 - n)
  unfold mk; omega
theorem mask_val (n : Nat) (hn : n ≤ 32) : (4294967295 : Int) * 2 ^ (32 - n) % 4294967296 = (mk n : Int) := by
  have h : ∀ n ∈ List.range 33, (4294967295 : Int) * 2 ^ (32 - n) % 4294967296 = (mk n : Int) := by decide
  exact h n (List.mem_range.2 (by omega))
theorem mask35 (n : Nat) (hn : n ≤ 32) (w : World) : Calls Try.prog 35 #[.int .i64 n] w fun e w' => e = .returned (.int .u32 (mk n)) ∧ w = w' := by
  have h0 : (0 : Int) ≤ (n : Int) := by omega
  have h1 : (n : Int) ≤ 32 := by omega
  go_enter Try.func35, Try.ntmps35
  go_wp2
  all_goals
    go_ret
    exact ⟨by rw [← mask_val n hn]; rfl, rfl⟩
theorem cut32 (a n : Nat) (ha : a < 2 ^ 32) (hn : n ≤ 32) (w : World) : Calls Try.prog 32 #[.int .u32 a, .int .i64 n] w fun e w' => e = .returned (.agg #[.int .u32 ((a &&& mk n : Nat) : Int), .int .i64 n]) ∧ Below w.heap.size w w' := by
  have h0 : (0 : Int) ≤ (n : Int) := by omega
  have h1 : (n : Int) ≤ 32 := by omega
  have hu30 := Try.underlying30
  have HM := Lib.hid (mask35 n hn)
  have HA := Lib.hid (and32 a (mk n) ha (mk_lt n))
  go_enter Try.func32, Try.ntmps32
  go_wp2_with (go_at_call 35; refine (HM.out _).mono ?_; rintro e w' ⟨rfl, rfl⟩)
  rw [HA.out]
  refine bodyPost_ret (results_cell_row rfl _ _ w.heap.size 30 #[.int .u32 ((a &&& mk n : Nat) : Int), .int .i64 n] (0, 0) _ rfl ?_ Try.underlying30 rfl (by kernel_rfl)) rfl ?_
  · exact heap_alloc_new w _
  · exact ⟨rfl, bel_alloc (Below.refl _ _) _⟩
end Go.Proofs.Ytfpbcdlfcaglgaa.P
