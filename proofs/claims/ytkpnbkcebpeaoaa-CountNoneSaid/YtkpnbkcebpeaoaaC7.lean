/- CountNone and CountNames answer true. For the program's counters (layer 26). -/
import Derived.Test.YtkpnbkcebpeaoaaC2
import Derived.Test.YtkpnbkcebpeaoaaC6
import Derived.Shelf.SlicesE.Kit
import Derived.DeepKeys
namespace Go.Proofs.Ytkpnbkcebpeaoaa.P
open Go.RowKit

def z16 : Array Value := #[.int .i64 0, .int .i64 0, .int .i64 0, .int .i64 0, .int .i64 0, .int .i64 0, .int .i64 0, .int .i64 0, .int .i64 0, .int .i64 0, .int .i64 0, .int .i64 0, .int .i64 0, .int .i64 0, .int .i64 0, .int .i64 0]

theorem eq37z (w : World) : (Op.equalIn 10000 37 (.agg z16) (.agg z16)).run Try.prog w = .ok true w := by
  have h1 : Try.prog.keyLits 2 37 z16.toList = some (List.replicate 16 (.int .i64 0)) := by kernel_rfl
  obtain ⟨r, hr, hi⟩ := run_equalIn_deep (P := Try.prog) 9998 2 37 (by kernel_rfl) w 2 2 (.agg z16) (.agg z16) _ _ (by kernel_rfl) (by kernel_rfl) h1 h1
  rw [hi.2 rfl] at hr
  exact hr

set_option maxHeartbeats 1000000 in
theorem none5 (t r s d p sp dp : Int) (w : World) : Calls Try.prog 5 #[.int .i64 t, .int .i64 r, .agg #[.int .u32 s, .int .u32 d, .int .i64 p, .int .i64 sp, .int .i64 dp]] w fun e w' => e = .returned (.bool true) ∧ Below w.heap.size w w' := by
  have hu31 := Try.underlying31
  have hu34 := Try.underlying34
  have hu37 := Try.underlying37
  have hgd : ∀ (op : BinOp) (a b : Operand) (w : World), (eqGuard op 37 a b (.agg z16) (.agg z16)).run Try.prog w = .ok () w := fun op a b w => run_eqGuard_agg w op 37 a b z16 z16 (by kernel_rfl)
  have heq := eq37z
  simp only [z16] at hgd heq
  have HA : Hid _ := fun w => add11_nil w t r s d p sp dp
  have HC : Hid _ := clear10_nil
  have HN : Hid _ := count14_nil
  have HS : Hid _ := counts12_nil
  have HL : Hid _ := lines9_nil
  have HO : Hid _ := lost13_nil
  have HW : Hid _ := awake7
  go_enter Try.func5, Try.ntmps5
  go_wp2_with (first
    | (go_at_call 11; refine (HA.out _).mono ?_; rintro e w1 ⟨rfl, hb1⟩; have B1 : Hid _ := hb1; have hcl := bcell hb1; clear hb1)
    | (go_at_call 10; refine (HC.out _).mono ?_; rintro e w2 ⟨rfl, rfl⟩)
    | (go_at_call 14; refine (HN.out _ _).mono ?_; rintro e w3 ⟨rfl, rfl⟩)
    | (go_at_call 12; refine (HS.out _).mono ?_; rintro e w4 ⟨rfl, hb4⟩; have B4 : Hid _ := hb4; clear hb4)
    | (go_at_call 9; refine (HL.out _).mono ?_; rintro e w5 ⟨rfl, rfl⟩)
    | (go_at_call 13; refine (HO.out _).mono ?_; rintro e w6 ⟨rfl, rfl⟩)
    | (go_at_call 7; refine (HW.out _).mono ?_; rintro e w7 ⟨rfl, hb7⟩; have B7 : Hid _ := hb7; clear hb7))
  go_ret
  refine ⟨rfl, ?_⟩
  have k0 : Below w.heap.size w (w.alloc (.cells #[.int .u32 s, .int .u32 d, .int .i64 p, .int .i64 sp, .int .i64 dp] 31)) := (Below.refl _ _).alloc (Nat.le_refl _) _
  exact bel_trans (bel_trans (bel_trans k0 B1.out) B4.out) B7.out

end Go.Proofs.Ytkpnbkcebpeaoaa.P
