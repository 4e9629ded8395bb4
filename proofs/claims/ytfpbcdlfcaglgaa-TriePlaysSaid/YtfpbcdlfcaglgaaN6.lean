/- Contracts of New, Len, Nodes (layer 14). -/
import Derived.Test.YtfpbcdlfcaglgaaN5
namespace Go.Proofs.Ytfpbcdlfcaglgaa.P
open Go.RowKit

def ndZ : Array Value := #[.int .i64 0, .int .i64 0, .int .u32 0, .int .i64 0, .int .i64 0, .bool false]
theorem info56 : (Try.prog.info? 56).map (fun i => (i.zero, i.size)) = some (some (.agg ndZ), ndA0.size) := by kernel_rfl
theorem len_ndsL0 : ndsL [nd0] = ndA0.toList := rfl
theorem own_form {w : World} {b e s n : Nat} {v : Value} {xs : List Value} (h : w.ownsRow b e s v n xs) : ∃ a c, v = .slice a n c := by
  rcases h.2 with ⟨rfl, rfl⟩ | ⟨g, cap, cur, rfl, _⟩
  · exact ⟨none, 0, rfl⟩
  · exact ⟨_, _, rfl⟩
set_option maxHeartbeats 1000000 in
theorem new8 (w : World) : Calls Try.prog 8 #[] w fun e w' => ∃ B g cap, e = .returned (.pointer (some ⟨B, 0, none⟩)) ∧ Tri w' w.heap.size B g cap (.slice none 0 0) [nd0] [] 0 ∧ Below w.heap.size w w' := by
  have hu61 := Try.underlying61
  have hu58 := Try.underlying58
  have HE := Lib.hid empty23
  go_enter Try.func8, Try.ntmps8
  go_wp2_with (first | (go_at_call 23; refine Calls.mono (HE.out _) ?_; rintro e W1 ⟨rfl, hb⟩; have HB := Lib.hid hb; have hs := hb.size; clear hb) | (refine build1 rfl 58 56 (.tmp 1) rfl ndA0 rfl (.agg ndZ) hu58 info56 (by decide) (by decide) ?_))
  go_ret
  refine ⟨W1.heap.size + 1, W1.heap.size, 1, rfl, ⟨by omega, by decide, ?_, ?_, World.ownsRow_nil _ _ _ _⟩, ((HB.out.alloc hs _).alloc (by simp; omega) _)⟩
  · exact heap_alloc2_new _ _ _
  · refine World.ownsRow.alloc ?_ _
    exact ⟨rfl, .inr ⟨W1.heap.size, 1, ndA0, rfl, hs, heap_alloc_new _ _, Nat.le_refl _, by decide, rfl, rfl⟩⟩

section
variable (w : World) (M B g cap : Nat) (vf : Value) (l : List Nd) (fr : List Nat) (n : Int) (h : Tri w M B g cap vf l fr n)
include h
theorem len13 : Calls Try.prog 13 #[.pointer (some ⟨B, 0, none⟩)] w fun e w' => e = .returned (.int .i64 n) ∧ w = w' := by
  have hu61 := Try.underlying61
  have c2 := h.c2
  clear h
  go_enter Try.func13, Try.ntmps13
  go_wp2
  go_ret
  exact ⟨rfl, rfl⟩
theorem nodes14 (hl : l.length ≤ 100000) (hf : fr.length ≤ l.length) : Calls Try.prog 14 #[.pointer (some ⟨B, 0, none⟩)] w fun e w' => e = .returned (.int .i64 (l.length - fr.length : Nat)) ∧ Below w.heap.size w w' := by
  have hu61 := Try.underlying61
  obtain ⟨a, c, rfl⟩ := own_form h.fown
  have c0 := h.c0
  have c1 := h.c1
  have q0 : (0 : Int) ≤ (l.length : Int) := by omega
  have q1 : (0 : Int) ≤ (fr.length : Int) := by omega
  have q2 : (l.length : Int) ≤ 100000 := by omega
  have q3 : (fr.length : Int) ≤ 100000 := by omega
  have q4 := IntWalk.i64_in ((l.length : Int) - fr.length) (by omega)
  clear h
  go_enter Try.func14, Try.ntmps14
  go_wp2_with fail
  go_quiet (fail)
  go_wp2_with fail
  go_ret
  exact ⟨ret_int (by omega), bel_drewN (Below.refl _ _) _⟩
end
theorem len13_nil (w : World) : Calls Try.prog 13 #[.pointer none] w fun e w' => e = .returned (.int .i64 0) ∧ w = w' := by
  go_enter Try.func13, Try.ntmps13
  go_wp2
  go_ret
  exact ⟨rfl, rfl⟩
theorem nodes14_nil (w : World) : Calls Try.prog 14 #[.pointer none] w fun e w' => e = .returned (.int .i64 0) ∧ w = w' := by
  go_enter Try.func14, Try.ntmps14
  go_wp2_with fail
  go_ret
  exact ⟨rfl, rfl⟩
end Go.Proofs.Ytfpbcdlfcaglgaa.P
