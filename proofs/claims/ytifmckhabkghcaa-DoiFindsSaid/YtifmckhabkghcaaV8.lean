/- awake of law12. -/
import Derived.Test.YtifmckhabkghcaaV7
namespace Go.Proofs.Ytifmckhabkghcaa.P
open Go.RowKit
set_option linter.unusedSimpArgs false

def c32 : Array Value := #[.int .u8 4, .int .u8 0, .int .u8 0, .int .u8 0, .int .u8 0, .int .u8 0, .int .u8 0, .int .u8 0, .int .u8 0, .int .u8 0, .int .u8 0, .int .u8 0, .int .u8 0, .int .u8 0, .int .u8 0, .int .u8 0, .int .u8 0, .int .u8 0, .int .u8 0, .int .u8 0, .int .u8 0, .int .u8 0, .int .u8 0, .int .u8 0, .int .u8 0, .int .u8 0, .int .u8 0, .int .u8 0, .int .u8 0, .int .u8 0]
def l132 : Array Value := #[.int .i64 1, .int .u8 4, .int .u8 0, .int .u8 0, .int .u8 0, .int .u8 0, .int .u8 0, .int .u8 0, .int .u8 0, .int .u8 0, .int .u8 0, .int .u8 0, .int .u8 0, .int .u8 0, .int .u8 0, .int .u8 0, .int .u8 0, .int .u8 0, .int .u8 0, .int .u8 0, .int .u8 0, .int .u8 0, .int .u8 0, .int .u8 0, .int .u8 0, .int .u8 0, .int .u8 0, .int .u8 0, .int .u8 0, .int .u8 0, .int .u8 0]
def l232 : Array Value := #[.int .i64 2, .int .u8 4, .int .u8 0, .int .u8 0, .int .u8 0, .int .u8 0, .int .u8 0, .int .u8 0, .int .u8 0, .int .u8 0, .int .u8 0, .int .u8 0, .int .u8 0, .int .u8 0, .int .u8 0, .int .u8 0, .int .u8 0, .int .u8 0, .int .u8 0, .int .u8 0, .int .u8 0, .int .u8 0, .int .u8 0, .int .u8 0, .int .u8 0, .int .u8 0, .int .u8 0, .int .u8 0, .int .u8 0, .int .u8 0, .int .u8 0]
def l732 : Array Value := #[.int .i64 7, .int .u8 4, .int .u8 0, .int .u8 0, .int .u8 0, .int .u8 0, .int .u8 0, .int .u8 0, .int .u8 0, .int .u8 0, .int .u8 0, .int .u8 0, .int .u8 0, .int .u8 0, .int .u8 0, .int .u8 0, .int .u8 0, .int .u8 0, .int .u8 0, .int .u8 0, .int .u8 0, .int .u8 0, .int .u8 0, .int .u8 0, .int .u8 0, .int .u8 0, .int .u8 0, .int .u8 0, .int .u8 0, .int .u8 0, .int .u8 0]
theorem catA32 : catA (withS 0 5) = c32 := by kernel_rfl
theorem labA132 : labA ⟨1, 32⟩ = l132 := by kernel_rfl
theorem labA232 : labA ⟨2, 32⟩ = l232 := by kernel_rfl
theorem labA732 : labA ⟨7, 32⟩ = l732 := by kernel_rfl
theorem put48x (w : World) : Calls Try.prog 48 #[.agg z23, .int .i64 5, .bool true] w fun e w' => e = .returned (.agg c32) ∧ Below w.heap.size w w' := by
  have h := put48 0 5 w
  rw [catA0, catA32] at h
  exact h
def exD (b : Nat) : Dm := ⟨0, some ⟨b, 0, none⟩, 1, [(1, 7)], none, 0, []⟩
theorem exD_at {W : World} {b : Nat} (h : W.heap[b]? = some (.cells #[.int .i64 1, .int .i64 7] 89 (0, 0))) : DmA W (exD b) := by
  refine ⟨fun _ => ⟨b, 0, rfl, lt_of_block h, fun j p hp => ?_⟩, fun h0 => absurd h0 (Nat.lt_irrefl 0)⟩
  cases j with
  | zero =>
    simp [exD] at hp; subst hp
    exact ⟨cell_of_row _ _ _ _ _ _ h, cell_of_row _ _ _ _ _ _ h⟩
  | succ j => simp [exD] at hp
theorem exX1 (b : Nat) : mvX (exD b) ⟨1, 32⟩ false = ⟨7, 32⟩ ∧ mvE (exD b) ⟨1, 32⟩ false = 0 := ⟨by kernel_rfl, by kernel_rfl⟩
theorem exX2 (b : Nat) : mvX (exD b) ⟨2, 32⟩ false = ⟨0, 0⟩ ∧ mvE (exD b) ⟨2, 32⟩ false = 6 := ⟨by kernel_rfl, by kernel_rfl⟩
theorem out24y (W : World) (b : Nat) (h : W.heap[b]? = some (.cells #[.int .i64 1, .int .i64 7] 89 (0, 0))) : Calls Try.prog 24 #[.agg #[.int .u32 0, .slice (some ⟨b, 0, none⟩) 1 1, .slice none 0 0], .agg l132] W fun e w' => e = .returned (.tuple #[.agg l732, .int .i64 0]) ∧ Below W.heap.size W w' := by
  have hh := out24 (exD b) ⟨1, 32⟩ W (exD_at h) (by simp [exD]) (by simp [exD])
  rw [(exX1 b).1, (exX1 b).2, labA132, labA732] at hh
  exact hh
theorem out24z (W : World) (b : Nat) (h : W.heap[b]? = some (.cells #[.int .i64 1, .int .i64 7] 89 (0, 0))) : Calls Try.prog 24 #[.agg #[.int .u32 0, .slice (some ⟨b, 0, none⟩) 1 1, .slice none 0 0], .agg l232] W fun e w' => e = .returned (.tuple #[.agg z25, .int .i64 6]) ∧ Below W.heap.size W w' := by
  have hh := out24 (exD b) ⟨2, 32⟩ W (exD_at h) (by simp [exD]) (by simp [exD])
  rw [(exX2 b).1, (exX2 b).2, labA232, ← z25_lab] at hh
  exact hh
theorem eq732 (w : World) : (Op.equalIn 10000 25 (.agg l732) (.agg l732)).run Try.prog w = .ok true w := by
  have h := eq25 (x := ⟨7, 32⟩) (y := ⟨7, 32⟩) (by decide) (by decide) (by decide) (by decide) w
  rw [labA732] at h
  simpa using h
theorem info25c : (Try.prog.info? 25).map (·.size) = some l732.size := by kernel_rfl
theorem info23c : (Try.prog.info? 23).map (·.size) = some c32.size := by kernel_rfl
set_option maxRecDepth 100000 in
set_option maxHeartbeats 4000000 in
theorem awake23 (w : World) : Calls Try.prog 23 #[] w fun e w' => e = .returned (.bool true) ∧ Below w.heap.size w w' := by
  have hu25 := Try.underlying25
  have hu23 := Try.underlying23
  have hu47 := Try.underlying47
  have HP := Lib.hid put48x
  have HY := Lib.hid out24y
  have HZ := Lib.hid out24z
  have heq := eq732
  have hgd := gd25
  have J0 := Lib.hid (heap_alloc2_old w (.cells #[.int .i64 1, .int .i64 7] 89) (.cells #[.int .u32 0, .slice (some ⟨w.heap.size, 0, none⟩) 1 1, .slice none 0 0] 47))
  have J1 := Lib.hid (heap_alloc2_new w (.cells #[.int .i64 1, .int .i64 7] 89) (.cells #[.int .u32 0, .slice (some ⟨w.heap.size, 0, none⟩) 1 1, .slice none 0 0] 47))
  have JB := Lib.hid (bel_alloc (bel_alloc (Below.refl w.heap.size w) (.cells #[.int .i64 1, .int .i64 7] 89)) (.cells #[.int .u32 0, .slice (some ⟨w.heap.size, 0, none⟩) 1 1, .slice none 0 0] 47))
  have i23 := info23c
  have i25 := info25c
  unfold z23 c32 at HP
  unfold l132 l732 at HY
  unfold l232 z25 at HZ
  unfold l732 at heq
  go_enter Try.func23, Try.ntmps23
  go_wp2_with (first
    | (go_at_call 48; refine (HP.out _).mono ?_; rintro e w1 ⟨rfl, hb⟩; have K0 := Lib.hid ((heap_alloc_old w1 (.cells c32 23) (lt_of_block (blk_below J0.out hb))).trans (blk_below J0.out hb)); have K1 := Lib.hid ((heap_alloc_old w1 (.cells c32 23) (lt_of_block (blk_below J1.out hb))).trans (blk_below J1.out hb)); have KC := Lib.hid (heap_alloc_new w1 (.cells c32 23)); have HB1 := Lib.hid (bel_alloc (bel_trans JB.out hb) (.cells c32 23)); have N1 := Lib.hid (heap_alloc_new w1 (.cells z23 23)); have NA1 := Lib.hid (World.setRow_alloc_new w1 z23 c32 23); unfold z23 at N1 NA1; clear hb)
    | (refine wpList_store_row rfl 23 (.tmp 2) (.tmp 11) rfl w1.heap.size c32 rfl rfl 23 z23 N1.out i23 (by kernel_rfl) (by kernel_rfl) ?_; rw [NA1.out]; have q0 : (w1.alloc (.cells c32 23)).cell? ⟨w.heap.size + 1, 0, none⟩ = some (.int .u32 0) := cell_of_row _ _ _ _ _ _ K1.out; have q1 : (w1.alloc (.cells c32 23)).cell? ⟨w.heap.size + 1, 1, none⟩ = some (.slice (some ⟨w.heap.size, 0, none⟩) 1 1) := cell_of_row _ _ _ _ _ _ K1.out; have q2 : (w1.alloc (.cells c32 23)).cell? ⟨w.heap.size + 1, 2, none⟩ = some (.slice none 0 0) := cell_of_row _ _ _ _ _ _ K1.out; generalize w1.alloc (.cells c32 23) = W1 at K0 K1 KC HB1 q0 q1 q2 ⊢; generalize w1.heap.size = C at KC ⊢)
    | (refine wpList_load_row rfl 23 (.tmp 2) rfl C rfl 23 c32 (0, 0) _ KC.out hu23 rfl i23 ?_; unfold c32)
    | (go_at_call 24; refine (HY.out _ _ K0.out).mono ?_; rintro e w2 ⟨rfl, hb⟩; have M0 := Lib.hid ((heap_alloc_old w2 (.cells l732 25) (lt_of_block (blk_below K0.out hb))).trans (blk_below K0.out hb)); have M1 := Lib.hid ((heap_alloc_old w2 (.cells l732 25) (lt_of_block (blk_below K1.out hb))).trans (blk_below K1.out hb)); have MC := Lib.hid ((heap_alloc_old w2 (.cells l732 25) (lt_of_block (blk_below KC.out hb))).trans (blk_below KC.out hb)); have MX := Lib.hid (heap_alloc_new w2 (.cells l732 25)); have HB2 := Lib.hid (bel_alloc (bel_trans HB1.out hb) (.cells l732 25)); have N2 := Lib.hid (heap_alloc_new w2 (.cells z25 25)); have NA2 := Lib.hid (World.setRow_alloc_new w2 z25 l732 25); unfold z25 at N2 NA2; clear hb K0 K1 KC HB1 q0 q1 q2)
    | (refine wpList_store_row rfl 25 (.tmp 3) (.tmp 17) rfl w2.heap.size l732 rfl rfl 25 z25 N2.out i25 (by kernel_rfl) (by kernel_rfl) ?_; rw [NA2.out]; have q0 : (w2.alloc (.cells l732 25)).cell? ⟨w.heap.size + 1, 0, none⟩ = some (.int .u32 0) := cell_of_row _ _ _ _ _ _ M1.out; have q1 : (w2.alloc (.cells l732 25)).cell? ⟨w.heap.size + 1, 1, none⟩ = some (.slice (some ⟨w.heap.size, 0, none⟩) 1 1) := cell_of_row _ _ _ _ _ _ M1.out; have q2 : (w2.alloc (.cells l732 25)).cell? ⟨w.heap.size + 1, 2, none⟩ = some (.slice none 0 0) := cell_of_row _ _ _ _ _ _ M1.out; generalize w2.alloc (.cells l732 25) = W2 at M0 M1 MC MX HB2 q0 q1 q2 ⊢; generalize w2.heap.size = X at MX ⊢)
    | (refine wpList_load_row rfl 23 (.tmp 2) rfl C rfl 23 c32 (0, 0) _ MC.out hu23 rfl i23 ?_; unfold c32)
    | (go_at_call 24; refine (HZ.out _ _ M0.out).mono ?_; rintro e w3 ⟨rfl, hb⟩; have UC := Lib.hid ((heap_alloc_old w3 (.cells z25 25) (lt_of_block (blk_below MC.out hb))).trans (blk_below MC.out hb)); have UX := Lib.hid ((heap_alloc_old w3 (.cells z25 25) (lt_of_block (blk_below MX.out hb))).trans (blk_below MX.out hb)); have HB3 := Lib.hid (bel_alloc (bel_trans HB2.out hb) (.cells z25 25)); have N3 := Lib.hid (heap_alloc_new w3 (.cells z25 25)); have NA3 := Lib.hid (World.setRow_alloc_new w3 z25 z25 25); unfold z25 at N3 NA3 UC UX; clear hb M0 M1 MC MX HB2 q0 q1 q2)
    | (refine wpList_store_row rfl 25 (.tmp 5) (.tmp 24) rfl w3.heap.size z25 rfl rfl 25 z25 N3.out info25z' (by kernel_rfl) (by kernel_rfl) ?_; (first | rw [NA3.out] | (unfold z25; rw [NA3.out])))
    | (refine wpList_load_row rfl 25 (.tmp 3) rfl X rfl 25 l732 (0, 0) _ UX.out hu25 rfl i25 ?_; unfold l732)
    | (refine wpList_load_row rfl 23 (.tmp 2) rfl C rfl 23 c32 (0, 0) _ UC.out hu23 rfl i23 ?_; unfold c32))
  go_ret
  exact ⟨rfl, HB3.out⟩
end Go.Proofs.Ytifmckhabkghcaa.P
