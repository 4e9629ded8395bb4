/- awake of law13. -/
import Derived.Test.YtifmckhabkghcaaT8
namespace Go.Proofs.Ytifmckhabkghcaa.P
open Go.RowKit
set_option linter.unusedSimpArgs false
attribute [local go_sem ↓] ldi25
attribute [local go_sem ↓] bsi56

def c8 : Array Value := #[.int .u8 16, .int .u8 0, .int .u8 0, .int .u8 0, .int .u8 0, .int .u8 0, .int .u8 0, .int .u8 0, .int .u8 0, .int .u8 0, .int .u8 0, .int .u8 0, .int .u8 0, .int .u8 0, .int .u8 0, .int .u8 0, .int .u8 0, .int .u8 0, .int .u8 0, .int .u8 0, .int .u8 0, .int .u8 0, .int .u8 0, .int .u8 0, .int .u8 0, .int .u8 0, .int .u8 0, .int .u8 0, .int .u8 0, .int .u8 0]
def l1A : Array Value := #[.int .i64 1, .int .u8 0, .int .u8 0, .int .u8 0, .int .u8 0, .int .u8 0, .int .u8 0, .int .u8 0, .int .u8 0, .int .u8 0, .int .u8 0, .int .u8 0, .int .u8 0, .int .u8 0, .int .u8 0, .int .u8 0, .int .u8 0, .int .u8 0, .int .u8 0, .int .u8 0, .int .u8 0, .int .u8 0, .int .u8 0, .int .u8 0, .int .u8 0, .int .u8 0, .int .u8 0, .int .u8 0, .int .u8 0, .int .u8 0, .int .u8 0]
def l8A : Array Value := #[.int .i64 1, .int .u8 16, .int .u8 0, .int .u8 0, .int .u8 0, .int .u8 0, .int .u8 0, .int .u8 0, .int .u8 0, .int .u8 0, .int .u8 0, .int .u8 0, .int .u8 0, .int .u8 0, .int .u8 0, .int .u8 0, .int .u8 0, .int .u8 0, .int .u8 0, .int .u8 0, .int .u8 0, .int .u8 0, .int .u8 0, .int .u8 0, .int .u8 0, .int .u8 0, .int .u8 0, .int .u8 0, .int .u8 0, .int .u8 0, .int .u8 0]
def a93 : Array Value := #[.int .i64 0, .int .u8 0, .int .u8 0, .int .u8 0, .int .u8 0, .int .u8 0, .int .u8 0, .int .u8 0, .int .u8 0, .int .u8 0, .int .u8 0, .int .u8 0, .int .u8 0, .int .u8 0, .int .u8 0, .int .u8 0, .int .u8 0, .int .u8 0, .int .u8 0, .int .u8 0, .int .u8 0, .int .u8 0, .int .u8 0, .int .u8 0, .int .u8 0, .int .u8 0, .int .u8 0, .int .u8 0, .int .u8 0, .int .u8 0, .int .u8 0, .int .i64 1, .int .u8 0, .int .u8 0, .int .u8 0, .int .u8 0, .int .u8 0, .int .u8 0, .int .u8 0, .int .u8 0, .int .u8 0, .int .u8 0, .int .u8 0, .int .u8 0, .int .u8 0, .int .u8 0, .int .u8 0, .int .u8 0, .int .u8 0, .int .u8 0, .int .u8 0, .int .u8 0, .int .u8 0, .int .u8 0, .int .u8 0, .int .u8 0, .int .u8 0, .int .u8 0, .int .u8 0, .int .u8 0, .int .u8 0, .int .u8 0, .int .i64 1, .int .u8 16, .int .u8 0, .int .u8 0, .int .u8 0, .int .u8 0, .int .u8 0, .int .u8 0, .int .u8 0, .int .u8 0, .int .u8 0, .int .u8 0, .int .u8 0, .int .u8 0, .int .u8 0, .int .u8 0, .int .u8 0, .int .u8 0, .int .u8 0, .int .u8 0, .int .u8 0, .int .u8 0, .int .u8 0, .int .u8 0, .int .u8 0, .int .u8 0, .int .u8 0, .int .u8 0, .int .u8 0, .int .u8 0, .int .u8 0]
theorem catA8 : catA (withS 0 3) = c8 := by kernel_rfl
theorem labA1 : labA ⟨1, 0⟩ = l1A := by kernel_rfl
theorem labA8 : labA ⟨1, 8⟩ = l8A := by kernel_rfl
theorem put48y (w : World) : Calls Try.prog 48 #[.agg z23, .int .i64 3, .bool true] w fun e w' => e = .returned (.agg c8) ∧ Below w.heap.size w w' := by
  have h := put48 0 3 w
  rw [catA0, catA8] at h
  exact h
theorem bs93 (w : World) : (BSI 56 3 #[(0, .agg z25), (1, .agg l1A), (2, .agg l8A)]).run Try.prog w = .ok (.slice (some ⟨w.heap.size, 0, none⟩) 3 3) (w.alloc (.cells a93 25)) := by
  kernel_rfl
def ex3 : List Lab := [⟨0, 0⟩, ⟨1, 0⟩, ⟨1, 8⟩]
theorem ex3_ok : ∀ y ∈ ex3, LabOK y := by
  intro y hy
  simp [ex3] at hy
  rcases hy with rfl | rfl | rfl <;> exact ⟨by decide, by decide⟩
theorem ex3_chk : chkK ex3 = 3 ∧ chkE ex3 = 0 := by decide
theorem ex3_in : selN (inB ex3 ⟨0, 0⟩ ⟨1, 0⟩) ex3.length = [0, 1] := by decide
theorem ex3_be : beN ex3 2 = [0, 1, 2] := by decide
theorem ex3_labs : labsL ex3 = a93.toList := by kernel_rfl
theorem ex3_at (w : World) : SlA (w.alloc (.cells a93 25)) (some ⟨w.heap.size, 0, none⟩) ex3 := fun _ => ⟨w.heap.size, 0, rfl, by simp, fun j x hx i u hu => by
  rw [cell_of_row _ _ _ _ _ _ (heap_alloc_new w _), show 0 + j * 31 + i = j * 31 + i by omega]
  have := labsL_get ex3 j x hx i u hu
  rw [ex3_labs] at this
  simpa using this⟩
theorem new32y (w : World) : Calls Try.prog 32 #[.slice (some ⟨w.heap.size, 0, none⟩) 3 3] (w.alloc (.cells a93 25)) fun e w' => ∃ g, e = .returned (.tuple #[.pointer (some ⟨g, 0, none⟩), .int .i64 3, .int .i64 0]) ∧ Tab w' (w.alloc (.cells a93 25)).heap.size g ex3 ∧ Below (w.alloc (.cells a93 25)).heap.size (w.alloc (.cells a93 25)) w' := by
  refine (new32 ex3 _ 3 _ (ex3_at w) ex3_ok (by decide)).mono ?_
  rintro e w' ⟨p, rfl, hb, _, h0⟩
  obtain ⟨g, rfl, ht⟩ := h0 ex3_chk.2
  exact ⟨g, by rw [ex3_chk.1, ex3_chk.2]; rfl, ht, hb⟩
theorem within35y (B g : Nat) (w : World) (h : Tab w B g ex3) : Calls Try.prog 35 #[.pointer (some ⟨g, 0, none⟩), .agg z25, .agg l1A] w fun e w' => ∃ A c, e = .returned (.slice A 2 c) ∧ IntsA w' A [0, 1] ∧ Below w.heap.size w w' := by
  rw [z25_lab, ← labA1]
  refine (within35 B g ex3 ⟨0, 0⟩ ⟨1, 0⟩ w h ex3_ok (by decide) (by decide)).mono ?_
  rintro e w' ⟨v, rfl, ho, hb⟩
  rw [ex3_in] at ho
  obtain ⟨A, c, rfl, hi⟩ := ints_of_own ho
  exact ⟨A, c, rfl, hi, hb⟩
theorem below37y (B g : Nat) (w : World) (h : Tab w B g ex3) : Calls Try.prog 37 #[.pointer (some ⟨g, 0, none⟩), .int .i64 2] w fun e w' => ∃ A c, e = .returned (.slice A 3 c) ∧ IntsA w' A [0, 1, 2] ∧ Below w.heap.size w w' := by
  refine (below37 B g ex3 2 w h ex3_ok (by decide)).mono ?_
  rintro e w' ⟨v, rfl, ho, hb⟩
  rw [ex3_be] at ho
  obtain ⟨A, c, rfl, hi⟩ := ints_of_own ho
  exact ⟨A, c, rfl, hi, hb⟩
theorem ints34y (w : World) (A : Option Addr) (c : Nat) (l m : List Nat) (hA : IntsA w A l) (hl : l.length ≤ 1000) (hm : m.length ≤ 1000) (h : m = l) (cs : Array Value) (hcs : cs = (ints m).toArray) :
    Calls Try.prog 34 #[.slice A l.length c, .slice (some ⟨w.heap.size, 0, none⟩) m.length m.length] (w.alloc (.cells cs 3)) fun e w' => e = .returned (.bool true) ∧ Below (w.alloc (.cells cs 3)).heap.size (w.alloc (.cells cs 3)) w' := by
  subst h
  subst hcs
  have h1 := ints34 m m A (some ⟨w.heap.size, 0, none⟩) c m.length (w.alloc (.cells (ints m).toArray 3)) (hA.below (bel_alloc (Below.refl _ _) _)) (fun _ => ⟨_, _, rfl, by simp, fun j k hk => by
    rw [cell_of_row _ _ _ _ _ _ (heap_alloc_new w _)]
    simp [ints, hk]⟩) hl hm
  simpa using h1
theorem ints34a (w : World) (A : Option Addr) (c : Nat) (hA : IntsA w A [0, 1]) : Calls Try.prog 34 #[.slice A 2 c, .slice (some ⟨w.heap.size, 0, none⟩) 2 2] (w.alloc (.cells #[.int .i64 0, .int .i64 1] 3)) fun e w' => e = .returned (.bool true) ∧ Below (w.alloc (.cells #[.int .i64 0, .int .i64 1] 3)).heap.size (w.alloc (.cells #[.int .i64 0, .int .i64 1] 3)) w' :=
  ints34y w A c [0, 1] [0, 1] hA (by decide) (by decide) rfl _ rfl
theorem ints34b (w : World) (A : Option Addr) (c : Nat) (hA : IntsA w A [0, 1, 2]) : Calls Try.prog 34 #[.slice A 3 c, .slice (some ⟨w.heap.size, 0, none⟩) 3 3] (w.alloc (.cells #[.int .i64 0, .int .i64 1, .int .i64 2] 3)) fun e w' => e = .returned (.bool true) ∧ Below (w.alloc (.cells #[.int .i64 0, .int .i64 1, .int .i64 2] 3)).heap.size (w.alloc (.cells #[.int .i64 0, .int .i64 1, .int .i64 2] 3)) w' :=
  ints34y w A c [0, 1, 2] [0, 1, 2] hA (by decide) (by decide) rfl _ rfl
set_option maxRecDepth 100000 in
set_option maxHeartbeats 2000000 in
theorem awake31 (w : World) : Calls Try.prog 31 #[] w fun e w' => e = .returned (.bool true) ∧ Below w.heap.size w w' := by
  have HP := Lib.hid put48y
  have HN := Lib.hid new32y
  have HW := Lib.hid within35y
  have HBe := Lib.hid below37y
  have hbs := bs93
  unfold z23 c8 at HP
  unfold z25 l1A at HW hbs
  unfold l8A at hbs
  have hbb := fun (w : World) (cs : Array Value) => bel_alloc (Below.refl w.heap.size w) (.cells cs 25)
  have HBB := Lib.hid hbb
  clear hbb
  go_enter Try.func31, Try.ntmps31
  go_wp2_with (first
    | (go_at_call 48; refine (HP.out _).mono ?_; rintro e w1 ⟨rfl, hb1⟩; have HB1 := Lib.hid hb1; clear hb1)
    | (go_at_call 32; refine (HN.out _).mono ?_; rintro e w2 ⟨g, rfl, ht2, hb2⟩; have HT2 := Lib.hid ht2; have HB2 := Lib.hid (bel_trans HB1.out (bel_trans (HBB.out _ _) hb2)); clear hb2 ht2)
    | (go_at_call 35; refine (HW.out _ _ _ HT2.out).mono ?_; rintro e w3 ⟨A3, c3, rfl, hi3, hb3⟩; have HI3 := Lib.hid hi3; have HT3 := Lib.hid (HT2.out.below hb3); have HB3 := Lib.hid (bel_trans HB2.out hb3); clear hb3 hi3)
    | (go_at_call 34; (with_reducible refine (ints34a w3 A3 c3 HI3.out).mono ?_); rintro e w4 ⟨rfl, hb4⟩; have HT4 := Lib.hid ((HT3.out.below (bel_alloc (Below.refl _ _) _)).below hb4); have HB4 := Lib.hid (bel_trans (bel_alloc HB3.out _) hb4); clear hb4)
    | (go_at_call 37; refine (HBe.out _ _ _ HT4.out).mono ?_; rintro e w5 ⟨A5, c5, rfl, hi5, hb5⟩; have HI5 := Lib.hid hi5; have HB5 := Lib.hid (bel_trans HB4.out hb5); clear hb5 hi5)
    | (go_at_call 34; (with_reducible refine (ints34b w5 A5 c5 HI5.out).mono ?_); rintro e w6 ⟨rfl, hb6⟩; have HB6 := Lib.hid (bel_trans (bel_alloc HB5.out _) hb6); clear hb6))
  go_ret
  exact ⟨rfl, HB6.out⟩
end Go.Proofs.Ytifmckhabkghcaa.P
