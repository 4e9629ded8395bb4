/- The document's example (awake) answers true. For the program's counters (layer 26). -/
import Derived.Test.YtkpnbkcebpeaoaaC5
namespace Go.Proofs.Ytkpnbkcebpeaoaa.P
open Go.RowKit

theorem addok_below {w w' : World} {B : Nat} {v : Value} {c : List Int} {l : List LineC} {room lost : Int} (h : Led w B v c l room lost) (hF : Fr B v.ownBlock w w') : Below B w w' :=
  hF.below (fun k hk => Nat.le_of_lt (h.blk_ne k hk).1) (Nat.le_of_lt h.lt)

theorem addA (w : World) (B : Nat) (h : Led w B (.slice none 0 0) (List.replicate 16 0) [] 1 0) :
    Calls Try.prog 11 #[.pointer (some ⟨B, 0, none⟩), .int .i64 1, .int .i64 6, .agg #[.int .u32 0, .int .u32 0, .int .i64 0, .int .i64 0, .int .i64 0]] w fun e w' => e = .returned (.bool true) ∧ ∃ v, Led w' B v ((List.replicate 16 (0 : Int)).set 6 1) [⟨1, 6, 0, 0, 0, 0, 0⟩] 1 0 ∧ Below B w w' := by
  refine (add11 w B _ _ _ _ _ h 1 6 0 0 0 0 0 (by decide) (by decide) (by decide) (by decide) (by decide) (by decide) (by decide) (by decide)).mono ?_
  rintro e w' ⟨rfl, v', hL, hF, _⟩
  exact ⟨rfl, v', hL, addok_below h hF⟩

theorem addB (w : World) (B : Nat) (v : Value) (h : Led w B v ((List.replicate 16 (0 : Int)).set 6 1) [⟨1, 6, 0, 0, 0, 0, 0⟩] 1 0) :
    Calls Try.prog 11 #[.pointer (some ⟨B, 0, none⟩), .int .i64 2, .int .i64 9, .agg #[.int .u32 0, .int .u32 0, .int .i64 0, .int .i64 0, .int .i64 0]] w fun e w' => e = .returned (.bool true) ∧ ∃ v, Led w' B v (((List.replicate 16 (0 : Int)).set 6 1).set 9 1) [⟨2, 9, 0, 0, 0, 0, 0⟩] 1 1 ∧ Below B w w' := by
  refine (add11 w B _ _ _ _ _ h 2 9 0 0 0 0 0 (by decide) (by decide) (by decide) (by decide) (by decide) (by decide) (by decide) (by decide)).mono ?_
  rintro e w' ⟨rfl, v', hL, hF, _⟩
  exact ⟨rfl, v', hL, addok_below h hF⟩

theorem linesC (w : World) (B : Nat) (v : Value) (c : List Int) (h : Led w B v c [⟨2, 9, 0, 0, 0, 0, 0⟩] 1 1) :
    Calls Try.prog 9 #[.pointer (some ⟨B, 0, none⟩)] w fun e w' => ∃ g cap, e = .returned (.slice (some ⟨g, 0, none⟩) 1 cap) ∧ w'.cell? ⟨g, 1, none⟩ = some (.int .i64 9) ∧ Led w' B v c [⟨2, 9, 0, 0, 0, 0, 0⟩] 1 1 ∧ Below w.heap.size w w' := by
  refine (lines9 w B v c _ 1 1 h (by decide)).mono ?_
  rintro e w' ⟨v', rfl, ho, hb⟩
  obtain ⟨g, cap, rfl⟩ : ∃ g cap, v' = .slice (some ⟨g, 0, none⟩) 1 cap := by
    rcases ho.2 with ⟨_, h⟩ | ⟨g, cap, cur, h, _⟩
    · cases h
    · exact ⟨g, cap, h⟩
  refine ⟨g, cap, rfl, ?_, h.below hb, hb⟩
  have := ho.cells (g := g) rfl 1 (.int .i64 9) rfl
  rwa [Addr.add_lit] at this

set_option maxHeartbeats 1000000 in
theorem awake7 (w : World) : Calls Try.prog 7 #[] w fun e w' => e = .returned (.bool true) ∧ Below w.heap.size w w' := by
  have hu27 := Try.underlying27
  have hu31 := Try.underlying31
  have hu42 := Try.underlying42
  have hu34 := Try.underlying34
  have HN : Hid _ := new8 0 0 0 0 1 0 0 0 0
  go_enter Try.func7, Try.ntmps7
  go_wp2_with (first
    | (go_at_call 8; refine (HN.out _).mono ?_; rintro e w1 ⟨rfl, hL1, hb1⟩; have A1 : Hid _ := addA _ _ hL1; have B1 : Hid _ := hb1; clear hL1 hb1)
    | (go_at_call 11; refine Calls.mono A1.out ?_; rintro e w2 ⟨rfl, v2, hL2, hb2⟩; have A2 : Hid _ := addB _ _ _ hL2; have B2 : Hid _ := hb2; clear hL2 hb2 A1)
    | (go_at_call 11; refine Calls.mono A2.out ?_; rintro e w3 ⟨rfl, v3, hL3, hb3⟩; have A3 : Hid _ := linesC _ _ _ _ hL3; have B3 : Hid _ := hb3; clear hL3 hb3 A2)
    | (go_at_call 9; refine Calls.mono A3.out ?_; rintro e w4 ⟨g, cap, rfl, hcell, hL4, hb4⟩; have A4 : Hid _ := lost13 _ _ _ _ _ _ _ hL4; have B4 : Hid _ := hb4; have H4 : Hid _ := hL4; clear hL4 hb4 A3)
    | (go_at_call 13; refine Calls.mono A4.out ?_; rintro e w5 ⟨rfl, rfl⟩))
  go_ret
  refine ⟨rfl, ?_⟩
  have k2 := B1.out.trans (B2.out.mono (Nat.le_succ _))
  have k3 := k2.trans (B3.out.mono (Nat.le_succ _))
  exact k3.trans (B4.out.mono k3.size)

end Go.Proofs.Ytkpnbkcebpeaoaa.P
