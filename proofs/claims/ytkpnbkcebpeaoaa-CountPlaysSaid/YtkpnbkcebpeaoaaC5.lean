/- Contracts of the ledger's functions Lines and Add. For the program's counters (layer 26). -/
import Derived.Test.YtkpnbkcebpeaoaaC4
namespace Go.Proofs.Ytkpnbkcebpeaoaa.P
open Go.RowKit

theorem lines9 (w : World) (B : Nat) (v : Value) (c : List Int) (l : List LineC) (room lost : Int) (h : Led w B v c l room lost) (hn : l.length ≤ 1000) :
    Calls Try.prog 9 #[.pointer (some ⟨B, 0, none⟩)] w fun e w' => ∃ v', e = .returned v' ∧ w'.ownsRow w.heap.size 42 7 v' l.length (lns l) ∧ Below w.heap.size w w' := by
  have hu50 := Try.underlying50
  have h16 := h.c16
  have HC : Hid _ := clone17 (B + 1) v l w h.own hn
  clear h
  go_enter Try.func9, Try.ntmps9
  go_wp2_with (go_at_call 17; refine Calls.mono HC.out ?_; rintro e w' ⟨v', rfl, ho, hb⟩)
  go_ret
  exact ⟨_, rfl, ho, hb⟩


theorem add11_nil (w : World) (t r : Int) (s d p sp dp : Int) : Calls Try.prog 11 #[.pointer none, .int .i64 t, .int .i64 r, .agg #[.int .u32 s, .int .u32 d, .int .i64 p, .int .i64 sp, .int .i64 dp]] w fun e w' => e = .returned (.bool false) ∧ Below w.heap.size w w' := by
  have hu31 := Try.underlying31
  go_enter Try.func11, Try.ntmps11
  go_wp2_with fail
  go_ret
  exact ⟨rfl, (Below.refl _ _).alloc (Nat.le_refl _) _⟩

theorem add11_no (w : World) (B : Nat) (t r : Int) (s d p sp dp : Int) (hr : okR r = false) : Calls Try.prog 11 #[.pointer (some ⟨B, 0, none⟩), .int .i64 t, .int .i64 r, .agg #[.int .u32 s, .int .u32 d, .int .i64 p, .int .i64 sp, .int .i64 dp]] w fun e w' => e = .returned (.bool false) ∧ Below w.heap.size w w' := by
  have hu31 := Try.underlying31
  have HR : Hid _ := right18 r
  go_enter Try.func11, Try.ntmps11
  go_wp2_with (go_at_call 18; refine (HR.out _).mono ?_; rintro e w' ⟨rfl, rfl⟩)
  go_ret
  exact ⟨rfl, (Below.refl _ _).alloc (Nat.le_refl _) _⟩

theorem Led.grow {Wa w1 : World} {B : Nat} {v v' : Value} {c : List Int} {l l' : List LineC} {room lost : Int} (h : Led Wa B v c l room lost) (hg : Wa.grownBy w1 v.ownBlock) (ho : w1.ownsRow (B + 1) 42 7 v' l'.length (lns l')) :
    Led (w1.setCell ⟨B, 16, none⟩ v') B v' c l' room lost := by
  have hl := h.len
  have hB : w1.heap[B]? = some (.cells (ledV c v room lost).toArray 50 (0, 0)) := (hg.block B h.lt (fun e => by have := h.blk_ne B e.symm; omega)).trans h.blk
  refine ⟨h.len, ?_, ownsRow_setCell_below ho (by simp) _⟩
  rw [heap_setCell_same w1 B 16 _ 50 v' hB]
  congr 2
  apply Array.ext'
  simp [ledV, hl]
theorem Fr.grow {Wa w1 : World} {B : Nat} {o : Option Nat} (hg : Wa.grownBy w1 o) (u : Value) : Fr B o Wa (w1.setCell ⟨B, 16, none⟩ u) :=
  ⟨hg.os, hg.tape, hg.output, by simpa [World.setCell] using hg.size, fun k hk hb ho => (Below.heap_setCell w1 ⟨B, 16, none⟩ u k hb).trans (hg.block k hk ho)⟩
theorem Fr.trans2 {B g : Nat} {o : Option Nat} {a b c : World} (h : Fr B o a b) (k : Fr B (some g) b c) (hg : o = some g ∨ a.heap.size ≤ g) : Fr B o a c :=
  ⟨k.os.trans h.os, k.tape.trans h.tape, k.output.trans h.output, Nat.le_trans h.size k.size, fun i hi hb ho => (k.block i (Nat.lt_of_lt_of_le hi h.size) hb (fun e => by
    rcases hg with hg | hg
    · exact ho (e.trans hg.symm)
    · have := Option.some.inj e; omega)).trans (h.block i hi hb ho)⟩
theorem lns_snoc (l : List LineC) (y : LineC) : lns (l ++ [y]) = lns l ++ lnC y := by simp [lns]

/-- What Add leaves, of a reason that there is. -/
def AddOk (w : World) (B : Nat) (v : Value) (c : List Int) (l : List LineC) (room lost : Int) (n : Nat) (y : LineC) (w' : World) : Prop :=
  ∃ v', Led w' B v' (c.set n (c.getD n 0 + 1)) (if quietR n = true then l else if (l.length : Int) < room then l ++ [y] else (l ++ [y]).tail) room (if quietR n = true then lost else if (l.length : Int) < room then lost else lost + 1) ∧
    Fr B v.ownBlock w w' ∧ (v'.ownBlock = v.ownBlock ∨ ∃ b, v'.ownBlock = some b ∧ w.heap.size ≤ b)

theorem addok_lt {w w' : World} {B : Nat} {v v' : Value} {c : List Int} {l : List LineC} {room lost x : Int} {n : Nat} {y : LineC} (hq : quietR n = false) (hX : c.getD n 0 = x) (hlt : (l.length : Int) < room)
    (hL : Led w' B v' (c.set n (x + 1)) (l ++ [y]) room lost) (hF : Fr B v.ownBlock w w') (hv : v'.ownBlock = v.ownBlock ∨ ∃ b, v'.ownBlock = some b ∧ w.heap.size ≤ b) : AddOk w B v c l room lost n y w' := by
  subst hX
  refine ⟨v', ?_, hF, hv⟩
  rw [if_neg (by simp [hq]), if_pos hlt, if_neg (by simp [hq]), if_pos hlt]
  exact hL
theorem addok_ge {w w' : World} {B : Nat} {v v' : Value} {c : List Int} {l : List LineC} {room lost x : Int} {n : Nat} {y : LineC} (hq : quietR n = false) (hX : c.getD n 0 = x) (hlt : ¬ (l.length : Int) < room)
    (hL : Led w' B v' (c.set n (x + 1)) (l ++ [y]).tail room (lost + 1)) (hF : Fr B v.ownBlock w w') (hv : v'.ownBlock = v.ownBlock ∨ ∃ b, v'.ownBlock = some b ∧ w.heap.size ≤ b) : AddOk w B v c l room lost n y w' := by
  subst hX
  refine ⟨v', ?_, hF, hv⟩
  rw [if_neg (by simp [hq]), if_neg hlt, if_neg (by simp [hq]), if_neg hlt]
  exact hL

set_option maxHeartbeats 4000000 in
theorem add11 (w : World) (B : Nat) (v : Value) (c : List Int) (l : List LineC) (room lost : Int) (h : Led w B v c l room lost) (t : Int) (n : Nat) (s d p sp dp : Int) (hn : n < 16) (hx0 : 0 ≤ c.getD n 0) (hx1 : c.getD n 0 ≤ 1000) (hl : l.length ≤ 1000) (hroom : (l.length : Int) ≤ room) (hroom2 : room ≤ 9223372036854775807) (hlost : 0 ≤ lost) (hlost2 : lost ≤ 1000) :
    Calls Try.prog 11 #[.pointer (some ⟨B, 0, none⟩), .int .i64 t, .int .i64 n, .agg #[.int .u32 s, .int .u32 d, .int .i64 p, .int .i64 sp, .int .i64 dp]] w fun e w' => e = .returned (.bool true) ∧ AddOk w B v c l room lost n ⟨t, n, s, d, p, sp, dp⟩ w' := by
  have hu31 := Try.underlying31
  have hu50 := Try.underlying50
  have hu37 := Try.underlying37
  have hu34 := Try.underlying34
  have hu42 := Try.underlying42
  have HR : Hid _ := right18 n
  have HS : Hid _ := silent19 n
  have hr : okR n = true := by simp [okR]; omega
  have i0 : (0 : Int) ≤ (n : Int) := by omega
  have i1 : (n : Int) < 16 := by omega
  have hcn := h.c0 n hn
  have hfn := h.fr n
  have hB := h.lt
  generalize hX : c.getD n 0 = x at *
  have HX : Hid _ := hX
  have H : Hid _ := h
  clear h hX
  cases hq : quietR n with
  | true =>
    have HQ : Hid _ := hq
    go_enter Try.func11, Try.ntmps11
    go_wp2_with (first | (go_at_call 18; refine (HR.out _).mono ?_; rintro e w' ⟨rfl, rfl⟩) | (go_at_call 19; refine (HS.out _).mono ?_; rintro e w' ⟨rfl, rfl⟩))
    go_region
    go_wp2_with (first | (go_at_call 18; refine (HR.out _).mono ?_; rintro e w' ⟨rfl, rfl⟩) | (go_at_call 19; refine (HS.out _).mono ?_; rintro e w' ⟨rfl, rfl⟩))
    go_ret
    refine ⟨rfl, v, ?_, ?_, .inl rfl⟩
    · rw [if_pos HQ.out, if_pos HQ.out, HX.out]
      exact ((H.out.setr n hn (x + 1)).alloc _).below (Below.refl _ _).drew
    · exact ((Fr.set _ _ _ _ _).trans (Fr.of_below ((Below.refl _ _).alloc (Nat.le_refl _) _))).drew
  | false =>
    have HQ : Hid _ := hq
    go_enter Try.func11, Try.ntmps11
    go_wp2_with (first | (go_at_call 18; refine (HR.out _).mono ?_; rintro e w' ⟨rfl, rfl⟩) | (go_at_call 19; refine (HS.out _).mono ?_; rintro e w' ⟨rfl, rfl⟩))
    go_region
    go_wp2_with (first | (go_at_call 18; refine (HR.out _).mono ?_; rintro e w' ⟨rfl, rfl⟩) | (go_at_call 19; refine (HS.out _).mono ?_; rintro e w' ⟨rfl, rfl⟩))
    have hs0 : (w.setCell ⟨B, n, none⟩ (.int .i64 (x + 1))).heap.size = w.heap.size := by simp
    have L0 : Hid _ := H.out.setr n hn (x + 1)
    have F0 : Hid (Fr B v.ownBlock w (w.setCell ⟨B, n, none⟩ (.int .i64 (x + 1)))) := Fr.set _ _ _ _ _
    clear hcn hfn
    generalize w.setCell ⟨B, n, none⟩ (.int .i64 (x + 1)) = W0 at *
    rw [← hs0]
    rw [← hs0] at hB
    have HS0 : Hid _ := hs0
    clear hs0
    have L1 : Hid _ := (L0.out.alloc (.cells #[.int .u32 s, .int .u32 d, .int .i64 p, .int .i64 sp, .int .i64 dp] 31)).below (Below.refl _ _).drew
    have F1 : Hid (Fr B v.ownBlock W0 (W0.alloc (.cells #[.int .u32 s, .int .u32 d, .int .i64 p, .int .i64 sp, .int .i64 dp] 31)).drew) := (Fr.of_below ((Below.refl _ _).alloc (Nat.le_refl _) _)).drew
    have e0 : (W0.alloc (.cells #[.int .u32 s, .int .u32 d, .int .i64 p, .int .i64 sp, .int .i64 dp] 31)).drew.cell? ⟨W0.heap.size, 0, none⟩ = some (.int .u32 s) := World.cell?_alloc_mark W0 #[.int .u32 s, .int .u32 d, .int .i64 p, .int .i64 sp, .int .i64 dp] 31 (0, 0) 0
    have e1 : (W0.alloc (.cells #[.int .u32 s, .int .u32 d, .int .i64 p, .int .i64 sp, .int .i64 dp] 31)).drew.cell? ⟨W0.heap.size, 1, none⟩ = some (.int .u32 d) := World.cell?_alloc_mark W0 #[.int .u32 s, .int .u32 d, .int .i64 p, .int .i64 sp, .int .i64 dp] 31 (0, 0) 1
    have e2 : (W0.alloc (.cells #[.int .u32 s, .int .u32 d, .int .i64 p, .int .i64 sp, .int .i64 dp] 31)).drew.cell? ⟨W0.heap.size, 2, none⟩ = some (.int .i64 p) := World.cell?_alloc_mark W0 #[.int .u32 s, .int .u32 d, .int .i64 p, .int .i64 sp, .int .i64 dp] 31 (0, 0) 2
    have e3 : (W0.alloc (.cells #[.int .u32 s, .int .u32 d, .int .i64 p, .int .i64 sp, .int .i64 dp] 31)).drew.cell? ⟨W0.heap.size, 3, none⟩ = some (.int .i64 sp) := World.cell?_alloc_mark W0 #[.int .u32 s, .int .u32 d, .int .i64 p, .int .i64 sp, .int .i64 dp] 31 (0, 0) 3
    have e4 : (W0.alloc (.cells #[.int .u32 s, .int .u32 d, .int .i64 p, .int .i64 sp, .int .i64 dp] 31)).drew.cell? ⟨W0.heap.size, 4, none⟩ = some (.int .i64 dp) := World.cell?_alloc_mark W0 #[.int .u32 s, .int .u32 d, .int .i64 p, .int .i64 sp, .int .i64 dp] 31 (0, 0) 4
    have hs1 : (W0.alloc (.cells #[.int .u32 s, .int .u32 d, .int .i64 p, .int .i64 sp, .int .i64 dp] 31)).drew.heap.size = W0.heap.size + 1 := by simp
    generalize (W0.alloc (.cells #[.int .u32 s, .int .u32 d, .int .i64 p, .int .i64 sp, .int .i64 dp] 31)).drew = W1 at *
    have hB0 : B < W0.heap.size := by omega
    have vlt : Hid (∀ k, v.ownBlock = some k → k < W0.heap.size) := fun k hk => (L0.out.blk_ne k hk).2
    generalize W0.heap.size = K at *
    have h16 := L1.out.c16
    have h17 := L1.out.c17
    have h18 := L1.out.c18
    have hf16 := L1.out.fr 16
    have hf18 := L1.out.fr 18
    have hvB : v.ownBlock ≠ some B := fun e => by have := L1.out.blk_ne B e; omega
    have hvK : v.ownBlock ≠ some K := fun e => by have := vlt.out K e; omega
    have hvB' : some B ≠ v.ownBlock := hvB.symm
    have hvK' : some K ≠ v.ownBlock := hvK.symm
    obtain ⟨i0, hi0, hz1, hz2, hz0⟩ := info42
    have HI : Hid _ := hi0
    have HZ1 : Hid _ := hz1
    have HZ2 : Hid _ := hz2
    have HZ0 : Hid _ := hz0
    have NB : Hid ((W1.alloc (.cells #[.int .i64 t, .int .i64 n, .int .u32 s, .int .u32 d, .int .i64 p, .int .i64 sp, .int .i64 dp] 42)).heap[W1.heap.size]? = some (.cells #[.int .i64 t, .int .i64 n, .int .u32 s, .int .u32 d, .int .i64 p, .int .i64 sp, .int .i64 dp] 42 (0, 0))) := heap_alloc_new _ _
    clear hi0 hz1 hz2 hz0
    have hBK : B < W1.heap.size := by omega
    have hK1 : K < W1.heap.size := by omega
    have hne : B ≠ K := by omega
    have HS1 : Hid _ := hs1
    clear hs1
    have k16 := World.new_ne W1 _ h16
    have k0 := World.new_ne W1 _ e0
    go_region_law (refine step_append_lies _ (by rfl) (.tmp 33) (.tmp 38) 34 (by rfl) (B + 1) 42 i0 _ 7 48 hu34 HI.out HZ0.out HZ1.out HZ2.out rfl (by omega) v l.length (lns l) (by rfl) ((L1.out.own.alloc _).drew) ⟨W1.heap.size, 0, none⟩ 1 1 [.int .i64 t, .int .i64 n, .int .u32 s, .int .u32 d, .int .i64 p, .int .i64 sp, .int .i64 dp] (by rfl) (by rfl) (World.news_of_block (cs := #[.int .i64 t, .int .i64 n, .int .u32 s, .int .u32 d, .int .i64 p, .int .i64 sp, .int .i64 dp]) (t := 42) (fr := (0, 0)) NB.out) (by simp [Value.oneCell']) (by omega) (by unfold maxLen; omega) (by omega) (by simp; omega) (W1.heap.size + 1) (by simp) ?_; intro gg cap w1 hown1 hgrow hat hlt; have ka := hgrow.cell_far ⟨B, 16, none⟩ (by simp <;> omega) hvB'; have kb := hgrow.frozen_far ⟨B, 16, none⟩ (by simp <;> omega) hvB')
    all_goals go_wp2_with fail
    all_goals have L2 : Hid (Led (w1.setCell ⟨B, 16, none⟩ (.slice (some ⟨gg, 0, none⟩) (l.length + 1) cap)) B (.slice (some ⟨gg, 0, none⟩) (l.length + 1) cap) (c.set n (x + 1)) (l ++ [⟨t, n, s, d, p, sp, dp⟩]) room lost) := Led.grow (Led.below (L1.out.alloc _) (Below.refl _ _).drew) hgrow (by rw [lns_snoc, List.length_append]; exact hown1)
    all_goals have F2 : Hid (Fr B v.ownBlock W1 (w1.setCell ⟨B, 16, none⟩ (.slice (some ⟨gg, 0, none⟩) (l.length + 1) cap))) := (Fr.of_below ((Below.refl _ _).alloc (Nat.le_refl _) _)).drew.trans (Fr.grow hgrow _)
    all_goals have HAT : Hid _ := hat
    all_goals
      clear hgrow hown1 hat ka kb h16 h17 h18 hf16 hf18 hvB hvK hvB' hvK' hlt
      generalize w1.setCell ⟨B, 16, none⟩ (.slice (some ⟨gg, 0, none⟩) (l.length + 1) cap) = W2 at L2 F2 ⊢
      have m16 := L2.out.c16
      have m17 := L2.out.c17
      have m18 := L2.out.c18
      have n16 := L2.out.fr 16
      have n18 := L2.out.fr 18
      have mB := L2.out.lt
      have ggB : some B ≠ some gg := fun e => by have := L2.out.blk_ne B e.symm; omega
      have OW : Hid (W2.ownsRow (B + 1) 42 7 (.slice (some ⟨gg, 0, none⟩) (l.length + 1) cap) (l.length + 1) (lns (l ++ [⟨t, n, s, d, p, sp, dp⟩]))) := by
        have := L2.out.own
        rwa [List.length_append] at this
      have FF : Hid (Fr B v.ownBlock w W2) := (F0.out.trans F1.out).trans F2.out
      have GE : Hid (v.ownBlock = some gg ∨ w.heap.size ≤ gg) := by
        rcases HAT.out with h | h
        · exact .inl h
        · right
          have := HS0.out
          have := HS1.out
          omega
      by_cases hful : (l.length : Int) < room
      · have HF : Hid _ := hful
        have hneg : ¬ ((l.length : Int) + 1 - room > 0) := by omega
        go_region
        go_wp2_with fail
        go_ret
        refine ⟨rfl, addok_lt HQ.out HX.out HF.out (L2.out.below (Below.refl _ _).drew) FF.out.drew ?_⟩
        rcases GE.out with h | h
        · exact .inl h.symm
        · exact .inr ⟨gg, rfl, h⟩
      · have HF : Hid _ := hful
        obtain rfl : room = (l.length : Int) := by omega
        clear hful
        go_region
        have HD : Hid (Calls Try.prog 20 #[.slice (some ⟨gg, 0, none⟩) (l.length + 1) cap, .int .i64 0, .int .i64 1] W2.drew fun e w' => e = .returned (.slice (some ⟨gg, 0, none⟩) l.length cap) ∧ w'.ownsRow (B + 1) 42 7 (.slice (some ⟨gg, 0, none⟩) l.length cap) l.length (lns (l ++ [(⟨t, n, s, d, p, sp, dp⟩ : LineC)]).tail) ∧ W2.drew.grownBy w' (some gg)) := delete_own (B + 1) gg l.length cap _ W2.drew OW.out.drew
        rw [show ((l.length : Int) + 1 - (l.length : Int)) = 1 by omega]
        go_wp2_with (go_at_call 20; refine Calls.mono HD.out ?_; rintro e w3 ⟨rfl, ho3, hg3⟩; have q16 : w3.cell? ⟨B, 16, none⟩ = some _ := (hg3.cell_far ⟨B, 16, none⟩ mB ggB).trans m16; have q18 : w3.cell? ⟨B, 18, none⟩ = some _ := (hg3.cell_far ⟨B, 18, none⟩ mB ggB).trans m18; have r16 : w3.frozen? ⟨B, 16, none⟩ = false := (hg3.frozen_far ⟨B, 16, none⟩ mB ggB).trans n16; have r18 : w3.frozen? ⟨B, 18, none⟩ = false := (hg3.frozen_far ⟨B, 18, none⟩ mB ggB).trans n18; have HG : Hid _ := hg3; have HO : Hid _ := ho3; clear hg3 ho3)
        go_ret
        have LX := (Led.grow (L2.out.below (Below.refl _ _).drew) HG.out (l' := (l ++ [(⟨t, n, s, d, p, sp, dp⟩ : LineC)]).tail) (by
          have := HO.out
          rwa [show (l ++ [(⟨t, n, s, d, p, sp, dp⟩ : LineC)]).tail.length = l.length by simp])).setlost (lost + 1)
        refine ⟨rfl, addok_ge HQ.out HX.out HF.out LX ((FF.out.drew.trans2 (Fr.grow HG.out _) GE.out).trans (Fr.set _ _ _ _ _)) ?_⟩
        rcases GE.out with h | h
        · exact .inl h.symm
        · exact .inr ⟨gg, rfl, h⟩

end Go.Proofs.Ytkpnbkcebpeaoaa.P
