/- Contracts of the ledger's functions New, Lost, Count, Counts, Lines, Clear. For the program's counters (layer 26). -/
import Derived.Test.YtkpnbkcebpeaoaaC3
namespace Go.Proofs.Ytkpnbkcebpeaoaa.P
open Go.RowKit

def ledV (c : List Int) (v : Value) (room lost : Int) : List Value := c.map (Value.int .i64) ++ [v, .int .i64 room, .int .i64 lost]
/-- A ledger lies in block B: sixteen counters, lines in memory of their own, the room, how many were lost. -/
structure Led (w : World) (B : Nat) (v : Value) (c : List Int) (l : List LineC) (room lost : Int) : Prop where
  len : c.length = 16
  blk : w.heap[B]? = some (.cells (ledV c v room lost).toArray 50 (0, 0))
  own : w.ownsRow (B + 1) 42 7 v l.length (lns l)

section
variable {w : World} {B : Nat} {v : Value} {c : List Int} {l : List LineC} {room lost : Int}
theorem Led.at (h : Led w B v c l room lost) (j : Nat) : w.cell? ⟨B, j, none⟩ = (ledV c v room lost)[j]? := by
  rw [cell_of_row _ _ _ _ _ _ h.blk]; simp
theorem Led.c0 (h : Led w B v c l room lost) (j : Nat) (hj : j < 16) : w.cell? ⟨B, j, none⟩ = some (.int .i64 (c.getD j 0)) := by
  have hl := h.len
  rw [h.at, ledV, List.getElem?_append_left (by simp; omega)]
  simp [List.getD, List.getElem?_eq_getElem (show j < c.length by omega)]
theorem Led.c16 (h : Led w B v c l room lost) : w.cell? ⟨B, 16, none⟩ = some v := by
  have hl := h.len
  rw [h.at, ledV, List.getElem?_append_right (by simp; omega)]; simp [hl]
theorem Led.c17 (h : Led w B v c l room lost) : w.cell? ⟨B, 17, none⟩ = some (.int .i64 room) := by
  have hl := h.len
  rw [h.at, ledV, List.getElem?_append_right (by simp; omega)]; simp [hl]
theorem Led.c18 (h : Led w B v c l room lost) : w.cell? ⟨B, 18, none⟩ = some (.int .i64 lost) := by
  have hl := h.len
  rw [h.at, ledV, List.getElem?_append_right (by simp; omega)]; simp [hl]
theorem Led.fr (h : Led w B v c l room lost) (j : Nat) : w.frozen? ⟨B, j, none⟩ = false := frozen_of_row w B j _ _ h.blk
theorem Led.lt (h : Led w B v c l room lost) : B < w.heap.size := lt_of_block h.blk
theorem Led.blk_ne (h : Led w B v c l room lost) : ∀ k, v.ownBlock = some k → B < k ∧ k < w.heap.size := h.own.lt
/-- What turns no block of the ledger's leaves it as it is. -/
theorem Led.kept {w' : World} (h : Led w B v c l room lost) (hb : w'.heap[B]? = w.heap[B]?) (hv : ∀ k, v.ownBlock = some k → w'.heap[k]? = w.heap[k]?) : Led w' B v c l room lost := by
  refine ⟨h.len, hb.trans h.blk, h.own.1, ?_⟩
  rcases h.own.2 with hn | ⟨g, cap, cur, rfl, hbb, hgg, rest⟩
  · exact .inl hn
  · exact .inr ⟨g, cap, cur, rfl, hbb, (hv g rfl).trans hgg, rest⟩
theorem Led.below {w' : World} (h : Led w B v c l room lost) (hb : Below w.heap.size w w') : Led w' B v c l room lost :=
  h.kept (hb.block _ h.lt) (fun k hk => hb.block _ (h.blk_ne k hk).2)
theorem Led.alloc (h : Led w B v c l room lost) (o : Obj) : Led (w.alloc o) B v c l room lost := h.below ((Below.refl _ _).alloc (Nat.le_refl _) _)
end

theorem new8 (q0 q1 q2 q3 room q5 q6 q7 q8 : Int) (w : World) : Calls Try.prog 8 #[.agg #[.int .i64 q0, .int .i64 q1, .int .i64 q2, .int .i64 q3, .int .i64 room, .int .i64 q5, .int .i64 q6, .int .i64 q7, .int .i64 q8]] w fun e w' =>
    e = .returned (.pointer (some ⟨w.heap.size + 1, 0, none⟩)) ∧ Led w' (w.heap.size + 1) (.slice none 0 0) (List.replicate 16 0) [] (max room 0) 0 ∧ Below w.heap.size w w' := by
  have hu27 := Try.underlying27
  have hu50 := Try.underlying50
  have hu37 := Try.underlying37
  go_enter Try.func8, Try.ntmps8
  go_wp2
  all_goals
    go_ret
    refine ⟨rfl, ⟨rfl, ?_, ?_⟩, ((Below.refl _ _).alloc (Nat.le_refl _) _).alloc (by simp) _⟩
    · first | rw [show max room 0 = room by omega] | rw [show max room 0 = 0 by omega]
      exact heap_alloc2_new _ _ _
    · exact World.ownsRow_nil _ _ _ _

theorem lost13 (w : World) (B : Nat) (v : Value) (c : List Int) (l : List LineC) (room lost : Int) (h : Led w B v c l room lost) :
    Calls Try.prog 13 #[.pointer (some ⟨B, 0, none⟩)] w fun e w' => e = .returned (.int .i64 lost) ∧ w = w' := by
  have hu50 := Try.underlying50
  have h18 := h.c18
  have H : Hid _ := h
  clear h
  go_enter Try.func13, Try.ntmps13
  go_wp2
  go_ret
  exact ⟨rfl, rfl⟩
theorem lost13_nil (w : World) : Calls Try.prog 13 #[.pointer none] w fun e w' => e = .returned (.int .i64 0) ∧ w = w' := by
  go_enter Try.func13, Try.ntmps13
  go_wp2
  go_ret
  exact ⟨rfl, rfl⟩

def cntF (c : List Int) (r : Int) : Int := if okR r = true then c.getD r.toNat 0 else 0
theorem count14 (w : World) (B : Nat) (v : Value) (c : List Int) (l : List LineC) (room lost : Int) (h : Led w B v c l room lost) (r : Int) :
    Calls Try.prog 14 #[.pointer (some ⟨B, 0, none⟩), .int .i64 r] w fun e w' => e = .returned (.int .i64 (cntF c r)) ∧ w = w' := by
  have hu50 := Try.underlying50
  have hu37 := Try.underlying37
  have HR : Hid _ := right18 r
  cases hr : okR r with
  | false =>
    have e : cntF c r = 0 := by simp [cntF, hr]
    rw [e]
    clear h
    go_enter Try.func14, Try.ntmps14
    go_wp2_with (go_at_call 18; refine (HR.out _).mono ?_; rintro e w' ⟨rfl, rfl⟩)
    go_ret
    exact ⟨rfl, rfl⟩
  | true =>
    have h0 : 0 ≤ r ∧ r < 16 := by simpa [okR] using hr
    obtain ⟨n, rfl⟩ : ∃ n : Nat, r = n := ⟨r.toNat, by omega⟩
    have hn : n < 16 := by omega
    have e : cntF c n = c.getD n 0 := by simp [cntF, hr]
    rw [e]
    have hc := h.c0 n hn
    have h1 : (0 : Int) ≤ (n : Int) := h0.1
    have h2 : (n : Int) < 16 := h0.2
    generalize c.getD n 0 = x at hc
    clear h h0 e
    go_enter Try.func14, Try.ntmps14
    go_wp2_with (go_at_call 18; refine (HR.out _).mono ?_; rintro e w' ⟨rfl, rfl⟩)
    go_ret
    exact ⟨rfl, rfl⟩
theorem count14_nil (w : World) (r : Int) : Calls Try.prog 14 #[.pointer none, .int .i64 r] w fun e w' => e = .returned (.int .i64 0) ∧ w = w' := by
  go_enter Try.func14, Try.ntmps14
  go_wp2_with fail
  go_ret
  exact ⟨rfl, rfl⟩

theorem clear10_nil (w : World) : Calls Try.prog 10 #[.pointer none] w fun e w' => e = .returned (.tuple #[]) ∧ w = w' := by
  go_enter Try.func10, Try.ntmps10
  go_wp2
  go_end0
  exact ⟨rfl, rfl⟩
/-- What a call may turn beside blocks that it makes: the ledger, and the row o. -/
structure Fr (B : Nat) (o : Option Nat) (w w' : World) : Prop where
  os : w'.os = w.os
  tape : w'.tape = w.tape
  output : w'.output = w.output
  size : w.heap.size ≤ w'.heap.size
  block : ∀ k, k < w.heap.size → k ≠ B → some k ≠ o → w'.heap[k]? = w.heap[k]?
theorem Fr.refl (B : Nat) (o : Option Nat) (w : World) : Fr B o w w := ⟨rfl, rfl, rfl, Nat.le_refl _, fun _ _ _ _ => rfl⟩
theorem Fr.below {B : Nat} {o : Option Nat} {w w' : World} (h : Fr B o w w') (ho : ∀ k, o = some k → B ≤ k) (hB : B ≤ w.heap.size) : Below B w w' :=
  ⟨h.os, h.tape, h.output, h.size, fun k hk => h.block k (by omega) (by omega) (fun e => by have := ho k e.symm; omega)⟩
theorem Fr.of_below {B : Nat} {o : Option Nat} {w w' : World} (h : Below w.heap.size w w') : Fr B o w w' := ⟨h.os, h.tape, h.output, h.size, fun k hk _ _ => h.block k hk⟩
theorem Fr.set (B j : Nat) (o : Option Nat) (w : World) (u : Value) : Fr B o w (w.setCell ⟨B, j, none⟩ u) := ⟨rfl, rfl, rfl, by simp [World.setCell], fun k _ h _ => Below.heap_setCell _ _ _ _ h⟩
theorem Fr.drew {B : Nat} {o : Option Nat} {w w' : World} (h : Fr B o w w') : Fr B o w w'.drew := ⟨h.os, h.tape, h.output, h.size, h.block⟩
theorem Fr.trans {B : Nat} {o : Option Nat} {a b c : World} (h : Fr B o a b) (k : Fr B o b c) : Fr B o a c :=
  ⟨k.os.trans h.os, k.tape.trans h.tape, k.output.trans h.output, Nat.le_trans h.size k.size, fun i hi hb ho => (k.block i (Nat.lt_of_lt_of_le hi h.size) hb ho).trans (h.block i hi hb ho)⟩

theorem Led.setv {w : World} {B : Nat} {v : Value} {c : List Int} {l : List LineC} {room lost : Int} (h : Led w B v c l room lost) {v' : Value} {l' : List LineC} (ho : w.ownsRow (B + 1) 42 7 v' l'.length (lns l')) :
    Led (w.setCell ⟨B, 16, none⟩ v') B v' c l' room lost := by
  have hl := h.len
  refine ⟨h.len, ?_, ownsRow_setCell_below ho (by simp) _⟩
  rw [heap_setCell_same w B 16 _ 50 v' h.blk]
  congr 2
  apply Array.ext'
  simp [ledV, hl]
theorem Led.setr {w : World} {B : Nat} {v : Value} {c : List Int} {l : List LineC} {room lost : Int} (h : Led w B v c l room lost) (n : Nat) (hn : n < 16) (x : Int) :
    Led (w.setCell ⟨B, n, none⟩ (.int .i64 x)) B v (c.set n x) l room lost := by
  have hl := h.len
  refine ⟨by simp [hl], ?_, ownsRow_setCell_below h.own (by simp) _⟩
  rw [heap_setCell_same w B n _ 50 _ h.blk]
  congr 2
  apply Array.ext'
  simp only [ledV, Array.toList_setIfInBounds]
  rw [List.set_append_left _ _ (by simp; omega), List.map_set]
theorem Led.setlost {w : World} {B : Nat} {v : Value} {c : List Int} {l : List LineC} {room lost : Int} (h : Led w B v c l room lost) (x : Int) :
    Led (w.setCell ⟨B, 18, none⟩ (.int .i64 x)) B v c l room x := by
  have hl := h.len
  refine ⟨h.len, ?_, ownsRow_setCell_below h.own (by simp) _⟩
  rw [heap_setCell_same w B 18 _ 50 _ h.blk]
  congr 2
  apply Array.ext'
  simp [ledV, hl]

theorem clear10 (w : World) (B : Nat) (v : Value) (c : List Int) (l : List LineC) (room lost : Int) (h : Led w B v c l room lost) :
    Calls Try.prog 10 #[.pointer (some ⟨B, 0, none⟩)] w fun e w' => e = .returned (.tuple #[]) ∧ Led w' B (.slice none 0 0) c [] room lost ∧ Fr B none w w' := by
  have hu50 := Try.underlying50
  have h16 := h.c16
  have hf := h.fr 16
  have H : Hid _ := h
  clear h
  go_enter Try.func10, Try.ntmps10
  go_wp2
  go_end0
  exact ⟨rfl, H.out.setv (World.ownsRow_nil _ _ _ _), Fr.set _ _ _ _ _⟩

set_option maxHeartbeats 2000000 in
theorem counts12 (w : World) (B : Nat) (v : Value) (c : List Int) (l : List LineC) (room lost : Int) (h : Led w B v c l room lost) :
    Calls Try.prog 12 #[.pointer (some ⟨B, 0, none⟩)] w fun e w' => e = .returned (.agg (c.map (Value.int .i64)).toArray) ∧ Below w.heap.size w w' := by
  have hu50 := Try.underlying50
  have hu37 := Try.underlying37
  have hB := h.lt
  obtain ⟨x0, x1, x2, x3, x4, x5, x6, x7, x8, x9, x10, x11, x12, x13, x14, x15, rfl⟩ : ∃ x0 x1 x2 x3 x4 x5 x6 x7 x8 x9 x10 x11 x12 x13 x14 x15, c = [x0, x1, x2, x3, x4, x5, x6, x7, x8, x9, x10, x11, x12, x13, x14, x15] := by
    have hl := h.len
    match c, hl with
    | [x0, x1, x2, x3, x4, x5, x6, x7, x8, x9, x10, x11, x12, x13, x14, x15], _ => exact ⟨_, _, _, _, _, _, _, _, _, _, _, _, _, _, _, _, rfl⟩
  have g0 : w.cell? ⟨B, 0, none⟩ = some (.int .i64 x0) := h.c0 0 (by omega)
  have g1 : w.cell? ⟨B, 1, none⟩ = some (.int .i64 x1) := h.c0 1 (by omega)
  have g2 : w.cell? ⟨B, 2, none⟩ = some (.int .i64 x2) := h.c0 2 (by omega)
  have g3 : w.cell? ⟨B, 3, none⟩ = some (.int .i64 x3) := h.c0 3 (by omega)
  have g4 : w.cell? ⟨B, 4, none⟩ = some (.int .i64 x4) := h.c0 4 (by omega)
  have g5 : w.cell? ⟨B, 5, none⟩ = some (.int .i64 x5) := h.c0 5 (by omega)
  have g6 : w.cell? ⟨B, 6, none⟩ = some (.int .i64 x6) := h.c0 6 (by omega)
  have g7 : w.cell? ⟨B, 7, none⟩ = some (.int .i64 x7) := h.c0 7 (by omega)
  have g8 : w.cell? ⟨B, 8, none⟩ = some (.int .i64 x8) := h.c0 8 (by omega)
  have g9 : w.cell? ⟨B, 9, none⟩ = some (.int .i64 x9) := h.c0 9 (by omega)
  have g10 : w.cell? ⟨B, 10, none⟩ = some (.int .i64 x10) := h.c0 10 (by omega)
  have g11 : w.cell? ⟨B, 11, none⟩ = some (.int .i64 x11) := h.c0 11 (by omega)
  have g12 : w.cell? ⟨B, 12, none⟩ = some (.int .i64 x12) := h.c0 12 (by omega)
  have g13 : w.cell? ⟨B, 13, none⟩ = some (.int .i64 x13) := h.c0 13 (by omega)
  have g14 : w.cell? ⟨B, 14, none⟩ = some (.int .i64 x14) := h.c0 14 (by omega)
  have g15 : w.cell? ⟨B, 15, none⟩ = some (.int .i64 x15) := h.c0 15 (by omega)
  clear h
  go_enter Try.func12, Try.ntmps12
  go_wp2
  refine bodyPost_ret (results_cell_row rfl _ _ w.heap.size 37 #[.int .i64 x0, .int .i64 x1, .int .i64 x2, .int .i64 x3, .int .i64 x4, .int .i64 x5, .int .i64 x6, .int .i64 x7, .int .i64 x8, .int .i64 x9, .int .i64 x10, .int .i64 x11, .int .i64 x12, .int .i64 x13, .int .i64 x14, .int .i64 x15] (0, 0) _ rfl ?_ Try.underlying37 rfl (by kernel_rfl)) rfl ?_
  · exact heap_alloc_new w _
  · exact ⟨rfl, (Below.refl _ _).alloc (Nat.le_refl _) _⟩
theorem counts12_nil (w : World) : Calls Try.prog 12 #[.pointer none] w fun e w' => e = .returned (.agg #[.int .i64 0, .int .i64 0, .int .i64 0, .int .i64 0, .int .i64 0, .int .i64 0, .int .i64 0, .int .i64 0, .int .i64 0, .int .i64 0, .int .i64 0, .int .i64 0, .int .i64 0, .int .i64 0, .int .i64 0, .int .i64 0]) ∧ Below w.heap.size w w' := by
  have hu37 := Try.underlying37
  go_enter Try.func12, Try.ntmps12
  go_wp2
  refine bodyPost_ret (results_cell_row rfl _ _ w.heap.size 37 #[.int .i64 0, .int .i64 0, .int .i64 0, .int .i64 0, .int .i64 0, .int .i64 0, .int .i64 0, .int .i64 0, .int .i64 0, .int .i64 0, .int .i64 0, .int .i64 0, .int .i64 0, .int .i64 0, .int .i64 0, .int .i64 0] (0, 0) _ rfl ?_ Try.underlying37 rfl (by kernel_rfl)) rfl ?_
  · exact heap_alloc_new w _
  · exact ⟨rfl, (Below.refl _ _).alloc (Nat.le_refl _) _⟩

set_option maxHeartbeats 2000000 in
theorem clone17 (B : Nat) (v : Value) (l : List LineC) (w : World) (hown : w.ownsRow B 42 7 v l.length (lns l)) (hn : l.length ≤ 1000) :
    Calls Try.prog 17 #[v] w fun e w' => ∃ v', e = .returned v' ∧ w'.ownsRow w.heap.size 42 7 v' l.length (lns l) ∧ Below w.heap.size w w' := by
  have hu34 := Try.underlying34
  obtain ⟨i0, hi0, hz1, hz2, hz0⟩ := info42
  have q34 : ∀ (w : World) (a : Option Addr) (n c n' c' : Nat), (binOp .eql 34 (.slice a n c) (.slice none n' c')).run Try.prog w = .ok (.bool a.isNone) w := fun w a n c n' c' => Lib.run_eql_slice_nil w _ _ a n c n' c' hu34
  rcases hown.2 with ⟨rfl, h0⟩ | ⟨g, cap, cur, rfl, _, _, hnc, hcm, _, _⟩
  · have hl : l = [] := List.length_eq_zero_iff.1 h0
    subst hl
    clear hown
    go_enter Try.func17, Try.ntmps17
    go_wp2
    go_ret
    exact ⟨_, rfl, World.ownsRow_nil _ _ _ _, Below.refl _ _⟩
  · have hlen := hown.1
    have A : Hid (∀ j u, (lns l)[j]? = some u → w.cell? ⟨g, j, none⟩ = some u) := fun j u hu => by
      have := hown.cells (g := g) rfl j u hu
      rwa [show (⟨g, 0, none⟩ : Addr).add j = ⟨g, j, none⟩ from by rw [Addr.add_lit, Nat.zero_add]] at this
    have LN : Hid _ := hlen
    have L1 : Hid _ := lns_one l
    generalize hN : lns l = news at A LN L1 ⊢
    generalize hn' : l.length = n at *
    clear hown hN hlen hn'
    go_enter Try.func17, Try.ntmps17
    go_wp2_with (at_builtin; refine wpList_append_own _ rfl (.tmp 5) (.tmp 6) 34 rfl w.heap.size 42 i0 (.agg zln.toArray) 7 48 hu34 hi0 hz0 hz1 hz2 rfl (by decide) _ _ _ rfl (World.ownsRow_made w #[] 0 (Nat.le_refl _) (Nat.zero_le _) (by simp)) ⟨g, 0, none⟩ n cap news rfl ?qc1 ?qc2 ?qc3 ?qc4 ?qc5 ?qc6 ?_)
    case qc1 => exact LN.out
    case qc2 =>
      intro j u hj
      rw [Addr.add_lit, Nat.zero_add]
      exact Lib.cell?_alloc_some _ (A.out j u hj)
    case qc3 => exact L1.out
    case qc4 => unfold maxLen; omega
    case qc5 => omega
    case qc6 => simp
    intro v' w1 hown hgrow hnil
    go_wp2
    go_ret
    refine ⟨v', rfl, by simpa using hown, ?_⟩
    exact ((Below.refl _ w).alloc (Nat.le_refl _) _).grown hgrow (by simp) (by intro k hk; simp [Value.ownBlock] at hk; omega)

theorem lines9_nil (w : World) : Calls Try.prog 9 #[.pointer none] w fun e w' => e = .returned (.slice none 0 0) ∧ w = w' := by
  go_enter Try.func9, Try.ntmps9
  go_wp2
  go_ret
  exact ⟨rfl, rfl⟩

end Go.Proofs.Ytkpnbkcebpeaoaa.P
