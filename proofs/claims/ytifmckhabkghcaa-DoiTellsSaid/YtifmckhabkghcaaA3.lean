/- Contracts of cats.With (one more), Most, List. For sets of categories; no condition. -/
import Derived.Test.YtifmckhabkghcaaA2
import Derived.Deep.MidRow
namespace Go.Proofs.Ytifmckhabkghcaa.P
open Go.RowKit

theorem catA_ins (S n : Nat) : (catA S).setIfInBounds (n / 8) (.int .u8 (Go.bits .or .u8 (byteN S (n / 8)) (bitN n))) = catA (ins S n) := by
  rw [or8 _ _ (byteN_lt _ _) (bitN_lt _)]
  apply Array.ext
  · simp [catA_size]
  · intro i h1 h2
    have hi : i < 30 := by rw [catA_size] at h2; exact h2
    rw [Array.getElem_setIfInBounds (by simpa using h1)]
    have e : ∀ T, (catA T)[i]? = some (.int .u8 (byteN T i)) := fun T => catA_get T i hi
    have e1 : ∀ T (h : i < (catA T).size), (catA T)[i] = .int .u8 (byteN T i) := fun T h => by
      have := e T
      rw [Array.getElem?_eq_getElem h] at this
      exact Option.some.inj this
    rw [e1, e1, byteN_ins]
    by_cases h : n / 8 = i
    · rw [if_pos h, if_pos h.symm, h]
    · rw [if_neg h, if_neg (fun h' => h h'.symm)]

/-- The set with one more, where that is a category. -/
def withS (S : Nat) (k : Int) : Nat := if rightB k = true then ins S k.toNat else S
theorem info23 (S : Nat) : (Try.prog.info? 23).map (·.size) = some (catA S).size := by rw [catA_size]; kernel_rfl
def z23 : Array Value := #[.int .u8 0, .int .u8 0, .int .u8 0, .int .u8 0, .int .u8 0, .int .u8 0, .int .u8 0, .int .u8 0, .int .u8 0, .int .u8 0, .int .u8 0, .int .u8 0, .int .u8 0, .int .u8 0, .int .u8 0, .int .u8 0, .int .u8 0, .int .u8 0, .int .u8 0, .int .u8 0, .int .u8 0, .int .u8 0, .int .u8 0, .int .u8 0, .int .u8 0, .int .u8 0, .int .u8 0, .int .u8 0, .int .u8 0, .int .u8 0]

set_option maxRecDepth 100000 in
set_option maxHeartbeats 2000000 in
theorem with50 (S : Nat) (k : Int) (g c : Nat) (w : World) (hg : w.cell? ⟨g, 0, none⟩ = some (.int .i64 k)) :
    Calls Try.prog 50 #[.agg (catA S), .slice (some ⟨g, 0, none⟩) 1 c] w fun e w' => e = .returned (.agg (catA (withS S k))) ∧ Below w.heap.size w w' := by
  have hu23 := Try.underlying23
  have hu60 := Try.underlying60
  have HG := Lib.hid hg
  have hgl : g < w.heap.size := World.block_lt_of_cell? w _ hg
  clear hg
  go_enter Try.func50, Try.ntmps50
  go_wp2_with fail
  have H0 := Lib.hid (heap_alloc2_old w (.cells (catA S) 23) (.cells z23 23))
  have H1 := Lib.hid (heap_alloc2_new w (.cells (catA S) 23) (.cells z23 23))
  have HB := Lib.hid (bel_alloc (bel_alloc (Below.refl w.heap.size w) (.cells (catA S) 23)) (.cells z23 23))
  unfold z23 at H0 H1 HB
  go_loopg [9] 1 (fun gg s9 wr => ∃ i : Nat, i ≤ 1 ∧ 1 - i ≤ gg ∧ s9 = .int .i64 i ∧ Hid (wr.heap[w.heap.size]? = some (.cells (catA (if i = 0 then S else withS S k)) 23 (0, 0))) ∧ Hid (wr.heap[w.heap.size + 1]? = some (.cells z23 23 (0, 0))) ∧ Hid (Below w.heap.size w wr))
  case atStart => exact ⟨0, Nat.zero_le _, Nat.le_refl _, rfl, H0.out, H1.out, HB.out⟩
  case round =>
    obtain ⟨i, hi, hgg, rfl, K0, K1, BR⟩ := hrel
    clear H0 H1 HB
    have hi2 : i = 0 ∨ i = 1 := by omega
    rcases hi2 with rfl | rfl
    · have K0 := Lib.hid (show wr.heap[w.heap.size]? = some (.cells (catA S) 23 (0, 0)) from K0.out)
      have hcell : wr.cell? ⟨g, 0, none⟩ = some (.int .i64 k) := (BR.out.cell (p := ⟨g, 0, none⟩) hgl).trans HG.out
      have e0 : ((0 : Nat) : Int) = 0 := rfl
      rw [e0]
      clear e0
      cases hr : rightB k with
      | false =>
        have HE := Lib.hid (show withS S k = S by simp [withS, hr])
        have HR := Lib.hid (show ∀ w, Calls Try.prog 71 #[.int .i64 k] w fun e w' => e = .returned (.bool false) ∧ w = w' by rw [← hr]; exact right71 k)
        clear hr
        go_wp2_with (go_at_call 71; refine (HR.out _).mono ?_; rintro e w' ⟨rfl, rfl⟩)
        go_roundg 0
        case measure => omega
        case rel => exact ⟨1, Nat.le_refl _, Nat.le_refl _, by go_num, by rw [if_neg (by decide), HE.out]; exact K0.out, K1.out, BR.out⟩
      | true =>
        obtain ⟨k0, k1⟩ : 0 ≤ k ∧ k ≤ 239 := by simpa [rightB] using hr
        obtain ⟨n, rfl⟩ : ∃ n : Nat, k = n := ⟨k.toNat, by omega⟩
        have HE := Lib.hid (show withS S n = ins S n by simp [withS, hr])
        have HR := Lib.hid (show ∀ w, Calls Try.prog 71 #[.int .i64 n] w fun e w' => e = .returned (.bool true) ∧ w = w' by rw [← hr]; exact right71 n)
        have HT := Lib.hid (bit72 n (by omega))
        have q1 : Int.tdiv (n : Int) 8 = (n : Int) / 8 := Int.tdiv_eq_ediv_of_nonneg (by omega)
        have q2 : IntKind.i64.wrap (Int.tdiv (n : Int) 8) = (n : Int) / 8 := by rw [q1]; exact IntWalk.i64_in _ (by omega)
        have q3 : IntKind.i64.wrap ((n : Int) / 8) = (n : Int) / 8 := IntWalk.i64_in _ (by omega)
        have q4 : ((n : Int) / 8).toNat = n / 8 := by omega
        have d0 : (0 : Int) ≤ (n : Int) / 8 := by omega
        have d1 : (n : Int) / 8 < 30 := by omega
        have c1 : wr.cell? ⟨w.heap.size, n / 8, none⟩ = some (.int .u8 (byteN S (n / 8))) := (cell_of_row _ _ _ _ _ _ K0.out).trans (catA_get S (n / 8) (by omega))
        have f1 : wr.frozen? ⟨w.heap.size, n / 8, none⟩ = false := frozen_of_row _ _ _ _ _ K0.out
        clear hr
        go_wp2_with (go_at_call 71; refine (HR.out _).mono ?_; rintro e w' ⟨rfl, rfl⟩)
        go_region_with (go_at_call 72; refine (HT.out _).mono ?_; rintro e w' ⟨rfl, rfl⟩)
        all_goals
          go_wp2_with fail
          go_roundg 0
          case measure => omega
          case rel =>
            refine ⟨1, Nat.le_refl _, Nat.le_refl _, by go_num, ?_, ?_, ?_⟩
            · rw [if_neg (by decide), HE.out, ← catA_ins]
              exact heap_setCell_same wr w.heap.size (n / 8) _ 23 _ K0.out
            · exact (heap_setCell_other wr _ _ _ (by simp)).trans K1.out
            · exact (BR.out.setCell (Nat.le_refl _) _).drew
    · have K0 := Lib.hid (show wr.heap[w.heap.size]? = some (.cells (catA (withS S k)) 23 (0, 0)) from K0.out)
      have e0 : ((1 : Nat) : Int) = 1 := rfl
      rw [e0]
      clear e0
      go_wp2_with (first | (refine wpList_load_row rfl 23 (.tmp 2) rfl w.heap.size rfl 23 (catA (withS S k)) (0, 0) _ K0.out hu23 rfl (info23 _) ?_) | (refine wpList_store_row rfl 23 (.tmp 4) (.tmp 24) rfl (w.heap.size + 1) (catA (withS S k)) rfl rfl 23 z23 K1.out (info23 _) (by rw [catA_size]; rfl) (all_oneCell_toArray (catL_one _)) ?_))
      refine bodyPost_ret (results_cell_row rfl _ _ (w.heap.size + 1) 23 (catA (withS S k)) (0, 0) _ rfl (setRow_heap wr (w.heap.size + 1) _ _ 23 _ K1.out) hu23 rfl (info23 _)) rfl ⟨rfl, bel_setRow BR.out _ _ (by omega)⟩

/-- The greatest category below n; -1: there is none. -/
def mostB (S : Nat) : Nat → Int
  | 0 => -1
  | n + 1 => if S.testBit n = true then n else mostB S n
set_option maxRecDepth 100000 in
set_option maxHeartbeats 2000000 in
theorem most47 (S : Nat) (w : World) : Calls Try.prog 47 #[.agg (catA S)] w fun e w' => e = .returned (.int .i64 (mostB S 240)) ∧ Below w.heap.size w w' := by
  have hu23 := Try.underlying23
  go_enter Try.func47, Try.ntmps47
  go_wp2_with fail
  have H0 := Lib.hid (heap_alloc_new w (.cells (catA S) 23))
  have HB := Lib.hid (bel_alloc (Below.refl w.heap.size w) (.cells (catA S) 23))
  go_loopg [3] 240 (fun gg s3 wr => ∃ n : Nat, n ≤ 240 ∧ n ≤ gg ∧ s3 = .int .i64 ((n : Int) - 1) ∧ Hid (mostB S n = mostB S 240) ∧ Hid (wr.heap[w.heap.size]? = some (.cells (catA S) 23 (0, 0))) ∧ Hid (Below w.heap.size w wr))
  case atStart => exact ⟨240, Nat.le_refl _, Nat.le_refl _, rfl, rfl, H0.out, HB.out⟩
  case round =>
    obtain ⟨n, hn, hgg, rfl, HI, K0, BR⟩ := hrel
    clear H0 HB
    cases n with
    | zero =>
      have e0 : (((0 : Nat) : Int) - 1) = -1 := rfl
      rw [e0]
      clear e0
      go_wp2_with fail
      go_ret
      exact ⟨ret_int (by rw [← HI.out]; rfl), BR.out⟩
    | succ m =>
      have e0 : (((m + 1 : Nat) : Int) - 1) = (m : Int) := by omega
      rw [e0]
      clear e0
      have h0 : (0 : Int) ≤ (m : Int) := by omega
      have h1 : (m : Int) < 240 := by omega
      cases hb : S.testBit m with
      | true =>
        have HE := Lib.hid (show hasB S m = true by unfold hasB rightB; simp [hb]; omega)
        have HH := Lib.hid (has70 S m)
        have HI2 := Lib.hid (show mostB S 240 = m by rw [← HI.out, mostB, if_pos hb])
        rw [HE.out] at HH
        clear hb
        go_wp2_with (first | (refine wpList_load_row rfl 23 (.tmp 1) rfl w.heap.size rfl 23 (catA S) (0, 0) _ K0.out hu23 rfl (info23 _) ?_) | (go_at_call 70; refine (HH.out _).mono ?_; rintro e w' ⟨rfl, hb'⟩; have HB' := Lib.hid hb'; clear hb'))
        go_ret
        exact ⟨ret_int HI2.out.symm, below_then BR.out BR.out.size HB'.out⟩
      | false =>
        have HE := Lib.hid (show hasB S m = false by unfold hasB; simp [hb])
        have HH := Lib.hid (has70 S m)
        have HI2 := Lib.hid (show mostB S m = mostB S 240 by rw [← HI.out, mostB, if_neg (by rw [hb]; decide)])
        rw [HE.out] at HH
        clear hb
        go_wp2_with (first | (refine wpList_load_row rfl 23 (.tmp 1) rfl w.heap.size rfl 23 (catA S) (0, 0) _ K0.out hu23 rfl (info23 _) ?_) | (go_at_call 70; refine (HH.out _).mono ?_; rintro e w' ⟨rfl, hb'⟩; have HB' := Lib.hid hb'; clear hb'))
        go_roundg m
        case measure => omega
        case rel => exact ⟨m, by omega, Nat.le_refl _, rfl, HI2.out, blk_below K0.out HB'.out, below_then BR.out BR.out.size HB'.out⟩

/-- The categories below n. -/
def lsN (S n : Nat) : List Nat := (List.range n).filter S.testBit
theorem lsN_succ (S n : Nat) : lsN S (n + 1) = if S.testBit n = true then lsN S n ++ [n] else lsN S n := by
  unfold lsN
  rw [List.range_succ, List.filter_append]
  by_cases h : S.testBit n = true <;> simp [h]
theorem lsN_len (S n : Nat) : (lsN S n).length ≤ n := by
  unfold lsN
  exact Nat.le_trans (List.length_filter_le _ _) (by simp)
def ints (l : List Nat) : List Value := l.map fun (k : Nat) => .int .i64 (k : Int)
theorem info3 : (Try.prog.info? 3).map (fun i => (i.zero, i.size, i.bytes)) = some (some (.int .i64 0), 1, 8) := by kernel_rfl
set_option maxRecDepth 100000 in
set_option maxHeartbeats 2000000 in
theorem list69 (S : Nat) (w : World) : Calls Try.prog 69 #[.agg (catA S)] w fun e w' => ∃ v, e = .returned v ∧ w'.ownsRow w.heap.size 3 1 v (lsN S 240).length (ints (lsN S 240)) ∧ Below w.heap.size w w' := by
  have hu23 := Try.underlying23
  have hu60 := Try.underlying60
  obtain ⟨i0, hi0, hz0, hz1, hz2⟩ := info_parts info3
  have HI0 := Lib.hid hi0
  have HZ0 := Lib.hid hz0
  have HZ1 := Lib.hid hz1
  have HZ2 := Lib.hid hz2
  clear hi0 hz0 hz1 hz2
  go_enter Try.func69, Try.ntmps69
  go_wp2_with fail
  have H0 := Lib.hid (heap_alloc_new w (.cells (catA S) 23))
  have HB := Lib.hid (bel_alloc (Below.refl w.heap.size w) (.cells (catA S) 23))
  go_loopg [3, 5] 240 (fun gg s3 s5 wr => ∃ n : Nat, n ≤ 240 ∧ 240 - n ≤ gg ∧ s5 = .int .i64 n ∧ Hid (wr.ownsRow (w.heap.size + 1) 3 1 s3 (lsN S n).length (ints (lsN S n))) ∧ Hid (wr.heap[w.heap.size]? = some (.cells (catA S) 23 (0, 0))) ∧ Hid (Below w.heap.size w wr))
  case atStart => exact ⟨0, Nat.zero_le _, Nat.le_refl _, rfl, (World.ownsRow_nil _ _ _ _ : World.ownsRow _ _ _ _ (.slice none 0 0) 0 []), H0.out, HB.out⟩
  case round =>
    obtain ⟨n, hn, hgg, rfl, OW, K0, BR⟩ := hrel
    clear H0 HB
    by_cases hlt : n < 240
    · have h0 : (0 : Int) ≤ (n : Int) := by omega
      have h1 : (n : Int) < 240 := by omega
      have K1 := lt_of_block K0.out
      cases hb : S.testBit n with
      | true =>
        have HE := Lib.hid (show hasB S n = true by unfold hasB rightB; simp [hb]; omega)
        have HH := Lib.hid (has70 S n)
        have HL := Lib.hid (show lsN S (n + 1) = lsN S n ++ [n] by rw [lsN_succ, if_pos hb])
        rw [HE.out] at HH
        have hl := lsN_len S n
        clear hb
        go_wp2_with (first
          | (refine wpList_load_row rfl 23 (.tmp 1) rfl w.heap.size rfl 23 (catA S) (0, 0) _ K0.out hu23 rfl (info23 _) ?_)
          | (go_at_call 70; refine (HH.out _).mono ?_; rintro e w4 ⟨rfl, hb'⟩; have HB' := Lib.hid hb'; have hs4 := hb'.size; have OW4 := Lib.hid (own_below OW.out hb'); have K4 := Lib.hid (blk_below K0.out hb'); clear hb')
          | (at_builtin; refine wpList_append_own _ rfl (.tmp 11) (.tmp 13) 60 rfl (w.heap.size + 1) 3 i0 (.int .i64 0) 1 8 hu60 HI0.out HZ0.out HZ1.out HZ2.out rfl (by decide) _ _ _ rfl (OW4.out.alloc _) ⟨w4.heap.size, 0, none⟩ 1 1 [.int .i64 n] rfl rfl (World.news_of_block (cs := #[.int .i64 n]) (heap_alloc_new _ _)) (by intro u hu; rw [List.mem_singleton.1 hu]; rfl) (by unfold maxLen; omega) (by omega) (by simp; omega) ?_; intro v' w5 ho5 hg5 _; have HO5 := Lib.hid ho5; have HG5 := Lib.hid hg5; clear ho5 hg5))
        go_roundg (240 - (n + 1))
        case measure => omega
        case rel =>
          refine ⟨n + 1, by omega, Nat.le_refl _, by go_num, ?_, ?_, ?_⟩
          · have := HO5.out
            rw [HL.out, List.length_append, ints, List.map_append]
            exact this
          · refine (HG5.out.block _ (by simp; omega) (fun e => ?_)).trans ((heap_alloc_old _ _ (by omega)).trans K4.out)
            have := (OW4.out.lt _ e.symm).1
            omega
          · exact (bel_alloc (below_then BR.out BR.out.size HB'.out) _).grown HG5.out (by simp; omega) (fun k hk => by have := (OW4.out.lt _ hk).1; omega)
      | false =>
        have HE := Lib.hid (show hasB S n = false by unfold hasB; simp [hb])
        have HH := Lib.hid (has70 S n)
        have HL := Lib.hid (show lsN S (n + 1) = lsN S n by rw [lsN_succ, if_neg (by rw [hb]; decide)])
        rw [HE.out] at HH
        clear hb
        go_wp2_with (first
          | (refine wpList_load_row rfl 23 (.tmp 1) rfl w.heap.size rfl 23 (catA S) (0, 0) _ K0.out hu23 rfl (info23 _) ?_)
          | (go_at_call 70; refine (HH.out _).mono ?_; rintro e w4 ⟨rfl, hb'⟩; have HB' := Lib.hid hb'; clear hb'))
        go_roundg (240 - (n + 1))
        case measure => omega
        case rel => exact ⟨n + 1, by omega, Nat.le_refl _, by go_num, by rw [HL.out]; exact own_below OW.out HB'.out, blk_below K0.out HB'.out, below_then BR.out BR.out.size HB'.out⟩
    · have hn2 : n = 240 := by omega
      subst hn2
      have e0 : ((240 : Nat) : Int) = 240 := rfl
      rw [e0]
      clear e0
      go_wp2_with fail
      go_ret
      exact ⟨_, rfl, own_lower OW.out (Nat.le_succ _), BR.out⟩
end Go.Proofs.Ytifmckhabkghcaa.P
