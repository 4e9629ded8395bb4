/- Contract of way (layer 14). -/
import Derived.Test.YtfpbcdlfcaglgaaN6
namespace Go.Proofs.Ytfpbcdlfcaglgaa.P
open Go.RowKit

/-- A node's child. -/
def chd (x : Nd) (b : Bool) : Int := if b then x.b else x.a
/-- The nodes of a prefix from a node on. -/
def wayG (l : List Nd) (ad : Nat) : Nat → Nat → Nat → List Nat
  | 0, _, at_ => [at_]
  | m + 1, k, at_ => match l[at_]? with
    | none => [at_]
    | some x => if chd x (bt ad k) = -1 then [at_] else at_ :: wayG l ad m (k + 1) (chd x (bt ad k)).toNat
def way (l : List Nd) (ad n : Nat) : List Nat := wayG l ad n 0 0
/-- Each child is there. -/
def Chn (l : List Nd) : Prop := ∀ (i : Nat) x, l[i]? = some x → ∀ b, chd x b = -1 ∨ ∃ j : Nat, chd x b = j ∧ j < l.length
theorem wayG_stop {l : List Nd} {ad m k a : Nat} {x : Nd} (hx : l[a]? = some x) (h : chd x (bt ad k) = -1) : wayG l ad m k a = [a] := by
  cases m with
  | zero => rfl
  | succ m => simp [wayG, hx, h]
theorem wayG_go {l : List Nd} {ad m k a j : Nat} {x : Nd} (hx : l[a]? = some x) (h : chd x (bt ad k) = j) : wayG l ad (m + 1) k a = a :: wayG l ad m (k + 1) j := by
  have : ¬ chd x (bt ad k) = -1 := by omega
  rw [wayG]; simp only [hx, if_neg this]; rw [h]; rfl
theorem info3 : (Try.prog.info? 3).map (fun i => (i.zero, i.size, i.bytes)) = some (some (.int .i64 0), 1, 8) := by kernel_rfl
theorem intsL_len (l : List Nat) : (intsL l).length = l.length := by simp [intsL]
theorem intsL_snoc (l : List Nat) (x : Nat) : intsL (l ++ [x]) = intsL l ++ [.int .i64 x] := by simp [intsL]
theorem ints_at {w : World} {M g cap n : Nat} {l : List Nat} (h : w.ownsRow M 3 1 (.slice (some ⟨g, 0, none⟩) n cap) n (intsL l)) (i x : Nat) (hx : l[i]? = some x) : w.cell? ⟨g, i, none⟩ = some (.int .i64 x) := by
  have := h.cells (g := g) rfl i (.int .i64 x) (by simp [intsL, hx])
  rwa [Addr.add_lit, Nat.zero_add] at this

set_option maxHeartbeats 2000000 in
theorem way27 (w : World) (M B g cap : Nat) (vf : Value) (l : List Nd) (fr : List Nat) (c : Int) (h : Tri w M B g cap vf l fr c) (hch : Chn l) (ad n : Nat) (ha : ad < 2 ^ 32) (hn : n ≤ 32) :
    Calls Try.prog 27 #[.pointer (some ⟨B, 0, none⟩), .agg #[.int .u32 ad, .int .i64 n]] w fun e w' => ∃ v, e = .returned v ∧ w'.ownsRow w.heap.size 3 1 v (way l ad n).length (intsL (way l ad n)) ∧ Below w.heap.size w w' := by
  have hu61 := Try.underlying61
  have hu58 := Try.underlying58
  have hu59 := Try.underlying59
  have hu56 := Try.underlying56
  have hu54 := Try.underlying54
  have hu30 := Try.underlying30
  obtain ⟨i0, hi0, hz0, hz1, hz2⟩ := info_parts info3
  have HI0 := Lib.hid hi0
  have HZ0 := Lib.hid hz0
  have HZ1 := Lib.hid hz1
  have HZ2 := Lib.hid hz2
  clear hi0 hz0 hz1 hz2
  have HB := Lib.hid (bel_alloc (Below.refl _ w) (.cells #[.int .u32 (ad : Int), .int .i64 n] 30))
  have c0 : (w.alloc (.cells #[.int .u32 (ad : Int), .int .i64 n] 30)).cell? ⟨w.heap.size, 0, none⟩ = some (.int .u32 (ad : Int)) := World.cell?_alloc_mark w #[.int .u32 (ad : Int), .int .i64 n] 30 (0, 0) 0
  have c1 : (w.alloc (.cells #[.int .u32 (ad : Int), .int .i64 n] 30)).cell? ⟨w.heap.size, 1, none⟩ = some (.int .i64 n) := World.cell?_alloc_mark w #[.int .u32 (ad : Int), .int .i64 n] 30 (0, 0) 1
  have hlt : w.heap.size < (w.alloc (.cells #[.int .u32 (ad : Int), .int .i64 n] 30)).heap.size := by simp
  have hsW : (w.alloc (.cells #[.int .u32 (ad : Int), .int .i64 n] 30)).heap.size = w.heap.size + 1 := by simp
  have H0 := Lib.hid (h.below HB.out)
  have HC := Lib.hid hch
  have HA := Lib.hid ha
  have hpos := h.pos
  clear h hch ha
  go_enter Try.func27, Try.ntmps27
  go_wp2_with fail
  generalize w.alloc (.cells #[.int .u32 (ad : Int), .int .i64 n] 30) = W at *
  have O0 := Lib.hid (show (W.alloc (.cells #[.int .i64 0] 3)).ownsRow W.heap.size 3 1 (.slice (some ⟨W.heap.size, 0, none⟩) 1 1) 1 (intsL [0]) from ⟨rfl, .inr ⟨W.heap.size, 1, _, rfl, Nat.le_refl _, heap_alloc_new _ _, Nat.le_refl _, by decide, rfl, rfl⟩⟩)
  have B0 := Lib.hid (bel_alloc (Below.refl _ W) (.cells #[.int .i64 0] 3))
  go_loopg [5, 11] 33 (fun gg s5 s11 wr => ∃ (k m at_ gv cv : Nat) (pre : List Nat), m = k + 1 ∧ k ≤ n ∧ 32 - k ≤ gg ∧ s11 = .int .i64 k ∧ pre.length = k ∧ s5 = .slice (some ⟨gv, 0, none⟩) m cv ∧ at_ < l.length ∧ Hid (way l ad n = pre ++ wayG l ad (n - k) k at_) ∧ Hid (wr.ownsRow W.heap.size 3 1 (.slice (some ⟨gv, 0, none⟩) m cv) m (intsL (pre ++ [at_]))) ∧ Hid (Below W.heap.size W wr))
  case atStart => exact ⟨0, 1, 0, W.heap.size, 1, [], rfl, Nat.zero_le _, by omega, rfl, rfl, by rw [hsW], hpos, Lib.hid rfl, O0, B0⟩
  case round =>
    obtain ⟨k, m, at_, gv, cv, pre, hm, hkn, hgg, rfl, hpk, rfl, hat, HW, OW, BR⟩ := hrel
    clear O0 B0
    by_cases hk : k < n
    · have dk : decide ((k : Int) < (n : Int)) = true := decide_eq_true (by omega)
      have T0 := Lib.hid (H0.out.below BR.out)
      have t0 := T0.out.c0
      have e0 := (BR.out.cell (p := ⟨w.heap.size, 0, none⟩) hlt).trans c0
      have hx : l[at_]? = some l[at_] := List.getElem?_eq_getElem hat
      have n0 := T0.out.na at_ _ hx
      have n1 := T0.out.nb at_ _ hx
      have v0 := ints_at OW.out k at_ (by rw [List.getElem?_append_right (by omega)]; simp [hpk])
      have hcx := HC.out at_ _ hx
      generalize l[at_] = x at *
      have HX := Lib.hid hx
      have q1 : IntKind.i64.wrap ((m : Int) - 1) = (k : Int) := by rw [IntWalk.i64_in _ (by omega)]; omega
      have q2 : (0 : Int) ≤ (k : Int) := by omega
      have q3 : (k : Int) < (m : Int) := by omega
      have HM := Lib.hid hm
      clear hm
      have q4 : (0 : Int) ≤ (at_ : Int) := by omega
      have q5 : (at_ : Int) < (l.length : Int) := by omega
      have HBT := Lib.hid (bit25 ad k HA.out (by omega))
      clear hx
      cases hbt : bt ad k with
      | true =>
        have HBF := Lib.hid hbt
        have HBT := Lib.hid (show ∀ w, Calls Try.prog 25 #[.int .u32 ad, .int .i64 k] w fun e w' => e = .returned (.int .i64 1) ∧ w = w' by have := HBT.out; rw [hbt] at this; exact this)
        clear hbt
        rcases hcx true with hc1 | ⟨j, hc1, hj⟩
        · have HR := Lib.hid (show way l ad n = pre ++ [at_] by rw [HW.out, wayG_stop HX.out (by rw [HBF.out]; exact hc1)])
          rw [show x.b = -1 from hc1] at n1
          clear hcx hc1 n0
          go_wp2_with fail
          go_quiet ((go_at_call 25; exact quietL (HBT.out _)))
          go_wp2_with fail
          go_ret
          refine ⟨_, rfl, ?_, bel_trans HB.out (bel_drewN BR.out _)⟩
          rw [HR.out, List.length_append, hpk, List.length_singleton, ← HM.out]
          exact own_lower (own_below OW.out (bel_drewN (Below.refl _ _) _)) (by omega)
        · have HR := Lib.hid (show way l ad n = (pre ++ [at_]) ++ wayG l ad (n - (k + 1)) (k + 1) j by
            rw [HW.out, show n - k = (n - (k + 1)) + 1 by omega, wayG_go HX.out (by rw [HBF.out]; exact hc1), List.append_assoc]; rfl)
          rw [show x.b = (j : Int) from hc1] at n1
          have r1 : ((j : Int) == -1) = false := beq_eq_false_iff_ne.2 (by omega)
          have HJ := Lib.hid hj
          clear hcx hc1 n0 hj
          go_wp2_with fail
          go_quiet ((go_at_call 25; exact quietL (HBT.out _)))
          have OW4 := Lib.hid (own_below OW.out (bel_drewN (Below.refl _ _) nq))
          have BR4 := Lib.hid (bel_drewN BR.out nq)
          generalize wr.drewN nq = w4 at OW4 BR4 ⊢
          have hs4 := BR4.out.size
          have hm9 := HM.out
          go_wp2_with (first
            | (at_builtin; refine wpList_append_own _ rfl (.tmp 34) (.tmp 36) 59 rfl W.heap.size 3 i0 (.int .i64 0) 1 8 hu59 HI0.out HZ0.out HZ1.out HZ2.out rfl (by decide) _ _ _ rfl (OW4.out.alloc _) ⟨w4.heap.size, 0, none⟩ 1 1 [.int .i64 j] rfl rfl (World.news_of_block (cs := #[.int .i64 j]) (heap_alloc_new _ _)) (by intro u hu; rw [List.mem_singleton.1 hu]; rfl) (by unfold maxLen; omega) (by omega) (by simp; omega) ?_; intro v' w5 ho5 hg5 _; have HO5 := Lib.hid ho5; have HG5 := Lib.hid hg5; clear ho5 hg5))
          go_roundg (32 - (k + 1))
          case measure => omega
          case rel =>
            obtain ⟨g5, c5, hv5, _, _⟩ := HO5.out.form (by omega)
            subst hv5
            refine ⟨k + 1, m + 1, j, g5, c5, pre ++ [at_], by omega, hk, Nat.le_refl _, by go_num, by simp [hpk], by rw [hm9], HJ.out, HR, ?_, ?_⟩
            · have := HO5.out
              rw [← intsL_snoc] at this
              exact this
            · exact Lib.hid ((BR4.out.alloc hs4 _).grown HG5.out (by simp; omega) (by intro q hq; have := OW4.out.lt q hq; omega))
      | false =>
        have HBF := Lib.hid hbt
        have HBT := Lib.hid (show ∀ w, Calls Try.prog 25 #[.int .u32 ad, .int .i64 k] w fun e w' => e = .returned (.int .i64 0) ∧ w = w' by have := HBT.out; rw [hbt] at this; exact this)
        clear hbt
        rcases hcx false with hc1 | ⟨j, hc1, hj⟩
        · have HR := Lib.hid (show way l ad n = pre ++ [at_] by rw [HW.out, wayG_stop HX.out (by rw [HBF.out]; exact hc1)])
          rw [show x.a = -1 from hc1] at n0
          clear hcx hc1 n1
          go_wp2_with fail
          go_quiet ((go_at_call 25; exact quietL (HBT.out _)))
          go_wp2_with fail
          go_ret
          refine ⟨_, rfl, ?_, bel_trans HB.out (bel_drewN BR.out _)⟩
          rw [HR.out, List.length_append, hpk, List.length_singleton, ← HM.out]
          exact own_lower (own_below OW.out (bel_drewN (Below.refl _ _) _)) (by omega)
        · have HR := Lib.hid (show way l ad n = (pre ++ [at_]) ++ wayG l ad (n - (k + 1)) (k + 1) j by
            rw [HW.out, show n - k = (n - (k + 1)) + 1 by omega, wayG_go HX.out (by rw [HBF.out]; exact hc1), List.append_assoc]; rfl)
          rw [show x.a = (j : Int) from hc1] at n0
          have r1 : ((j : Int) == -1) = false := beq_eq_false_iff_ne.2 (by omega)
          have HJ := Lib.hid hj
          clear hcx hc1 n1 hj
          go_wp2_with fail
          go_quiet ((go_at_call 25; exact quietL (HBT.out _)))
          have OW4 := Lib.hid (own_below OW.out (bel_drewN (Below.refl _ _) nq))
          have BR4 := Lib.hid (bel_drewN BR.out nq)
          generalize wr.drewN nq = w4 at OW4 BR4 ⊢
          have hs4 := BR4.out.size
          have hm9 := HM.out
          go_wp2_with (first
            | (at_builtin; refine wpList_append_own _ rfl (.tmp 34) (.tmp 36) 59 rfl W.heap.size 3 i0 (.int .i64 0) 1 8 hu59 HI0.out HZ0.out HZ1.out HZ2.out rfl (by decide) _ _ _ rfl (OW4.out.alloc _) ⟨w4.heap.size, 0, none⟩ 1 1 [.int .i64 j] rfl rfl (World.news_of_block (cs := #[.int .i64 j]) (heap_alloc_new _ _)) (by intro u hu; rw [List.mem_singleton.1 hu]; rfl) (by unfold maxLen; omega) (by omega) (by simp; omega) ?_; intro v' w5 ho5 hg5 _; have HO5 := Lib.hid ho5; have HG5 := Lib.hid hg5; clear ho5 hg5))
          go_roundg (32 - (k + 1))
          case measure => omega
          case rel =>
            obtain ⟨g5, c5, hv5, _, _⟩ := HO5.out.form (by omega)
            subst hv5
            refine ⟨k + 1, m + 1, j, g5, c5, pre ++ [at_], by omega, hk, Nat.le_refl _, by go_num, by simp [hpk], by rw [hm9], HJ.out, HR, ?_, ?_⟩
            · have := HO5.out
              rw [← intsL_snoc] at this
              exact this
            · exact Lib.hid ((BR4.out.alloc hs4 _).grown HG5.out (by simp; omega) (by intro q hq; have := OW4.out.lt q hq; omega))
    · have dk : decide ((k : Int) < (n : Int)) = false := decide_eq_false (by omega)
      have HR := Lib.hid (show way l ad n = pre ++ [at_] by rw [HW.out, show n - k = 0 by omega]; rfl)
      go_wp2_with fail
      go_ret
      refine ⟨_, rfl, ?_, bel_trans HB.out BR.out⟩
      rw [HR.out, List.length_append, hpk, List.length_singleton, ← hm]
      exact own_lower OW.out (by omega)
end Go.Proofs.Ytfpbcdlfcaglgaa.P
