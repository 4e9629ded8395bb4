/- Contract of Add where it adds (layer 14). -/
import Derived.Test.YtfpbcdlfcaglgaaND
namespace Go.Proofs.Ytfpbcdlfcaglgaa.P
open Go.RowKit

theorem addG_len (ad m : Nat) : ∀ (k : Nat) (l : List Nd) (fr : List Nat) (a : Nat), l.length ≤ (addG ad m k l fr a).1.length := by
  induction m with
  | zero => intro k l fr a; exact Nat.le_refl _
  | succ m ih =>
    intro k l fr a
    unfold addG
    split
    · exact Nat.le_refl _
    · split
      · refine Nat.le_trans ?_ (ih _ _ _ _)
        rw [setChd_len]; exact (freshL_len l fr).1
      · exact ih _ _ _ _
/-- The nodes behind a prefix's way with its route. -/
def putR (l : List Nd) (a : Nat) (r : Rt) : List Nd := match l[a]? with
  | some x => l.set a ⟨x.a, x.b, r, true⟩
  | none => l
theorem putR_at {l : List Nd} {a : Nat} {x : Nd} {r : Rt} (h : l[a]? = some x) : putR l a r = l.set a ⟨x.a, x.b, r, true⟩ := by simp [putR, h]
theorem setChd_at {l : List Nd} {a : Nat} {x : Nd} {b : Bool} {j : Int} (h : l[a]? = some x) : setChd l a b j = l.set a (setC x b j) := by simp [setChd, h]
def addL (l : List Nd) (fr : List Nat) (r : Rt) : List Nd := putR (addG r.ad r.bt.toNat 0 l fr 0).1 (addG r.ad r.bt.toNat 0 l fr 0).2.2 r
def addR (l : List Nd) (fr : List Nat) (r : Rt) : List Nat := (addG r.ad r.bt.toNat 0 l fr 0).2.1
set_option maxHeartbeats 4000000 in
theorem add9_ok (w : World) (M B g cap : Nat) (vf : Value) (l : List Nd) (fr : List Nat) (n : Int) (h : Tri w M B g cap vf l fr n) (r : Rt) (ha : r.ad < 2 ^ 32) (hch : Chn l) (hfr : FrL l fr) (hll : l.length ≤ 90000) (hfl : fr.length ≤ 90000) (hr : rightB r.ad r.bt = true) (hx : getF l r.ad r.bt = none) (hn0 : 0 ≤ n) (hn : n < 256) :
    Calls Try.prog 9 #[.pointer (some ⟨B, 0, none⟩), .agg (rtA r)] w fun e w' => e = .returned (.int .i64 0) ∧ ∃ g' cap' vf', Tri w' M B g' cap' vf' (addL l fr r) (addR l fr r) (n + 1) ∧ Chg B g vf w w' g' vf' := by
  have hu61 := Try.underlying61
  have hu58 := Try.underlying58
  have hu56 := Try.underlying56
  have hu54 := Try.underlying54
  have hu32 := Try.underlying32
  have hu30 := Try.underlying30
  obtain ⟨m, hm, hm32, _⟩ := rightB_le hr
  have HR := Lib.hid (show ∀ w, Calls Try.prog 24 #[.agg #[.int .u32 r.ad, .int .i64 r.bt]] w fun e w' => e = .returned (.bool true) ∧ Below w.heap.size w w' by rw [← hr]; exact right24 r.ad ha r.bt)
  have HB := Lib.hid (bel_alloc (Below.refl _ w) (.cells (rtA r) 32))
  have HG := Lib.hid (show ∀ w, Tri w M B g cap vf l fr n → Calls Try.prog 20 #[.pointer (some ⟨B, 0, none⟩), .agg #[.int .u32 r.ad, .int .i64 r.bt]] w fun e w' => e = .returned (.tuple #[.agg (rtA rt0), .bool false]) ∧ Below w.heap.size w w' from fun w h => by
    have := get20 w M B g cap vf l fr n h hch r.ad r.bt ha
    rw [hx] at this; exact this)
  have HL := Lib.hid (show addL l fr r = putR (addG r.ad m 0 l fr 0).1 (addG r.ad m 0 l fr 0).2.2 r by unfold addL; rw [hm]; rfl)
  have HLR := Lib.hid (show addR l fr r = (addG r.ad m 0 l fr 0).2.1 by unfold addR; rw [hm]; rfl)
  generalize addL l fr r = lN at HL ⊢
  generalize addR l fr r = fN at HLR ⊢
  have K0 := Lib.hid (heap_alloc_new w (.cells (rtA r) 32))
  have c0 : (w.alloc (.cells (rtA r) 32)).cell? ⟨w.heap.size, 0, none⟩ = some (.int .u32 (r.ad : Int)) := World.cell?_alloc_mark w (rtA r) 32 (0, 0) 0
  have c1 : (w.alloc (.cells (rtA r) 32)).cell? ⟨w.heap.size, 1, none⟩ = some (.int .i64 r.bt) := World.cell?_alloc_mark w (rtA r) 32 (0, 0) 1
  have H0 := Lib.hid (h.below HB.out)
  have d1 : decide (256 ≤ n) = false := decide_eq_false (by omega)
  have nB : w.heap.size ≠ B := by have := h.lt; omega
  have ng : w.heap.size ≠ g := by have := h.glt; omega
  have nf : vf.ownBlock ≠ some w.heap.size := fun e => by have := (h.fown.lt _ e).2; omega
  have hpos := h.pos
  rw [hm] at HR HG c1
  have HM := Lib.hid hm
  rw [show rtA r = #[.int .u32 r.ad, .int .i64 m, .int .i64 r.ou] by unfold rtA; rw [hm]] at *
  have HCH := Lib.hid hch
  have HFR := Lib.hid hfr
  have HAD := Lib.hid ha
  clear h hr hx hm hch hfr ha
  go_enter Try.func9, Try.ntmps9
  go_wp2_with fail
  generalize w.alloc (.cells #[.int .u32 r.ad, .int .i64 m, .int .i64 r.ou] 32) = W at *
  go_wp2_with (first
    | (go_at_call 24; refine Calls.mono (HR.out _) ?_; rintro e w1 ⟨rfl, hb'⟩; have HB' := Lib.hid hb'; have c0 := cell_below c0 hb'; have c1 := cell_below c1 hb'; clear hb')
    | (go_at_call 20; refine Calls.mono (HG.out _ (H0.out.below HB'.out)) ?_; rintro e w2 ⟨rfl, hb'⟩; have HB2 := Lib.hid (bel_trans HB'.out hb'); have c1 := cell_below c1 hb'; clear hb'; have N0 := Lib.hid (heap_alloc_new w2 (.cells rz 32)))
    | (refine wpList_store_row rfl 32 (.tmp 5) (.tmp 24) rfl w2.heap.size (rtA rt0) rfl rfl 32 rz N0.out (info32 _ _ _) rfl (one32 _) ?_; have HB3 := Lib.hid (bel_setRow (bel_alloc (Below.refl _ w2) (.cells #[.int .u32 0, .int .i64 0, .int .i64 0] 32)) w2.heap.size (rtA rt0) (Nat.le_refl _)); have T3 := Lib.hid ((H0.out.below HB2.out).below HB3.out); have c2 := T3.out.c2; have c1 := cell_below c1 HB3.out; generalize (w2.alloc (.cells #[.int .u32 0, .int .i64 0, .int .i64 0] 32)).setRow w2.heap.size (rtA rt0) = w3 at HB3 T3 c2 c1 ⊢))
  have HB4 := Lib.hid (bel_trans HB.out (bel_trans HB2.out HB3.out))
  have K3 := Lib.hid (blk_below (blk_below K0.out HB2.out) HB3.out)
  clear c0 c1 c2 HB3 HB2 HB' HB K0 N0 H0 HG HR
  go_loopg [7, 35] 33 (fun gg s7 s35 wr => ∃ (k a g1 cap1 : Nat) (vf1 : Value) (l1 : List Nd) (fr1 : List Nat), k ≤ m ∧ 32 - k ≤ gg ∧ s35 = .int .i64 k ∧ s7 = .int .i64 a ∧ Hid (Tri wr M B g1 cap1 vf1 l1 fr1 n) ∧ Hid (Chg B g vf w3 wr g1 vf1) ∧ Hid (addG r.ad (m - k) k l1 fr1 a = addG r.ad m 0 l fr 0) ∧ Hid (Chn l1) ∧ Hid (FrL l1 fr1) ∧ a < l1.length ∧ l1.length ≤ l.length + k ∧ fr1.length ≤ fr.length)
  case atStart => exact ⟨0, 0, g, cap, vf, l, fr, Nat.zero_le _, by omega, rfl, rfl, T3, Chg.refl _ _ _ _, Lib.hid rfl, HCH, HFR, hpos, by omega, Nat.le_refl _⟩
  case round =>
    obtain ⟨k, a, g1, cap1, vf1, l1, fr1, hk, hgg, rfl, rfl, TR, CR, HE, HC1, HF1, hal, hl1, hf1⟩ := hrel
    have KR := Lib.hid ((CR.out.block w.heap.size (lt_of_block K3.out) nB ng nf).trans K3.out)
    have c0 : wr.cell? ⟨w.heap.size, 0, none⟩ = some (.int .u32 (r.ad : Int)) := by rw [cell_of_row _ _ _ _ _ _ KR.out]; rfl
    have c1 : wr.cell? ⟨w.heap.size, 1, none⟩ = some (.int .i64 m) := by rw [cell_of_row _ _ _ _ _ _ KR.out]; rfl
    have t0 := TR.out.c0
    have hxa : l1[a]? = some l1[a] := List.getElem?_eq_getElem hal
    have n0 := TR.out.na a _ hxa
    have n1 := TR.out.nb a _ hxa
    have hcx := HC1.out a _ hxa
    have HX := Lib.hid hxa
    generalize l1[a] = x at *
    have q1 : (0 : Int) ≤ (a : Int) := by omega
    have q2 : (a : Int) < (l1.length : Int) := by omega
    clear hxa
    by_cases hkm : k < m
    · have dk : decide ((k : Int) < (m : Int)) = true := decide_eq_true (by omega)
      have HBT := Lib.hid (bit25 r.ad k HAD.out (by omega))
      cases hbt : bt r.ad k with
      | true =>
        have HBF := Lib.hid hbt
        have HBT := Lib.hid (show ∀ w, Calls Try.prog 25 #[.int .u32 r.ad, .int .i64 k] w fun e w' => e = .returned (.int .i64 1) ∧ w = w' by have := HBT.out; rw [hbt] at this; exact this)
        clear hbt
        rcases hcx true with hc1 | ⟨j, hc1, hj⟩
        · rw [show x.b = -1 from hc1] at n1
          have HFS := Lib.hid (fresh26 wr M B g1 cap1 vf1 l1 fr1 n TR.out HF1.out (by omega) (by omega))
          have hfll := freshL_len l1 fr1
          have hfi := freshI_lt HF1.out
          have hea : (freshL l1 fr1)[a]? = some (freshL l1 fr1)[a] := List.getElem?_eq_getElem (by omega)
          have HEA := Lib.hid hea
          have HN := Lib.hid (show addG r.ad (m - (k + 1)) (k + 1) (setChd (freshL l1 fr1) a true (freshI l1 fr1)) fr1.dropLast (freshI l1 fr1) = addG r.ad m 0 l fr 0 by
            rw [← HE.out, show m - k = (m - (k + 1)) + 1 by omega, addG_new HX.out (by rw [HBF.out]; exact hc1), HBF.out])
          rw [setChd_at hea] at HN
          have HCN := Lib.hid (show Chn ((freshL l1 fr1).set a (setC (freshL l1 fr1)[a] true (freshI l1 fr1))) by
            have := chn_setChd (chn_fresh HC1.out fr1) a true _ hfi
            rwa [setChd_at hea] at this)
          have HFN := Lib.hid (show FrL ((freshL l1 fr1).set a (setC (freshL l1 fr1)[a] true (freshI l1 fr1))) fr1.dropLast from frl_mono (frl_drop HF1.out) (by rw [List.length_set]; exact hfll.1))
          generalize (freshL l1 fr1)[a] = y at *
          generalize freshL l1 fr1 = l2 at *
          generalize freshI l1 fr1 = i2 at *
          have q4 : (a : Int) < (l2.length : Int) := by omega
          clear hc1 hcx hea n0
          go_wp2_with (first
            | (go_at_call 25; refine Calls.mono (HBT.out _) ?_; rintro e w' ⟨rfl, rfl⟩)
            | (go_at_call 26; refine Calls.mono HFS.out ?_; rintro e w4 ⟨rfl, g2, cap2, vf2, ht4, hc4⟩; have T4 := Lib.hid ht4; have C4 := Lib.hid (CR.out.trans hc4); have t0 := ht4.c0; have p0 := ht4.nb a _ HEA.out; have p1 := ht4.fzg (a * 6 + 1); have hne : B ≠ g2 := ht4.Bg; have hne' : g2 ≠ B := fun e => hne e.symm; clear ht4 hc4))
          go_roundg (32 - (k + 1))
          case measure => omega
          case rel =>
            refine ⟨k + 1, i2, g2, cap2, vf2, l2.set a (setC y true i2), fr1.dropLast, hkm, Nat.le_refl _, by go_num, rfl, Lib.hid (T4.out.setN a 1 y _ _ HEA.out (by omega) rfl), Lib.hid (C4.out.trans (Chg.setg _ _)), HN, HCN, HFN, by rw [List.length_set]; exact hfi, by rw [List.length_set]; omega, by rw [List.length_dropLast]; omega⟩
        · rw [show x.b = (j : Int) from hc1] at n1
          have r1 : ((j : Int) == -1) = false := beq_eq_false_iff_ne.2 (by omega)
          have HN := Lib.hid (show addG r.ad (m - (k + 1)) (k + 1) l1 fr1 j = addG r.ad m 0 l fr 0 by
            rw [← HE.out, show m - k = (m - (k + 1)) + 1 by omega, addG_go HX.out (by rw [HBF.out]; exact hc1)])
          have HJ := Lib.hid hj
          clear hc1 hcx hj n0
          go_wp2_with (first
            | (go_at_call 25; refine Calls.mono (HBT.out _) ?_; rintro e w' ⟨rfl, rfl⟩))
          go_roundg (32 - (k + 1))
          case measure => omega
          case rel =>
            exact ⟨k + 1, j, g1, cap1, vf1, l1, fr1, hkm, Nat.le_refl _, by go_num, rfl, TR, CR, HN, HC1, HF1, HJ.out, by omega, hf1⟩
      | false =>
        have HBF := Lib.hid hbt
        have HBT := Lib.hid (show ∀ w, Calls Try.prog 25 #[.int .u32 r.ad, .int .i64 k] w fun e w' => e = .returned (.int .i64 0) ∧ w = w' by have := HBT.out; rw [hbt] at this; exact this)
        clear hbt
        rcases hcx false with hc1 | ⟨j, hc1, hj⟩
        · rw [show x.a = -1 from hc1] at n0
          have HFS := Lib.hid (fresh26 wr M B g1 cap1 vf1 l1 fr1 n TR.out HF1.out (by omega) (by omega))
          have hfll := freshL_len l1 fr1
          have hfi := freshI_lt HF1.out
          have hea : (freshL l1 fr1)[a]? = some (freshL l1 fr1)[a] := List.getElem?_eq_getElem (by omega)
          have HEA := Lib.hid hea
          have HN := Lib.hid (show addG r.ad (m - (k + 1)) (k + 1) (setChd (freshL l1 fr1) a false (freshI l1 fr1)) fr1.dropLast (freshI l1 fr1) = addG r.ad m 0 l fr 0 by
            rw [← HE.out, show m - k = (m - (k + 1)) + 1 by omega, addG_new HX.out (by rw [HBF.out]; exact hc1), HBF.out])
          rw [setChd_at hea] at HN
          have HCN := Lib.hid (show Chn ((freshL l1 fr1).set a (setC (freshL l1 fr1)[a] false (freshI l1 fr1))) by
            have := chn_setChd (chn_fresh HC1.out fr1) a false _ hfi
            rwa [setChd_at hea] at this)
          have HFN := Lib.hid (show FrL ((freshL l1 fr1).set a (setC (freshL l1 fr1)[a] false (freshI l1 fr1))) fr1.dropLast from frl_mono (frl_drop HF1.out) (by rw [List.length_set]; exact hfll.1))
          generalize (freshL l1 fr1)[a] = y at *
          generalize freshL l1 fr1 = l2 at *
          generalize freshI l1 fr1 = i2 at *
          have q4 : (a : Int) < (l2.length : Int) := by omega
          clear hc1 hcx hea n1
          go_wp2_with (first
            | (go_at_call 25; refine Calls.mono (HBT.out _) ?_; rintro e w' ⟨rfl, rfl⟩)
            | (go_at_call 26; refine Calls.mono HFS.out ?_; rintro e w4 ⟨rfl, g2, cap2, vf2, ht4, hc4⟩; have T4 := Lib.hid ht4; have C4 := Lib.hid (CR.out.trans hc4); have t0 := ht4.c0; have p0 := ht4.na a _ HEA.out; have p1 := ht4.fzg (a * 6); have hne : B ≠ g2 := ht4.Bg; have hne' : g2 ≠ B := fun e => hne e.symm; clear ht4 hc4))
          go_roundg (32 - (k + 1))
          case measure => omega
          case rel =>
            refine ⟨k + 1, i2, g2, cap2, vf2, l2.set a (setC y false i2), fr1.dropLast, hkm, Nat.le_refl _, by go_num, rfl, Lib.hid (T4.out.setN a 0 y _ _ HEA.out (by omega) rfl), Lib.hid (C4.out.trans (Chg.setg _ _)), HN, HCN, HFN, by rw [List.length_set]; exact hfi, by rw [List.length_set]; omega, by rw [List.length_dropLast]; omega⟩
        · rw [show x.a = (j : Int) from hc1] at n0
          have r1 : ((j : Int) == -1) = false := beq_eq_false_iff_ne.2 (by omega)
          have HN := Lib.hid (show addG r.ad (m - (k + 1)) (k + 1) l1 fr1 j = addG r.ad m 0 l fr 0 by
            rw [← HE.out, show m - k = (m - (k + 1)) + 1 by omega, addG_go HX.out (by rw [HBF.out]; exact hc1)])
          have HJ := Lib.hid hj
          clear hc1 hcx hj n1
          go_wp2_with (first
            | (go_at_call 25; refine Calls.mono (HBT.out _) ?_; rintro e w' ⟨rfl, rfl⟩))
          go_roundg (32 - (k + 1))
          case measure => omega
          case rel =>
            exact ⟨k + 1, j, g1, cap1, vf1, l1, fr1, hkm, Nat.le_refl _, by go_num, rfl, TR, CR, HN, HC1, HF1, HJ.out, by omega, hf1⟩
    · have dk : decide ((k : Int) < (m : Int)) = false := decide_eq_false (by omega)
      have HS := Lib.hid (show addG r.ad m 0 l fr 0 = (l1, fr1, a) by rw [← HE.out, show m - k = 0 by omega]; rfl)
      have HL1 := Lib.hid (show lN = l1.set a ⟨x.a, x.b, r, true⟩ by rw [HL.out, HS.out]; exact putR_at HX.out)
      have HR1 := Lib.hid (show fN = fr1 by rw [HLR.out, HS.out])
      have c2 : wr.cell? ⟨w.heap.size, 2, none⟩ = some (.int .i64 r.ou) := by rw [cell_of_row _ _ _ _ _ _ KR.out]; rfl
      have p2 := TR.out.nr0 a x HX.out
      have p3 := TR.out.nr1 a x HX.out
      have p4 := TR.out.nr2 a x HX.out
      have p5 := TR.out.nh a x HX.out
      have z2 := TR.out.fzg (a * 6 + 2)
      have z3 := TR.out.fzg (a * 6 + 3)
      have z4 := TR.out.fzg (a * 6 + 4)
      have z5 := TR.out.fzg (a * 6 + 5)
      have hne : B ≠ g1 := TR.out.Bg
      have hne' : g1 ≠ B := fun e => hne e.symm
      clear n0 n1 hcx
      go_wp2_with fail
      go_region
      have T4 := Lib.hid (TR.out.setR a x ⟨r.ad, m, r.ou⟩ HX.out)
      have T5 := Lib.hid ((T4.out.setN a 5 ⟨x.a, x.b, ⟨r.ad, m, r.ou⟩, x.has⟩ ⟨x.a, x.b, ⟨r.ad, m, r.ou⟩, true⟩ (.bool true) (by simp [hal]) (by omega) rfl).drew)
      have C5 := Lib.hid (((CR.out.trans (Chg.setgs (a * 6 + 2) (rtA ⟨r.ad, m, r.ou⟩).toList)).trans (Chg.setg (a * 6 + 5) (.bool true))).drew)
      rw [show (wr.setCells g1 (a * 6 + 2) (rtA ⟨r.ad, m, r.ou⟩).toList) = (((wr.setCell ⟨g1, a * 6 + 2, none⟩ (.int .u32 r.ad)).setCell ⟨g1, a * 6 + 2 + 1, none⟩ (.int .i64 m)).setCell ⟨g1, a * 6 + 2 + 2, none⟩ (.int .i64 r.ou)) from rfl] at T5 C5
      clear T4 c0 c1 c2 p2 p3 p4 p5 z2 z3 z4 z5 t0 KR
      generalize ((((wr.setCell ⟨g1, a * 6 + 2, none⟩ (.int .u32 r.ad)).setCell ⟨g1, a * 6 + 2 + 1, none⟩ (.int .i64 m)).setCell ⟨g1, a * 6 + 2 + 2, none⟩ (.int .i64 r.ou)).setCell ⟨g1, a * 6 + 5, none⟩ (.bool true)).drew = w7 at *
      have c2 := T5.out.c2
      have z2 := T5.out.fz 2
      have q7 : IntKind.i64.wrap (n + 1) = n + 1 := IntWalk.i64_in _ (by omega)
      go_wp2_with fail
      go_ret
      refine ⟨rfl, g1, cap1, vf1, ?_, Chg.trans (Chg.trans (Chg.of_below HB4.out) C5.out) (Chg.setB 2 _ (fun _ h => .inl h))⟩
      rw [HL1.out, HR1.out]
      have := T5.out.setC (n + 1)
      rw [List.set_set, ← HM.out] at this
      exact this
end Go.Proofs.Ytfpbcdlfcaglgaa.P
