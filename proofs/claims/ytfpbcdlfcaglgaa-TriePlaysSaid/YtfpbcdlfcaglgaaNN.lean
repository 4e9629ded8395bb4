/- Contract of Drop where it drops (layer 14). -/
import Derived.Test.YtfpbcdlfcaglgaaNM
namespace Go.Proofs.Ytfpbcdlfcaglgaa.P
open Go.RowKit
attribute [local go_sem ↓] ldi56

theorem Tri.growF {w w1 : World} {M B g cap : Nat} {vf vf' : Value} {l : List Nd} {fr fr' : List Nat} {n : Int} (h : Tri w M B g cap vf l fr n) (hg : w.grownBy w1 vf.ownBlock) (ho : w1.ownsRow M 3 1 vf' fr'.length (intsL fr')) :
    Tri (w1.setCell ⟨B, 1, none⟩ vf') M B g cap vf' l fr' n := by
  have hB : w1.heap[B]? = some (.cells #[.slice (some ⟨g, 0, none⟩) l.length cap, vf, .int .i64 n] 61 (0, 0)) := (hg.block B h.lt (fun e => h.fB e.symm)).trans h.blk
  refine ⟨h.base, h.pos, heap_setCell_same w1 B 1 _ 61 _ hB, ?_, ownsRow_setCell_other ho (own_not ho hB (by decide)) _⟩
  exact ownsRow_setCell_other (own_keep h.own (fun k hk => by cases hk; exact hg.block g h.glt.2 (fun e => h.fg e.symm))) (fun e => h.Bg (Option.some.inj e).symm) _
theorem Chg.growF {w w1 : World} {B g gg cap n : Nat} {vf : Value} (hg : w.grownBy w1 vf.ownBlock) (hat : some gg = vf.ownBlock ∨ w.heap.size ≤ gg) : Chg B g vf w (w1.setCell ⟨B, 1, none⟩ (.slice (some ⟨gg, 0, none⟩) n cap)) g (.slice (some ⟨gg, 0, none⟩) n cap) :=
  ⟨hg.os, hg.tape, hg.output, by simpa [World.setCell] using hg.size, fun k hk hb hgk hv => (Below.heap_setCell w1 ⟨B, 1, none⟩ _ k hb).trans (hg.block k hk (fun e => hv e.symm)), .inl rfl, fun k hk => by
    have e : gg = k := Option.some.inj hk
    subst e
    rcases hat with h | h
    · exact .inl h.symm
    · exact .inr h⟩

set_option maxHeartbeats 8000000 in
theorem drop12_ok (w : World) (M B g cap : Nat) (vf : Value) (l : List Nd) (fr : List Nat) (c : Int) (h : Tri w M B g cap vf l fr c) (hch : Chn l) (ad n : Nat) (ha : ad < 2 ^ 32) (hr : rightB ad n = true) (x : Rt) (hx : getF l ad n = some x) (i : Nat) (hi : (way l ad n)[n]? = some i) (hwl : (way l ad n).length = n + 1) (hfl : fr.length ≤ 90000) (hc0 : 0 < c) (hc1 : c ≤ 1000) :
    Calls Try.prog 12 #[.pointer (some ⟨B, 0, none⟩), .agg #[.int .u32 ad, .int .i64 n]] w fun e w' => e = .returned (.int .i64 0) ∧ ∃ vf', Tri w' M B g cap vf' (dropG ad (way l ad n) n (clrH l i) fr).1 (dropG ad (way l ad n) n (clrH l i) fr).2 (c - 1) ∧ Chg B g vf w w' g vf' := by
  have hu61 := Try.underlying61
  have hu58 := Try.underlying58
  have hu59 := Try.underlying59
  have hu56 := Try.underlying56
  have hu54 := Try.underlying54
  have hu32 := Try.underlying32
  have hu30 := Try.underlying30
  obtain ⟨i0, hi0, hz0, hz1, hz2⟩ := info_parts info3
  have HI0 := Lib.hid hi0
  have HZ0 := Lib.hid hz0
  have HZ1 := Lib.hid hz1
  have HZ2 := Lib.hid hz2
  clear hi0 hz0 hz1 hz2
  obtain ⟨_, hm, hn32, _⟩ := rightB_le hr
  have hn32 : n ≤ 32 := by omega
  have HR := Lib.hid (show ∀ w, Calls Try.prog 24 #[.agg #[.int .u32 ad, .int .i64 n]] w fun e w' => e = .returned (.bool true) ∧ Below w.heap.size w w' by rw [← hr]; exact right24 ad ha n)
  have HB := Lib.hid (bel_alloc (Below.refl _ w) (.cells #[.int .u32 (ad : Int), .int .i64 n] 30))
  have K0 := Lib.hid (heap_alloc_new w (.cells #[.int .u32 (ad : Int), .int .i64 n] 30))
  have c0 : (w.alloc (.cells #[.int .u32 (ad : Int), .int .i64 n] 30)).cell? ⟨w.heap.size, 0, none⟩ = some (.int .u32 (ad : Int)) := World.cell?_alloc_mark w #[.int .u32 (ad : Int), .int .i64 n] 30 (0, 0) 0
  have c1 : (w.alloc (.cells #[.int .u32 (ad : Int), .int .i64 n] 30)).cell? ⟨w.heap.size, 1, none⟩ = some (.int .i64 n) := World.cell?_alloc_mark w #[.int .u32 (ad : Int), .int .i64 n] 30 (0, 0) 1
  have HG := Lib.hid (show ∀ w, Tri w M B g cap vf l fr c → Calls Try.prog 20 #[.pointer (some ⟨B, 0, none⟩), .agg #[.int .u32 ad, .int .i64 n]] w fun e w' => e = .returned (.tuple #[.agg (rtA x), .bool true]) ∧ Below w.heap.size w w' from fun w h => by
    have := get20 w M B g cap vf l fr c h hch ad n ha
    rw [hx] at this; exact this)
  have HWY := Lib.hid (fun w h => way27 w M B g cap vf l fr c h hch ad n ha hn32)
  have hwlt := way_lt hch ad n 0 0 h.pos
  rw [show wayG l ad n 0 0 = way l ad n from rfl] at hwlt
  have HWL := Lib.hid hwlt
  have HWI := Lib.hid hi
  have H0 := Lib.hid (h.below HB.out)
  have nB : w.heap.size ≠ B := by have := h.lt; omega
  have ng : w.heap.size ≠ g := by have := h.glt; omega
  have nf : vf.ownBlock ≠ some w.heap.size := fun e => by have := (h.fown.lt _ e).2; omega
  have oB : B < w.heap.size := h.lt
  have og : g < w.heap.size := h.glt.2
  have of' : ∀ k, vf.ownBlock = some k → k < w.heap.size := fun k e => (h.fown.lt _ e).2
  have HOF := Lib.hid of'
  have HAD := Lib.hid ha
  have HDN := Lib.hid (show dropG ad (way l ad n) n (clrH l i) fr = dropG ad (way l ad n) n (clrH l i) fr from rfl)
  have hil : i < l.length := hwlt i (List.mem_of_getElem? hi)
  generalize way l ad n = ws at *
  clear h hr hx hm hch ha hwlt hi of'
  go_enter Try.func12, Try.ntmps12
  go_wp2_with fail
  have hWs : w.heap.size < (w.alloc (.cells #[.int .u32 (ad : Int), .int .i64 n] 30)).heap.size := by simp
  generalize w.alloc (.cells #[.int .u32 (ad : Int), .int .i64 n] 30) = W at *
  have q1 : (0 : Int) ≤ (n : Int) := by omega
  obtain ⟨m, hm⟩ : ∃ m, m = n + 1 := ⟨_, rfl⟩
  have q2 : (n : Int) < (m : Int) := by omega
  rw [hwl, ← hm] at HWY
  have HM := Lib.hid hm
  have HWN := Lib.hid hwl
  have hm0 : 0 < m := by omega
  clear hm hwl
  go_wp2_with (first
    | (go_at_call 24; refine Calls.mono (HR.out _) ?_; rintro e w1 ⟨rfl, hb'⟩; have HB' := Lib.hid hb'; have c0 := cell_below c0 hb'; have c1 := cell_below c1 hb'; clear hb')
    | (go_at_call 20; refine Calls.mono (HG.out _ (H0.out.below HB'.out)) ?_; rintro e w2 ⟨rfl, hb'⟩; have HB2 := Lib.hid (bel_trans HB'.out hb'); have c0 := cell_below c0 hb'; have c1 := cell_below c1 hb'; clear hb'; have N0 := Lib.hid (heap_alloc_new w2 (.cells rz 32)))
    | (refine wpList_store_row rfl 32 (.tmp 5) (.tmp 20) rfl w2.heap.size (rtA x) rfl rfl 32 rz N0.out (info32 _ _ _) rfl (one32 _) ?_; have HB3 := Lib.hid (bel_setRow (bel_alloc (Below.refl _ w2) (.cells #[.int .u32 0, .int .i64 0, .int .i64 0] 32)) w2.heap.size (rtA x) (Nat.le_refl _)); have c0 := cell_below c0 HB3.out; have c1 := cell_below c1 HB3.out; generalize (w2.alloc (.cells #[.int .u32 0, .int .i64 0, .int .i64 0] 32)).setRow w2.heap.size (rtA x) = w3 at HB3 c0 c1 ⊢)
    | (go_at_call 27; refine Calls.mono (HWY.out w3 ((H0.out.below HB2.out).below HB3.out)) ?_; rintro e w4 ⟨v, rfl, ho, hb'⟩; have HB4 := Lib.hid (bel_trans (bel_trans HB2.out HB3.out) hb'); have c0 := cell_below c0 hb'; have c1 := cell_below c1 hb'; obtain ⟨gw, cw, rfl, hgw, _⟩ := ho.form hm0; have HO := Lib.hid ho; have T4 := Lib.hid (H0.out.below HB4.out); have t0 := T4.out.c0; have v0 := ints_at ho n i HWI.out; have hs3 := (bel_trans HB2.out HB3.out).size; clear ho hb'))
  have hx : l[i]? = some l[i] := List.getElem?_eq_getElem hil
  have p5 := T4.out.nh i _ hx
  have z5 := T4.out.fzg (i * 6 + 5)
  have q4 : (0 : Int) ≤ (i : Int) := by omega
  have q5 : (i : Int) < (l.length : Int) := by omega
  have HL1 := Lib.hid (clrH_at hx)
  have HX := Lib.hid hx
  have K4 := Lib.hid (blk_below K0.out HB4.out)
  have ngw : gw ≠ B ∧ gw ≠ g ∧ vf.ownBlock ≠ some gw := by
    have h3 : w.heap.size < w3.heap.size := Nat.lt_of_lt_of_le hWs hs3
    exact ⟨by omega, by omega, fun e => by have := HOF.out gw e; omega⟩
  generalize l[i] = y at *
  clear hx HR HG HWY HB' HB2 HB3 N0
  have T5 := Lib.hid ((T4.out.setN i 5 y ⟨y.a, y.b, y.r, false⟩ (.bool false) HX.out (by omega) rfl).drew)
  have C5 := Lib.hid ((Chg.setg (B := B) (vf := vf) (w := w4) (g := g) (i * 6 + 5) (.bool false)).drew)
  rw [← HL1.out] at T5
  have hll : (clrH l i).length = l.length := by rw [HL1.out, List.length_set]
  clear HL1
  go_region
  generalize (w4.setCell ⟨g, i * 6 + 5, none⟩ (.bool false)).drew = w5 at *
  have K5 := Lib.hid ((C5.out.block w.heap.size (lt_of_block K4.out) nB ng nf).trans K4.out)
  clear t0 p5 z5 c0 c1 v0
  have c1 : w5.cell? ⟨w.heap.size, 1, none⟩ = some (.int .i64 n) := by rw [cell_of_row _ _ _ _ _ _ K5.out]; rfl
  have t2 := T5.out.c2
  have z2 := T5.out.fz 2
  have nB' : B ≠ w.heap.size := fun e => nB e.symm
  have qc : IntKind.i64.wrap (c - 1) = c - 1 := IntWalk.i64_in _ (by omega)
  go_wp2_with fail
  have T6 := Lib.hid (T5.out.setC (c - 1))
  have C6 := Lib.hid (C5.out.trans (Chg.setB 2 (.int .i64 (c - 1)) (fun _ h => .inl h)))
  clear c1 t2 z2 T5 C5 K5
  generalize w5.setCell ⟨B, 2, none⟩ (.int .i64 (c - 1)) = w6 at *
  go_loopg [8] 33 (fun gg s8 wr => ∃ (k : Nat) (vf1 : Value) (l1 : List Nd) (fr1 : List Nat), k ≤ n ∧ k ≤ gg ∧ s8 = .int .i64 k ∧ Hid (Tri wr M B g cap vf1 l1 fr1 (c - 1)) ∧ Hid (Chg B g vf w4 wr g vf1) ∧ Hid (dropG ad ws k l1 fr1 = dropG ad ws n (clrH l i) fr) ∧ l1.length = l.length ∧ fr1.length + k ≤ fr.length + n)
  case atStart => exact ⟨n, vf, clrH l i, fr, Nat.le_refl _, by omega, rfl, T6, C6, Lib.hid rfl, hll, Nat.le_refl _⟩
  case round =>
    obtain ⟨k, vf1, l1, fr1, hk, hgg, rfl, TR, CR, HE, hl1, hf1⟩ := hrel
    have KR := Lib.hid ((CR.out.block w.heap.size (lt_of_block K4.out) nB ng nf).trans K4.out)
    have OR := Lib.hid (own_keep HO.out (fun q hq => by cases hq; exact CR.out.block gw (ints_in HO.out) ngw.1 ngw.2.1 ngw.2.2))
    have c0 : wr.cell? ⟨w.heap.size, 0, none⟩ = some (.int .u32 (ad : Int)) := by rw [cell_of_row _ _ _ _ _ _ KR.out]; rfl
    have c1 : wr.cell? ⟨w.heap.size, 1, none⟩ = some (.int .i64 n) := by rw [cell_of_row _ _ _ _ _ _ KR.out]; rfl
    have t0 := TR.out.c0
    have HFIN := Lib.hid (fun (w9 : World) (hb : Below wr.heap.size wr w9) (he : dropG ad ws k l1 fr1 = (l1, fr1)) => show ∃ vf', Tri w9 M B g cap vf' (dropG ad ws n (clrH l i) fr).1 (dropG ad ws n (clrH l i) fr).2 (c - 1) ∧ Chg B g vf w w9 g vf' by
      rw [← HE.out, he]
      exact ⟨vf1, TR.out.below hb, (Chg.of_below (bel_trans HB.out HB4.out)).trans (CR.out.trans (Chg.of_below hb))⟩)
    rcases Nat.eq_zero_or_pos k with hk0 | hk0
    · have dk : decide ((k : Int) > 0) = false := decide_eq_false (by omega)
      have HD := Lib.hid (show dropG ad ws k l1 fr1 = (l1, fr1) by rw [hk0]; rfl)
      have dk2 : decide (0 < k) = false := by simp [hk0]
      have dk3 : decide ((0 : Int) < (k : Int)) = false := decide_eq_false (by omega)
      clear hk0
      go_wp2_with fail
      refine region_bw (by kernel_rfl) (by kernel_rfl) ?_
      repeat (go_big_quiet_step (fail))
      refine wpQuiet_nil ?_
      rintro _ ⟨u, rfl⟩
      have hb' := Lib.hid (BW.b u)
      generalize u.w = w9 at hb' ⊢
      go_wp2_with fail
      go_ret
      exact ⟨rfl, HFIN.out _ hb'.out HD.out⟩
    · have dk : decide ((k : Int) > 0) = true := decide_eq_true (by omega)
      obtain ⟨j, hj⟩ : ∃ j, k = j + 1 := ⟨k - 1, by omega⟩
      have hwn := HWN.out
      have hw1 : ws[k]? = some ws[k] := List.getElem?_eq_getElem (by omega)
      have hw0 : ws[j]? = some ws[j] := List.getElem?_eq_getElem (by omega)
      have hi1 : ws[k] < l1.length := by rw [hl1]; exact HWL.out _ (List.getElem_mem _)
      have hp1 : ws[j] < l1.length := by rw [hl1]; exact HWL.out _ (List.getElem_mem _)
      have v1 := ints_at OR.out k _ hw1
      have v0 := ints_at OR.out j _ hw0
      have W1 := Lib.hid hw1
      have W0 := Lib.hid hw0
      generalize ws[k] = i1 at *
      generalize ws[j] = p at *
      have hx1 : l1[i1]? = some l1[i1] := List.getElem?_eq_getElem hi1
      have hxp : l1[p]? = some l1[p] := List.getElem?_eq_getElem hp1
      have X1 := Lib.hid hx1
      have XP := Lib.hid hxp
      generalize l1[i1] = x1 at *
      generalize l1[p] = xp at *
      have u0 := bw_cell t0
      have u1 := bw_cell v1
      have u2 := fun u : BW wr => ld56 (range_bw (TR.out.ndR i1 x1 X1.out) TR.out.glt.2 u)
      have r0 : (0 : Int) ≤ (k : Int) := by omega
      have r1 : (k : Int) < (m : Int) := by have := HM.out; omega
      have r2 : (0 : Int) ≤ (i1 : Int) := by omega
      have r3 : (i1 : Int) < (l1.length : Int) := by omega
      have HBA := Lib.hid (bare29 x1)
      have HJ := Lib.hid hj
      clear hw1 hw0 hx1 hxp
      cases hb1 : bareB x1 with
      | false =>
        rw [hb1] at HBA
        have HD := Lib.hid (show dropG ad ws k l1 fr1 = (l1, fr1) by rw [hj]; exact dropG_stop (by rw [← hj]; exact W1.out) W0.out X1.out hb1)
        clear hb1 hj
        go_wp2_with fail
        refine region_bw (by kernel_rfl) (by kernel_rfl) ?_
        repeat (go_big_quiet_step ((go_at_call 29; exact call_bw HBA.out _)))
        refine wpQuiet_nil ?_
        rintro _ ⟨u, rfl⟩
        have hb' := Lib.hid (BW.b u)
        generalize u.w = w9 at hb' ⊢
        clear u0 u1 u2
        go_wp2_with fail
        go_ret
        exact ⟨rfl, HFIN.out _ hb'.out HD.out⟩
      | true =>
        rw [hb1] at HBA
        have HD := Lib.hid (show dropG ad ws n (clrH l i) fr = dropG ad ws j (setChd l1 p (bt ad j) (-1)) (fr1 ++ [i1]) by
          rw [← HE.out, hj]; exact dropG_go (by rw [← hj]; exact W1.out) W0.out X1.out hb1)
        rw [setChd_at XP.out] at HD
        clear hb1 HFIN hj
        go_wp2_with fail
        refine region_bw (by kernel_rfl) (by kernel_rfl) ?_
        repeat (go_big_quiet_step ((go_at_call 29; exact call_bw HBA.out _)))
        refine wpQuiet_nil ?_
        rintro _ ⟨u, rfl⟩
        have hb' := Lib.hid (BW.b u)
        generalize u.w = w9 at hb' ⊢
        clear u0 u1 u2
        have T9 := Lib.hid (TR.out.below hb'.out)
        have C9 := Lib.hid (CR.out.trans (Chg.of_below hb'.out))
        have O9 := Lib.hid (own_below OR.out hb'.out)
        have c0 := cell_below c0 hb'.out
        have v0 := cell_below v0 hb'.out
        have t0 := T9.out.c0
        have r4 : IntKind.i64.wrap ((k : Int) - 1) = (j : Int) := by have := HJ.out; rw [IntWalk.i64_in _ (by omega)]; omega
        have r5 : (0 : Int) ≤ (j : Int) := by omega
        have r6 : (j : Int) < (m : Int) := by have := HM.out; have := HJ.out; omega
        have r7 : (0 : Int) ≤ (p : Int) := by omega
        have r8 : (p : Int) < (l1.length : Int) := by omega
        have HBT := Lib.hid (bit25 ad j HAD.out (by have := HJ.out; omega))
        have HLL := Lib.hid hl1
        clear hl1
        obtain ⟨bb, hbb⟩ : ∃ bb : Nat, bb = if bt ad j = true then 1 else 0 := ⟨_, rfl⟩
        have hb2 : bb < 2 := by rw [hbb]; split <;> decide
        have HBT := Lib.hid (show ∀ w, Calls Try.prog 25 #[.int .u32 ad, .int .i64 j] w fun e w' => e = .returned (.int .i64 bb) ∧ w' = w from fun w => (HBT.out w).mono fun e w' hh => ⟨by rw [hh.1, hbb]; cases bt ad j <;> rfl, hh.2.symm⟩)
        have HSC := Lib.hid (show (ndC xp).set bb (.int .i64 (-1)) = ndC (setC xp (bt ad j) (-1)) by rw [hbb]; cases bt ad j <;> rfl)
        have p0 : ∃ v, w9.cell? ⟨g, p * 6 + bb, none⟩ = some v := ⟨_, (T9.out.nd p bb xp XP.out (by omega)).trans (List.getElem?_eq_getElem (by rw [ndC_len]; omega))⟩
        obtain ⟨v9, p0⟩ := p0
        have z0 := T9.out.fzg (p * 6 + bb)
        have s1 : (0 : Int) ≤ (bb : Int) := by omega
        have s2 : (bb : Int) < 2 := by omega
        have HB2 := Lib.hid hb2
        clear hbb hb2
        go_wp2_with fail
        refine wp_region_still_tail 17 (by kernel_rfl) (by kernel_rfl) ?_
        simp only [List.take_succ_cons, List.take_zero, List.drop_succ_cons, List.drop_zero]
        repeat (first | still_step | still_call (HBT.out _))
        refine wpStill_nil ?_
        change wpList _ _ _ _ _ w9.drew
        have T10 := Lib.hid T9.out.drew
        have C10 := Lib.hid C9.out.drew
        have O10 := Lib.hid (show w9.drew.ownsRow w3.heap.size 3 1 (.slice (some ⟨gw, 0, none⟩) m cw) m (intsL ws) from own_keep O9.out (fun _ _ => rfl))
        have p0 : w9.drew.cell? ⟨g, p * 6 + bb, none⟩ = some v9 := p0
        have z0 : w9.drew.frozen? ⟨g, p * 6 + bb, none⟩ = false := z0
        clear c0 v0 t0 T9 C9 O9
        generalize w9.drew = w10 at *
        go_wp2_with fail
        have T11 := Lib.hid (T10.out.setN p bb xp (setC xp (bt ad j) (-1)) (.int .i64 (-1)) XP.out (by have := HB2.out; omega) HSC.out)
        have C11 := Lib.hid (C10.out.trans (Chg.setg (p * 6 + bb) (.int .i64 (-1))))
        have O11 := Lib.hid (ownsRow_setCell_other O10.out (a := ⟨g, p * 6 + bb, none⟩) (fun e => ngw.2.1 (Option.some.inj e)) (.int .i64 (-1)))
        clear p0 z0 T10 C10 O10 HBT HSC t0 v0 v1 c0 c1
        generalize w10.setCell ⟨g, p * 6 + bb, none⟩ (.int .i64 (-1)) = w11 at *
        have v1 := ints_at O11.out k i1 W1.out
        have t1 := T11.out.c1
        have hll2 : (l1.set p (setC xp (bt ad j) (-1))).length = l.length := by rw [List.length_set]; exact HLL.out
        have HLL2 := Lib.hid hll2
        generalize l1.set p (setC xp (bt ad j) (-1)) = l2 at *
        have TA := Lib.hid ((Tri.alloc T11.out (.cells #[.int .i64 i1] 3)).drew)
        have hsz := T11.out.lt
        have hMB := T11.out.base
        have hBv : some B ≠ vf1.ownBlock := fun e => T11.out.fB e.symm
        have hfr : fr1.length ≤ 100000 := by omega
        have k0 : (w11.alloc (.cells #[.int .i64 i1] 3)).drew.cell? ⟨B, 1, none⟩ = some vf1 := TA.out.c1
        have k1 : (w11.alloc (.cells #[.int .i64 i1] 3)).drew.frozen? ⟨B, 1, none⟩ = false := TA.out.fz 1
        go_region_law (refine step_append_lies _ (by rfl) (.tmp 85) (.tmp 90) 59 (by rfl) M 3 i0 _ 1 8 hu59 HI0.out HZ0.out HZ1.out HZ2.out rfl (by omega) vf1 fr1.length (intsL fr1) (by rfl) TA.out.fown ⟨w11.heap.size, 0, none⟩ 1 1 [.int .i64 i1] (by rfl) (by rfl) (World.news_of_block (cs := #[.int .i64 i1]) (heap_alloc_new _ _)) (by intro u hu; rw [List.mem_singleton.1 hu]; rfl) (by omega) (by unfold maxLen; omega) (by omega) (by simp; omega) (w11.heap.size + 1) (by simp) ?_; intro gg cap5 w5 hown5 hgrow5 hat5 hlt5; have ka := (hgrow5.cell_far ⟨B, 1, none⟩ (by simp; omega) hBv).trans k0; have kb := (hgrow5.frozen_far ⟨B, 1, none⟩ (by simp; omega) hBv).trans k1)
        all_goals
          have T14 := Lib.hid (TA.out.growF (fr' := fr1 ++ [i1]) hgrow5 (by rw [List.length_append, intsL_snoc]; exact hown5))
          have C14 := Lib.hid (((C11.out.trans (Chg.of_below (bel_alloc (Below.refl _ w11) (.cells #[.int .i64 i1] 3)))).drew).trans (Chg.growF (B := B) (cap := cap5) (n := fr1.length + 1) hgrow5 (by
            rcases hat5 with h | h
            · exact .inl h.symm
            · exact .inr (by simp; omega))))
          clear ka kb k0 k1 hgrow5 hown5 hat5 hlt5 t1 v1 TA T11 C11 O11
          generalize w5.setCell ⟨B, 1, none⟩ (.slice (some ⟨gg, 0, none⟩) (fr1.length + 1) cap5) = w14 at *
          have hj9 := HJ.out
          go_wp2_with fail
          go_roundg j
          case measure => omega
          case rel => exact ⟨j, _, l2, fr1 ++ [i1], by omega, Nat.le_refl _, by go_num, T14, C14, Lib.hid HD.out.symm, HLL2.out, by rw [List.length_append, List.length_singleton]; omega⟩
end Go.Proofs.Ytfpbcdlfcaglgaa.P
