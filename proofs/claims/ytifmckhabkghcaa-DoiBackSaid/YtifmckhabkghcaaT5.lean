/- Contract of table.New. -/
import Derived.Test.YtifmckhabkghcaaT4
import Derived.StillTailTactics
namespace Go.Proofs.Ytifmckhabkghcaa.P
open Go.RowKit
set_option linter.unusedSimpArgs false
attribute [local go_sem ↓] ldi25
/-- A slice that is built, kept whole. -/
def BSI (t : TypeId) (n : Nat) (xs : Array (Nat × Value)) : Sem Value := Instr.buildSlice t n xs
theorem bsi56 (n : Nat) (xs : Array (Nat × Value)) : Instr.buildSlice 56 n xs = BSI 56 n xs := rfl
attribute [local go_sem ↓] bsi56
theorem info25b : (Try.prog.info? 25).map (fun i => (i.zero, i.size, i.bytes)) = some (some (.agg z25), 31, 40) := by kernel_rfl
theorem bs25 (x : Lab) (w : World) : (BSI 56 1 #[(0, .agg (labA x))]).run Try.prog w = .ok (.slice (some ⟨w.heap.size, 0, none⟩) 1 1) (w.alloc (.cells (labA x) 25)) := by
  obtain ⟨z, hz⟩ := info25z x
  exact run_build1 w 56 25 (labA x) z Try.underlying56 hz (by rw [labA_size]; decide) (by rw [labA_size]; decide)
/-- What New leaves. -/
def NewPost (w : World) (l : List Lab) (e : Ending) (w' : World) : Prop :=
  ∃ p, e = .returned (.tuple #[p, .int .i64 (chkK l), .int .i64 (chkE l)]) ∧ Below w.heap.size w w' ∧ (chkE l ≠ 0 → p = .pointer none) ∧ (chkE l = 0 → ∃ g, p = .pointer (some ⟨g, 0, none⟩) ∧ Tab w' w.heap.size g l)
theorem new_no {w w' : World} {l : List Lab} {i e : Nat} (he : e ≠ 0) (h : chkK l = i ∧ chkE l = e) (hb : Below w.heap.size w w') : NewPost w l (.returned (.tuple #[.pointer none, .int .i64 i, .int .i64 e])) w' :=
  ⟨_, by rw [h.1, h.2], hb, fun _ => rfl, fun h0 => absurd (h.2.symm.trans h0) he⟩
theorem bad0 {l : List Lab} {j : Nat} (h : badN l j = 0) : labD l j ∉ l.take j := by
  intro hm
  unfold badN at h
  split at h
  · cases h
  · split at h
    · cases h
    · simp [hm] at h
set_option maxRecDepth 100000 in
set_option maxHeartbeats 4000000 in
theorem new32 (l : List Lab) (A : Option Addr) (c : Nat) (w : World) (hA : SlA w A l) (hl : ∀ y ∈ l, LabOK y) (hlen : l.length ≤ 40) :
    Calls Try.prog 32 #[.slice A l.length c] w (NewPost w l) := by
  have hu25 := Try.underlying25
  have hu56 := Try.underlying56
  have hu96 := Try.underlying96
  have hmm := @run_makeMap Try.prog
  obtain ⟨z, hz⟩ := info25z ⟨0, 0⟩
  have HZ := Lib.hid (fun x => info25z x)
  have HA := Lib.hid hA
  have HL := Lib.hid hl
  clear hA hz z
  go_enter Try.func32, Try.ntmps32
  go_wp2_with fail
  have H0 := Lib.hid (World.ownsMap_made w Try.prog 25 (plainElem (H := Unit) Try.prog 3))
  go_loopg [15] 41 (fun gg s15 wr => ∃ (i : Nat) (v : Value), i ≤ l.length ∧ 41 - i ≤ gg ∧ s15 = .int .i64 i ∧ Hid (∀ j, j < i → badN l j = 0) ∧ Hid (wr.heap[w.heap.size + 1]? = some (.cells #[v, .map (some w.heap.size)] 98 (0, 0))) ∧ Hid (wr.ownsRow (w.heap.size + 2) 25 31 v i (labsL (l.take i))) ∧ Hid (wr.ownsMap Try.prog 25 (plainElem Try.prog 3) w.heap.size i (numP l i)) ∧ Hid (Below w.heap.size w wr))
  case atStart => exact ⟨0, _, Nat.zero_le _, Nat.sub_le _ _, rfl, fun j hj => absurd hj (Nat.not_lt_zero _), heap_alloc2_new w _ _, (World.ownsRow_nil _ _ _ _ : World.ownsRow _ _ _ _ (.slice none 0 0) 0 []), H0.out.alloc _, bel_alloc (bel_alloc (Below.refl _ _) _) _⟩
  case round =>
    obtain ⟨i, v, hi, hgg, rfl, HNO, TB, OW, MP, BR⟩ := hrel
    clear H0
    by_cases hlt : i < l.length
    · have d1 : decide ((i : Int) < (l.length : Int)) = true := decide_eq_true (by omega)
      have d2 : (0 : Int) ≤ (i : Int) := by omega
      have d3 : (i : Int) < (l.length : Int) := by omega
      have q1 : IntKind.i64.wrap ((i : Int) + 1) = (i : Int) + 1 := IntWalk.i64_in _ (by omega)
      obtain ⟨b, o, rfl, hb, hc⟩ := (HA.out.below BR.out) (by omega)
      have hyL : labD l i = l[i] := labD_get hlt
      have HOY := Lib.hid (hl _ (List.getElem_mem hlt))
      have RY := Lib.hid (hc i _ (List.getElem?_eq_getElem hlt))
      have HYL := Lib.hid hyL
      clear hc hyL
      generalize l[i] = y at HOY RY HYL
      have N00 := Lib.hid (heap_alloc_new wr (.cells z25 25))
      have NA := Lib.hid (World.setRow_alloc_new wr z25 (labA y) 25)
      have RZ := Lib.hid (range_below RY.out hb (bel_alloc (Below.refl wr.heap.size wr) (.cells z25 25)))
      unfold z25 at N00 NA RZ
      have hi25 : (Try.prog.info? 25).map (·.size) = some (labL y).length := by rw [labL_len]; kernel_rfl
      go_wp2_with (first
        | (refine wpList_load_mid rfl 25 (.tmp 18) rfl b (o + i * 31) rfl (labL y) _ RY.out hu25 rfl hi25 ?_)
        | (refine wpList_load_mid rfl 25 (.tmp 18) rfl b (o + i * 31) rfl (labL y) _ RZ.out hu25 rfl hi25 ?_)
        | (refine wpList_store_row rfl 25 (.tmp 7) (.tmp 19) rfl wr.heap.size (labA y) rfl rfl 25 z25 N00.out (info25 _) (by rw [labA_size]; rfl) (all_oneCell_toArray (labL_one _)) ?_; rw [NA.out]))
      clear N00 NA RZ RY hb
      have hT := lt_of_block TB.out
      have TB1 := Lib.hid ((heap_alloc_old wr (.cells (labA y) 25) hT).trans TB.out)
      have OW1 := Lib.hid (OW.out.alloc (.cells (labA y) 25))
      have MP1 := Lib.hid (MP.out.alloc (.cells (labA y) 25))
      have KX := Lib.hid (heap_alloc_new wr (.cells (labA y) 25))
      have B1 := Lib.hid (bel_alloc BR.out (.cells (labA y) 25))
      have HVX0 := Lib.hid (fun g (e : v.ownBlock = some g) => (OW.out.lt g e).2)
      clear TB OW MP BR
      generalize wr.alloc (.cells (labA y) 25) = W1 at TB1 OW1 MP1 KX B1 ⊢
      generalize wr.heap.size = X at KX hT HVX0 ⊢
      have c1 : W1.cell? ⟨w.heap.size + 1, 1, none⟩ = some (.map (some w.heap.size)) := cell_of_row _ _ _ _ _ _ TB1.out
      have h1 := ld25 (show W1.rangeAt X 0 (labL y) from range_lab KX.out)
      have hlk := fun n => look96 hl HOY.out hi (fun j hj => bad0 (HNO.out j hj)) (show (W1.drewN n).ownsMap Try.prog 25 (plainElem (H := Unit) Try.prog 3) w.heap.size i (numP l i) from MP1.out)
      have HFB := Lib.hid (show fndB l y i = decide (y ∈ l.take i) from rfl)
      generalize fndN l y i = fN at hlk
      generalize fndB l y i = fB at hlk HFB
      clear hl
      go_wp2_with fail
      go_quiet (fail)
      clear h1 hlk
      have TB2 := Lib.hid (show (W1.drewN nq).heap[w.heap.size + 1]? = some (.cells #[v, .map (some w.heap.size)] 98 (0, 0)) from TB1.out)
      have OW2 := Lib.hid (show (W1.drewN nq).ownsRow (w.heap.size + 2) 25 31 v i (labsL (l.take i)) from OW1.out)
      have MP2 := Lib.hid (show (W1.drewN nq).ownsMap Try.prog 25 (plainElem (H := Unit) Try.prog 3) w.heap.size i (numP l i) from MP1.out)
      have KX2 := Lib.hid (show (W1.drewN nq).heap[X]? = some (.cells (labA y) 25 (0, 0)) from KX.out)
      have B2 := Lib.hid (bel_drewN B1.out nq)
      clear TB1 OW1 MP1 KX B1 c1
      generalize W1.drewN nq = W2 at TB2 OW2 MP2 KX2 B2 ⊢
      obtain ⟨z, hz⟩ := HZ.out y
      have HZ2 := Lib.hid hz
      have s0 : 0 < (labA y).size := by rw [labA_size]; decide
      have s1 : (labA y).size ≤ 1000 := by rw [labA_size]; decide
      have HR := Lib.hid (right44 y)
      have R3 := Lib.hid (range_lab (heap_alloc_new W2 (.cells (labA y) 25)))
      have HB3 := Lib.hid (bel_alloc (Below.refl W2.heap.size W2) (.cells (labA y) 25))
      clear hz
      have HBAD := Lib.hid (show badN l i = if rightL y = false then 1 else if 16 ≤ i then 5 else if y ∈ l.take i then 7 else 0 by unfold badN; rw [HYL.out])
      cases hr : rightL y with
      | false =>
        rw [hr] at HR
        have HF := Lib.hid (chk_hit hlt (show badN l i = 1 by rw [HBAD.out, if_pos hr]) (by decide) HNO.out)
        clear hr
        go_wp2_with (first
          | (refine wpList_load_row rfl 25 (.tmp 7) rfl X rfl 25 (labA y) (0, 0) _ KX2.out hu25 rfl (info25 _) ?_)
          | (refine build1 rfl 56 25 (.tmp 30) rfl (labA y) rfl z hu56 HZ2.out s0 s1 ?_)
          | (go_at_call 44; refine (HR.out _ _ _ R3.out).mono ?_; rintro e w4 ⟨rfl, hb'⟩; have HB' := Lib.hid (below_then B2.out B2.out.size (bel_trans HB3.out hb')); clear hb'))
        exact bodyPost_ret (by simp [results, Try.results32, go_sem]) rfl (new_no (by decide) HF.out HB'.out)
      | true =>
        rw [hr] at HR
        have HBAD2 := Lib.hid (show badN l i = if 16 ≤ i then 5 else if y ∈ l.take i then 7 else 0 by rw [HBAD.out, if_neg (by rw [hr]; decide)])
        clear hr HBAD
        by_cases hs : 16 ≤ i
        · have ds : decide ((16 : Int) ≤ (i : Int)) = true := decide_eq_true (by omega)
          have HF := Lib.hid (chk_hit hlt (show badN l i = 5 by rw [HBAD2.out, if_pos hs]) (by decide) HNO.out)
          go_wp2_with (first
            | (refine wpList_load_row rfl 25 (.tmp 7) rfl X rfl 25 (labA y) (0, 0) _ KX2.out hu25 rfl (info25 _) ?_)
            | (refine build1 rfl 56 25 (.tmp 30) rfl (labA y) rfl z hu56 HZ2.out s0 s1 ?_)
            | (go_at_call 44; refine (HR.out _ _ _ R3.out).mono ?_; rintro e w4 ⟨rfl, hb'⟩; have HB' := Lib.hid (below_then B2.out B2.out.size (bel_trans HB3.out hb')); clear hb'))
          exact bodyPost_ret (by simp [results, Try.results32, go_sem]) rfl (new_no (by decide) HF.out HB'.out)
        have ds : decide ((16 : Int) ≤ (i : Int)) = false := decide_eq_false (by omega)
        cases hf : fB with
        | true =>
          subst hf
          have HF := Lib.hid (chk_hit hlt (show badN l i = 7 by rw [HBAD2.out, if_neg hs, if_pos (of_decide_eq_true HFB.out.symm)]) (by decide) HNO.out)
          go_wp2_with (first
            | (refine wpList_load_row rfl 25 (.tmp 7) rfl X rfl 25 (labA y) (0, 0) _ KX2.out hu25 rfl (info25 _) ?_)
            | (refine build1 rfl 56 25 (.tmp 30) rfl (labA y) rfl z hu56 HZ2.out s0 s1 ?_)
            | (go_at_call 44; refine (HR.out _ _ _ R3.out).mono ?_; rintro e w4 ⟨rfl, hb'⟩; have HB' := Lib.hid (below_then B2.out B2.out.size (bel_trans HB3.out hb')); clear hb'))
          exact bodyPost_ret (by simp [results, Try.results32, go_sem]) rfl (new_no (by decide) HF.out HB'.out)
        | false =>
          subst hf
          have HG := Lib.hid (show badN l i = 0 by rw [HBAD2.out, if_neg hs, if_neg (of_decide_eq_false HFB.out.symm)])
          clear HBAD2 HFB
          go_wp2_with (first
            | (refine wpList_load_row rfl 25 (.tmp 7) rfl X rfl 25 (labA y) (0, 0) _ KX2.out hu25 rfl (info25 _) ?_)
            | (refine build1 rfl 56 25 (.tmp 30) rfl (labA y) rfl z hu56 HZ2.out s0 s1 ?_)
            | (go_at_call 44; refine (HR.out _ _ _ R3.out).mono ?_; rintro e w4 ⟨rfl, hb'⟩; have HB4 := Lib.hid (bel_trans HB3.out hb'); clear hb'))
          have TB3 := Lib.hid (blk_below TB2.out HB4.out)
          have OW3 := Lib.hid (own_below OW2.out HB4.out)
          have MP3 := Lib.hid (map_below MP2.out HB4.out)
          have KX3 := Lib.hid (blk_below KX2.out HB4.out)
          have B3 := Lib.hid (below_then B2.out B2.out.size HB4.out)
          clear TB2 OW2 MP2 KX2 B2 HB4 R3 HB3 HR
          have hXl := lt_of_block KX3.out
          have hTl := lt_of_block TB3.out
          obtain ⟨i0, hi0, hz0, hz1, hz2⟩ := info_parts info25b
          have HI0 := Lib.hid hi0
          have HI1 := Lib.hid hz0
          have HI2 := Lib.hid hz1
          have HI3 := Lib.hid hz2
          clear hi0 hz0 hz1 hz2
          have c0 : w4.cell? ⟨w.heap.size + 1, 0, none⟩ = some v := cell_of_row _ _ _ _ _ _ TB3.out
          have f0 : w4.frozen? ⟨w.heap.size + 1, 0, none⟩ = false := frozen_of_row _ _ _ _ _ TB3.out
          have h1 : (LDI 25 (.pointer (some ⟨X, 0, none⟩))).run Try.prog w4.drew = .ok (.agg (labA y)) w4.drew := run_loadAt_mid w4.drew X 0 25 (labL y) _ (range_lab KX3.out) Try.underlying25 rfl (by rw [labL_len]; kernel_rfl)
          have hbs := bs25 y
          have k0 := World.new_ne w4 _ c0
          have NB := Lib.hid (heap_alloc_new w4 (.cells (labA y) 25))
          have hvT : some (w.heap.size + 1) ≠ v.ownBlock := fun e => by have := (OW3.out.lt _ e.symm).1; omega
          have hll : (l.take i).length = i := by rw [List.length_take]; omega
          have NBL := Lib.hid ((show ∀ j u, (labL y)[j]? = some u → (w4.alloc (.cells (labA y) 25)).drew.cell? ((⟨w4.heap.size, 0, none⟩ : Addr).add j) = some u from World.news_of_block (cs := labA y) NB.out))
          go_region_law (refine step_append_lies _ (by rfl) (.tmp 46) (.tmp 48) 56 (by rfl) (w.heap.size + 2) 25 i0 _ 31 40 hu56 HI0.out HI1.out HI2.out HI3.out rfl (by omega) v i (labsL (l.take i)) (by rfl) ((OW3.out.alloc _).drew) ⟨w4.heap.size, 0, none⟩ 1 1 (labL y) (by rfl) (by rw [labL_len]) NBL.out (labL_one _) (by omega) (by unfold maxLen; omega) (by omega) (by simp; omega) (w4.heap.size + 1) (by simp) ?_; intro gg cap w5 hown1 hgrow hat hlt5; have ka := hgrow.cell_far ⟨w.heap.size + 1, 0, none⟩ (by simp <;> omega) hvT; have kb := hgrow.frozen_far ⟨w.heap.size + 1, 0, none⟩ (by simp <;> omega) hvT)
          all_goals
            have hvX : some X ≠ v.ownBlock := fun e => by have := HVX0.out _ e.symm; omega
            have hvM : some w.heap.size ≠ v.ownBlock := fun e => by have := (OW3.out.lt _ e.symm).1; omega
            have TB5 := Lib.hid (heap_setCell_same w5 (w.heap.size + 1) 0 _ 98 (.slice (some ⟨gg, 0, none⟩) (i + 1) cap) ((hgrow.block _ (by simp; omega) hvT).trans ((heap_alloc_old _ _ hTl).trans TB3.out)))
            have KX5 := Lib.hid ((heap_setCell_other w5 ⟨w.heap.size + 1, 0, none⟩ X (.slice (some ⟨gg, 0, none⟩) (i + 1) cap) (by simp; omega)).trans ((hgrow.block _ (by simp; omega) hvX).trans ((heap_alloc_old _ _ hXl).trans KX3.out)))
            have OW5 := Lib.hid (ownsRow_setCell_below hown1 (a := ⟨w.heap.size + 1, 0, none⟩) (by show w.heap.size + 1 < w.heap.size + 2; omega) (.slice (some ⟨gg, 0, none⟩) (i + 1) cap))
            have MP5 := Lib.hid ((((MP3.out.alloc (.cells (labA y) 25)).drew).kept hgrow hvM).setCell (a := ⟨w.heap.size + 1, 0, none⟩) (by simp) (.slice (some ⟨gg, 0, none⟩) (i + 1) cap))
            have B5 := Lib.hid ((((bel_alloc B3.out (.cells (labA y) 25)).drew).grown hgrow (by simp; have := B3.out.size; omega) (fun k hk => by have := (OW3.out.lt _ hk).1; omega)).setCell (p := ⟨w.heap.size + 1, 0, none⟩) (by simp) (.slice (some ⟨gg, 0, none⟩) (i + 1) cap))
            clear hgrow hown1 hat hlt5 ka kb c0 f0 h1 hbs k0 NB NBL TB3 OW3 MP3 KX3 B3 hXl hTl hvX hvM hvT
          all_goals
            generalize w5.setCell ⟨w.heap.size + 1, 0, none⟩ (.slice (some ⟨gg, 0, none⟩) (i + 1) cap) = W6 at TB5 KX5 OW5 MP5 B5 ⊢
            have c1 : W6.cell? ⟨w.heap.size + 1, 1, none⟩ = some (.map (some w.heap.size)) := cell_of_row _ _ _ _ _ _ TB5.out
            have h1 : (LDI 25 (.pointer (some ⟨X, 0, none⟩))).run Try.prog W6.drew = .ok (.agg (labA y)) W6.drew := run_loadAt_mid W6.drew X 0 25 (labL y) _ (range_lab KX5.out) Try.underlying25 rfl (by rw [labL_len]; kernel_rfl)
            go_wp2_with fail
            go_still_tail 6, (by kernel_rfl)
            change wpList _ _ _ _ _ W6.drew
            have hwi : (Lit.int .i64 (i : Int)).wf = true := wf_small _ (by omega) (by omega)
            have hnl : numP l (i + 1) = (numP l i).put (klab y) (.lit (.int .i64 (i : Int))) := by show (numP l i).put (klab (labD l i)) _ = _; rw [HYL.out]
            have HNL := Lib.hid hnl
            have HWI := Lib.hid hwi
            clear hnl hwi c1 h1
            go_wp2_with (first
              | (at_mapUpdate; refine wpList_mapUpdate_own _ rfl _ _ _ 96 rfl 25 3 key25 hu96 (plainElem (H := Unit) Try.prog 3) w.heap.size i (numP l i) rfl MP5.out.drew (by unfold maxLen; omega) (.agg (labA y)) (.int .i64 i) (klab y) rfl rfl (keyOf25 HOY.out) (.lit (.int .i64 i)) [] (plainElem_int Try.underlying3 HWI.out) ?_; intro w7 hm7 hg7; have HM7 := Lib.hid hm7; have HG7 := Lib.hid hg7; clear hm7 hg7))
            go_roundg (41 - (i + 1))
            case measure => omega
            case rel =>
              have e1 : some (w.heap.size + 1) ≠ some w.heap.size := by simp
              have e2 := OW5.out
              refine ⟨i + 1, _, hlt, Nat.le_refl _, rfl, Lib.hid (fun j hj => by
                rcases Nat.lt_or_ge j i with h | h
                · exact HNO.out j h
                · rw [show j = i by omega]; exact HG.out), Lib.hid ((HG7.out.block _ (lt_of_block (w := W6.drew) TB5.out) e1).trans TB5.out), Lib.hid ?_, Lib.hid ?_, Lib.hid (B5.out.drew.grown HG7.out B5.out.size (fun k hk => by have := Option.some.inj hk; omega))⟩
              · rw [List.take_succ_eq_append_getElem hlt, labsL_snoc, ← labD_get hlt, HYL.out]
                refine ⟨e2.1, ?_⟩
                rcases e2.2 with hn | ⟨g, cap', cur, hv, hbb, hgg', rest⟩
                · exact .inl hn
                · exact .inr ⟨g, cap', cur, hv, hbb, (HG7.out.block g (lt_of_block (w := W6.drew) hgg') (fun e => by have := Option.some.inj e; omega)).trans hgg', rest⟩
              · rw [HNL.out]; exact HM7.out
    · have d1 : decide ((i : Int) < (l.length : Int)) = false := decide_eq_false (by omega)
      have hi2 : i = l.length := by omega
      subst hi2
      have HF := Lib.hid (chk_none (l := l) HNO.out)
      go_wp2_with fail
      refine bodyPost_ret (by simp [results, Try.results32, go_sem]; rfl) rfl ⟨_, by rw [HF.out.1, HF.out.2]; rfl, BR.out, fun h => absurd HF.out.2 h, fun _ => ⟨w.heap.size + 1, rfl, ⟨_, _, by omega, TB.out, ?_, MP.out⟩⟩⟩
      have := OW.out
      rw [List.take_length] at this
      exact own_lower this (by omega)
end Go.Proofs.Ytifmckhabkghcaa.P
