/- TableRanges (walk). -/
import Derived.Test.YtifmckhabkghcaaT9
namespace Go.Proofs.Ytifmckhabkghcaa.P
open Go.RowKit
set_option linter.unusedSimpArgs false
attribute [local go_sem ↓] ldi25

theorem info25L (x : Lab) : (Try.prog.info? 25).map (·.size) = some (labL x).length := by rw [labL_len]; kernel_rfl
theorem ints34t (l : List Nat) (A B : Option Addr) (c d : Nat) (w : World) (hA : IntsA w A l) (hB : IntsA w B l) (hl : l.length ≤ 1000) :
    Calls Try.prog 34 #[.slice A l.length c, .slice B l.length d] w fun e w' => e = .returned (.bool true) ∧ Below w.heap.size w w' := by
  have h := ints34 l l A B c d w hA hB hl hl
  simpa using h
set_option maxRecDepth 100000 in
set_option maxHeartbeats 1000000 in
theorem ranges9_long (l : List Lab) (lo hi : Lab) (n : Int) (A : Option Addr) (c : Nat) (w : World) (hlen : 40 < l.length) :
    Calls Try.prog 9 #[.slice A l.length c, .agg (labA lo), .agg (labA hi), .int .i64 n] w fun e w' => e = .returned (.bool true) ∧ Below w.heap.size w w' := by
  have hu56 := Try.underlying56
  have HK := Lib.hid awake31
  have d0 : decide (40 < (l.length : Int)) = true := decide_eq_true (by omega)
  have HB := Lib.hid (bel_alloc (bel_alloc (Below.refl w.heap.size w) (.cells (labA lo) 25)) (.cells (labA hi) 25))
  go_enter Try.func9, Try.ntmps9
  go_wp2_with (go_at_call 31; refine (HK.out _).mono ?_; rintro e w7 ⟨rfl, hb⟩; have HB7 := Lib.hid (below_then HB.out HB.out.size hb); clear hb)
  go_ret
  exact ⟨rfl, HB7.out⟩
set_option maxRecDepth 100000 in
set_option maxHeartbeats 4000000 in
theorem ranges9_ok (l : List Lab) (lo hi : Lab) (n : Int) (A : Option Addr) (c : Nat) (w : World) (hA : SlA w A l) (hl : ∀ y ∈ l, LabOK y) (hlo : LabOK lo) (hlen : l.length ≤ 40) :
    Calls Try.prog 9 #[.slice A l.length c, .agg (labA lo), .agg (labA hi), .int .i64 n] w fun e w' => e = .returned (.bool true) ∧ Below w.heap.size w w' := by
  have hu25 := Try.underlying25
  have hu56 := Try.underlying56
  have hu60 := Try.underlying60
  obtain ⟨i0, hi0, hz0, hz1, hz2⟩ := info_parts info3
  have HI0 := Lib.hid hi0
  have HZ0 := Lib.hid hz0
  have HZ1 := Lib.hid hz1
  have HZ2 := Lib.hid hz2
  clear hi0 hz0 hz1 hz2
  have HK := Lib.hid awake31
  have HN := Lib.hid (fun w' (hb : Below w.heap.size w w') => new32 l A c w' (hA.below hb) hl hlen)
  have HA := Lib.hid hA
  have d0 : decide (40 < (l.length : Int)) = false := decide_eq_false (by omega)
  have HB := Lib.hid (bel_alloc (bel_alloc (Below.refl w.heap.size w) (.cells (labA lo) 25)) (.cells (labA hi) 25))
  have H0 := Lib.hid (heap_alloc2_old w (.cells (labA lo) 25) (.cells (labA hi) 25))
  have H1 := Lib.hid (heap_alloc2_new w (.cells (labA lo) 25) (.cells (labA hi) 25))
  clear hA
  by_cases he : chkE l = 0
  · have HE := Lib.hid he
    have HN2 := Lib.hid (show ∀ w', Below w.heap.size w w' → Calls Try.prog 32 #[.slice A l.length c] w' fun e w1 => ∃ g, e = .returned (.tuple #[.pointer (some ⟨g, 0, none⟩), .int .i64 (chkK l), .int .i64 0]) ∧ Tab w1 w'.heap.size g l ∧ Below w'.heap.size w' w1 from fun w' hb => (HN.out w' hb).mono fun e w1 hh => by
      obtain ⟨p, rfl, hb1, _, h0⟩ := hh
      obtain ⟨g, rfl, ht⟩ := h0 HE.out
      exact ⟨g, by rw [HE.out]; rfl, ht, hb1⟩)
    generalize chkK l = kk at HN2
    clear he
    by_cases hn : 0 ≤ n ∧ n < l.length
    · obtain ⟨hn0, hn1⟩ := hn
      obtain ⟨k, rfl⟩ : ∃ k : Nat, n = k := ⟨n.toNat, by omega⟩
      have hk : k < l.length := by omega
      have e1 : decide ((0 : Int) ≤ (k : Int)) = true := decide_eq_true hn0
      have e2 : decide ((k : Int) < (l.length : Int)) = true := decide_eq_true hn1
      obtain ⟨f, hf⟩ : ∃ f, f = beB l l[k] := ⟨_, rfl⟩
      have HBE := Lib.hid (show beN l k = selN f l.length by unfold beN; rw [if_pos ⟨hn0, hn1⟩, Int.toNat_natCast, labD_get hk, hf])
      have HF := Lib.hid hf
      clear hf
      go_enter Try.func9, Try.ntmps9
      go_wp2_with (first
        | (go_at_call 31; refine (HK.out _).mono ?_; rintro e w1 ⟨rfl, hb⟩; have HB1 := Lib.hid (below_then HB.out HB.out.size hb); have K0 := Lib.hid (blk_below H0.out hb); have K1 := Lib.hid (blk_below H1.out hb); clear hb)
        | (go_at_call 32; refine (HN2.out _ HB1.out).mono ?_; rintro e w2 ⟨g, rfl, ht, hb⟩; have HT2 := Lib.hid ht; have HB2 := Lib.hid (below_then HB1.out HB1.out.size hb); have M0 := Lib.hid (blk_below K0.out hb); have M1 := Lib.hid (blk_below K1.out hb); clear hb ht))
      generalize w1.heap.size = B at HT2
      clear K0 K1 H0 H1 HB HB1
      go_loopg [12, 13] 41 (fun gg s12 s13 wr => ∃ i : Nat, i ≤ l.length ∧ 41 - i ≤ gg ∧ s13 = .int .i64 i ∧ Hid (wr.ownsRow w2.heap.size 3 1 s12 (selN f i).length (ints (selN f i))) ∧ Hid (Below w2.heap.size w2 wr))
      case atStart => exact ⟨0, Nat.zero_le _, Nat.sub_le _ _, rfl, (World.ownsRow_nil _ _ _ _ : World.ownsRow _ _ _ _ (.slice none 0 0) 0 []), Below.refl _ _⟩
      case round =>
        obtain ⟨i, hi', hgg, rfl, OW, BR⟩ := hrel
        have BW0 := Lib.hid (below_then HB2.out HB2.out.size BR.out)
        by_cases hlt : i < l.length
        · have d1 : decide ((i : Int) < (l.length : Int)) = true := decide_eq_true (by omega)
          have d2 : (0 : Int) ≤ (i : Int) := by omega
          have d3 : (i : Int) < (l.length : Int) := by omega
          have q1 : IntKind.i64.wrap ((i : Int) + 1) = (i : Int) + 1 := IntWalk.i64_in _ (by omega)
          obtain ⟨b, o, rfl, hb, hc⟩ := (HA.out.below BW0.out) (by omega)
          have hoy := hl _ (List.getElem_mem hlt)
          have h1 := ldb25 (hc k _ (List.getElem?_eq_getElem hk)) hb
          have h2 := ldb25 (hc i _ (List.getElem?_eq_getElem hlt)) hb
          have hp : f i = domB l[k] l[i] := by rw [HF.out]; unfold beB; rw [labD_get hlt]
          have HS := Lib.hid (selN_succ f i)
          rw [hp] at HS
          have hsl := selN_len f i
          clear hp HBE HF
          generalize l[k] = top at h1 HS
          generalize l[i] = y at h2 hoy HS
          have HD := Lib.hid (rdom33 top y hoy.2)
          clear hc hoy
          have hs2 := BR.out.size
          cases ed : domB top y with
          | false =>
            rw [ed] at HD HS
            clear ed
            go_wp2_with fail
            refine region_bw (by kernel_rfl) (by kernel_rfl) ?_
            repeat (go_big_quiet_step ((go_at_call 33; exact call_bw HD.out _)))
            refine wpQuiet_nil ?_
            rintro _ ⟨u, rfl⟩
            have hb' := Lib.hid (BW.b u)
            generalize u.w = w4 at hb' ⊢
            clear h1 h2
            go_wp2_with fail
            go_roundg (41 - (i + 1))
            case measure => omega
            case rel => exact ⟨i + 1, hlt, Nat.le_refl _, rfl, Lib.hid (by rw [HS.out, if_neg (by simp)]; exact own_below OW.out hb'.out), Lib.hid (below_then BR.out BR.out.size hb'.out)⟩
          | true =>
            rw [ed] at HD HS
            clear ed
            go_wp2_with fail
            refine region_bw (by kernel_rfl) (by kernel_rfl) ?_
            repeat (go_big_quiet_step ((go_at_call 33; exact call_bw HD.out _)))
            refine wpQuiet_nil ?_
            rintro _ ⟨u, rfl⟩
            have hb' := Lib.hid (BW.b u)
            generalize u.w = w4 at hb' ⊢
            clear h1 h2
            have OW4 := Lib.hid (own_below OW.out hb'.out)
            have hs4 := hb'.out.size
            go_wp2_with (first
              | (at_builtin; refine wpList_append_own _ rfl (.tmp 57) (.tmp 59) 60 rfl w2.heap.size 3 i0 (.int .i64 0) 1 8 hu60 HI0.out HZ0.out HZ1.out HZ2.out rfl (by decide) _ _ _ rfl (OW4.out.alloc _) ⟨w4.heap.size, 0, none⟩ 1 1 [.int .i64 i] rfl rfl (World.news_of_block (cs := #[.int .i64 i]) (heap_alloc_new _ _)) (by intro u hu; rw [List.mem_singleton.1 hu]; rfl) (by unfold maxLen; omega) (by omega) (by simp; omega) ?_; intro v' w5 ho5 hg5 _; have HO5 := Lib.hid ho5; have HG5 := Lib.hid hg5; clear ho5 hg5))
            go_roundg (41 - (i + 1))
            case measure => omega
            case rel =>
              refine ⟨i + 1, hlt, Nat.le_refl _, rfl, ?_, ?_⟩
              · have := HO5.out
                refine Lib.hid ?_
                rw [HS.out, if_pos (by simp), List.length_append, ints, List.map_append]
                exact this
              · exact Lib.hid ((bel_alloc (below_then BR.out BR.out.size hb'.out) _).grown HG5.out (by simp; omega) (fun k hk => by have := (OW4.out.lt _ hk).1; omega))
        · have d1 : decide ((i : Int) < (l.length : Int)) = false := decide_eq_false (by omega)
          have hi2 : i = l.length := by omega
          have OW2 := Lib.hid (by rw [hi2, ← HBE.out] at OW; exact OW.out)
          clear OW HBE
          have HU := ints_of_own OW2.out
          go_wp2_with fail
          have RL := Lib.hid (range_lab (blk_below M0.out BR.out))
          have RH := Lib.hid (range_lab (blk_below M1.out BR.out))
          have sL := lt_of_block (blk_below M0.out BR.out)
          have sH := lt_of_block (blk_below M1.out BR.out)
          have HT := Lib.hid (HT2.out.below BR.out)
          have HA := Lib.hid (HA.out.below BW0.out)
          refine wp_region_held_drew (S := fun w' => Below wr.heap.size wr w') (by kernel_rfl) (Below.refl _ _).drew (fun hHeld => ?_)
          refine held_take 0 (some 61) (.pointer (some ⟨g, 0, none⟩)) rfl rfl (by kernel_rfl) (by kernel_rfl) (by kernel_rfl) (fun _ _ _ h => h) (Or.inl ⟨rfl, fun w' h => by go_simp⟩) hHeld ?_
          simp only [Act.put, List.setIfInBounds_toArray, List.set_cons_zero, List.set_cons_succ]
          refine held_take 1 (some 62) (.agg (labA lo)) rfl rfl (by kernel_rfl) (by kernel_rfl) (by kernel_rfl) (fun _ _ _ h => h) (yieldsIf_load_mid rfl 25 (.tmp 5) rfl w.heap.size (0) rfl (labL lo) _ (fun w' h => range_below RL.out sL h) hu25 rfl (info25L lo)) hHeld ?_
          simp only [Act.put, List.setIfInBounds_toArray, List.set_cons_zero, List.set_cons_succ]
          refine held_take 2 (some 63) (.agg (labA hi)) rfl rfl (by kernel_rfl) (by kernel_rfl) (by kernel_rfl) (fun _ _ _ h => h) (yieldsIf_load_mid rfl 25 (.tmp 6) rfl (w.heap.size + 1) (0) rfl (labL hi) _ (fun w' h => range_below RH.out sH h) hu25 rfl (info25L hi)) hHeld ?_
          simp only [Act.put, List.setIfInBounds_toArray, List.set_cons_zero, List.set_cons_succ]
          refine held_take 4 (some 65) (.slice A l.length c) rfl rfl (by kernel_rfl) (by kernel_rfl) (by kernel_rfl) (fun _ _ _ h => h) (Or.inl ⟨rfl, fun w' h => by go_simp⟩) hHeld ?_
          simp only [Act.put, List.setIfInBounds_toArray, List.set_cons_zero, List.set_cons_succ]
          refine held_take 5 (some 66) (.agg (labA lo)) rfl rfl (by kernel_rfl) (by kernel_rfl) (by kernel_rfl) (fun _ _ _ h => h) (yieldsIf_load_mid rfl 25 (.tmp 5) rfl w.heap.size (0) rfl (labL lo) _ (fun w' h => range_below RL.out sL h) hu25 rfl (info25L lo)) hHeld ?_
          simp only [Act.put, List.setIfInBounds_toArray, List.set_cons_zero, List.set_cons_succ]
          refine held_take 6 (some 67) (.agg (labA hi)) rfl rfl (by kernel_rfl) (by kernel_rfl) (by kernel_rfl) (fun _ _ _ h => h) (yieldsIf_load_mid rfl 25 (.tmp 6) rfl (w.heap.size + 1) (0) rfl (labL hi) _ (fun w' h => range_below RH.out sH h) hu25 rfl (info25L hi)) hHeld ?_
          simp only [Act.put, List.setIfInBounds_toArray, List.set_cons_zero, List.set_cons_succ]
          refine held_call 3 (some 64) 35 #[.pointer (some ⟨g, 0, none⟩), .agg (labA lo), .agg (labA hi)] (by kernel_rfl) rfl rfl rfl (by go_simp) ?_
          refine (within35 B g l lo hi _ (HT.out.below hHeld) hl hlo.2 hlen).mono ?_
          rintro e w1 ⟨v1, rfl, ho1, hb1⟩
          have hHeld := bel_trans hHeld hb1
          refine ⟨_, rfl, hHeld, ?_⟩
          simp only [Act.put, List.setIfInBounds_toArray, List.set_cons_zero, List.set_cons_succ]
          obtain ⟨A1, c1, rfl, hi1⟩ := ints_of_own ho1
          refine held_call 7 (some 68) 36 #[.slice A l.length c, .agg (labA lo), .agg (labA hi)] (by kernel_rfl) rfl rfl rfl (by go_simp) ?_
          refine (rwithin36 l lo hi A c _ (HA.out.below hHeld) hl hlo hlen).mono ?_
          rintro e w2 ⟨v2, rfl, ho2, hb2⟩
          have hHeld := bel_trans hHeld hb2
          refine ⟨_, rfl, hHeld, ?_⟩
          simp only [Act.put, List.setIfInBounds_toArray, List.set_cons_zero, List.set_cons_succ]
          obtain ⟨A2, c2, rfl, hi2⟩ := ints_of_own ho2
          refine held_call 8 (some 69) 34 #[.slice A1 (selN (inB l lo hi) l.length).length c1, .slice A2 (selN (inB l lo hi) l.length).length c2] (by kernel_rfl) rfl rfl rfl (by go_simp) ?_
          refine (ints34t _ A1 A2 c1 c2 _ (hi1.below hb2) hi2 (Nat.le_trans (selN_len _ _) (by omega))).mono ?_
          rintro e w3 ⟨rfl, hb3⟩
          have hHeld := bel_trans hHeld hb3
          refine ⟨_, rfl, hHeld, ?_⟩
          simp only [Act.put, List.setIfInBounds_toArray, List.set_cons_zero, List.set_cons_succ]
          refine held_take 9 (some 70) (.bool true) rfl rfl (by kernel_rfl) (by kernel_rfl) (by kernel_rfl) (fun _ _ _ h => h) (Or.inl ⟨rfl, fun w' h => by go_simp⟩) hHeld ?_
          simp only [Act.put, List.setIfInBounds_toArray, List.set_cons_zero, List.set_cons_succ]
          refine held_take 10 (some 71) (.pointer (some ⟨g, 0, none⟩)) rfl rfl (by kernel_rfl) (by kernel_rfl) (by kernel_rfl) (fun _ _ _ h => h) (Or.inl ⟨rfl, fun w' h => by go_simp⟩) hHeld ?_
          simp only [Act.put, List.setIfInBounds_toArray, List.set_cons_zero, List.set_cons_succ]
          refine held_take 11 (some 72) (.int .i64 k) rfl rfl (by kernel_rfl) (by kernel_rfl) (by kernel_rfl) (fun _ _ _ h => h) (Or.inl ⟨rfl, fun w' h => by go_simp⟩) hHeld ?_
          simp only [Act.put, List.setIfInBounds_toArray, List.set_cons_zero, List.set_cons_succ]
          refine held_take 13 (some 74) (u12) rfl rfl (by kernel_rfl) (by kernel_rfl) (by kernel_rfl) (fun _ _ _ h => h) (Or.inl ⟨rfl, fun w' h => by go_simp⟩) hHeld ?_
          simp only [Act.put, List.setIfInBounds_toArray, List.set_cons_zero, List.set_cons_succ]
          refine held_call 12 (some 73) 37 #[.pointer (some ⟨g, 0, none⟩), .int .i64 k] (by kernel_rfl) rfl rfl rfl (by go_simp) ?_
          refine (below37 B g l k _ (HT.out.below hHeld) hl hlen).mono ?_
          rintro e w4 ⟨v4, rfl, ho4, hb4⟩
          have hHeld := bel_trans hHeld hb4
          refine ⟨_, rfl, hHeld, ?_⟩
          simp only [Act.put, List.setIfInBounds_toArray, List.set_cons_zero, List.set_cons_succ]
          obtain ⟨A4, c4, rfl, hi4⟩ := ints_of_own ho4
          obtain ⟨A5, c5, rfl, hi5⟩ := HU
          refine held_call 14 (some 75) 34 #[.slice A4 (beN l k).length c4, .slice A5 (beN l k).length c5] (by kernel_rfl) rfl rfl rfl (by go_simp) ?_
          refine (ints34t _ A4 A5 c4 c5 _ hi4 (hi5.below hHeld) (Nat.le_trans (beN_len _ _) (by omega))).mono ?_
          rintro e w5 ⟨rfl, hb5⟩
          have hHeld := bel_trans hHeld hb5
          refine ⟨_, rfl, hHeld, ?_⟩
          simp only [Act.put, List.setIfInBounds_toArray, List.set_cons_zero, List.set_cons_succ]
          refine held_take 15 (some 76) (.bool true) rfl rfl (by kernel_rfl) (by kernel_rfl) (by kernel_rfl) (fun _ _ _ h => h) (Or.inl ⟨rfl, fun w' h => by go_simp⟩) hHeld ?_
          simp only [Act.put, List.setIfInBounds_toArray, List.set_cons_zero, List.set_cons_succ]
          refine held_op 16 (some 8) (.bool true) (w' := w5) (by kernel_rfl) rfl rfl rfl (by go_simp) hHeld ?_
          refine wpAnyH_done (by kernel_rfl) ?_ _
          simp only [Act.put, List.setIfInBounds_toArray, List.set_cons_zero, List.set_cons_succ]
          go_wp2_with fail
          go_ret
          exact ⟨rfl, below_then BW0.out BW0.out.size hHeld⟩
    · have HBE := Lib.hid (show beN l n = [] by unfold beN; rw [if_neg hn])
      have hcase : (decide (0 < l.length) = false ∧ l.length ≤ 0) ∨ (decide (0 < l.length) = true ∧ decide (0 ≤ n) = false) ∨ (decide (0 < l.length) = true ∧ decide (0 ≤ n) = true ∧ decide (n < (l.length : Int)) = false) := by
        simp only [decide_eq_false_iff_not, decide_eq_true_eq]
        omega
      clear hn
      rcases hcase with ⟨e1, e2⟩ | ⟨e1, e2⟩ | ⟨e1, e2, e3⟩
      all_goals
        go_enter Try.func9, Try.ntmps9
        go_wp2_with (first
          | (go_at_call 31; refine (HK.out _).mono ?_; rintro e w1 ⟨rfl, hb⟩; have HB1 := Lib.hid (below_then HB.out HB.out.size hb); have K0 := Lib.hid (blk_below H0.out hb); have K1 := Lib.hid (blk_below H1.out hb); clear hb)
          | (go_at_call 32; refine (HN2.out _ HB1.out).mono ?_; rintro e wr ⟨g, rfl, ht, hb⟩; have HT2 := Lib.hid ht; have HB2 := Lib.hid (below_then HB1.out HB1.out.size hb); have M0 := Lib.hid (blk_below K0.out hb); have M1 := Lib.hid (blk_below K1.out hb); clear hb ht))
        generalize w1.heap.size = B at HT2
        clear K0 K1 H0 H1 HB HB1
        have BR := Lib.hid (Below.refl wr.heap.size wr)
        have BW0 := HB2
        refine wp_loop_rounds 1 ?_
        rw [rounds_succ]
        go_wp2_with fail
        have RL := Lib.hid (range_lab (blk_below M0.out BR.out))
        have RH := Lib.hid (range_lab (blk_below M1.out BR.out))
        have sL := lt_of_block (blk_below M0.out BR.out)
        have sH := lt_of_block (blk_below M1.out BR.out)
        have HT := Lib.hid (HT2.out.below BR.out)
        have HA := Lib.hid (HA.out.below BW0.out)
        refine wp_region_held_drew (S := fun w' => Below wr.heap.size wr w') (by kernel_rfl) (Below.refl _ _).drew (fun hHeld => ?_)
        refine held_take 0 (some 61) (.pointer (some ⟨g, 0, none⟩)) rfl rfl (by kernel_rfl) (by kernel_rfl) (by kernel_rfl) (fun _ _ _ h => h) (Or.inl ⟨rfl, fun w' h => by go_simp⟩) hHeld ?_
        simp only [Act.put, List.setIfInBounds_toArray, List.set_cons_zero, List.set_cons_succ]
        refine held_take 1 (some 62) (.agg (labA lo)) rfl rfl (by kernel_rfl) (by kernel_rfl) (by kernel_rfl) (fun _ _ _ h => h) (yieldsIf_load_mid rfl 25 (.tmp 5) rfl w.heap.size (0) rfl (labL lo) _ (fun w' h => range_below RL.out sL h) hu25 rfl (info25L lo)) hHeld ?_
        simp only [Act.put, List.setIfInBounds_toArray, List.set_cons_zero, List.set_cons_succ]
        refine held_take 2 (some 63) (.agg (labA hi)) rfl rfl (by kernel_rfl) (by kernel_rfl) (by kernel_rfl) (fun _ _ _ h => h) (yieldsIf_load_mid rfl 25 (.tmp 6) rfl (w.heap.size + 1) (0) rfl (labL hi) _ (fun w' h => range_below RH.out sH h) hu25 rfl (info25L hi)) hHeld ?_
        simp only [Act.put, List.setIfInBounds_toArray, List.set_cons_zero, List.set_cons_succ]
        refine held_take 4 (some 65) (.slice A l.length c) rfl rfl (by kernel_rfl) (by kernel_rfl) (by kernel_rfl) (fun _ _ _ h => h) (Or.inl ⟨rfl, fun w' h => by go_simp⟩) hHeld ?_
        simp only [Act.put, List.setIfInBounds_toArray, List.set_cons_zero, List.set_cons_succ]
        refine held_take 5 (some 66) (.agg (labA lo)) rfl rfl (by kernel_rfl) (by kernel_rfl) (by kernel_rfl) (fun _ _ _ h => h) (yieldsIf_load_mid rfl 25 (.tmp 5) rfl w.heap.size (0) rfl (labL lo) _ (fun w' h => range_below RL.out sL h) hu25 rfl (info25L lo)) hHeld ?_
        simp only [Act.put, List.setIfInBounds_toArray, List.set_cons_zero, List.set_cons_succ]
        refine held_take 6 (some 67) (.agg (labA hi)) rfl rfl (by kernel_rfl) (by kernel_rfl) (by kernel_rfl) (fun _ _ _ h => h) (yieldsIf_load_mid rfl 25 (.tmp 6) rfl (w.heap.size + 1) (0) rfl (labL hi) _ (fun w' h => range_below RH.out sH h) hu25 rfl (info25L hi)) hHeld ?_
        simp only [Act.put, List.setIfInBounds_toArray, List.set_cons_zero, List.set_cons_succ]
        refine held_call 3 (some 64) 35 #[.pointer (some ⟨g, 0, none⟩), .agg (labA lo), .agg (labA hi)] (by kernel_rfl) rfl rfl rfl (by go_simp) ?_
        refine (within35 B g l lo hi _ (HT.out.below hHeld) hl hlo.2 hlen).mono ?_
        rintro e w1 ⟨v1, rfl, ho1, hb1⟩
        have hHeld := bel_trans hHeld hb1
        refine ⟨_, rfl, hHeld, ?_⟩
        simp only [Act.put, List.setIfInBounds_toArray, List.set_cons_zero, List.set_cons_succ]
        obtain ⟨A1, c1, rfl, hi1⟩ := ints_of_own ho1
        refine held_call 7 (some 68) 36 #[.slice A l.length c, .agg (labA lo), .agg (labA hi)] (by kernel_rfl) rfl rfl rfl (by go_simp) ?_
        refine (rwithin36 l lo hi A c _ (HA.out.below hHeld) hl hlo hlen).mono ?_
        rintro e w2 ⟨v2, rfl, ho2, hb2⟩
        have hHeld := bel_trans hHeld hb2
        refine ⟨_, rfl, hHeld, ?_⟩
        simp only [Act.put, List.setIfInBounds_toArray, List.set_cons_zero, List.set_cons_succ]
        obtain ⟨A2, c2, rfl, hi2⟩ := ints_of_own ho2
        refine held_call 8 (some 69) 34 #[.slice A1 (selN (inB l lo hi) l.length).length c1, .slice A2 (selN (inB l lo hi) l.length).length c2] (by kernel_rfl) rfl rfl rfl (by go_simp) ?_
        refine (ints34t _ A1 A2 c1 c2 _ (hi1.below hb2) hi2 (Nat.le_trans (selN_len _ _) (by omega))).mono ?_
        rintro e w3 ⟨rfl, hb3⟩
        have hHeld := bel_trans hHeld hb3
        refine ⟨_, rfl, hHeld, ?_⟩
        simp only [Act.put, List.setIfInBounds_toArray, List.set_cons_zero, List.set_cons_succ]
        refine held_take 9 (some 70) (.bool true) rfl rfl (by kernel_rfl) (by kernel_rfl) (by kernel_rfl) (fun _ _ _ h => h) (Or.inl ⟨rfl, fun w' h => by go_simp⟩) hHeld ?_
        simp only [Act.put, List.setIfInBounds_toArray, List.set_cons_zero, List.set_cons_succ]
        refine held_take 10 (some 71) (.pointer (some ⟨g, 0, none⟩)) rfl rfl (by kernel_rfl) (by kernel_rfl) (by kernel_rfl) (fun _ _ _ h => h) (Or.inl ⟨rfl, fun w' h => by go_simp⟩) hHeld ?_
        simp only [Act.put, List.setIfInBounds_toArray, List.set_cons_zero, List.set_cons_succ]
        refine held_take 11 (some 72) (.int .i64 n) rfl rfl (by kernel_rfl) (by kernel_rfl) (by kernel_rfl) (fun _ _ _ h => h) (Or.inl ⟨rfl, fun w' h => by go_simp⟩) hHeld ?_
        simp only [Act.put, List.setIfInBounds_toArray, List.set_cons_zero, List.set_cons_succ]
        refine held_take 13 (some 74) (.slice none 0 0) rfl rfl (by kernel_rfl) (by kernel_rfl) (by kernel_rfl) (fun _ _ _ h => h) (Or.inl ⟨rfl, fun w' h => by go_simp⟩) hHeld ?_
        simp only [Act.put, List.setIfInBounds_toArray, List.set_cons_zero, List.set_cons_succ]
        refine held_call 12 (some 73) 37 #[.pointer (some ⟨g, 0, none⟩), .int .i64 n] (by kernel_rfl) rfl rfl rfl (by go_simp) ?_
        refine (below37 B g l n _ (HT.out.below hHeld) hl hlen).mono ?_
        rintro e w4 ⟨v4, rfl, ho4, hb4⟩
        have hHeld := bel_trans hHeld hb4
        refine ⟨_, rfl, hHeld, ?_⟩
        simp only [Act.put, List.setIfInBounds_toArray, List.set_cons_zero, List.set_cons_succ]
        rw [HBE.out] at ho4
        obtain ⟨A4, c4, rfl, hi4⟩ := ints_of_own ho4
        refine held_call 14 (some 75) 34 #[.slice A4 0 c4, .slice none 0 0] (by kernel_rfl) rfl rfl rfl (by go_simp) ?_
        refine (ints34t [] A4 none c4 0 _ hi4 (fun h => absurd h (Nat.lt_irrefl 0)) (by decide)).mono ?_
        rintro e w5 ⟨rfl, hb5⟩
        have hHeld := bel_trans hHeld hb5
        refine ⟨_, rfl, hHeld, ?_⟩
        simp only [Act.put, List.setIfInBounds_toArray, List.set_cons_zero, List.set_cons_succ]
        refine held_take 15 (some 76) (.bool true) rfl rfl (by kernel_rfl) (by kernel_rfl) (by kernel_rfl) (fun _ _ _ h => h) (Or.inl ⟨rfl, fun w' h => by go_simp⟩) hHeld ?_
        simp only [Act.put, List.setIfInBounds_toArray, List.set_cons_zero, List.set_cons_succ]
        refine held_op 16 (some 8) (.bool true) (w' := w5) (by kernel_rfl) rfl rfl rfl (by go_simp) hHeld ?_
        refine wpAnyH_done (by kernel_rfl) ?_ _
        simp only [Act.put, List.setIfInBounds_toArray, List.set_cons_zero, List.set_cons_succ]
        go_wp2_with fail
        go_ret
        exact ⟨rfl, below_then BW0.out BW0.out.size hHeld⟩
  · have HE := Lib.hid he
    have HN2 := Lib.hid (show ∀ w', Below w.heap.size w w' → Calls Try.prog 32 #[.slice A l.length c] w' fun e w1 => e = .returned (.tuple #[.pointer none, .int .i64 (chkK l), .int .i64 (chkE l)]) ∧ Below w'.heap.size w' w1 from fun w' hb => (HN.out w' hb).mono fun e w1 hh => by
      obtain ⟨p, rfl, hb1, h0, _⟩ := hh
      exact ⟨by rw [h0 HE.out], hb1⟩)
    generalize chkK l = kk at HN2
    generalize chkE l = ee at HN2 he
    have de : decide ((ee : Int) = 0) = false := decide_eq_false (by omega)
    go_enter Try.func9, Try.ntmps9
    go_wp2_with (first
      | (go_at_call 31; refine (HK.out _).mono ?_; rintro e w1 ⟨rfl, hb⟩; have HB1 := Lib.hid (below_then HB.out HB.out.size hb); clear hb)
      | (go_at_call 32; refine (HN2.out _ HB1.out).mono ?_; rintro e wr ⟨rfl, hb⟩; have HB2 := Lib.hid (below_then HB1.out HB1.out.size hb); clear hb))
    go_ret
    exact ⟨rfl, HB2.out⟩
theorem ranges9 (l : List Lab) (lo hi : Lab) (n : Int) (A : Option Addr) (c : Nat) (w : World) (hA : SlA w A l) (hl : ∀ y ∈ l, LabOK y) (hlo : LabOK lo) :
    Calls Try.prog 9 #[.slice A l.length c, .agg (labA lo), .agg (labA hi), .int .i64 n] w fun e w' => e = .returned (.bool true) ∧ Below w.heap.size w w' := by
  by_cases h : 40 < l.length
  · exact ranges9_long l lo hi n A c w h
  · exact ranges9_ok l lo hi n A c w hA hl hlo (by omega)
end Go.Proofs.Ytifmckhabkghcaa.P
