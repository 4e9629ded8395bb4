/- TriePlays walked (layer 14). -/
import Derived.Test.YtfpbcdlfcaglgaaO1
import Derived.Deep.CutBlock
import Derived.Deep.CutRange
namespace Go.Proofs.Ytfpbcdlfcaglgaa.P
open Go.RowKit

set_option maxRecDepth 100000 in
theorem plays5_long (l : List Ac) (A : Option Addr) (c : Nat) (w : World) (hlen : 80 < l.length) :
    Calls Try.prog 5 #[.slice A l.length c] w fun e w' => e = .returned (.bool true) ∧ Below w.heap.size w w' := by
  have hu40 := Try.underlying40
  have HK := Lib.hid awake7
  have d0 : decide (80 < (l.length : Int)) = true := decide_eq_true (by omega)
  go_enter Try.func5, Try.ntmps5
  go_wp2_with (go_at_call 7; refine Calls.mono (HK.out _) ?_; rintro e w1 ⟨rfl, hb⟩; have HB := Lib.hid hb; clear hb)
  go_ret
  exact ⟨rfl, HB.out⟩
set_option maxRecDepth 100000 in
set_option maxHeartbeats 8000000 in
theorem plays5_ok (l : List Ac) (A : Option Addr) (c : Nat) (w : World) (hA : ActsA w A l) (hl : ∀ a ∈ l, a.r.ad < 2 ^ 32 ∧ a.ad < 2 ^ 32) (hlen : l.length ≤ 80) :
    Calls Try.prog 5 #[.slice A l.length c] w fun e w' => e = .returned (.bool true) ∧ Below w.heap.size w w' := by
  have hu40 := Try.underlying40
  have hu42 := Try.underlying42
  have hu22 := Try.underlying22
  have hu30 := Try.underlying30
  have hu32 := Try.underlying32
  have HK := Lib.hid awake7
  have HL := Lib.hid hl
  have HA := Lib.hid hA
  obtain ⟨i0, hi0, hz0, hz1, hz2⟩ := info_parts info32b
  have HI0 := Lib.hid hi0
  have HZ0 := Lib.hid hz0
  have HZ1 := Lib.hid hz1
  have HZ2 := Lib.hid hz2
  have d0 : decide (80 < (l.length : Int)) = false := decide_eq_false (by omega)
  clear hA hl hi0 hz0 hz1 hz2
  go_enter Try.func5, Try.ntmps5
  go_wp2_with (first
    | (go_at_call 7; refine Calls.mono (HK.out _) ?_; rintro e w1 ⟨rfl, hb⟩; have HB1 := Lib.hid hb; clear hb)
    | (go_at_call 8; refine Calls.mono (newS w1) ?_; rintro e w2 ⟨B, g0, rfl, ht, hb, _, _⟩; have HT2 := Lib.hid ht; have HB2 := Lib.hid hb; clear ht hb))
  have HA1 := Lib.hid (HA.out.low HB1.out (Nat.le_refl _))
  go_loopg [4, 5, 6, 7, 8, 9, 10, 11, 12, 13, 14, 15] 81 (fun gg s4 s5 s6 s7 s8 s9 s10 s11 s12 s13 s14 s15 wr => ∃ (i g : Nat) (vf : Value) (now : List Rt), i ≤ l.length ∧ 81 - i ≤ gg ∧ now.length ≤ i ∧ s5 = .int .i64 i ∧ Hid (TrS wr w1.heap.size B g vf (1 + 32 * i) now) ∧ Hid (NowR wr w1.heap.size s4 now) ∧ Hid (Below w1.heap.size w1 wr))
  case atStart => exact ⟨0, g0, _, [], Nat.zero_le _, Nat.sub_le _ _, Nat.le_refl _, rfl, HT2, Lib.hid (World.ownsRow_nil _ _ _ _), HB2⟩
  case round =>
    obtain ⟨i, g, vf, now, hi, hgg, hni, rfl, HT, HNW, BR⟩ := hrel
    clear HT2 HB2
    obtain ⟨va, vc, hv⟩ := own_form HNW.out
    subst hv
    by_cases hlt : i < l.length
    · have d1 : decide ((i : Int) < (l.length : Int)) = true := decide_eq_true (by omega)
      have d2 : (0 : Int) ≤ (i : Int) := by omega
      have d3 : (i : Int) < (l.length : Int) := by omega
      have hx : l[i]? = some l[i] := List.getElem?_eq_getElem hlt
      obtain ⟨b, o, rfl, hb, hc⟩ := HA1.out (by omega)
      have HR := Lib.hid (range_low (hc i _ hx) BR.out hb)
      have HXA := Lib.hid (HL.out _ (List.getElem_mem hlt))
      generalize l[i] = x at *
      clear hx hc
      go_upto_block 2 with (first
        | (refine load_mid_g 42 (.tmp 35) rfl b (o + i * 5) rfl (acC x) _ HR.out hu42 rfl (info42l _) rfl ?_; have N0 := Lib.hid (heap_alloc_new wr (.cells az 42)))
        | (refine wpList_store_row rfl 42 (.tmp 6) (.tmp 36) rfl wr.heap.size (acA x) rfl rfl 42 az N0.out (info42 _) rfl (one42 _) ?_; rw [World.setRow_alloc_new]; have BA := bel_alloc (Below.refl _ wr) (.cells (acA x) 42); have HX5 := Lib.hid (show AcB (wr.alloc (.cells (acA x) 42)) wr.heap.size x from heap_alloc_new wr (.cells (acA x) 42)); have HT5 := Lib.hid (HT.out.below BA); have HN5 := Lib.hid (HNW.out.below BA); have BR5 := Lib.hid (bel_alloc BR.out (.cells (acA x) 42)); have c0 := HX5.out.c0; clear BA HT HNW BR; generalize wr.alloc (.cells (acA x) 42) = w5 at *))
      go_cut [4, 7, 8, 9, 10, 11, 12, 13, 14, 15] from 38 to 162 (fun s4 s7 s8 s9 s10 s11 s12 s13 s14 s15 wx => ∃ (g' : Nat) (vf' : Value) (now' : List Rt), Hid (TrS wx w1.heap.size B g' vf' (1 + 32 * (i + 1)) now') ∧ Hid (NowR wx w1.heap.size s4 now') ∧ Hid (Below w1.heap.size w1 wx) ∧ now'.length ≤ i + 1)
      case first =>
        by_cases hk0 : x.k = 0
        · as_aux_lemma =>
            have k0 : (x.k == 0) = true := by simp [hk0]
            have c1 := HX5.out.c1
            have c2 := HX5.out.c2
            have c3 := HX5.out.c3
            obtain ⟨_, hra, _⟩ := HN5.out.rts
            have HA15 := Lib.hid (add15 now va vc x.r w5 hra (by omega) HXA.out.1)
            by_cases hE : errR now x.r = 0
            · rw [hE] at HA15
              have HAN := Lib.hid (show addN now x.r = now ++ [x.r] by rw [addN, if_pos hE])
              have HE := Lib.hid hE
              clear hE
              go_wp2_with (first
                | (go_at_call 15; refine Calls.mono HA15.out ?_; clear HA15; rintro e w6 ⟨rfl, hb⟩; have HX6 := Lib.hid (HX5.out.below hb); have HT6 := Lib.hid (HT5.out.below hb); have HN6 := Lib.hid (HN5.out.below hb); have BR6 := Lib.hid (below_then BR5.out BR5.out.size hb); have c1 := HX6.out.c1; have c2 := HX6.out.c2; have c3 := HX6.out.c3; clear hb)
                | (go_at_call 9; refine Calls.mono (add_zero w6 w1.heap.size B g vf (1 + 32 * i) now HT6.out x.r HXA.out.1 (by omega) HE.out) ?_; rintro e w7 ⟨rfl, g7, vf7, ht7, hc7⟩; have HX7 := Lib.hid (HX6.out.chg HT6.out hc7); have HN7 := Lib.hid (HN6.out.chg HT6.out hc7); have BR7 := Lib.hid (BR6.out.trans (HT6.out.low hc7)); have HT7 := Lib.hid ht7; have c1 := HX7.out.c1; have c2 := HX7.out.c2; have c3 := HX7.out.c3; clear ht7 hc7)
                | (refine build1 rfl 22 32 (.tmp 55) rfl (rtA x.r) rfl (.agg rz) hu22 (info32c x.r) (show 0 < 3 by decide) (show 3 ≤ 1000 by decide) ?_; have NB := Lib.hid (heap_alloc_new w7 (.cells (rtA x.r) 32)))
                | (at_builtin; refine wpList_append_own _ rfl (.tmp 53) (.tmp 56) 22 rfl w1.heap.size 32 i0 (.agg rz) 3 24 hu22 HI0.out HZ0.out HZ1.out HZ2.out rfl (by decide) _ _ _ rfl (HN7.out.alloc _) ⟨w7.heap.size, 0, none⟩ 1 1 (rtC x.r) rfl rfl (World.news_of_block NB.out) (rtC_one x.r) (by unfold maxLen; omega) (by omega) (by simp; have := BR7.out.size; omega) ?_; intro v8 w8 ho8 hg8 _; have HO8 := Lib.hid ho8; have HG8 := Lib.hid hg8; clear ho8 hg8))
              go_meet
              have hsz := BR7.out.size
              refine ⟨g7, vf7, now ++ [x.r], Lib.hid ?_, Lib.hid ?_, Lib.hid ((BR7.out.alloc hsz _).grown HG8.out (by simp; omega) (by intro q hq; have := HN7.out.lt q hq; omega)), by rw [List.length_append, List.length_singleton]; omega⟩
              · rw [show 1 + 32 * (i + 1) = 1 + 32 * i + 32 by omega, ← HAN.out]
                exact (HT7.out.below (bel_alloc (Below.refl _ _) (.cells (rtA x.r) 32))).grown (HN7.out.alloc _) HG8.out (by decide) (by decide) (by decide)
              · unfold NowR
                rw [rtsL_snoc, List.length_append, List.length_singleton]
                exact HO8.out
            · have HAN := Lib.hid (show addN now x.r = now by rw [addN, if_neg hE])
              have hE2 : (errR now x.r == 0) = false := beq_eq_false_iff_ne.2 hE
              have HAS := Lib.hid (fun w ht => addS w w1.heap.size B g vf (1 + 32 * i) now ht x.r HXA.out.1 (by omega))
              rw [HAN.out] at HAS
              generalize errR now x.r = E at *
              have hEE : (E != E) = false := by simp
              clear hE
              go_wp2_with (first
                | (go_at_call 15; refine Calls.mono HA15.out ?_; clear HA15; rintro e w6 ⟨rfl, hb⟩; have HX6 := Lib.hid (HX5.out.below hb); have HT6 := Lib.hid (HT5.out.below hb); have HN6 := Lib.hid (HN5.out.below hb); have BR6 := Lib.hid (below_then BR5.out BR5.out.size hb); have c1 := HX6.out.c1; have c2 := HX6.out.c2; have c3 := HX6.out.c3; clear hb)
                | (go_at_call 9; refine Calls.mono (HAS.out w6 HT6.out) ?_; rintro e w7 ⟨rfl, g7, vf7, ht7, hc7⟩; have HN7 := Lib.hid (HN6.out.chg HT6.out hc7); have BR7 := Lib.hid (BR6.out.trans (HT6.out.low hc7)); have HT7 := Lib.hid ht7; clear ht7 hc7))
              go_meet
              exact ⟨g7, vf7, now, Lib.hid (HT7.out.more (by omega)), HN7, BR7, by omega⟩
        · have k0 : (x.k == 0) = false := beq_eq_false_iff_ne.2 hk0
          by_cases hk1 : x.k = 1
          · as_aux_lemma =>
              have k1 : (x.k == 1) = true := by simp [hk1]
              have c1 := HX5.out.c1
              have c2 := HX5.out.c2
              obtain ⟨_, hra, _⟩ := HN5.out.rts
              have HG16 := Lib.hid (get16 now va vc x.r.ad x.r.bt w5 hra (by omega))
              have HR17 := Lib.hid (right17 x.r.ad HXA.out.1 x.r.bt)
              have HDS := Lib.hid (fun w ht => dropS w w1.heap.size B g vf (1 + 32 * i) now ht x.r.ad x.r.bt HXA.out.1 (by omega) (by omega))
              clear hra
              cases hr : rightB x.r.ad x.r.bt with
              | false =>
                rw [hr] at HR17
                rw [show errD now x.r.ad x.r.bt = 1 by simp [errD, hr], show dropN now x.r.ad x.r.bt = now by simp [dropN, hr]] at HDS
                generalize idxI now x.r.ad x.r.bt = I at *
                clear hr
                go_wp2_with (first
                  | (go_at_call 16; refine Calls.mono HG16.out ?_; clear HG16; rintro e w6 ⟨rfl, hb⟩; have HX6 := Lib.hid (HX5.out.below hb); have HT6 := Lib.hid (HT5.out.below hb); have HN6 := Lib.hid (HN5.out.below hb); have BR6 := Lib.hid (below_then BR5.out BR5.out.size hb); have c1 := HX6.out.c1; have c2 := HX6.out.c2; clear hb)
                  | (go_at_call 17; refine Calls.mono (HR17.out w6) ?_; clear HR17; rintro e w7 ⟨rfl, hb⟩; have HX7 := Lib.hid (HX6.out.below hb); have HT7 := Lib.hid (HT6.out.below hb); have HN7 := Lib.hid (HN6.out.below hb); have BR7 := Lib.hid (below_then BR6.out BR6.out.size hb); have c1 := HX7.out.c1; have c2 := HX7.out.c2; clear hb)
                  | (go_at_call 12; refine Calls.mono (HDS.out w7 HT7.out) ?_; rintro e w8 ⟨rfl, g8, vf8, ht8, hc8⟩; have HN8 := Lib.hid (HN7.out.chg HT7.out hc8); have BR8 := Lib.hid (BR7.out.trans (HT7.out.low hc8)); have HT8 := Lib.hid ht8; clear ht8 hc8))
                go_meet
                exact ⟨g8, vf8, now, Lib.hid (HT8.out.more (by omega)), HN8, BR8, by omega⟩
              | true =>
                rw [hr] at HR17
                cases hx : idxR now x.r.ad x.r.bt with
                | none =>
                  rw [show errD now x.r.ad x.r.bt = 6 by simp [errD, hr, hx], show dropN now x.r.ad x.r.bt = now by simp [dropN, hr, hx]] at HDS
                  rw [show idxI now x.r.ad x.r.bt = -1 by simp [idxI, hx]] at HG16
                  clear hr hx
                  go_wp2_with (first
                    | (go_at_call 16; refine Calls.mono HG16.out ?_; clear HG16; rintro e w6 ⟨rfl, hb⟩; have HX6 := Lib.hid (HX5.out.below hb); have HT6 := Lib.hid (HT5.out.below hb); have HN6 := Lib.hid (HN5.out.below hb); have BR6 := Lib.hid (below_then BR5.out BR5.out.size hb); have c1 := HX6.out.c1; have c2 := HX6.out.c2; clear hb)
                    | (go_at_call 17; refine Calls.mono (HR17.out w6) ?_; clear HR17; rintro e w7 ⟨rfl, hb⟩; have HX7 := Lib.hid (HX6.out.below hb); have HT7 := Lib.hid (HT6.out.below hb); have HN7 := Lib.hid (HN6.out.below hb); have BR7 := Lib.hid (below_then BR6.out BR6.out.size hb); have c1 := HX7.out.c1; have c2 := HX7.out.c2; clear hb)
                    | (go_at_call 12; refine Calls.mono (HDS.out w7 HT7.out) ?_; rintro e w8 ⟨rfl, g8, vf8, ht8, hc8⟩; have HN8 := Lib.hid (HN7.out.chg HT7.out hc8); have BR8 := Lib.hid (BR7.out.trans (HT7.out.low hc8)); have HT8 := Lib.hid ht8; clear ht8 hc8))
                  go_meet
                  exact ⟨g8, vf8, now, Lib.hid (HT8.out.more (by omega)), HN8, BR8, by omega⟩
                | some k =>
                  obtain ⟨y, hy, _, _⟩ := idxR_some hx
                  have hkl := (List.getElem?_eq_some_iff.1 hy).1
                  rw [show errD now x.r.ad x.r.bt = 0 by simp [errD, hr, hx], show dropN now x.r.ad x.r.bt = now.eraseIdx k by simp [dropN, hr, hx]] at HDS
                  rw [show idxI now x.r.ad x.r.bt = (k : Int) by simp [idxI, hx]] at HG16
                  have e1 : decide ((k : Int) < 0) = false := decide_eq_false (by omega)
                  have HKL := Lib.hid hkl
                  clear hr hx hy hkl
                  go_wp2_with (first
                    | (go_at_call 16; refine Calls.mono HG16.out ?_; clear HG16; rintro e w6 ⟨rfl, hb⟩; have HX6 := Lib.hid (HX5.out.below hb); have HT6 := Lib.hid (HT5.out.below hb); have HN6 := Lib.hid (HN5.out.below hb); have BR6 := Lib.hid (below_then BR5.out BR5.out.size hb); have c1 := HX6.out.c1; have c2 := HX6.out.c2; clear hb)
                    | (go_at_call 17; refine Calls.mono (HR17.out w6) ?_; clear HR17; rintro e w7 ⟨rfl, hb⟩; have HX7 := Lib.hid (HX6.out.below hb); have HT7 := Lib.hid (HT6.out.below hb); have HN7 := Lib.hid (HN6.out.below hb); have BR7 := Lib.hid (below_then BR6.out BR6.out.size hb); have c1 := HX7.out.c1; have c2 := HX7.out.c2; clear hb)
                    | (go_at_call 12; refine Calls.mono (HDS.out w7 HT7.out) ?_; rintro e w8 ⟨rfl, g8, vf8, ht8, hc8⟩; have HN8 := Lib.hid (HN7.out.chg HT7.out hc8); have BR8 := Lib.hid (BR7.out.trans (HT7.out.low hc8)); have HT8 := Lib.hid ht8; clear ht8 hc8)
                    | (go_at_call 18; refine Calls.mono (without18 now va vc k w8 HN8.out.rts.2.1 (by omega) HKL.out (HN8.out.rts.2.2 (by have := HKL.out; omega))) ?_; rintro e w9 ⟨v9, rfl, ho, hb⟩; have HN9 := Lib.hid (own_lower ho BR8.out.size); have HT9 := Lib.hid (HT8.out.below hb); have BR9 := Lib.hid (below_then BR8.out BR8.out.size hb); clear ho hb))
                  go_meet
                  exact ⟨g8, vf8, now.eraseIdx k, Lib.hid (HT9.out.more (by omega)), HN9, BR9, by have := (List.eraseIdx_sublist now k).length_le; omega⟩
          · have k1 : (x.k == 1) = false := beq_eq_false_iff_ne.2 hk1
            by_cases hk2 : x.k = 2
            · as_aux_lemma =>
                have k2 : (x.k == 2) = true := by simp [hk2]
                have c4 := HX5.out.c4
                have HOK := Lib.hid HT5.out.ok
                have HUQ := Lib.hid HT5.out.uq
                have hgd := gd32
                cases hf : fnI now x.ad now.length with
                | none =>
                  have HFI := Lib.hid hf
                  have heq : ∀ w, (Op.equalIn 10000 32 (.agg #[.int .u32 0, .int .i64 0, .int .i64 0]) (.agg #[.int .u32 0, .int .i64 0, .int .i64 0])).run Try.prog w = .ok true w := fun w => eq32_same rt0 w
                  have e1 : optI none = -1 := rfl
                  clear hf
                  go_wp2_with (first
                    | (go_at_call 10; refine Calls.mono (findS3 HT5.out x.ad HXA.out.2) ?_; rintro e w6 ⟨of, rfl, hf6, hb⟩; have hoo := find_none HOK.out HUQ.out HFI.out hf6; subst hoo; have HX6 := Lib.hid ((HX5.out.below hb).below (bel_alloc (Below.refl _ _) (.cells (rtA rt0) 32))); have HT6 := Lib.hid ((HT5.out.below hb).below (bel_alloc (Below.refl _ _) (.cells (rtA rt0) 32))); have HN6 := Lib.hid ((HN5.out.below hb).below (bel_alloc (Below.refl _ _) (.cells (rtA rt0) 32))); have BR6 := Lib.hid (bel_alloc (below_then BR5.out BR5.out.size hb) (.cells (rtA rt0) 32)); have N6 := Lib.hid (heap_alloc_new w6 (.cells rz 32)); have KX6 := Lib.hid (heap_alloc_new w6 (.cells (rtA rt0) 32)); clear hf6 hb)
                    | (refine wpList_store_row rfl 32 (.tmp 10) (.tmp 91) rfl w6.heap.size (rtA rt0) rfl rfl 32 rz N6.out (info32 _ _ _) rfl (one32 _) ?_; rw [World.setRow_alloc_new]; clear N6; generalize w6.alloc (.cells (rtA rt0) 32) = w7 at *; have c4 := HX6.out.c4; have HF19 := Lib.hid (find19 now va vc x.ad w7 HN6.out.rts.2.1 (by omega) HXA.out.2 (fun r hr => (HOK.out r hr).1)); rw [HFI.out] at HF19)
                    | (go_at_call 19; refine Calls.mono HF19.out ?_; clear HF19; rintro e w8 ⟨rfl, hb⟩; have HT8 := Lib.hid (HT6.out.below hb); have HN8 := Lib.hid (HN6.out.below hb); have BR8 := Lib.hid (below_then BR6.out BR6.out.size hb); have KX8 := Lib.hid (blk_below KX6.out hb); have p0 : w8.cell? ⟨w6.heap.size, 0, none⟩ = some (.int .u32 0) := rt_c0 KX8.out; have p1 : w8.cell? ⟨w6.heap.size, 1, none⟩ = some (.int .i64 0) := rt_c1 KX8.out; have p2 : w8.cell? ⟨w6.heap.size, 2, none⟩ = some (.int .i64 0) := rt_c2 KX8.out; clear hb))

                  go_quiet (fail)
                  go_wp2_with fail
                  go_meet
                  exact ⟨g, vf, now, Lib.hid ((HT8.out.below (bel_drewN (Below.refl _ _) nq)).more (by omega)), Lib.hid (HN8.out.below (bel_drewN (Below.refl _ _) nq)), Lib.hid (bel_drewN BR8.out nq), by omega⟩

                | some k =>
                  have HFI := Lib.hid hf
                  have hkl := (fnI_lt now x.ad _ k hf).2
                  have hy : now[k]? = some now[k] := List.getElem?_eq_getElem hkl
                  obtain ⟨bb, oo, rfl, hc⟩ := HN5.out.rts.2.1.at hy
                  have HY := Lib.hid hy
                  generalize now[k] = y at *
                  have y0 := rg0 hc
                  have y1 := rg1 hc
                  have y2 := rg2 hc
                  have heq := eq32_same y
                  have e1 : optI (some k) = (k : Int) := rfl
                  have e2 : decide ((k : Int) ≥ 0) = true := decide_eq_true (by omega)
                  have e3 : (0 : Int) ≤ (k : Int) := by omega
                  have e4 : (k : Int) < (now.length : Int) := by omega
                  clear hf hy hc hkl
                  go_wp2_with (first
                    | (go_at_call 10; refine Calls.mono (findS3 HT5.out x.ad HXA.out.2) ?_; rintro e w6 ⟨of, rfl, hf6, hb⟩; have hoo := find_some HOK.out HUQ.out HFI.out HY.out hf6; subst hoo; have HX6 := Lib.hid ((HX5.out.below hb).below (bel_alloc (Below.refl _ _) (.cells (rtA y) 32))); have HT6 := Lib.hid ((HT5.out.below hb).below (bel_alloc (Below.refl _ _) (.cells (rtA y) 32))); have HN6 := Lib.hid ((HN5.out.below hb).below (bel_alloc (Below.refl _ _) (.cells (rtA y) 32))); have BR6 := Lib.hid (bel_alloc (below_then BR5.out BR5.out.size hb) (.cells (rtA y) 32)); have N6 := Lib.hid (heap_alloc_new w6 (.cells rz 32)); have KX6 := Lib.hid (heap_alloc_new w6 (.cells (rtA y) 32)); have HB6 := Lib.hid (bel_alloc hb (.cells (rtA y) 32)); clear hf6 hb)
                    | (refine wpList_store_row rfl 32 (.tmp 10) (.tmp 91) rfl w6.heap.size (rtA y) rfl rfl 32 rz N6.out (info32 _ _ _) rfl (one32 _) ?_; rw [World.setRow_alloc_new]; clear N6; generalize w6.alloc (.cells (rtA y) 32) = w7 at *; have c4 := HX6.out.c4; have HF19 := Lib.hid (find19 now (some ⟨bb, oo, none⟩) vc x.ad w7 HN6.out.rts.2.1 (by omega) HXA.out.2 (fun r hr => (HOK.out r hr).1)); rw [HFI.out] at HF19)
                    | (go_at_call 19; refine Calls.mono HF19.out ?_; clear HF19; rintro e w8 ⟨rfl, hb⟩; have HT8 := Lib.hid (HT6.out.below hb); have HN8 := Lib.hid (HN6.out.below hb); have BR8 := Lib.hid (below_then BR6.out BR6.out.size hb); have KX8 := Lib.hid (blk_below KX6.out hb); have p0 := rt_c0 KX8.out; have p1 := rt_c1 KX8.out; have p2 := rt_c2 KX8.out; have y0 := cell_below (cell_below y0 HB6.out) hb; have y1 := cell_below (cell_below y1 HB6.out) hb; have y2 := cell_below (cell_below y2 HB6.out) hb; clear hb))

                  go_quiet (fail)
                  go_wp2_with fail
                  go_meet
                  exact ⟨g, vf, now, Lib.hid ((HT8.out.below (bel_drewN (Below.refl _ _) nq)).more (by omega)), Lib.hid (HN8.out.below (bel_drewN (Below.refl _ _) nq)), Lib.hid (bel_drewN BR8.out nq), by omega⟩
            · have k2 : (x.k == 2) = false := beq_eq_false_iff_ne.2 hk2
              by_cases hk3 : x.k = 3
              · as_aux_lemma =>
                  have k3 : (x.k == 3) = true := by simp [hk3]
                  have c1 := HX5.out.c1
                  have c2 := HX5.out.c2
                  have HOK := Lib.hid HT5.out.ok
                  have hgd := gd32
                  cases hf : idxR now x.r.ad x.r.bt with
                  | none =>
                    have HII := Lib.hid (show idxI now x.r.ad x.r.bt = -1 by simp [idxI, hf])
                    have HG20 := Lib.hid (show Calls Try.prog 20 #[.pointer (some ⟨B, 0, none⟩), .agg #[.int .u32 x.r.ad, .int .i64 x.r.bt]] w5 fun e w' => e = .returned (.tuple #[.agg (rtA rt0), .bool false]) ∧ Below w5.heap.size w5 w' by
                      have := getS HT5.out x.r.ad x.r.bt HXA.out.1
                      rw [getR_none hf] at this
                      exact this)
                    clear hf
                    go_wp2_with (first
                      | (go_at_call 20; refine Calls.mono HG20.out ?_; clear HG20; rintro e w6 ⟨rfl, hb⟩; have HX6 := Lib.hid ((HX5.out.below hb).below (bel_alloc (Below.refl _ _) (.cells (rtA rt0) 32))); have HT6 := Lib.hid ((HT5.out.below hb).below (bel_alloc (Below.refl _ _) (.cells (rtA rt0) 32))); have HN6 := Lib.hid ((HN5.out.below hb).below (bel_alloc (Below.refl _ _) (.cells (rtA rt0) 32))); have BR6 := Lib.hid (bel_alloc (below_then BR5.out BR5.out.size hb) (.cells (rtA rt0) 32)); have N6 := Lib.hid (heap_alloc_new w6 (.cells rz 32)); have KX6 := Lib.hid (heap_alloc_new w6 (.cells (rtA rt0) 32)); clear hb)
                      | (refine wpList_store_row rfl 32 (.tmp 13) (.tmp 129) rfl w6.heap.size (rtA rt0) rfl rfl 32 rz N6.out (info32 _ _ _) rfl (one32 _) ?_; rw [World.setRow_alloc_new]; clear N6; generalize w6.alloc (.cells (rtA rt0) 32) = w7 at *; have c1 := HX6.out.c1; have c2 := HX6.out.c2; have HG16 := Lib.hid (get16 now va vc x.r.ad x.r.bt w7 HN6.out.rts.2.1 (by omega)); rw [HII.out] at HG16)
                      | (go_at_call 16; refine Calls.mono HG16.out ?_; clear HG16; rintro e w8 ⟨rfl, hb⟩; have HT8 := Lib.hid (HT6.out.below hb); have HN8 := Lib.hid (HN6.out.below hb); have BR8 := Lib.hid (below_then BR6.out BR6.out.size hb); have KX8 := Lib.hid (blk_below KX6.out hb); clear hb))

                    go_quiet (fail)
                    go_wp2_with fail
                    go_meet
                    exact ⟨g, vf, now, Lib.hid ((HT8.out.below (bel_drewN (Below.refl _ _) nq)).more (by omega)), Lib.hid (HN8.out.below (bel_drewN (Below.refl _ _) nq)), Lib.hid (bel_drewN BR8.out nq), by omega⟩

                  | some k =>
                    have HII := Lib.hid (show idxI now x.r.ad x.r.bt = (k : Int) by simp [idxI, hf])
                    obtain ⟨y, hy, hgy⟩ := getR_some HOK.out hf
                    have hkl := (List.getElem?_eq_some_iff.1 hy).1
                    obtain ⟨bb, oo, rfl, hc⟩ := HN5.out.rts.2.1.at hy
                    have HG20 := Lib.hid (show Calls Try.prog 20 #[.pointer (some ⟨B, 0, none⟩), .agg #[.int .u32 x.r.ad, .int .i64 x.r.bt]] w5 fun e w' => e = .returned (.tuple #[.agg (rtA y), .bool true]) ∧ Below w5.heap.size w5 w' by
                      have := getS HT5.out x.r.ad x.r.bt HXA.out.1
                      rw [hgy] at this
                      exact this)
                    have y0 := rg0 hc
                    have y1 := rg1 hc
                    have y2 := rg2 hc
                    have heq := eq32_same y
                    have e2 : decide ((k : Int) ≥ 0) = true := decide_eq_true (by omega)
                    have e3 : (0 : Int) ≤ (k : Int) := by omega
                    have e4 : (k : Int) < (now.length : Int) := by omega
                    clear hf hy hgy hc hkl
                    go_wp2_with (first
                      | (go_at_call 20; refine Calls.mono HG20.out ?_; clear HG20; rintro e w6 ⟨rfl, hb⟩; have HX6 := Lib.hid ((HX5.out.below hb).below (bel_alloc (Below.refl _ _) (.cells (rtA y) 32))); have HT6 := Lib.hid ((HT5.out.below hb).below (bel_alloc (Below.refl _ _) (.cells (rtA y) 32))); have HN6 := Lib.hid ((HN5.out.below hb).below (bel_alloc (Below.refl _ _) (.cells (rtA y) 32))); have BR6 := Lib.hid (bel_alloc (below_then BR5.out BR5.out.size hb) (.cells (rtA y) 32)); have N6 := Lib.hid (heap_alloc_new w6 (.cells rz 32)); have KX6 := Lib.hid (heap_alloc_new w6 (.cells (rtA y) 32)); have HB6 := Lib.hid (bel_alloc hb (.cells (rtA y) 32)); clear hb)
                      | (refine wpList_store_row rfl 32 (.tmp 13) (.tmp 129) rfl w6.heap.size (rtA y) rfl rfl 32 rz N6.out (info32 _ _ _) rfl (one32 _) ?_; rw [World.setRow_alloc_new]; clear N6; generalize w6.alloc (.cells (rtA y) 32) = w7 at *; have c1 := HX6.out.c1; have c2 := HX6.out.c2; have HG16 := Lib.hid (get16 now (some ⟨bb, oo, none⟩) vc x.r.ad x.r.bt w7 HN6.out.rts.2.1 (by omega)); rw [HII.out] at HG16)
                      | (go_at_call 16; refine Calls.mono HG16.out ?_; clear HG16; rintro e w8 ⟨rfl, hb⟩; have HT8 := Lib.hid (HT6.out.below hb); have HN8 := Lib.hid (HN6.out.below hb); have BR8 := Lib.hid (below_then BR6.out BR6.out.size hb); have KX8 := Lib.hid (blk_below KX6.out hb); have p0 := rt_c0 KX8.out; have p1 := rt_c1 KX8.out; have p2 := rt_c2 KX8.out; have y0 := cell_below (cell_below y0 HB6.out) hb; have y1 := cell_below (cell_below y1 HB6.out) hb; have y2 := cell_below (cell_below y2 HB6.out) hb; clear hb))

                    go_quiet (fail)
                    go_wp2_with fail
                    go_meet
                    exact ⟨g, vf, now, Lib.hid ((HT8.out.below (bel_drewN (Below.refl _ _) nq)).more (by omega)), Lib.hid (HN8.out.below (bel_drewN (Below.refl _ _) nq)), Lib.hid (bel_drewN BR8.out nq), by omega⟩
              · as_aux_lemma =>
                  have k3 : (x.k == 3) = false := beq_eq_false_iff_ne.2 hk3
                  go_wp2_with fail
                  go_meet
                  exact ⟨g, vf, now, Lib.hid (HT5.out.more (by omega)), HN5, BR5, by omega⟩
      case rest =>
        as_aux_lemma =>
          obtain ⟨g9, vf9, now9, HT9, HN9, BR9, hn9⟩ := hcut
          obtain ⟨va9, vc9, hv9⟩ := own_form HN9.out
          subst hv9
          have hnn : ((now9.length : Int) != (now9.length : Int)) = false := by simp
          have HND := Lib.hid (nodesS HT9.out (by omega))
          have HRN := Lib.hid (fun w hA => nodes21 now9 va9 vc9 w hA (by omega) HT9.out.ok)
          generalize ndsN now9 = q at *
          have hqq : ((q : Int) != (q : Int)) = false := by simp
          go_wp2_with (first
            | (go_at_call 13; refine Calls.mono (lenS HT9.out) ?_; rintro e w10 ⟨rfl, rfl⟩)
            | (go_at_call 14; refine Calls.mono HND.out ?_; rintro e w11 ⟨rfl, hb⟩; have HT11 := Lib.hid (HT9.out.below hb); have HN11 := Lib.hid (HN9.out.below hb); have BR11 := Lib.hid (below_then BR9.out BR9.out.size hb); clear hb)
            | (go_at_call 21; refine Calls.mono (HRN.out w11 HN11.out.rts.2.1) ?_; rintro e w12 ⟨rfl, hb⟩; have HT12 := Lib.hid (HT11.out.below hb); have HN12 := Lib.hid (HN11.out.below hb); have BR12 := Lib.hid (below_then BR11.out BR11.out.size hb); clear hb))
          go_roundg (81 - (i + 1))
          case measure => omega
          case rel => exact ⟨i + 1, g9, vf9, now9, hlt, Nat.le_refl _, hn9, by go_num, HT12, HN12, BR12⟩
    · as_aux_lemma =>
        have d1 : decide ((i : Int) < (l.length : Int)) = false := decide_eq_false (by omega)
        have HAL := Lib.hid (allS HT.out (by omega))
        have HNOW := Lib.hid HT.out.ok
        go_wp2_with (first
          | (go_at_call 22; refine Calls.mono HAL.out ?_; rintro e w3 ⟨va3, ls, rfl, ho, hb, hl3, hm3, hs3⟩; obtain ⟨a3, c3, hv3⟩ := own_form ho; subst hv3; have HLS := Lib.hid (show NowR w3 wr.heap.size (.slice a3 ls.length c3) ls from ho); have HN3 := Lib.hid (HNW.out.below hb); have BR3 := Lib.hid (below_then BR.out BR.out.size hb); have hnn : ((ls.length : Int) != (now.length : Int)) = false := (by rw [hl3]; simp); have HM3 := Lib.hid hm3; have HS3 := Lib.hid hs3; clear ho hb hm3 hs3))
        have hl256 : ls.length ≤ 256 := by omega
        clear hnn HNOW HAL
        go_loopg [17] 257 (fun gg s17 wq => ∃ m : Nat, m ≤ ls.length ∧ 257 - m ≤ gg ∧ s17 = .int .i64 m ∧ Hid (Below w3.heap.size w3 wq))
        case atStart => exact ⟨0, Nat.zero_le _, Nat.sub_le _ _, rfl, Lib.hid (Below.refl _ _)⟩
        case round =>
          obtain ⟨m, hm, hgm, rfl, BQ⟩ := hrel
          by_cases hml : m < ls.length
          · have e1 : decide ((m : Int) < (ls.length : Int)) = true := decide_eq_true (by omega)
            have e2 : (0 : Int) ≤ (m : Int) := by omega
            have e3 : (m : Int) < (ls.length : Int) := by omega
            have hz : ls[m]? = some ls[m] := List.getElem?_eq_getElem hml
            obtain ⟨bb, oo, rfl, hbl, hcc⟩ := (HLS.out.below BQ.out).rts.2.1 (by omega)
            have hcz := hcc m _ hz
            have HZ := Lib.hid hz
            have hzn := (HM3.out ls[m]).1 (List.getElem_mem hml)
            have hidx : ∃ k : Nat, idxI now (ls[m]).ad (ls[m]).bt = (k : Int) := by
              cases hi : idxR now (ls[m]).ad (ls[m]).bt with
              | none => exact absurd ⟨ls[m], hzn, rfl, rfl⟩ (idxR_none hi)
              | some k => exact ⟨k, by simp [idxI, hi]⟩
            obtain ⟨k, hk⟩ := hidx
            generalize ls[m] = z at *
            have HGB := Lib.hid (show ∀ u : BW wr, Calls Try.prog 16 #[.slice va now.length vc, .agg #[.int .u32 z.ad, .int .i64 z.bt]] u.w fun e w' => e = .returned (.int .i64 k) ∧ ∃ u' : BW wr, w' = u'.w from fun u => by
              have h := get16 now va vc z.ad z.bt u.w (((HN3.out.below BQ.out).below u.b).rts.2.1) (by omega)
              rw [hk] at h
              exact h.mono fun _ w' hh => ⟨hh.1, ⟨w', bel_trans u.b hh.2⟩, rfl⟩)
            have e4 : decide ((k : Int) < 0) = false := decide_eq_false (by omega)
            have z0 := bw_cell (rg0 hcz)
            have z1 := bw_cell (rg1 hcz)
            clear hz hzn hk hcz
            rcases Nat.eq_zero_or_pos m with hm0 | hm0
            · have n1 : decide ((m : Int) > 0) = false := decide_eq_false (by omega)
              have n2 : decide (0 < m) = false := decide_eq_false (by omega)
              have n3 : decide ((0 : Int) < (m : Int)) = false := decide_eq_false (by omega)
              clear hm0
              go_wp2_with fail
              refine region_bw (by kernel_rfl) (by kernel_rfl) ?_
              repeat (go_big_quiet_step ((go_at_call 16; exact HGB.out _)))
              refine wpQuiet_nil ?_
              rintro _ ⟨u, rfl⟩
              have hb' := Lib.hid (BW.b u)
              generalize u.w = w9 at hb' ⊢
              clear z0 z1
              go_wp2_with fail
              go_roundg (257 - (m + 1))
              case measure => omega
              case rel => exact ⟨m + 1, hml, Nat.le_refl _, by go_num, Lib.hid (bel_trans BQ.out hb'.out)⟩
            · obtain ⟨p, hp⟩ : ∃ p, m = p + 1 := ⟨m - 1, by omega⟩
              have hy : ls[p]? = some ls[p] := List.getElem?_eq_getElem (by omega)
              have hcy := hcc p _ hy
              have hlt2 : ltR ls[p] z := by
                have hz := HZ.out
                obtain ⟨a1, a2⟩ := List.getElem?_eq_some_iff.1 hz
                rw [← a2]
                exact List.pairwise_iff_getElem.1 HS3.out p m (by omega) hml (by omega)
              generalize ls[p] = y at *
              have y0 := bw_cell (rg0 hcy)
              have y1 := bw_cell (rg1 hcy)
              have e5 : decide ((m : Int) > 0) = true := decide_eq_true (by omega)
              have n2 : decide (0 < m) = true := decide_eq_true (by omega)
              have n3 : decide ((0 : Int) < (m : Int)) = true := decide_eq_true (by omega)
              have e6 : IntKind.i64.wrap ((m : Int) - 1) = (p : Int) := by rw [IntWalk.i64_in _ (by omega)]; omega
              have e7 : (0 : Int) ≤ (p : Int) := by omega
              have e8 : (p : Int) < (ls.length : Int) := by omega
              have HP := Lib.hid hp
              clear hy hcy hcc hp
              rcases hlt2 with h1 | ⟨h1, h2⟩
              · have f1 : decide ((y.ad : Int) > (z.ad : Int)) = false := decide_eq_false (by omega)
                have f2 : ((y.ad : Int) == (z.ad : Int)) = false := beq_eq_false_iff_ne.2 (by omega)
                have m1 : decide (z.ad < y.ad) = false := decide_eq_false (by omega)
                have m2 : decide ((z.ad : Int) < (y.ad : Int)) = false := decide_eq_false (by omega)
                have m3 : (y.ad == z.ad) = false := beq_eq_false_iff_ne.2 (by omega)
                have m4 : decide (y.ad = z.ad) = false := decide_eq_false (by omega)
                clear h1
                go_wp2_with fail
                refine region_bw (by kernel_rfl) (by kernel_rfl) ?_
                repeat (go_big_quiet_step ((go_at_call 16; exact HGB.out _)))
                refine wpQuiet_nil ?_
                rintro _ ⟨u, rfl⟩
                have hb' := Lib.hid (BW.b u)
                generalize u.w = w9 at hb' ⊢
                clear z0 z1 y0 y1
                go_wp2_with fail
                go_roundg (257 - (m + 1))
                case measure => omega
                case rel => exact ⟨m + 1, hml, Nat.le_refl _, by go_num, Lib.hid (bel_trans BQ.out hb'.out)⟩
              · have f1 : decide ((y.ad : Int) > (z.ad : Int)) = false := decide_eq_false (by omega)
                have f2 : ((y.ad : Int) == (z.ad : Int)) = true := beq_iff_eq.2 (by omega)
                have m1 : decide (z.ad < y.ad) = false := decide_eq_false (by omega)
                have m2 : decide ((z.ad : Int) < (y.ad : Int)) = false := decide_eq_false (by omega)
                have m3 : (y.ad == z.ad) = true := beq_iff_eq.2 (by omega)
                have m4 : decide (y.ad = z.ad) = true := decide_eq_true (by omega)
                have m5 : decide (z.bt ≤ y.bt) = false := decide_eq_false (by omega)
                have f3 : decide (y.bt ≥ z.bt) = false := decide_eq_false (by omega)
                clear h1 h2
                go_wp2_with fail
                refine region_bw (by kernel_rfl) (by kernel_rfl) ?_
                repeat (go_big_quiet_step ((go_at_call 16; exact HGB.out _)))
                refine wpQuiet_nil ?_
                rintro _ ⟨u, rfl⟩
                have hb' := Lib.hid (BW.b u)
                generalize u.w = w9 at hb' ⊢
                clear z0 z1 y0 y1
                go_wp2_with fail
                go_roundg (257 - (m + 1))
                case measure => omega
                case rel => exact ⟨m + 1, hml, Nat.le_refl _, by go_num, Lib.hid (bel_trans BQ.out hb'.out)⟩
          · have e1 : decide ((m : Int) < (ls.length : Int)) = false := decide_eq_false (by omega)
            go_wp2_with fail
            go_ret
            exact ⟨rfl, bel_trans HB1.out (below_then BR3.out BR3.out.size BQ.out)⟩
theorem plays5 (l : List Ac) (A : Option Addr) (c : Nat) (w : World) (hA : ActsA w A l) (hl : ∀ a ∈ l, a.r.ad < 2 ^ 32 ∧ a.ad < 2 ^ 32) :
    Calls Try.prog 5 #[.slice A l.length c] w fun e w' => e = .returned (.bool true) ∧ Below w.heap.size w w' := by
  by_cases h : l.length ≤ 80
  · exact plays5_ok l A c w hA hl h
  · exact plays5_long l A c w (by omega)
end Go.Proofs.Ytfpbcdlfcaglgaa.P
