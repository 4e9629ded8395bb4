/- TrieOrders walked (layer 14). -/
import Derived.Test.YtfpbcdlfcaglgaaNQ
namespace Go.Proofs.Ytfpbcdlfcaglgaa.P
open Go.RowKit

theorem u8r {n : Int} (h : (Lit.int .u8 n).wf = true) : 0 ≤ n ∧ n < 256 := by
  have : 0 ≤ n ∧ n ≤ 255 := by simpa [Lit.wf, IntKind.min, IntKind.max, IntKind.signed, IntKind.bits] using h
  omega
theorem orders4_long (l : List Rt) (A : Option Addr) (c : Nat) (a k : Nat) (w : World) (hlen : 60 < l.length) :
    Calls Try.prog 4 #[.slice A l.length c, .int .u32 a, .int .u8 k] w fun e w' => e = .returned (.bool true) ∧ Below w.heap.size w w' := by
  have hu22 := Try.underlying22
  have HK := Lib.hid awake7
  have d0 : decide (60 < (l.length : Int)) = true := decide_eq_true (by omega)
  go_enter Try.func4, Try.ntmps4
  go_wp2_with (go_at_call 7; refine Calls.mono (HK.out _) ?_; rintro e w1 ⟨rfl, hb⟩; have HB := Lib.hid hb; clear hb)
  go_ret
  exact ⟨rfl, HB.out⟩
theorem add_zero (w : World) (M B g : Nat) (vf : Value) (K : Nat) (now : List Rt) (h : TrS w M B g vf K now) (r : Rt) (ha : r.ad < 2 ^ 32) (hK : K ≤ 90000) (he : errR now r = 0) :
    Calls Try.prog 9 #[.pointer (some ⟨B, 0, none⟩), .agg (rtA r)] w fun e w' => e = .returned (.int .i64 0) ∧ ∃ g' vf', TrS w' M B g' vf' (K + 32) (addN now r) ∧ Chg B g vf w w' g' vf' :=
  (addS w M B g vf K now h r ha hK).mono fun e w' hh => ⟨by rw [hh.1, he], hh.2⟩
theorem TrS.more {w : World} {M B g K K' : Nat} {vf : Value} {now : List Rt} (h : TrS w M B g vf K now) (hK : K ≤ K') : TrS w M B g vf K' now := by
  obtain ⟨cap, l, fr, n, ht, hi, h1, h2⟩ := h
  exact ⟨cap, l, fr, n, ht, hi, by omega, by omega⟩
theorem rt_c0 {w : World} {b : Nat} {r : Rt} (h : w.heap[b]? = some (.cells (rtA r) 32 (0, 0))) : w.cell? ⟨b, 0, none⟩ = some (.int .u32 r.ad) := by rw [cell_of_row _ _ _ _ _ _ h]; rfl
theorem rt_c1 {w : World} {b : Nat} {r : Rt} (h : w.heap[b]? = some (.cells (rtA r) 32 (0, 0))) : w.cell? ⟨b, 1, none⟩ = some (.int .i64 r.bt) := by rw [cell_of_row _ _ _ _ _ _ h]; rfl
theorem rt_c2 {w : World} {b : Nat} {r : Rt} (h : w.heap[b]? = some (.cells (rtA r) 32 (0, 0))) : w.cell? ⟨b, 2, none⟩ = some (.int .i64 r.ou) := by rw [cell_of_row _ _ _ _ _ _ h]; rfl
theorem range_low {W W' : World} {M b o : Nat} {cs : List Value} (h : W.rangeAt b o cs) (hb : Below M W W') (hM : b < M) : W'.rangeAt b o cs := fun j v hv => (hb.cell (p := ⟨b, o + j, none⟩) hM).trans (h j v hv)
theorem findS3 {w : World} {M B g K : Nat} {vf : Value} {now : List Rt} (h : TrS w M B g vf K now) (ad : Nat) (ha : ad < 2 ^ 32) :
    Calls Try.prog 10 #[.pointer (some ⟨B, 0, none⟩), .int .u32 ad] w fun e w' => ∃ o : Option Rt, e = .returned (.tuple #[.agg (rtA (o.getD rt0)), .bool o.isSome]) ∧ FindR now ad o ∧ Below w.heap.size w w' := findS w M B g vf K now h ad ha
set_option maxHeartbeats 8000000 in
theorem orders4_ok (l : List Rt) (A : Option Addr) (c : Nat) (a k : Nat) (w : World) (hA : RtsA w A l) (hl : ∀ r ∈ l, r.ad < 2 ^ 32) (ha : a < 2 ^ 32) (hk : k < 256) (hlen : l.length ≤ 60) :
    Calls Try.prog 4 #[.slice A l.length c, .int .u32 a, .int .u8 k] w fun e w' => e = .returned (.bool true) ∧ Below w.heap.size w w' := by
  have hu22 := Try.underlying22
  have hu30 := Try.underlying30
  have hu32 := Try.underlying32
  have HK := Lib.hid awake7
  have HA := Lib.hid hA
  have HL := Lib.hid hl
  have HAD := Lib.hid ha
  have HKK := Lib.hid hk
  obtain ⟨i0, hi0, hz0, hz1, hz2⟩ := info_parts info32b
  have HI0 := Lib.hid hi0
  have HZ0 := Lib.hid hz0
  have HZ1 := Lib.hid hz1
  have HZ2 := Lib.hid hz2
  have d0 : decide (60 < (l.length : Int)) = false := decide_eq_false (by omega)
  clear hA hl ha hk hi0 hz0 hz1 hz2
  go_enter Try.func4, Try.ntmps4
  go_wp2_with (first
    | (go_at_call 7; refine Calls.mono (HK.out _) ?_; rintro e w1 ⟨rfl, hb⟩; have HB1 := Lib.hid hb; clear hb)
    | (go_at_call 8; refine Calls.mono (newS w1) ?_; rintro e w2 ⟨B1, g1, rfl, ht, hb, hB1, hg1⟩; have HT2 := Lib.hid ht; have HB2 := Lib.hid hb; clear ht hb)
    | (go_at_call 8; refine Calls.mono (newS w2) ?_; rintro e w3 ⟨B2, g2, rfl, ht, hb, hB2, hg2⟩; have HT3 := Lib.hid (HT2.out.below hb); have HU3 := Lib.hid (ht.lower HB2.out.size); have HB3 := Lib.hid (bel_trans HB2.out hb); have HS3 := Lib.hid (show Sep B1 g1 (.slice none 0 0) B2 g2 (.slice none 0 0) from ⟨by have := HT2.out.lt; omega, by have := HT2.out.lt; omega, fun k h => by cases h⟩); clear ht hb HT2 HB2))
  have HA1 := Lib.hid (HA.out.low HB1.out (Nat.le_refl _))
  go_loopg [9, 10] 61 (fun gg s9 s10 wr => ∃ (i g : Nat) (vf : Value), i ≤ l.length ∧ 61 - i ≤ gg ∧ s10 = .int .i64 i ∧ Hid (TrS wr w1.heap.size B1 g vf (1 + 32 * i) (addAll (l.take i))) ∧ Hid (TrS wr w1.heap.size B2 g2 (.slice none 0 0) 1 []) ∧ Hid (Sep B1 g vf B2 g2 (.slice none 0 0)) ∧ Hid (wr.ownsRow w1.heap.size 32 3 s9 (addAll (l.take i)).length (rtsL (addAll (l.take i)))) ∧ Hid (Below w1.heap.size w1 wr))
  case atStart => exact ⟨0, g1, _, Nat.zero_le _, Nat.sub_le _ _, rfl, HT3, HU3, HS3, Lib.hid (World.ownsRow_nil _ _ _ _), HB3⟩
  case round =>
    obtain ⟨i, g, vf, hi, hgg, rfl, HT, HU, HS, HO, BR⟩ := hrel
    clear HT3 HU3 HB3 HS3
    by_cases hlt : i < l.length
    · have d1 : decide ((i : Int) < (l.length : Int)) = true := decide_eq_true (by omega)
      have d2 : (0 : Int) ≤ (i : Int) := by omega
      have d3 : (i : Int) < (l.length : Int) := by omega
      have hx : l[i]? = some l[i] := List.getElem?_eq_getElem hlt
      obtain ⟨b, o, rfl, hb, hc⟩ := HA1.out (by omega)
      have HR := Lib.hid (range_low (hc i _ hx) BR.out hb)
      have HSN := Lib.hid (addAll_snoc l i _ hx)
      have HXA := Lib.hid (HL.out _ (List.getElem_mem hlt))
      have HAS := Lib.hid (addS wr w1.heap.size B1 g vf (1 + 32 * i) _ HT.out l[i] HXA.out (by omega))
      have hle := Nat.le_trans (addAll_len (l.take i)) (by rw [List.length_take]; exact Nat.min_le_left _ _)
      generalize l[i] = x at *
      generalize addAll (l.take i) = now at *
      clear hx hc
      by_cases hE : errR now x = 0
      · rw [hE] at HAS
        have HAN := Lib.hid (show addN now x = now ++ [x] by rw [addN, if_pos hE])
        clear hE
        go_wp2_with (first
          | (refine load_mid_g 32 (.tmp 36) rfl b (o + i * 3) rfl (rtC x) _ HR.out hu32 rfl (info32l _ _ _) rfl ?_)
          | (refine load_mid_g 32 (.tmp 43) rfl b (o + i * 3) rfl (rtC x) _ HR4.out hu32 rfl (info32l _ _ _) rfl ?_)
          | (refine build1 rfl 22 32 (.tmp 44) rfl (rtA x) rfl (.agg rz) hu22 (info32c x) (show 0 < 3 by decide) (show 3 ≤ 1000 by decide) ?_; have NB := Lib.hid (heap_alloc_new w4 (.cells (rtA x) 32)))
          | (at_builtin; refine wpList_append_own _ rfl (.tmp 40) (.tmp 45) 22 rfl w1.heap.size 32 i0 (.agg rz) 3 24 hu22 HI0.out HZ0.out HZ1.out HZ2.out rfl (by decide) _ _ _ rfl (HO4.out.alloc _) ⟨w4.heap.size, 0, none⟩ 1 1 (rtC x) rfl rfl (World.news_of_block NB.out) (rtC_one x) (by unfold maxLen; omega) (by omega) (by simp; have := BR4.out.size; omega) ?_; intro v5 w5 ho5 hg5 _; have HO5 := Lib.hid ho5; have HG5 := Lib.hid hg5; clear ho5 hg5)
          | (go_at_call 9; refine Calls.mono HAS.out ?_; rintro e w4 ⟨rfl, g4, vf4, ht4, hc4⟩; have HT4 := Lib.hid ht4; have HU4 := Lib.hid (HU.out.keep HT.out HS.out.symm hc4); have HS4 := Lib.hid (HS.out.chg hc4 HU.out); have HO4 := Lib.hid (own_chg HO.out HT.out hc4 (by decide) (by decide) (by decide)); have hlow := HT.out.low hc4; have HR4 := Lib.hid (range_low HR.out hlow hb); have BR4 := Lib.hid (BR.out.trans hlow); clear ht4 hc4 hlow))
        go_roundg (61 - (i + 1))
        case measure => omega
        case rel =>
          have hsz := BR4.out.size
          refine ⟨i + 1, g4, vf4, hlt, Nat.le_refl _, by go_num, Lib.hid ?_, Lib.hid ((HU4.out.below (bel_alloc (Below.refl _ _) (.cells (rtA x) 32))).grown (HO4.out.alloc _) HG5.out (by decide) (by decide) (by decide)), HS4, Lib.hid ?_, Lib.hid ((BR4.out.alloc hsz _).grown HG5.out (by simp; omega) (by intro q hq; have := HO4.out.lt q hq; omega))⟩
          · rw [HSN.out, show 1 + 32 * (i + 1) = 1 + 32 * i + 32 by omega]
            exact (HT4.out.below (bel_alloc (Below.refl _ _) (.cells (rtA x) 32))).grown (HO4.out.alloc _) HG5.out (by decide) (by decide) (by decide)
          · rw [HSN.out, HAN.out, rtsL_snoc, List.length_append, List.length_singleton]
            exact HO5.out
      · have HAN := Lib.hid (show addN now x = now by rw [addN, if_neg hE])
        have hE2 : (errR now x == 0) = false := beq_eq_false_iff_ne.2 hE
        generalize errR now x = E at *
        clear hE
        go_wp2_with (first
          | (refine load_mid_g 32 (.tmp 36) rfl b (o + i * 3) rfl (rtC x) _ HR.out hu32 rfl (info32l _ _ _) rfl ?_)
          | (go_at_call 9; refine Calls.mono HAS.out ?_; rintro e w4 ⟨rfl, g4, vf4, ht4, hc4⟩; have HT4 := Lib.hid ht4; have HU4 := Lib.hid (HU.out.keep HT.out HS.out.symm hc4); have HS4 := Lib.hid (HS.out.chg hc4 HU.out); have HO4 := Lib.hid (own_chg HO.out HT.out hc4 (by decide) (by decide) (by decide)); have hlow := HT.out.low hc4; have BR4 := Lib.hid (BR.out.trans hlow); clear ht4 hc4 hlow))
        go_roundg (61 - (i + 1))
        case measure => omega
        case rel =>
          refine ⟨i + 1, g4, vf4, hlt, Nat.le_refl _, by go_num, Lib.hid ?_, HU4, HS4, Lib.hid ?_, BR4⟩
          · rw [HSN.out, show 1 + 32 * (i + 1) = 1 + 32 * i + 32 by omega]
            exact HT4.out
          · rw [HSN.out, HAN.out]
            exact HO4.out
    · have d1 : decide ((i : Int) < (l.length : Int)) = false := decide_eq_false (by omega)
      have hlS := addAll_len l
      rw [List.take_of_length_le (show l.length ≤ i by omega)] at HT HO
      have HT := Lib.hid (show TrS wr w1.heap.size B1 g vf (1 + 32 * 60) (addAll l) from HT.out.more (by omega))
      have HUQ := Lib.hid HT.out.uq
      have HOK := Lib.hid HT.out.ok
      generalize addAll l = S at *
      obtain ⟨va, vc, hv⟩ := own_form HO.out
      subst hv
      clear HA HL HA1 HI0 HZ0 HZ1 HZ2
      obtain ⟨n, hn⟩ : ∃ n, n = S.length := ⟨_, rfl⟩
      rw [← hn] at HO ⊢
      have q1 : IntKind.i64.wrap ((n : Int) - 1) = (n : Int) - 1 := IntWalk.i64_in _ (by omega)
      have HN := Lib.hid hn
      have hn60 : n ≤ 60 := by omega
      clear hn
      go_wp2_with fail
      go_loopg [11] 61 (fun gg s11 wq => ∃ (j g' : Nat) (vf' : Value), j ≤ n ∧ 61 - j ≤ gg ∧ s11 = .int .i64 ((n : Int) - 1 - j) ∧ Hid (TrS wq w1.heap.size B2 g' vf' (1 + 32 * j) (S.reverse.take j)) ∧ Hid (TrS wq w1.heap.size B1 g vf (1 + 32 * 60) S) ∧ Hid (Sep B2 g' vf' B1 g vf) ∧ Hid (wq.ownsRow w1.heap.size 32 3 (.slice va n vc) n (rtsL S)) ∧ Hid (Below w1.heap.size w1 wq))
      case atStart => exact ⟨0, g2, _, Nat.zero_le _, Nat.sub_le _ _, by simp, HU, HT, Lib.hid HS.out.symm, HO, BR⟩
      case round =>
        obtain ⟨j, g', vf', hj, hgj, hs11, HU2, HT2, HS2, HO2, BR2⟩ := hrel
        by_cases hjn : j < n
        · obtain ⟨m, hm⟩ : ∃ m, m = n - 1 - j := ⟨_, rfl⟩
          rw [show (n : Int) - 1 - j = (m : Int) by omega] at hs11
          subst hs11
          have e1 : decide ((m : Int) ≥ 0) = true := decide_eq_true (by omega)
          have e2 : (0 : Int) ≤ (m : Int) := by omega
          have e3 : (m : Int) < (n : Int) := by omega
          have e4 : IntKind.i64.wrap ((m : Int) - 1) = (m : Int) - 1 := IntWalk.i64_in _ (by omega)
          obtain ⟨gs, cs, hv, _, _⟩ := HO2.out.form (by omega)
          cases hv
          have hmn : m < S.length := by rw [← HN.out]; omega
          have HM := Lib.hid hm
          clear hm
          have hx : S[m]? = some S[m] := List.getElem?_eq_getElem hmn
          have HR := Lib.hid (rts_at HO2.out m _ hx)
          obtain ⟨hz, HNX⟩ := rev_err HUQ.out HOK.out (by rw [← HN.out]; exact hn60) (show j + m + 1 = S.length by rw [← HN.out]; have := HM.out; omega) hx
          have HNX := Lib.hid HNX
          have HAS := Lib.hid (add_zero wr w1.heap.size B2 g' vf' (1 + 32 * j) _ HU2.out S[m] (HOK.out _ (List.getElem_mem hmn)).1 (by omega) hz)
          generalize S[m] = x at *
          clear hx hz
          go_wp2_with (first
            | (refine load_mid_g 32 (.tmp 57) rfl gs (m * 3) rfl (rtC x) _ HR.out hu32 rfl (info32l _ _ _) rfl ?_)
            | (go_at_call 9; refine Calls.mono HAS.out ?_; rintro e w4 ⟨rfl, g4, vf4, ht4, hc4⟩; have HU4 := Lib.hid ht4; have HT4 := Lib.hid (HT2.out.keep HU2.out HS2.out.symm hc4); have HS4 := Lib.hid (HS2.out.chg hc4 HT2.out); have HO4 := Lib.hid (own_chg HO2.out HU2.out hc4 (by decide) (by decide) (by decide)); have BR4 := Lib.hid (BR2.out.trans (HU2.out.low hc4)); clear ht4 hc4))
          go_roundg (61 - (j + 1))
          case measure => omega
          case rel =>
            refine ⟨j + 1, g4, vf4, hjn, Nat.le_refl _, ?_, Lib.hid ?_, HT4, HS4, HO4, BR4⟩
            · rw [show (n : Int) - 1 - ((j + 1 : Nat) : Int) = (m : Int) - 1 by have := HM.out; omega]
            · rw [← HNX.out, show 1 + 32 * (j + 1) = 1 + 32 * j + 32 by omega]
              exact HU4.out
        · rw [show (n : Int) - 1 - j = -1 by omega] at hs11
          subst hs11
          rw [List.take_of_length_le (by rw [List.length_reverse, ← HN.out]; omega)] at HU2
          have HU3 := Lib.hid (show TrS wr w1.heap.size B2 g' vf' (1 + 32 * 60) S.reverse from HU2.out.more (by omega))
          clear HU2 HU HT HS HO BR
          by_cases hn0 : 0 < n
          · have e1 : decide ((n : Int) > 0) = true := decide_eq_true (by omega)
            obtain ⟨gs, cs, hv, _, _⟩ := HO2.out.form hn0
            cases hv
            obtain ⟨m, hm⟩ : ∃ m, m = k % n := ⟨_, rfl⟩
            have hmn : m < n := by rw [hm]; exact Nat.mod_lt _ hn0
            have f1 : (wrap64 (k : Int)).tmod (n : Int) = (m : Int) := by
              have := HKK.out
              have e : wrap64 (k : Int) = (k : Int) := IntWalk.wrap64_in _ (by omega)
              rw [e, hm, Int.tmod_eq_emod_of_nonneg (Int.natCast_nonneg k), Int.natCast_emod]
            clear hm
            have f2 : (0 : Int) ≤ (m : Int) := Int.natCast_nonneg m
            have f3 : (m : Int) < (n : Int) := Int.ofNat_lt.2 hmn
            have hmS : m < S.length := by rw [← HN.out]; exact hmn
            have hx : S[m]? = some S[m] := List.getElem?_eq_getElem hmS
            have HR := Lib.hid (rts_at HO2.out m _ hx)
            have HXS := Lib.hid (List.mem_of_getElem? hx)
            generalize S[m] = x at *
            clear hx
            have HD := Lib.hid (drop_in HU3.out.uq HU3.out.ok ((same_rev S x).1 HXS.out))
            have HDA := Lib.hid (drop_add HU3.out.uq HU3.out.ok (by rw [List.length_reverse, ← HN.out]; exact hn60) ((same_rev S x).1 HXS.out))
            have HSM := Lib.hid (show Same S (addN (dropN S.reverse x.ad x.bt) x) from fun y => (same_rev S y).trans (HDA.out.2 y))
            have HXO := Lib.hid (HOK.out x HXS.out).1
            have hX2 := HU3.out.lt
            have HXN := Lib.hid (show wr.heap.size ≠ B2 ∧ wr.heap.size ≠ g' ∧ vf'.ownBlock ≠ some wr.heap.size from ⟨by omega, by omega, fun e => by have := hX2.2.2 _ e; omega⟩)
            have hlr : S.reverse.length ≤ 60 := by rw [List.length_reverse, ← HN.out]; exact hn60
            clear hX2
            go_wp2_with (first
              | (refine load_mid_g 32 (.tmp 70) rfl gs (m * 3) rfl (rtC x) _ HR.out hu32 rfl (info32l _ _ _) rfl ?_; have N0 := Lib.hid (heap_alloc_new wr (.cells rz 32)))
              | (refine wpList_store_row rfl 32 (.tmp 12) (.tmp 71) rfl wr.heap.size (rtA x) rfl rfl 32 rz N0.out (info32 _ _ _) rfl (one32 _) ?_; rw [World.setRow_alloc_new]; have BA := bel_alloc (Below.refl _ wr) (.cells (rtA x) 32); have KX5 := Lib.hid (heap_alloc_new wr (.cells (rtA x) 32)); have HT5 := Lib.hid (HT2.out.below BA); have HU5 := Lib.hid (HU3.out.below BA); have BR5 := Lib.hid (bel_alloc BR2.out (.cells (rtA x) 32)); have c0 : (wr.alloc (.cells (rtA x) 32)).cell? ⟨wr.heap.size, 0, none⟩ = some (.int .u32 x.ad) := rt_c0 KX5.out; have c1 : (wr.alloc (.cells (rtA x) 32)).cell? ⟨wr.heap.size, 1, none⟩ = some (.int .i64 x.bt) := rt_c1 KX5.out; have HO5 := Lib.hid (own_below HO2.out BA); clear BA; generalize wr.alloc (.cells (rtA x) 32) = w5 at *)
              | (go_at_call 12; refine Calls.mono (dropS w5 w1.heap.size B2 g' vf' (1 + 32 * 60) S.reverse HU5.out x.ad x.bt HXO.out (by omega) (by omega)) ?_; rw [HD.out.1]; rintro e w6 ⟨rfl, g6, vf6, ht6, hc6⟩; have HU6 := Lib.hid ht6; have HT6 := Lib.hid (HT5.out.keep HU5.out HS2.out.symm hc6); have HS6 := Lib.hid (HS2.out.chg hc6 HT5.out); have HO6 := Lib.hid (own_chg HO5.out HU5.out hc6 (by decide) (by decide) (by decide)); have KX6 := Lib.hid ((hc6.block _ (lt_of_block KX5.out) HXN.out.1 HXN.out.2.1 HXN.out.2.2).trans KX5.out); have BR6 := Lib.hid (BR5.out.trans (HU5.out.low hc6)); have c0 : w6.cell? ⟨wr.heap.size, 0, none⟩ = some (.int .u32 x.ad) := rt_c0 KX6.out; have c1 : w6.cell? ⟨wr.heap.size, 1, none⟩ = some (.int .i64 x.bt) := rt_c1 KX6.out; have c2 : w6.cell? ⟨wr.heap.size, 2, none⟩ = some (.int .i64 x.ou) := rt_c2 KX6.out; clear ht6 hc6)
              | (go_at_call 9; refine Calls.mono (add_zero w6 w1.heap.size B2 g6 vf6 _ _ HU6.out x HXO.out (by omega) HDA.out.1) ?_; rintro e w7 ⟨rfl, g7, vf7, ht7, hc7⟩; have HU7 := Lib.hid ht7; have HT7 := Lib.hid (HT6.out.keep HU6.out HS6.out.symm hc7); have BR7 := Lib.hid (BR6.out.trans (HU6.out.low hc7)); clear ht7 hc7 HU6 HT6 HS6 BR6 HU5 HT5 BR5 c0 c1 c2 KX5 KX6))
            have HT9 := Lib.hid (show TrS w7 w1.heap.size B1 g vf (1 + 32 * 60) S from HT7.out)
            have HFA := Lib.hid (findS3 HT9.out a HAD.out)
            go_wp2_with (first
              | (go_at_call 10; refine Calls.mono HFA.out ?_; clear HFA; rintro e w8 ⟨o, rfl, hf8, hb8⟩; have HF8 := Lib.hid hf8; have HT8 := Lib.hid ((HT9.out.below hb8).below (bel_alloc (Below.refl _ _) (.cells (rtA (o.getD rt0)) 32))); have HU8 := Lib.hid ((HU7.out).below hb8 |>.below (bel_alloc (Below.refl _ _) (.cells (rtA (o.getD rt0)) 32))); have HB8 := Lib.hid (bel_alloc (below_then (BR7.out) (BR7.out).size hb8) (.cells (rtA (o.getD rt0)) 32)); have N8 := Lib.hid (heap_alloc_new w8 (.cells rz 32)); have KX8 := Lib.hid (heap_alloc_new w8 (.cells (rtA (o.getD rt0)) 32)); have HFB := Lib.hid (findS3 HU8.out a HAD.out); clear hf8 hb8)
              | (refine wpList_store_row rfl 32 (.tmp 13) (.tmp 87) rfl w8.heap.size (rtA (o.getD rt0)) rfl rfl 32 rz N8.out (info32 _ _ _) rfl (one32 _) ?_; rw [World.setRow_alloc_new])
              | (go_at_call 10; refine Calls.mono HFB.out ?_; clear HFB; rintro e w9 ⟨o', rfl, hf9, hb9⟩; have hoo := find_same HT9.out.uq (HSM.out) HF8.out hf9; subst hoo; have HT10 := Lib.hid ((HT8.out.below hb9).below (bel_alloc (Below.refl _ _) (.cells (rtA (o.getD rt0)) 32))); have HU10 := Lib.hid ((HU8.out.below hb9).below (bel_alloc (Below.refl _ _) (.cells (rtA (o.getD rt0)) 32))); have HB10 := Lib.hid (bel_alloc (below_then HB8.out HB8.out.size hb9) (.cells (rtA (o.getD rt0)) 32)); have N9 := Lib.hid (heap_alloc_new w9 (.cells rz 32)); have KX9 := Lib.hid (blk_below (blk_below KX8.out hb9) (bel_alloc (Below.refl _ _) (.cells (rtA (o.getD rt0)) 32))); have KY9 := Lib.hid (heap_alloc_new w9 (.cells (rtA (o.getD rt0)) 32)); clear hf9 hb9)
              | (refine wpList_store_row rfl 32 (.tmp 15) (.tmp 93) rfl w9.heap.size (rtA (o.getD rt0)) rfl rfl 32 rz N9.out (info32 _ _ _) rfl (one32 _) ?_; rw [World.setRow_alloc_new]; clear HT8 HU8 HB8 N8 N9 KX8; generalize w9.alloc (.cells (rtA (o.getD rt0)) 32) = w10 at *; generalize o.getD rt0 = r9 at *; generalize o.isSome = b9 at *; have p0 : w10.cell? ⟨w8.heap.size, 0, none⟩ = some (.int .u32 r9.ad) := rt_c0 KX9.out; have p1 : w10.cell? ⟨w8.heap.size, 1, none⟩ = some (.int .i64 r9.bt) := rt_c1 KX9.out; have p2 : w10.cell? ⟨w8.heap.size, 2, none⟩ = some (.int .i64 r9.ou) := rt_c2 KX9.out; have y0 : w10.cell? ⟨w9.heap.size, 0, none⟩ = some (.int .u32 r9.ad) := rt_c0 KY9.out; have y1 : w10.cell? ⟨w9.heap.size, 1, none⟩ = some (.int .i64 r9.bt) := rt_c1 KY9.out; have y2 : w10.cell? ⟨w9.heap.size, 2, none⟩ = some (.int .i64 r9.ou) := rt_c2 KY9.out)
              | (go_at_call 13; refine Calls.mono (lenS HT10.out) ?_; rw [← HN.out]; rintro e w11 ⟨rfl, rfl⟩)
              | (go_at_call 14; refine Calls.mono (nodesS HU10.out (by omega)) ?_; rw [← nodes_same (HSM.out)]; rintro e w12 ⟨rfl, hb⟩; have HT12 := Lib.hid (HT10.out.below hb); have HB12 := Lib.hid (below_then HB10.out HB10.out.size hb); clear hb HU10)
              | (go_at_call 14; refine Calls.mono (nodesS HT12.out (by omega)) ?_; rintro e w13 ⟨rfl, hb⟩; have HB13 := Lib.hid (below_then HB12.out HB12.out.size hb); clear hb))
            go_ret
            exact ⟨rfl, (bel_trans HB1.out HB13.out)⟩
          · have e1 : decide ((n : Int) > 0) = false := decide_eq_false (by omega)
            have HT9 := Lib.hid (show TrS wr w1.heap.size B1 g vf (1 + 32 * 60) S from HT2.out)
            have HFA := Lib.hid (findS3 HT9.out a HAD.out)
            go_wp2_with (first
              | (go_at_call 10; refine Calls.mono HFA.out ?_; clear HFA; rintro e w8 ⟨o, rfl, hf8, hb8⟩; have HF8 := Lib.hid hf8; have HT8 := Lib.hid ((HT9.out.below hb8).below (bel_alloc (Below.refl _ _) (.cells (rtA (o.getD rt0)) 32))); have HU8 := Lib.hid ((HU3.out).below hb8 |>.below (bel_alloc (Below.refl _ _) (.cells (rtA (o.getD rt0)) 32))); have HB8 := Lib.hid (bel_alloc (below_then (BR2.out) (BR2.out).size hb8) (.cells (rtA (o.getD rt0)) 32)); have N8 := Lib.hid (heap_alloc_new w8 (.cells rz 32)); have KX8 := Lib.hid (heap_alloc_new w8 (.cells (rtA (o.getD rt0)) 32)); have HFB := Lib.hid (findS3 HU8.out a HAD.out); clear hf8 hb8)
              | (refine wpList_store_row rfl 32 (.tmp 13) (.tmp 87) rfl w8.heap.size (rtA (o.getD rt0)) rfl rfl 32 rz N8.out (info32 _ _ _) rfl (one32 _) ?_; rw [World.setRow_alloc_new])
              | (go_at_call 10; refine Calls.mono HFB.out ?_; clear HFB; rintro e w9 ⟨o', rfl, hf9, hb9⟩; have hoo := find_same HT9.out.uq (same_rev S) HF8.out hf9; subst hoo; have HT10 := Lib.hid ((HT8.out.below hb9).below (bel_alloc (Below.refl _ _) (.cells (rtA (o.getD rt0)) 32))); have HU10 := Lib.hid ((HU8.out.below hb9).below (bel_alloc (Below.refl _ _) (.cells (rtA (o.getD rt0)) 32))); have HB10 := Lib.hid (bel_alloc (below_then HB8.out HB8.out.size hb9) (.cells (rtA (o.getD rt0)) 32)); have N9 := Lib.hid (heap_alloc_new w9 (.cells rz 32)); have KX9 := Lib.hid (blk_below (blk_below KX8.out hb9) (bel_alloc (Below.refl _ _) (.cells (rtA (o.getD rt0)) 32))); have KY9 := Lib.hid (heap_alloc_new w9 (.cells (rtA (o.getD rt0)) 32)); clear hf9 hb9)
              | (refine wpList_store_row rfl 32 (.tmp 15) (.tmp 93) rfl w9.heap.size (rtA (o.getD rt0)) rfl rfl 32 rz N9.out (info32 _ _ _) rfl (one32 _) ?_; rw [World.setRow_alloc_new]; clear HT8 HU8 HB8 N8 N9 KX8; generalize w9.alloc (.cells (rtA (o.getD rt0)) 32) = w10 at *; generalize o.getD rt0 = r9 at *; generalize o.isSome = b9 at *; have p0 : w10.cell? ⟨w8.heap.size, 0, none⟩ = some (.int .u32 r9.ad) := rt_c0 KX9.out; have p1 : w10.cell? ⟨w8.heap.size, 1, none⟩ = some (.int .i64 r9.bt) := rt_c1 KX9.out; have p2 : w10.cell? ⟨w8.heap.size, 2, none⟩ = some (.int .i64 r9.ou) := rt_c2 KX9.out; have y0 : w10.cell? ⟨w9.heap.size, 0, none⟩ = some (.int .u32 r9.ad) := rt_c0 KY9.out; have y1 : w10.cell? ⟨w9.heap.size, 1, none⟩ = some (.int .i64 r9.bt) := rt_c1 KY9.out; have y2 : w10.cell? ⟨w9.heap.size, 2, none⟩ = some (.int .i64 r9.ou) := rt_c2 KY9.out)
              | (go_at_call 13; refine Calls.mono (lenS HT10.out) ?_; rw [← HN.out]; rintro e w11 ⟨rfl, rfl⟩)
              | (go_at_call 14; refine Calls.mono (nodesS HU10.out (by omega)) ?_; rw [← nodes_same (same_rev S)]; rintro e w12 ⟨rfl, hb⟩; have HT12 := Lib.hid (HT10.out.below hb); have HB12 := Lib.hid (below_then HB10.out HB10.out.size hb); clear hb HU10)
              | (go_at_call 14; refine Calls.mono (nodesS HT12.out (by omega)) ?_; rintro e w13 ⟨rfl, hb⟩; have HB13 := Lib.hid (below_then HB12.out HB12.out.size hb); clear hb))
            go_ret
            exact ⟨rfl, (bel_trans HB1.out HB13.out)⟩
theorem orders4 (l : List Rt) (A : Option Addr) (c : Nat) (a k : Nat) (w : World) (hA : RtsA w A l) (hl : ∀ r ∈ l, r.ad < 2 ^ 32) (ha : a < 2 ^ 32) (hk : k < 256) :
    Calls Try.prog 4 #[.slice A l.length c, .int .u32 a, .int .u8 k] w fun e w' => e = .returned (.bool true) ∧ Below w.heap.size w w' := by
  by_cases h : l.length ≤ 60
  · exact orders4_ok l A c a k w hA hl ha hk h
  · exact orders4_long l A c a k w (by omega)
end Go.Proofs.Ytfpbcdlfcaglgaa.P
