/- Contracts of the reference's Get, Add, Without (layer 14). -/
import Derived.Test.YtfpbcdlfcaglgaaNT
namespace Go.Proofs.Ytfpbcdlfcaglgaa.P
open Go.RowKit

theorem RtsA.at {w : World} {A : Option Addr} {l : List Rt} (h : RtsA w A l) {i : Nat} {x : Rt} (hx : l[i]? = some x) : ∃ b o, A = some ⟨b, o, none⟩ ∧ w.rangeAt b (o + i * 3) (rtC x) := by
  obtain ⟨b, o, rfl, _, hc⟩ := h (by have := (List.getElem?_eq_some_iff.1 hx).1; omega)
  exact ⟨b, o, rfl, hc i x hx⟩
theorem rg0 {w : World} {b o : Nat} {x : Rt} (h : w.rangeAt b o (rtC x)) : w.cell? ⟨b, o, none⟩ = some (.int .u32 x.ad) := h 0 _ rfl
theorem rg1 {w : World} {b o : Nat} {x : Rt} (h : w.rangeAt b o (rtC x)) : w.cell? ⟨b, o + 1, none⟩ = some (.int .i64 x.bt) := h 1 _ rfl
theorem rg2 {w : World} {b o : Nat} {x : Rt} (h : w.rangeAt b o (rtC x)) : w.cell? ⟨b, o + 2, none⟩ = some (.int .i64 x.ou) := h 2 _ rfl
/-- Where a prefix's route stands, as the reference tells it. -/
def idxI (l : List Rt) (ad : Nat) (b : Int) : Int := match idxR l ad b with | some k => (k : Int) | none => -1
def eqP (x : Rt) (ad : Nat) (b : Int) : Bool := (x.ad : Int) == (ad : Int) && x.bt == b
theorem eqP_iff (x : Rt) (ad : Nat) (b : Int) : eqP x ad b = true ↔ x.ad = ad ∧ x.bt = b := by
  simp only [eqP, Bool.and_eq_true, beq_iff_eq]
  omega
theorem idx_at {l : List Rt} {ad : Nat} {b : Int} {k : Nat} {x : Rt} (hx : l[k]? = some x) (he : eqP x ad b = true) (hn : ∀ (j : Nat) y, j < k → l[j]? = some y → eqP y ad b = false) : idxR l ad b = some k := by
  obtain ⟨h1, h2⟩ := List.getElem?_eq_some_iff.1 hx
  refine List.findIdx?_eq_some_iff_getElem.2 ⟨h1, ?_, fun j hj => ?_⟩
  · rw [h2]
    have := (eqP_iff x ad b).1 he
    simp [this.1, this.2]
  · have h3 := hn j _ hj (List.getElem?_eq_getElem (by omega))
    have h4 : ¬ ((l[j]'(by omega)).ad = ad ∧ (l[j]'(by omega)).bt = b) := fun e => by
      have := (eqP_iff _ ad b).2 e
      rw [h3] at this; cases this
    simpa using h4
theorem idx_no {l : List Rt} {ad : Nat} {b : Int} (hn : ∀ (j : Nat) y, l[j]? = some y → eqP y ad b = false) : idxR l ad b = none := by
  refine List.findIdx?_eq_none_iff.2 fun y hy => ?_
  obtain ⟨j, hj⟩ := List.mem_iff_getElem?.1 hy
  have h3 := hn j y hj
  have h4 : ¬ (y.ad = ad ∧ y.bt = b) := fun e => by
    have := (eqP_iff _ ad b).2 e
    rw [h3] at this; cases this
  simpa using h4
set_option maxHeartbeats 1000000 in
theorem get16 (l : List Rt) (A : Option Addr) (c ad : Nat) (b : Int) (w : World) (hA : RtsA w A l) (hl : l.length ≤ 100000) :
    Calls Try.prog 16 #[.slice A l.length c, .agg #[.int .u32 ad, .int .i64 b]] w fun e w' => e = .returned (.int .i64 (idxI l ad b)) ∧ Below w.heap.size w w' := by
  have hu22 := Try.underlying22
  have hu30 := Try.underlying30
  have hu32 := Try.underlying32
  have c0 : (w.alloc (.cells #[.int .u32 (ad : Int), .int .i64 b] 30)).cell? ⟨w.heap.size, 0, none⟩ = some (.int .u32 (ad : Int)) := World.cell?_alloc_mark w #[.int .u32 (ad : Int), .int .i64 b] 30 (0, 0) 0
  have c1 : (w.alloc (.cells #[.int .u32 (ad : Int), .int .i64 b] 30)).cell? ⟨w.heap.size, 1, none⟩ = some (.int .i64 b) := World.cell?_alloc_mark w #[.int .u32 (ad : Int), .int .i64 b] 30 (0, 0) 1
  have HB := Lib.hid (bel_alloc (Below.refl _ w) (.cells #[.int .u32 (ad : Int), .int .i64 b] 30))
  have HA := Lib.hid (hA.low HB.out (Nat.le_refl _))
  have hgd := gd30
  clear hA
  go_enter Try.func16, Try.ntmps16
  go_wp2_with fail
  generalize w.alloc (.cells #[.int .u32 (ad : Int), .int .i64 b] 30) = W at *
  go_loopg [5] (l.length + 1) (fun gg s5 wr => ∃ i : Nat, i ≤ l.length ∧ l.length + 1 - i ≤ gg ∧ s5 = .int .i64 i ∧ Hid (Below W.heap.size W wr) ∧ Hid (∀ (j : Nat) y, j < i → l[j]? = some y → eqP y ad b = false))
  case atStart => exact ⟨0, Nat.zero_le _, Nat.sub_le _ _, rfl, Below.refl _ _, Lib.hid fun j y h => absurd h (by omega)⟩
  case round =>
    obtain ⟨i, hi, hgg, rfl, BR, HN⟩ := hrel
    by_cases hlt : i < l.length
    · have d1 : decide ((i : Int) < (l.length : Int)) = true := decide_eq_true (by omega)
      have d2 : (0 : Int) ≤ (i : Int) := by omega
      have d3 : (i : Int) < (l.length : Int) := by omega
      have hx : l[i]? = some l[i] := List.getElem?_eq_getElem hlt
      obtain ⟨bb, o, rfl, hc⟩ := (HA.out.low BR.out (Nat.le_refl _)).at hx
      have HX := Lib.hid hx
      have j0 := rg0 hc
      have j1 := rg1 hc
      have k0 := cell_below c0 BR.out
      have k1 := cell_below c1 BR.out
      generalize l[i] = x at *
      clear hx hc
      have heq := eq30 x.ad x.bt ad b
      rw [show ((x.ad : Int) == (ad : Int) && x.bt == b) = eqP x ad b from rfl] at heq
      cases he : eqP x ad b with
      | true =>
        rw [he] at heq
        have HF := Lib.hid (show idxI l ad b = (i : Int) by rw [idxI, idx_at HX.out he HN.out])
        clear he
        go_wp2_with fail
        go_quiet (fail)
        go_wp2_with fail
        go_ret
        exact ⟨ret_int HF.out.symm, bel_trans HB.out (bel_drewN BR.out _)⟩
      | false =>
        rw [he] at heq
        have HE := Lib.hid he
        clear he
        go_wp2_with fail
        go_quiet (fail)
        go_wp2_with fail
        go_roundg (l.length + 1 - (i + 1))
        case measure => omega
        case rel =>
          refine ⟨i + 1, hlt, Nat.le_refl _, by go_num, Lib.hid (bel_drewN BR.out _), Lib.hid fun j y hj hy => ?_⟩
          rcases Nat.lt_or_ge j i with h | h
          · exact HN.out j y h hy
          · have e : j = i := by omega
            subst e
            rw [HX.out] at hy
            cases hy
            exact HE.out
    · have d1 : decide ((i : Int) < (l.length : Int)) = false := decide_eq_false (by omega)
      have HF := Lib.hid (show idxI l ad b = -1 by rw [idxI, idx_no fun j y hy => HN.out j y (by have := (List.getElem?_eq_some_iff.1 hy).1; omega) hy])
      go_wp2_with fail
      go_ret
      exact ⟨ret_int HF.out.symm, bel_trans HB.out BR.out⟩
theorem inB_idx (now : List Rt) (r : Rt) : inB now r = (idxR now r.ad r.bt).isSome := by
  cases h : idxR now r.ad r.bt with
  | some k =>
    obtain ⟨x, hx, h1, h2⟩ := idxR_some h
    exact (inB_iff now r).2 ⟨x, List.mem_of_getElem? hx, h1, h2⟩
  | none =>
    rw [Bool.eq_false_iff.2 (fun e => idxR_none h ((inB_iff now r).1 e))]
    rfl
theorem idxI_dec (l : List Rt) (ad : Nat) (b : Int) : decide (idxI l ad b ≥ 0) = (idxR l ad b).isSome := by
  unfold idxI
  cases idxR l ad b with
  | some k => exact decide_eq_true (by show (k : Int) ≥ 0; omega)
  | none => rfl
set_option maxHeartbeats 1000000 in
theorem add15 (l : List Rt) (A : Option Addr) (c : Nat) (r : Rt) (w : World) (hA : RtsA w A l) (hl : l.length ≤ 100000) (ha : r.ad < 2 ^ 32) :
    Calls Try.prog 15 #[.slice A l.length c, .agg (rtA r)] w fun e w' => e = .returned (.int .i64 (errR l r)) ∧ Below w.heap.size w w' := by
  have hu22 := Try.underlying22
  have hu30 := Try.underlying30
  have hu32 := Try.underlying32
  have HB := Lib.hid (bel_alloc (Below.refl _ w) (.cells (rtA r) 32))
  have HA := Lib.hid (hA.low HB.out (Nat.le_refl _))
  have c0 := rt_c0 (heap_alloc_new w (.cells (rtA r) 32))
  have c1 := rt_c1 (heap_alloc_new w (.cells (rtA r) 32))
  have HR := Lib.hid (right17 r.ad ha r.bt)
  have HE := Lib.hid (show errR l r = if rightB r.ad r.bt = true then (if (idxR l r.ad r.bt).isSome = true then 7 else if 256 ≤ l.length then 9 else 0) else 1 by rw [← inB_idx]; rfl)
  have HG := Lib.hid (fun w hA => get16 l A c r.ad r.bt w hA hl)
  generalize errR l r = E at HE ⊢
  have dI := idxI_dec l r.ad r.bt
  generalize idxI l r.ad r.bt = I at *
  clear hA hl ha
  cases hr : rightB r.ad r.bt with
  | false =>
    rw [hr] at HR HE
    clear hr
    rw [show rtA r = #[.int .u32 r.ad, .int .i64 r.bt, .int .i64 r.ou] from rfl] at *
    go_enter Try.func15, Try.ntmps15
    go_wp2_with fail
    generalize w.alloc (.cells #[.int .u32 r.ad, .int .i64 r.bt, .int .i64 r.ou] 32) = W at *
    go_wp2_with (go_at_call 17; refine Calls.mono (HR.out _) ?_; rintro e w1 ⟨rfl, hb⟩; have HB1 := Lib.hid (bel_trans HB.out hb); clear hb)
    go_ret
    exact ⟨ret_int (by rw [HE.out]; rfl), HB1.out⟩
  | true =>
    rw [hr] at HR HE
    clear hr
    cases hi : (idxR l r.ad r.bt).isSome with
    | true =>
      rw [hi] at dI HE
      clear hi
      rw [show rtA r = #[.int .u32 r.ad, .int .i64 r.bt, .int .i64 r.ou] from rfl] at *
      go_enter Try.func15, Try.ntmps15
      go_wp2_with fail
      generalize w.alloc (.cells #[.int .u32 r.ad, .int .i64 r.bt, .int .i64 r.ou] 32) = W at *
      go_wp2_with (first
        | (go_at_call 17; refine Calls.mono (HR.out _) ?_; rintro e w1 ⟨rfl, hb⟩; have HB1 := Lib.hid (bel_trans HB.out hb); have HA1 := Lib.hid (HA.out.low hb (Nat.le_refl _)); have c0 := cell_below c0 hb; have c1 := cell_below c1 hb; clear hb)
        | (go_at_call 16; refine Calls.mono (HG.out w1 HA1.out) ?_; rintro e w2 ⟨rfl, hb⟩; have HB2 := Lib.hid (bel_trans HB1.out hb); clear hb))
      go_ret
      exact ⟨ret_int (by rw [HE.out]; rfl), HB2.out⟩
    | false =>
      rw [hi] at dI HE
      clear hi
      rw [show rtA r = #[.int .u32 r.ad, .int .i64 r.bt, .int .i64 r.ou] from rfl] at *
      have HE2 := Lib.hid (show E = if 256 ≤ l.length then 9 else 0 by rw [HE.out]; rfl)
      by_cases hl2 : 256 ≤ l.length
      · have d2 : decide ((l.length : Int) ≥ 256) = true := decide_eq_true (by omega)
        have HE3 := Lib.hid (show E = 9 by rw [HE2.out, if_pos hl2])
        go_enter Try.func15, Try.ntmps15
        go_wp2_with fail
        generalize w.alloc (.cells #[.int .u32 r.ad, .int .i64 r.bt, .int .i64 r.ou] 32) = W at *
        go_wp2_with (first
          | (go_at_call 17; refine Calls.mono (HR.out _) ?_; rintro e w1 ⟨rfl, hb⟩; have HB1 := Lib.hid (bel_trans HB.out hb); have HA1 := Lib.hid (HA.out.low hb (Nat.le_refl _)); have c0 := cell_below c0 hb; have c1 := cell_below c1 hb; clear hb)
          | (go_at_call 16; refine Calls.mono (HG.out w1 HA1.out) ?_; rintro e w2 ⟨rfl, hb⟩; have HB2 := Lib.hid (bel_trans HB1.out hb); clear hb))
        go_ret
        exact ⟨ret_int HE3.out.symm, HB2.out⟩
      · have d2 : decide ((l.length : Int) ≥ 256) = false := decide_eq_false (by omega)
        have HE3 := Lib.hid (show E = 0 by rw [HE2.out, if_neg hl2])
        go_enter Try.func15, Try.ntmps15
        go_wp2_with fail
        generalize w.alloc (.cells #[.int .u32 r.ad, .int .i64 r.bt, .int .i64 r.ou] 32) = W at *
        go_wp2_with (first
          | (go_at_call 17; refine Calls.mono (HR.out _) ?_; rintro e w1 ⟨rfl, hb⟩; have HB1 := Lib.hid (bel_trans HB.out hb); have HA1 := Lib.hid (HA.out.low hb (Nat.le_refl _)); have c0 := cell_below c0 hb; have c1 := cell_below c1 hb; clear hb)
          | (go_at_call 16; refine Calls.mono (HG.out w1 HA1.out) ?_; rintro e w2 ⟨rfl, hb⟩; have HB2 := Lib.hid (bel_trans HB1.out hb); clear hb))
        go_ret
        exact ⟨ret_int HE3.out.symm, HB2.out⟩
/-- Cells of routes from one on. -/
theorem news_rts {w : World} {b o n : Nat} {l : List Rt} (h : ∀ (j : Nat) x, l[j]? = some x → w.rangeAt b (o + j * 3) (rtC x)) (k : Nat) (hn : k + n ≤ l.length) : ∀ (j : Nat) u, (rtsL ((l.drop k).take n))[j]? = some u → w.cell? ((⟨b, o + k * 3, none⟩ : Addr).add j) = some u := by
  intro j u hu
  have hj := (List.getElem?_eq_some_iff.1 hu).1
  rw [rtsL_len, List.length_take, List.length_drop] at hj
  have hi : j / 3 < n := by omega
  have hx : ((l.drop k).take n)[j / 3]? = some (l[k + j / 3]'(by omega)) := by rw [List.getElem?_take, if_pos hi, List.getElem?_drop, List.getElem?_eq_getElem]
  have h1 := rtsL_get _ (j / 3) (j % 3) _ hx (by omega)
  rw [show j / 3 * 3 + j % 3 = j by omega] at h1
  rw [h1] at hu
  have h2 := h (k + j / 3) _ (List.getElem?_eq_getElem (by omega)) (j % 3) u hu
  rw [Addr.add_mid]
  rwa [show o + (k + j / 3) * 3 + j % 3 = o + k * 3 + j by omega] at h2
theorem range_grown {w w1 : World} {b o : Nat} {cs : List Value} (h : w.rangeAt b o cs) (hb : b < w.heap.size) (hg : w.grownBy w1 none) : w1.rangeAt b o cs := fun j v hv => (hg.cell_far ⟨b, o + j, none⟩ hb (by simp)).trans (h j v hv)
theorem rtsL_app (a b : List Rt) : rtsL (a ++ b) = rtsL a ++ rtsL b := by simp [rtsL]
theorem rtsL_one (l : List Rt) : ∀ u ∈ rtsL l, u.oneCell' = true := by
  intro u hu
  obtain ⟨x, _, h⟩ := List.mem_flatMap.1 hu
  exact rtC_one x u h
set_option maxHeartbeats 1000000 in
theorem without18 (l : List Rt) (A : Option Addr) (c k : Nat) (w : World) (hA : RtsA w A l) (hl : l.length ≤ 100000) (hk : k < l.length) (hc : l.length ≤ c) :
    Calls Try.prog 18 #[.slice A l.length c, .int .i64 k] w fun e w' => ∃ v, e = .returned v ∧ w'.ownsRow w.heap.size 32 3 v (l.eraseIdx k).length (rtsL (l.eraseIdx k)) ∧ Below w.heap.size w w' := by
  have hu22 := Try.underlying22
  obtain ⟨i0, hi0, hz0, hz1, hz2⟩ := info_parts info32b
  have HI0 := Lib.hid hi0
  have HZ0 := Lib.hid hz0
  have HZ1 := Lib.hid hz1
  have HZ2 := Lib.hid hz2
  obtain ⟨b, o, rfl, hb, hcc⟩ := hA (by omega)
  have HC := Lib.hid hcc
  have q0 : (0 : Int) ≤ (k : Int) := by omega
  have q1 : (k : Int) ≤ (c : Int) := by omega
  have q2 : IntKind.i64.wrap ((k : Int) + 1) = ((k + 1 : Nat) : Int) := by rw [IntWalk.i64_in _ (by omega)]; rfl
  have q3 : ((k + 1 : Nat) : Int) ≤ (l.length : Int) := by omega
  have q4 : (0 : Int) ≤ ((k + 1 : Nat) : Int) := by omega
  have q5 : (l.length : Int) ≤ (c : Int) := by omega
  have O0 := Lib.hid (World.ownsRow_nil w w.heap.size 32 3)
  clear hcc hi0 hz0 hz1 hz2
  go_enter Try.func18, Try.ntmps18
  have N1 := Lib.hid (news_rts HC.out 0 (n := k) (by omega))
  have HBG := Lib.hid (fun (v1 v2 : Value) (w1 w2 : World) (h1 : w1.ownsRow w.heap.size 32 3 v1 (0 + k) ([] ++ rtsL ((l.drop 0).take k))) (hg1 : w.grownBy w1 none) (hg2 : w1.grownBy w2 v1.ownBlock) => show Below w.heap.size w w2 from
    ((Below.refl _ w).grown hg1 (Nat.le_refl _) (fun q hq => by cases hq)).grown hg2 hg1.size (fun q hq => (h1.lt q hq).1))
  by_cases hck : c = k + 1
  · subst hck
    have HZ := Lib.hid (show l.length - (k + 1) = 0 by omega)
    go_wp2_with (first
      | (at_builtin; refine wpList_append_own _ rfl (.tmp 6) (.tmp 9) 22 rfl w.heap.size 32 i0 (.agg rz) 3 24 hu22 HI0.out HZ0.out HZ1.out HZ2.out rfl (by decide) _ 0 [] rfl O0.out ⟨b, o, none⟩ k (k + 1) (rtsL ((l.drop 0).take k)) rfl (by rw [rtsL_len, List.length_take, List.drop_zero, Nat.min_eq_left (by omega)]) (by have := N1.out; rwa [Nat.zero_mul, Nat.add_zero] at this) (rtsL_one _) (by unfold maxLen; omega) (by omega) (Nat.le_refl _) ?_; intro v1 w1 ho1 hg1 _; have HO1 := Lib.hid ho1; have HG1 := Lib.hid hg1; have N2 := Lib.hid (news_rts (w := w1) (fun j x hx => range_grown (HC.out j x hx) hb hg1) 0 (n := 0) (by omega)); clear ho1 hg1 O0)
      | (at_builtin; refine wpList_append_own _ rfl (.tmp 11) (.tmp 15) 22 rfl w.heap.size 32 i0 (.agg rz) 3 24 hu22 HI0.out HZ0.out HZ1.out HZ2.out rfl (by decide) _ _ _ rfl HO1.out ⟨b, o, none⟩ 0 0 [] rfl rfl (by intro j u hu; simp at hu) (by intro u hu; cases hu) (by unfold maxLen; omega) (by omega) HG1.out.size ?_; intro v2 w2 ho2 hg2 _; have HO2 := Lib.hid ho2; have HG2 := Lib.hid hg2; clear ho2 hg2))
    go_ret
    refine ⟨v2, rfl, ?_, HBG.out v1 v2 w1 w2 HO1.out HG1.out HG2.out⟩
    have := HO2.out
    rw [List.drop_zero, List.nil_append, List.append_nil] at this
    rw [List.length_eraseIdx_of_lt hk, List.eraseIdx_eq_take_drop_succ, List.drop_of_length_le (by have := HZ.out; omega), List.append_nil, show l.length - 1 = 0 + k + 0 by have := HZ.out; omega]
    exact this
  · have hck2 : k + 1 < c := by omega
    go_wp2_with (first
      | (at_builtin; refine wpList_append_own _ rfl (.tmp 6) (.tmp 9) 22 rfl w.heap.size 32 i0 (.agg rz) 3 24 hu22 HI0.out HZ0.out HZ1.out HZ2.out rfl (by decide) _ 0 [] rfl O0.out ⟨b, o, none⟩ k c (rtsL ((l.drop 0).take k)) rfl (by rw [rtsL_len, List.length_take, List.drop_zero, Nat.min_eq_left (by omega)]) (by have := N1.out; rwa [Nat.zero_mul, Nat.add_zero] at this) (rtsL_one _) (by unfold maxLen; omega) (by omega) (Nat.le_refl _) ?_; intro v1 w1 ho1 hg1 _; have HO1 := Lib.hid ho1; have HG1 := Lib.hid hg1; have N2 := Lib.hid (news_rts (w := w1) (fun j x hx => range_grown (HC.out j x hx) hb hg1) (k + 1) (n := (l.length - (k + 1))) (by omega)); clear ho1 hg1 O0)
      | (at_builtin; refine wpList_append_own _ rfl (.tmp 11) (.tmp 15) 22 rfl w.heap.size 32 i0 (.agg rz) 3 24 hu22 HI0.out HZ0.out HZ1.out HZ2.out rfl (by decide) _ _ _ rfl HO1.out ⟨b, o + (k + 1) * 3, none⟩ (l.length - (k + 1)) (c - (k + 1)) (rtsL ((l.drop (k + 1)).take (l.length - (k + 1)))) rfl (by rw [rtsL_len, List.length_take, List.length_drop, Nat.min_eq_left (Nat.le_refl _)]) (N2.out) (rtsL_one _) (by unfold maxLen; omega) (by omega) HG1.out.size ?_; intro v2 w2 ho2 hg2 _; have HO2 := Lib.hid ho2; have HG2 := Lib.hid hg2; clear ho2 hg2))
    go_ret
    refine ⟨v2, rfl, ?_, HBG.out v1 v2 w1 w2 HO1.out HG1.out HG2.out⟩
    have := HO2.out
    rw [List.drop_zero, List.take_of_length_le (l := l.drop (k + 1)) (by rw [List.length_drop]; omega), List.nil_append, ← rtsL_app, ← List.eraseIdx_eq_take_drop_succ] at this
    rw [List.length_eraseIdx_of_lt hk, show l.length - 1 = 0 + k + (l.length - (k + 1)) by omega]
    exact this
end Go.Proofs.Ytfpbcdlfcaglgaa.P
