/- TableNews (walk). -/
import Derived.Test.YtifmckhabkghcaaU2
namespace Go.Proofs.Ytifmckhabkghcaa.P
open Go.RowKit
set_option linter.unusedSimpArgs false
attribute [local go_sem ↓] ldi25

theorem Tab.drewN {w : World} {B g : Nat} {l : List Lab} (h : Tab w B g l) (n : Nat) : Tab (w.drewN n) B g l := ⟨h.out⟩
theorem chk_zero {l : List Lab} (h : chkE l = 0) : chkK l = l.length ∧ ∀ j, j < l.length → badN l j = 0 := by
  unfold chkE at h
  cases hf : chkF l with
  | none =>
    refine ⟨by simp [chkK, hf], fun j hj => ?_⟩
    unfold chkF at hf
    rw [List.find?_range_eq_none] at hf
    have := hf j hj
    simpa using this
  | some i =>
    rw [hf] at h
    unfold chkF at hf
    rw [List.find?_range_eq_some] at hf
    have := hf.1
    simp [h] at this
theorem fnd_all (l : List Lab) (x : Lab) : fndB l x l.length = decide (0 ≤ findI l x) ∧ fndN l x l.length = max (findI l x) 0 := by
  unfold fndB fndN findI
  rw [List.take_length]
  by_cases h : x ∈ l
  · have h1 := List.idxOf_lt_length_iff.2 h
    simp [h, h1]
  · have h1 : ¬ l.idxOf x < l.length := fun h2 => h (List.idxOf_lt_length_iff.1 h2)
    simp [h, h1]
    decide
set_option maxRecDepth 100000 in
set_option maxHeartbeats 1000000 in
theorem news11_long (l : List Lab) (n : Int) (x : Lab) (A : Option Addr) (c : Nat) (w : World) (hlen : 40 < l.length) :
    Calls Try.prog 11 #[.slice A l.length c, .int .i64 n, .agg (labA x)] w fun e w' => e = .returned (.bool true) ∧ Below w.heap.size w w' := by
  have hu56 := Try.underlying56
  have HK := Lib.hid awake31
  have d0 : decide (40 < (l.length : Int)) = true := decide_eq_true (by omega)
  have HB := Lib.hid (bel_alloc (Below.refl w.heap.size w) (.cells (labA x) 25))
  go_enter Try.func11, Try.ntmps11
  go_wp2_with (go_at_call 31; refine (HK.out _).mono ?_; rintro e w7 ⟨rfl, hb⟩; have HB7 := Lib.hid (below_then HB.out HB.out.size hb); clear hb)
  go_ret
  exact ⟨rfl, HB7.out⟩
set_option maxRecDepth 100000 in
set_option maxHeartbeats 1000000 in
theorem news11_no (l : List Lab) (n : Int) (x : Lab) (A : Option Addr) (c : Nat) (w : World) (hA : SlA w A l) (hl : ∀ y ∈ l, LabOK y) (hlen : l.length ≤ 40) (he : chkE l ≠ 0) :
    Calls Try.prog 11 #[.slice A l.length c, .int .i64 n, .agg (labA x)] w fun e w' => e = .returned (.bool true) ∧ Below w.heap.size w w' := by
  have hu56 := Try.underlying56
  have HK := Lib.hid awake31
  have d0 : decide (40 < (l.length : Int)) = false := decide_eq_false (by omega)
  have HB := Lib.hid (bel_alloc (Below.refl w.heap.size w) (.cells (labA x) 25))
  have HN := Lib.hid (fun w' (hb : Below w.heap.size w w') => new32 l A c w' (hA.below hb) hl hlen)
  have HC := Lib.hid (fun w' (hb : Below w.heap.size w w') => check38 l A c w' (hA.below hb) hl hlen)
  have HN2 := Lib.hid (show ∀ w', Below w.heap.size w w' → Calls Try.prog 32 #[.slice A l.length c] w' fun e w1 => e = .returned (.tuple #[.pointer none, .int .i64 (chkK l), .int .i64 (chkE l)]) ∧ Below w'.heap.size w' w1 from fun w' hb => (HN.out w' hb).mono fun e w1 hh => by
    obtain ⟨p, rfl, hb1, h0, _⟩ := hh
    exact ⟨by rw [h0 he], hb1⟩)
  clear HN
  generalize chkK l = kk at HN2 HC
  generalize chkE l = ee at HN2 HC he
  have de : decide ((ee : Int) = 0) = false := decide_eq_false (by omega)
  clear hl hA
  go_enter Try.func11, Try.ntmps11
  go_wp2_with (first
    | (go_at_call 32; refine (HN2.out _ HB.out).mono ?_; rintro e w1 ⟨rfl, hb⟩; have HB1 := Lib.hid (below_then HB.out HB.out.size hb); clear hb)
    | (go_at_call 38; refine (HC.out _ HB1.out).mono ?_; rintro e w2 ⟨rfl, hb⟩; have HB2 := Lib.hid (below_then HB1.out HB1.out.size hb); clear hb)
    | (go_at_call 31; refine (HK.out _).mono ?_; rintro e w7 ⟨rfl, hb⟩; have HB7 := Lib.hid (below_then HB2.out HB2.out.size hb); clear hb))
  go_ret
  exact ⟨rfl, HB7.out⟩
set_option maxRecDepth 100000 in
set_option maxHeartbeats 4000000 in
theorem news11_ok (l : List Lab) (n : Int) (x : Lab) (A : Option Addr) (c : Nat) (w : World) (hA : SlA w A l) (hl : ∀ y ∈ l, LabOK y) (hx : LabOK x) (hlen : l.length ≤ 40) (he : chkE l = 0) :
    Calls Try.prog 11 #[.slice A l.length c, .int .i64 n, .agg (labA x)] w fun e w' => e = .returned (.bool true) ∧ Below w.heap.size w w' := by
  have hu25 := Try.underlying25
  have hu56 := Try.underlying56
  have HK := Lib.hid awake31
  have d0 : decide (40 < (l.length : Int)) = false := decide_eq_false (by omega)
  have HB := Lib.hid (bel_alloc (Below.refl w.heap.size w) (.cells (labA x) 25))
  have H0 := Lib.hid (heap_alloc_new w (.cells (labA x) 25))
  have HN := Lib.hid (fun w' (hb : Below w.heap.size w w') => new32 l A c w' (hA.below hb) hl hlen)
  obtain ⟨hkk, hbad⟩ := chk_zero he
  have HC := Lib.hid (show ∀ w', Below w.heap.size w w' → Calls Try.prog 38 #[.slice A l.length c] w' fun e w1 => e = .returned (.tuple #[.int .i64 l.length, .int .i64 0]) ∧ Below w'.heap.size w' w1 from fun w' hb => by
    have h := check38 l A c w' (hA.below hb) hl hlen
    rw [hkk, he] at h
    exact h)
  have HE := Lib.hid he
  have HKK := Lib.hid hkk
  have HN2 := Lib.hid (show ∀ w', Below w.heap.size w w' → Calls Try.prog 32 #[.slice A l.length c] w' fun e w1 => ∃ g, e = .returned (.tuple #[.pointer (some ⟨g, 0, none⟩), .int .i64 l.length, .int .i64 0]) ∧ Tab w1 w'.heap.size g l ∧ Below w'.heap.size w' w1 from fun w' hb => (HN.out w' hb).mono fun e w1 hh => by
    obtain ⟨p, rfl, hb1, _, h0⟩ := hh
    obtain ⟨g, rfl, ht⟩ := h0 HE.out
    exact ⟨g, by rw [HE.out, HKK.out]; rfl, ht, hb1⟩)
  have HAT := Lib.hid (fun B g w (h : Tab w B g l) => at39 B g l n w h hlen)
  obtain ⟨hf1, hf2⟩ := fnd_all l x
  have HFD := Lib.hid (show ∀ B g w, Tab w B g l → Calls Try.prog 40 #[.pointer (some ⟨g, 0, none⟩), .agg (labA x)] w fun e w' => e = .returned (.tuple #[.int .i64 (max (findI l x) 0), .bool (decide (0 ≤ findI l x))]) ∧ Below w.heap.size w w' from fun B g w h => by
    have h1 := find40 B g l x w h hl hx (fun j hj => bad0 (hbad j hj))
    rw [hf1, hf2] at h1
    exact h1)
  have HFI := Lib.hid (fun w' (hb : Below w.heap.size w w') => find41 l x A c w' (hA.below hb) hl hx hlen)
  have HAL := Lib.hid (show ∀ B g w, Tab w B g l → Calls Try.prog 42 #[.pointer (some ⟨g, 0, none⟩)] w fun e w' => ∃ A' c', e = .returned (.slice A' l.length c') ∧ SlA w' A' l ∧ Below w.heap.size w w' from fun B g w h => (all42 B g l w h (by omega)).mono fun e w' hh => by
    obtain ⟨v, rfl, ho, hb⟩ := hh
    obtain ⟨A', c', rfl, hs⟩ := labs_of_own ho
    exact ⟨A', c', rfl, hs, hb⟩)
  have HLN := Lib.hid (fun B g w (h : Tab w B g l) => len43 B g l w h)
  have HA := Lib.hid hA
  have HL := Lib.hid hl
  have HATL := Lib.hid (show atL l n = if 0 ≤ n ∧ n < l.length then labD l n.toNat else ⟨0, 0⟩ from rfl)
  have HATB := Lib.hid (show atB l n = (decide (0 ≤ n) && decide (n < l.length)) from rfl)
  have hfi : findI l x = -1 ∨ ∃ j : Nat, findI l x = j := by
    unfold findI
    split
    · exact .inr ⟨_, rfl⟩
    · exact .inl rfl
  clear hA hkk hbad hf1 hf2 he hl HN HE HKK
  generalize findI l x = fi at HFD HFI hfi
  generalize atL l n = X at HAT HATL
  generalize atB l n = XB at HAT HATB
  have hxb : (XB = true ∧ ∃ k : Nat, n = k ∧ k < l.length) ∨ (XB = false ∧ n < 0) ∨ (XB = false ∧ 0 ≤ n ∧ (l.length : Int) ≤ n) := by
    have h := HATB.out
    by_cases h1 : 0 ≤ n <;> by_cases h2 : n < l.length
    · exact .inl ⟨by rw [h]; simp [h1, h2], n.toNat, by omega, by omega⟩
    · exact .inr (.inr ⟨by rw [h]; simp [h2], h1, by omega⟩)
    · exact .inr (.inl ⟨by rw [h]; simp [h1], by omega⟩)
    · exact .inr (.inl ⟨by rw [h]; simp [h1], by omega⟩)
  have HXB := Lib.hid hxb
  clear hxb
  rcases hfi with rfl | ⟨j, rfl⟩
  · rw [show max (-1 : Int) 0 = 0 from rfl, show decide ((0 : Int) ≤ -1) = false from rfl] at HFD
    go_enter Try.func11, Try.ntmps11
    go_wp2_with (first
      | (go_at_call 32; refine (HN2.out _ HB.out).mono ?_; rintro e w1 ⟨g, rfl, ht, hb⟩; have HT1 := Lib.hid ht; have HB1 := Lib.hid (below_then HB.out HB.out.size hb); have K1 := Lib.hid (blk_below H0.out hb); clear hb ht)
      | (go_at_call 38; refine (HC.out _ HB1.out).mono ?_; rintro e w2 ⟨rfl, hb⟩; have HT2 := Lib.hid (HT1.out.below hb); have HB2 := Lib.hid (below_then HB1.out HB1.out.size hb); have K2 := Lib.hid (blk_below K1.out hb); clear hb)
      | (go_at_call 39; refine (HAT.out _ _ _ HT2.out).mono ?_; rintro e w3 ⟨rfl, hb⟩; have HT3 := Lib.hid ((HT2.out.below hb).below (bel_alloc (Below.refl w3.heap.size w3) (.cells (labA X) 25))); have HB3 := Lib.hid (bel_alloc (below_then HB2.out HB2.out.size hb) (.cells (labA X) 25)); have K3 := Lib.hid ((heap_alloc_old w3 (.cells (labA X) 25) (lt_of_block (blk_below K2.out hb))).trans (blk_below K2.out hb)); have M3 := Lib.hid (heap_alloc_new w3 (.cells (labA X) 25)); have N00 := Lib.hid (heap_alloc_new w3 (.cells z25 25)); have NA := Lib.hid (World.setRow_alloc_new w3 z25 (labA X) 25); unfold z25 at N00 NA; clear hb)
      | (refine wpList_store_row rfl 25 (.tmp 12) (.tmp 56) rfl w3.heap.size (labA X) rfl rfl 25 z25 N00.out (info25 _) (by rw [labA_size]; rfl) (all_oneCell_toArray (labL_one _)) ?_; rw [NA.out])
      | (refine wpList_load_row rfl 25 (.tmp 5) rfl w.heap.size rfl 25 (labA x) (0, 0) _ K3.out hu25 rfl (info25 _) ?_)
      | (go_at_call 40; refine (HFD.out _ _ _ HT3.out).mono ?_; rintro e w4 ⟨rfl, hb⟩; have HT4 := Lib.hid (HT3.out.below hb); have HB4 := Lib.hid (below_then HB3.out HB3.out.size hb); have K4 := Lib.hid (blk_below K3.out hb); have M4 := Lib.hid (blk_below M3.out hb); clear hb)
      | (refine wpList_load_row rfl 25 (.tmp 5) rfl w.heap.size rfl 25 (labA x) (0, 0) _ K4.out hu25 rfl (info25 _) ?_)
      | (go_at_call 41; refine (HFI.out _ HB4.out).mono ?_; rintro e w5 ⟨rfl, hb⟩; have HT5 := Lib.hid (HT4.out.below hb); have HB5 := Lib.hid (below_then HB4.out HB4.out.size hb); have M5 := Lib.hid (blk_below M4.out hb); clear hb)
      | (go_at_call 42; refine (HAL.out _ _ _ HT5.out).mono ?_; rintro e w6 ⟨A', c', rfl, hs, hb⟩; have HS6 := Lib.hid hs; have HT6 := Lib.hid (HT5.out.below hb); have HB6 := Lib.hid (below_then HB5.out HB5.out.size hb); have M6 := Lib.hid (blk_below M5.out hb); clear hb hs))
    generalize w3.heap.size = D at M6 ⊢
    clear HN2 HC HAT HFD HFI HAL K1 K2 K3 K4 M3 M4 M5 N00 NA HT1 HT2 HT3 HT4 HT5 HB HB1 HB2 HB3 HB4 HB5 H0 HATB
    rcases HXB.out with ⟨rfl, k, rfl, hk⟩ | ⟨rfl, hn⟩ | ⟨rfl, hn, hn2⟩
    · have e1 : decide ((0 : Int) ≤ (k : Int)) = true := decide_eq_true (by omega)
      have e2 : decide ((k : Int) < (l.length : Int)) = true := decide_eq_true (by omega)
      have e3 : (k : Int) < (l.length : Int) := by omega
      have hX : X = l[k] := by have h := HATL.out; rw [if_pos ⟨by omega, e3⟩, Int.toNat_natCast, labD_get hk] at h; exact h
      have HA6 := Lib.hid (HA.out.below HB6.out)
      obtain ⟨b, o, rfl, hb, hc⟩ := HA6.out (by omega)
      have hoX : LabOK X := by rw [hX]; exact HL.out _ (List.getElem_mem hk)
      have h1 := ld25 (hc k X (by rw [hX]; exact List.getElem?_eq_getElem hk))
      have h2 := ld25 (show w6.rangeAt D 0 (labL X) from range_lab M6.out)
      have heq := eq25 hoX.1 hoX.1 hoX.2 hoX.2
      rw [show decide (X = X) = true by simp] at heq
      have hgd := gd25
      have HLL := Lib.hid (HLN.out _ _ _ HT6.out)
      have HQ := Lib.hid (fun n => HLN.out _ _ (w6.drewN n) (HT6.out.drewN n))
      clear hX hc hoX HLL
      go_quiet ((go_at_call 43; exact quietL (HQ.out _)))
      clear h1 h2 heq
      go_wp2_with fail
      have B7 := Lib.hid (bel_drewN HB6.out nq)
      have HA7 := Lib.hid (show SlA (w6.drewN nq) (some ⟨b, o, none⟩) l from HA6.out)
      have HS7 := Lib.hid (show SlA (w6.drewN nq) A' l from HS6.out)
      generalize w6.drewN nq = w7 at B7 HA7 HS7 ⊢
      clear HS6 HT6 HB6 M6 HA
      go_loopg [18] 41 (fun gg s18 wr => ∃ i : Nat, i ≤ l.length ∧ 41 - i ≤ gg ∧ s18 = .int .i64 i ∧ Hid (Below w7.heap.size w7 wr))
      case atStart => exact ⟨0, Nat.zero_le _, Nat.sub_le _ _, rfl, Below.refl _ _⟩
      case round =>
        obtain ⟨i, hi, hgg, rfl, BR⟩ := hrel
        by_cases hlt : i < l.length
        · have d1 : decide ((i : Int) < (l.length : Int)) = true := decide_eq_true (by omega)
          have d2 : (0 : Int) ≤ (i : Int) := by omega
          have d3 : (i : Int) < (l.length : Int) := by omega
          have q1 : IntKind.i64.wrap ((i : Int) + 1) = (i : Int) + 1 := IntWalk.i64_in _ (by omega)
          have hy : l[i]? = some l[i] := List.getElem?_eq_getElem hlt
          have hoy := HL.out _ (List.getElem_mem hlt)
          obtain ⟨bq, oq, heqA, hbq, hcq⟩ := (HA7.out.below BR.out) (by omega)
          obtain ⟨rfl, rfl⟩ : b = bq ∧ o = oq := by simpa using heqA
          clear heqA
          obtain ⟨b2, o2, rfl, hb2, hc2⟩ := (HS7.out.below BR.out) (by omega)
          have h1 := ld25 (hcq i _ hy)
          have h2 := ld25 (hc2 i _ hy)
          have heq := eq25 hoy.1 hoy.1 hoy.2 hoy.2
          rw [show decide (l[i] = l[i]) = true by simp] at heq
          have hgd := gd25
          generalize l[i] = y at h1 h2 heq
          clear hoy hcq hc2 hy
          go_wp2_with fail
          go_quiet (fail)
          go_wp2_with fail
          go_roundg (41 - (i + 1))
          case measure => omega
          case rel => exact ⟨i + 1, hlt, Nat.le_refl _, rfl, Lib.hid (bel_drewN BR.out _)⟩
        · have d1 : decide ((i : Int) < (l.length : Int)) = false := decide_eq_false (by omega)
          go_wp2_with (go_at_call 31; refine (HK.out _).mono ?_; rintro e w8 ⟨rfl, hb⟩; have HB8 := Lib.hid (below_then B7.out B7.out.size (below_then BR.out BR.out.size hb)); clear hb)
          go_ret
          exact ⟨rfl, HB8.out⟩
    · have e1 : decide (0 ≤ n) = false := decide_eq_false (by omega)
      have HQ := Lib.hid (fun n => HLN.out _ _ (w6.drewN n) (HT6.out.drewN n))
      have HA := Lib.hid (HA.out.below HB6.out)
      go_quiet ((go_at_call 43; exact quietL (HQ.out _)))
      go_wp2_with fail
      have B7 := Lib.hid (bel_drewN HB6.out nq)
      have HA7 := Lib.hid (show SlA (w6.drewN nq) A l from HA.out)
      have HS7 := Lib.hid (show SlA (w6.drewN nq) A' l from HS6.out)
      generalize w6.drewN nq = w7 at B7 HA7 HS7 ⊢
      clear HS6 HT6 HB6 M6 HA
      go_loopg [18] 41 (fun gg s18 wr => ∃ i : Nat, i ≤ l.length ∧ 41 - i ≤ gg ∧ s18 = .int .i64 i ∧ Hid (Below w7.heap.size w7 wr))
      case atStart => exact ⟨0, Nat.zero_le _, Nat.sub_le _ _, rfl, Below.refl _ _⟩
      case round =>
        obtain ⟨i, hi, hgg, rfl, BR⟩ := hrel
        by_cases hlt : i < l.length
        · have d1 : decide ((i : Int) < (l.length : Int)) = true := decide_eq_true (by omega)
          have d2 : (0 : Int) ≤ (i : Int) := by omega
          have d3 : (i : Int) < (l.length : Int) := by omega
          have q1 : IntKind.i64.wrap ((i : Int) + 1) = (i : Int) + 1 := IntWalk.i64_in _ (by omega)
          have hy : l[i]? = some l[i] := List.getElem?_eq_getElem hlt
          have hoy := HL.out _ (List.getElem_mem hlt)
          obtain ⟨bq, oq, rfl, hbq, hcq⟩ := (HA7.out.below BR.out) (by omega)
          obtain ⟨b2, o2, rfl, hb2, hc2⟩ := (HS7.out.below BR.out) (by omega)
          have h1 := ld25 (hcq i _ hy)
          have h2 := ld25 (hc2 i _ hy)
          have heq := eq25 hoy.1 hoy.1 hoy.2 hoy.2
          rw [show decide (l[i] = l[i]) = true by simp] at heq
          have hgd := gd25
          generalize l[i] = y at h1 h2 heq
          clear hoy hcq hc2 hy
          go_wp2_with fail
          go_quiet (fail)
          go_wp2_with fail
          go_roundg (41 - (i + 1))
          case measure => omega
          case rel => exact ⟨i + 1, hlt, Nat.le_refl _, rfl, Lib.hid (bel_drewN BR.out _)⟩
        · have d1 : decide ((i : Int) < (l.length : Int)) = false := decide_eq_false (by omega)
          go_wp2_with (go_at_call 31; refine (HK.out _).mono ?_; rintro e w8 ⟨rfl, hb⟩; have HB8 := Lib.hid (below_then B7.out B7.out.size (below_then BR.out BR.out.size hb)); clear hb)
          go_ret
          exact ⟨rfl, HB8.out⟩
    · have e1 : decide (0 ≤ n) = true := decide_eq_true (by omega)
      have e2 : decide (n < (l.length : Int)) = false := decide_eq_false (by omega)
      have HQ := Lib.hid (fun n => HLN.out _ _ (w6.drewN n) (HT6.out.drewN n))
      have HA := Lib.hid (HA.out.below HB6.out)
      go_quiet ((go_at_call 43; exact quietL (HQ.out _)))
      go_wp2_with fail
      have B7 := Lib.hid (bel_drewN HB6.out nq)
      have HA7 := Lib.hid (show SlA (w6.drewN nq) A l from HA.out)
      have HS7 := Lib.hid (show SlA (w6.drewN nq) A' l from HS6.out)
      generalize w6.drewN nq = w7 at B7 HA7 HS7 ⊢
      clear HS6 HT6 HB6 M6 HA
      go_loopg [18] 41 (fun gg s18 wr => ∃ i : Nat, i ≤ l.length ∧ 41 - i ≤ gg ∧ s18 = .int .i64 i ∧ Hid (Below w7.heap.size w7 wr))
      case atStart => exact ⟨0, Nat.zero_le _, Nat.sub_le _ _, rfl, Below.refl _ _⟩
      case round =>
        obtain ⟨i, hi, hgg, rfl, BR⟩ := hrel
        by_cases hlt : i < l.length
        · have d1 : decide ((i : Int) < (l.length : Int)) = true := decide_eq_true (by omega)
          have d2 : (0 : Int) ≤ (i : Int) := by omega
          have d3 : (i : Int) < (l.length : Int) := by omega
          have q1 : IntKind.i64.wrap ((i : Int) + 1) = (i : Int) + 1 := IntWalk.i64_in _ (by omega)
          have hy : l[i]? = some l[i] := List.getElem?_eq_getElem hlt
          have hoy := HL.out _ (List.getElem_mem hlt)
          obtain ⟨bq, oq, rfl, hbq, hcq⟩ := (HA7.out.below BR.out) (by omega)
          obtain ⟨b2, o2, rfl, hb2, hc2⟩ := (HS7.out.below BR.out) (by omega)
          have h1 := ld25 (hcq i _ hy)
          have h2 := ld25 (hc2 i _ hy)
          have heq := eq25 hoy.1 hoy.1 hoy.2 hoy.2
          rw [show decide (l[i] = l[i]) = true by simp] at heq
          have hgd := gd25
          generalize l[i] = y at h1 h2 heq
          clear hoy hcq hc2 hy
          go_wp2_with fail
          go_quiet (fail)
          go_wp2_with fail
          go_roundg (41 - (i + 1))
          case measure => omega
          case rel => exact ⟨i + 1, hlt, Nat.le_refl _, rfl, Lib.hid (bel_drewN BR.out _)⟩
        · have d1 : decide ((i : Int) < (l.length : Int)) = false := decide_eq_false (by omega)
          go_wp2_with (go_at_call 31; refine (HK.out _).mono ?_; rintro e w8 ⟨rfl, hb⟩; have HB8 := Lib.hid (below_then B7.out B7.out.size (below_then BR.out BR.out.size hb)); clear hb)
          go_ret
          exact ⟨rfl, HB8.out⟩
  · rw [show max (j : Int) 0 = j by omega, show decide (0 ≤ (j : Int)) = true by simp] at HFD
    go_enter Try.func11, Try.ntmps11
    go_wp2_with (first
      | (go_at_call 32; refine (HN2.out _ HB.out).mono ?_; rintro e w1 ⟨g, rfl, ht, hb⟩; have HT1 := Lib.hid ht; have HB1 := Lib.hid (below_then HB.out HB.out.size hb); have K1 := Lib.hid (blk_below H0.out hb); clear hb ht)
      | (go_at_call 38; refine (HC.out _ HB1.out).mono ?_; rintro e w2 ⟨rfl, hb⟩; have HT2 := Lib.hid (HT1.out.below hb); have HB2 := Lib.hid (below_then HB1.out HB1.out.size hb); have K2 := Lib.hid (blk_below K1.out hb); clear hb)
      | (go_at_call 39; refine (HAT.out _ _ _ HT2.out).mono ?_; rintro e w3 ⟨rfl, hb⟩; have HT3 := Lib.hid ((HT2.out.below hb).below (bel_alloc (Below.refl w3.heap.size w3) (.cells (labA X) 25))); have HB3 := Lib.hid (bel_alloc (below_then HB2.out HB2.out.size hb) (.cells (labA X) 25)); have K3 := Lib.hid ((heap_alloc_old w3 (.cells (labA X) 25) (lt_of_block (blk_below K2.out hb))).trans (blk_below K2.out hb)); have M3 := Lib.hid (heap_alloc_new w3 (.cells (labA X) 25)); have N00 := Lib.hid (heap_alloc_new w3 (.cells z25 25)); have NA := Lib.hid (World.setRow_alloc_new w3 z25 (labA X) 25); unfold z25 at N00 NA; clear hb)
      | (refine wpList_store_row rfl 25 (.tmp 12) (.tmp 56) rfl w3.heap.size (labA X) rfl rfl 25 z25 N00.out (info25 _) (by rw [labA_size]; rfl) (all_oneCell_toArray (labL_one _)) ?_; rw [NA.out])
      | (refine wpList_load_row rfl 25 (.tmp 5) rfl w.heap.size rfl 25 (labA x) (0, 0) _ K3.out hu25 rfl (info25 _) ?_)
      | (go_at_call 40; refine (HFD.out _ _ _ HT3.out).mono ?_; rintro e w4 ⟨rfl, hb⟩; have HT4 := Lib.hid (HT3.out.below hb); have HB4 := Lib.hid (below_then HB3.out HB3.out.size hb); have K4 := Lib.hid (blk_below K3.out hb); have M4 := Lib.hid (blk_below M3.out hb); clear hb)
      | (refine wpList_load_row rfl 25 (.tmp 5) rfl w.heap.size rfl 25 (labA x) (0, 0) _ K4.out hu25 rfl (info25 _) ?_)
      | (go_at_call 41; refine (HFI.out _ HB4.out).mono ?_; rintro e w5 ⟨rfl, hb⟩; have HT5 := Lib.hid (HT4.out.below hb); have HB5 := Lib.hid (below_then HB4.out HB4.out.size hb); have M5 := Lib.hid (blk_below M4.out hb); clear hb)
      | (go_at_call 42; refine (HAL.out _ _ _ HT5.out).mono ?_; rintro e w6 ⟨A', c', rfl, hs, hb⟩; have HS6 := Lib.hid hs; have HT6 := Lib.hid (HT5.out.below hb); have HB6 := Lib.hid (below_then HB5.out HB5.out.size hb); have M6 := Lib.hid (blk_below M5.out hb); clear hb hs))
    generalize w3.heap.size = D at M6 ⊢
    clear HN2 HC HAT HFD HFI HAL K1 K2 K3 K4 M3 M4 M5 N00 NA HT1 HT2 HT3 HT4 HT5 HB HB1 HB2 HB3 HB4 HB5 H0 HATB
    rcases HXB.out with ⟨rfl, k, rfl, hk⟩ | ⟨rfl, hn⟩ | ⟨rfl, hn, hn2⟩
    · have e1 : decide ((0 : Int) ≤ (k : Int)) = true := decide_eq_true (by omega)
      have e2 : decide ((k : Int) < (l.length : Int)) = true := decide_eq_true (by omega)
      have e3 : (k : Int) < (l.length : Int) := by omega
      have hX : X = l[k] := by have h := HATL.out; rw [if_pos ⟨by omega, e3⟩, Int.toNat_natCast, labD_get hk] at h; exact h
      have HA6 := Lib.hid (HA.out.below HB6.out)
      obtain ⟨b, o, rfl, hb, hc⟩ := HA6.out (by omega)
      have hoX : LabOK X := by rw [hX]; exact HL.out _ (List.getElem_mem hk)
      have h1 := ld25 (hc k X (by rw [hX]; exact List.getElem?_eq_getElem hk))
      have h2 := ld25 (show w6.rangeAt D 0 (labL X) from range_lab M6.out)
      have heq := eq25 hoX.1 hoX.1 hoX.2 hoX.2
      rw [show decide (X = X) = true by simp] at heq
      have hgd := gd25
      have HLL := Lib.hid (HLN.out _ _ _ HT6.out)
      have HQ := Lib.hid (fun n => HLN.out _ _ (w6.drewN n) (HT6.out.drewN n))
      clear hX hc hoX HLL
      go_quiet ((go_at_call 43; exact quietL (HQ.out _)))
      clear h1 h2 heq
      go_wp2_with fail
      have B7 := Lib.hid (bel_drewN HB6.out nq)
      have HA7 := Lib.hid (show SlA (w6.drewN nq) (some ⟨b, o, none⟩) l from HA6.out)
      have HS7 := Lib.hid (show SlA (w6.drewN nq) A' l from HS6.out)
      generalize w6.drewN nq = w7 at B7 HA7 HS7 ⊢
      clear HS6 HT6 HB6 M6 HA
      go_loopg [18] 41 (fun gg s18 wr => ∃ i : Nat, i ≤ l.length ∧ 41 - i ≤ gg ∧ s18 = .int .i64 i ∧ Hid (Below w7.heap.size w7 wr))
      case atStart => exact ⟨0, Nat.zero_le _, Nat.sub_le _ _, rfl, Below.refl _ _⟩
      case round =>
        obtain ⟨i, hi, hgg, rfl, BR⟩ := hrel
        by_cases hlt : i < l.length
        · have d1 : decide ((i : Int) < (l.length : Int)) = true := decide_eq_true (by omega)
          have d2 : (0 : Int) ≤ (i : Int) := by omega
          have d3 : (i : Int) < (l.length : Int) := by omega
          have q1 : IntKind.i64.wrap ((i : Int) + 1) = (i : Int) + 1 := IntWalk.i64_in _ (by omega)
          have hy : l[i]? = some l[i] := List.getElem?_eq_getElem hlt
          have hoy := HL.out _ (List.getElem_mem hlt)
          obtain ⟨bq, oq, heqA, hbq, hcq⟩ := (HA7.out.below BR.out) (by omega)
          obtain ⟨rfl, rfl⟩ : b = bq ∧ o = oq := by simpa using heqA
          clear heqA
          obtain ⟨b2, o2, rfl, hb2, hc2⟩ := (HS7.out.below BR.out) (by omega)
          have h1 := ld25 (hcq i _ hy)
          have h2 := ld25 (hc2 i _ hy)
          have heq := eq25 hoy.1 hoy.1 hoy.2 hoy.2
          rw [show decide (l[i] = l[i]) = true by simp] at heq
          have hgd := gd25
          generalize l[i] = y at h1 h2 heq
          clear hoy hcq hc2 hy
          go_wp2_with fail
          go_quiet (fail)
          go_wp2_with fail
          go_roundg (41 - (i + 1))
          case measure => omega
          case rel => exact ⟨i + 1, hlt, Nat.le_refl _, rfl, Lib.hid (bel_drewN BR.out _)⟩
        · have d1 : decide ((i : Int) < (l.length : Int)) = false := decide_eq_false (by omega)
          go_wp2_with (go_at_call 31; refine (HK.out _).mono ?_; rintro e w8 ⟨rfl, hb⟩; have HB8 := Lib.hid (below_then B7.out B7.out.size (below_then BR.out BR.out.size hb)); clear hb)
          go_ret
          exact ⟨rfl, HB8.out⟩
    · have e1 : decide (0 ≤ n) = false := decide_eq_false (by omega)
      have HQ := Lib.hid (fun n => HLN.out _ _ (w6.drewN n) (HT6.out.drewN n))
      have HA := Lib.hid (HA.out.below HB6.out)
      go_quiet ((go_at_call 43; exact quietL (HQ.out _)))
      go_wp2_with fail
      have B7 := Lib.hid (bel_drewN HB6.out nq)
      have HA7 := Lib.hid (show SlA (w6.drewN nq) A l from HA.out)
      have HS7 := Lib.hid (show SlA (w6.drewN nq) A' l from HS6.out)
      generalize w6.drewN nq = w7 at B7 HA7 HS7 ⊢
      clear HS6 HT6 HB6 M6 HA
      go_loopg [18] 41 (fun gg s18 wr => ∃ i : Nat, i ≤ l.length ∧ 41 - i ≤ gg ∧ s18 = .int .i64 i ∧ Hid (Below w7.heap.size w7 wr))
      case atStart => exact ⟨0, Nat.zero_le _, Nat.sub_le _ _, rfl, Below.refl _ _⟩
      case round =>
        obtain ⟨i, hi, hgg, rfl, BR⟩ := hrel
        by_cases hlt : i < l.length
        · have d1 : decide ((i : Int) < (l.length : Int)) = true := decide_eq_true (by omega)
          have d2 : (0 : Int) ≤ (i : Int) := by omega
          have d3 : (i : Int) < (l.length : Int) := by omega
          have q1 : IntKind.i64.wrap ((i : Int) + 1) = (i : Int) + 1 := IntWalk.i64_in _ (by omega)
          have hy : l[i]? = some l[i] := List.getElem?_eq_getElem hlt
          have hoy := HL.out _ (List.getElem_mem hlt)
          obtain ⟨bq, oq, rfl, hbq, hcq⟩ := (HA7.out.below BR.out) (by omega)
          obtain ⟨b2, o2, rfl, hb2, hc2⟩ := (HS7.out.below BR.out) (by omega)
          have h1 := ld25 (hcq i _ hy)
          have h2 := ld25 (hc2 i _ hy)
          have heq := eq25 hoy.1 hoy.1 hoy.2 hoy.2
          rw [show decide (l[i] = l[i]) = true by simp] at heq
          have hgd := gd25
          generalize l[i] = y at h1 h2 heq
          clear hoy hcq hc2 hy
          go_wp2_with fail
          go_quiet (fail)
          go_wp2_with fail
          go_roundg (41 - (i + 1))
          case measure => omega
          case rel => exact ⟨i + 1, hlt, Nat.le_refl _, rfl, Lib.hid (bel_drewN BR.out _)⟩
        · have d1 : decide ((i : Int) < (l.length : Int)) = false := decide_eq_false (by omega)
          go_wp2_with (go_at_call 31; refine (HK.out _).mono ?_; rintro e w8 ⟨rfl, hb⟩; have HB8 := Lib.hid (below_then B7.out B7.out.size (below_then BR.out BR.out.size hb)); clear hb)
          go_ret
          exact ⟨rfl, HB8.out⟩
    · have e1 : decide (0 ≤ n) = true := decide_eq_true (by omega)
      have e2 : decide (n < (l.length : Int)) = false := decide_eq_false (by omega)
      have HQ := Lib.hid (fun n => HLN.out _ _ (w6.drewN n) (HT6.out.drewN n))
      have HA := Lib.hid (HA.out.below HB6.out)
      go_quiet ((go_at_call 43; exact quietL (HQ.out _)))
      go_wp2_with fail
      have B7 := Lib.hid (bel_drewN HB6.out nq)
      have HA7 := Lib.hid (show SlA (w6.drewN nq) A l from HA.out)
      have HS7 := Lib.hid (show SlA (w6.drewN nq) A' l from HS6.out)
      generalize w6.drewN nq = w7 at B7 HA7 HS7 ⊢
      clear HS6 HT6 HB6 M6 HA
      go_loopg [18] 41 (fun gg s18 wr => ∃ i : Nat, i ≤ l.length ∧ 41 - i ≤ gg ∧ s18 = .int .i64 i ∧ Hid (Below w7.heap.size w7 wr))
      case atStart => exact ⟨0, Nat.zero_le _, Nat.sub_le _ _, rfl, Below.refl _ _⟩
      case round =>
        obtain ⟨i, hi, hgg, rfl, BR⟩ := hrel
        by_cases hlt : i < l.length
        · have d1 : decide ((i : Int) < (l.length : Int)) = true := decide_eq_true (by omega)
          have d2 : (0 : Int) ≤ (i : Int) := by omega
          have d3 : (i : Int) < (l.length : Int) := by omega
          have q1 : IntKind.i64.wrap ((i : Int) + 1) = (i : Int) + 1 := IntWalk.i64_in _ (by omega)
          have hy : l[i]? = some l[i] := List.getElem?_eq_getElem hlt
          have hoy := HL.out _ (List.getElem_mem hlt)
          obtain ⟨bq, oq, rfl, hbq, hcq⟩ := (HA7.out.below BR.out) (by omega)
          obtain ⟨b2, o2, rfl, hb2, hc2⟩ := (HS7.out.below BR.out) (by omega)
          have h1 := ld25 (hcq i _ hy)
          have h2 := ld25 (hc2 i _ hy)
          have heq := eq25 hoy.1 hoy.1 hoy.2 hoy.2
          rw [show decide (l[i] = l[i]) = true by simp] at heq
          have hgd := gd25
          generalize l[i] = y at h1 h2 heq
          clear hoy hcq hc2 hy
          go_wp2_with fail
          go_quiet (fail)
          go_wp2_with fail
          go_roundg (41 - (i + 1))
          case measure => omega
          case rel => exact ⟨i + 1, hlt, Nat.le_refl _, rfl, Lib.hid (bel_drewN BR.out _)⟩
        · have d1 : decide ((i : Int) < (l.length : Int)) = false := decide_eq_false (by omega)
          go_wp2_with (go_at_call 31; refine (HK.out _).mono ?_; rintro e w8 ⟨rfl, hb⟩; have HB8 := Lib.hid (below_then B7.out B7.out.size (below_then BR.out BR.out.size hb)); clear hb)
          go_ret
          exact ⟨rfl, HB8.out⟩
theorem news11 (l : List Lab) (n : Int) (x : Lab) (A : Option Addr) (c : Nat) (w : World) (hA : SlA w A l) (hl : ∀ y ∈ l, LabOK y) (hx : LabOK x) :
    Calls Try.prog 11 #[.slice A l.length c, .int .i64 n, .agg (labA x)] w fun e w' => e = .returned (.bool true) ∧ Below w.heap.size w w' := by
  by_cases h : 40 < l.length
  · exact news11_long l n x A c w h
  · by_cases he : chkE l = 0
    · exact news11_ok l n x A c w hA hl hx (by omega) he
    · exact news11_no l n x A c w hA hl (by omega) he
end Go.Proofs.Ytifmckhabkghcaa.P
