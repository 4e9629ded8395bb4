/- CountPlays: the walk. For the program's counters (layer 26); the acts in memory. -/
import Derived.Test.YtkpnbkcebpeaoaaF4
import Derived.Deep.CutRange
namespace Go.Proofs.Ytkpnbkcebpeaoaa.P
open Go.RowKit

theorem lns_get : ∀ (l : List LineC) (j : Nat) (y : LineC), l[j]? = some y → ∀ i, i < 7 → (lns l)[j * 7 + i]? = (lnC y)[i]?
  | [], _, _, h, _, _ => by simp at h
  | x :: l, 0, y, h, i, hi => by
    obtain rfl : x = y := by simpa using h
    rw [Nat.zero_mul, Nat.zero_add, show lns (x :: l) = lnC x ++ lns l by simp [lns], List.getElem?_append_left (by simp [lnC]; omega)]
  | x :: l, j + 1, y, h, i, hi => by
    have ih := lns_get l j y (by simpa using h) i hi
    rw [show lns (x :: l) = lnC x ++ lns l by simp [lns], List.getElem?_append_right (by simp [lnC]; omega)]
    rw [← ih]
    congr 1
    simp [lnC]
    omega
/-- Lines, with where they lie. -/
theorem linesP (w : World) (B G : Nat) (v : Value) (c : List Int) (l : List LineC) (room lost : Int) (h : Led w B v c l room lost) (hn : l.length ≤ 1000) (hG : G < w.heap.size) :
    Calls Try.prog 9 #[.pointer (some ⟨B, 0, none⟩)] w fun e w' => ∃ nv, e = .returned nv ∧ LnS w' G nv l ∧ Led w' B v c l room lost ∧ Below w.heap.size w w' := by
  refine (lines9 w B v c _ _ _ h hn).mono ?_
  rintro e w' ⟨v', rfl, ho, hb⟩
  refine ⟨v', rfl, ?_, h.below hb, hb⟩
  rcases ho.2 with ⟨rfl, h0⟩ | ⟨g, cap, cur, rfl, hg, hgg, hcap, _⟩
  · have : l = [] := List.length_eq_zero_iff.1 h0
    subst this
    exact LnS.nil _ _
  · refine ⟨some ⟨g, 0, none⟩, cap, rfl, hcap, fun h => (by cases h), fun a ha => ?_⟩
    cases ha
    refine ⟨rfl, Nat.lt_of_lt_of_le hG hg, lt_of_block hgg, fun j u hu => ?_⟩
    have := ho.cells (g := g) rfl j u hu
    rw [Addr.add_lit] at this
    exact this

set_option maxRecDepth 100000 in
set_option maxHeartbeats 3000000 in
theorem plays4 (room r : Int) (hrm2 : room ≤ 9223372036854775807) (A : Option Addr) (cap : Nat) (acts : List ActC) (w : World) (ha : ActsAt w A acts) :
    Calls Try.prog 4 #[.int .i64 room, .slice A acts.length cap, .int .i64 r] w fun e w' => e = .returned (.bool true) ∧ Below w.heap.size w w' := by
  have hu27 := Try.underlying27
  have hu31 := Try.underlying31
  have hu33 := Try.underlying33
  have hu22 := Try.underlying22
  have hu34 := Try.underlying34
  have hu37 := Try.underlying37
  have hu42 := Try.underlying42
  have HW : Hid _ := awake7
  have HA : Hid _ := ha
  have HN : Hid _ := new8 0 0 0 0 room 0 0 0 0
  clear ha
  obtain ⟨n, hn⟩ : ∃ n, n = acts.length := ⟨_, rfl⟩
  have HNN : Hid _ := hn
  rw [← hn]
  clear hn
  by_cases hlen : (n : Int) > 100
  · go_enter Try.func4, Try.ntmps4
    go_wp2_with (go_at_call 7; refine (HW.out _).mono ?_; rintro e w7 ⟨rfl, hb7⟩; have B7 : Hid _ := hb7; clear hb7)
    go_ret
    exact ⟨rfl, B7.out⟩
  · go_enter Try.func4, Try.ntmps4
    go_wp2_with (first
      | (go_at_call 7; refine (HW.out _).mono ?_; rintro e w7 ⟨rfl, hb7⟩; have B7 : Hid _ := hb7; clear hb7)
      | (go_at_call 8; refine (HN.out _).mono ?_; rintro e w8 ⟨rfl, hL8, hb8⟩; have L8 : Hid _ := hL8; have B8 : Hid _ := hb8; clear hL8 hb8))
    generalize hBB : w7.heap.size + 1 = B at *
    have HBB : Hid _ := hBB
    clear hBB
    have BW : Hid (Below w.heap.size w w8) := bel_trans B7.out B8.out
    have hB0 : w.heap.size ≤ B := by have := B7.out.size; have := HBB.out; omega
    generalize hrr : max room 0 = rm at *
    have HRM : Hid _ := hrr
    have hrm0 : 0 ≤ rm := by omega
    have hrm1 : rm ≤ 9223372036854775807 := by omega
    clear hrr
    have CN : Hid (Cnt (w8.alloc (.cells #[.int .i64 0, .int .i64 0, .int .i64 0, .int .i64 0, .int .i64 0, .int .i64 0, .int .i64 0, .int .i64 0, .int .i64 0, .int .i64 0, .int .i64 0, .int .i64 0, .int .i64 0, .int .i64 0, .int .i64 0, .int .i64 0] 37)) w8.heap.size (List.replicate 16 0)) := ⟨rfl, heap_alloc_new w8 _⟩
    have LW : Hid _ := L8.out.alloc (.cells #[.int .i64 0, .int .i64 0, .int .i64 0, .int .i64 0, .int .i64 0, .int .i64 0, .int .i64 0, .int .i64 0, .int .i64 0, .int .i64 0, .int .i64 0, .int .i64 0, .int .i64 0, .int .i64 0, .int .i64 0, .int .i64 0] 37)
    have BN : Hid (Below w.heap.size w (w8.alloc (.cells #[.int .i64 0, .int .i64 0, .int .i64 0, .int .i64 0, .int .i64 0, .int .i64 0, .int .i64 0, .int .i64 0, .int .i64 0, .int .i64 0, .int .i64 0, .int .i64 0, .int .i64 0, .int .i64 0, .int .i64 0, .int .i64 0] 37))) := BW.out.alloc BW.out.size _
    have hBG : B < w8.heap.size := L8.out.lt
    generalize w8.alloc (.cells #[.int .i64 0, .int .i64 0, .int .i64 0, .int .i64 0, .int .i64 0, .int .i64 0, .int .i64 0, .int .i64 0, .int .i64 0, .int .i64 0, .int .i64 0, .int .i64 0, .int .i64 0, .int .i64 0, .int .i64 0, .int .i64 0] 37) = W0 at CN LW BN ⊢
    generalize w8.heap.size = G at CN hBG ⊢
    go_loopg [9, 10, 11] n (fun gg s9 s10 s11 wr => ∃ (kk : Nat) (c : List Int) (l : List LineC) (lost : Int) (v lv : Value), kk ≤ n ∧ n - kk ≤ gg ∧ s9 = lv ∧ s10 = .int .i64 lost ∧ s11 = .int .i64 kk ∧
      Hid (Led wr B v c l rm lost) ∧ Hid (Cnt wr G c) ∧ Hid (LnS wr G lv l) ∧ Hid (v.ownBlock ≠ some G) ∧ Hid (∀ g, lv.ownBlock = some g → v.ownBlock ≠ some g) ∧ Hid (InvP rm kk c l lost) ∧ Hid (Below w.heap.size w wr))
    case atStart => exact ⟨0, _, _, 0, _, _, Nat.zero_le _, by omega, rfl, rfl, rfl, LW.out, CN.out, LnS.nil _ _, by simp [Hid, Value.ownBlock], by simp [Hid, Value.ownBlock], InvP.start hrm0, BN.out⟩
    case round =>
      obtain ⟨kk, c, l, lost, v, lv, hkk, hg, rfl, rfl, rfl, LD, CT, LS, VG, VL, IV, BR⟩ := hrel
      by_cases hlt : kk < n
      · have hltz : (kk : Int) < (n : Int) := by omega
        have h0 : (0 : Int) ≤ (kk : Int) := by omega
        have hact : kk < acts.length := by rw [← HNN.out]; exact hlt
        obtain ⟨x, hx⟩ : ∃ x, acts[kk]? = some x := ⟨_, List.getElem?_eq_getElem hact⟩
        obtain ⟨ad, eA, hbk, r0, r1, r2, r3, r4, r5, r6, r7⟩ := HA.out kk x hx
        have q0 := (BR.out.cell (p := ad.add (kk * 8)) hbk).trans r0
        have q1 := (BR.out.cell (p := ⟨(ad.add (kk * 8)).block, (ad.add (kk * 8)).off + 1, none⟩) hbk).trans r1
        have q2 := (BR.out.cell (p := ⟨(ad.add (kk * 8)).block, (ad.add (kk * 8)).off + 2, none⟩) hbk).trans r2
        have q3 := (BR.out.cell (p := ⟨(ad.add (kk * 8)).block, (ad.add (kk * 8)).off + 3, none⟩) hbk).trans r3
        have q4 := (BR.out.cell (p := ⟨(ad.add (kk * 8)).block, (ad.add (kk * 8)).off + 4, none⟩) hbk).trans r4
        have q5 := (BR.out.cell (p := ⟨(ad.add (kk * 8)).block, (ad.add (kk * 8)).off + 5, none⟩) hbk).trans r5
        have q6 := (BR.out.cell (p := ⟨(ad.add (kk * 8)).block, (ad.add (kk * 8)).off + 6, none⟩) hbk).trans r6
        have q7 := (BR.out.cell (p := ⟨(ad.add (kk * 8)).block, (ad.add (kk * 8)).off + 7, none⟩) hbk).trans r7
        clear r0 r1 r2 r3 r4 r5 r6 r7
        subst eA
        clear hx hact
        obtain ⟨xb, xt, xr, xs, xd, xp, xsp, xdp⟩ := x
        have hll : l.length ≤ 1000 := by have := IV.out.ll; omega
        obtain ⟨LA, lc, rfl, hlc, hln, hla⟩ := LS.out
        have HLN : Hid _ := hln
        have HLA : Hid _ := hla
        clear hln hla
        cases xb with
        | true =>
          have LK : Hid _ := LD.out.alloc (.cells #[.bool true, .int .i64 xt, .int .i64 xr, .int .u32 xs, .int .u32 xd, .int .i64 xp, .int .i64 xsp, .int .i64 xdp] 33)
          have BK : Hid (Below wr.heap.size wr (wr.alloc (.cells #[.bool true, .int .i64 xt, .int .i64 xr, .int .u32 xs, .int .u32 xd, .int .i64 xp, .int .i64 xsp, .int .i64 xdp] 33))) := (Below.refl _ _).alloc (Nat.le_refl _) _
          have CL : Hid _ := clear10 _ _ _ _ _ _ _ LK.out
          go_wp2_with (go_at_call 10; refine Calls.mono CL.out ?_; rintro e w2 ⟨rfl, hL2, hf2⟩; have L2 : Hid _ := hL2; have F2 : Hid _ := hf2; clear hL2 hf2)
          go_roundg (n - (kk + 1))
          case measure => omega
          case rel =>
            have hB2 := F2.out.below (fun k hk => by cases hk) (Nat.le_of_lt LK.out.lt)
            have hG : w2.heap[G]? = wr.heap[G]? := (F2.out.block G (Nat.lt_of_lt_of_le CT.out.lt BK.out.size) (by omega) (by simp)).trans (BK.out.block G CT.out.lt)
            refine ⟨kk + 1, c, [], lost, .slice none 0 0, .slice none 0 0, by omega, by omega, rfl, rfl, by go_num, L2.out, CT.out.kept hG, LnS.nil _ _, by simp [Hid, Value.ownBlock], by simp [Hid, Value.ownBlock], IV.out.clear, ?_⟩
            exact (BR.out.trans (BK.out.mono BR.out.size)).trans (hB2.mono hB0)
        | false =>
          have LK : Hid _ := LD.out.alloc (.cells #[.bool false, .int .i64 xt, .int .i64 xr, .int .u32 xs, .int .u32 xd, .int .i64 xp, .int .i64 xsp, .int .i64 xdp] 33)
          have BK : Hid (Below wr.heap.size wr (wr.alloc (.cells #[.bool false, .int .i64 xt, .int .i64 xr, .int .u32 xs, .int .u32 xd, .int .i64 xp, .int .i64 xsp, .int .i64 xdp] 33))) := (Below.refl _ _).alloc (Nat.le_refl _) _
          cases hr : okR xr with
          | false =>
            have HD : Hid _ := add11_no (wr.alloc (.cells #[.bool false, .int .i64 xt, .int .i64 xr, .int .u32 xs, .int .u32 xd, .int .i64 xp, .int .i64 xsp, .int .i64 xdp] 33)) B xt xr xs xd xp xsp xdp hr
            have hnm : ¬ (0 ≤ xr ∧ xr < 16) := fun h => by simp [okR, h.1, h.2] at hr
            clear hr
            go_wp2_with (first
              | (go_at_call 11; refine Calls.mono HD.out ?_; rintro e w3 ⟨rfl, hb3⟩; have LX : Hid _ := linesP _ _ G _ _ _ _ _ (LK.out.below hb3) hll (Nat.lt_of_lt_of_le (Nat.lt_of_lt_of_le CT.out.lt BK.out.size) hb3.size); have B3 : Hid _ := hb3; clear hb3)
              | (go_at_call 9; refine Calls.mono LX.out ?_; rintro e w4 ⟨nv, rfl, ⟨NA, nc, rfl, hnc, hnn, hna⟩, hL4, hb4⟩; have HNN2 : Hid _ := hnn; have HNA : Hid _ := hna; have L4 : Hid _ := hL4; have B4 : Hid _ := hb4; have L13 : Hid _ := lost13 _ _ _ _ _ _ _ (hL4.below (Below.refl _ _).drew); have C12 : Hid _ := counts12 _ _ _ _ _ _ _ (hL4.below (Below.refl _ _).drew); clear hnn hna hL4 hb4))
            all_goals
              have RG : Hid (w4.rangeAt G 0 (c.map (Value.int .i64))) := by
                have hb : w4.heap[G]? = wr.heap[G]? := (((BK.out.trans (B3.out.mono BK.out.size)).trans (B4.out.mono (Nat.le_trans BK.out.size B3.out.size))).block G CT.out.lt)
                have hc := (CT.out.kept hb)
                intro j u hu
                rw [Nat.zero_add, cell_of_row _ _ _ _ _ _ hc.2]
                simpa using hu
              have hi37 : (Try.prog.info? 37).map (·.size) = some (c.map (Value.int .i64)).length := by rw [List.length_map, CT.out.1]; kernel_rfl
              have hl37 : (c.map (Value.int .i64)).length = 16 := by rw [List.length_map]; exact CT.out.1
              have ho37 : ∀ v ∈ c.map (Value.int .i64), v.oneCell' = true := by intro v hv; obtain ⟨y, _, rfl⟩ := List.mem_map.1 hv; rfl
              have heq := eq37 c CT.out.1
              have hgd := gd37
              generalize hcs : c.map (Value.int .i64) = cs at RG hi37 hl37 ho37 heq C12
              have hrg := RG.out
              clear hcs
              have hGlt : G < w4.heap.size := Nat.lt_of_lt_of_le CT.out.lt (Nat.le_trans BK.out.size (Nat.le_trans B3.out.size B4.out.size))
              go_region_held3 (fun w' => w'.rangeAt G 0 cs) (first | exact hr5 | go_keep_ranges) ((first | (go_at_call 13; refine Calls.mono L13.out ?_; rintro e w5 ⟨rfl, rfl⟩) | (go_at_call 12; refine Calls.mono C12.out ?_; rintro e w5 ⟨rfl, hb5⟩; have hr5 : w5.rangeAt G 0 cs := fun j u hu => (hb5.cell (p := ⟨G, 0 + j, none⟩) hGlt).trans (hrg j u hu); have B5 : Hid _ := hb5; clear hb5)))
              go_wp2_with fail
              go_loopg [15] l.length (fun gg s15 wr2 => ∃ j : Nat, j ≤ l.length ∧ l.length - j ≤ gg ∧ s15 = .int .i64 j ∧ Hid (Below w5.heap.size w5 wr2))
              case atStart => exact ⟨0, Nat.zero_le _, by omega, rfl, Below.refl _ _⟩
              case round =>
                obtain ⟨j, hj, hg3, rfl, BJ⟩ := hrel
                by_cases hjl : j < l.length
                · have hjz : (j : Int) < (l.length : Int) := by omega
                  have hj0 : (0 : Int) ≤ (j : Int) := by omega
                  obtain ⟨y, hy⟩ : ∃ y, l[j]? = some y := ⟨_, List.getElem?_eq_getElem hjl⟩
                  have k1 := BK.out.trans (B3.out.mono BK.out.size)
                  have k2 := k1.trans (B4.out.mono k1.size)
                  have k3 := k2.drew.trans (B5.out.mono k2.size)
                  have K4 : Hid _ := k3.trans (BJ.out.mono k3.size)
                  have K5 : Hid _ := B5.out.trans (BJ.out.mono B5.out.size)
                  clear k1 k2 k3
                  cases NA with
                  | none => exact absurd (HNN2.out rfl).1 (by intro e; subst e; simp at hjl)
                  | some a =>
                  cases LA with
                  | none => exact absurd (HLN.out rfl).1 (by intro e; subst e; simp at hjl)
                  | some b =>
                    obtain ⟨ab, ao, asp⟩ := a
                    obtain ⟨bb, bo, bsp⟩ := b
                    obtain rfl : asp = none := (HNA.out _ rfl).1
                    obtain rfl : bsp = none := (HLA.out _ rfl).1
                    have na0 : wr.cell? ⟨ab, ao + j * 7, none⟩ = some (lnC y)[0]! := by
                      have h := (HNA.out _ rfl).2.2.2 (j * 7 + 0) _ (lns_get l j y hy 0 (by omega))
                      rw [← Nat.add_assoc] at h
                      exact (K5.out.cell (p := ⟨ab, ao + j * 7, none⟩) (HNA.out _ rfl).2.2.1).trans h
                    have na1 : wr.cell? ⟨ab, ao + j * 7 + 1, none⟩ = some (lnC y)[1]! := by
                      have h := (HNA.out _ rfl).2.2.2 (j * 7 + 1) _ (lns_get l j y hy 1 (by omega))
                      rw [← Nat.add_assoc] at h
                      exact (K5.out.cell (p := ⟨ab, ao + j * 7 + 1, none⟩) (HNA.out _ rfl).2.2.1).trans h
                    have na2 : wr.cell? ⟨ab, ao + j * 7 + 2, none⟩ = some (lnC y)[2]! := by
                      have h := (HNA.out _ rfl).2.2.2 (j * 7 + 2) _ (lns_get l j y hy 2 (by omega))
                      rw [← Nat.add_assoc] at h
                      exact (K5.out.cell (p := ⟨ab, ao + j * 7 + 2, none⟩) (HNA.out _ rfl).2.2.1).trans h
                    have na3 : wr.cell? ⟨ab, ao + j * 7 + 3, none⟩ = some (lnC y)[3]! := by
                      have h := (HNA.out _ rfl).2.2.2 (j * 7 + 3) _ (lns_get l j y hy 3 (by omega))
                      rw [← Nat.add_assoc] at h
                      exact (K5.out.cell (p := ⟨ab, ao + j * 7 + 3, none⟩) (HNA.out _ rfl).2.2.1).trans h
                    have na4 : wr.cell? ⟨ab, ao + j * 7 + 4, none⟩ = some (lnC y)[4]! := by
                      have h := (HNA.out _ rfl).2.2.2 (j * 7 + 4) _ (lns_get l j y hy 4 (by omega))
                      rw [← Nat.add_assoc] at h
                      exact (K5.out.cell (p := ⟨ab, ao + j * 7 + 4, none⟩) (HNA.out _ rfl).2.2.1).trans h
                    have na5 : wr.cell? ⟨ab, ao + j * 7 + 5, none⟩ = some (lnC y)[5]! := by
                      have h := (HNA.out _ rfl).2.2.2 (j * 7 + 5) _ (lns_get l j y hy 5 (by omega))
                      rw [← Nat.add_assoc] at h
                      exact (K5.out.cell (p := ⟨ab, ao + j * 7 + 5, none⟩) (HNA.out _ rfl).2.2.1).trans h
                    have na6 : wr.cell? ⟨ab, ao + j * 7 + 6, none⟩ = some (lnC y)[6]! := by
                      have h := (HNA.out _ rfl).2.2.2 (j * 7 + 6) _ (lns_get l j y hy 6 (by omega))
                      rw [← Nat.add_assoc] at h
                      exact (K5.out.cell (p := ⟨ab, ao + j * 7 + 6, none⟩) (HNA.out _ rfl).2.2.1).trans h
                    have nb0 : wr.cell? ⟨bb, bo + j * 7, none⟩ = some (lnC y)[0]! := by
                      have h := (HLA.out _ rfl).2.2.2 (j * 7 + 0) _ (lns_get l j y hy 0 (by omega))
                      rw [← Nat.add_assoc] at h
                      exact (K4.out.cell (p := ⟨bb, bo + j * 7, none⟩) (HLA.out _ rfl).2.2.1).trans h
                    have nb1 : wr.cell? ⟨bb, bo + j * 7 + 1, none⟩ = some (lnC y)[1]! := by
                      have h := (HLA.out _ rfl).2.2.2 (j * 7 + 1) _ (lns_get l j y hy 1 (by omega))
                      rw [← Nat.add_assoc] at h
                      exact (K4.out.cell (p := ⟨bb, bo + j * 7 + 1, none⟩) (HLA.out _ rfl).2.2.1).trans h
                    have nb2 : wr.cell? ⟨bb, bo + j * 7 + 2, none⟩ = some (lnC y)[2]! := by
                      have h := (HLA.out _ rfl).2.2.2 (j * 7 + 2) _ (lns_get l j y hy 2 (by omega))
                      rw [← Nat.add_assoc] at h
                      exact (K4.out.cell (p := ⟨bb, bo + j * 7 + 2, none⟩) (HLA.out _ rfl).2.2.1).trans h
                    have nb3 : wr.cell? ⟨bb, bo + j * 7 + 3, none⟩ = some (lnC y)[3]! := by
                      have h := (HLA.out _ rfl).2.2.2 (j * 7 + 3) _ (lns_get l j y hy 3 (by omega))
                      rw [← Nat.add_assoc] at h
                      exact (K4.out.cell (p := ⟨bb, bo + j * 7 + 3, none⟩) (HLA.out _ rfl).2.2.1).trans h
                    have nb4 : wr.cell? ⟨bb, bo + j * 7 + 4, none⟩ = some (lnC y)[4]! := by
                      have h := (HLA.out _ rfl).2.2.2 (j * 7 + 4) _ (lns_get l j y hy 4 (by omega))
                      rw [← Nat.add_assoc] at h
                      exact (K4.out.cell (p := ⟨bb, bo + j * 7 + 4, none⟩) (HLA.out _ rfl).2.2.1).trans h
                    have nb5 : wr.cell? ⟨bb, bo + j * 7 + 5, none⟩ = some (lnC y)[5]! := by
                      have h := (HLA.out _ rfl).2.2.2 (j * 7 + 5) _ (lns_get l j y hy 5 (by omega))
                      rw [← Nat.add_assoc] at h
                      exact (K4.out.cell (p := ⟨bb, bo + j * 7 + 5, none⟩) (HLA.out _ rfl).2.2.1).trans h
                    have nb6 : wr.cell? ⟨bb, bo + j * 7 + 6, none⟩ = some (lnC y)[6]! := by
                      have h := (HLA.out _ rfl).2.2.2 (j * 7 + 6) _ (lns_get l j y hy 6 (by omega))
                      rw [← Nat.add_assoc] at h
                      exact (K4.out.cell (p := ⟨bb, bo + j * 7 + 6, none⟩) (HLA.out _ rfl).2.2.1).trans h
                    clear hy
                    simp only [lnC] at na0 na1 na2 na3 na4 na5 na6 nb0 nb1 nb2 nb3 nb4 nb5 nb6
                    have e42 := eq42 y
                    have g42 := gd42
                    simp only [lnC] at e42
                    go_wp2_with fail
                    go_region
                    go_wp2_with fail
                    go_roundg (l.length - (j + 1))
                    case measure => omega
                    case rel => exact ⟨j + 1, by omega, by omega, by go_num, BJ.out.drew⟩
                · have hjz : ¬ (j : Int) < (l.length : Int) := by omega
                  go_wp2_with fail
                  go_roundg (n - (kk + 1))
                  case measure => omega
                  case rel =>
                    have k1 := BK.out.trans (B3.out.mono BK.out.size)
                    have k2 := k1.trans (B4.out.mono k1.size)
                    have k3 := k2.drew.trans (B5.out.mono k2.size)
                    have k4 := k3.trans (BJ.out.mono k3.size)
                    refine ⟨kk + 1, c, l, lost, v, _, by omega, by omega, rfl, rfl, by go_num, LD.out.below k4, CT.out.kept (k4.block G CT.out.lt), LS.out.kept k4.size (fun g hg => k4.block g ?_), VG.out, VL.out, IV.out.no, BR.out.trans (k4.mono BR.out.size)⟩
                    obtain ⟨A', cap', he, _, _, h3⟩ := LS.out
                    rw [he] at hg
                    cases A' with
                    | none => cases hg
                    | some a =>
                      cases hg
                      exact (h3 a rfl).2.2.1
          | true =>
            have hm : 0 ≤ xr ∧ xr < 16 := by simpa [okR] using hr
            clear hr
            obtain ⟨m, rfl⟩ : ∃ m : Nat, xr = m := ⟨xr.toNat, by omega⟩
            have hm0 : (0 : Int) ≤ (m : Int) := hm.1
            have hm1 : (m : Int) < 16 := hm.2
            have hm2 : m < 16 := by omega
            clear hm
            have hgm := IV.out.get m hm2
            have hl0 := IV.out.lost0
            have hl1 := IV.out.lost1
            have HD : Hid _ := add11 (wr.alloc (.cells #[.bool false, .int .i64 xt, .int .i64 m, .int .u32 xs, .int .u32 xd, .int .i64 xp, .int .i64 xsp, .int .i64 xdp] 33)) B v c l rm lost LK.out xt m xs xd xp xsp xdp hm2 hgm.1 (by omega) hll IV.out.rm hrm1 hl0 (by omega)
            have HX0 : Hid (∃ x, c.getD m 0 = x) := ⟨_, rfl⟩
            go_upto_if 60 with (go_at_call 11; refine Calls.mono HD.out ?_; rintro e w3 ⟨rfl, v3, hL3, hF3, hv3⟩; have L3 : Hid _ := hL3; have F3 : Hid _ := hF3; have V3 : Hid _ := hv3; clear hL3 hF3 hv3)
            go_cut [9, 10] from 28 to 134 (fun s9 s10 wx => ∃ (v1 : Value) (c1 : List Int) (l1 : List LineC) (lost1 : Int) (lv1 : Value), s9 = lv1 ∧ s10 = .int .i64 lost1 ∧ Hid (Led wx B v1 c1 l1 rm lost1) ∧ Hid (Cnt wx G c1) ∧ Hid (LnS wx G lv1 l1) ∧ Hid (v1.ownBlock ≠ some G) ∧ Hid (∀ g, lv1.ownBlock = some g → v1.ownBlock ≠ some g) ∧ Hid (InvP rm (kk + 1) c1 l1 lost1) ∧ Hid (Below w.heap.size w wx))
            case first =>
              obtain ⟨x, hx⟩ := HX0.out
              have HX : Hid _ := hx
              have L4 := L3.out
              have V4 := V3.out
              have GW : G < wr.heap.size := CT.out.lt
              have hXs : (wr.alloc (.cells #[.bool false, .int .i64 xt, .int .i64 m, .int .u32 xs, .int .u32 xd, .int .i64 xp, .int .i64 xsp, .int .i64 xdp] 33)).heap.size = wr.heap.size + 1 := by simp
              have vlt : ∀ k, v.ownBlock = some k → k < wr.heap.size := fun k hk => (LD.out.blk_ne k hk).2
              have hBX : B < wr.heap.size := LD.out.lt
              have BX : Hid (w3.heap[wr.heap.size]? = some (.cells #[.bool false, .int .i64 xt, .int .i64 m, .int .u32 xs, .int .u32 xd, .int .i64 xp, .int .i64 xsp, .int .i64 xdp] 33 (0, 0))) :=
                (F3.out.block _ (by rw [hXs]; omega) (by omega) (fun e => by have := vlt _ e.symm; omega)).trans (heap_alloc_new _ _)
              have C3 : Hid (Cnt w3 G c) := CT.out.kept ((F3.out.block G (by rw [hXs]; omega) (by omega) (fun e => VG.out e.symm)).trans (BK.out.block G GW))
              have v3G : Hid (v3.ownBlock ≠ some G) := fun e => by
                rcases V4 with h | ⟨b, h, hb⟩
                · exact VG.out (h.symm.trans e)
                · rw [h] at e; cases e; rw [hXs] at hb; omega
              have v3L : Hid (∀ g, (Value.slice LA l.length lc).ownBlock = some g → v3.ownBlock ≠ some g) := fun g hg e => by
                rcases V4 with h | ⟨b, h, hb⟩
                · exact VL.out g hg (h.symm.trans e)
                · rw [h] at e; cases e; rw [hXs] at hb
                  cases LA with
                  | none => cases hg
                  | some a => cases hg; have := (HLA.out a rfl).2.2.1; omega
              have BW3 : Hid (Below w.heap.size w w3) := (BR.out.trans (BK.out.mono BR.out.size)).trans ((addok_below LK.out F3.out).mono hB0)
              have S3 : Hid (wr.heap.size ≤ w3.heap.size) := Nat.le_trans BK.out.size F3.out.size
              have IA : Hid _ := IV.out.add m hm2 ⟨xt, m, xs, xd, xp, xsp, xdp⟩
              have LL : Hid (LnS w3 G (.slice LA l.length lc) l) := (LS.out.kept BK.out.size (fun g hg => BK.out.block g (by
                cases LA with
                | none => cases hg
                | some a => cases hg; exact (HLA.out a rfl).2.2.1))).kept F3.out.size (fun g hg => F3.out.block g (by
                  cases LA with
                  | none => cases hg
                  | some a => cases hg; have := (HLA.out a rfl).2.2.1; rw [hXs]; exact Nat.lt_succ_of_lt this) (by
                  cases LA with
                  | none => cases hg
                  | some a => cases hg; have := (HLA.out a rfl).2.1; omega) (fun e => VL.out g hg e.symm))
              have hcm := C3.out.get m hm2
              have hcf := C3.out.fr m
              rw [hx] at hcm hgm
              have hcx0 : 0 ≤ x := hgm.1
              have hcx1 : x ≤ 100 := by omega
              have L5 : Hid (Led (w3.setCell ⟨G, m, none⟩ (.int .i64 (x + 1))) B v3 (c.set m (x + 1)) (if quietR m = true then l else if (l.length : Int) < rm then l ++ [(⟨xt, m, xs, xd, xp, xsp, xdp⟩ : LineC)] else (l ++ [(⟨xt, m, xs, xd, xp, xsp, xdp⟩ : LineC)]).tail) rm (if quietR m = true then lost else if (l.length : Int) < rm then lost else lost + 1)) := by
                rw [hx] at L4
                exact L4.kept (Below.heap_setCell w3 ⟨G, m, none⟩ _ B (by simp only; omega)) (fun k hk => Below.heap_setCell w3 ⟨G, m, none⟩ _ k (fun e => v3G.out (by simp only at e; rw [← e]; exact hk)))
              have C5 : Hid _ := C3.out.set m (x + 1)
              have BX5 : Hid ((w3.setCell ⟨G, m, none⟩ (.int .i64 (x + 1))).heap[wr.heap.size]? = some (.cells #[.bool false, .int .i64 xt, .int .i64 m, .int .u32 xs, .int .u32 xd, .int .i64 xp, .int .i64 xsp, .int .i64 xdp] 33 (0, 0))) :=
                (Below.heap_setCell w3 ⟨G, m, none⟩ _ _ (by simp only; omega)).trans BX.out
              have LL5 : Hid (LnS (w3.setCell ⟨G, m, none⟩ (.int .i64 (x + 1))) G (.slice LA l.length lc) l) := LL.out.kept (by simp) (fun g hg => Below.heap_setCell w3 ⟨G, m, none⟩ _ g (by
                cases LA with
                | none => cases hg
                | some a => cases hg; have := (HLA.out a rfl).2.1; simp only; omega))
              have BW5 : Hid (Below w.heap.size w (w3.setCell ⟨G, m, none⟩ (.int .i64 (x + 1)))) := BW3.out.setCell (by simp only; omega) _
              have IA2 := IA.out
              rw [hx] at IA2
              have IA : Hid _ := IA2
              clear IA2
              have q2 : w3.cell? ⟨wr.heap.size, 2, none⟩ = some (.int .i64 m) := cell_of_row _ _ _ _ _ _ BX.out
              have p1 : (w3.setCell ⟨G, m, none⟩ (.int .i64 (x + 1))).cell? ⟨wr.heap.size, 1, none⟩ = some (.int .i64 xt) := cell_of_row _ _ _ _ _ _ BX5.out
              have p2 : (w3.setCell ⟨G, m, none⟩ (.int .i64 (x + 1))).cell? ⟨wr.heap.size, 2, none⟩ = some (.int .i64 m) := cell_of_row _ _ _ _ _ _ BX5.out
              have p3 : (w3.setCell ⟨G, m, none⟩ (.int .i64 (x + 1))).cell? ⟨wr.heap.size, 3, none⟩ = some (.int .u32 xs) := cell_of_row _ _ _ _ _ _ BX5.out
              have p4 : (w3.setCell ⟨G, m, none⟩ (.int .i64 (x + 1))).cell? ⟨wr.heap.size, 4, none⟩ = some (.int .u32 xd) := cell_of_row _ _ _ _ _ _ BX5.out
              have p5 : (w3.setCell ⟨G, m, none⟩ (.int .i64 (x + 1))).cell? ⟨wr.heap.size, 5, none⟩ = some (.int .i64 xp) := cell_of_row _ _ _ _ _ _ BX5.out
              have p6 : (w3.setCell ⟨G, m, none⟩ (.int .i64 (x + 1))).cell? ⟨wr.heap.size, 6, none⟩ = some (.int .i64 xsp) := cell_of_row _ _ _ _ _ _ BX5.out
              have p7 : (w3.setCell ⟨G, m, none⟩ (.int .i64 (x + 1))).cell? ⟨wr.heap.size, 7, none⟩ = some (.int .i64 xdp) := cell_of_row _ _ _ _ _ _ BX5.out
              clear hx hXs vlt V4 L4
              cases hq : quietR m with
              | true =>
                have HQ : Hid _ := hq
                have h3 : m = 0 ∨ m = 1 ∨ m = 3 := by simp [quietR] at hq; omega
                clear hq
                rcases h3 with rfl | rfl | rfl
                all_goals
                  go_wp2_with fail
                  go_meet
                  case rel =>
                    have L6 := L5.out
                    have I6 := IA.out
                    rw [if_pos HQ.out, if_pos HQ.out] at L6 I6
                    exact ⟨v3, _, l, lost, _, rfl, rfl, L6, C5.out, LL5.out, v3G.out, v3L.out, I6, BW5.out⟩
              | false =>
                have HQ : Hid _ := hq
                have h3 : m ≠ 0 ∧ m ≠ 1 ∧ m ≠ 3 := by simp [quietR] at hq; omega
                clear hq
                have z0 : ((m : Int) == 0) = false := by simp; omega
                have z1 : ((m : Int) == 1) = false := by simp; omega
                have z3 : ((m : Int) == 3) = false := by simp; omega
                have y0 : ((m : Int) != 0) = true := by simp; omega
                have y1 : ((m : Int) != 1) = true := by simp; omega
                have y3 : ((m : Int) != 3) = true := by simp; omega
                clear h3
                go_upto_region 20 with fail
                have HS5 : (w3.setCell ⟨G, m, none⟩ (.int .i64 (x + 1))).heap.size = w3.heap.size := by simp
                have S5 : Hid (wr.heap.size ≤ (w3.setCell ⟨G, m, none⟩ (.int .i64 (x + 1))).heap.size) := by rw [HS5]; exact S3.out
                have vk : Hid (∀ k, v3.ownBlock = some k → k < (w3.setCell ⟨G, m, none⟩ (.int .i64 (x + 1))).heap.size) := fun k hk => (L5.out.blk_ne k hk).2
                clear HS5 hcm hcf q2
                generalize w3.setCell ⟨G, m, none⟩ (.int .i64 (x + 1)) = W0 at *
                have hW0 : wr.heap.size < W0.heap.size := lt_of_block BX5.out
                have SRC : Hid (∀ ad, LA = some ad → ad.spot = none ∧ ad.block < W0.heap.size ∧ ∀ j u, (lns l)[j]? = some u → W0.cell? ⟨ad.block, ad.off + j, none⟩ = some u) := fun ad had => by
                  obtain ⟨A', c', he, k1, k2, k3⟩ := LL5.out
                  cases he
                  have := k3 ad had
                  exact ⟨this.1, this.2.2.1, this.2.2.2⟩
                have LAN : Hid (LA = none → l.length = 0) := fun e => by rw [(HLN.out e).1]; rfl
                clear p1 p2 p3 p4 p5 p6 p7 hgm
                go_region_held3 (fun w' => w'.cell? ⟨wr.heap.size, 1, none⟩ = some (.int .i64 xt) ∧ w'.cell? ⟨wr.heap.size, 2, none⟩ = some (.int .i64 m) ∧ w'.cell? ⟨wr.heap.size, 3, none⟩ = some (.int .u32 xs) ∧ w'.cell? ⟨wr.heap.size, 4, none⟩ = some (.int .u32 xd) ∧ w'.cell? ⟨wr.heap.size, 5, none⟩ = some (.int .i64 xp) ∧ w'.cell? ⟨wr.heap.size, 6, none⟩ = some (.int .i64 xsp) ∧ w'.cell? ⟨wr.heap.size, 7, none⟩ = some (.int .i64 xdp)) ((refine boxed BX5.out ?_; repeat (first | exact Below.refl _ _ | exact HBZ.out | refine bz_alloc ?_ _ | refine Below.drew ?_))) ((first | (refine step1 W0 rfl (.tmp 80) (.tmp 81) rfl _ rfl LA l.length lc rfl l rfl LAN.out SRC.out hll (by repeat (first | exact Below.refl _ _ | exact HBZ.out | refine bz_alloc ?_ _ | refine Below.drew ?_)) ?_; intro v' w1 hst1 hgr1; have HBZ : Hid _ := hst1.bel; have HST : Hid _ := hst1; have KB : Hid _ := keepsOf hgr1; clear hst1 hgr1) | (refine step2 W0 rfl (.tmp 82) (.tmp 90) rfl _ l.length rfl l ⟨xt, m, xs, xd, xp, xsp, xdp⟩ _ _ rfl hll (by first | exact HST.out | exact HST.out.alloc _) (by first | exact heap_alloc_new _ _ | exact KB.out _ _ (heap_alloc_new _ _) | exact KB.out _ _ (heap2a _ _ _) | exact KB.out _ _ (heap2b _ _ _)) ?_; intro gg cp wz hz hbz; have HBZ : Hid _ := hbz; have HZ : Hid (wz.ownsRow W0.heap.size 42 7 (.slice (some ⟨gg, 0, none⟩) (l.length + 1) cp) (l.length + 1) (lns (l ++ [(⟨xt, m, xs, xd, xp, xsp, xdp⟩ : LineC)]))) := hz; clear hz hbz)))
                all_goals
                  have CZ : Hid (Cnt wz G (c.set m (x + 1))) := Cnt.kept (show Cnt W0 G (c.set m (x + 1)) from C5.out) (HBZ.out.block G (Cnt.lt (show Cnt W0 G (c.set m (x + 1)) from C5.out)))
                  have BZ : Hid _ := BW5.out.trans (HBZ.out.mono BW5.out.size)
                  have LZ : Hid (LnS wz G (.slice (some ⟨gg, 0, none⟩) (l.length + 1) cp) (l ++ [(⟨xt, m, xs, xd, xp, xsp, xdp⟩ : LineC)])) := LnS.of_own HZ.out (Nat.lt_of_lt_of_le GW (Nat.le_of_lt hW0))
                  have L6 := L5.out
                  have I6 := IA.out
                  simp only [HQ.out, Bool.false_eq_true, if_false] at L6 I6
                  have L7 : Hid _ := L6.below HBZ.out
                  have I7 : Hid _ := I6
                  have gk : Hid (∀ g, some gg = some g → v3.ownBlock ≠ some g) := fun g hg e => by
                    have h1 := vk.out g e
                    have h2 := (World.ownsRow.lt HZ.out gg rfl).1
                    cases hg
                    omega
                  have hcp : (l.length : Int) + 1 ≤ (cp : Int) := by
                    rcases HZ.out.2 with ⟨h, _⟩ | ⟨_, _, _, h, _, _, h2, _⟩
                    · cases h
                    · cases h; omega
                  have hlr := IV.out.rm
                  clear L6 I6
                  by_cases hr0 : 0 ≤ room
                  · obtain rfl : rm = room := by have := HRM.out; omega
                    by_cases hful : (l.length : Int) < rm
                    · have hneg : ¬ ((l.length : Int) + 1 > rm) := by omega
                      have L8 := L7.out
                      have I8 := I7.out
                      simp only [hful, if_true] at L8 I8
                      have L9 : Hid _ := L8
                      have I9 : Hid _ := I8
                      clear L8 I8
                      go_wp2_with fail
                      go_meet
                      case rel => exact ⟨v3, _, _, _, _, rfl, rfl, L9.out, CZ.out, LZ.out, v3G.out, gk.out, I9.out, BZ.out⟩
                    · have hpos : (l.length : Int) + 1 > rm := by omega
                      have h1 : (1 : Int) ≤ (l.length : Int) + 1 := by omega
                      have h2 : (1 : Int) ≤ (cp : Int) := by omega
                      have L8 := L7.out
                      have I8 := I7.out
                      simp only [hful, if_false] at L8 I8
                      have L9 : Hid _ := L8
                      have I9 : Hid _ := I8
                      clear L8 I8
                      obtain ⟨A', hA'⟩ : ∃ A : Option Addr, (if cp = 1 then some (⟨gg, 0, none⟩ : Addr) else some ⟨gg, 7, none⟩) = A := ⟨_, rfl⟩
                      have LT : Hid (LnS wz G (.slice A' l.length (cp - 1)) (l ++ [(⟨xt, m, xs, xd, xp, xsp, xdp⟩ : LineC)]).tail) := LnS.tail LZ.out A' hA'.symm
                      have gk' : Hid (∀ g, (Value.slice A' l.length (cp - 1)).ownBlock = some g → v3.ownBlock ≠ some g) := fun g hg => gk.out g (by rw [← hA'] at hg; split at hg <;> exact hg)
                      go_wp2_with fail
                      go_meet
                      case rel => exact ⟨v3, _, _, _, _, rfl, rfl, L9.out, CZ.out, LT.out, v3G.out, gk'.out, I9.out, BZ.out⟩
                  · obtain rfl : rm = 0 := by have := HRM.out; omega
                    have hful : ¬ (l.length : Int) < 0 := by omega
                    have hr1 : room < 0 := by omega
                    have hpos : (l.length : Int) + 1 > 0 := by omega
                    have h1 : (1 : Int) ≤ (l.length : Int) + 1 := by omega
                    have h2 : (1 : Int) ≤ (cp : Int) := by omega
                    have L8 := L7.out
                    have I8 := I7.out
                    simp only [hful, if_false] at L8 I8
                    have L9 : Hid _ := L8
                    have I9 : Hid _ := I8
                    clear L8 I8
                    obtain ⟨A', hA'⟩ : ∃ A : Option Addr, (if cp = 1 then some (⟨gg, 0, none⟩ : Addr) else some ⟨gg, 7, none⟩) = A := ⟨_, rfl⟩
                    have LT : Hid (LnS wz G (.slice A' l.length (cp - 1)) (l ++ [(⟨xt, m, xs, xd, xp, xsp, xdp⟩ : LineC)]).tail) := LnS.tail LZ.out A' hA'.symm
                    have gk' : Hid (∀ g, (Value.slice A' l.length (cp - 1)).ownBlock = some g → v3.ownBlock ≠ some g) := fun g hg => gk.out g (by rw [← hA'] at hg; split at hg <;> exact hg)
                    go_wp2_with fail
                    go_meet
                    case rel => exact ⟨v3, _, _, _, _, rfl, rfl, L9.out, CZ.out, LT.out, v3G.out, gk'.out, I9.out, BZ.out⟩
            case rest =>
              obtain ⟨v1, c1, l1, lost1, lv1, rfl, rfl, LD1, CT1, LS1, VG1, VL1, IV1, BR1⟩ := hcut
              have hll1 : l1.length ≤ 1000 := by have := IV1.out.ll; omega
              obtain ⟨LA1, lc1, rfl, hlc1, hln1, hla1⟩ := LS1.out
              have HLN1 : Hid _ := hln1
              have HLA1 : Hid _ := hla1
              clear hln1 hla1
              have LX : Hid _ := linesP _ _ G _ _ _ _ _ LD1.out hll1 CT1.out.lt
              go_wp2_with (go_at_call 9; refine Calls.mono LX.out ?_; rintro e w4 ⟨nv, rfl, ⟨NA, nc, rfl, hnc, hnn, hna⟩, hL4, hb4⟩; have HNN2 : Hid _ := hnn; have HNA : Hid _ := hna; have L4 : Hid _ := hL4; have B4 : Hid _ := hb4; have L13 : Hid _ := lost13 _ _ _ _ _ _ _ (hL4.below (Below.refl _ _).drew); have C12 : Hid _ := counts12 _ _ _ _ _ _ _ (hL4.below (Below.refl _ _).drew); clear hnn hna hL4 hb4)
              have RG : Hid (w4.rangeAt G 0 (c1.map (Value.int .i64))) := by
                have hb : w4.heap[G]? = wc.heap[G]? := B4.out.block G CT1.out.lt
                have hc := (CT1.out.kept hb)
                intro j u hu
                rw [Nat.zero_add, cell_of_row _ _ _ _ _ _ hc.2]
                simpa using hu
              have hi37 : (Try.prog.info? 37).map (·.size) = some (c1.map (Value.int .i64)).length := by rw [List.length_map, CT1.out.1]; kernel_rfl
              have hl37 : (c1.map (Value.int .i64)).length = 16 := by rw [List.length_map]; exact CT1.out.1
              have ho37 : ∀ v ∈ c1.map (Value.int .i64), v.oneCell' = true := by intro v hv; obtain ⟨y, _, rfl⟩ := List.mem_map.1 hv; rfl
              have heq := eq37 c1 CT1.out.1
              have hgd := gd37
              generalize hcs : c1.map (Value.int .i64) = cs at RG hi37 hl37 ho37 heq C12
              have hrg := RG.out
              clear hcs
              have hGlt : G < w4.heap.size := Nat.lt_of_lt_of_le CT1.out.lt B4.out.size
              go_region_held3 (fun w' => w'.rangeAt G 0 cs) (first | exact hr5 | go_keep_ranges) ((first | (go_at_call 13; refine Calls.mono L13.out ?_; rintro e w5 ⟨rfl, rfl⟩) | (go_at_call 12; refine Calls.mono C12.out ?_; rintro e w5 ⟨rfl, hb5⟩; have hr5 : w5.rangeAt G 0 cs := fun j u hu => (hb5.cell (p := ⟨G, 0 + j, none⟩) hGlt).trans (hrg j u hu); have B5 : Hid _ := hb5; clear hb5)))
              go_wp2_with fail
              go_loopg [15] l1.length (fun gg s15 wr2 => ∃ j : Nat, j ≤ l1.length ∧ l1.length - j ≤ gg ∧ s15 = .int .i64 j ∧ Hid (Below w5.heap.size w5 wr2))
              case atStart => exact ⟨0, Nat.zero_le _, by omega, rfl, Below.refl _ _⟩
              case round =>
                obtain ⟨j, hj, hg3, rfl, BJ⟩ := hrel
                by_cases hjl : j < l1.length
                · have hjz : (j : Int) < (l1.length : Int) := by omega
                  have hj0 : (0 : Int) ≤ (j : Int) := by omega
                  obtain ⟨y, hy⟩ : ∃ y, l1[j]? = some y := ⟨_, List.getElem?_eq_getElem hjl⟩
                  have k2 := B4.out
                  have k3 := k2.drew.trans (B5.out.mono k2.size)
                  have K4 : Hid _ := k3.trans (BJ.out.mono k3.size)
                  have K5 : Hid _ := B5.out.trans (BJ.out.mono B5.out.size)
                  clear k2 k3
                  cases NA with
                  | none => exact absurd (HNN2.out rfl).1 (by intro e; subst e; simp at hjl)
                  | some a =>
                  cases LA1 with
                  | none => exact absurd (HLN1.out rfl).1 (by intro e; subst e; simp at hjl)
                  | some b =>
                    obtain ⟨ab, ao, asp⟩ := a
                    obtain ⟨bb, bo, bsp⟩ := b
                    obtain rfl : asp = none := (HNA.out _ rfl).1
                    obtain rfl : bsp = none := (HLA1.out _ rfl).1
                    have na0 : wr.cell? ⟨ab, ao + j * 7, none⟩ = some (lnC y)[0]! := by
                      have h := (HNA.out _ rfl).2.2.2 (j * 7 + 0) _ (lns_get l1 j y hy 0 (by omega))
                      rw [← Nat.add_assoc] at h
                      exact (K5.out.cell (p := ⟨ab, ao + j * 7, none⟩) (HNA.out _ rfl).2.2.1).trans h
                    have na1 : wr.cell? ⟨ab, ao + j * 7 + 1, none⟩ = some (lnC y)[1]! := by
                      have h := (HNA.out _ rfl).2.2.2 (j * 7 + 1) _ (lns_get l1 j y hy 1 (by omega))
                      rw [← Nat.add_assoc] at h
                      exact (K5.out.cell (p := ⟨ab, ao + j * 7 + 1, none⟩) (HNA.out _ rfl).2.2.1).trans h
                    have na2 : wr.cell? ⟨ab, ao + j * 7 + 2, none⟩ = some (lnC y)[2]! := by
                      have h := (HNA.out _ rfl).2.2.2 (j * 7 + 2) _ (lns_get l1 j y hy 2 (by omega))
                      rw [← Nat.add_assoc] at h
                      exact (K5.out.cell (p := ⟨ab, ao + j * 7 + 2, none⟩) (HNA.out _ rfl).2.2.1).trans h
                    have na3 : wr.cell? ⟨ab, ao + j * 7 + 3, none⟩ = some (lnC y)[3]! := by
                      have h := (HNA.out _ rfl).2.2.2 (j * 7 + 3) _ (lns_get l1 j y hy 3 (by omega))
                      rw [← Nat.add_assoc] at h
                      exact (K5.out.cell (p := ⟨ab, ao + j * 7 + 3, none⟩) (HNA.out _ rfl).2.2.1).trans h
                    have na4 : wr.cell? ⟨ab, ao + j * 7 + 4, none⟩ = some (lnC y)[4]! := by
                      have h := (HNA.out _ rfl).2.2.2 (j * 7 + 4) _ (lns_get l1 j y hy 4 (by omega))
                      rw [← Nat.add_assoc] at h
                      exact (K5.out.cell (p := ⟨ab, ao + j * 7 + 4, none⟩) (HNA.out _ rfl).2.2.1).trans h
                    have na5 : wr.cell? ⟨ab, ao + j * 7 + 5, none⟩ = some (lnC y)[5]! := by
                      have h := (HNA.out _ rfl).2.2.2 (j * 7 + 5) _ (lns_get l1 j y hy 5 (by omega))
                      rw [← Nat.add_assoc] at h
                      exact (K5.out.cell (p := ⟨ab, ao + j * 7 + 5, none⟩) (HNA.out _ rfl).2.2.1).trans h
                    have na6 : wr.cell? ⟨ab, ao + j * 7 + 6, none⟩ = some (lnC y)[6]! := by
                      have h := (HNA.out _ rfl).2.2.2 (j * 7 + 6) _ (lns_get l1 j y hy 6 (by omega))
                      rw [← Nat.add_assoc] at h
                      exact (K5.out.cell (p := ⟨ab, ao + j * 7 + 6, none⟩) (HNA.out _ rfl).2.2.1).trans h
                    have nb0 : wr.cell? ⟨bb, bo + j * 7, none⟩ = some (lnC y)[0]! := by
                      have h := (HLA1.out _ rfl).2.2.2 (j * 7 + 0) _ (lns_get l1 j y hy 0 (by omega))
                      rw [← Nat.add_assoc] at h
                      exact (K4.out.cell (p := ⟨bb, bo + j * 7, none⟩) (HLA1.out _ rfl).2.2.1).trans h
                    have nb1 : wr.cell? ⟨bb, bo + j * 7 + 1, none⟩ = some (lnC y)[1]! := by
                      have h := (HLA1.out _ rfl).2.2.2 (j * 7 + 1) _ (lns_get l1 j y hy 1 (by omega))
                      rw [← Nat.add_assoc] at h
                      exact (K4.out.cell (p := ⟨bb, bo + j * 7 + 1, none⟩) (HLA1.out _ rfl).2.2.1).trans h
                    have nb2 : wr.cell? ⟨bb, bo + j * 7 + 2, none⟩ = some (lnC y)[2]! := by
                      have h := (HLA1.out _ rfl).2.2.2 (j * 7 + 2) _ (lns_get l1 j y hy 2 (by omega))
                      rw [← Nat.add_assoc] at h
                      exact (K4.out.cell (p := ⟨bb, bo + j * 7 + 2, none⟩) (HLA1.out _ rfl).2.2.1).trans h
                    have nb3 : wr.cell? ⟨bb, bo + j * 7 + 3, none⟩ = some (lnC y)[3]! := by
                      have h := (HLA1.out _ rfl).2.2.2 (j * 7 + 3) _ (lns_get l1 j y hy 3 (by omega))
                      rw [← Nat.add_assoc] at h
                      exact (K4.out.cell (p := ⟨bb, bo + j * 7 + 3, none⟩) (HLA1.out _ rfl).2.2.1).trans h
                    have nb4 : wr.cell? ⟨bb, bo + j * 7 + 4, none⟩ = some (lnC y)[4]! := by
                      have h := (HLA1.out _ rfl).2.2.2 (j * 7 + 4) _ (lns_get l1 j y hy 4 (by omega))
                      rw [← Nat.add_assoc] at h
                      exact (K4.out.cell (p := ⟨bb, bo + j * 7 + 4, none⟩) (HLA1.out _ rfl).2.2.1).trans h
                    have nb5 : wr.cell? ⟨bb, bo + j * 7 + 5, none⟩ = some (lnC y)[5]! := by
                      have h := (HLA1.out _ rfl).2.2.2 (j * 7 + 5) _ (lns_get l1 j y hy 5 (by omega))
                      rw [← Nat.add_assoc] at h
                      exact (K4.out.cell (p := ⟨bb, bo + j * 7 + 5, none⟩) (HLA1.out _ rfl).2.2.1).trans h
                    have nb6 : wr.cell? ⟨bb, bo + j * 7 + 6, none⟩ = some (lnC y)[6]! := by
                      have h := (HLA1.out _ rfl).2.2.2 (j * 7 + 6) _ (lns_get l1 j y hy 6 (by omega))
                      rw [← Nat.add_assoc] at h
                      exact (K4.out.cell (p := ⟨bb, bo + j * 7 + 6, none⟩) (HLA1.out _ rfl).2.2.1).trans h
                    clear hy
                    simp only [lnC] at na0 na1 na2 na3 na4 na5 na6 nb0 nb1 nb2 nb3 nb4 nb5 nb6
                    have e42 := eq42 y
                    have g42 := gd42
                    simp only [lnC] at e42
                    go_wp2_with fail
                    go_region
                    go_wp2_with fail
                    go_roundg (l1.length - (j + 1))
                    case measure => omega
                    case rel => exact ⟨j + 1, by omega, by omega, by go_num, BJ.out.drew⟩
                · have hjz : ¬ (j : Int) < (l1.length : Int) := by omega
                  go_wp2_with fail
                  go_roundg (n - (kk + 1))
                  case measure => omega
                  case rel =>
                    have k2 := B4.out
                    have k3 := k2.drew.trans (B5.out.mono k2.size)
                    have k4 := k3.trans (BJ.out.mono k3.size)
                    refine ⟨kk + 1, c1, l1, lost1, v1, _, by omega, by omega, rfl, rfl, by go_num, LD1.out.below k4, CT1.out.kept (k4.block G CT1.out.lt), LS1.out.kept k4.size (fun g hg => k4.block g ?_), VG1.out, VL1.out, IV1.out, BR1.out.trans (k4.mono BR1.out.size)⟩
                    obtain ⟨A', cap', he, _, _, h3⟩ := LS1.out
                    rw [he] at hg
                    cases A' with
                    | none => cases hg
                    | some a =>
                      cases hg
                      exact (h3 a rfl).2.2.1

      · have hltz : ¬ (kk : Int) < (n : Int) := by omega
        cases hr : okR r with
        | true =>
          have hm : 0 ≤ r ∧ r < 16 := by simpa [okR] using hr
          obtain ⟨m, rfl⟩ : ∃ m : Nat, r = m := ⟨r.toNat, by omega⟩
          have hm0 : (0 : Int) ≤ (m : Int) := hm.1
          have hm1 : (m : Int) < 16 := hm.2
          have hcm := CT.out.get m (by omega)
          have CO := count14 _ _ _ _ _ _ _ LD.out (m : Int)
          have e : cntF c m = c.getD m 0 := by simp [cntF, hr]
          rw [e] at CO
          generalize c.getD m 0 = y at hcm CO
          have CO : Hid _ := CO
          clear hr hm e
          go_wp2_with (go_at_call 14; refine Calls.mono CO.out ?_; rintro e w2 ⟨rfl, rfl⟩)
          go_ret
          exact ⟨rfl, BR.out⟩
        | false =>
          have hnm : ¬ (0 ≤ r ∧ r < 16) := fun h => by simp [okR, h.1, h.2] at hr
          have CO := count14 _ _ _ _ _ _ _ LD.out r
          have e : cntF c r = 0 := by simp [cntF, hr]
          rw [e] at CO
          have CO : Hid _ := CO
          clear hr e
          go_wp2_with (go_at_call 14; refine Calls.mono CO.out ?_; rintro e w2 ⟨rfl, rfl⟩)
          all_goals
            go_ret
            exact ⟨rfl, BR.out⟩

end Go.Proofs.Ytkpnbkcebpeaoaa.P
