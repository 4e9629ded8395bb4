/- CountSums answers true. For the program's counters (layer 26); the acts in memory. -/
import Derived.Test.YtkpnbkcebpeaoaaC9
namespace Go.Proofs.Ytkpnbkcebpeaoaa.P
open Go.RowKit

theorem quiet_t (m : Int) (h : ((m != 0) = false ∨ (m != 1) = false) ∨ (m != 3) = false) : quietR m = true := by
  simp only [bne_eq_false_iff_eq] at h
  rcases h with (rfl | rfl) | rfl <;> rfl
theorem quiet_1 (m : Int) (h : m = 1) : quietR m = true := by subst h; rfl
theorem quiet_0 (m : Nat) (h : m = 0) : quietR (m : Int) = true := by subst h; rfl
theorem quiet_f (m : Int) (h : ((m != 0) = true ∧ (m != 1) = true) ∧ (m != 3) = true) : ¬ quietR m = true := by
  simp only [bne_iff_ne] at h
  simp only [quietR, Bool.or_eq_true, beq_iff_eq]
  omega
theorem take_sum (c : List Int) (j : Nat) (hj : j < c.length) : (c.take (j + 1)).sum = (c.take j).sum + c.getD j 0 := by
  rw [List.take_succ_eq_append_getElem hj, List.sum_append]
  simp [List.getD, List.getElem?_eq_getElem hj]
theorem take_bound (c : List Int) (h : ∀ x ∈ c, 0 ≤ x ∧ x ≤ 100) : ∀ j, j ≤ c.length → 0 ≤ (c.take j).sum ∧ (c.take j).sum ≤ 100 * j
  | 0, _ => by simp
  | j + 1, hj => by
    have ih := take_bound c h j (by omega)
    have hm : c.getD j 0 ∈ c := by simp [List.getD, List.getElem?_eq_getElem (show j < c.length by omega)]
    have := h _ hm
    rw [take_sum c j (by omega)]
    omega

set_option maxRecDepth 100000 in
set_option maxHeartbeats 3000000 in
theorem sums3 (room : Int) (hrm2 : room ≤ 9223372036854775807) (A : Option Addr) (cap : Nat) (acts : List ActC) (w : World) (ha : ActsAt w A acts) :
    Calls Try.prog 3 #[.int .i64 room, .slice A acts.length cap] w fun e w' => e = .returned (.bool true) ∧ Below w.heap.size w w' := by
  have hu27 := Try.underlying27
  have hu31 := Try.underlying31
  have hu33 := Try.underlying33
  have hu22 := Try.underlying22
  have hu34 := Try.underlying34
  have hu37 := Try.underlying37
  have HW : Hid _ := awake7
  have HA : Hid _ := ha
  have HN : Hid _ := new8 0 0 0 0 room 0 0 0 0
  clear ha
  obtain ⟨n, hn⟩ : ∃ n, n = acts.length := ⟨_, rfl⟩
  have HNN : Hid _ := hn
  rw [← hn]
  clear hn
  by_cases hlen : (n : Int) > 100
  · go_enter Try.func3, Try.ntmps3
    go_wp2_with (go_at_call 7; refine (HW.out _).mono ?_; rintro e w7 ⟨rfl, hb7⟩; have B7 : Hid _ := hb7; clear hb7)
    go_ret
    exact ⟨rfl, B7.out⟩
  · go_enter Try.func3, Try.ntmps3
    go_wp2_with (first
      | (go_at_call 7; refine (HW.out _).mono ?_; rintro e w7 ⟨rfl, hb7⟩; have B7 : Hid _ := hb7; clear hb7)
      | (go_at_call 8; refine (HN.out _).mono ?_; rintro e w8 ⟨rfl, hL8, hb8⟩; have L8 : Hid _ := hL8; have B8 : Hid _ := hb8; clear hL8 hb8))
    generalize hBB : w7.heap.size + 1 = B at *
    have HBB : Hid _ := hBB
    clear hBB
    have BW : Hid (Below w.heap.size w w8) := bel_trans B7.out B8.out
    have hB0 : w.heap.size ≤ B := by have := B7.out.size; have := HBB.out; omega
    generalize hrr : max room 0 = rm at *
    have HRM : Hid _ := hrr
    have hrm0 : 0 ≤ rm := by omega
    have hrm1 : rm ≤ 9223372036854775807 := by omega
    clear hrr
    go_loopg [6, 7, 8, 9] n (fun gg s6 s7 s8 s9 wr => ∃ (kk : Nat) (c : List Int) (l : List LineC) (lost added told cleared : Int) (v : Value), kk ≤ n ∧ n - kk ≤ gg ∧ s6 = .int .i64 added ∧ s7 = .int .i64 told ∧ s8 = .int .i64 cleared ∧ s9 = .int .i64 kk ∧
      Hid (Led wr B v c l rm lost) ∧ Hid (Inv rm kk c l lost added told cleared) ∧ Hid (Below w.heap.size w wr))
    case atStart => exact ⟨0, _, _, _, 0, 0, 0, _, Nat.zero_le _, by omega, rfl, rfl, rfl, rfl, L8.out, Inv.start hrm0, BW.out⟩
    case round =>
      obtain ⟨kk, c, l, lost, added, told, cleared, v, hkk, hg, rfl, rfl, rfl, rfl, LD, IV, BR⟩ := hrel
      by_cases hlt : kk < n
      · have hltz : (kk : Int) < (n : Int) := by omega
        have h0 : (0 : Int) ≤ (kk : Int) := by omega
        have hact : kk < acts.length := by rw [← HNN.out]; exact hlt
        obtain ⟨x, hx⟩ : ∃ x, acts[kk]? = some x := ⟨_, List.getElem?_eq_getElem hact⟩
        obtain ⟨ad, eA, hbk, r0, r1, r2, r3, r4, r5, r6, r7⟩ := HA.out kk x hx
        have q0 := (BR.out.cell (p := ad.add (kk * 8)) hbk).trans r0
        have q1 := (BR.out.cell (p := ⟨(ad.add (kk * 8)).block, (ad.add (kk * 8)).off + 1, none⟩) hbk).trans r1
        have q2 := (BR.out.cell (p := ⟨(ad.add (kk * 8)).block, (ad.add (kk * 8)).off + 2, none⟩) hbk).trans r2
        have q3 := (BR.out.cell (p := ⟨(ad.add (kk * 8)).block, (ad.add (kk * 8)).off + 3, none⟩) hbk).trans r3
        have q4 := (BR.out.cell (p := ⟨(ad.add (kk * 8)).block, (ad.add (kk * 8)).off + 4, none⟩) hbk).trans r4
        have q5 := (BR.out.cell (p := ⟨(ad.add (kk * 8)).block, (ad.add (kk * 8)).off + 5, none⟩) hbk).trans r5
        have q6 := (BR.out.cell (p := ⟨(ad.add (kk * 8)).block, (ad.add (kk * 8)).off + 6, none⟩) hbk).trans r6
        have q7 := (BR.out.cell (p := ⟨(ad.add (kk * 8)).block, (ad.add (kk * 8)).off + 7, none⟩) hbk).trans r7
        clear r0 r1 r2 r3 r4 r5 r6 r7
        have hbr := Nat.lt_of_lt_of_le hbk BR.out.size
        have hbB := Nat.lt_of_lt_of_le hbk hB0
        subst eA
        clear hx hact
        obtain ⟨xb, xt, xr, xs, xd, xp, xsp, xdp⟩ := x
        have hll : l.length ≤ 1000 := by have := IV.out.ll; omega
        have hc0 := IV.out.clr0
        have hc1 := IV.out.clr1
        have ha0 := IV.out.add0
        have ha1 := IV.out.add1
        have ht0 := IV.out.told0
        have ht1 := IV.out.told1
        cases xb with
        | true =>
          have CL : Hid _ := linesN _ _ _ _ _ _ _ LD.out hll
          go_wp2_with (first
            | (go_at_call 9; refine Calls.mono CL.out ?_; rintro e w1 ⟨A1, cap1, rfl, hL1, hb1⟩; have C10 : Hid _ := clear10 _ _ _ _ _ _ _ hL1; have L1 : Hid _ := hL1; have B1 : Hid _ := hb1; clear hL1 hb1)
            | (go_at_call 10; refine Calls.mono C10.out ?_; rintro e w2 ⟨rfl, hL2, hf2⟩; have L2 : Hid _ := hL2; have F2 : Hid _ := hf2; clear hL2 hf2))
          go_roundg (n - (kk + 1))
          case measure => omega
          case rel =>
            refine ⟨kk + 1, c, [], lost, added, told, cleared + l.length, .slice none 0 0, by omega, by omega, rfl, rfl, rfl, by go_num, L2.out, IV.out.clear, ?_⟩
            exact (BR.out.trans (B1.out.mono BR.out.size)).trans ((F2.out.below (fun k hk => by cases hk) (Nat.le_of_lt L1.out.lt)).mono hB0)
        | false =>
          have LDD : Hid _ := LD.out.below (Below.refl _ _).drew
          cases hr : okR xr with
          | false =>
            have HD : Hid _ := add11_no wr.drew B xt xr xs xd xp xsp xdp hr
            clear hr
            go_wp2_with fail
            go_region_held3 (fun w' => w'.cell? ⟨(ad.add (kk * 8)).block, (ad.add (kk * 8)).off + 1, none⟩ = some (.int .i64 xt) ∧ w'.cell? ⟨(ad.add (kk * 8)).block, (ad.add (kk * 8)).off + 2, none⟩ = some (.int .i64 xr) ∧ w'.cell? ⟨(ad.add (kk * 8)).block, (ad.add (kk * 8)).off + 3, none⟩ = some (.int .u32 xs) ∧ w'.cell? ⟨(ad.add (kk * 8)).block, (ad.add (kk * 8)).off + 4, none⟩ = some (.int .u32 xd) ∧ w'.cell? ⟨(ad.add (kk * 8)).block, (ad.add (kk * 8)).off + 5, none⟩ = some (.int .i64 xp) ∧ w'.cell? ⟨(ad.add (kk * 8)).block, (ad.add (kk * 8)).off + 6, none⟩ = some (.int .i64 xsp) ∧ w'.cell? ⟨(ad.add (kk * 8)).block, (ad.add (kk * 8)).off + 7, none⟩ = some (.int .i64 xdp)) (first | exact ⟨p1, p2, p3, p4, p5, p6, p7⟩ | go_keep) ((go_at_call 11; refine Calls.mono HD.out ?_; rintro e w3 ⟨rfl, hb3⟩; have p1 : w3.cell? ⟨(ad.add (kk * 8)).block, (ad.add (kk * 8)).off + 1, none⟩ = some _ := (hb3.cell (p := ⟨(ad.add (kk * 8)).block, (ad.add (kk * 8)).off + 1, none⟩) hbr).trans q1; have p2 : w3.cell? ⟨(ad.add (kk * 8)).block, (ad.add (kk * 8)).off + 2, none⟩ = some _ := (hb3.cell (p := ⟨(ad.add (kk * 8)).block, (ad.add (kk * 8)).off + 2, none⟩) hbr).trans q2; have p3 : w3.cell? ⟨(ad.add (kk * 8)).block, (ad.add (kk * 8)).off + 3, none⟩ = some _ := (hb3.cell (p := ⟨(ad.add (kk * 8)).block, (ad.add (kk * 8)).off + 3, none⟩) hbr).trans q3; have p4 : w3.cell? ⟨(ad.add (kk * 8)).block, (ad.add (kk * 8)).off + 4, none⟩ = some _ := (hb3.cell (p := ⟨(ad.add (kk * 8)).block, (ad.add (kk * 8)).off + 4, none⟩) hbr).trans q4; have p5 : w3.cell? ⟨(ad.add (kk * 8)).block, (ad.add (kk * 8)).off + 5, none⟩ = some _ := (hb3.cell (p := ⟨(ad.add (kk * 8)).block, (ad.add (kk * 8)).off + 5, none⟩) hbr).trans q5; have p6 : w3.cell? ⟨(ad.add (kk * 8)).block, (ad.add (kk * 8)).off + 6, none⟩ = some _ := (hb3.cell (p := ⟨(ad.add (kk * 8)).block, (ad.add (kk * 8)).off + 6, none⟩) hbr).trans q6; have p7 : w3.cell? ⟨(ad.add (kk * 8)).block, (ad.add (kk * 8)).off + 7, none⟩ = some _ := (hb3.cell (p := ⟨(ad.add (kk * 8)).block, (ad.add (kk * 8)).off + 7, none⟩) hbr).trans q7; have B3 : Hid _ := hb3; clear hb3))
            go_wp2_with fail
            go_roundg (n - (kk + 1))
            case measure => omega
            case rel =>
              refine ⟨kk + 1, c, l, lost, added, told, cleared, v, by omega, by omega, rfl, rfl, rfl, by go_num, LDD.out.below B3.out, IV.out.no, ?_⟩
              exact (BR.out.drew).trans (B3.out.mono BR.out.size)
          | true =>
            have hm : 0 ≤ xr ∧ xr < 16 := by simpa [okR] using hr
            obtain ⟨m, rfl⟩ : ∃ m : Nat, xr = m := ⟨xr.toNat, by omega⟩
            have hm16 : m < 16 := by omega
            have hgt := IV.out.get m hm16
            have HD : Hid _ := add11 wr.drew B v c l rm lost LDD.out xt m xs xd xp xsp xdp hm16 hgt.1 (by have := hgt.2; omega) hll IV.out.rm hrm1 IV.out.lost0 (by have := IV.out.lost1; omega)
            clear hr hm hgt
            go_wp2_with fail
            go_region_held3 (fun w' => w'.cell? ⟨(ad.add (kk * 8)).block, (ad.add (kk * 8)).off + 1, none⟩ = some (.int .i64 xt) ∧ w'.cell? ⟨(ad.add (kk * 8)).block, (ad.add (kk * 8)).off + 2, none⟩ = some (.int .i64 m) ∧ w'.cell? ⟨(ad.add (kk * 8)).block, (ad.add (kk * 8)).off + 3, none⟩ = some (.int .u32 xs) ∧ w'.cell? ⟨(ad.add (kk * 8)).block, (ad.add (kk * 8)).off + 4, none⟩ = some (.int .u32 xd) ∧ w'.cell? ⟨(ad.add (kk * 8)).block, (ad.add (kk * 8)).off + 5, none⟩ = some (.int .i64 xp) ∧ w'.cell? ⟨(ad.add (kk * 8)).block, (ad.add (kk * 8)).off + 6, none⟩ = some (.int .i64 xsp) ∧ w'.cell? ⟨(ad.add (kk * 8)).block, (ad.add (kk * 8)).off + 7, none⟩ = some (.int .i64 xdp)) (first | exact ⟨p1, p2, p3, p4, p5, p6, p7⟩ | go_keep) ((go_at_call 11; refine Calls.mono HD.out ?_; rintro e w3 ⟨rfl, hadd⟩; have hb3 := addok_below LDD.out hadd.choose_spec.2.1; have p1 : w3.cell? ⟨(ad.add (kk * 8)).block, (ad.add (kk * 8)).off + 1, none⟩ = some _ := (hb3.cell (p := ⟨(ad.add (kk * 8)).block, (ad.add (kk * 8)).off + 1, none⟩) hbB).trans q1; have p2 : w3.cell? ⟨(ad.add (kk * 8)).block, (ad.add (kk * 8)).off + 2, none⟩ = some _ := (hb3.cell (p := ⟨(ad.add (kk * 8)).block, (ad.add (kk * 8)).off + 2, none⟩) hbB).trans q2; have p3 : w3.cell? ⟨(ad.add (kk * 8)).block, (ad.add (kk * 8)).off + 3, none⟩ = some _ := (hb3.cell (p := ⟨(ad.add (kk * 8)).block, (ad.add (kk * 8)).off + 3, none⟩) hbB).trans q3; have p4 : w3.cell? ⟨(ad.add (kk * 8)).block, (ad.add (kk * 8)).off + 4, none⟩ = some _ := (hb3.cell (p := ⟨(ad.add (kk * 8)).block, (ad.add (kk * 8)).off + 4, none⟩) hbB).trans q4; have p5 : w3.cell? ⟨(ad.add (kk * 8)).block, (ad.add (kk * 8)).off + 5, none⟩ = some _ := (hb3.cell (p := ⟨(ad.add (kk * 8)).block, (ad.add (kk * 8)).off + 5, none⟩) hbB).trans q5; have p6 : w3.cell? ⟨(ad.add (kk * 8)).block, (ad.add (kk * 8)).off + 6, none⟩ = some _ := (hb3.cell (p := ⟨(ad.add (kk * 8)).block, (ad.add (kk * 8)).off + 6, none⟩) hbB).trans q6; have p7 : w3.cell? ⟨(ad.add (kk * 8)).block, (ad.add (kk * 8)).off + 7, none⟩ = some _ := (hb3.cell (p := ⟨(ad.add (kk * 8)).block, (ad.add (kk * 8)).off + 7, none⟩) hbB).trans q7; have B3 : Hid _ := hb3; have AD : Hid _ := hadd; clear hb3 hadd))
            go_wp2_with fail
            all_goals
              go_roundg (n - (kk + 1))
              case measure => omega
              case rel =>
                obtain ⟨v', hL3, hF3, _⟩ := AD.out
                refine ⟨kk + 1, _, _, _, added + 1, _, cleared, v', by omega, by omega, rfl, ?_, rfl, by go_num, hL3, IV.out.add m hm16 _, ?_⟩
                · first | rw [if_pos (quiet_t _ (by assumption))] | rw [if_pos (quiet_1 _ (by assumption))] | rw [if_pos (quiet_0 _ (by assumption))] | rw [if_neg (quiet_f _ (by assumption))]
                · exact (BR.out.drew).trans (B3.out.mono hB0)
      · have hltz : ¬ (kk : Int) < (n : Int) := by omega
        have hll : l.length ≤ 1000 := by have := IV.out.ll; omega
        have hpos : ∀ x ∈ c, 0 ≤ x ∧ x ≤ 100 := fun x hx => ⟨(IV.out.pos x hx).1, by have := (IV.out.pos x hx).2; omega⟩
        have POS : Hid _ := hpos
        have hlost0 := IV.out.lost0
        have hlost1 := IV.out.lost1
        have hc0 := IV.out.clr0
        have hc1 := IV.out.clr1
        have hrml := IV.out.rm
        have TOT : Hid _ := IV.out.tot
        have SUM : Hid _ := IV.out.sum
        have LEN : Hid _ := IV.out.len
        clear hpos
        obtain ⟨cs, hcs⟩ : ∃ cs, cs = c := ⟨_, rfl⟩
        obtain ⟨x0, x1, x2, x3, x4, x5, x6, x7, x8, x9, x10, x11, x12, x13, x14, x15, hcx⟩ : ∃ x0 x1 x2 x3 x4 x5 x6 x7 x8 x9 x10 x11 x12 x13 x14 x15, c = [x0, x1, x2, x3, x4, x5, x6, x7, x8, x9, x10, x11, x12, x13, x14, x15] := by
          have hl := IV.out.len
          match c, hl with
          | [x0, x1, x2, x3, x4, x5, x6, x7, x8, x9, x10, x11, x12, x13, x14, x15], _ => exact ⟨_, _, _, _, _, _, _, _, _, _, _, _, _, _, _, _, rfl⟩
        have CT : Hid (Calls Try.prog 12 #[.pointer (some ⟨B, 0, none⟩)] wr fun e w' => e = .returned (.agg #[.int .i64 x0, .int .i64 x1, .int .i64 x2, .int .i64 x3, .int .i64 x4, .int .i64 x5, .int .i64 x6, .int .i64 x7, .int .i64 x8, .int .i64 x9, .int .i64 x10, .int .i64 x11, .int .i64 x12, .int .i64 x13, .int .i64 x14, .int .i64 x15]) ∧ Below wr.heap.size wr w') := by
          have := counts12 _ _ _ _ _ _ _ LD.out
          rw [hcx] at this
          exact this
        have HCX : Hid _ := hcx
        clear hcx hcs
        go_wp2_with (go_at_call 12; refine Calls.mono CT.out ?_; rintro e w4 ⟨rfl, hb4⟩; have B4 : Hid _ := hb4; clear hb4)
        have HCELL : Hid (∀ j, j < 16 → (w4.alloc (.cells #[.int .i64 x0, .int .i64 x1, .int .i64 x2, .int .i64 x3, .int .i64 x4, .int .i64 x5, .int .i64 x6, .int .i64 x7, .int .i64 x8, .int .i64 x9, .int .i64 x10, .int .i64 x11, .int .i64 x12, .int .i64 x13, .int .i64 x14, .int .i64 x15] 37)).cell? ⟨w4.heap.size, j, none⟩ = some (.int .i64 (c.getD j 0))) := fun j hj => by
          rw [cell_of_row _ _ _ _ _ _ (heap_alloc_new w4 _), HCX.out]
          match j, hj with
          | 0, _ | 1, _ | 2, _ | 3, _ | 4, _ | 5, _ | 6, _ | 7, _ | 8, _ | 9, _ | 10, _ | 11, _ | 12, _ | 13, _ | 14, _ | 15, _ => rfl
          | j + 16, h => exact absurd h (by omega)
        have BA : Hid (Below wr.heap.size wr (w4.alloc (.cells #[.int .i64 x0, .int .i64 x1, .int .i64 x2, .int .i64 x3, .int .i64 x4, .int .i64 x5, .int .i64 x6, .int .i64 x7, .int .i64 x8, .int .i64 x9, .int .i64 x10, .int .i64 x11, .int .i64 x12, .int .i64 x13, .int .i64 x14, .int .i64 x15] 37))) := B4.out.alloc B4.out.size _
        clear CT HCX
        generalize w4.alloc (.cells #[.int .i64 x0, .int .i64 x1, .int .i64 x2, .int .i64 x3, .int .i64 x4, .int .i64 x5, .int .i64 x6, .int .i64 x7, .int .i64 x8, .int .i64 x9, .int .i64 x10, .int .i64 x11, .int .i64 x12, .int .i64 x13, .int .i64 x14, .int .i64 x15] 37) = WA at HCELL BA ⊢
        generalize w4.heap.size = G at HCELL ⊢
        have LA : Hid _ := LD.out.below BA.out
        go_loopg [11, 12] 16 (fun gg s11 s12 wr2 => ∃ (j : Nat) (S : Int), j ≤ 16 ∧ 16 - j ≤ gg ∧ s11 = .int .i64 S ∧ Hid (S = (c.take j).sum) ∧ s12 = .int .i64 j ∧ WA = wr2)
        case atStart => exact ⟨0, 0, Nat.zero_le _, by omega, rfl, rfl, rfl, rfl⟩
        case round =>
          obtain ⟨j, S, hj, hg2, rfl, HS, rfl, rfl⟩ := hrel
          by_cases hjl : j < 16
          · have hjz : (j : Int) < 16 := by omega
            have hj0 : (0 : Int) ≤ (j : Int) := by omega
            have hcj := HCELL.out j hjl
            have hlc : c.length = 16 := LEN.out
            have hb1 := take_bound c POS.out j (by omega)
            have hb2 := take_bound c POS.out (j + 1) (by omega)
            have hts := take_sum c j (by omega)
            rw [← HS.out] at hb1 hts
            rw [hts] at hb2
            have TS : Hid _ := hts
            clear hts
            generalize hy : c.getD j 0 = y at hcj hb2 TS
            have hS0 := hb1.1
            have hS1 := hb1.2
            have hT0 := hb2.1
            have hT1 := hb2.2
            clear hb1 hb2 hlc hy
            go_wp2_with fail
            go_roundg (16 - (j + 1))
            case measure => omega
            case rel => exact ⟨j + 1, S + y, by omega, by omega, by go_num, TS.out.symm, by go_num, rfl⟩
          · have hjz : ¬ (j : Int) < 16 := by omega
            obtain rfl : j = 16 := by omega
            obtain rfl : S = added := by
              have h1 := HS.out
              rw [List.take_of_length_le (Nat.le_of_eq LEN.out)] at h1
              exact h1.trans SUM.out
            obtain rfl := TOT.out
            have hle : (room < 0 ∧ (l.length : Int) ≤ 0) ∨ (0 ≤ room ∧ (l.length : Int) ≤ room) := by
              have := HRM.out
              omega
            have A9 : Hid _ := linesN _ _ _ _ _ _ _ LA.out hll
            have NL : Hid ((l.length : Int) ≤ 0 → decide (l = []) = true) := fun h => by
              rw [decide_eq_true_eq]
              exact List.length_eq_zero_iff.1 (by omega)
            clear hrml
            rcases hle with ⟨hr1, hr2⟩ | ⟨hr1, hr2⟩
            all_goals
              go_wp2_with (first
                | (go_at_call 9; refine Calls.mono A9.out ?_; rintro e w5 ⟨A5, c5, rfl, hL5, hb5⟩; have A13 : Hid _ := lost13 _ _ _ _ _ _ _ hL5; have AA9 : Hid _ := linesN _ _ _ _ _ _ _ hL5 hll; have B5 : Hid _ := hb5; clear hL5 hb5 A9)
                | (go_at_call 13; refine Calls.mono A13.out ?_; rintro e w6 ⟨rfl, rfl⟩)
                | (go_at_call 9; refine Calls.mono AA9.out ?_; rintro e w8' ⟨A8, c8, rfl, hL8, hb8⟩; have B8' : Hid _ := hb8; clear hL8 hb8 AA9))
              all_goals (try rw [NL.out hr2])
              all_goals go_ret
              all_goals refine ⟨rfl, ?_⟩
              all_goals exact BR.out.trans (((bel_trans (bel_trans BA.out B5.out) B8'.out)).mono BR.out.size)

end Go.Proofs.Ytkpnbkcebpeaoaa.P
