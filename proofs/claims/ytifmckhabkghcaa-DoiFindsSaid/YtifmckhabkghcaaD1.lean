/- Contract of the reference's Data (layer 11). -/
import Derived.Test.YtifmckhabkghcaaL1
namespace Go.Proofs.Ytifmckhabkghcaa.P
open Go.RowKit
set_option linter.unusedSimpArgs false

/-- The number of i categories from k on. -/
def acc (S k : Nat) : Nat → Nat
  | 0 => 0
  | i + 1 => 2 * acc S k i + (S.testBit (k + i)).toNat
theorem acc_lt (S k i : Nat) : acc S k i < 2 ^ i := by
  induction i with
  | zero => simp [acc]
  | succ i ih =>
    have : (S.testBit (k + i)).toNat ≤ 1 := by cases S.testBit (k + i) <;> simp
    rw [acc, Nat.pow_succ]
    omega
theorem acc_7 (S j : Nat) : 2 * acc S (7 * j) 7 = b7 S j := by
  simp only [acc, b7, B8, Nat.add_zero, Bool.toNat_false]
  omega
theorem hasB_nat {S : Nat} (hS : S < 2 ^ 240) (n : Nat) : hasB S n = S.testBit n := by
  unfold hasB rightB
  rcases Nat.lt_or_ge n 240 with h | h
  · have h1 : decide ((0 : Int) ≤ n) = true := decide_eq_true (by omega)
    have h2 : decide ((n : Int) ≤ 239) = true := decide_eq_true (by omega)
    rw [h1, h2]; simp
  · rw [show ((n : Int).toNat) = n from rfl, no_bit hS h]; simp
theorem encE_le (x : Lab) (h0 : 0 ≤ x.lv) (h1 : x.lv ≤ 255) : encE x = if fitsB x then 0 else 5 := by
  simp [encE, rightL, h0, h1]
theorem authL_take (S j : Nat) (h : j < authN S) : (authL S).take (j + 1) = (authL S).take j ++ [b7 S j + if j + 1 < authN S then 1 else 0] := by
  rw [List.take_add_one]
  congr 1
  simp [authL, h]
set_option maxRecDepth 100000 in
set_option maxHeartbeats 4000000 in
theorem data18 (x : Lab) (hS : x.S < 2 ^ 240) (w : World) : Calls Try.prog 18 #[.agg (labA x)] w fun e w' => e = .returned (.tuple #[.string (bs (encD x)), .int .i64 (encE x)]) ∧ Below w.heap.size w w' := by
  have hu25 := Try.underlying25
  have hu23 := Try.underlying23
  have hu82 := Try.underlying82
  obtain ⟨i0, hi0, hz0, hz1, hz2⟩ := info_parts info5
  have HI0 := Lib.hid hi0
  have HZ0 := Lib.hid hz0
  have HZ1 := Lib.hid hz1
  have HZ2 := Lib.hid hz2
  clear hi0 hz0 hz1 hz2
  have HX := Lib.hid hS
  have HG := Lib.hid (show ∀ (k : Nat) w, Calls Try.prog 16 #[.agg (catA x.S), .int .i64 k] w fun e w' => e = .returned (.bool (x.S.testBit k)) ∧ Below w.heap.size w w' from fun k w => by
    have h := has16 x.S k w
    rwa [hasB_nat hS] at h)
  have HBY := Lib.hid (byte21 x.lv)
  have H0 := heap_alloc_new w (.cells (labA x) 25)
  have c0 : (w.alloc (.cells (labA x) 25)).cell? ⟨w.heap.size, 0, none⟩ = some (.int .i64 x.lv) := (cell_of_row _ _ _ _ _ _ H0).trans (labA_0 x)
  have HH0 := Lib.hid H0
  have HB0 := Lib.hid (bel_alloc (Below.refl w.heap.size w) (.cells (labA x) 25))
  have hi23 := info23L x.S
  clear H0 hS
  by_cases h0 : x.lv < 0
  · have d0 : decide (x.lv < 0) = true := decide_eq_true h0
    have HE := Lib.hid (show encE x = 1 by simp [encE, rightL]; omega)
    go_enter Try.func18, Try.ntmps18
    go_wp2_with fail
    go_ret2
    exact ⟨by simp [encD, HE.out, bs], HB0.out⟩
  have d0 : decide (x.lv < 0) = false := decide_eq_false h0
  by_cases h1 : 255 < x.lv
  · have d1 : decide (255 < x.lv) = true := decide_eq_true h1
    have HE := Lib.hid (show encE x = 1 by simp [encE, rightL]; omega)
    go_enter Try.func18, Try.ntmps18
    go_wp2_with fail
    go_ret2
    exact ⟨by simp [encD, HE.out, bs], HB0.out⟩
  have d1 : decide (255 < x.lv) = false := decide_eq_false h1
  have HE := Lib.hid (encE_le x (by omega) (by omega))
  go_enter Try.func18, Try.ntmps18
  go_wp2_with fail
  go_loopg [4, 5] 240 (fun gg s4 s5 wr => ∃ (i : Nat), i ≤ 240 ∧ 240 - i ≤ gg ∧ s4 = .int .i64 (mostB x.S i) ∧ s5 = .int .i64 i ∧ Hid (wr.heap[w.heap.size]? = some (.cells (labA x) 25 (0, 0))) ∧ Hid (Below w.heap.size w wr))
  case atStart => exact ⟨0, Nat.zero_le _, Nat.le_refl _, rfl, rfl, HH0, HB0⟩
  case round =>
    obtain ⟨i, hi, hgg, rfl, rfl, K2, BR⟩ := hrel
    clear HH0 HB0 c0
    have R2 := Lib.hid (range_of K2.out)
    by_cases hlt : i < 240
    · have d1 : decide ((i : Int) < 240) = true := decide_eq_true (by omega)
      have q1 : IntKind.i64.wrap ((i : Int) + 1) = ((i + 1 : Nat) : Int) := by rw [IntWalk.i64_in _ (by omega)]; rfl
      cases hb : x.S.testBit i with
      | true =>
        have HH := Lib.hid (HG.out i)
        rw [hb] at HH
        go_wp2_with (first
          | (refine load_mid_g 23 (.tmp 22) rfl w.heap.size 1 rfl (catL x.S) _ R2.out hu23 rfl hi23 rfl ?_)
          | (go_at_call 16; refine (HH.out _).mono ?_; rintro e w2 ⟨rfl, hb2⟩; have K4 := Lib.hid (blk_below K2.out hb2); have B5 := Lib.hid (below_then BR.out BR.out.size hb2); clear hb2))
        go_roundg (240 - (i + 1))
        case measure => omega
        case rel => exact ⟨i + 1, hlt, Nat.le_refl _, by show _ = Value.int .i64 (if x.S.testBit i = true then (i : Int) else mostB x.S i); rw [if_pos hb], rfl, K4, B5⟩
      | false =>
        have HH := Lib.hid (HG.out i)
        rw [hb] at HH
        go_wp2_with (first
          | (refine load_mid_g 23 (.tmp 22) rfl w.heap.size 1 rfl (catL x.S) _ R2.out hu23 rfl hi23 rfl ?_)
          | (go_at_call 16; refine (HH.out _).mono ?_; rintro e w2 ⟨rfl, hb2⟩; have K4 := Lib.hid (blk_below K2.out hb2); have B5 := Lib.hid (below_then BR.out BR.out.size hb2); clear hb2))
        go_roundg (240 - (i + 1))
        case measure => omega
        case rel => exact ⟨i + 1, hlt, Nat.le_refl _, by show _ = Value.int .i64 (if x.S.testBit i = true then (i : Int) else mostB x.S i); rw [if_neg (by rw [hb]; decide)], rfl, K4, B5⟩
    · have d1 : decide ((i : Int) < 240) = false := decide_eq_false (by omega)
      have hi2 : i = 240 := by omega
      subst hi2
      have c0 : wr.cell? ⟨w.heap.size, 0, none⟩ = some (.int .i64 x.lv) := (cell_of_row _ _ _ _ _ _ K2.out).trans (labA_0 x)
      by_cases h4 : 3 < x.lv
      · have HF := Lib.hid (show fitsB x = false by simp [fitsB]; omega)
        rw [show byteL x.lv = 0 by unfold byteL; repeat (first | rw [if_neg (by omega)] | rfl)] at HBY
        go_wp2_with (first
          | (go_at_call 21; refine (HBY.out _).mono ?_; rintro e w2 ⟨rfl, rfl⟩))
        go_ret2
        exact ⟨by simp [encD, HE.out, HF.out, bs], BR.out⟩
      obtain ⟨n, hn⟩ : ∃ n : Nat, x.lv = n := ⟨x.lv.toNat, by omega⟩
      have hn4 : n < 4 := by omega
      have hby : byteL x.lv = (lvb n : Int) := by
        rw [hn]
        have : n = 0 ∨ n = 1 ∨ n = 2 ∨ n = 3 := by omega
        rcases this with rfl | rfl | rfl | rfl <;> rfl
      rw [hby] at HBY
      have hv0 : (lvb n : Int) ≠ 0 := by unfold lvb; split <;> (try split) <;> (try split) <;> omega
      have dv : decide ((lvb n : Int) = 0) = false := decide_eq_false hv0
      by_cases hm : 27 < mostB x.S 240
      · clear hn
        have HF := Lib.hid (show fitsB x = false by simp [fitsB]; omega)
        have dm : decide (27 < mostB x.S 240) = true := decide_eq_true hm
        go_wp2_with (first
          | (go_at_call 21; refine (HBY.out _).mono ?_; rintro e w2 ⟨rfl, rfl⟩))
        go_ret2
        exact ⟨by simp [encD, HE.out, HF.out, bs], BR.out⟩
      have HF := Lib.hid (show fitsB x = true by simp [fitsB]; omega)
      have dm : decide (27 < mostB x.S 240) = false := decide_eq_false hm
      have hmg := mostB_ge x.S 240
      have HAI := Lib.hid (authN_int x.S)
      have HEN := Lib.hid (show encD x = lvb n :: authL x.S by simp [encD, HE.out, HF.out, encL, hn])
      have HN := Lib.hid hn
      clear hn
      generalize hmo : mostB x.S 240 = m at HAI hmg hm dm ⊢
      have hlt0 := lt_of_block K2.out
      have hal := authN_le x.S
      go_wp2_with (first
        | (go_at_call 21; refine (HBY.out _).mono ?_; rintro e w2 ⟨rfl, rfl⟩))
      go_loopg [6, 7] (authN x.S) (fun gg s6 s7 wq => ∃ j : Nat, j ≤ authN x.S ∧ authN x.S - j ≤ gg ∧ s7 = .int .i64 (7 * (j : Int)) ∧ Hid (wq.ownsRow (w.heap.size + 1) 5 1 s6 (1 + j) (bytes (lvb n :: (authL x.S).take j))) ∧ Hid (wq.heap[w.heap.size]? = some (.cells (labA x) 25 (0, 0))) ∧ Hid (Below w.heap.size w wq))
      case atStart => exact ⟨0, Nat.zero_le _, Nat.le_refl _, rfl, ⟨rfl, .inr ⟨_, 1, #[.int .u8 (lvb n)], rfl, hlt0, heap_alloc_new _ _, Nat.le_refl _, by unfold maxLen; omega, rfl, rfl⟩⟩, (heap_alloc_old _ _ hlt0).trans K2.out, bel_alloc BR.out _⟩
      case round =>
        obtain ⟨j, hj, hgg, rfl, OW, K3, B3⟩ := hrel
        clear K2 BR R2 c0 hlt0
        by_cases hlt : j < authN x.S
        · have hai := HAI.out
          have dj : decide (7 * (j : Int) ≤ m) = true := decide_eq_true (by omega)
          go_wp2_with fail
          go_loopg [8, 9] 7 (fun gi s8 s9 wi => ∃ i : Nat, i ≤ 7 ∧ 7 - i ≤ gi ∧ s8 = .int .i64 (acc x.S (7 * j) i) ∧ s9 = .int .i64 i ∧ Hid (wi.ownsRow (w.heap.size + 1) 5 1 u6 (1 + j) (bytes (lvb n :: (authL x.S).take j))) ∧ Hid (wi.heap[w.heap.size]? = some (.cells (labA x) 25 (0, 0))) ∧ Hid (Below w.heap.size w wi))
          case atStart => exact ⟨0, Nat.zero_le _, Nat.le_refl _, rfl, rfl, OW, K3, B3⟩
          case round =>
            obtain ⟨i, hi, hgi, rfl, rfl, OW2, K4, B4⟩ := hrel
            clear OW K3 B3
            have R4 := Lib.hid (range_of K4.out)
            have hlt1 := lt_of_block K4.out
            by_cases hi7 : i < 7
            · have di : decide ((i : Int) < 7) = true := decide_eq_true (by omega)
              have hA := acc_lt x.S (7 * j) i
              have hp : 2 ^ i ≤ 2 ^ 6 := Nat.pow_le_pow_right (by decide) (by omega)
              have hA1 : acc x.S (7 * j) (i + 1) = 2 * acc x.S (7 * j) i + (x.S.testBit (7 * j + i)).toNat := rfl
              have HH := Lib.hid (show ∀ w, Calls Try.prog 16 #[.agg (catA x.S), .int .i64 (7 * (j : Int) + (i : Int))] w fun e w' => e = .returned (.bool (x.S.testBit (7 * j + i))) ∧ Below w.heap.size w w' from fun w => by
                have h := HG.out (7 * j + i) w
                rwa [show ((7 * j + i : Nat) : Int) = 7 * (j : Int) + (i : Int) by omega] at h)
              have HA1 := Lib.hid hA1
              generalize acc x.S (7 * j) i = A at hA HA1 ⊢
              have q1 : IntKind.i64.wrap (2 * (A : Int)) = 2 * (A : Int) := IntWalk.i64_in _ (by omega)
              have q2 : IntKind.i64.wrap (2 * (A : Int) + 1) = 2 * (A : Int) + 1 := IntWalk.i64_in _ (by omega)
              have q3 : IntKind.i64.wrap (7 * (j : Int) + (i : Int)) = 7 * (j : Int) + (i : Int) := IntWalk.i64_in _ (by omega)
              have q4 : IntKind.i64.wrap ((i : Int) + 1) = (i : Int) + 1 := IntWalk.i64_in _ (by omega)
              clear hA1
              cases hb : x.S.testBit (7 * j + i) with
              | true =>
                rw [hb] at HH HA1
                go_wp2_with (first
                  | (refine load_mid_g 23 (.tmp 50) rfl w.heap.size 1 rfl (catL x.S) _ R4.out hu23 rfl hi23 rfl ?_)
                  | (go_at_call 16; refine (HH.out _).mono ?_; rintro e w2 ⟨rfl, hb2⟩; have HB2 := Lib.hid hb2; clear hb2))
                go_roundg (7 - (i + 1))
                case measure => omega
                case rel => exact ⟨i + 1, hi7, Nat.le_refl _, by rw [HA1.out]; simp, by simp, own_below OW2.out HB2.out, blk_below K4.out HB2.out, below_then B4.out B4.out.size HB2.out⟩
              | false =>
                rw [hb] at HH HA1
                go_wp2_with (first
                  | (refine load_mid_g 23 (.tmp 50) rfl w.heap.size 1 rfl (catL x.S) _ R4.out hu23 rfl hi23 rfl ?_)
                  | (go_at_call 16; refine (HH.out _).mono ?_; rintro e w2 ⟨rfl, hb2⟩; have HB2 := Lib.hid hb2; clear hb2))
                go_roundg (7 - (i + 1))
                case measure => omega
                case rel => exact ⟨i + 1, hi7, Nat.le_refl _, by rw [HA1.out]; simp, by simp, own_below OW2.out HB2.out, blk_below K4.out HB2.out, below_then B4.out B4.out.size HB2.out⟩
            · have di : decide ((i : Int) < 7) = false := decide_eq_false (by omega)
              have hi2 : i = 7 := by omega
              subst hi2
              have hA := acc_lt x.S (7 * j) 7
              have H7 := Lib.hid (acc_7 x.S j)
              have HT := Lib.hid (authL_take x.S j hlt)
              generalize acc x.S (7 * j) 7 = A at hA H7 ⊢
              have hA2 : A < 128 := hA
              have q1 : IntKind.i64.wrap (2 * (A : Int)) = 2 * (A : Int) := IntWalk.i64_in _ (by omega)
              have q2 : IntKind.i64.wrap (2 * (A : Int) + 1) = 2 * (A : Int) + 1 := IntWalk.i64_in _ (by omega)
              have q3 : IntKind.i64.wrap (7 * (j : Int) + 7) = 7 * (j : Int) + 7 := IntWalk.i64_in _ (by omega)
              have u1 : IntKind.u8.wrap (2 * (A : Int)) = 2 * (A : Int) := IntWalk.u8_in _ (by omega)
              have u2 : IntKind.u8.wrap (2 * (A : Int) + 1) = 2 * (A : Int) + 1 := IntWalk.u8_in _ (by omega)
              clear hA
              by_cases hj1 : j + 1 < authN x.S
              · have dk : decide (7 * (j : Int) + 7 ≤ m) = true := decide_eq_true (by omega)
                go_wp2_with (first
                  | (at_builtin; refine wpList_append_own _ rfl (.tmp 66) (.tmp 69) 82 rfl (w.heap.size + 1) 5 i0 (.int .u8 0) 1 1 hu82 HI0.out HZ0.out HZ1.out HZ2.out rfl (by decide) _ _ _ rfl (OW2.out.alloc _) ⟨wr.heap.size, 0, none⟩ 1 1 [.int .u8 (2 * (A : Int) + 1)] rfl rfl (World.news_of_block (cs := #[.int .u8 (2 * (A : Int) + 1)]) (heap_alloc_new _ _)) (by intro u hu; rw [List.mem_singleton.1 hu]; rfl) (by unfold maxLen; omega) (by omega) (by simp; omega) ?_; intro v' w5 ho5 hg5 _; have HO5 := Lib.hid ho5; have HG5 := Lib.hid hg5; clear ho5 hg5))
                go_roundg (authN x.S - (j + 1))
                case measure => omega
                case rel =>
                  refine ⟨j + 1, hlt, Nat.le_refl _, by simp; omega, ?_, ?_, ?_⟩
                  · have := HO5.out
                    refine Lib.hid ?_
                    rw [HT.out, if_pos hj1, ← H7.out, bytes, List.map_cons, List.map_append, ← List.cons_append]
                    simpa [bytes, Nat.add_assoc] using this
                  · refine (HG5.out.block _ (by simp; omega) (fun e => ?_)).trans ((heap_alloc_old _ _ hlt1).trans K4.out)
                    have := (OW2.out.lt _ e.symm).1
                    omega
                  · exact (bel_alloc B4.out _).grown HG5.out (by simp; omega) (fun k hk => by have := (OW2.out.lt _ hk).1; omega)
              · have dk : decide (7 * (j : Int) + 7 ≤ m) = false := decide_eq_false (by omega)
                go_wp2_with (first
                  | (at_builtin; refine wpList_append_own _ rfl (.tmp 66) (.tmp 69) 82 rfl (w.heap.size + 1) 5 i0 (.int .u8 0) 1 1 hu82 HI0.out HZ0.out HZ1.out HZ2.out rfl (by decide) _ _ _ rfl (OW2.out.alloc _) ⟨wr.heap.size, 0, none⟩ 1 1 [.int .u8 (2 * (A : Int))] rfl rfl (World.news_of_block (cs := #[.int .u8 (2 * (A : Int))]) (heap_alloc_new _ _)) (by intro u hu; rw [List.mem_singleton.1 hu]; rfl) (by unfold maxLen; omega) (by omega) (by simp; omega) ?_; intro v' w5 ho5 hg5 _; have HO5 := Lib.hid ho5; have HG5 := Lib.hid hg5; clear ho5 hg5))
                go_roundg (authN x.S - (j + 1))
                case measure => omega
                case rel =>
                  refine ⟨j + 1, hlt, Nat.le_refl _, by simp; omega, ?_, ?_, ?_⟩
                  · have := HO5.out
                    refine Lib.hid ?_
                    rw [HT.out, if_neg hj1, ← H7.out, bytes, List.map_cons, List.map_append, ← List.cons_append]
                    simpa [bytes, Nat.add_assoc] using this
                  · refine (HG5.out.block _ (by simp; omega) (fun e => ?_)).trans ((heap_alloc_old _ _ hlt1).trans K4.out)
                    have := (OW2.out.lt _ e.symm).1
                    omega
                  · exact (bel_alloc B4.out _).grown HG5.out (by simp; omega) (fun k hk => by have := (OW2.out.lt _ hk).1; omega)
        · have hai := HAI.out
          have dj : decide (7 * (j : Int) ≤ m) = false := decide_eq_false (by omega)
          have hj2 : j = authN x.S := by omega
          subst hj2
          have OW2 := OW.out
          rw [List.take_of_length_le (by rw [authL_len]; exact Nat.le_refl _)] at OW2
          obtain ⟨A, c, rfl, hAc⟩ := own_form OW2
          obtain ⟨g, rfl, _⟩ := hAc 0 _ rfl
          have hcv := conv_bs wr g (1 + authN x.S) c (lvb n :: authL x.S) (by simp [authL_len]; omega) (fun i u hu => by
            obtain ⟨g', hg', _, _, hc'⟩ := hAc i u hu
            cases hg'
            exact hc')
          go_wp2_with fail
          go_ret2
          exact ⟨by rw [HEN.out, HE.out, HF.out]; rfl, B3.out⟩
end Go.Proofs.Ytifmckhabkghcaa.P
