/- Contract of basic.Decode. -/
import Derived.Test.YtifmckhabkghcaaD3
namespace Go.Proofs.Ytifmckhabkghcaa.P
open Go.RowKit
set_option linter.unusedSimpArgs false

/-- What basic.Decode tells. -/
def d1L (l : List Nat) : Lab := if ok1 l then x1 l else ⟨0, 0⟩
def d1N (l : List Nat) : Nat := if ok1 l then 0 else 3
theorem d12 (l : List Nat) : d1L l = d2L l ∧ d1N l = d2N l := by
  cases h : ok1 l with
  | true =>
    obtain ⟨n, hn, hx, h2, hno⟩ := ok_one h
    obtain ⟨e1, e2⟩ := d2_hit hn hno h2
    rw [e1, e2]
    simp [d1L, d1N, h, hx]
  | false =>
    obtain ⟨e1, e2⟩ := d2_none (ok_none h)
    rw [e1, e2]
    simp [d1L, d1N, h]
theorem ofP_step (p : Nat → Bool) (n : Nat) : ofP p (min 240 (n + 1)) = if p n then withS (ofP p (min 240 n)) n else ofP p (min 240 n) := by
  by_cases h : n < 240
  · rw [Nat.min_eq_right (by omega), Nat.min_eq_right (by omega), withS_nat _ _ h]; rfl
  · rw [Nat.min_eq_left (by omega), Nat.min_eq_left (by omega)]
    have : rightB n = false := by unfold rightB; simp; omega
    simp [withS, this]
theorem and_test (B k : Nat) (hB : B < 256) (hk : k < 7) : (bits .and .u8 (B : Int) ((128 : Int) / 2 ^ k) = 0) ↔ B.testBit (7 - k) = false := by
  have h1 : ((128 : Int) / 2 ^ k) = ((2 ^ (7 - k) : Nat) : Int) := by
    have : k = 0 ∨ k = 1 ∨ k = 2 ∨ k = 3 ∨ k = 4 ∨ k = 5 ∨ k = 6 := by omega
    rcases this with rfl | rfl | rfl | rfl | rfl | rfl | rfl <;> rfl
  have h2 : 2 ^ (7 - k) < 256 := Nat.lt_of_le_of_lt (Nat.pow_le_pow_right (by decide) (show 7 - k ≤ 7 by omega)) (by decide)
  rw [h1, and8 _ _ hB h2, ← and_pow]
  simp
theorem blk_dab {w w1 : World} {g n : Nat} {o o' : Obj} (h : w.heap[g]? = some o) (hb : Below ((w.drewN n).alloc o').heap.size ((w.drewN n).alloc o') w1) : w1.heap[g]? = some o :=
  blk_below ((heap_alloc_old (w.drewN n) o' (lt_of_block (w := w.drewN n) h)).trans h) hb
theorem bel_dab {w w1 w2 : World} {n : Nat} {o : Obj} (h : Below w.heap.size w w1) (hb : Below ((w1.drewN n).alloc o).heap.size ((w1.drewN n).alloc o) w2) : Below w.heap.size w w2 :=
  bel_trans (bel_alloc (bel_drewN h n) o) hb
set_option maxRecDepth 100000 in
set_option maxHeartbeats 1000000 in
theorem dec19_kind (k : Int) (s : ByteArray) (hk : k ≠ 130) (w : World) : Calls Try.prog 19 #[.agg #[.int .i64 k, .string s]] w fun e w' => e = .returned (.tuple #[.agg (labA ⟨0, 0⟩), .int .i64 3]) ∧ Below w.heap.size w w' := by
  have hu25 := Try.underlying25
  have hu27 := Try.underlying27
  have dk : decide (k = 130) = false := decide_eq_false hk
  have HB := Lib.hid (bel_alloc (bel_alloc (Below.refl w.heap.size w) (.cells #[.int .i64 k, .string s] 27)) (.cells z25 25))
  have H1 := Lib.hid (heap_alloc2_new w (.cells #[.int .i64 k, .string s] 27) (.cells z25 25))
  unfold z25 at H1 HB
  rw [← z25_lab]
  go_enter Try.func19, Try.ntmps19
  go_wp2_with (first
    | (refine wpList_store_row rfl 25 (.tmp 2) (.tmp 15) rfl (w.heap.size + 1) z25 rfl rfl 25 z25 H1.out info25z' rfl (by kernel_rfl) ?_))
  refine bodyPost_ret (results_row_tmp rfl _ _ (w.heap.size + 1) 25 z25 (0, 0) _ rfl (setRow_heap _ (w.heap.size + 1) _ _ 25 _ H1.out) hu25 rfl info25z') rfl ⟨rfl, bel_setRow HB.out _ _ (by omega)⟩
set_option maxRecDepth 100000 in
set_option maxHeartbeats 1000000 in
theorem dec19_none (w : World) : Calls Try.prog 19 #[.agg #[.int .i64 130, .string (bs [])]] w fun e w' => e = .returned (.tuple #[.agg (labA ⟨0, 0⟩), .int .i64 2]) ∧ Below w.heap.size w w' := by
  have hu25 := Try.underlying25
  have hu27 := Try.underlying27
  have hbs : bs [] = ⟨#[]⟩ := rfl
  rw [hbs]
  have HB := Lib.hid (bel_alloc (bel_alloc (Below.refl w.heap.size w) (.cells #[.int .i64 130, .string ⟨#[]⟩] 27)) (.cells z25 25))
  have H1 := Lib.hid (heap_alloc2_new w (.cells #[.int .i64 130, .string ⟨#[]⟩] 27) (.cells z25 25))
  unfold z25 at H1 HB
  rw [← z25_lab]
  clear hbs
  go_enter Try.func19, Try.ntmps19
  go_wp2_with (first
    | (refine wpList_store_row rfl 25 (.tmp 2) (.tmp 20) rfl (w.heap.size + 1) z25 rfl rfl 25 z25 H1.out info25z' rfl (by kernel_rfl) ?_))
  refine bodyPost_ret (results_row_tmp rfl _ _ (w.heap.size + 1) 25 z25 (0, 0) _ rfl (setRow_heap _ (w.heap.size + 1) _ _ 25 _ H1.out) hu25 rfl info25z') rfl ⟨rfl, bel_setRow HB.out _ _ (by omega)⟩

set_option maxRecDepth 100000 in
set_option maxHeartbeats 4000000 in
theorem dec19 (l : List Nat) (hl : ∀ b ∈ l, b < 256) (h0 : 0 < l.length) (h1 : l.length ≤ 200) (w : World) : Calls Try.prog 19 #[.agg #[.int .i64 130, .string (bs l)]] w fun e w' => e = .returned (.tuple #[.agg (labA (d1L l)), .int .i64 (d1N l)]) ∧ Below w.heap.size w w' := by
  have hu25 := Try.underlying25
  have hu23 := Try.underlying23
  have hu27 := Try.underlying27
  have hu60 := Try.underlying60
  have hsz := bs_size l
  have dz : ((l.length : Int) == 0) = false := by rw [beq_eq_false_iff_ne]; omega
  have dz2 : decide (bs l = ⟨#[]⟩) = false := decide_eq_false (fun h => by have := congrArg ByteArray.size h; rw [hsz] at this; have h2 : (ByteArray.mk #[]).size = 0 := rfl; omega)
  have dz3 : ((bs l).toList.isEmpty) = false := by
    rw [ByteArray.toList_eq, Bool.eq_false_iff]
    intro h
    have h3 := List.isEmpty_iff.1 h
    have h4 : (bs l).size = 0 := by show (bs l).data.size = 0; rw [← Array.length_toList, h3]; rfl
    omega
  have HE := Lib.hid (fun x hS => enc13 x hS)
  have hget0 := bs_get l hl 0
  have hx1 : x1 l = ⟨lvlN (l.getD 0 0 : Nat), T1 l⟩ := rfl
  have HX1 := Lib.hid hx1
  have HLV := Lib.hid (level17 ((l.getD 0 0 : Nat) : Int))
  clear hx1
  generalize lvlN ((l.getD 0 0 : Nat) : Int) = n at HLV HX1
  generalize lvlB ((l.getD 0 0 : Nat) : Int) = nb at HLV
  generalize l.getD 0 0 = B0 at HLV hget0
  have J0 := Lib.hid (heap_alloc2_old w (.cells #[.int .i64 130, .string (bs l)] 27) (.cells z25 25))
  have J1 := Lib.hid (heap_alloc2_new w (.cells #[.int .i64 130, .string (bs l)] 27) (.cells z25 25))
  have JB := Lib.hid (bel_alloc (bel_alloc (Below.refl w.heap.size w) (.cells #[.int .i64 130, .string (bs l)] 27)) (.cells z25 25))
  unfold z25 at J0 J1 JB
  go_enter Try.func19, Try.ntmps19
  go_wp2_with (first
    | (go_at_call 17; refine (HLV.out _).mono ?_; rintro e w1 ⟨rfl, hb1⟩; have K0 := Lib.hid (blk_below J0.out hb1); have K1 := Lib.hid (blk_below J1.out hb1); have BR := Lib.hid (below_then JB.out JB.out.size hb1); have cD : w1.cell? ⟨w.heap.size, 1, none⟩ = some (.string (bs l)) := cell_of_row _ _ _ _ _ _ K0.out; have N00 := Lib.hid (heap_alloc_new w1 (.cells z25 25)); have NA := Lib.hid (World.setRow_alloc_new w1 z25 (labA ⟨n, 0⟩) 25); unfold z25 at N00 NA; clear hb1 J0 J1 JB)
    | (refine wpList_store_row rfl 25 (.tmp 6) (.tmp 29) rfl w1.heap.size (labA ⟨n, 0⟩) rfl (congrArg Value.agg (lab0 n)) 25 z25 N00.out (info25 _) (by rw [labA_size]; rfl) (all_oneCell_toArray (labL_one _)) ?_; rw [NA.out]; have cD2 : (w1.alloc (.cells (labA ⟨n, 0⟩) 25)).cell? ⟨w.heap.size, 1, none⟩ = some (.string (bs l)) := (cell_of_row _ _ _ _ _ _ ((heap_alloc_old w1 (.cells (labA ⟨n, 0⟩) 25) (lt_of_block K0.out)).trans K0.out))))
  clear N00 NA
  have hs1 := lt_of_block K1.out
  have N0 := Lib.hid (heap_alloc_new w1 (.cells (labA ⟨n, 0⟩) 25))
  have N1 := Lib.hid ((heap_alloc_old w1 (.cells (labA ⟨n, 0⟩) 25) (lt_of_block K0.out)).trans K0.out)
  have N2 := Lib.hid ((heap_alloc_old w1 (.cells (labA ⟨n, 0⟩) 25) (lt_of_block K1.out)).trans K1.out)
  have NB := Lib.hid (bel_alloc BR.out (.cells (labA ⟨n, 0⟩) 25))
  try rw [lab0 n]
  have hL : w.heap.size + 1 < w1.heap.size := hs1
  clear cD cD2
  generalize w1.heap.size = L at N0 hL ⊢
  go_loopg [34] (l.length - 1) (fun gg s34 wr => ∃ i : Nat, i ≤ l.length - 1 ∧ l.length - 1 - i ≤ gg ∧ s34 = .int .i64 i ∧ Hid (wr.heap[w.heap.size]? = some (.cells #[.int .i64 130, .string (bs l)] 27 (0, 0))) ∧ Hid (wr.heap[w.heap.size + 1]? = some (.cells z25 25 (0, 0))) ∧ Hid (wr.heap[L]? = some (.cells (labA ⟨n, ofP (pl l) (min 240 (7 * i))⟩) 25 (0, 0))) ∧ Hid (Below w.heap.size w wr))
  case atStart => exact ⟨0, Nat.zero_le _, Nat.le_refl _, rfl, N1, N2, N0, NB⟩
  case round =>
    clear K0 K1 BR N0 N1 N2 NB
    obtain ⟨i, hi, hgg, rfl, K0, K1, K2, BR⟩ := hrel
    by_cases hlt : i < l.length - 1
    · have di : decide ((i : Int) < (l.length : Int) - 1) = true := decide_eq_true (by omega)
      have qi : IntKind.i64.wrap ((i : Int) + 1) = (i : Int) + 1 := IntWalk.i64_in _ (by omega)
      go_wp2_with fail
      go_loopg [37] 7 (fun gi s37 wi => ∃ k : Nat, k ≤ 7 ∧ 7 - k ≤ gi ∧ s37 = .int .i64 k ∧ Hid (wi.heap[w.heap.size]? = some (.cells #[.int .i64 130, .string (bs l)] 27 (0, 0))) ∧ Hid (wi.heap[w.heap.size + 1]? = some (.cells z25 25 (0, 0))) ∧ Hid (wi.heap[L]? = some (.cells (labA ⟨n, ofP (pl l) (min 240 (7 * i + k))⟩) 25 (0, 0))) ∧ Hid (Below w.heap.size w wi))
      case atStart => exact ⟨0, Nat.zero_le _, Nat.le_refl _, rfl, K0, K1, K2, BR⟩
      case round =>
        clear K0 K1 K2 BR
        obtain ⟨k, hk, hgk, rfl, K0, K1, K2, BR⟩ := hrel
        by_cases hkl : k < 7
        · have dk : decide ((k : Int) < 7) = true := decide_eq_true (by omega)
          have cD : wr.cell? ⟨w.heap.size, 1, none⟩ = some (.string (bs l)) := cell_of_row _ _ _ _ _ _ K0.out
          have q1 : IntKind.i64.wrap (7 * (i : Int)) = 7 * (i : Int) := IntWalk.i64_in _ (by omega)
          have q2 : IntKind.i64.wrap ((i : Int) * 7) = (i : Int) * 7 := IntWalk.i64_in _ (by omega)
          have q3 : IntKind.i64.wrap ((i : Int) * 7 + (k : Int)) = (i : Int) * 7 + (k : Int) := IntWalk.i64_in _ (by omega)
          have q4 : IntKind.i64.wrap ((k : Int) + 1) = (k : Int) + 1 := IntWalk.i64_in _ (by omega)
          have q5 : ((i : Int) + 1).toNat = i + 1 := by omega
          have q6 : (0 : Int) ≤ (i : Int) + 1 := by omega
          have q7 : (i : Int) + 1 < (l.length : Int) := by omega
          have hget := bs_get l hl (i + 1)
          have hbit := and_test (l.getD (i + 1) 0) k (getD_lt hl _) hkl
          have hpl : pl l (7 * i + k) = (l.getD (i + 1) 0).testBit (7 - k) := by
            unfold pl
            rw [show (7 * i + k) / 7 = i by omega, show (7 * i + k) % 7 = k by omega]
          have hT := ofP_step (pl l) (7 * i + k)
          rw [hpl] at hT
          have HT := Lib.hid hT
          clear hT hpl
          generalize l.getD (i + 1) 0 = B at hget hbit HT
          generalize ofP (pl l) (min 240 (7 * i + k)) = T at K2 HT
          have R2 : Hid (wr.rangeAt L 1 (catL T)) := Lib.hid (range_of (x := ⟨n, T⟩) K2.out)
          have hi23 := info23L T
          have hLlt := lt_of_block K2.out
          cases hb : B.testBit (7 - k) with
          | true =>
            rw [hb] at HT hbit
            have HP := Lib.hid (fun g c w h => with50 T ((7 * i + k : Nat) : Int) g c w h)
            rw [show ((7 * i + k : Nat) : Int) = (i : Int) * 7 + (k : Int) by omega] at HP
            have HT2 := Lib.hid (show ofP (pl l) (min 240 (7 * i + (k + 1))) = withS T ((i : Int) * 7 + (k : Int)) by
              have h := HT.out
              rw [if_pos rfl, show ((7 * i + k : Nat) : Int) = (i : Int) * 7 + (k : Int) by omega] at h
              exact h)
            have hne : ¬ bits .and .u8 (B : Int) ((128 : Int) / 2 ^ k) = 0 := fun h => by have := hbit.1 h; cases this
            have hne2 : decide (bits .and .u8 (B : Int) ((128 : Int) / 2 ^ k) = 0) = false := decide_eq_false hne
            clear hb hbit HT
            generalize withS T ((i : Int) * 7 + (k : Int)) = T' at HP HT2
            go_wp2_with fail
            go_quiet (fail)
            go_wp2_with (first
              | (refine load_mid_g 23 (.tmp 49) rfl L 1 rfl (catL T) _ R2.out hu23 rfl hi23 rfl ?_)
              | (go_at_call 50; refine (HP.out _ _ _ (cell_of_row _ _ 0 _ _ _ (heap_alloc_new _ _))).mono ?_; rintro e w2 ⟨rfl, hb2⟩; have M2 := Lib.hid (blk_dab K2.out hb2); have M0 := Lib.hid (blk_dab K0.out hb2); have M1 := Lib.hid (blk_dab K1.out hb2); have HB2 := Lib.hid (bel_dab BR.out hb2); clear hb2)
              | (refine wpList_store_mid rfl 23 (.tmp 57) (.tmp 56) rfl L 1 (catA T') rfl rfl (there_cat _ M2.out) (info23 _) (all_oneCell_toArray (catL_one _)) ?_
                 rw [show (catA T').toList = catL T' by simp [catA]]
                 have N0 := Lib.hid ((setCells_other L w.heap.size (by omega) (catL T') 1 w2).trans M0.out)
                 have N1 := Lib.hid ((setCells_other L (w.heap.size + 1) (by omega) (catL T') 1 w2).trans M1.out)
                 have N2 := Lib.hid (setCat (x := ⟨n, T⟩) T' M2.out)
                 have NB := Lib.hid (setCells_below L (by omega) (catL T') 1 w2 HB2.out)
                 generalize w2.setCells L 1 (catL T') = w3 at N0 N1 N2 NB ⊢))
            go_roundg (7 - (k + 1))
            case measure => omega
            case rel => exact ⟨k + 1, by omega, Nat.le_refl _, by simp, N0, N1, Lib.hid (by rw [HT2.out]; exact N2.out), NB⟩
          | false =>
            rw [hb] at HT hbit
            have hne : bits .and .u8 (B : Int) ((128 : Int) / 2 ^ k) = 0 := hbit.2 rfl
            clear hb hbit
            go_wp2_with fail
            go_quiet (fail)
            go_wp2_with fail
            go_roundg (7 - (k + 1))
            case measure => omega
            case rel => exact ⟨k + 1, by omega, Nat.le_refl _, by simp, K0, K1, Lib.hid (by have h := HT.out; rw [if_neg (by decide)] at h; rw [show 7 * i + (k + 1) = 7 * i + k + 1 by omega, h]; exact K2.out), Lib.hid (bel_drewN BR.out _)⟩
        · have dk : decide ((k : Int) < 7) = false := decide_eq_false (by omega)
          have hk7 : k = 7 := by omega
          subst hk7
          go_wp2_with fail
          go_roundg (l.length - 1 - (i + 1))
          case measure => omega
          case rel => exact ⟨i + 1, by omega, Nat.le_refl _, by simp, K0, K1, K2, BR⟩
    · have di : decide ((i : Int) < (l.length : Int) - 1) = false := decide_eq_false (by omega)
      have hi2 : i = l.length - 1 := by omega
      have HT1 := Lib.hid (show ofP (pl l) (min 240 (7 * i)) = T1 l by rw [hi2]; rfl)
      rw [HT1.out, ← HX1.out] at K2
      have HEE := Lib.hid (fun w => HE.out (x1 l) (T1_lt l) w)
      have hin := encD_lt (x1 l)
      have hO : ok1 l = (decide (encE (x1 l) = 0) && decide (encD (x1 l) = l)) := rfl
      have hK : encK (x1 l) = if encE (x1 l) = 0 then 130 else 0 := rfl
      have HO := Lib.hid hO
      have HK := Lib.hid hK
      have HL := Lib.hid (show d1L l = if ok1 l then x1 l else ⟨0, 0⟩ from rfl)
      have HN := Lib.hid (show d1N l = if ok1 l then 0 else 3 from rfl)
      clear hO hK HX1
      generalize encD (x1 l) = E at HEE HO hin
      generalize encK (x1 l) = KK at HEE HK
      generalize encE (x1 l) = N at HEE HO HK
      generalize x1 l = X at HEE K2 HL
      by_cases hn : N = 0
      · subst hn
        have HKK := Lib.hid (show KK = 130 from HK.out)
        clear HK
        obtain rfl := HKK.out
        clear HKK
        by_cases hd : E = l
        · have hd2 := hd.symm
          subst hd2
          have HOK := Lib.hid (show ok1 l = true by rw [HO.out]; simp)
          clear HO
          have heq := eq27 130 130 (bs l) (bs l)
          have hgd := gd27
          rw [show (decide ((130 : Int) = 130) && decide (bs l = bs l)) = true by simp] at heq
          have cD : wr.cell? ⟨w.heap.size, 0, none⟩ = some (.int .i64 130) := cell_of_row _ _ _ _ _ _ K0.out
          have cD1 : wr.cell? ⟨w.heap.size, 1, none⟩ = some (.string (bs l)) := cell_of_row _ _ _ _ _ _ K0.out
          go_wp2_with (first
            | (refine wpList_load_row rfl 25 (.tmp 6) rfl L rfl 25 (labA X) (0, 0) _ K2.out hu25 rfl (info25 _) ?_)
            | (refine wpList_load_row rfl 25 (.tmp 6) rfl L rfl 25 (labA X) (0, 0) _ M2.out hu25 rfl (info25 _) ?_)
            | (go_at_call 13; refine (HEE.out _).mono ?_; rintro e w2 ⟨rfl, hb2⟩; have HB2 := Lib.hid (bel_alloc (below_then BR.out BR.out.size hb2) (.cells #[.int .i64 130, .string (bs l)] 27)); have M1 := Lib.hid ((heap_alloc_old w2 (.cells #[.int .i64 130, .string (bs l)] 27) (lt_of_block (blk_below K1.out hb2))).trans (blk_below K1.out hb2)); have M2 := Lib.hid ((heap_alloc_old w2 (.cells #[.int .i64 130, .string (bs l)] 27) (lt_of_block (blk_below K2.out hb2))).trans (blk_below K2.out hb2)); have cE : (w2.alloc (.cells #[.int .i64 130, .string (bs l)] 27)).cell? ⟨w.heap.size, 0, none⟩ = some (.int .i64 130) := cell_of_row _ _ _ _ _ _ ((heap_alloc_old w2 (.cells #[.int .i64 130, .string (bs l)] 27) (lt_of_block (blk_below K0.out hb2))).trans (blk_below K0.out hb2)); have cE1 : (w2.alloc (.cells #[.int .i64 130, .string (bs l)] 27)).cell? ⟨w.heap.size, 1, none⟩ = some (.string (bs l)) := cell_of_row _ _ _ _ _ _ ((heap_alloc_old w2 (.cells #[.int .i64 130, .string (bs l)] 27) (lt_of_block (blk_below K0.out hb2))).trans (blk_below K0.out hb2)); clear hb2 cD cD1)
            | (refine wpList_store_row rfl 25 (.tmp 2) (.tmp 73) rfl (w.heap.size + 1) (labA X) rfl rfl 25 z25 M1.out (info25 _) (by rw [labA_size]; rfl) (all_oneCell_toArray (labL_one _)) ?_))
          refine bodyPost_ret (results_row_tmp rfl _ _ (w.heap.size + 1) 25 (labA X) (0, 0) _ rfl (setRow_heap _ (w.heap.size + 1) _ _ 25 _ M1.out) hu25 rfl (info25 _)) rfl ⟨by rw [HL.out, HN.out, HOK.out]; rfl, bel_setRow HB2.out _ _ (by omega)⟩
        · have HOK := Lib.hid (show ok1 l = false by rw [HO.out]; simp [hd])
          clear HO
          have hne : ¬ (bs E).toList = (bs l).toList := fun h => hd (bs_inj hin hl h)
          have hne2 : ¬ bs E = bs l := fun h => hne (by rw [h])
          have heq := eq27 130 130 (bs E) (bs l)
          have heq2 : decide (bs E = bs l) = false := decide_eq_false hne2
          rw [heq2, show (decide ((130 : Int) = 130) && false) = false by simp] at heq
          have hgd := gd27
          have cD : wr.cell? ⟨w.heap.size, 0, none⟩ = some (.int .i64 130) := cell_of_row _ _ _ _ _ _ K0.out
          have cD1 : wr.cell? ⟨w.heap.size, 1, none⟩ = some (.string (bs l)) := cell_of_row _ _ _ _ _ _ K0.out
          go_wp2_with (first
            | (refine wpList_load_row rfl 25 (.tmp 6) rfl L rfl 25 (labA X) (0, 0) _ K2.out hu25 rfl (info25 _) ?_)
            | (refine wpList_load_row rfl 25 (.tmp 6) rfl L rfl 25 (labA X) (0, 0) _ M2.out hu25 rfl (info25 _) ?_)
            | (go_at_call 13; refine (HEE.out _).mono ?_; rintro e w2 ⟨rfl, hb2⟩; have HB2 := Lib.hid (bel_alloc (below_then BR.out BR.out.size hb2) (.cells #[.int .i64 130, .string (bs E)] 27)); have M1 := Lib.hid ((heap_alloc_old w2 (.cells #[.int .i64 130, .string (bs E)] 27) (lt_of_block (blk_below K1.out hb2))).trans (blk_below K1.out hb2)); have M2 := Lib.hid ((heap_alloc_old w2 (.cells #[.int .i64 130, .string (bs E)] 27) (lt_of_block (blk_below K2.out hb2))).trans (blk_below K2.out hb2)); have cE : (w2.alloc (.cells #[.int .i64 130, .string (bs E)] 27)).cell? ⟨w.heap.size, 0, none⟩ = some (.int .i64 130) := cell_of_row _ _ _ _ _ _ ((heap_alloc_old w2 (.cells #[.int .i64 130, .string (bs E)] 27) (lt_of_block (blk_below K0.out hb2))).trans (blk_below K0.out hb2)); have cE1 : (w2.alloc (.cells #[.int .i64 130, .string (bs E)] 27)).cell? ⟨w.heap.size, 1, none⟩ = some (.string (bs l)) := cell_of_row _ _ _ _ _ _ ((heap_alloc_old w2 (.cells #[.int .i64 130, .string (bs E)] 27) (lt_of_block (blk_below K0.out hb2))).trans (blk_below K0.out hb2)); clear hb2 cD cD1)
            | (refine wpList_store_row rfl 25 (.tmp 2) (.tmp 72) rfl (w.heap.size + 1) z25 rfl rfl 25 z25 M1.out info25z' rfl (by kernel_rfl) ?_))
          refine bodyPost_ret (results_row_tmp rfl _ _ (w.heap.size + 1) 25 z25 (0, 0) _ rfl (setRow_heap _ (w.heap.size + 1) _ _ 25 _ M1.out) hu25 rfl info25z') rfl ⟨by rw [HL.out, HN.out, HOK.out, z25_lab]; rfl, bel_setRow HB2.out _ _ (by omega)⟩
      · have HOK := Lib.hid (show ok1 l = false by rw [HO.out]; simp [hn])
        clear HO HK
        have dn : decide ((N : Int) = 0) = false := decide_eq_false (by omega)
        go_wp2_with (first
          | (refine wpList_load_row rfl 25 (.tmp 6) rfl L rfl 25 (labA X) (0, 0) _ K2.out hu25 rfl (info25 _) ?_)
          | (go_at_call 13; refine (HEE.out _).mono ?_; rintro e w2 ⟨rfl, hb2⟩; have HB2 := Lib.hid (bel_alloc (below_then BR.out BR.out.size hb2) (.cells #[.int .i64 KK, .string (bs E)] 27)); have M1 := Lib.hid ((heap_alloc_old w2 (.cells #[.int .i64 KK, .string (bs E)] 27) (lt_of_block (blk_below K1.out hb2))).trans (blk_below K1.out hb2)); clear hb2)
          | (refine wpList_store_row rfl 25 (.tmp 2) (.tmp 72) rfl (w.heap.size + 1) z25 rfl rfl 25 z25 M1.out info25z' rfl (by kernel_rfl) ?_))
        refine bodyPost_ret (results_row_tmp rfl _ _ (w.heap.size + 1) 25 z25 (0, 0) _ rfl (setRow_heap _ (w.heap.size + 1) _ _ 25 _ M1.out) hu25 rfl info25z') rfl ⟨by rw [HL.out, HN.out, HOK.out, z25_lab]; rfl, bel_setRow HB2.out _ _ (by omega)⟩
end Go.Proofs.Ytifmckhabkghcaa.P
