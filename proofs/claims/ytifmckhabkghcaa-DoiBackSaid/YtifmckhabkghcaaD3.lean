/- Contract of the reference's Decode (layer 11). -/
import Derived.Test.YtifmckhabkghcaaD2
namespace Go.Proofs.Ytifmckhabkghcaa.P
open Go.RowKit
set_option linter.unusedSimpArgs false

theorem z25_lab : z25 = labA ⟨0, 0⟩ := by kernel_rfl
theorem lab0 (n : Int) : #[.int .i64 n, .int .u8 0, .int .u8 0, .int .u8 0, .int .u8 0, .int .u8 0, .int .u8 0, .int .u8 0, .int .u8 0, .int .u8 0, .int .u8 0, .int .u8 0, .int .u8 0, .int .u8 0, .int .u8 0, .int .u8 0, .int .u8 0, .int .u8 0, .int .u8 0, .int .u8 0, .int .u8 0, .int .u8 0, .int .u8 0, .int .u8 0, .int .u8 0, .int .u8 0, .int .u8 0, .int .u8 0, .int .u8 0, .int .u8 0, .int .u8 0] = labA ⟨n, 0⟩ := by kernel_rfl
theorem info25z' : (Try.prog.info? 25).map (·.size) = some z25.size := by kernel_rfl
/-- What the reference's Decode tells. -/
def d2L (l : List Nat) : Lab := if ok2 l 0 then ⟨0, T2 l⟩ else if ok2 l 1 then ⟨1, T2 l⟩ else if ok2 l 2 then ⟨2, T2 l⟩ else if ok2 l 3 then ⟨3, T2 l⟩ else ⟨0, 0⟩
def d2N (l : List Nat) : Nat := if ok2 l 0 || ok2 l 1 || ok2 l 2 || ok2 l 3 then 0 else 3
theorem shr_test (B i : Nat) (hB : B < 256) : ((bits .and .u8 ((B : Int) / 2 ^ i) 1) == 1) = B.testBit i := by
  have h1 : ((B : Int) / 2 ^ i) = ((B / 2 ^ i : Nat) : Int) := by simp
  have hl : B / 2 ^ i < 256 := Nat.lt_of_le_of_lt (Nat.div_le_self _ _) hB
  rw [h1, show (1 : Int) = ((1 : Nat) : Int) from rfl, and8 _ 1 hl (by decide), Nat.and_one_is_mod, Nat.testBit, Nat.shiftRight_eq_div_pow, Nat.one_and_eq_mod_two]
  rcases Nat.mod_two_eq_zero_or_one (B / 2 ^ i) with h | h <;> rw [h] <;> rfl
theorem getD_lt {l : List Nat} (hl : ∀ b ∈ l, b < 256) (i : Nat) : l.getD i 0 < 256 := by
  rw [List.getD]
  rcases Nat.lt_or_ge i l.length with h | h
  · rw [List.getElem?_eq_getElem h]; exact hl _ (List.getElem_mem h)
  · rw [List.getElem?_eq_none h]; decide
theorem bs_get (l : List Nat) (hl : ∀ b ∈ l, b < 256) (i : Nat) (h : i < (bs l).size) : ((bs l)[i]'h).toNat = l.getD i 0 := by
  have hi : i < l.length := by rw [bs_size] at h; exact h
  have hb := hl _ (List.getElem_mem hi)
  show ((l.map UInt8.ofNat).toArray[i]'(by simpa using hi)).toNat = _
  simp [List.getD, hi]
  omega
theorem withS_nat (S k : Nat) (h : k < 240) : withS S k = ins S k := by
  unfold withS rightB
  rw [if_pos (by simp; omega)]
  rfl
theorem d2_hit {l : List Nat} {i : Nat} (hi : i < 4) (hno : ∀ m, m < i → ok2 l m = false) (h : ok2 l i = true) : d2L l = ⟨i, T2 l⟩ ∧ d2N l = 0 := by
  have : i = 0 ∨ i = 1 ∨ i = 2 ∨ i = 3 := by omega
  rcases this with rfl | rfl | rfl | rfl
  · simp [d2L, d2N, h]
  · simp [d2L, d2N, h, hno 0 (by omega)]
  · simp [d2L, d2N, h, hno 0 (by omega), hno 1 (by omega)]
  · simp [d2L, d2N, h, hno 0 (by omega), hno 1 (by omega), hno 2 (by omega)]
theorem d2_none {l : List Nat} (hno : ∀ m, m < 4 → ok2 l m = false) : d2L l = ⟨0, 0⟩ ∧ d2N l = 3 := by
  simp [d2L, d2N, hno 0 (by omega), hno 1 (by omega), hno 2 (by omega), hno 3 (by omega)]
theorem encD_lt (x : Lab) : ∀ b ∈ encD x, b < 256 := by
  intro b hb
  unfold encD at hb
  split at hb
  · rcases List.mem_cons.1 hb with rfl | hb
    · exact lvb_lt _
    · obtain ⟨j, _, rfl⟩ := List.mem_map.1 hb
      have h := b7_one x.S j
      have h2 : b7 x.S j ||| 1 < 2 ^ 8 := Nat.or_lt_two_pow (b7_lt _ _) (by decide)
      split <;> omega
  · simp at hb
theorem bs_inj {a b : List Nat} (ha : ∀ x ∈ a, x < 256) (hb : ∀ x ∈ b, x < 256) (h : (bs a).toList = (bs b).toList) : a = b := by
  rw [ByteArray.toList_eq, ByteArray.toList_eq] at h
  have h2 : a.map UInt8.ofNat = b.map UInt8.ofNat := by simpa [bs] using h
  have hl : a.length = b.length := by simpa using congrArg List.length h2
  apply List.ext_getElem hl
  intro i h3 h4
  have h5 : (a.map UInt8.ofNat)[i]? = (b.map UInt8.ofNat)[i]? := by rw [h2]
  simp [h3, h4] at h5
  have h6 := congrArg UInt8.toNat h5
  have h7 := ha _ (List.getElem_mem h3)
  have h8 := hb _ (List.getElem_mem h4)
  simp at h6
  omega
set_option maxRecDepth 100000 in
set_option maxHeartbeats 4000000 in
theorem dec20 (l : List Nat) (hl : ∀ b ∈ l, b < 256) (h0 : 0 < l.length) (h1 : l.length ≤ 200) (w : World) : Calls Try.prog 20 #[.agg #[.int .i64 130, .string (bs l)]] w fun e w' => e = .returned (.tuple #[.agg (labA (d2L l)), .int .i64 (d2N l)]) ∧ Below w.heap.size w w' := by
  have hu25 := Try.underlying25
  have hu23 := Try.underlying23
  have hu27 := Try.underlying27
  have hsz := bs_size l
  have dz : ((l.length : Int) == 0) = false := by rw [beq_eq_false_iff_ne]; omega
  have HZ := Lib.hid z25_lab
  have HD := Lib.hid (fun x hS => data18 x hS)
  go_enter Try.func20, Try.ntmps20
  go_wp2_with fail
  go_loopg [4] 4 (fun gg s4 wr => ∃ i : Nat, i ≤ 4 ∧ 4 - i ≤ gg ∧ s4 = .int .i64 i ∧ (∀ m, m < i → ok2 l m = false) ∧ Hid (wr.heap[w.heap.size]? = some (.cells #[.int .i64 130, .string (bs l)] 27 (0, 0))) ∧ Hid (wr.heap[w.heap.size + 1]? = some (.cells z25 25 (0, 0))) ∧ Hid (Below w.heap.size w wr))
  case atStart => exact ⟨0, Nat.zero_le _, Nat.le_refl _, rfl, fun m hm => absurd hm (Nat.not_lt_zero _), heap_alloc2_old _ _ _, heap_alloc2_new _ _ _, bel_alloc (bel_alloc (Below.refl _ _) _) _⟩
  case round =>
    obtain ⟨i, hi, hgg, rfl, hno, K0, K1, BR⟩ := hrel
    by_cases hlt : i < 4
    · have di : decide ((i : Int) < 4) = true := decide_eq_true (by omega)
      have hs1 := lt_of_block K1.out
      have N00 := Lib.hid (heap_alloc_new wr (.cells z25 25))
      have NA := Lib.hid (World.setRow_alloc_new wr z25 (labA ⟨i, 0⟩) 25)
      unfold z25 at N00 NA
      go_wp2_with (first
        | (refine wpList_store_row rfl 25 (.tmp 5) (.tmp 23) rfl wr.heap.size (labA ⟨i, 0⟩) rfl (congrArg Value.agg (lab0 i)) 25 z25 N00.out (info25 _) (by rw [labA_size]; rfl) (all_oneCell_toArray (labL_one _)) ?_; rw [NA.out]))
      clear N00 NA
      have N0 := Lib.hid (heap_alloc_new wr (.cells (labA ⟨i, 0⟩) 25))
      have N1 := Lib.hid ((heap_alloc_old wr (.cells (labA ⟨i, 0⟩) 25) (lt_of_block K0.out)).trans K0.out)
      have N2 := Lib.hid ((heap_alloc_old wr (.cells (labA ⟨i, 0⟩) 25) (lt_of_block K1.out)).trans K1.out)
      have NB := Lib.hid (bel_alloc BR.out (.cells (labA ⟨i, 0⟩) 25))
      rw [lab0 i]
      have hL : w.heap.size + 1 < wr.heap.size := hs1
      generalize wr.heap.size = L at N0 hL ⊢
      go_loopg [6] 28 (fun gi s6 wi => ∃ k : Nat, k ≤ min 28 (7 * (l.length - 1)) ∧ 28 - k ≤ gi ∧ s6 = .int .i64 k ∧ Hid (wi.heap[w.heap.size]? = some (.cells #[.int .i64 130, .string (bs l)] 27 (0, 0))) ∧ Hid (wi.heap[w.heap.size + 1]? = some (.cells z25 25 (0, 0))) ∧ Hid (wi.heap[L]? = some (.cells (labA ⟨i, ofP (pl l) k⟩) 25 (0, 0))) ∧ Hid (Below w.heap.size w wi))
      case atStart => exact ⟨0, Nat.zero_le _, Nat.le_refl _, rfl, N1, N2, N0, NB⟩
      case round =>
        clear K0 K1 BR N0 N1 N2 NB
        obtain ⟨k, hk, hgk, rfl, K0, K1, K2, BR⟩ := hrel
        have cD : wr.cell? ⟨w.heap.size, 1, none⟩ = some (.string (bs l)) := cell_of_row _ _ _ _ _ _ K0.out
        have q1 : Int.tdiv (k : Int) 7 = (k : Int) / 7 := Int.tdiv_eq_ediv_of_nonneg (by omega)
        have q2 : IntKind.i64.wrap ((k : Int) / 7) = (k : Int) / 7 := IntWalk.i64_in _ (by omega)
        have q3 : IntKind.i64.wrap ((k : Int) / 7 + 1) = (k : Int) / 7 + 1 := IntWalk.i64_in _ (by omega)
        have q4 : Int.tmod (k : Int) 7 = (k : Int) % 7 := Int.tmod_eq_emod_of_nonneg (by omega)
        have q5 : IntKind.i64.wrap ((k : Int) % 7) = (k : Int) % 7 := IntWalk.i64_in _ (by omega)
        have q6 : IntKind.i64.wrap (7 - (k : Int) % 7) = 7 - (k : Int) % 7 := IntWalk.i64_in _ (by omega)
        have q7 : ((7 : Int) - (k : Int) % 7).toNat = 7 - k % 7 := by omega
        have q8 : ((k : Int) / 7 + 1).toNat = k / 7 + 1 := by omega
        have q9 : IntKind.i64.wrap ((k : Int) + 1) = (k : Int) + 1 := IntWalk.i64_in _ (by omega)
        by_cases hkl : k < min 28 (7 * (l.length - 1))
        · have d1 : decide ((k : Int) < 28) = true := decide_eq_true (by omega)
          have d2 : decide ((k : Int) / 7 + 1 < (l.length : Int)) = true := decide_eq_true (by omega)
          have d3 : (0 : Int) ≤ 7 - (k : Int) % 7 := by omega
          have d4 : (0 : Int) ≤ (k : Int) / 7 + 1 := by omega
          have d5 : (k : Int) / 7 + 1 < (l.length : Int) := by omega
          have hget := bs_get l hl (k / 7 + 1)
          have hT : ofP (pl l) (k + 1) = if pl l k then ins (ofP (pl l) k) k else ofP (pl l) k := rfl
          have HT := Lib.hid hT
          have hpl : pl l k = (l.getD (k / 7 + 1) 0).testBit (7 - k % 7) := rfl
          rw [← shr_test _ _ (getD_lt hl _)] at hpl
          clear hT
          generalize l.getD (k / 7 + 1) 0 = B at hget hpl
          generalize ofP (pl l) k = T at K2 HT
          have R2 : Hid (wr.rangeAt L 1 (catL T)) := Lib.hid (range_of (x := ⟨i, T⟩) K2.out)
          have hi23 := info23L T
          have HP := Lib.hid (put48 T k)
          rw [withS_nat T k (by omega)] at HP
          cases hb : pl l k with
          | true =>
            rw [hb] at HT hpl
            have hc := hpl.symm
            have hc2 : bits .and .u8 ((B : Int) / 2 ^ (7 - k % 7)) 1 = 1 := by simpa using hc
            clear hpl
            go_wp2_with (first
              | (refine load_mid_g 23 (.tmp 49) rfl L 1 rfl (catL T) _ R2.out hu23 rfl hi23 rfl ?_)
              | (go_at_call 48; refine (HP.out _).mono ?_; rintro e w2 ⟨rfl, hb2⟩; have HB2 := Lib.hid (below_then BR.out BR.out.size hb2); have M2 := Lib.hid (blk_below K2.out hb2); have M0 := Lib.hid (blk_below K0.out hb2); have M1 := Lib.hid (blk_below K1.out hb2); clear hb2)
              | (refine wpList_store_mid rfl 23 (.tmp 53) (.tmp 52) rfl L 1 (catA (ins T k)) rfl rfl (there_cat _ M2.out) (info23 _) (all_oneCell_toArray (catL_one _)) ?_
                 rw [show (catA (ins T k)).toList = catL (ins T k) by simp [catA]]
                 have N0 := Lib.hid ((setCells_other L w.heap.size (by omega) (catL (ins T k)) 1 w2).trans M0.out)
                 have N1 := Lib.hid ((setCells_other L (w.heap.size + 1) (by omega) (catL (ins T k)) 1 w2).trans M1.out)
                 have N2 := Lib.hid (setCat (x := ⟨i, T⟩) (ins T k) M2.out)
                 have NB := Lib.hid (setCells_below L (by omega) (catL (ins T k)) 1 w2 HB2.out)
                 generalize w2.setCells L 1 (catL (ins T k)) = w3 at N0 N1 N2 NB ⊢))
            go_roundg (28 - (k + 1))
            case measure => omega
            case rel => exact ⟨k + 1, by omega, Nat.le_refl _, by simp, N0, N1, Lib.hid (by rw [HT.out]; exact N2.out), NB⟩
          | false =>
            rw [hb] at HT hpl
            have hc := hpl.symm
            have hc2 : ¬ bits .and .u8 ((B : Int) / 2 ^ (7 - k % 7)) 1 = 1 := by simpa using hc
            clear hpl
            go_wp2_with fail
            go_roundg (28 - (k + 1))
            case measure => omega
            case rel => exact ⟨k + 1, by omega, Nat.le_refl _, by simp, K0, K1, Lib.hid (by rw [HT.out]; exact K2.out), BR⟩
        · have hkm : k = min 28 (7 * (l.length - 1)) := by omega
          have HT2 := Lib.hid (show ofP (pl l) k = T2 l by rw [hkm]; rfl)
          rw [HT2.out] at K2
          have HDD := Lib.hid (fun w => HD.out ⟨i, T2 l⟩ (T2_lt l) w)
          have H28 : (k < 28 ∧ ¬ (k : Int) / 7 + 1 < (l.length : Int)) ∨ 28 ≤ k := by omega
          have hin := encD_lt ⟨i, T2 l⟩
          have hO : ok2 l i = (decide (encE ⟨i, T2 l⟩ = 0) && decide (encD ⟨i, T2 l⟩ = l)) := rfl
          have HO := Lib.hid hO
          have q10 : IntKind.i64.wrap ((i : Int) + 1) = (i : Int) + 1 := IntWalk.i64_in _ (by omega)
          clear hO
          generalize encD ⟨i, T2 l⟩ = E at HDD HO hin
          generalize encE ⟨i, T2 l⟩ = N at HDD HO
          rcases H28 with ⟨h28, h29⟩ | h28
          · have d1 : decide ((k : Int) < 28) = true := decide_eq_true (by omega)
            have d2 : decide ((k : Int) / 7 + 1 < (l.length : Int)) = false := decide_eq_false h29
            by_cases hn : N = 0
            · subst hn
              by_cases hd : E = l
              · have hd2 := hd.symm
                subst hd2
                have HH := Lib.hid (d2_hit hlt hno (by rw [HO.out]; simp))
                clear HO
                go_wp2_with (first
                  | (refine wpList_load_row rfl 25 (.tmp 5) rfl L rfl 25 (labA ⟨i, T2 l⟩) (0, 0) _ K2.out hu25 rfl (info25 _) ?_)
                  | (refine wpList_load_row rfl 25 (.tmp 5) rfl L rfl 25 (labA ⟨i, T2 l⟩) (0, 0) _ M2.out hu25 rfl (info25 _) ?_)
                  | (go_at_call 18; refine (HDD.out _).mono ?_; rintro e w2 ⟨rfl, hb2⟩; have HB2 := Lib.hid (below_then BR.out BR.out.size hb2); have M2 := Lib.hid (blk_below K2.out hb2); have M0 := Lib.hid (blk_below K0.out hb2); have M1 := Lib.hid (blk_below K1.out hb2); have cD2 : w2.cell? ⟨w.heap.size, 1, none⟩ = some (.string (bs l)) := cell_of_row _ _ _ _ _ _ M0.out; clear hb2)
                  | (refine wpList_store_row rfl 25 (.tmp 2) (.tmp 67) rfl (w.heap.size + 1) (labA ⟨i, T2 l⟩) rfl rfl 25 z25 M1.out (info25 _) (by rw [labA_size]; rfl) (all_oneCell_toArray (labL_one _)) ?_))
                refine bodyPost_ret (results_row_tmp rfl _ _ (w.heap.size + 1) 25 (labA ⟨i, T2 l⟩) (0, 0) _ rfl (setRow_heap _ (w.heap.size + 1) _ _ 25 _ M1.out) hu25 rfl (info25 _)) rfl ⟨by rw [HH.out.1, HH.out.2]; rfl, bel_setRow HB2.out _ _ (by omega)⟩
              · have HOF := Lib.hid (show ok2 l i = false by rw [HO.out]; simp [hd])
                clear HO
                have hne : ¬ (bs E).toList = (bs l).toList := fun h => hd (bs_inj hin hl h)
                have hne2 : ¬ bs E = bs l := fun h => hne (by rw [h])
                have hne3 : decide (bs E = bs l) = false := decide_eq_false hne2
                have hne4 : decide ((bs E).toList = (bs l).toList) = false := decide_eq_false hne
                have hne6 : ((bs E).toList == (bs l).toList) = false := beq_eq_false_iff_ne.2 hne
                go_wp2_with (first
                  | (refine wpList_load_row rfl 25 (.tmp 5) rfl L rfl 25 (labA ⟨i, T2 l⟩) (0, 0) _ K2.out hu25 rfl (info25 _) ?_)
                  | (refine wpList_load_row rfl 25 (.tmp 5) rfl L rfl 25 (labA ⟨i, T2 l⟩) (0, 0) _ M2.out hu25 rfl (info25 _) ?_)
                  | (go_at_call 18; refine (HDD.out _).mono ?_; rintro e w2 ⟨rfl, hb2⟩; have HB2 := Lib.hid (below_then BR.out BR.out.size hb2); have M2 := Lib.hid (blk_below K2.out hb2); have M0 := Lib.hid (blk_below K0.out hb2); have M1 := Lib.hid (blk_below K1.out hb2); have cD2 : w2.cell? ⟨w.heap.size, 1, none⟩ = some (.string (bs l)) := cell_of_row _ _ _ _ _ _ M0.out; clear hb2)
                  | (refine wpList_store_row rfl 25 (.tmp 2) (.tmp 67) rfl (w.heap.size + 1) (labA ⟨i, T2 l⟩) rfl rfl 25 z25 M1.out (info25 _) (by rw [labA_size]; rfl) (all_oneCell_toArray (labL_one _)) ?_))
                go_roundg (4 - (i + 1))
                case measure => omega
                case rel => exact ⟨i + 1, hlt, Nat.le_refl _, by simp, fun m hm => by
                  rcases Nat.lt_or_ge m i with h | h
                  · exact hno m h
                  · rw [show m = i by omega]; exact HOF.out, M0, M1, HB2⟩
            · have HOF := Lib.hid (show ok2 l i = false by rw [HO.out]; simp [hn])
              clear HO
              have dn : decide ((N : Int) = 0) = false := decide_eq_false (by omega)
              go_wp2_with (first
                | (refine wpList_load_row rfl 25 (.tmp 5) rfl L rfl 25 (labA ⟨i, T2 l⟩) (0, 0) _ K2.out hu25 rfl (info25 _) ?_)
                | (refine wpList_load_row rfl 25 (.tmp 5) rfl L rfl 25 (labA ⟨i, T2 l⟩) (0, 0) _ M2.out hu25 rfl (info25 _) ?_)
                | (go_at_call 18; refine (HDD.out _).mono ?_; rintro e w2 ⟨rfl, hb2⟩; have HB2 := Lib.hid (below_then BR.out BR.out.size hb2); have M2 := Lib.hid (blk_below K2.out hb2); have M0 := Lib.hid (blk_below K0.out hb2); have M1 := Lib.hid (blk_below K1.out hb2); have cD2 : w2.cell? ⟨w.heap.size, 1, none⟩ = some (.string (bs l)) := cell_of_row _ _ _ _ _ _ M0.out; clear hb2)
                | (refine wpList_store_row rfl 25 (.tmp 2) (.tmp 67) rfl (w.heap.size + 1) (labA ⟨i, T2 l⟩) rfl rfl 25 z25 M1.out (info25 _) (by rw [labA_size]; rfl) (all_oneCell_toArray (labL_one _)) ?_))
              go_roundg (4 - (i + 1))
              case measure => omega
              case rel => exact ⟨i + 1, hlt, Nat.le_refl _, by simp, fun m hm => by
                rcases Nat.lt_or_ge m i with h | h
                · exact hno m h
                · rw [show m = i by omega]; exact HOF.out, M0, M1, HB2⟩
          · have d1 : decide ((k : Int) < 28) = false := decide_eq_false (by omega)
            by_cases hn : N = 0
            · subst hn
              by_cases hd : E = l
              · have hd2 := hd.symm
                subst hd2
                have HH := Lib.hid (d2_hit hlt hno (by rw [HO.out]; simp))
                clear HO
                go_wp2_with (first
                  | (refine wpList_load_row rfl 25 (.tmp 5) rfl L rfl 25 (labA ⟨i, T2 l⟩) (0, 0) _ K2.out hu25 rfl (info25 _) ?_)
                  | (refine wpList_load_row rfl 25 (.tmp 5) rfl L rfl 25 (labA ⟨i, T2 l⟩) (0, 0) _ M2.out hu25 rfl (info25 _) ?_)
                  | (go_at_call 18; refine (HDD.out _).mono ?_; rintro e w2 ⟨rfl, hb2⟩; have HB2 := Lib.hid (below_then BR.out BR.out.size hb2); have M2 := Lib.hid (blk_below K2.out hb2); have M0 := Lib.hid (blk_below K0.out hb2); have M1 := Lib.hid (blk_below K1.out hb2); have cD2 : w2.cell? ⟨w.heap.size, 1, none⟩ = some (.string (bs l)) := cell_of_row _ _ _ _ _ _ M0.out; clear hb2)
                  | (refine wpList_store_row rfl 25 (.tmp 2) (.tmp 67) rfl (w.heap.size + 1) (labA ⟨i, T2 l⟩) rfl rfl 25 z25 M1.out (info25 _) (by rw [labA_size]; rfl) (all_oneCell_toArray (labL_one _)) ?_))
                refine bodyPost_ret (results_row_tmp rfl _ _ (w.heap.size + 1) 25 (labA ⟨i, T2 l⟩) (0, 0) _ rfl (setRow_heap _ (w.heap.size + 1) _ _ 25 _ M1.out) hu25 rfl (info25 _)) rfl ⟨by rw [HH.out.1, HH.out.2]; rfl, bel_setRow HB2.out _ _ (by omega)⟩
              · have HOF := Lib.hid (show ok2 l i = false by rw [HO.out]; simp [hd])
                clear HO
                have hne : ¬ (bs E).toList = (bs l).toList := fun h => hd (bs_inj hin hl h)
                have hne2 : ¬ bs E = bs l := fun h => hne (by rw [h])
                have hne3 : decide (bs E = bs l) = false := decide_eq_false hne2
                have hne4 : decide ((bs E).toList = (bs l).toList) = false := decide_eq_false hne
                have hne6 : ((bs E).toList == (bs l).toList) = false := beq_eq_false_iff_ne.2 hne
                go_wp2_with (first
                  | (refine wpList_load_row rfl 25 (.tmp 5) rfl L rfl 25 (labA ⟨i, T2 l⟩) (0, 0) _ K2.out hu25 rfl (info25 _) ?_)
                  | (refine wpList_load_row rfl 25 (.tmp 5) rfl L rfl 25 (labA ⟨i, T2 l⟩) (0, 0) _ M2.out hu25 rfl (info25 _) ?_)
                  | (go_at_call 18; refine (HDD.out _).mono ?_; rintro e w2 ⟨rfl, hb2⟩; have HB2 := Lib.hid (below_then BR.out BR.out.size hb2); have M2 := Lib.hid (blk_below K2.out hb2); have M0 := Lib.hid (blk_below K0.out hb2); have M1 := Lib.hid (blk_below K1.out hb2); have cD2 : w2.cell? ⟨w.heap.size, 1, none⟩ = some (.string (bs l)) := cell_of_row _ _ _ _ _ _ M0.out; clear hb2)
                  | (refine wpList_store_row rfl 25 (.tmp 2) (.tmp 67) rfl (w.heap.size + 1) (labA ⟨i, T2 l⟩) rfl rfl 25 z25 M1.out (info25 _) (by rw [labA_size]; rfl) (all_oneCell_toArray (labL_one _)) ?_))
                go_roundg (4 - (i + 1))
                case measure => omega
                case rel => exact ⟨i + 1, hlt, Nat.le_refl _, by simp, fun m hm => by
                  rcases Nat.lt_or_ge m i with h | h
                  · exact hno m h
                  · rw [show m = i by omega]; exact HOF.out, M0, M1, HB2⟩
            · have HOF := Lib.hid (show ok2 l i = false by rw [HO.out]; simp [hn])
              clear HO
              have dn : decide ((N : Int) = 0) = false := decide_eq_false (by omega)
              go_wp2_with (first
                | (refine wpList_load_row rfl 25 (.tmp 5) rfl L rfl 25 (labA ⟨i, T2 l⟩) (0, 0) _ K2.out hu25 rfl (info25 _) ?_)
                | (refine wpList_load_row rfl 25 (.tmp 5) rfl L rfl 25 (labA ⟨i, T2 l⟩) (0, 0) _ M2.out hu25 rfl (info25 _) ?_)
                | (go_at_call 18; refine (HDD.out _).mono ?_; rintro e w2 ⟨rfl, hb2⟩; have HB2 := Lib.hid (below_then BR.out BR.out.size hb2); have M2 := Lib.hid (blk_below K2.out hb2); have M0 := Lib.hid (blk_below K0.out hb2); have M1 := Lib.hid (blk_below K1.out hb2); have cD2 : w2.cell? ⟨w.heap.size, 1, none⟩ = some (.string (bs l)) := cell_of_row _ _ _ _ _ _ M0.out; clear hb2)
                | (refine wpList_store_row rfl 25 (.tmp 2) (.tmp 67) rfl (w.heap.size + 1) (labA ⟨i, T2 l⟩) rfl rfl 25 z25 M1.out (info25 _) (by rw [labA_size]; rfl) (all_oneCell_toArray (labL_one _)) ?_))
              go_roundg (4 - (i + 1))
              case measure => omega
              case rel => exact ⟨i + 1, hlt, Nat.le_refl _, by simp, fun m hm => by
                rcases Nat.lt_or_ge m i with h | h
                · exact hno m h
                · rw [show m = i by omega]; exact HOF.out, M0, M1, HB2⟩
    · have hi4 : i = 4 := by omega
      subst hi4
      have hh := d2_none hno
      have di : decide (((4 : Nat) : Int) < 4) = false := by decide
      have HH := Lib.hid hh
      clear hh
      have K1' := K1
      unfold z25 at K1'
      go_wp2_with (first
        | (refine wpList_store_row rfl 25 (.tmp 2) (.tmp 68) rfl (w.heap.size + 1) z25 rfl rfl 25 z25 K1.out (info25z') rfl (by kernel_rfl) ?_))
      refine bodyPost_ret (results_row_tmp rfl _ _ (w.heap.size + 1) 25 z25 (0, 0) _ rfl (setRow_heap _ (w.heap.size + 1) _ _ 25 _ K1.out) hu25 rfl info25z') rfl ⟨by rw [HH.out.1, HH.out.2, ← z25_lab]; rfl, bel_setRow BR.out _ _ (by omega)⟩
end Go.Proofs.Ytifmckhabkghcaa.P
