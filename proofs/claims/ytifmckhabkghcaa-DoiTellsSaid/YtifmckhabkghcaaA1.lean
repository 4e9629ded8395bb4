/- Sets of categories as numbers of 240 bits, and their thirty bytes: plain facts. -/
import Derived.WalkKit
import Derived.KernelRfl
import Derived.Laws.BitsLemmas
namespace Go.Proofs.Ytifmckhabkghcaa.P
open Go.RowKit

/-- Eight bits, the highest first. -/
def B8 (s0 s1 s2 s3 s4 s5 s6 s7 : Bool) : Nat := s0.toNat * 128 + s1.toNat * 64 + s2.toNat * 32 + s3.toNat * 16 + s4.toNat * 8 + s5.toNat * 4 + s6.toNat * 2 + s7.toNat
/-- Byte j of a set: category 8j + i is bit 7 - i. -/
def byteN (S j : Nat) : Nat := B8 (S.testBit (8 * j)) (S.testBit (8 * j + 1)) (S.testBit (8 * j + 2)) (S.testBit (8 * j + 3)) (S.testBit (8 * j + 4)) (S.testBit (8 * j + 5)) (S.testBit (8 * j + 6)) (S.testBit (8 * j + 7))
theorem B8_lt (s0 s1 s2 s3 s4 s5 s6 s7 : Bool) : B8 s0 s1 s2 s3 s4 s5 s6 s7 < 256 := by
  cases s0 <;> cases s1 <;> cases s2 <;> cases s3 <;> cases s4 <;> cases s5 <;> cases s6 <;> cases s7 <;> decide
theorem byteN_lt (S j : Nat) : byteN S j < 256 := B8_lt ..

theorem B8_bits (s0 s1 s2 s3 s4 s5 s6 s7 : Bool) (i : Nat) (hi : i < 8) :
    (B8 s0 s1 s2 s3 s4 s5 s6 s7).testBit (7 - i) = [s0, s1, s2, s3, s4, s5, s6, s7].getD i false := by
  have : i = 0 ∨ i = 1 ∨ i = 2 ∨ i = 3 ∨ i = 4 ∨ i = 5 ∨ i = 6 ∨ i = 7 := by omega
  rcases this with rfl | rfl | rfl | rfl | rfl | rfl | rfl | rfl <;> cases s0 <;> cases s1 <;> cases s2 <;> cases s3 <;> cases s4 <;> cases s5 <;> cases s6 <;> cases s7 <;> rfl
theorem byteN_bit (S j i : Nat) (hi : i < 8) : (byteN S j).testBit (7 - i) = S.testBit (8 * j + i) := by
  unfold byteN
  rw [B8_bits _ _ _ _ _ _ _ _ i hi]
  have : i = 0 ∨ i = 1 ∨ i = 2 ∨ i = 3 ∨ i = 4 ∨ i = 5 ∨ i = 6 ∨ i = 7 := by omega
  rcases this with rfl | rfl | rfl | rfl | rfl | rfl | rfl | rfl <;> rfl
/-- A byte is its bits. -/
theorem byte_ext {a b : Nat} (ha : a < 256) (hb : b < 256) (h : ∀ i, i < 8 → a.testBit (7 - i) = b.testBit (7 - i)) : a = b := by
  apply Nat.eq_of_testBit_eq
  intro i
  by_cases hi : i < 8
  · have := h (7 - i) (by omega)
    rwa [show 7 - (7 - i) = i by omega] at this
  · rw [Nat.testBit_lt_two_pow (Nat.lt_of_lt_of_le ha (show 256 ≤ 2 ^ i from Nat.pow_le_pow_right (n := 2) (by decide) (show 8 ≤ i by omega))), Nat.testBit_lt_two_pow (Nat.lt_of_lt_of_le hb (show 256 ≤ 2 ^ i from Nat.pow_le_pow_right (n := 2) (by decide) (show 8 ≤ i by omega)))]

/-- The bit of a category in its byte. -/
def bitN (k : Nat) : Nat := 2 ^ (7 - k % 8)
theorem bitN_shr (k : Nat) : 128 >>> (k % 8) = bitN k := by
  unfold bitN
  have : k % 8 < 8 := Nat.mod_lt _ (by decide)
  generalize k % 8 = i at this ⊢
  have : i = 0 ∨ i = 1 ∨ i = 2 ∨ i = 3 ∨ i = 4 ∨ i = 5 ∨ i = 6 ∨ i = 7 := by omega
  rcases this with rfl | rfl | rfl | rfl | rfl | rfl | rfl | rfl <;> rfl
theorem bitN_lt (k : Nat) : bitN k < 256 := by
  unfold bitN
  exact Nat.lt_of_le_of_lt (Nat.pow_le_pow_right (by decide) (show 7 - k % 8 ≤ 7 by omega)) (by decide)
theorem and_pow (a i : Nat) : ((a &&& 2 ^ i) != 0) = a.testBit i := by
  have h : (a &&& 2 ^ i) = if a.testBit i = true then 2 ^ i else 0 := by
    apply Nat.eq_of_testBit_eq
    intro j
    rw [Nat.testBit_and, Nat.testBit_two_pow]
    by_cases e : i = j
    · subst e
      cases hb : a.testBit i <;> simp
    · cases hb : a.testBit i <;> simp [e]
  rw [h]
  cases hb : a.testBit i
  · simp
  · have : 2 ^ i ≠ 0 := Nat.ne_of_gt (Nat.pow_pos (by decide))
    simp
theorem has_bit (S k : Nat) : ((byteN S (k / 8) &&& bitN k) != 0) = S.testBit k := by
  have hk : k % 8 < 8 := Nat.mod_lt _ (by decide)
  have h := byteN_bit S (k / 8) (k % 8) hk
  rw [Nat.div_add_mod] at h
  rw [← h]
  unfold bitN
  exact and_pow _ _
theorem has_shr (S k : Nat) : (byteN S (k / 8) / 2 ^ (7 - k % 8) % 2 == 1) = S.testBit k := by
  have hk : k % 8 < 8 := Nat.mod_lt _ (by decide)
  have h := byteN_bit S (k / 8) (k % 8) hk
  rw [Nat.div_add_mod] at h
  rw [← h, Nat.testBit, Nat.shiftRight_eq_div_pow, Nat.one_and_eq_mod_two]
  rcases Nat.mod_two_eq_zero_or_one (byteN S (k / 8) / 2 ^ (7 - k % 8)) with e | e <;> rw [e] <;> rfl

/-- The set with one more. -/
def ins (S k : Nat) : Nat := S ||| 2 ^ k
theorem ins_bit (S k i : Nat) : (ins S k).testBit i = (S.testBit i || i == k) := by
  unfold ins
  rw [Nat.testBit_or, Nat.testBit_two_pow]
  congr 1
  rw [Bool.eq_iff_iff]
  simp
  exact eq_comm
theorem ins_lt {S k : Nat} (h : S < 2 ^ 240) (hk : k < 240) : ins S k < 2 ^ 240 :=
  Nat.or_lt_two_pow h (Nat.pow_lt_pow_right (by decide) hk)
theorem byteN_ins (S k j : Nat) : byteN (ins S k) j = if j = k / 8 then byteN S j ||| bitN k else byteN S j := by
  have hk : k % 8 < 8 := Nat.mod_lt _ (by decide)
  have hd := Nat.div_add_mod k 8
  refine byte_ext (byteN_lt _ _) ?_ fun i hi => ?_
  · split
    · exact Nat.or_lt_two_pow (n := 8) (byteN_lt _ _) (bitN_lt _)
    · exact byteN_lt _ _
  · rw [byteN_bit _ _ _ hi, ins_bit]
    by_cases e : j = k / 8
    · rw [if_pos e, Nat.testBit_or, byteN_bit _ _ _ hi]
      congr 1
      unfold bitN
      rw [Nat.testBit_two_pow, Bool.eq_iff_iff]
      simp
      omega
    · rw [if_neg e, byteN_bit _ _ _ hi]
      have : ¬ 8 * j + i = k := by omega
      simp [this]
theorem or_pow_add (a i : Nat) (h : a.testBit i = false) : a ||| 2 ^ i = a + 2 ^ i := by
  rw [Nat.or_comm, Nat.add_comm]
  have h2 := Nat.two_pow_add_eq_or_of_lt (b := a % 2 ^ i) (i := i) (Nat.mod_lt _ (Nat.pow_pos (by decide))) (a / 2 ^ i)
  have h3 : a / 2 ^ i % 2 = 0 := by
    rw [Nat.testBit, Nat.shiftRight_eq_div_pow, Nat.one_and_eq_mod_two] at h
    rcases Nat.mod_two_eq_zero_or_one (a / 2 ^ i) with e | e
    · exact e
    · rw [e] at h; exact absurd h (by decide)
  apply Nat.eq_of_testBit_eq
  intro j
  rw [Nat.testBit_or, Nat.testBit_two_pow]
  have hd := Nat.div_add_mod a (2 ^ i)
  have hm := Nat.mod_lt a (Nat.pow_pos (n := i) (show 0 < 2 by decide))
  have e1 : 2 ^ i + a = 2 ^ i * (a / 2 ^ i + 1) + a % 2 ^ i := by rw [Nat.mul_add, Nat.mul_one]; omega
  have e2 : a = 2 ^ i * (a / 2 ^ i) + a % 2 ^ i := hd.symm
  rw [e1]
  conv => lhs; rw [e2]
  rw [Nat.testBit_two_pow_mul_add _ hm, Nat.testBit_two_pow_mul_add _ hm]
  by_cases hj : j < i
  · have : ¬ i = j := by omega
    simp [hj, this]
  · simp only [hj, if_false]
    generalize a / 2 ^ i = q at h3 ⊢
    by_cases hj2 : i = j
    · subst hj2
      simp
      omega
    · obtain ⟨d, hd2⟩ : ∃ d, j - i = d + 1 := ⟨j - i - 1, by omega⟩
      rw [hd2, Nat.testBit_succ, Nat.testBit_succ]
      have : (q + 1) / 2 = q / 2 := by omega
      simp [hj2, this]
/-- Laying a bit that isn't there is adding it. -/
theorem or_add (S k : Nat) (h : S.testBit k = false) : byteN S (k / 8) ||| bitN k = byteN S (k / 8) + bitN k := by
  have hk : k % 8 < 8 := Nat.mod_lt _ (by decide)
  have hb := byteN_bit S (k / 8) (k % 8) hk
  rw [Nat.div_add_mod, h] at hb
  have := byteN_lt S (k / 8)
  unfold bitN
  generalize byteN S (k / 8) = a at hb this ⊢
  generalize k % 8 = i at hk hb ⊢
  clear hk h
  exact or_pow_add a (7 - i) hb

/-- The common part. -/
theorem byteN_and (S T j : Nat) : byteN (S &&& T) j = byteN S j &&& byteN T j := by
  refine byte_ext (byteN_lt _ _) (Nat.lt_of_le_of_lt Nat.and_le_left (byteN_lt S j)) fun i hi => ?_
  rw [byteN_bit _ _ _ hi, Nat.testBit_and, Nat.testBit_and, byteN_bit _ _ _ hi, byteN_bit _ _ _ hi]

/-- A set is its bytes. -/
theorem set_ext {S T : Nat} (hS : S < 2 ^ 240) (hT : T < 2 ^ 240) (h : ∀ j, j < 30 → byteN S j = byteN T j) : S = T := by
  apply Nat.eq_of_testBit_eq
  intro k
  by_cases hk : k < 240
  · have h1 := byteN_bit S (k / 8) (k % 8) (Nat.mod_lt _ (by decide))
    have h2 := byteN_bit T (k / 8) (k % 8) (Nat.mod_lt _ (by decide))
    rw [Nat.div_add_mod] at h1 h2
    rw [← h1, ← h2, h (k / 8) (by omega)]
  · rw [Nat.testBit_lt_two_pow (Nat.lt_of_lt_of_le hS (Nat.pow_le_pow_right (by decide) (by omega))), Nat.testBit_lt_two_pow (Nat.lt_of_lt_of_le hT (Nat.pow_le_pow_right (by decide) (by omega)))]
theorem set_ext_bits {S T : Nat} (hS : S < 2 ^ 240) (hT : T < 2 ^ 240) (h : ∀ k, k < 240 → S.testBit k = T.testBit k) : S = T := by
  apply Nat.eq_of_testBit_eq
  intro k
  by_cases hk : k < 240
  · exact h k hk
  · rw [Nat.testBit_lt_two_pow (Nat.lt_of_lt_of_le hS (Nat.pow_le_pow_right (by decide) (by omega))), Nat.testBit_lt_two_pow (Nat.lt_of_lt_of_le hT (Nat.pow_le_pow_right (by decide) (by omega)))]
theorem no_bit {S k : Nat} (hS : S < 2 ^ 240) (hk : 240 ≤ k) : S.testBit k = false :=
  Nat.testBit_lt_two_pow (Nat.lt_of_lt_of_le hS (Nat.pow_le_pow_right (by decide) hk))

/-- The set of a predicate on the categories below n. -/
def ofP (p : Nat → Bool) : Nat → Nat
  | 0 => 0
  | n + 1 => if p n then ins (ofP p n) n else ofP p n
theorem ofP_bit (p : Nat → Bool) (n k : Nat) : (ofP p n).testBit k = (decide (k < n) && p k) := by
  induction n with
  | zero => simp [ofP]
  | succ n ih =>
    rw [ofP]
    by_cases e : k = n
    · subst e
      by_cases hp : p k = true
      · rw [if_pos hp, ins_bit]; simp [hp]
      · rw [if_neg hp, ih]; simp [hp]
    · have h1 : (k < n + 1) ↔ k < n := by omega
      by_cases hp : p n = true
      · rw [if_pos hp, ins_bit, ih]; simp [e, h1]
      · rw [if_neg hp, ih]; simp [h1]
theorem ofP_lt (p : Nat → Bool) (n : Nat) : ofP p n < 2 ^ n := by
  refine Nat.lt_pow_two_of_testBit _ fun i hi => ?_
  rw [ofP_bit]
  have : ¬ i < n := by omega
  simp [this]
/-- Thirty bytes are some set's. -/
theorem bytes_set (c : List Nat) (h : ∀ b ∈ c, b < 256) : ∃ S, S < 2 ^ 240 ∧ ∀ j, j < 30 → byteN S j = c.getD j 0 := by
  refine ⟨ofP (fun k => (c.getD (k / 8) 0).testBit (7 - k % 8)) 240, ofP_lt _ _, fun j hj => ?_⟩
  refine byte_ext (byteN_lt _ _) ?_ fun i hi => ?_
  · by_cases hl : j < c.length
    · rw [List.getD, List.getElem?_eq_getElem hl]; exact h _ (List.getElem_mem hl)
    · rw [List.getD, List.getElem?_eq_none (by omega)]; decide
  · rw [byteN_bit _ _ _ hi, ofP_bit]
    have h1 : (8 * j + i) / 8 = j := by omega
    have h2 : (8 * j + i) % 8 = i := by omega
    have h3 : 8 * j + i < 240 := by omega
    rw [h1, h2]
    simp [h3]
end Go.Proofs.Ytifmckhabkghcaa.P
