/- The bytes of categories of RFC 1108's options: plain facts. -/
import Derived.Test.YtifmckhabkghcaaA3
namespace Go.Proofs.Ytifmckhabkghcaa.P
open Go.RowKit

/-- Seven categories' byte, the last bit free. -/
def b7 (P j : Nat) : Nat := B8 (P.testBit (7 * j)) (P.testBit (7 * j + 1)) (P.testBit (7 * j + 2)) (P.testBit (7 * j + 3)) (P.testBit (7 * j + 4)) (P.testBit (7 * j + 5)) (P.testBit (7 * j + 6)) false
theorem b7_lt (P j : Nat) : b7 P j < 256 := B8_lt ..
theorem b7_bit (P j i : Nat) (hi : i < 8) : (b7 P j).testBit (7 - i) = (decide (i < 7) && P.testBit (7 * j + i)) := by
  unfold b7
  rw [B8_bits _ _ _ _ _ _ _ _ i hi]
  have : i = 0 ∨ i = 1 ∨ i = 2 ∨ i = 3 ∨ i = 4 ∨ i = 5 ∨ i = 6 ∨ i = 7 := by omega
  rcases this with rfl | rfl | rfl | rfl | rfl | rfl | rfl | rfl <;> simp
def bit7 (k : Nat) : Nat := 2 ^ (7 - k % 7)
theorem bit7_lt (k : Nat) : bit7 k < 256 := Nat.lt_of_le_of_lt (Nat.pow_le_pow_right (by decide) (show 7 - k % 7 ≤ 7 by omega)) (by decide)
theorem bit7_div (k : Nat) : ((128 : Int) / 2 ^ (k % 7)) = (bit7 k : Int) := by
  have h : k % 7 < 7 := Nat.mod_lt _ (by decide)
  unfold bit7
  generalize k % 7 = i at h ⊢
  have : i = 0 ∨ i = 1 ∨ i = 2 ∨ i = 3 ∨ i = 4 ∨ i = 5 ∨ i = 6 := by omega
  rcases this with rfl | rfl | rfl | rfl | rfl | rfl | rfl <;> rfl
theorem b7_ins (P k j : Nat) : b7 (ins P k) j = if j = k / 7 then b7 P j ||| bit7 k else b7 P j := by
  have hk : k % 7 < 7 := Nat.mod_lt _ (by decide)
  have hd := Nat.div_add_mod k 7
  refine byte_ext (b7_lt _ _) ?_ fun i hi => ?_
  · split
    · exact Nat.or_lt_two_pow (n := 8) (b7_lt _ _) (bit7_lt _)
    · exact b7_lt _ _
  · rw [b7_bit _ _ _ hi, ins_bit]
    by_cases e : j = k / 7
    · rw [if_pos e, Nat.testBit_or, b7_bit _ _ _ hi]
      unfold bit7
      rw [Nat.testBit_two_pow]
      by_cases h7 : i < 7
      · have e2 : (7 * j + i == k) = decide (7 - k % 7 = 7 - i) := by
          rw [Bool.eq_iff_iff]
          simp
          omega
        rw [e2]
        simp [h7]
      · have : ¬ 7 - k % 7 = 7 - i := by omega
        simp [h7, this]
    · rw [if_neg e, b7_bit _ _ _ hi]
      by_cases h7 : i < 7
      · have : ¬ 7 * j + i = k := by omega
        rw [beq_eq_false_iff_ne.2 this, Bool.or_false]
      · simp [h7]
theorem b7_one (P j : Nat) : b7 P j ||| 1 = b7 P j + 1 := by
  have h := b7_bit P j 7 (by decide)
  exact or_pow_add (b7 P j) 0 (by simpa using h)

/-- n bytes, those below i with their last bit. -/
def arr (P n i : Nat) : Array Value := ((List.range n).map fun j => Value.int .u8 ((b7 P j + if j < i then 1 else 0 : Nat) : Int)).toArray
theorem arr_size (P n i : Nat) : (arr P n i).size = n := by simp [arr]
theorem arr_get (P n i j : Nat) (h : j < n) : (arr P n i)[j]? = some (.int .u8 ((b7 P j + if j < i then 1 else 0 : Nat) : Int)) := by simp [arr, h]
theorem arr_zero (n : Nat) : arr 0 n 0 = Array.replicate n (.int .u8 0) := by
  apply Array.ext'
  simp only [arr, Array.toList_replicate]
  apply List.ext_getElem
  · simp
  · intro j h1 h2
    have : b7 0 j = 0 := by simp [b7, B8]
    simp [this]
theorem arr_or (P n k : Nat) : (arr P n 0).setIfInBounds (k / 7) (.int .u8 (Go.bits .or .u8 (b7 P (k / 7)) (bit7 k))) = arr (ins P k) n 0 := by
  rw [or8 _ _ (b7_lt _ _) (bit7_lt _)]
  apply Array.ext'
  simp only [arr, Array.toList_setIfInBounds]
  apply List.ext_getElem
  · simp
  · intro j h1 h2
    simp only [List.getElem_set, List.getElem_map, List.getElem_range, b7_ins]
    by_cases e : k / 7 = j
    · simp [e]
    · have : ¬ j = k / 7 := fun h => e h.symm
      simp [e, this]
theorem arr_one (P n i : Nat) : (arr P n i).setIfInBounds i (.int .u8 (Go.bits .or .u8 (b7 P i) 1)) = arr P n (i + 1) := by
  rw [show (1 : Int) = ((1 : Nat) : Int) from rfl, or8 _ 1 (b7_lt _ _) (by decide), b7_one]
  apply Array.ext'
  simp only [arr, Array.toList_setIfInBounds]
  apply List.ext_getElem
  · simp
  · intro j h1 h2
    simp only [List.getElem_set, List.getElem_map, List.getElem_range]
    by_cases e : i = j
    · subst e; simp
    · rw [if_neg e]
      by_cases h : j < i
      · rw [if_pos h, if_pos (by omega)]
      · rw [if_neg h, if_neg (by omega)]

/-- The set of some. -/
def insL (l : List Nat) : Nat := l.foldl ins 0
theorem insL_snoc (l : List Nat) (k : Nat) : insL (l ++ [k]) = ins (insL l) k := by simp [insL]
theorem insL_bit (l : List Nat) (i : Nat) : (insL l).testBit i = l.contains i := by
  have h : ∀ (l : List Nat) (S : Nat), (l.foldl ins S).testBit i = (S.testBit i || l.contains i) := by
    intro l
    induction l with
    | nil => intro S; simp
    | cons x l ih =>
      intro S
      rw [List.foldl_cons, ih, ins_bit, List.contains_cons, Bool.or_assoc]
  rw [insL, h]
  simp
theorem insL_all {S : Nat} (hS : S < 2 ^ 240) : insL (lsN S 240) = S := by
  apply Nat.eq_of_testBit_eq
  intro i
  rw [insL_bit]
  cases hb : S.testBit i with
  | true =>
    have : i < 240 := by
      rcases Nat.lt_or_ge i 240 with h | h
      · exact h
      · rw [no_bit hS h] at hb; cases hb
    simp [lsN, hb, this]
  | false => simp [lsN, hb]

theorem mostB_ge (S n : Nat) : -1 ≤ mostB S n ∧ mostB S n < n := by
  induction n with
  | zero => simp [mostB]
  | succ n ih => unfold mostB; split <;> omega
theorem mostB_le (S : Nat) : ∀ (n k : Nat), k < n → S.testBit k = true → (k : Int) ≤ mostB S n
  | 0, _, h, _ => absurd h (Nat.not_lt_zero _)
  | n + 1, k, h, hb => by
    unfold mostB
    split
    · omega
    · rename_i hn
      by_cases e : k = n
      · subst e; exact absurd hb hn
      · exact mostB_le S n k (by omega) hb
/-- How many bytes. -/
def authN (S : Nat) : Nat := ((mostB S 240 + 7) / 7).toNat
theorem authN_le (S : Nat) : authN S ≤ 35 := by
  have := mostB_ge S 240
  unfold authN
  omega
theorem authN_int (S : Nat) : ((mostB S 240 + 7) / 7) = (authN S : Int) := by
  have := mostB_ge S 240
  unfold authN
  omega
theorem authN_lt (S k : Nat) (hk : k < 240) (hb : S.testBit k = true) : k / 7 < authN S := by
  have := mostB_le S 240 k hk hb
  unfold authN
  omega
/-- The bytes. -/
def authL (S : Nat) : List Nat := (List.range (authN S)).map fun j => b7 S j + if j + 1 < authN S then 1 else 0
theorem arr_auth (S : Nat) : arr S (authN S) (authN S - 1) = ((authL S).map fun (b : Nat) => Value.int .u8 (b : Int)).toArray := by
  unfold arr authL
  rw [List.map_map]
  congr 1
  refine List.map_congr_left fun j hj => ?_
  have hj : j < authN S := by simpa using hj
  by_cases h : j + 1 < authN S
  · simp [h, show j < authN S - 1 by omega]
  · simp [h, show ¬ j < authN S - 1 by omega]
end Go.Proofs.Ytifmckhabkghcaa.P
