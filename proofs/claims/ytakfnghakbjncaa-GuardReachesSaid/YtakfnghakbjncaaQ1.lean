/- Plain facts on addresses: a prefix is right, and holds an address, by the program's masks just as by the document's bits. Numbers of 32 bits. -/
import Derived.Test.YtakfnghakbjncaaG1
import Derived.Test.YtakfnghakbjncaaPx5
namespace Go.Proofs.Ytakfnghakbjncaa.P
open Go.RowKit Go.Proofs.YtakfnghakbjncaaW.PrintWords Go.Proofs.YtakfnghakbjncaaW.PrintLast Go.Proofs.YtakfnghakbjncaaW.PrintMore

theorem wraps_u32 (n : Int) (h₀ : 0 ≤ n) (h₁ : n < 2 ^ 32) : IntKind.u32.wrap n = n := by rw [IntKind.wrap_u32]; omega
theorem and32 (a b : Nat) (ha : a < 2 ^ 32) (hb : b < 2 ^ 32) : Go.bits .and .u32 a b = ((a &&& b : Nat) : Int) := (bits_nat .u32 32 (by decide) wraps_u32 a b ha hb).1
theorem wrap_small (x : Int) (h0 : -4294967296 ≤ x) (h1 : x ≤ 4294967296) : wrap64 x = x := by unfold wrap64; omega

theorem and_one (a : Nat) (ha : a < 2 ^ 32) : Go.bits .and .u32 a 1 = ((a % 2 : Nat) : Int) := by
  have := and32 a 1 ha (by decide)
  rw [Nat.and_one_is_mod] at this
  exact this

theorem bit_eq (a k : Nat) (ha : a < 2 ^ 32) (hk : k ≤ 31) : gueriteref03_bit.f a k = some ((a / 2 ^ (31 - k) % 2 : Nat) : Int) := by
  unfold gueriteref03_bit.f
  have e : wrap64 (31 - (k : Int)) = ((31 - k : Nat) : Int) := by rw [wrap_small _ (by omega) (by omega)]; omega
  rw [e, if_pos (by omega)]
  have e2 : shr .u32 (a : Int) ((31 - k : Nat) : Int) = ((a / 2 ^ (31 - k) : Nat) : Int) := by
    unfold shr
    rw [Int.toNat_natCast, Nat.min_eq_left (by show 31 - k ≤ 32; omega)]
    simp
  rw [e2, and_one _ (Nat.lt_of_le_of_lt (Nat.div_le_self _ _) ha), wrap_small _ (by omega) (by omega)]

/-- The mask: the low n bits struck. -/
theorem mask_and (a n : Nat) (ha : a < 2 ^ 32) (hn : n ≤ 32) : a &&& (2 ^ 32 - 2 ^ n) = a / 2 ^ n * 2 ^ n := by
  apply Nat.eq_of_testBit_eq
  intro i
  rw [Nat.testBit_and]
  have e : 2 ^ 32 - 2 ^ n = (2 ^ (32 - n) - 1) * 2 ^ n := by
    rw [Nat.sub_mul, Nat.one_mul, ← Nat.pow_add, Nat.sub_add_cancel hn]
  rw [e, Nat.testBit_mul_two_pow, Nat.testBit_mul_two_pow, Nat.testBit_two_pow_sub_one, Nat.testBit_div_two_pow]
  by_cases h : n ≤ i
  · by_cases h2 : i < 32
    · have h3 : i - n < 32 - n := by omega
      have h4 : i - n + n = i := by omega
      simp [h, h3, h4]
    · have h3 : a.testBit i = false := Nat.testBit_lt_two_pow (Nat.lt_of_lt_of_le ha (Nat.pow_le_pow_right (by decide) (by omega)))
      have h4 : i - n + n = i := by omega
      simp [h, h3, h4]
  · simp [h]

theorem mask_eq (b : Nat) (hb : b ≤ 32) : addr_Mask.f b = some ((2 ^ 32 - 2 ^ (32 - b) : Nat) : Int) := by
  unfold addr_Mask.f mn mx
  have : b = 0 ∨ b = 1 ∨ b = 2 ∨ b = 3 ∨ b = 4 ∨ b = 5 ∨ b = 6 ∨ b = 7 ∨ b = 8 ∨ b = 9 ∨ b = 10 ∨ b = 11 ∨ b = 12 ∨ b = 13 ∨ b = 14 ∨ b = 15 ∨ b = 16 ∨ b = 17 ∨ b = 18 ∨ b = 19 ∨ b = 20 ∨ b = 21 ∨ b = 22 ∨ b = 23 ∨ b = 24 ∨ b = 25 ∨ b = 26 ∨ b = 27 ∨ b = 28 ∨ b = 29 ∨ b = 30 ∨ b = 31 ∨ b = 32 := by omega
  rcases this with h | h | h | h | h | h | h | h | h | h | h | h | h | h | h | h | h | h | h | h | h | h | h | h | h | h | h | h | h | h | h | h | h <;> subst h <;> rfl

/-- What 'right' is: so many bits, and none behind them. -/
def arP (a : Nat) (b : Int) : Prop := 0 ≤ b ∧ b ≤ 32 ∧ a % 2 ^ (32 - b.toNat) = 0
instance (a : Nat) (b : Int) : Decidable (arP a b) := inferInstanceAs (Decidable (_ ∧ _ ∧ _))
theorem arB_eq (a : Nat) (b : Int) (ha : a < 2 ^ 32) : arB a b = decide (arP a b) := by
  unfold arB addr_Right.f
  by_cases h0 : 0 ≤ b
  · by_cases h1 : b ≤ 32
    · obtain ⟨n, rfl⟩ := Int.eq_ofNat_of_zero_le h0
      have hn : n ≤ 32 := by omega
      rw [if_pos (by omega), if_pos (by omega)]
      unfold addr_Cut.f
      have e : mn (mx (n : Int) 0) 32 = (n : Int) := by unfold mn mx; omega
      have hl : 2 ^ 32 - 2 ^ (32 - n) < 2 ^ 32 := Nat.sub_lt (by decide) (Nat.pow_pos (by decide))
      rw [e, mask_eq n hn]
      simp only [Option.bind_some, Option.getD_some]
      rw [and32 a _ ha hl, mask_and a _ ha (by omega)]
      have hd := Nat.div_add_mod a (2 ^ (32 - n))
      rw [Nat.mul_comm] at hd
      simp only [beq_self_eq_true, Bool.and_true]
      rw [Bool.eq_iff_iff, decide_eq_true_iff]
      simp only [beq_iff_eq]
      unfold arP
      simp only [Int.toNat_natCast]
      constructor
      · intro h; refine ⟨by omega, by omega, by omega⟩
      · rintro ⟨_, _, h⟩; omega
    · rw [if_pos (by omega), if_neg (by omega)]
      unfold arP
      simp [h1]
  · rw [if_neg (by omega)]
    unfold arP
    simp [h0]

theorem mod_pow_succ (a d : Nat) : a % 2 ^ (d + 1) = a % 2 ^ d + 2 ^ d * (a / 2 ^ d % 2) := by rw [Nat.pow_succ, Nat.mod_mul]

theorem ref_right_loop (a : Nat) (b : Int) (ha : a < 2 ^ 32) (d : Nat) : ∀ (k i : Nat), i + d = 32 → d < k → gueriteref03_Right.l0 k i a b = some (decide (a % 2 ^ d = 0)) := by
  induction d with
  | zero =>
    intro k i hi hk
    obtain ⟨k, rfl⟩ : ∃ m, k = m + 1 := ⟨k - 1, by omega⟩
    simp only [gueriteref03_Right.l0]
    rw [if_neg (by omega)]
    simp [Nat.mod_one]
  | succ d ih =>
    intro k i hi hk
    obtain ⟨k, rfl⟩ : ∃ m, k = m + 1 := ⟨k - 1, by omega⟩
    simp only [gueriteref03_Right.l0]
    rw [if_pos (by omega), bit_eq a i ha (by omega)]
    simp only [Option.bind_some]
    have e : 31 - i = d := by omega
    have hm := mod_pow_succ a d
    have hp : 0 < 2 ^ d := Nat.pow_pos (by decide)
    rw [e]
    by_cases hb : a / 2 ^ d % 2 = 1
    · rw [if_pos (by omega)]
      rw [hb, Nat.mul_one] at hm
      have : ¬ a % 2 ^ (d + 1) = 0 := by omega
      simp [this]
    · have hb0 : a / 2 ^ d % 2 = 0 := by omega
      rw [if_neg (by omega), wrap_small _ (by omega) (by omega)]
      have := ih k (i + 1) (by omega) (by omega)
      rw [hb0, Nat.mul_zero, Nat.add_zero] at hm
      rw [hm]
      exact this

theorem ref_right (a : Nat) (b : Int) (ha : a < 2 ^ 32) (k : Nat) (hk : 40 ≤ k) : gueriteref03_Right.f k a b = some (arB a b) := by
  rw [arB_eq a b ha]
  unfold gueriteref03_Right.f
  obtain ⟨k, rfl⟩ : ∃ m, k = m + 1 := ⟨k - 1, by omega⟩
  by_cases h0 : b < 0
  · rw [if_pos h0]
    simp only [gueriteref03_Right.j0, if_true]
    have : ¬ arP a b := by unfold arP; omega
    simp [this]
  · rw [if_neg h0]
    by_cases h1 : b > 32
    · simp only [gueriteref03_Right.j0, h1, decide_true, if_true]
      have : ¬ arP a b := by unfold arP; omega
      simp [this]
    · simp only [gueriteref03_Right.j0, h1, decide_false, Bool.false_eq_true, if_false]
      obtain ⟨n, rfl⟩ := Int.eq_ofNat_of_zero_le (show 0 ≤ b by omega)
      rw [ref_right_loop a n ha (32 - n) k n (by omega) (by omega)]
      congr 1
      unfold arP
      have c1 : (0 : Int) ≤ n := by omega
      have c2 : (n : Int) ≤ 32 := by omega
      simp only [c1, c2, true_and, Int.toNat_natCast]

/-- Does a prefix hold an address? -/
def ahB (p b c : Int) : Bool := (addr_Holds.f p b c).getD false
theorem ah_some (p b c : Int) : addr_Holds.f p b c = some (ahB p b c) := by
  obtain ⟨r, h⟩ := holds_some p b c
  unfold ahB
  rw [h]; rfl
theorem ahB_eq (p : Nat) (b : Int) (c : Nat) (hp : p < 2 ^ 32) (hc : c < 2 ^ 32) : ahB p b c = (arB p b && decide (p / 2 ^ (32 - b.toNat) = c / 2 ^ (32 - b.toNat))) := by
  unfold ahB addr_Holds.f
  rw [ar_some]
  simp only [Option.bind_some]
  cases h : arB p b with
  | false => simp
  | true =>
    rw [arB_eq p b hp, decide_eq_true_eq] at h
    obtain ⟨h0, h1, h2⟩ := h
    obtain ⟨n, rfl⟩ := Int.eq_ofNat_of_zero_le h0
    have hl : 2 ^ 32 - 2 ^ (32 - n) < 2 ^ 32 := Nat.sub_lt (by decide) (Nat.pow_pos (by decide))
    rw [if_pos rfl, mask_eq n (by omega)]
    simp only [Option.bind_some, Option.getD_some, Bool.true_and]
    rw [and32 c _ hc hl, mask_and c _ hc (by omega)]
    simp only [Int.toNat_natCast] at h2 ⊢
    have hd := Nat.div_add_mod p (2 ^ (32 - n))
    rw [h2, Nat.add_zero, Nat.mul_comm] at hd
    rw [Bool.eq_iff_iff]
    simp only [beq_iff_eq, decide_eq_true_eq]
    constructor
    · intro h
      have h' : c / 2 ^ (32 - n) * 2 ^ (32 - n) = p := by omega
      rw [← hd] at h'
      exact (Nat.eq_of_mul_eq_mul_right (Nat.pow_pos (by decide)) h').symm
    · intro h
      rw [← h, hd]

theorem ref_holds_loop (p c b : Nat) (hp : p < 2 ^ 32) (hc : c < 2 ^ 32) (hb : b ≤ 32) (d : Nat) : ∀ (k i : Nat), i + d = b → d < k →
    gueriteref03_Holds.l0 k c i p b = some (decide (p / 2 ^ (32 - b) % 2 ^ d = c / 2 ^ (32 - b) % 2 ^ d)) := by
  induction d with
  | zero =>
    intro k i hi hk
    obtain ⟨k, rfl⟩ : ∃ m, k = m + 1 := ⟨k - 1, by omega⟩
    simp only [gueriteref03_Holds.l0]
    rw [if_neg (by omega)]
    simp [Nat.mod_one]
  | succ d ih =>
    intro k i hi hk
    obtain ⟨k, rfl⟩ : ∃ m, k = m + 1 := ⟨k - 1, by omega⟩
    simp only [gueriteref03_Holds.l0]
    rw [if_pos (by omega), bit_eq p i hp (by omega), bit_eq c i hc (by omega)]
    simp only [Option.bind_some]
    have e : 31 - i = (32 - b) + d := by omega
    have q : ∀ x : Nat, x / 2 ^ (31 - i) % 2 = x / 2 ^ (32 - b) / 2 ^ d % 2 := fun x => by rw [e, Nat.pow_add, Nat.div_div_eq_div_mul]
    rw [q p, q c]
    generalize p / 2 ^ (32 - b) = P at ih ⊢
    generalize c / 2 ^ (32 - b) = C at ih ⊢
    have hP := mod_pow_succ P d
    have hC := mod_pow_succ C d
    have hpw : 0 < 2 ^ d := Nat.pow_pos (by decide)
    have lP := Nat.mod_lt P hpw
    have lC := Nat.mod_lt C hpw
    by_cases h : P / 2 ^ d % 2 = C / 2 ^ d % 2
    · rw [if_pos (by omega), wrap_small _ (by omega) (by omega)]
      rw [show ((i : Int) + 1) = ((i + 1 : Nat) : Int) from by omega, ih k (i + 1) (by omega) (by omega)]
      congr 1
      rw [Bool.eq_iff_iff]
      simp only [decide_eq_true_eq]
      rw [hP, hC, h]
      omega
    · rw [if_neg (by omega)]
      have : ¬ P % 2 ^ (d + 1) = C % 2 ^ (d + 1) := by
        rw [hP, hC]
        generalize P / 2 ^ d % 2 = u at h ⊢
        generalize C / 2 ^ d % 2 = v at h ⊢
        generalize P % 2 ^ d = x at lP ⊢
        generalize C % 2 ^ d = y at lC ⊢
        generalize 2 ^ d = N at hpw lP lC ⊢
        intro he
        rcases Nat.lt_or_gt_of_ne h with hl | hl
        · have := Nat.mul_le_mul_left N hl
          rw [Nat.mul_succ] at this
          omega
        · have := Nat.mul_le_mul_left N hl
          rw [Nat.mul_succ] at this
          omega
      simp [this]

theorem ref_holds (p c : Nat) (b : Int) (hp : p < 2 ^ 32) (hc : c < 2 ^ 32) (k : Nat) (hk : 40 ≤ k) : gueriteref03_Holds.f k p b c = some (ahB p b c) := by
  unfold gueriteref03_Holds.f
  rw [ref_right p b hp k hk, ahB_eq p b c hp hc]
  simp only [Option.bind_some]
  cases h : arB p b with
  | false => simp
  | true =>
    rw [arB_eq p b hp, decide_eq_true_eq] at h
    obtain ⟨h0, h1, h2⟩ := h
    obtain ⟨n, rfl⟩ := Int.eq_ofNat_of_zero_le h0
    rw [if_pos rfl]
    have := ref_holds_loop p c n hp hc (by omega) n k 0 (by omega) (by omega)
    rw [show ((0 : Nat) : Int) = 0 from rfl] at this
    rw [this]
    have l : ∀ x : Nat, x < 2 ^ 32 → x / 2 ^ (32 - n) % 2 ^ n = x / 2 ^ (32 - n) := fun x hx => Nat.mod_eq_of_lt (by
      rw [Nat.div_lt_iff_lt_mul (Nat.pow_pos (by decide)), ← Nat.pow_add, show n + (32 - n) = 32 from by omega]; exact hx)
    rw [l p hp, l c hc]
    simp

end Go.Proofs.Ytakfnghakbjncaa.P
