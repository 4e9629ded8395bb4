/- Bits of addresses, paths of prefixes (layer 14). -/
namespace Go.Proofs.Ytfpbcdlfcaglgaa.P

/-- A bit of an address, the highest first. -/
def bt (a k : Nat) : Bool := a.testBit (31 - k)
def bI (b : Bool) : Int := if b then 1 else 0
def bN (b : Bool) : Nat := if b then 1 else 0
theorem bI_eq (b : Bool) : bI b = (bN b : Int) := by cases b <;> rfl
theorem shr_and (a j : Nat) : (a / 2 ^ j) &&& 1 = bN (a.testBit j) := by
  rw [Nat.testBit, Nat.shiftRight_eq_div_pow, Nat.and_comm 1, Nat.and_one_is_mod]
  rcases Nat.mod_two_eq_zero_or_one (a / 2 ^ j) with h | h <;> simp [bN, h]
/-- The bits of a mask. -/
def mk (n : Nat) : Nat := 2 ^ 32 - 2 ^ (32 - n)
theorem mk_bit {n : Nat} (hn : n ≤ 32) (j : Nat) : (mk n).testBit j = (decide (32 - n ≤ j) && decide (j < 32)) := by
  have e : mk n = (2 ^ n - 1) <<< (32 - n) := by
    rw [Nat.shiftLeft_eq, Nat.mul_comm, Nat.mul_sub, ← Nat.pow_add, Nat.sub_add_cancel hn, Nat.mul_one]; rfl
  rw [e, Nat.testBit_shiftLeft, Nat.testBit_two_pow_sub_one]
  by_cases h : 32 - n ≤ j
  · simp only [ge_iff_le, h, decide_true, Bool.true_and]
    by_cases h2 : j < 32
    · simp [h2]; omega
    · simp [h2]; omega
  · simp [h]
/-- Is a prefix? -/
def okP (a : Nat) (n : Nat) : Bool := decide (n ≤ 32) && decide (a &&& mk n = a)
theorem okP_iff {a n : Nat} (ha : a < 2 ^ 32) : okP a n = true ↔ n ≤ 32 ∧ ∀ k, n ≤ k → k < 32 → bt a k = false := by
  simp only [okP, Bool.and_eq_true, decide_eq_true_eq]
  refine and_congr_right fun hn => ⟨fun h k h1 h2 => ?_, fun h => ?_⟩
  · have := congrArg (fun x => x.testBit (31 - k)) h
    simp only [Nat.testBit_and, mk_bit hn] at this
    rw [show decide (32 - n ≤ 31 - k) = false by simp; omega] at this
    simpa [bt] using this.symm
  · apply Nat.eq_of_testBit_eq
    intro j
    rw [Nat.testBit_and, mk_bit hn]
    by_cases h1 : j < 32
    · by_cases h2 : 32 - n ≤ j
      · simp [h1, h2]
      · have := h (31 - j) (by omega) (by omega)
        rw [bt, show 31 - (31 - j) = j by omega] at this
        simp [this]
    · have : a.testBit j = false := Nat.testBit_lt_two_pow (Nat.lt_of_lt_of_le ha (Nat.pow_le_pow_right (by omega) (by omega)))
      simp [this]
/-- Does a prefix hold an address? -/
def holdsN (p n a : Nat) : Bool := okP p n && decide (∀ k, k < n → bt p k = bt a k)
/-- The first bits of an address. -/
def pth (a n : Nat) : List Bool := (List.range n).map (bt a)
theorem pth_len (a n : Nat) : (pth a n).length = n := by simp [pth]
theorem pth_succ (a n : Nat) : pth a (n + 1) = pth a n ++ [bt a n] := by simp [pth, List.range_succ]
theorem pth_zero (a : Nat) : pth a 0 = [] := rfl
theorem pth_get (a n k : Nat) (h : k < n) : (pth a n)[k]? = some (bt a k) := by simp [pth, h]
theorem pth_eq {a b n m : Nat} : pth a n = pth b m ↔ n = m ∧ ∀ k, k < n → bt a k = bt b k := by
  constructor
  · intro h
    have hl : n = m := by have := congrArg List.length h; simpa [pth_len] using this
    subst hl
    refine ⟨rfl, fun k hk => ?_⟩
    have := congrArg (fun l => l[k]?) h
    simpa [pth_get _ _ _ hk] using this
  · rintro ⟨rfl, h⟩
    exact List.map_congr_left fun k hk => h k (List.mem_range.1 hk)
theorem pth_take (a n k : Nat) (h : k ≤ n) : (pth a n).take k = pth a k := by
  simp [pth, ← List.map_take, List.take_range, Nat.min_eq_left h]
theorem pth_prefix (a n : Nat) (p : List Bool) : p <+: pth a n ↔ p.length ≤ n ∧ p = pth a p.length := by
  constructor
  · intro h
    have hl : p.length ≤ n := by have := h.length_le; simpa [pth_len] using this
    refine ⟨hl, ?_⟩
    rw [← pth_take a n _ hl]
    exact List.prefix_iff_eq_take.1 h
  · rintro ⟨h1, h2⟩
    rw [h2, ← pth_take a n _ h1]
    exact List.take_prefix _ _
/-- Right prefixes of the same bits are the same. -/
theorem pth_inj {a b n : Nat} (ha : a < 2 ^ 32) (hb : b < 2 ^ 32) (h1 : okP a n = true) (h2 : okP b n = true) (h : pth a n = pth b n) : a = b := by
  have h1 := (okP_iff ha).1 h1
  have h2 := (okP_iff hb).1 h2
  have h3 := (pth_eq.1 h).2
  apply Nat.eq_of_testBit_eq
  intro j
  by_cases hj : j < 32
  · have e : ∀ x : Nat, x.testBit j = bt x (31 - j) := fun x => by rw [bt, show 31 - (31 - j) = j by omega]
    rw [e, e]
    by_cases hk : 31 - j < n
    · exact h3 _ hk
    · rw [h1.2 _ (by omega) (by omega), h2.2 _ (by omega) (by omega)]
  · have e : ∀ x : Nat, x < 2 ^ 32 → x.testBit j = false := fun x hx => Nat.testBit_lt_two_pow (Nat.lt_of_lt_of_le hx (Nat.pow_le_pow_right (by omega) (by omega)))
    rw [e _ ha, e _ hb]
end Go.Proofs.Ytfpbcdlfcaglgaa.P
