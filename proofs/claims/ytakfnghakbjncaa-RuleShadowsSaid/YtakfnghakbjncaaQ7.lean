/- Plain facts on rules: which covers which. -/
import Derived.Test.YtakfnghakbjncaaQ6
import Derived.Test.YtakfnghakbjncaaPx24
namespace Go.Proofs.Ytakfnghakbjncaa.P
open Go.RowKit Go.Proofs.YtakfnghakbjncaaW.PrintWords Go.Proofs.YtakfnghakbjncaaW.PrintLast Go.Proofs.YtakfnghakbjncaaW.PrintMore
namespace D15
/-- Does a prefix (p, b) lie within (q, c)? -/
def wiB (p b q c : Int) : Bool := arB p b && (decide (c ≤ b) && hoB q c p)
theorem wi_some (p b q c : Int) : addr_Within.f p b q c = some (wiB p b q c) := by
  unfold addr_Within.f wiB
  simp only [ar_some, ho_some, Option.bind_some]
  cases arB p b with
  | false => simp
  | true =>
    by_cases h : b ≥ c
    · have h' : c ≤ b := h
      simp [h']
    · have h' : ¬ c ≤ b := h
      simp [h']
theorem ho_ar (p b c : Int) (h : hoB p b c = true) : arB p b = true := by
  have := ho_some p b c
  unfold addr_Holds.f at this
  rw [ar_some, h] at this
  simp only [Option.bind_some] at this
  cases hb : arB p b with
  | true => rfl
  | false => rw [hb] at this; simp at this
theorem r03_within (p b q c : Int) (hp : 0 ≤ p ∧ p < 2 ^ 32) (hq : 0 ≤ q ∧ q < 2 ^ 32) (k : Nat) (hk : 40 ≤ k) : gueriteref03_Within.f k p b q c = some (wiB p b q c) := by
  unfold gueriteref03_Within.f wiB
  rw [rright p b hp k hk, rright q c hq k hk, rholds q c p hq hp k hk]
  simp only [Option.bind_some]
  cases arB p b with
  | false => simp
  | true =>
    cases hq : arB q c with
    | true =>
      by_cases h : b ≥ c
      · have h' : c ≤ b := h
        simp [h']
      · have h' : ¬ c ≤ b := h
        simp [h']
    | false =>
      have : hoB q c p = false := by
        cases hh : hoB q c p with
        | false => rfl
        | true => rw [ho_ar q c p hh] at hq; cases hq
      simp [this]

/-- Is x as wide as y? -/
def rcB (x y : S42) : Bool := rrB x && (rrB y && (rwB x.f0 y.f0 && (rwB x.f1 y.f1 && (rwB x.f4 y.f4 && (wiB y.f2.f0 y.f2.f1 x.f2.f0 x.f2.f1 && (wiB y.f3.f0 y.f3.f1 x.f3.f0 x.f3.f1 && (decide (x.f5 ≤ y.f5) && (decide (y.f6 ≤ x.f6) && (decide (x.f7 ≤ y.f7) && decide (y.f8 ≤ x.f8))))))))))
theorem rc_some (x y : S42) (k : Nat) (hk : 30 ≤ k) : rule_Covers.f k x.f0 x.f1 x.f2.f0 x.f2.f1 x.f3.f0 x.f3.f1 x.f4 x.f5 x.f6 x.f7 x.f8 x.f9 y.f0 y.f1 y.f2.f0 y.f2.f1 y.f3.f0 y.f3.f1 y.f4 y.f5 y.f6 y.f7 y.f8 y.f9 = some (rcB x y) := by
  unfold rule_Covers.f
  have hR : rule_Right.f [(⟨x.f0, x.f1, (⟨x.f2.f0, x.f2.f1⟩ : S29), (⟨x.f3.f0, x.f3.f1⟩ : S29), x.f4, x.f5, x.f6, x.f7, x.f8, x.f9⟩ : S42), (⟨y.f0, y.f1, (⟨y.f2.f0, y.f2.f1⟩ : S29), (⟨y.f3.f0, y.f3.f1⟩ : S29), y.f4, y.f5, y.f6, y.f7, y.f8, y.f9⟩ : S42)] = some (rrB x && rrB y) := by
    show rule_Right.f [x, y] = _
    unfold rule_Right.f
    rw [if_pos (by simp)]
    simp
  rw [hR]
  simp only [rw_some, wi_some, Option.bind_some]
  rw [all_some _ (by simp) k hk]
  simp only [Option.bind_some, rcB, List.all_cons, List.all_nil, id, Bool.and_true, Bool.and_assoc]

theorem r15_covers (x y : S42) (hx : InR x) (hy : InR y) (k : Nat) (hk : 45 ≤ k) : gueriteref15_Covers.f k x.f0 x.f1 x.f2.f0 x.f2.f1 x.f3.f0 x.f3.f1 x.f4 x.f5 x.f6 x.f7 x.f8 x.f9 y.f0 y.f1 y.f2.f0 y.f2.f1 y.f3.f0 y.f3.f1 y.f4 y.f5 y.f6 y.f7 y.f8 y.f9 = some (rcB x y) := by
  obtain ⟨k, rfl⟩ : ∃ m, k = m + 1 := ⟨k - 1, by omega⟩
  have ww : ∀ a b, gueriteref15_wide.f a b = some (rwB a b) := by
    intro a b
    unfold gueriteref15_wide.f rwB
    by_cases h : a = -1 <;> simp [h]
  have j : ∀ b : Bool, gueriteref15_Covers.j0 (k + 1) b x.f0 x.f1 x.f2.f0 x.f2.f1 x.f3.f0 x.f3.f1 x.f4 x.f5 x.f6 x.f7 x.f8 x.f9 y.f0 y.f1 y.f2.f0 y.f2.f1 y.f3.f0 y.f3.f1 y.f4 y.f5 y.f6 y.f7 y.f8 y.f9 = some (!b && (wiB y.f2.f0 y.f2.f1 x.f2.f0 x.f2.f1 && (wiB y.f3.f0 y.f3.f1 x.f3.f0 x.f3.f1 && (decide (x.f5 ≤ y.f5) && (decide (y.f6 ≤ x.f6) && (decide (x.f7 ≤ y.f7) && decide (y.f8 ≤ x.f8))))))) := by
    intro b
    simp only [gueriteref15_Covers.j0]
    rw [r03_within _ _ _ _ hy.1 hx.1 k (by omega), r03_within _ _ _ _ hy.2 hx.2 k (by omega)]
    simp only [Option.bind_some]
    cases b with
    | true => simp
    | false =>
      cases wiB y.f2.f0 y.f2.f1 x.f2.f0 x.f2.f1 with
      | false => simp
      | true =>
        cases wiB y.f3.f0 y.f3.f1 x.f3.f0 x.f3.f1 with
        | false => simp
        | true =>
          by_cases c1 : x.f5 ≤ y.f5
          · by_cases c2 : x.f6 ≥ y.f6
            · have c2' : y.f6 ≤ x.f6 := c2
              by_cases c3 : x.f7 ≤ y.f7
              · simp [c1, c2', c3]
              · simp [c1, c2', c3]
            · have c2' : ¬ y.f6 ≤ x.f6 := c2
              simp [c1, c2']
          · simp [c1]
  unfold gueriteref15_Covers.f
  rw [r15_right x hx (k + 1) (by omega), r15_right y hy (k + 1) (by omega)]
  simp only [Option.bind_some, ww, j]
  unfold rcB
  cases rrB x <;> cases rrB y <;> cases rwB x.f0 y.f0 <;> cases rwB x.f1 y.f1 <;> simp

theorem rw_trans (a b c : Int) (h : rwB a b = true) (k : rwB b c = true) : rwB a c = true := by
  unfold rwB at *
  simp only [Bool.or_eq_true, beq_iff_eq] at *
  omega
theorem ho_within (p b q c a : Int) (hp : 0 ≤ p ∧ p < 2 ^ 32) (hq : 0 ≤ q ∧ q < 2 ^ 32) (ha : 0 ≤ a ∧ a < 2 ^ 32) (h : wiB p b q c = true) (k : hoB p b a = true) : hoB q c a = true := by
  unfold wiB at h
  simp only [Bool.and_eq_true, decide_eq_true_eq] at h
  obtain ⟨h1, h2, h3⟩ := h
  obtain ⟨p, rfl⟩ := Int.eq_ofNat_of_zero_le hp.1
  obtain ⟨q, rfl⟩ := Int.eq_ofNat_of_zero_le hq.1
  obtain ⟨a, rfl⟩ := Int.eq_ofNat_of_zero_le ha.1
  have k' : ahB p b a = true := k
  have h3' : ahB q c p = true := h3
  show ahB q c a = true
  rw [ahB_eq q c p (by omega) (by omega), Bool.and_eq_true, decide_eq_true_eq] at h3'
  rw [ahB_eq p b a (by omega) (by omega), Bool.and_eq_true, decide_eq_true_eq] at k'
  rw [ahB_eq q c a (by omega) (by omega), Bool.and_eq_true, decide_eq_true_eq]
  refine ⟨h3'.1, ?_⟩
  rw [arB_eq p b (by omega), decide_eq_true_eq] at h1
  have h4 := h3'.1
  rw [arB_eq q c (by omega), decide_eq_true_eq] at h4
  obtain ⟨b0, b1, _⟩ := h1
  obtain ⟨c0, c1, _⟩ := h4
  obtain ⟨n, rfl⟩ := Int.eq_ofNat_of_zero_le b0
  obtain ⟨m, rfl⟩ := Int.eq_ofNat_of_zero_le c0
  simp only [Int.toNat_natCast] at *
  have e : ∀ x : Nat, x / 2 ^ (32 - m) = x / 2 ^ (32 - n) / 2 ^ (n - m) := fun x => by
    rw [Nat.div_div_eq_div_mul, ← Nat.pow_add, show 32 - n + (n - m) = 32 - m from by omega]
  rw [h3'.2, e p, k'.2, ← e a]

theorem covers_sound (x y : S42) (a0 a1 a2 a3 a4 a5 a6 : Int) (hx : InR x) (hy : InR y) (h2 : 0 ≤ a2 ∧ a2 < 2 ^ 32) (h3 : 0 ≤ a3 ∧ a3 < 2 ^ 32) (h : rcB x y = true) (k : rmB y a0 a1 a2 a3 a4 a5 a6 = true) : rmB x a0 a1 a2 a3 a4 a5 a6 = true := by
  unfold rcB at h
  unfold rmB at k ⊢
  simp only [Bool.and_eq_true, decide_eq_true_eq] at h k ⊢
  obtain ⟨r1, r2, w0, w1, w4, i2, i3, p1, p2, p3, p4⟩ := h
  obtain ⟨s1, v0, v1, v4, j2, j3, q⟩ := k
  refine ⟨r1, rw_trans _ _ _ w0 v0, rw_trans _ _ _ w1 v1, rw_trans _ _ _ w4 v4, ho_within _ _ _ _ _ hy.1 hx.1 h2 i2 j2, ho_within _ _ _ _ _ hy.2 hx.2 h3 i3 j3, ?_⟩
  unfold poB at q ⊢
  simp only [Bool.or_eq_true, Bool.and_eq_true, decide_eq_true_eq] at q ⊢
  rcases q with q | q
  · exact .inl q
  · exact .inr ⟨by omega, by omega, by omega, by omega⟩

end D15
end Go.Proofs.Ytakfnghakbjncaa.P
