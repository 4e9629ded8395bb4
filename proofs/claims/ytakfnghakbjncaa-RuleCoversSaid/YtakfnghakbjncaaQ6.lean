/- Plain facts on rules: which are right, by the document's text; places. -/
import Derived.Test.YtakfnghakbjncaaQ1
import Derived.Test.YtakfnghakbjncaaG4
import Derived.Test.YtakfnghakbjncaaPx16
import Derived.Test.YtakfnghakbjncaaPx18
namespace Go.Proofs.Ytakfnghakbjncaa.P
open Go.RowKit Go.Proofs.YtakfnghakbjncaaW.PrintWords Go.Proofs.YtakfnghakbjncaaW.PrintLast Go.Proofs.YtakfnghakbjncaaW.PrintMore
namespace D15

theorem ho_ah (p b c : Int) : hoB p b c = ahB p b c := rfl
/-- The addresses of a rule's prefixes are of 32 bits. -/
def InR (x : S42) : Prop := (0 ≤ x.f2.f0 ∧ x.f2.f0 < 2 ^ 32) ∧ (0 ≤ x.f3.f0 ∧ x.f3.f0 < 2 ^ 32)
theorem rholds (p b c : Int) (hp : 0 ≤ p ∧ p < 2 ^ 32) (hc : 0 ≤ c ∧ c < 2 ^ 32) (k : Nat) (hk : 40 ≤ k) : gueriteref03_Holds.f k p b c = some (hoB p b c) := by
  obtain ⟨p, rfl⟩ := Int.eq_ofNat_of_zero_le hp.1
  obtain ⟨c, rfl⟩ := Int.eq_ofNat_of_zero_le hc.1
  exact ref_holds p c b (by omega) (by omega) k hk
theorem rright (p b : Int) (hp : 0 ≤ p ∧ p < 2 ^ 32) (k : Nat) (hk : 40 ≤ k) : gueriteref03_Right.f k p b = some (arB p b) := by
  obtain ⟨p, rfl⟩ := Int.eq_ofNat_of_zero_le hp.1
  exact ref_right p b (by omega) k hk
theorem rspan (a b : Int) : gueriteref15_span.f a b = some (spB a b) := by
  have := sp_some a b
  unfold rule_span.f at this
  unfold gueriteref15_span.f
  simpa [GE.ge] using this

theorem r15_right (x : S42) (hx : InR x) (k : Nat) (hk : 41 ≤ k) : gueriteref15_Right.f k x.f0 x.f1 x.f2.f0 x.f2.f1 x.f3.f0 x.f3.f1 x.f4 x.f5 x.f6 x.f7 x.f8 x.f9 = some (rrB x) := by
  obtain ⟨k, rfl⟩ : ∃ m, k = m + 1 := ⟨k - 1, by omega⟩
  have j : ∀ b : Bool, gueriteref15_Right.j0 (k + 1) b x.f0 x.f1 x.f2.f0 x.f2.f1 x.f3.f0 x.f3.f1 x.f4 x.f5 x.f6 x.f7 x.f8 x.f9 = some (!b && (arB x.f2.f0 x.f2.f1 && (arB x.f3.f0 x.f3.f1 && (spB x.f5 x.f6 && spB x.f7 x.f8)))) := by
    intro b
    simp only [gueriteref15_Right.j0]
    rw [rright _ _ hx.1 k (by omega), rright _ _ hx.2 k (by omega), rspan, rspan]
    cases b <;> cases arB x.f2.f0 x.f2.f1 <;> cases arB x.f3.f0 x.f3.f1 <;> cases spB x.f5 x.f6 <;> simp
  unfold gueriteref15_Right.f
  simp only [j]
  unfold rrB
  have r1 : ∀ a m : Int, rinB a m = (!decide (a < -1) && !decide (a > m)) := by
    intro a m
    unfold rinB
    rw [Bool.eq_iff_iff]
    simp
  rw [r1, r1, r1]
  by_cases c1 : x.f0 < -1
  · simp [c1]
  · by_cases c2 : x.f0 > 7
    · simp [c1, c2]
    · by_cases c3 : x.f1 < -1
      · simp [c1, c2, c3]
      · by_cases c4 : x.f1 > 7
        · simp [c1, c2, c3, c4]
        · by_cases c5 : x.f4 < -1
          · simp [c1, c2, c3, c4, c5]
          · simp [c1, c2, c3, c4, c5, Bool.and_assoc]

theorem rr_ge (x : S42) (h : rrB x = true) : -1 ≤ x.f0 ∧ -1 ≤ x.f1 ∧ -1 ≤ x.f4 := by
  unfold rrB rinB at h
  simp only [Bool.and_eq_true, decide_eq_true_eq] at h
  omega
theorem rw_ge (a b : Int) (h : -1 ≤ a) : rwB a b = (decide (a < 0) || a == b) := by
  unfold rwB
  rw [Bool.eq_iff_iff]
  simp only [Bool.or_eq_true, beq_iff_eq, decide_eq_true_eq]
  omega

theorem rd42_at (l : List S42) (j : Nat) (x : S42) (h : l[j]? = some x) : rd_T42 l (j : Int) = x := by
  unfold rd_T42
  simp [List.getD, h]
theorem ws (x : Int) (h0 : -4294967296 ≤ x) (h1 : x ≤ 4294967296) : wrap64 x = x := by unfold wrap64; omega

theorem awake15 : gueritelaw15_awake.f = some true := by kernel_rfl

theorem idx_hit {α : Type} (p : α → Bool) (l : List α) (i : Int) (hi : 0 ≤ i) : idxFrom p l i = -1 ∨ ∃ (j : Nat) (x : α), idxFrom p l i = i + j ∧ l[j]? = some x := by
  induction l generalizing i with
  | nil => exact .inl rfl
  | cons x l ih =>
    have e : idxFrom p (x :: l) i = if p x = true then i else idxFrom p l (i + 1) := rfl
    rw [e]
    by_cases h : p x = true
    · rw [if_pos h]; exact .inr ⟨0, x, by simp, rfl⟩
    · rw [if_neg h]
      rcases ih (i + 1) (by omega) with h | ⟨j, y, h1, h2⟩
      · exact .inl h
      · exact .inr ⟨j + 1, y, by rw [h1]; simp; omega, by simpa using h2⟩

end D15
end Go.Proofs.Ytakfnghakbjncaa.P
