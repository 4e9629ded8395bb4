/- Plain law of rules: RuleBehind, over lists. -/
import Derived.Test.YtakfnghakbjncaaG4
import Derived.Test.YtakfnghakbjncaaPx17
namespace Go.Proofs.Ytakfnghakbjncaa.P
open Go.RowKit Go.Proofs.YtakfnghakbjncaaW.PrintWords Go.Proofs.YtakfnghakbjncaaW.PrintLast Go.Proofs.YtakfnghakbjncaaW.PrintMore

theorem idx_range {α : Type} (p : α → Bool) (l : List α) (i : Int) (hi : 0 ≤ i) : idxFrom p l i = -1 ∨ (i ≤ idxFrom p l i ∧ idxFrom p l i < i + l.length) := by
  induction l generalizing i with
  | nil => exact .inl rfl
  | cons x l ih =>
    simp only [idxFrom, List.length_cons]
    split
    · exact .inr ⟨Int.le_refl _, by omega⟩
    · rcases ih (i + 1) (by omega) with h | ⟨h1, h2⟩
      · exact .inl h
      · exact .inr ⟨by omega, by omega⟩
theorem idx_cons {α : Type} (p : α → Bool) (x : α) (l : List α) (i : Int) : idxFrom p (x :: l) i = if p x = true then i else idxFrom p l (i + 1) := rfl
theorem idx_shift {α : Type} (p : α → Bool) (l : List α) (i : Int) (hi : 0 ≤ i) : idxFrom p l (i + 1) = if 0 ≤ idxFrom p l i then idxFrom p l i + 1 else -1 := by
  induction l generalizing i with
  | nil => rfl
  | cons x l ih =>
    rw [idx_cons, idx_cons]
    by_cases hx : p x = true
    · rw [if_pos hx, if_pos hx, if_pos hi]
    · rw [if_neg hx, if_neg hx]
      exact ih (i + 1) (by omega)
theorem idx_append {α : Type} (p : α → Bool) (l : List α) (r : α) (i : Int) (hi : 0 ≤ i) : idxFrom p (l ++ [r]) i = if 0 ≤ idxFrom p l i then idxFrom p l i else if p r = true then i + l.length else -1 := by
  induction l generalizing i with
  | nil =>
    rw [List.nil_append, idx_cons]
    have e : ∀ j, idxFrom p [] j = -1 := fun _ => rfl
    rw [e, e, if_neg (show ¬ (0 : Int) ≤ -1 by omega)]
    simp
  | cons x l ih =>
    rw [List.cons_append, idx_cons, idx_cons]
    by_cases hx : p x = true
    · rw [if_pos hx, if_pos hx, if_pos hi]
    · rw [if_neg hx, if_neg hx, ih (i + 1) (by omega)]
      have e : i + 1 + (l.length : Int) = i + ((x :: l).length : Int) := by simp only [List.length_cons]; omega
      rw [e]

theorem awake15 : gueritelaw15_awake.f = some true := by kernel_rfl

theorem behind_pure (l : List S42) (x : S42) (a0 a1 a2 a3 a4 a5 a6 : Int) : ∃ k, gueritelaw15_RuleBehind.f k l x.f0 x.f1 x.f2.f0 x.f2.f1 x.f3.f0 x.f3.f1 x.f4 x.f5 x.f6 x.f7 x.f8 x.f9 a0 a1 a2 a3 a4 a5 a6 = some true := by
  refine ⟨31, ?_⟩
  unfold gueritelaw15_RuleBehind.f
  by_cases h : (l.length : Int) > 60
  · rw [if_pos h, awake15]; rfl
  · rw [if_neg h, if_pos (by simp; omega)]
    simp only [Option.bind_some, List.nil_append]
    rw [if_pos (by simp; omega), if_pos (by simp), if_pos (by simp; omega)]
    unfold rule_First.f
    rw [if_pos (by omega), if_pos (by simp; omega), if_pos (by simp; omega)]
    have hm := rm_some x a0 a1 a2 a3 a4 a5 a6 31 (by decide)
    rw [hm]
    simp only [Option.bind_some]
    have j0 : ∀ b, gueritelaw15_RuleBehind.j0 31 b = some (!b) := by
      intro b
      simp only [gueritelaw15_RuleBehind.j0, awake15]
      cases b <;> simp
    simp only [j0]
    rw [idx_append _ _ _ _ (Int.le_refl 0)]
    have e : idxFrom (fun x => rmB x a0 a1 a2 a3 a4 a5 a6) (x :: l) 0 = if rmB x a0 a1 a2 a3 a4 a5 a6 = true then 0 else idxFrom (fun x => rmB x a0 a1 a2 a3 a4 a5 a6) l 1 := rfl
    have e1 := idx_shift (fun x => rmB x a0 a1 a2 a3 a4 a5 a6) l 0 (Int.le_refl 0)
    rw [show (0 : Int) + 1 = 1 from rfl] at e1
    have hr := idx_range (fun x => rmB x a0 a1 a2 a3 a4 a5 a6) l 0 (Int.le_refl 0)
    have e' : ([x] ++ l) = x :: l := rfl
    show (if idxFrom (fun x => rmB x a0 a1 a2 a3 a4 a5 a6) l 0 ≥ 0 then _ else _) = _
    simp only [e', e, e1]
    generalize idxFrom (fun x => rmB x a0 a1 a2 a3 a4 a5 a6) l 0 = at_ at hr ⊢
    generalize rmB x a0 a1 a2 a3 a4 a5 a6 = m
    have hw : wrap64 (at_ + 1) = at_ + 1 := by unfold wrap64; omega
    rw [hw]
    have hl : (0 : Int) ≤ l.length := by omega
    rcases hr with rfl | ⟨h1, h2⟩
    · cases m <;> simp
    · have g1 : at_ ≥ 0 := by omega
      have g2 : ¬ at_ < 0 := by omega
      cases m <;> simp [g1, g2]
end Go.Proofs.Ytakfnghakbjncaa.P
