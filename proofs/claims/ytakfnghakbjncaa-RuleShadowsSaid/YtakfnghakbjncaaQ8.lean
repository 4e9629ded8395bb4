/- Plain law of rules: RuleShadows. -/
import Derived.Test.YtakfnghakbjncaaG5
import Derived.Test.YtakfnghakbjncaaPx26
namespace Go.Proofs.Ytakfnghakbjncaa.P
open Go.RowKit Go.Proofs.YtakfnghakbjncaaW.PrintWords Go.Proofs.YtakfnghakbjncaaW.PrintLast Go.Proofs.YtakfnghakbjncaaW.PrintMore
namespace D15
/-- Does one of the first j cover rule i? -/
def cov (l : List S42) (i j : Nat) : Bool := (l.take j).any fun r => rcB r (rd_T42 l (i : Int))

theorem shadows_inner (l : List S42) (hl : ∀ x ∈ l, InR x) (hn : l.length ≤ 40) (s : List Int) (at_ kk : Int) (i : Nat) (hi : i < l.length) (e : Nat) :
    ∀ (k j : Nat), j + e = i → 46 ≤ k → gueritelaw15_RuleShadows.l1 (k + e) l s at_ kk i (cov l i j) j = gueritelaw15_RuleShadows.l1 k l s at_ kk i (cov l i i) i := by
  induction e with
  | zero =>
    intro k j hj hk
    obtain rfl : j = i := by omega
    rfl
  | succ e ih =>
    intro k j hj hk
    have hjl : j < l.length := by omega
    obtain ⟨x, hx⟩ : ∃ x, l[j]? = some x := ⟨l[j]'hjl, List.getElem?_eq_getElem _⟩
    obtain ⟨y, hy⟩ : ∃ y, l[i]? = some y := ⟨l[i]'hi, List.getElem?_eq_getElem _⟩
    have hc : cov l i (j + 1) = (cov l i j || rcB x y) := by
      unfold cov
      rw [List.take_add_one, hx, List.any_append, rd42_at l i y hy]
      simp
    have ih' := ih k (j + 1) (by omega) hk
    rw [← ih', show k + (e + 1) = (k + e) + 1 from by omega]
    have w1 : wrap64 ((j : Int) + 1) = ((j + 1 : Nat) : Int) := by rw [ws _ (by omega) (by omega)]; omega
    show gueritelaw15_RuleShadows.l1 ((k + e) + 1) l s at_ kk i (cov l i j) j = _
    rw [hc]
    cases hcov : cov l i j with
    | true =>
      rw [gueritelaw15_RuleShadows.l1]
      rw [if_pos (by omega), if_pos rfl, w1]
      rfl
    | false =>
      rw [gueritelaw15_RuleShadows.l1]
      rw [if_pos (by omega), if_neg (by simp), if_pos (by omega), if_pos (by omega), if_pos (by omega), if_pos (by omega), rd42_at l j x hx, rd42_at l i y hy,
        r15_covers x y (hl x (List.mem_of_getElem? hx)) (hl y (List.mem_of_getElem? hy)) (k + e) (by omega), w1]
      rfl

theorem shTo_prefix (l : List S42) (i e : Nat) : ∃ t, shTo l (i + e) = shTo l i ++ t := by
  induction e with
  | zero => exact ⟨[], by simp⟩
  | succ e ih =>
    obtain ⟨t, ht⟩ := ih
    rw [← Nat.add_assoc, shTo_succ, ht]
    split
    · exact ⟨t ++ [((i + e : Nat) : Int)], by rw [List.append_assoc]⟩
    · exact ⟨t, rfl⟩

theorem idx_first {α : Type} (p : α → Bool) (l : List α) (i : Int) (hi : 0 ≤ i) (j : Nat) (h : idxFrom p l i = i + j) : (∃ x, l[j]? = some x ∧ p x = true) ∧ ∀ m, m < j → ∀ y, l[m]? = some y → p y = false := by
  induction l generalizing i j with
  | nil => have e : idxFrom p [] i = -1 := rfl; rw [e] at h; omega
  | cons x l ih =>
    have e : idxFrom p (x :: l) i = if p x = true then i else idxFrom p l (i + 1) := rfl
    rw [e] at h
    by_cases hx : p x = true
    · rw [if_pos hx] at h
      have hj : j = 0 := by omega
      subst hj
      exact ⟨⟨x, rfl, hx⟩, fun m hm => by omega⟩
    · rw [if_neg hx] at h
      cases j with
      | zero =>
        rcases idx_hit p l (i + 1) (by omega) with h1 | ⟨j, y, h1, _⟩
        · rw [h1] at h; omega
        · rw [h1] at h; omega
      | succ j =>
        obtain ⟨⟨y, h1, h2⟩, h3⟩ := ih (i + 1) (by omega) j (by rw [h]; omega)
        refine ⟨⟨y, by simpa using h1, h2⟩, fun m hm z hz => ?_⟩
        cases m with
        | zero => simp at hz; subst hz; simpa using hx
        | succ m => exact h3 m (by omega) z (by simpa using hz)

theorem covered_not_first (l : List S42) (a0 a1 a2 a3 a4 a5 a6 : Int) (hl : ∀ x ∈ l, InR x) (h2 : 0 ≤ a2 ∧ a2 < 2 ^ 32) (h3 : 0 ≤ a3 ∧ a3 < 2 ^ 32) (i : Nat) (hc : cov l i i = true) :
    (idxFrom (fun x => rmB x a0 a1 a2 a3 a4 a5 a6) l 0 == (i : Int)) = false := by
  rw [beq_eq_false_iff_ne]
  intro h
  obtain ⟨⟨y, hy, hm⟩, hf⟩ := idx_first (fun x => rmB x a0 a1 a2 a3 a4 a5 a6) l 0 (Int.le_refl 0) i (by rw [h]; omega)
  unfold cov at hc
  rw [List.any_eq_true] at hc
  obtain ⟨x, hx, hr⟩ := hc
  rw [rd42_at l i y hy] at hr
  obtain ⟨m, hm'⟩ := List.getElem?_of_mem hx
  rw [List.getElem?_take] at hm'
  split at hm'
  · rename_i hmi
    have := hf m hmi x hm'
    have hs := covers_sound x y a0 a1 a2 a3 a4 a5 a6 (hl x (List.mem_of_getElem? hm')) (hl y (List.mem_of_getElem? hy)) h2 h3 hr hm
    rw [hs] at this
    cases this
  · cases hm'

theorem shadows_loop (l : List S42) (a0 a1 a2 a3 a4 a5 a6 : Int) (hl : ∀ x ∈ l, InR x) (hn : l.length ≤ 40) (h2 : 0 ≤ a2 ∧ a2 < 2 ^ 32) (h3 : 0 ≤ a3 ∧ a3 < 2 ^ 32) (d : Nat) :
    ∀ (k i : Nat), i + d = l.length → 100 * d + 100 < k → gueritelaw15_RuleShadows.l0 k l (shTo l l.length) (idxFrom (fun x => rmB x a0 a1 a2 a3 a4 a5 a6) l 0) ((shTo l i).length : Int) i = some true := by
  induction d with
  | zero =>
    intro k i hi hk
    obtain ⟨k, rfl⟩ : ∃ m, k = m + 1 := ⟨k - 1, by omega⟩
    obtain rfl : i = l.length := by omega
    rw [gueritelaw15_RuleShadows.l0, if_neg (by omega), if_pos rfl, awake15]
    rfl
  | succ d ih =>
    intro k i hi hk
    have hil : i < l.length := by omega
    obtain ⟨k, rfl⟩ : ∃ m, k = m + (3 + i) := ⟨k - (3 + i), by omega⟩
    rw [show k + (3 + i) = (k + 2 + i) + 1 from by omega, gueritelaw15_RuleShadows.l0, if_pos (by omega)]
    have hin := shadows_inner l hl hn (shTo l l.length) (idxFrom (fun x => rmB x a0 a1 a2 a3 a4 a5 a6) l 0) ((shTo l i).length : Int) i hil i (k + 2) 0 (by omega) (by omega)
    have hc0 : cov l i 0 = false := by unfold cov; simp
    rw [hc0, show (((0 : Nat) : Int)) = 0 from rfl] at hin
    rw [hin, show k + 2 = (k + 1) + 1 from rfl, gueritelaw15_RuleShadows.l1, if_neg (by omega)]
    have w1 : wrap64 ((i : Int) + 1) = ((i + 1 : Nat) : Int) := by rw [ws _ (by omega) (by omega)]; omega
    have hsl := shTo_le l i
    have w2 : wrap64 (((shTo l i).length : Int) + 1) = (((shTo l i).length + 1 : Nat) : Int) := by rw [ws _ (by omega) (by omega)]; omega
    have hsc := shTo_succ l i
    cases hcov : cov l i i with
    | false =>
      have hcov' : ((l.take i).any fun r => rcB r (rd_T42 l (i : Int))) = false := hcov
      rw [hcov', if_neg (by simp)] at hsc
      rw [if_neg (by simp), w1, ← hsc]
      exact ih (k + 1) (i + 1) (by omega) (by omega)
    | true =>
      have hcov' : ((l.take i).any fun r => rcB r (rd_T42 l (i : Int))) = true := hcov
      rw [hcov', if_pos rfl] at hsc
      obtain ⟨t, ht⟩ := shTo_prefix l (i + 1) d
      rw [show i + 1 + d = l.length from by omega] at ht
      have hlen : (shTo l i).length < (shTo l l.length).length := by rw [ht, hsc]; simp
      have hrd : rd (shTo l l.length) ((shTo l i).length : Int) = (i : Int) := by
        unfold rd
        rw [ht, hsc]
        simp [List.getD]
      rw [if_pos rfl, if_neg (by omega), if_pos (by omega), if_pos (by omega), hrd, if_pos rfl, covered_not_first l a0 a1 a2 a3 a4 a5 a6 hl h2 h3 i hcov, gueritelaw15_RuleShadows.j2, if_neg (by simp), w1, w2]
      have := ih k (i + 1) (by omega) (by omega)
      rw [hsc, List.length_append] at this
      exact this

theorem shadows_pure (l : List S42) (a0 a1 a2 a3 a4 a5 a6 : Int) (hl : ∀ x ∈ l, InR x) (h2 : 0 ≤ a2 ∧ a2 < 2 ^ 32) (h3 : 0 ≤ a3 ∧ a3 < 2 ^ 32) : ∃ k, gueritelaw15_RuleShadows.f k l a0 a1 a2 a3 a4 a5 a6 = some true := by
  refine ⟨100 * l.length + 101, ?_⟩
  unfold gueritelaw15_RuleShadows.f
  by_cases h : (l.length : Int) > 40
  · rw [if_pos h, awake15]; rfl
  · rw [if_neg h]
    unfold rule_Shadowed.f rule_First.f
    rw [if_pos (by omega), if_pos (by omega)]
    simp only [Option.bind_some]
    have := shadows_loop l a0 a1 a2 a3 a4 a5 a6 hl (by omega) h2 h3 l.length (100 * l.length + 101) 0 (by omega) (by omega)
    have e0 : ((shTo l 0).length : Int) = 0 := rfl
    rw [e0, show (((0 : Nat) : Int)) = 0 from rfl] at this
    exact this
end D15
end Go.Proofs.Ytakfnghakbjncaa.P
