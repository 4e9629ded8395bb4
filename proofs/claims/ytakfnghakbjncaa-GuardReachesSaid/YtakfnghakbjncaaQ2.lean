/- Plain laws of relabelling rules: GuardStays and GuardTo, over lists. -/
import Derived.Test.YtakfnghakbjncaaQ1
import Derived.Test.YtakfnghakbjncaaPx8
import Derived.Test.YtakfnghakbjncaaPx9
namespace Go.Proofs.Ytakfnghakbjncaa.P
open Go.RowKit Go.Proofs.YtakfnghakbjncaaW.PrintWords Go.Proofs.YtakfnghakbjncaaW.PrintLast Go.Proofs.YtakfnghakbjncaaW.PrintMore

theorem idxFrom_find {α : Type} (p : α → Bool) (l : List α) (i : Int) :
    (l.find? p = none ∧ idxFrom p l i = -1) ∨ ∃ (j : Nat) (x : α), l.find? p = some x ∧ idxFrom p l i = i + j ∧ l[j]? = some x ∧ (∀ m, m < j → ∀ y, l[m]? = some y → p y = false) ∧ p x = true := by
  induction l generalizing i with
  | nil => exact .inl ⟨rfl, rfl⟩
  | cons x l ih =>
    by_cases h : p x = true
    · exact .inr ⟨0, x, by simp [h], by simp [idxFrom, h], rfl, fun m hm => by omega, h⟩
    · rcases ih (i + 1) with ⟨h1, h2⟩ | ⟨j, y, h1, h2, h3, h4, h5⟩
      · exact .inl ⟨by simp [h, h1], by simp [idxFrom, h, h2]⟩
      · refine .inr ⟨j + 1, y, by simp [h, h1], by simp only [idxFrom, h, h2]; simp; omega, by simpa using h3, fun m hm z hz => ?_, h5⟩
        cases m with
        | zero => simp at hz; subst hz; simpa using h
        | succ m => exact h4 m (by omega) z (by simpa using hz)

/-- The label that something gets. -/
def toV (l : List S31) (a1 a2 a3 a4 a5 : Int) : Int := ((l.find? fun x => mtB x a1 a2 a3 a4 a5).map (·.f5)).getD a2

theorem rd_at (l : List S31) (j : Nat) (x : S31) (h : l[j]? = some x) : rd_T31 l (j : Int) = x := by
  unfold rd_T31
  simp [List.getD, h]

theorem To_eq (l : List S31) (a1 a2 a3 a4 a5 : Int) (hl : l.length ≤ 9223372036854775807) : guard_To.f l a1 a2 a3 a4 a5 = some (toV l a1 a2 a3 a4 a5) := by
  unfold guard_To.f guard_First.f
  rw [if_pos hl]
  simp only [Option.bind_some]
  rcases idxFrom_find (fun x => mtB x a1 a2 a3 a4 a5) l 0 with ⟨h1, h2⟩ | ⟨j, x, h1, h2, h3, _, _⟩
  · rw [h2, if_neg (by omega)]
    unfold toV
    rw [h1]; rfl
  · rw [h2]
    have hj := (List.getElem?_eq_some_iff.1 h3).1
    rw [if_pos (by omega), if_pos (by omega), if_pos (by omega)]
    rw [show (0 : Int) + j = (j : Int) from by omega, rd_at l j x h3]
    unfold toV
    rw [h1]; rfl

theorem awake16 : gueritelaw16_awake.f = some true := by kernel_rfl

theorem all_match (tt a1 a2 a3 a4 a5 : Int) (h4 : 0 ≤ a4 ∧ a4 < 2 ^ 32) (h5 : 0 ≤ a5 ∧ a5 < 2 ^ 32) : mtB ⟨-1, -1, ⟨0, 0⟩, ⟨0, 0⟩, -1, tt⟩ a1 a2 a3 a4 a5 = true := by
  have h : ∀ c : Int, (0 ≤ c ∧ c < 2 ^ 32) → ahB 0 0 c = true := by
    rintro c ⟨c0, c1⟩
    obtain ⟨n, rfl⟩ := Int.eq_ofNat_of_zero_le c0
    have := ahB_eq 0 0 n (by decide) (by omega)
    rw [show (((0 : Nat) : Int)) = 0 from rfl] at this
    have hr : arB 0 0 = true := by kernel_rfl
    rw [this, hr]
    have e : n / 2 ^ (32 - Int.toNat 0) = 0 := Nat.div_eq_of_lt (show n < 2 ^ 32 by omega)
    rw [e]
    simp
  have := matches_some ⟨-1, -1, ⟨0, 0⟩, ⟨0, 0⟩, -1, tt⟩ a1 a2 a3 a4 a5
  rw [← Option.some.injEq, ← this]
  unfold guard_Matches.f
  simp only [wide_some, ah_some, h a4 h4, h a5 h5]
  simp

/-- The tail of GuardStays. -/
theorem stays_end (l : List S31) (tt a1 a2 a3 a4 a5 : Int) (hl : l.length ≤ 60) (h4 : 0 ≤ a4 ∧ a4 < 2 ^ 32) (h5 : 0 ≤ a5 ∧ a5 < 2 ^ 32) :
    ((guard_To.f ([] : List (S31)) a1 a2 a3 a4 a5).bind fun t165 => (if t165 = a2 then ((guard_To.f ((⟨-1, -1, ⟨0, 0⟩, ⟨0, 0⟩, -1, tt⟩ : S31) :: l) a1 a2 a3 a4 a5).bind fun t166 => (if t166 = tt then ((guard_To.f (l.filter fun x => mtB x a1 a2 a3 a4 a5) a1 a2 a3 a4 a5).bind fun t167 => ((guard_To.f l a1 a2 a3 a4 a5).bind fun t168 => (if t167 = t168 then ((gueritelaw16_awake.f).bind fun t169 => (some t169)) else (some false)))) else (some false))) else (some false))) = some true := by
  have hf := List.length_filter_le (fun x => mtB x a1 a2 a3 a4 a5) l
  rw [To_eq _ _ _ _ _ _ (by simp), To_eq _ _ _ _ _ _ (by simp; omega), To_eq _ _ _ _ _ _ (by omega), To_eq _ _ _ _ _ _ (by omega)]
  simp only [Option.bind_some, awake16]
  have e1 : toV [] a1 a2 a3 a4 a5 = a2 := rfl
  have e2 : toV ((⟨-1, -1, ⟨0, 0⟩, ⟨0, 0⟩, -1, tt⟩ : S31) :: l) a1 a2 a3 a4 a5 = tt := by
    unfold toV
    rw [List.find?_cons, all_match tt a1 a2 a3 a4 a5 h4 h5]; rfl
  have e3 : toV (l.filter fun x => mtB x a1 a2 a3 a4 a5) a1 a2 a3 a4 a5 = toV l a1 a2 a3 a4 a5 := by
    unfold toV
    rw [List.find?_filter]
    simp
  rw [e1, e2, e3, if_pos rfl, if_pos rfl, if_pos rfl]

theorem stays_loop (l : List S31) (tt a1 a2 a3 a4 a5 : Int) (hl : l.length ≤ 60) (h4 : 0 ≤ a4 ∧ a4 < 2 ^ 32) (h5 : 0 ≤ a5 ∧ a5 < 2 ^ 32) (d : Nat) :
    ∀ (k i : Nat), i + d = l.length → d < k → gueritelaw16_GuardStays.l0 k l tt ((⟨-1, -1, ⟨0, 0⟩, ⟨0, 0⟩, -1, tt⟩ : S31) :: l) ((l.take i).filter fun x => mtB x a1 a2 a3 a4 a5) i a1 a2 a3 a4 a5 = some true := by
  induction d with
  | zero =>
    intro k i hi hk
    obtain ⟨k, rfl⟩ : ∃ m, k = m + 1 := ⟨k - 1, by omega⟩
    simp only [gueritelaw16_GuardStays.l0]
    rw [if_neg (by omega), List.take_of_length_le (by omega)]
    exact stays_end l tt a1 a2 a3 a4 a5 hl h4 h5
  | succ d ih =>
    intro k i hi hk
    obtain ⟨k, rfl⟩ : ∃ m, k = m + 1 := ⟨k - 1, by omega⟩
    obtain ⟨x, hx⟩ : ∃ x, l[i]? = some x := ⟨l[i]'(by omega), List.getElem?_eq_getElem _⟩
    have ht : l.take (i + 1) = l.take i ++ [x] := by rw [List.take_add_one, hx]; rfl
    have hf := List.length_filter_le (fun x => mtB x a1 a2 a3 a4 a5) (l.take i)
    have hf2 : (l.take i).length ≤ 60 := by rw [List.length_take]; omega
    simp only [gueritelaw16_GuardStays.l0]
    rw [if_pos (by omega), if_pos (by omega), rd_at l i x hx, matches_some]
    simp only [Option.bind_some]
    have ih' := ih k (i + 1) (by omega) (by omega)
    rw [ht, List.filter_append] at ih'
    have e : wrap64 ((i : Int) + 1) = ((i + 1 : Nat) : Int) := by rw [wrap_small _ (by omega) (by omega)]; omega
    rw [e]
    by_cases hm : mtB x a1 a2 a3 a4 a5 = true
    · rw [if_pos hm, if_pos (by omega)]
      simp only [List.filter_cons, hm, if_true, List.filter_nil] at ih'
      exact ih'
    · rw [if_neg hm]
      simp only [List.filter_cons, hm, List.filter_nil] at ih'
      simpa using ih'

theorem stays_pure (l : List S31) (a1 a2 a3 a4 a5 tt : Int) (h4 : 0 ≤ a4 ∧ a4 < 2 ^ 32) (h5 : 0 ≤ a5 ∧ a5 < 2 ^ 32) : ∃ k, gueritelaw16_GuardStays.f k l a1 a2 a3 a4 a5 tt = some true := by
  refine ⟨l.length + 1, ?_⟩
  unfold gueritelaw16_GuardStays.f
  by_cases h : (l.length : Int) > 60
  · rw [if_pos h, awake16]; rfl
  · rw [if_neg h, if_pos (by decide)]
    simp only [Option.bind_some, List.nil_append]
    rw [if_pos (by simp; omega)]
    exact stays_loop l tt a1 a2 a3 a4 a5 (by omega) h4 h5 l.length _ 0 (by omega) (by omega)


/-! ### GuardTo -/
/-- The addresses of a rule's prefixes are of 32 bits. -/
def InR (x : S31) : Prop := (0 ≤ x.f2.f0 ∧ x.f2.f0 < 2 ^ 32) ∧ (0 ≤ x.f3.f0 ∧ x.f3.f0 < 2 ^ 32)

theorem mtB_eq (x : S31) (a1 a2 a3 a4 a5 : Int) : mtB x a1 a2 a3 a4 a5 = ((x.f0 == -1 || x.f0 == a1) && ((x.f1 == -1 || x.f1 == a2) && ((x.f4 == -1 || x.f4 == a3) && (ahB x.f2.f0 x.f2.f1 a4 && ahB x.f3.f0 x.f3.f1 a5)))) := by
  have := matches_some x a1 a2 a3 a4 a5
  unfold guard_Matches.f at this
  simp only [wide_some, ah_some, Option.bind_some] at this
  revert this
  generalize mtB x a1 a2 a3 a4 a5 = r
  cases (x.f0 == -1 || x.f0 == a1) <;> cases (x.f1 == -1 || x.f1 == a2) <;> cases (x.f4 == -1 || x.f4 == a3) <;> cases ahB x.f2.f0 x.f2.f1 a4 <;> cases ahB x.f3.f0 x.f3.f1 a5 <;> simp <;> exact fun h => h.symm

theorem ref_holds' (p b c : Int) (hp : 0 ≤ p ∧ p < 2 ^ 32) (hc : 0 ≤ c ∧ c < 2 ^ 32) (k : Nat) (hk : 40 ≤ k) : gueriteref03_Holds.f k p b c = some (ahB p b c) := by
  obtain ⟨p, rfl⟩ := Int.eq_ofNat_of_zero_le hp.1
  obtain ⟨c, rfl⟩ := Int.eq_ofNat_of_zero_le hc.1
  exact ref_holds p c b (by omega) (by omega) k hk
theorem ref_right' (p b : Int) (hp : 0 ≤ p ∧ p < 2 ^ 32) (k : Nat) (hk : 40 ≤ k) : gueriteref03_Right.f k p b = some (arB p b) := by
  obtain ⟨p, rfl⟩ := Int.eq_ofNat_of_zero_le hp.1
  exact ref_right p b (by omega) k hk

theorem ref_matches (x : S31) (a1 a2 a3 a4 a5 : Int) (hx : InR x) (h4 : 0 ≤ a4 ∧ a4 < 2 ^ 32) (h5 : 0 ≤ a5 ∧ a5 < 2 ^ 32) (k : Nat) (hk : 41 ≤ k) :
    gueriteref16_Matches.f k x.f0 x.f1 x.f2.f0 x.f2.f1 x.f3.f0 x.f3.f1 x.f4 x.f5 a1 a2 a3 a4 a5 = some (mtB x a1 a2 a3 a4 a5) := by
  obtain ⟨k, rfl⟩ : ∃ m, k = m + 1 := ⟨k - 1, by omega⟩
  have j : ∀ b : Bool, gueriteref16_Matches.j0 (k + 1) a4 a5 b x.f0 x.f1 x.f2.f0 x.f2.f1 x.f3.f0 x.f3.f1 x.f4 x.f5 = some (!b && (ahB x.f2.f0 x.f2.f1 a4 && ahB x.f3.f0 x.f3.f1 a5)) := by
    intro b
    simp only [gueriteref16_Matches.j0]
    rw [ref_holds' _ _ _ hx.1 h4 k (by omega), ref_holds' _ _ _ hx.2 h5 k (by omega)]
    cases b <;> cases ahB x.f2.f0 x.f2.f1 a4 <;> simp
  rw [mtB_eq]
  unfold gueriteref16_Matches.f
  simp only [j]
  by_cases c1 : x.f0 = -1 <;> by_cases c2 : x.f0 = a1 <;> by_cases c3 : x.f1 = -1 <;> by_cases c4 : x.f1 = a2 <;> by_cases c5 : x.f4 = -1 <;> by_cases c6 : x.f4 = a3 <;> simp [c1, c2, c3, c4, c5, c6]
  all_goals
    have e5 := beq_eq_false_iff_ne.2 c5
    have e6 := beq_eq_false_iff_ne.2 c6
    simp [bne, e5, e6]

theorem ref_right16 (n : Int) (x : S31) (hx : InR x) (k : Nat) (hk : 40 ≤ k) : gueriteref16_Right.f k n x.f0 x.f1 x.f2.f0 x.f2.f1 x.f3.f0 x.f3.f1 x.f4 x.f5 = some (grB n x) := by
  unfold gueriteref16_Right.f
  rw [ref_right' _ _ hx.1 k hk, ref_right' _ _ hx.2 k hk]
  unfold grB inB
  by_cases c1 : x.f0 ≥ -1
  · rw [if_pos c1]
    by_cases c2 : x.f0 ≤ 7
    · rw [if_pos c2]
      by_cases c3 : x.f1 ≥ -1
      · rw [if_pos c3]
        by_cases c4 : x.f1 < n
        · rw [if_pos c4]
          by_cases c5 : x.f4 ≥ -1
          · rw [if_pos c5]
            by_cases c6 : x.f4 ≤ 255
            · rw [if_pos c6]
              by_cases c7 : x.f5 ≥ 0
              · rw [if_pos c7]
                by_cases c8 : x.f5 < n
                · rw [if_pos c8]
                  have d1 : (-1 : Int) ≤ x.f0 := c1
                  have d2 : x.f0 < 8 := by omega
                  have d3 : (-1 : Int) ≤ x.f1 := c3
                  have d5 : (-1 : Int) ≤ x.f4 := c5
                  have d6 : x.f4 < 256 := by omega
                  have d7 : (0 : Int) ≤ x.f5 := c7
                  simp only [d1, d2, d3, c4, d5, d6, d7, c8, decide_true, Bool.and_true, Bool.true_and, Option.bind_some]
                  cases arB x.f2.f0 x.f2.f1 <;> simp
                · rw [if_neg c8]; simp [c8]
              · rw [if_neg c7]; have : ¬ (0 : Int) ≤ x.f5 := c7; simp [this]
            · rw [if_neg c6]; have : ¬ x.f4 < 256 := by omega
              simp [this]
          · rw [if_neg c5]; have : ¬ (-1 : Int) ≤ x.f4 := c5; simp [this]
        · rw [if_neg c4]; simp [c4]
      · rw [if_neg c3]; have : ¬ (-1 : Int) ≤ x.f1 := c3; simp [this]
    · rw [if_neg c2]; have : ¬ x.f0 < 8 := by omega
      simp [this]
  · rw [if_neg c1]; have : ¬ (-1 : Int) ≤ x.f0 := c1; simp [this]

theorem ref_to (l : List S31) (a1 a2 a3 a4 a5 : Int) (hl : ∀ x ∈ l, InR x) (hn : l.length ≤ 80) (h4 : 0 ≤ a4 ∧ a4 < 2 ^ 32) (h5 : 0 ≤ a5 ∧ a5 < 2 ^ 32) (d : Nat) :
    ∀ (k i : Nat), i + d = l.length → d + 41 < k → gueriteref16_To.l0 k l a1 a2 a3 a4 a5 i = some (toV (l.drop i) a1 a2 a3 a4 a5) := by
  induction d with
  | zero =>
    intro k i hi hk
    obtain ⟨k, rfl⟩ : ∃ m, k = m + 1 := ⟨k - 1, by omega⟩
    simp only [gueriteref16_To.l0]
    rw [if_neg (by omega), List.drop_of_length_le (by omega)]
    rfl
  | succ d ih =>
    intro k i hi hk
    obtain ⟨k, rfl⟩ : ∃ m, k = m + 1 := ⟨k - 1, by omega⟩
    have hil : i < l.length := by omega
    obtain ⟨x, hx⟩ : ∃ x, l[i]? = some x := ⟨l[i]'hil, List.getElem?_eq_getElem _⟩
    have hd : l.drop i = x :: l.drop (i + 1) := by rw [List.drop_eq_getElem_cons hil, (List.getElem?_eq_some_iff.1 hx).2]
    simp only [gueriteref16_To.l0]
    rw [if_pos (by omega), if_pos (by omega), rd_at l i x hx, ref_matches x _ _ _ _ _ (hl x (List.mem_of_getElem? hx)) h4 h5 k (by omega)]
    simp only [Option.bind_some]
    rw [hd]
    have e : wrap64 ((i : Int) + 1) = ((i + 1 : Nat) : Int) := by rw [wrap_small _ (by omega) (by omega)]; omega
    rw [e, ih k (i + 1) (by omega) (by omega)]
    unfold toV
    rw [List.find?_cons]
    cases mtB x a1 a2 a3 a4 a5 <;> simp

theorem guardTo_loop (l : List S31) (n a1 a2 a3 a4 a5 : Int) (hl : ∀ x ∈ l, InR x) (hn : l.length ≤ 80) (h4 : 0 ≤ a4 ∧ a4 < 2 ^ 32) (h5 : 0 ≤ a5 ∧ a5 < 2 ^ 32) (d : Nat) :
    ∀ (k : Nat), d ≤ l.length → 2 * d + 200 < k → gueritelaw16_GuardTo.l0 k l n (idxFrom (fun x => mtB x a1 a2 a3 a4 a5) (l.drop d) d) ((l.drop d).all fun x => grB n x) ((d : Int) - 1) a1 a2 a3 a4 a5 = some true := by
  induction d with
  | zero =>
    intro k hd hk
    obtain ⟨k, rfl⟩ : ∃ m, k = m + 1 := ⟨k - 1, by omega⟩
    simp only [gueritelaw16_GuardTo.l0]
    rw [if_neg (by omega)]
    unfold guard_First.f guard_Right.f gueriteref16_To.f
    rw [if_pos (by omega), if_pos (by omega)]
    simp only [Option.bind_some, List.drop_zero]
    rw [show (((0 : Nat) : Int)) = 0 from rfl, if_pos rfl, To_eq _ _ _ _ _ _ (by omega)]
    have := ref_to l a1 a2 a3 a4 a5 hl hn h4 h5 l.length k 0 (by omega) (by omega)
    rw [show (((0 : Nat) : Int)) = 0 from rfl, List.drop_zero] at this
    rw [this]
    simp only [Option.bind_some, if_true, awake16]
    have e : (!l.any fun x => !grB n x) = l.all fun x => grB n x := by rw [List.not_any_eq_all_not]; simp
    rw [e, beq_self_eq_true, if_pos rfl]
  | succ d ih =>
    intro k hd hk
    obtain ⟨k, rfl⟩ : ∃ m, k = m + 1 := ⟨k - 1, by omega⟩
    obtain ⟨k, rfl⟩ : ∃ m, k = m + 1 := ⟨k - 1, by omega⟩
    have hil : d < l.length := by omega
    obtain ⟨x, hx⟩ : ∃ x, l[d]? = some x := ⟨l[d]'hil, List.getElem?_eq_getElem _⟩
    have hdr : l.drop d = x :: l.drop (d + 1) := by rw [List.drop_eq_getElem_cons hil, (List.getElem?_eq_some_iff.1 hx).2]
    have hxl := hl x (List.mem_of_getElem? hx)
    have ih' := ih k (by omega) (by omega)
    rw [hdr] at ih'
    simp only [idxFrom, List.all_cons] at ih'
    have e : ((d + 1 : Nat) : Int) - 1 = (d : Int) := by omega
    rw [e]
    simp only [gueritelaw16_GuardTo.l0]
    rw [if_pos (by omega), if_pos (by omega), if_pos (by omega), rd_at l d x hx, ref_matches x _ _ _ _ _ hxl h4 h5 (k + 1) (by omega), matches_some]
    simp only [Option.bind_some, bne_self_eq_false, Bool.false_eq_true, if_false]
    have w1 : wrap64 ((d : Int) - 1) = (d : Int) - 1 := wrap_small _ (by omega) (by omega)
    have j : ∀ at_ : Int, gueritelaw16_GuardTo.j1 (k + 1) l n at_ ((l.drop (d + 1)).all fun x => grB n x) d a1 a2 a3 a4 a5 = gueritelaw16_GuardTo.l0 k l n at_ (grB n x && (l.drop (d + 1)).all fun x => grB n x) ((d : Int) - 1) a1 a2 a3 a4 a5 := by
      intro at_
      simp only [gueritelaw16_GuardTo.j1]
      rw [w1]
      cases hall : (l.drop (d + 1)).all fun x => grB n x with
      | true =>
        rw [if_pos rfl, if_pos (by omega), if_pos (by omega), rd_at l d x hx, ref_right16 n x hxl k (by omega)]
        simp
      | false => simp
    rw [j, j]
    cases hm : mtB x a1 a2 a3 a4 a5 with
    | true => simp only [hm, if_true] at ih'; simpa using ih'
    | false =>
      simp only [hm] at ih'
      rw [show ((d + 1 : Nat) : Int) = (d : Int) + 1 from by omega]
      simpa using ih'

theorem guardTo_pure (l : List S31) (a1 a2 a3 a4 a5 n : Int) (hl : ∀ x ∈ l, InR x) (h4 : 0 ≤ a4 ∧ a4 < 2 ^ 32) (h5 : 0 ≤ a5 ∧ a5 < 2 ^ 32) : ∃ k, gueritelaw16_GuardTo.f k l a1 a2 a3 a4 a5 n = some true := by
  refine ⟨2 * l.length + 201, ?_⟩
  unfold gueritelaw16_GuardTo.f
  by_cases h : (l.length : Int) > 80
  · rw [if_pos h, awake16]; rfl
  · rw [if_neg h]
    have := guardTo_loop l n a1 a2 a3 a4 a5 hl (by omega) h4 h5 l.length (2 * l.length + 201) (Nat.le_refl _) (by omega)
    rw [List.drop_length] at this
    rw [wrap_small _ (by omega) (by omega)]
    exact this

end Go.Proofs.Ytakfnghakbjncaa.P
