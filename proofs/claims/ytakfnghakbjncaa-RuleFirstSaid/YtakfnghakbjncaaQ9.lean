/- Plain law of rules: RuleFirst. -/
import Derived.Test.YtakfnghakbjncaaQ6
import Derived.Test.YtakfnghakbjncaaPx22
namespace Go.Proofs.Ytakfnghakbjncaa.P
open Go.RowKit Go.Proofs.YtakfnghakbjncaaW.PrintWords Go.Proofs.YtakfnghakbjncaaW.PrintLast Go.Proofs.YtakfnghakbjncaaW.PrintMore
namespace D15

theorem wchain {α : Type} (n m : Int) (a b : α) : (if n ≥ 0 then (if n = m then a else b) else a) = if (decide (n < 0) || n == m) = true then a else b := by
  by_cases c : n ≥ 0
  · rw [if_pos c, show decide (n < 0) = false from decide_eq_false (by omega)]
    by_cases e : n = m
    · rw [if_pos e, if_pos (by simp [e])]
    · rw [if_neg e, if_neg (by simp [e])]
  · rw [if_neg c, show decide (n < 0) = true from decide_eq_true (by omega)]
    simp

theorem r15_matches (x : S42) (a0 a1 a2 a3 a4 a5 a6 : Int) (hx : InR x) (h2 : 0 ≤ a2 ∧ a2 < 2 ^ 32) (h3 : 0 ≤ a3 ∧ a3 < 2 ^ 32) (k : Nat) (hk : 45 ≤ k) :
    gueriteref15_Matches.f k x.f0 x.f1 x.f2.f0 x.f2.f1 x.f3.f0 x.f3.f1 x.f4 x.f5 x.f6 x.f7 x.f8 x.f9 a0 a1 a2 a3 a4 a5 a6 = some (rmB x a0 a1 a2 a3 a4 a5 a6) := by
  obtain ⟨k, rfl⟩ : ∃ m, k = m + 3 := ⟨k - 3, by omega⟩
  have j2 : ∀ b : Bool, gueriteref15_Matches.j2 (k + 1) b x.f0 x.f1 x.f2.f0 x.f2.f1 x.f3.f0 x.f3.f1 x.f4 x.f5 x.f6 x.f7 x.f8 x.f9 a2 a3 a4 a5 a6 = some (b || poB x a5 a6) := by
    intro b
    simp only [gueriteref15_Matches.j2]
    have := po_some x a5 a6 a2 a3 a4
    unfold rule_ports.f at this
    rw [this]
    cases b <;> simp
  have j1 : ∀ b : Bool, gueriteref15_Matches.j1 (k + 2) b x.f0 x.f1 x.f2.f0 x.f2.f1 x.f3.f0 x.f3.f1 x.f4 x.f5 x.f6 x.f7 x.f8 x.f9 a2 a3 a4 a5 a6 = some (!b && (!ptB a4 || poB x a5 a6)) := by
    intro b
    simp only [gueriteref15_Matches.j1, j2]
    unfold ptB
    cases b with
    | true => simp
    | false =>
      by_cases e6 : a4 = 6
      · simp [e6]
      · by_cases e17 : a4 = 17
        · simp [e17]
        · have f6 : (a4 == 6) = false := beq_eq_false_iff_ne.2 e6
          have f17 : (a4 == 17) = false := beq_eq_false_iff_ne.2 e17
          simp [e6, e17, bne, f6, f17]
  have j0 : ∀ b : Bool, gueriteref15_Matches.j0 (k + 3) b x.f0 x.f1 x.f2.f0 x.f2.f1 x.f3.f0 x.f3.f1 x.f4 x.f5 x.f6 x.f7 x.f8 x.f9 a2 a3 a4 a5 a6 = some (!b && (hoB x.f2.f0 x.f2.f1 a2 && (hoB x.f3.f0 x.f3.f1 a3 && (!ptB a4 || poB x a5 a6)))) := by
    intro b
    simp only [gueriteref15_Matches.j0, j1]
    rw [rholds _ _ _ hx.1 h2 (k + 2) (by omega), rholds _ _ _ hx.2 h3 (k + 2) (by omega)]
    cases b <;> cases hoB x.f2.f0 x.f2.f1 a2 <;> simp
  unfold gueriteref15_Matches.f rmB
  rw [r15_right x hx (k + 3) (by omega)]
  simp only [Option.bind_some, j0]
  cases hr : rrB x with
  | false => simp
  | true =>
    obtain ⟨g0, g1, g4⟩ := rr_ge x hr
    rw [rw_ge _ _ g0, rw_ge _ _ g1, rw_ge _ _ g4]
    generalize (hoB x.f2.f0 x.f2.f1 a2 && (hoB x.f3.f0 x.f3.f1 a3 && (!ptB a4 || poB x a5 a6))) = T
    have i4 : (if x.f4 ≥ 0 then some (!(x.f4 != a4) && T) else some (!false && T)) = some ((decide (x.f4 < 0) || x.f4 == a4) && T) := by
      by_cases c4 : x.f4 ≥ 0
      · rw [if_pos c4, show decide (x.f4 < 0) = false from decide_eq_false (by omega)]
        simp [bne]
      · rw [if_neg c4, show decide (x.f4 < 0) = true from decide_eq_true (by omega)]
        simp
    simp only [i4, wchain, if_true]
    cases (decide (x.f0 < 0) || x.f0 == a0) <;> cases (decide (x.f1 < 0) || x.f1 == a1) <;> simp

theorem r15_first (l : List S42) (a0 a1 a2 a3 a4 a5 a6 : Int) (hl : ∀ x ∈ l, InR x) (hn : l.length ≤ 80) (h2 : 0 ≤ a2 ∧ a2 < 2 ^ 32) (h3 : 0 ≤ a3 ∧ a3 < 2 ^ 32) (d : Nat) :
    ∀ (k i : Nat), i + d = l.length → d + 50 < k → gueriteref15_First.l0 k l a0 a1 i a2 a3 a4 a5 a6 = some (idxFrom (fun x => rmB x a0 a1 a2 a3 a4 a5 a6) (l.drop i) i) := by
  induction d with
  | zero =>
    intro k i hi hk
    obtain ⟨k, rfl⟩ : ∃ m, k = m + 1 := ⟨k - 1, by omega⟩
    simp only [gueriteref15_First.l0]
    rw [if_neg (by omega), List.drop_of_length_le (by omega)]
    rfl
  | succ d ih =>
    intro k i hi hk
    obtain ⟨k, rfl⟩ : ∃ m, k = m + 1 := ⟨k - 1, by omega⟩
    have hil : i < l.length := by omega
    obtain ⟨x, hx⟩ : ∃ x, l[i]? = some x := ⟨l[i]'hil, List.getElem?_eq_getElem _⟩
    have hd : l.drop i = x :: l.drop (i + 1) := by rw [List.drop_eq_getElem_cons hil, (List.getElem?_eq_some_iff.1 hx).2]
    simp only [gueriteref15_First.l0]
    rw [if_pos (by omega), if_pos (by omega), rd42_at l i x hx, r15_matches x a0 a1 a2 a3 a4 a5 a6 (hl x (List.mem_of_getElem? hx)) h2 h3 k (by omega)]
    simp only [Option.bind_some]
    rw [hd]
    have e : wrap64 ((i : Int) + 1) = ((i + 1 : Nat) : Int) := by rw [ws _ (by omega) (by omega)]; omega
    rw [e, ih k (i + 1) (by omega) (by omega)]
    have e3 : ∀ (x : S42) (s : List S42) (j : Int), idxFrom (fun x => rmB x a0 a1 a2 a3 a4 a5 a6) (x :: s) j = if rmB x a0 a1 a2 a3 a4 a5 a6 = true then j else idxFrom (fun x => rmB x a0 a1 a2 a3 a4 a5 a6) s (j + 1) := fun _ _ _ => rfl
    rw [e3]
    split <;> rfl

theorem first_end (l : List S42) (a0 a1 a2 a3 a4 a5 a6 : Int) (hn : l.length ≤ 80) (b : Bool) (hb : b = l.all fun x => rrB x) (at_ : Int) (ha : at_ = idxFrom (fun x => rmB x a0 a1 a2 a3 a4 a5 a6) l 0) :
    ((rule_First.f l a0 a1 a2 a3 a4 a5 a6).bind fun t288 => (if t288 = at_ then ((rule_Allows.f l a0 a1 a2 a3 a4 a5 a6).bind fun t289 => (if at_ ≥ 0 then (if 0 ≤ at_ then (if at_ < (l.length : Int) then (if (t289 == ((rd_T42 l at_).f9)) = true then ((rule_Right.f l).bind fun t291 => (if (t291 == b) = true then ((gueritelaw15_awake.f).bind fun t292 => (some t292)) else (some false))) else (some false)) else (none)) else (none)) else (if (t289 == false) = true then ((rule_Right.f l).bind fun t293 => (if (t293 == b) = true then ((gueritelaw15_awake.f).bind fun t294 => (some t294)) else (some false))) else (some false)))) else (some false))) = some true := by
  have hF : rule_First.f l a0 a1 a2 a3 a4 a5 a6 = some at_ := by unfold rule_First.f; rw [if_pos (by omega), ha]
  have hR : rule_Right.f l = some b := by
    unfold rule_Right.f
    rw [if_pos (by omega), hb, List.not_any_eq_all_not]
    simp
  unfold rule_Allows.f
  rw [hF, hR]
  simp only [Option.bind_some, if_true, awake15, beq_self_eq_true]
  rcases idx_hit (fun x => rmB x a0 a1 a2 a3 a4 a5 a6) l 0 (Int.le_refl 0) with h | ⟨j, y, h1, h2⟩
  · rw [ha, h, if_neg (show ¬ (-1 : Int) ≥ 0 by omega)]
    simp
  · have hj := (List.getElem?_eq_some_iff.1 h2).1
    rw [ha, h1, Int.zero_add, if_pos (show (j : Int) ≥ 0 by omega), if_pos (show (0 : Int) ≤ j by omega), if_pos (show (j : Int) < l.length by omega)]
    simp only [Option.bind_some, beq_self_eq_true, if_true]
    rw [if_pos (show (0 : Int) ≤ j by omega), if_pos (show (j : Int) < l.length by omega)]
    rw [if_pos (show (0 : Int) ≤ j by omega)]

theorem first_loop (l : List S42) (a0 a1 a2 a3 a4 a5 a6 : Int) (hl : ∀ x ∈ l, InR x) (hn : l.length ≤ 80) (h2 : 0 ≤ a2 ∧ a2 < 2 ^ 32) (h3 : 0 ≤ a3 ∧ a3 < 2 ^ 32) (d : Nat) :
    ∀ (k i : Nat), i + d = l.length → 2 * d + 60 < k → gueritelaw15_RuleFirst.l0 k l (idxFrom (fun x => rmB x a0 a1 a2 a3 a4 a5 a6) l 0) ((l.take i).all fun x => rrB x) i a0 a1 a2 a3 a4 a5 a6 = some true := by
  induction d with
  | zero =>
    intro k i hi hk
    obtain ⟨k, rfl⟩ : ∃ m, k = m + 1 := ⟨k - 1, by omega⟩
    simp only [gueritelaw15_RuleFirst.l0]
    rw [if_neg (by omega), List.take_of_length_le (by omega)]
    exact first_end l a0 a1 a2 a3 a4 a5 a6 hn _ rfl _ rfl
  | succ d ih =>
    intro k i hi hk
    obtain ⟨k, rfl⟩ : ∃ m, k = m + 1 := ⟨k - 1, by omega⟩
    obtain ⟨k, rfl⟩ : ∃ m, k = m + 1 := ⟨k - 1, by omega⟩
    have hil : i < l.length := by omega
    obtain ⟨x, hx⟩ : ∃ x, l[i]? = some x := ⟨l[i]'hil, List.getElem?_eq_getElem _⟩
    have hxl := hl x (List.mem_of_getElem? hx)
    have ht : l.take (i + 1) = l.take i ++ [x] := by rw [List.take_add_one, hx]; rfl
    have ih' := ih k (i + 1) (by omega) (by omega)
    rw [ht, List.all_append] at ih'
    simp only [List.all_cons, List.all_nil, Bool.and_true] at ih'
    have e : wrap64 ((i : Int) + 1) = ((i + 1 : Nat) : Int) := by rw [ws _ (by omega) (by omega)]; omega
    have j : ∀ b, gueritelaw15_RuleFirst.j1 (k + 1) l (idxFrom (fun x => rmB x a0 a1 a2 a3 a4 a5 a6) l 0) b i a0 a1 a2 a3 a4 a5 a6 = gueritelaw15_RuleFirst.l0 k l (idxFrom (fun x => rmB x a0 a1 a2 a3 a4 a5 a6) l 0) b ((i + 1 : Nat) : Int) a0 a1 a2 a3 a4 a5 a6 := by
      intro b
      simp only [gueritelaw15_RuleFirst.j1]
      rw [if_pos (by omega), if_pos (by omega), rd42_at l i x hx, rm_some x a0 a1 a2 a3 a4 a5 a6 k (by omega), r15_matches x a0 a1 a2 a3 a4 a5 a6 hxl h2 h3 k (by omega), e]
      simp
    simp only [gueritelaw15_RuleFirst.l0]
    rw [if_pos (by omega)]
    cases hb : (l.take i).all fun x => rrB x with
    | true =>
      rw [hb] at ih'
      rw [if_pos rfl, if_pos (by omega), rd42_at l i x hx, r15_right x hxl (k + 1) (by omega)]
      simp only [Option.bind_some, j]
      simpa using ih'
    | false =>
      rw [hb] at ih'
      rw [if_neg (by simp), j]
      simpa using ih'

theorem first_pure (l : List S42) (a0 a1 a2 a3 a4 a5 a6 : Int) (hl : ∀ x ∈ l, InR x) (h2 : 0 ≤ a2 ∧ a2 < 2 ^ 32) (h3 : 0 ≤ a3 ∧ a3 < 2 ^ 32) : ∃ k, gueritelaw15_RuleFirst.f k l a0 a1 a2 a3 a4 a5 a6 = some true := by
  refine ⟨2 * l.length + 200, ?_⟩
  unfold gueritelaw15_RuleFirst.f
  by_cases h : (l.length : Int) > 80
  · rw [if_pos h, awake15]; rfl
  · rw [if_neg h]
    unfold gueriteref15_First.f
    have h1 := r15_first l a0 a1 a2 a3 a4 a5 a6 hl (by omega) h2 h3 l.length (2 * l.length + 200) 0 (by omega) (by omega)
    rw [List.drop_zero, show (((0 : Nat) : Int)) = 0 from rfl] at h1
    rw [h1]
    simp only [Option.bind_some]
    have := first_loop l a0 a1 a2 a3 a4 a5 a6 hl (by omega) h2 h3 l.length (2 * l.length + 200) 0 (by omega) (by omega)
    rw [List.take_zero, show (((0 : Nat) : Int)) = 0 from rfl] at this
    exact this
end D15
end Go.Proofs.Ytakfnghakbjncaa.P
