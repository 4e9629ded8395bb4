/- Many cells of a block set at once; the options' bytes read back (plain). -/
import Derived.Test.YtifmckhabkghcaaD1
import Derived.Deep.MidRow
namespace Go.Proofs.Ytifmckhabkghcaa.P
open Go.RowKit
set_option linter.unusedSimpArgs false

theorem setCells_heap (b : Nat) (t : TypeId) : ∀ (vs : List Value) (o : Nat) (w : World) (cur : Array Value), w.heap[b]? = some (.cells cur t (0, 0)) →
    ∃ cur', (w.setCells b o vs).heap[b]? = some (.cells cur' t (0, 0)) ∧ ∀ j, cur'[j]? = if o ≤ j ∧ j < o + vs.length ∧ j < cur.size then vs[j - o]? else cur[j]?
  | [], _, _, cur, h => ⟨cur, h, fun j => by rw [if_neg (by simp; omega)]⟩
  | v :: vs, o, w, cur, h => by
    obtain ⟨cur', h1, h2⟩ := setCells_heap b t vs (o + 1) (w.setCell ⟨b, o, none⟩ v) _ (heap_setCell_same w b o _ t _ h)
    refine ⟨cur', h1, fun j => ?_⟩
    rw [h2 j]
    simp only [Array.size_setIfInBounds, List.length_cons]
    by_cases e : j = o
    · subst e
      rw [if_neg (by omega)]
      by_cases hj : j < cur.size
      · rw [if_pos (by omega), Array.getElem?_setIfInBounds_self_of_lt hj, Nat.sub_self]; rfl
      · rw [if_neg (by omega)]
        simp [hj]
    · rw [Array.getElem?_setIfInBounds_ne (fun h => e h.symm)]
      by_cases hc : o + 1 ≤ j ∧ j < o + 1 + vs.length ∧ j < cur.size
      · rw [if_pos hc, if_pos (by omega)]
        obtain ⟨d, rfl⟩ : ∃ d, j = o + 1 + d := ⟨j - (o + 1), by omega⟩
        rw [show o + 1 + d - (o + 1) = d by omega, show o + 1 + d - o = d + 1 by omega]
        rfl
      · rw [if_neg hc, if_neg (by omega)]
theorem setCells_other (b k : Nat) (hk : k ≠ b) : ∀ (vs : List Value) (o : Nat) (w : World), (w.setCells b o vs).heap[k]? = w.heap[k]?
  | [], _, _ => rfl
  | v :: vs, o, w => (setCells_other b k hk vs (o + 1) (w.setCell ⟨b, o, none⟩ v)).trans (heap_setCell_other w _ k v hk)
theorem setCells_below {B : Nat} {W : World} (b : Nat) (hb : B ≤ b) : ∀ (vs : List Value) (o : Nat) (w : World), Below B W w → Below B W (w.setCells b o vs)
  | [], _, _, h => h
  | v :: vs, o, _, h => setCells_below b hb vs (o + 1) _ (h.setCell (p := ⟨b, o, none⟩) hb v)
/-- A label's set is set. -/
theorem setCat {w : World} {b : Nat} {x : Lab} (T : Nat) (h : w.heap[b]? = some (.cells (labA x) 25 (0, 0))) : (w.setCells b 1 (catL T)).heap[b]? = some (.cells (labA ⟨x.lv, T⟩) 25 (0, 0)) := by
  obtain ⟨cur', h1, h2⟩ := setCells_heap b 25 (catL T) 1 w _ h
  rw [h1]
  have : cur' = labA ⟨x.lv, T⟩ := by
    apply Array.ext_getElem?
    intro j
    rw [h2 j]
    simp only [catL_len, labA_size]
    by_cases hc : 1 ≤ j ∧ j < 1 + 30 ∧ j < 31
    · rw [if_pos hc]
      obtain ⟨d, rfl⟩ : ∃ d, j = d + 1 := ⟨j - 1, by omega⟩
      rw [show d + 1 - 1 = d by omega]
      simp [labA, labL]
    · rw [if_neg hc]
      by_cases h0 : j = 0
      · subst h0; simp [labA, labL]
      · rw [Array.getElem?_eq_none (by rw [labA_size]; omega), Array.getElem?_eq_none (by rw [labA_size]; omega)]
  rw [this]
theorem there_cat {w : World} {b : Nat} {x : Lab} (T : Nat) (h : w.heap[b]? = some (.cells (labA x) 25 (0, 0))) : w.there b 1 (catA T).size := fun j hj => by
  rw [catA_size] at hj
  refine ⟨?_, frozen_of_row _ _ _ _ _ h⟩
  rw [cell_of_row _ _ _ _ _ _ h]
  simp [labA, labL_len]
  omega

/-- Do an option's bytes name a category? -/
def pl (l : List Nat) (k : Nat) : Bool := (l.getD (k / 7 + 1) 0).testBit (7 - k % 7)
def T1 (l : List Nat) : Nat := ofP (pl l) (min 240 (7 * (l.length - 1)))
def T2 (l : List Nat) : Nat := ofP (pl l) (min 28 (7 * (l.length - 1)))
theorem pl_enc (n S k : Nat) (hk : k < 7 * authN S) : pl (lvb n :: authL S) k = S.testBit k := by
  have hj : k / 7 < authN S := by omega
  have hm : k % 7 < 7 := Nat.mod_lt _ (by decide)
  have hd := Nat.div_add_mod k 7
  have e : (lvb n :: authL S).getD (k / 7 + 1) 0 = b7 S (k / 7) + if k / 7 + 1 < authN S then 1 else 0 := by
    simp [List.getD, authL, hj]
  unfold pl
  rw [e]
  have h := b7_bit S (k / 7) (k % 7) (by omega)
  rw [hd] at h
  have h1 : decide (k % 7 < 7) = true := decide_eq_true hm
  rw [h1, Bool.true_and] at h
  by_cases hc : k / 7 + 1 < authN S
  · rw [if_pos hc, ← b7_one, Nat.testBit_or, h]
    have : Nat.testBit 1 (7 - k % 7) = false := by
      obtain ⟨d, hd⟩ : ∃ d, 7 - k % 7 = d + 1 := ⟨6 - k % 7, by omega⟩
      rw [hd]
      simp [Nat.testBit_succ]
    rw [this, Bool.or_false]
  · rw [if_neg hc, Nat.add_zero, h]
theorem T_enc (n S m : Nat) (hS : S < 2 ^ 240) (hm : 7 * authN S ≤ m) (hm2 : m ≤ 7 * authN S ∨ m ≤ 7 * authN S) : ofP (pl (lvb n :: authL S)) m = S := by
  have : m = 7 * authN S := by omega
  subst this
  apply Nat.eq_of_testBit_eq
  intro k
  rw [ofP_bit]
  by_cases hk : k < 7 * authN S
  · rw [pl_enc _ _ _ hk]; simp [hk]
  · have : S.testBit k = false := by
      cases hb : S.testBit k with
      | false => rfl
      | true =>
        rcases Nat.lt_or_ge k 240 with h | h
        · have := authN_lt S k h hb; omega
        · rw [no_bit hS h] at hb; cases hb
    simp [hk, this]
theorem fits_auth {x : Lab} (h : encE x = 0) : authN x.S ≤ 4 ∧ 0 ≤ x.lv ∧ x.lv < 4 := by
  have hf : fitsB x = true := by rw [encE_fits]; exact decide_eq_true h
  have := authN_int x.S
  simp [fitsB] at hf
  omega
theorem T1_enc (x : Lab) (hS : x.S < 2 ^ 240) (h : encE x = 0) : T1 (encL x) = x.S := by
  have := fits_auth h
  unfold T1 encL
  rw [List.length_cons, authL_len, Nat.add_sub_cancel, Nat.min_eq_right (by omega)]
  exact T_enc _ _ _ hS (Nat.le_refl _) (.inl (Nat.le_refl _))
theorem T2_enc (x : Lab) (hS : x.S < 2 ^ 240) (h : encE x = 0) : T2 (encL x) = x.S := by
  have := fits_auth h
  unfold T2 encL
  rw [List.length_cons, authL_len, Nat.add_sub_cancel, Nat.min_eq_right (by omega)]
  exact T_enc _ _ _ hS (Nat.le_refl _) (.inl (Nat.le_refl _))
theorem T1_lt (l : List Nat) : T1 l < 2 ^ 240 := Nat.lt_of_lt_of_le (ofP_lt _ _) (Nat.pow_le_pow_right (by decide) (Nat.min_le_left _ _))
theorem T2_lt (l : List Nat) : T2 l < 2 ^ 240 := Nat.lt_of_lt_of_le (ofP_lt _ _) (Nat.pow_le_pow_right (by decide) (by have := Nat.min_le_left 28 (7 * (l.length - 1)); omega))
/-- The label that bytes may be, and whether they are. -/
def x1 (l : List Nat) : Lab := ⟨lvlN (l.getD 0 0 : Nat), T1 l⟩
def ok1 (l : List Nat) : Bool := decide (encE (x1 l) = 0) && decide (encD (x1 l) = l)
def ok2 (l : List Nat) (n : Nat) : Bool := decide (encE ⟨n, T2 l⟩ = 0) && decide (encD ⟨n, T2 l⟩ = l)
theorem lvb_inj {m n : Nat} (hm : m < 4) (hn : n < 4) (h : lvb m = lvb n) : m = n := by
  have e1 := lvl_of m hm
  have e2 := lvl_of n hn
  rw [h] at e1
  omega
theorem encD_ok {x : Lab} (h : encE x = 0) : encD x = encL x := by simp [encD, h]
theorem ok_one {l : List Nat} (h : ok1 l = true) : ∃ n : Nat, n < 4 ∧ x1 l = ⟨n, T2 l⟩ ∧ ok2 l n = true ∧ ∀ m, m < n → ok2 l m = false := by
  simp [ok1] at h
  obtain ⟨h1, h2⟩ := h
  rw [encD_ok h1] at h2
  obtain ⟨_, f0, f4⟩ := fits_auth h1
  have e2 := T2_enc (x1 l) (T1_lt l) h1
  rw [h2] at e2
  have hx : x1 l = ⟨((x1 l).lv.toNat : Nat), T2 l⟩ := by
    rw [e2, show (((x1 l).lv.toNat : Nat) : Int) = (x1 l).lv by omega]
  refine ⟨(x1 l).lv.toNat, by omega, hx, ?_, fun m hm => ?_⟩
  · unfold ok2
    rw [← hx, encD_ok h1]
    simp [h1, h2]
  · cases hb : ok2 l m with
    | false => rfl
    | true =>
      simp [ok2] at hb
      obtain ⟨g1, g2⟩ := hb
      rw [encD_ok g1, ← h2] at g2
      have := lvb_inj (m := m) (n := (x1 l).lv.toNat) (by omega) (by omega) (by simpa [encL] using (List.cons.inj g2).1)
      omega
theorem ok_none {l : List Nat} (h : ok1 l = false) (m : Nat) (hm : m < 4) : ok2 l m = false := by
  cases hb : ok2 l m with
  | false => rfl
  | true =>
    simp [ok2] at hb
    obtain ⟨g1, g2⟩ := hb
    have g3 := g2
    rw [encD_ok g1] at g3
    have e1 := T1_enc ⟨m, T2 l⟩ (T2_lt l) g1
    rw [g3] at e1
    have hx : x1 l = ⟨m, T2 l⟩ := by
      unfold x1
      rw [e1]
      have hh : l.getD 0 0 = lvb m := by rw [← g3]; simp [encL]
      rw [hh]
      have := lvl_of m hm
      simp [lvlN, this]
    unfold ok1 at h
    rw [hx] at h
    simp [g1, g2] at h
end Go.Proofs.Ytifmckhabkghcaa.P
