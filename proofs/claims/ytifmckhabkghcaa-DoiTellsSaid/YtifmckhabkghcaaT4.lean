/- Maps keyed by labels (layer 13): how they read; the table in memory. -/
import Derived.Test.YtifmckhabkghcaaT3
import Derived.DeepKeys4
import Derived.Maps.OwnSet
namespace Go.Proofs.Ytifmckhabkghcaa.P
open Go.RowKit
set_option linter.unusedSimpArgs false

theorem laidOut' : laidOutB Try.prog = true := by kernel_rfl
theorem row25 : (25 : TypeId) < Try.prog.types.size := of_decide_eq_true (by kernel_rfl)
theorem key25 : Maps.Keyed Try.prog 25 := Maps.Keyed.of_law (deep_law_laid laidOut' (m := 3) (by omega) row25 (by kernel_rfl) (by kernel_rfl))
def klab (x : Lab) : Lit := .string (keyBytes (labK x))
theorem keyOf25 {x : Lab} (hx : LabOK x) : keyOf Try.prog 25 (.agg (labA x)) = some (klab x) := by
  have hk : Try.prog.keyType 25 = true := by kernel_rfl
  have hc : Try.prog.cellsOf 25 = 31 := by kernel_rfl
  have fm : (Value.agg (labA x)).formed Try.prog 25 = true := by simp [Value.formed, Try.underlying25, labA_size, hc]
  obtain ⟨d, hd⟩ : ∃ d, Try.prog.types.size + 1 = d + 3 := ⟨Try.prog.types.size - 2, by have h : (25 : Nat) < Try.prog.types.size := row25; omega⟩
  have hl := keyLits25 x hx.1 d
  have hcs : (Value.agg (labA x)).cells.toList = labL x := by simp [Value.cells, labA]
  unfold keyOf
  rw [Try.underlying25]
  simp only [hk, fm, hd, hcs, hl, Bool.and_self, if_true, Option.map_some]
  rfl
theorem klab_inj {x y : Lab} (hx : LabOK x) (hy : LabOK y) (h : klab x = klab y) : x = y := by
  have h1 := keyOf25 hx
  rw [h] at h1
  have h2 := key25.inj h1 (keyOf25 hy)
  have h3 : labA x = labA y := by injection h2
  refine lab_ext ?_ ?_
  · have e1 := labA_0 x
    rw [h3, labA_0 y] at e1
    simpa using (Option.some.inj e1).symm
  · refine set_ext hx.2 hy.2 fun j hj => ?_
    have e1 := labA_S x j _ (catL_get x.S j hj)
    rw [h3, labA_S y j _ (catL_get y.S j hj)] at e1
    have e2 := Option.some.inj e1
    simp at e2
    omega
theorem klab_key {x : Lab} (hx : LabOK x) : WideAt.IsKeyLit (klab x) := key25.key (keyOf25 hx)

/-- The numbers of the first labels, as a map reads. -/
def numP (l : List Lab) : Nat → DataW Unit
  | 0 => .map []
  | i + 1 => (numP l i).put (klab (labD l i)) (.lit (.int .i64 (i : Int)))
theorem numP_map (l : List Lab) (i : Nat) : Maps.IsMap (numP l i) := by
  induction i with
  | zero => exact Maps.isMap_empty
  | succ i ih => exact ih.put _ _
/-- What is found. -/
def fndB (l : List Lab) (x : Lab) (i : Nat) : Bool := decide (x ∈ l.take i)
def fndN (l : List Lab) (x : Lab) (i : Nat) : Int := if x ∈ l.take i then (l.idxOf x : Int) else 0
theorem take_succ' {l : List Lab} {i : Nat} (h : i < l.length) (x : Lab) : x ∈ l.take (i + 1) ↔ x ∈ l.take i ∨ x = labD l i := by
  rw [List.take_succ_eq_append_getElem h, List.mem_append, List.mem_singleton, labD_get h]
theorem idxOf_first {l : List Lab} {x : Lab} {i : Nat} (h : l[i]? = some x) (hno : x ∉ l.take i) : l.idxOf x = i := by
  have := findI_hit h (fun j hj e => hno (mem_take.2 ⟨j, hj, e⟩))
  unfold findI at this
  split at this <;> omega
theorem labD_ok {l : List Lab} (hl : ∀ y ∈ l, LabOK y) {i : Nat} (h : i < l.length) : LabOK (labD l i) := by rw [labD_get h]; exact hl _ (List.getElem_mem h)
theorem numP_spec {l : List Lab} (hl : ∀ y ∈ l, LabOK y) {x : Lab} (hx : LabOK x) : ∀ i, i ≤ l.length → (∀ j, j < i → labD l j ∉ l.take j) →
    Maps.has (numP l i) (klab x) = fndB l x i ∧ (numP l i).atKey (klab x) (.lit (.int .i64 0)) = .lit (.int .i64 (fndN l x i))
  | 0, _, _ => by
    constructor
    · simp [numP, fndB, Maps.has]
    · simp [fndN, numP, DataW.atKey]
  | i + 1, hi, hd => by
    obtain ⟨h1, h2⟩ := numP_spec hl hx i (by omega) (fun j hj => hd j (by omega))
    have hy := labD_ok hl (show i < l.length by omega)
    have ht := take_succ' (show i < l.length by omega) x
    by_cases e : x = labD l i
    · have hn := hd i (by omega)
      have hm : x ∈ l.take (i + 1) := ht.2 (.inr e)
      have hid : l.idxOf x = i := idxOf_first (by rw [e, labD_get (by omega)]; exact List.getElem?_eq_getElem (by omega)) (by rw [e]; exact hn)
      subst e
      constructor
      · rw [numP, Maps.has_put_same (numP_map l i) (klab_key hy)]
        simp [fndB, hm]
      · rw [numP, Maps.atKey_put_same (numP_map l i) (klab_key hy)]
        simp [fndN, hm, hid]
    · have hk : klab x ≠ klab (labD l i) := fun h => e (klab_inj hx hy h)
      have ht2 : x ∈ l.take (i + 1) ↔ x ∈ l.take i := by rw [ht]; simp [e]
      constructor
      · rw [numP, Maps.has_put_other hk, h1]
        simp [fndB, ht2]
      · rw [numP, Maps.atKey_put_other hk, h2]
        simp [fndN, ht2]
theorem zero3 (w : World) : (zeroValue 3).run Try.prog w = .ok (.int .i64 0) w := by kernel_rfl
/-- A lookup. -/
theorem look96 {l : List Lab} (hl : ∀ y ∈ l, LabOK y) {x : Lab} (hx : LabOK x) {i : Nat} (hi : i ≤ l.length) (hd : ∀ j, j < i → labD l j ∉ l.take j) {w : World} {m n : Nat} (h : w.ownsMap Try.prog 25 (plainElem Try.prog 3) m n (numP l i)) :
    (Instr.lookup 96 (.map (some m)) (.agg (labA x)) true).run Try.prog w = .ok (.tuple #[.int .i64 (fndN l x i), .bool (fndB l x i)]) w := by
  obtain ⟨h1, h2⟩ := numP_spec hl hx i hi hd
  obtain ⟨v, ps, hr, hv⟩ := h.look_ok key25 Try.underlying96 (zero3 w) (plainElem_int Try.underlying3 (by decide)) (keyOf25 hx)
  obtain ⟨c, rfl, hc, _⟩ := plainElem_int_inv Try.underlying3 hv
  have hc2 := congrArg Prod.fst hc
  rw [h2] at hc2
  simp at hc2
  rw [hr, h1, hc2]

/-- The labels' cells. -/
def labsL (l : List Lab) : List Value := l.flatMap labL
theorem labsL_snoc (l : List Lab) (x : Lab) : labsL (l ++ [x]) = labsL l ++ labL x := by simp [labsL]
theorem labsL_len (l : List Lab) : (labsL l).length = l.length * 31 := by
  induction l with
  | nil => rfl
  | cons x l ih =>
    have : labsL (x :: l) = labL x ++ labsL l := by simp [labsL]
    rw [this, List.length_append, labL_len, ih, List.length_cons]; omega
theorem labsL_get (l : List Lab) (j : Nat) (x : Lab) (h : l[j]? = some x) (i : Nat) (u : Value) (hu : (labL x)[i]? = some u) : (labsL l)[j * 31 + i]? = some u := by
  induction l generalizing j with
  | nil => simp at h
  | cons y l ih =>
    have e : labsL (y :: l) = labL y ++ labsL l := by simp [labsL]
    have hi : i < 31 := by have := (List.getElem?_eq_some_iff.1 hu).1; rw [labL_len] at this; exact this
    rw [e]
    cases j with
    | zero =>
      simp at h; subst h
      rw [List.getElem?_append_left (by rw [labL_len]; omega)]
      simpa using hu
    | succ j =>
      rw [List.getElem?_append_right (by rw [labL_len]; omega), labL_len, show (j + 1) * 31 + i - 31 = j * 31 + i by omega]
      exact ih j (by simpa using h)
theorem labsL_one (l : List Lab) : ∀ u ∈ labsL l, u.oneCell' = true := by
  intro u hu
  obtain ⟨x, _, hx⟩ := List.mem_flatMap.1 hu
  exact labL_one x u hx
theorem labs_of_own {w : World} {base n : Nat} {v : Value} {l : List Lab} (h : w.ownsRow base 25 31 v n (labsL l)) : ∃ A c, v = .slice A l.length c ∧ SlA w A l := by
  have hn : n = l.length := by have := h.1; rw [labsL_len] at this; omega
  subst hn
  rcases Nat.eq_zero_or_pos l.length with h0 | h0
  · rcases h.2 with ⟨rfl, _⟩ | ⟨g, cap, cur, rfl, _⟩
    · exact ⟨none, 0, by rw [h0], fun h => by omega⟩
    · exact ⟨_, cap, rfl, fun h => by omega⟩
  · obtain ⟨g, cap, rfl, _, hlt⟩ := h.form h0
    refine ⟨_, cap, rfl, fun _ => ⟨g, 0, rfl, hlt, fun j x hx i u hu => ?_⟩⟩
    have := h.cells (g := g) rfl _ u (labsL_get l j x hx i u hu)
    rw [Addr.add_mid] at this
    rwa [show 0 + j * 31 + i = 0 + (j * 31 + i) by omega]
/-- A table in memory, made behind block B. -/
structure Tab (w : World) (B g : Nat) (l : List Lab) : Prop where
  out : ∃ (v : Value) (m : Nat), B ≤ g ∧ w.heap[g]? = some (.cells #[v, .map (some m)] 98 (0, 0)) ∧ w.ownsRow B 25 31 v l.length (labsL l) ∧ w.ownsMap Try.prog 25 (plainElem Try.prog 3) m l.length (numP l l.length)
theorem map_below {w w1 : World} {m n : Nat} {D : DataW Unit} (h : w.ownsMap Try.prog 25 (plainElem Try.prog 3) m n D) (hb : Below w.heap.size w w1) : w1.ownsMap Try.prog 25 (plainElem Try.prog 3) m n D := by
  have hlt := h.lt
  obtain ⟨es, clock, hb', r⟩ := h
  exact ⟨es, clock, (hb.block _ hlt).trans hb', r⟩
theorem Tab.below {w w1 : World} {B g : Nat} {l : List Lab} (h : Tab w B g l) (hb : Below w.heap.size w w1) : Tab w1 B g l := by
  obtain ⟨v, m, h1, h2, h3, h4⟩ := h.out
  exact ⟨v, m, h1, blk_below h2 hb, own_below h3 hb, map_below h4 hb⟩
end Go.Proofs.Ytifmckhabkghcaa.P
