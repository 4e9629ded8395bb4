/- Contracts of Len, Nodes, Get, Find of a trie as a list of routes; what TrieOrders says, plainly (layer 14). -/
import Derived.Test.YtfpbcdlfcaglgaaNP
namespace Go.Proofs.Ytfpbcdlfcaglgaa.P
open Go.RowKit

theorem lenS {w : World} {M B g K : Nat} {vf : Value} {now : List Rt} (h : TrS w M B g vf K now) : Calls Try.prog 13 #[.pointer (some ⟨B, 0, none⟩)] w fun e w' => e = .returned (.int .i64 now.length) ∧ w = w' := by
  obtain ⟨cap, l, fr, n, ht, ⟨rfl, _⟩, _⟩ := h
  exact len13 w M B g cap vf l fr _ ht
theorem nodesS {w : World} {M B g K : Nat} {vf : Value} {now : List Rt} (h : TrS w M B g vf K now) (hK : K ≤ 90000) : Calls Try.prog 14 #[.pointer (some ⟨B, 0, none⟩)] w fun e w' => e = .returned (.int .i64 (ndsN now)) ∧ Below w.heap.size w w' := by
  obtain ⟨cap, l, fr, n, ht, hi, h1, h2⟩ := h
  obtain ⟨h3, h4⟩ := hi.nodes
  refine (nodes14 w M B g cap vf l fr n ht (by omega) h3).mono fun e w' hh => ⟨?_, hh.2⟩
  rw [hh.1, h4]
/-- The route of a prefix. -/
def getR (now : List Rt) (ad : Nat) (b : Int) : Option Rt := if rightB ad b = true then (match idxR now ad b with | some k => now[k]? | none => none) else none
theorem getS {w : World} {M B g K : Nat} {vf : Value} {now : List Rt} (h : TrS w M B g vf K now) (ad : Nat) (b : Int) (ha : ad < 2 ^ 32) : Calls Try.prog 20 #[.pointer (some ⟨B, 0, none⟩), .agg #[.int .u32 ad, .int .i64 b]] w fun e w' => e = .returned (optV (getR now ad b)) ∧ Below w.heap.size w w' := by
  have hu := h.uq
  have hok := h.ok
  obtain ⟨cap, l, fr, n, ht, hi, _⟩ := h
  have e : getF l ad b = getR now ad b := by
    cases hr : rightB ad b with
    | false => rw [getF, fnd_no hr, atN_neg, getR, hr]; rfl
    | true =>
      rw [getR, if_pos hr]
      rcases hi.get (r := ⟨ad, b, 0⟩) ha hr with ⟨x, h1, h2, h3, h4⟩ | ⟨h1, h2⟩
      · rw [show getF l ad b = some x from h1]
        cases hx : idxR now ad b with
        | none => exact absurd ⟨x, h2, h3, h4⟩ (idxR_none hx)
        | some k =>
          obtain ⟨r, hk, hr1, hr2⟩ := idxR_some hx
          show some x = now[k]?
          rw [hk, uniq_eq hu h2 (List.mem_of_getElem? hk) ((ofR_eq (hok x h2) (hok r (List.mem_of_getElem? hk))).2 ⟨by rw [hr1]; exact h3, by rw [hr2]; exact h4⟩)]
      · rw [show getF l ad b = none from h1]
        cases hx : idxR now ad b with
        | none => rfl
        | some k =>
          obtain ⟨r, hk, hr1, hr2⟩ := idxR_some hx
          exact absurd ⟨r, List.mem_of_getElem? hk, hr1, hr2⟩ h2
  rw [← e]
  exact get20 w M B g cap vf l fr n ht hi.chn ad b ha

/-! ### Another order -/
def OkL (now : List Rt) : Prop := ∀ r ∈ now, r.ad < 2 ^ 32 ∧ rightB r.ad r.bt = true
theorem err_zero {now : List Rt} {r : Rt} (hr : rightB r.ad r.bt = true) (hi : ¬ inR now r) (hn : now.length < 256) : errR now r = 0 := by
  have : inB now r = false := by rw [Bool.eq_false_iff]; exact fun e => hi ((inB_iff now r).1 e)
  simp [errR, hr, this]; omega
theorem rev_err {S : List Rt} (hu : Uq S) (hok : OkL S) (hn : S.length ≤ 60) {j k : Nat} (hj : j + k + 1 = S.length) {x : Rt} (hx : S[k]? = some x) :
    errR (S.reverse.take j) x = 0 ∧ addN (S.reverse.take j) x = S.reverse.take (j + 1) := by
  have hrx : S.reverse[j]? = some x := by rw [List.getElem?_reverse (by omega), show S.length - 1 - j = k by omega]; exact hx
  have h1 : errR (S.reverse.take j) x = 0 := by
    refine err_zero (hok x (List.mem_of_getElem? hx)).2 ?_ (by rw [List.length_take, List.length_reverse]; omega)
    rintro ⟨y, hy, e1, e2⟩
    obtain ⟨i, hi⟩ := List.mem_iff_getElem?.1 hy
    rw [List.getElem?_take] at hi
    split at hi
    · rename_i hij
      rw [List.getElem?_reverse (by omega)] at hi
      have hys := List.mem_of_getElem? hi
      have e3 := uniq_eq hu hys (List.mem_of_getElem? hx) ((ofR_eq (hok y hys) (hok x (List.mem_of_getElem? hx))).2 ⟨e1, e2⟩)
      subst e3
      obtain ⟨a1, a2⟩ := List.getElem?_eq_some_iff.1 hi
      obtain ⟨b1, b2⟩ := List.getElem?_eq_some_iff.1 hx
      have := List.pairwise_iff_getElem.1 hu k (S.length - 1 - i) b1 a1 (by omega)
      exact this (by rw [a2, b2])
    · cases hi
  refine ⟨h1, ?_⟩
  obtain ⟨a1, a2⟩ := List.getElem?_eq_some_iff.1 hrx
  rw [addN, if_pos h1, List.take_succ_eq_append_getElem a1, a2]
theorem drop_in {now : List Rt} (hu : Uq now) (hok : OkL now) {x : Rt} (hx : x ∈ now) :
    errD now x.ad x.bt = 0 ∧ (∀ y, y ∈ dropN now x.ad x.bt ↔ y ∈ now ∧ y ≠ x) ∧ (dropN now x.ad x.bt).length + 1 = now.length := by
  have hr := (hok x hx).2
  cases hi : idxR now x.ad x.bt with
  | none => exact absurd ⟨x, hx, rfl, rfl⟩ (idxR_none hi)
  | some k =>
    obtain ⟨r, hk, hr1, hr2⟩ := idxR_some hi
    have hrm := List.mem_of_getElem? hk
    have e : r = x := uniq_eq hu hrm hx ((ofR_eq (hok r hrm) (hok x hx)).2 ⟨hr1, hr2⟩)
    subst e
    have h2 : dropN now r.ad r.bt = now.eraseIdx k := by simp [dropN, hr, hi]
    have hlt := (List.getElem?_eq_some_iff.1 hk).1
    refine ⟨by simp [errD, hr, hi], fun y => ?_, by rw [h2, List.length_eraseIdx_of_lt hlt]; omega⟩
    rw [h2, mem_erase hu hk]
    refine and_congr_right fun hy => ⟨fun h3 e => h3 (by rw [e]), fun h3 e => h3 (uniq_eq hu hy hrm e)⟩
theorem drop_add {now : List Rt} (hu : Uq now) (hok : OkL now) (hn : now.length ≤ 60) {x : Rt} (hx : x ∈ now) :
    errR (dropN now x.ad x.bt) x = 0 ∧ Same now (addN (dropN now x.ad x.bt) x) := by
  obtain ⟨_, h2, h3⟩ := drop_in hu hok hx
  have h4 : errR (dropN now x.ad x.bt) x = 0 := by
    refine err_zero (hok x hx).2 ?_ (by omega)
    rintro ⟨y, hy, e1, e2⟩
    obtain ⟨h5, h6⟩ := (h2 y).1 hy
    exact h6 (uniq_eq hu h5 hx ((ofR_eq (hok y h5) (hok x hx)).2 ⟨e1, e2⟩))
  refine ⟨h4, fun y => ?_⟩
  rw [addN, if_pos h4, List.mem_append, h2, List.mem_singleton]
  constructor
  · intro hy
    by_cases e : y = x
    · exact .inr e
    · exact .inl ⟨hy, e⟩
  · rintro (⟨h5, _⟩ | rfl)
    · exact h5
    · exact hx
theorem addAll_len (l : List Rt) : (addAll l).length ≤ l.length := by
  have : ∀ (l acc : List Rt), (l.foldl addN acc).length ≤ acc.length + l.length := by
    intro l
    induction l with
    | nil => intro acc; exact Nat.le_refl _
    | cons x l ih =>
      intro acc
      have h1 := ih (addN acc x)
      have h2 := addN_len acc x
      rw [List.foldl_cons, List.length_cons]
      omega
  have := this l []
  simpa [addAll] using this
theorem same_rev (S : List Rt) : Same S S.reverse := fun _ => List.mem_reverse.symm
/-- Routes' cells, in a row. -/
def rtsL (l : List Rt) : List Value := l.flatMap rtC
theorem rtsL_snoc (l : List Rt) (x : Rt) : rtsL (l ++ [x]) = rtsL l ++ rtC x := by simp [rtsL]
theorem rtsL_len (l : List Rt) : (rtsL l).length = l.length * 3 := by
  induction l with
  | nil => rfl
  | cons x l ih =>
    have e : (rtsL (x :: l)).length = 3 + (rtsL l).length := by simp [rtsL, rtC]; omega
    rw [e, ih, List.length_cons]; omega
theorem rtsL_get (l : List Rt) : ∀ (i j : Nat) (x : Rt), l[i]? = some x → j < 3 → (rtsL l)[i * 3 + j]? = (rtC x)[j]? := by
  induction l with
  | nil => intro i j x h; simp at h
  | cons y l ih =>
    intro i j x h hj
    have hc : rtsL (y :: l) = rtC y ++ rtsL l := rfl
    have hl : (rtC y).length = 3 := rfl
    rw [hc]
    cases i with
    | zero =>
      simp at h
      subst h
      rw [List.getElem?_append_left (by omega)]
      simp
    | succ i =>
      rw [List.getElem?_append_right (by omega), hl, show (i + 1) * 3 + j - 3 = i * 3 + j by omega]
      exact ih i j x (by simpa using h) hj
theorem rts_at {w : World} {M g cap n : Nat} {l : List Rt} (h : w.ownsRow M 32 3 (.slice (some ⟨g, 0, none⟩) n cap) n (rtsL l)) (i : Nat) (x : Rt) (hx : l[i]? = some x) : w.rangeAt g (i * 3) (rtC x) := by
  intro j v hv
  have hj : j < 3 := (List.getElem?_eq_some_iff.1 hv).1
  have := h.cells (g := g) rfl (i * 3 + j) v (by rw [rtsL_get l i j x hx hj]; exact hv)
  rwa [Addr.add_lit, Nat.zero_add] at this
theorem info32b : (Try.prog.info? 32).map (fun i => (i.zero, i.size, i.bytes)) = some (some (.agg rz), 3, 24) := by kernel_rfl
theorem info32c (r : Rt) : (Try.prog.info? 32).map (fun i => (i.zero, i.size)) = some (some (.agg rz), (rtA r).size) := by
  show _ = some (some (Value.agg rz), 3)
  kernel_rfl
theorem rtC_one (x : Rt) : ∀ u ∈ rtC x, u.oneCell' = true := by
  intro u hu
  simp only [rtC, List.mem_cons, List.not_mem_nil, or_false] at hu
  rcases hu with rfl | rfl | rfl <;> rfl
end Go.Proofs.Ytfpbcdlfcaglgaa.P
