/- The trie, plainly: live nodes and their paths; what Find and Get answer; how Add goes on (layer 14). -/
import Derived.Test.YtfpbcdlfcaglgaaNE
namespace Go.Proofs.Ytfpbcdlfcaglgaa.P

/-- The tree: a live node's path. -/
structure Core (l : List Nd) (fr : List Nat) (G : Nat → Option (List Bool)) : Prop where
  root : G 0 = some []
  lt : ∀ i p, G i = some p → i < l.length ∧ i ∉ fr
  inj : ∀ i j p, G i = some p → G j = some p → i = j
  child : ∀ (i : Nat) p x b (j : Nat), G i = some p → l[i]? = some x → chd x b = j → G j = some (p ++ [b])
  par : ∀ (j : Nat) p b, G j = some (p ++ [b]) → ∃ (i : Nat) (x : Nd), G i = some p ∧ l[i]? = some x ∧ chd x b = j
  frl : FrL l fr
  frn : fr.Nodup
  chn : Chn l
  all : ∀ i, i < l.length → G i = none → i ∈ fr
def ofR (r : Rt) : List Bool := pth r.ad r.bt.toNat
/-- The routes: which nodes have one; why a node is there. -/
structure Rts (l : List Nd) (G : Nat → Option (List Bool)) (now : List Rt) (ex : List Bool) : Prop where
  ok : ∀ r ∈ now, r.ad < 2 ^ 32 ∧ rightB r.ad r.bt = true
  has : ∀ (i : Nat) p x, G i = some p → l[i]? = some x → x.has = true → x.r ∈ now ∧ ofR x.r = p
  back : ∀ r ∈ now, ∃ (i : Nat) (x : Nd), G i = some (ofR r) ∧ l[i]? = some x ∧ x.has = true
  dead : ∀ i p, G i = some p → p <+: ex ∨ ∃ r ∈ now, p <+: ofR r
  uniq : now.Pairwise fun r s => ofR r ≠ ofR s

section
variable {l : List Nd} {fr : List Nat} {G : Nat → Option (List Bool)} {now : List Rt} {ex : List Bool}
theorem Core.up (h : Core l fr G) : ∀ (n : Nat) (p : List Bool) (j : Nat), G j = some p → n ≤ p.length → ∃ i, G i = some (p.take n) := by
  intro n p
  induction hp : p.length generalizing p with
  | zero =>
    intro j hj hn
    have : p = [] := List.length_eq_zero_iff.1 hp
    subst this
    exact ⟨j, by simpa using hj⟩
  | succ m ih =>
    intro j hj hn
    rcases Nat.lt_or_ge m n with h1 | h1
    · exact ⟨j, by rw [List.take_of_length_le (by omega)]; exact hj⟩
    · have hne : p ≠ [] := by intro e; rw [e] at hp; simp at hp
      rw [← List.dropLast_concat_getLast hne] at hj
      obtain ⟨i, x, hi, _, _⟩ := h.par _ _ _ hj
      obtain ⟨q, hq⟩ := ih p.dropLast (by simp [hp]) i hi h1
      refine ⟨q, ?_⟩
      rw [hq, List.dropLast_eq_take, List.take_take]
      congr 2; omega
theorem Core.node (h : Core l fr G) {i : Nat} {p : List Bool} (hi : G i = some p) : ∃ x, l[i]? = some x := ⟨_, List.getElem?_eq_getElem (h.lt i p hi).1⟩
/-- The way of an address: its live nodes. -/
theorem Core.wayI (h : Core l fr G) (ad m : Nat) : ∀ (k a : Nat), G a = some (pth ad k) → ∀ (t j : Nat), (wayG l ad m k a)[t]? = some j ↔ t ≤ m ∧ G j = some (pth ad (k + t)) := by
  induction m with
  | zero =>
    intro k a ha t j
    rw [wayG]
    constructor
    · intro hj
      cases t with
      | zero => simp at hj; subst hj; exact ⟨Nat.le_refl _, ha⟩
      | succ t => simp at hj
    · rintro ⟨ht, hj⟩
      have : t = 0 := by omega
      subst this
      simp
      exact h.inj _ _ _ ha hj
  | succ m ih =>
    intro k a ha t j
    obtain ⟨x, hx⟩ := h.node ha
    rcases h.chn a x hx (bt ad k) with hc | ⟨c, hc, _⟩
    · rw [wayG_stop hx hc]
      constructor
      · intro hj
        cases t with
        | zero => simp at hj; subst hj; exact ⟨Nat.zero_le _, ha⟩
        | succ t => simp at hj
      · rintro ⟨ht, hj⟩
        cases t with
        | zero => simp; exact h.inj _ _ _ ha hj
        | succ t =>
          exfalso
          obtain ⟨q, hq⟩ := h.up (k + 1) _ j hj (by rw [pth_len]; omega)
          rw [pth_take _ _ _ (by omega), pth_succ] at hq
          obtain ⟨i, y, hi, hy, hcy⟩ := h.par _ _ _ hq
          have := h.inj _ _ _ ha hi
          subst this
          rw [hx] at hy; cases hy
          omega
    · rw [wayG_go hx hc]
      have hcp := h.child a _ x _ c ha hx hc
      rw [← pth_succ] at hcp
      cases t with
      | zero =>
        simp
        exact ⟨fun e => by rw [← e]; exact ha, fun hj => h.inj _ _ _ ha hj⟩
      | succ t =>
        rw [List.getElem?_cons_succ, ih (k + 1) c hcp t j]
        rw [show k + 1 + t = k + (t + 1) by omega]
        constructor <;> rintro ⟨h1, h2⟩ <;> exact ⟨by omega, h2⟩
theorem Core.fndY (h : Core l fr G) {ad n : Nat} (hr : rightB ad n = true) (j : Nat) (hj : G j = some (pth ad n)) : fnd l ad n = j := by
  have := (h.wayI ad n 0 0 h.root n j).2 ⟨Nat.le_refl _, by simpa using hj⟩
  exact fnd_in hr this
theorem Core.fndN (h : Core l fr G) {ad n : Nat} (hj : ∀ j, G j ≠ some (pth ad n)) : fnd l ad n = -1 := by
  unfold fnd
  split
  · cases hq : (way l ad (n : Int).toNat)[(n : Int).toNat]? with
    | none => rfl
    | some j =>
      have := (h.wayI ad n 0 0 h.root n j).1 hq
      exact absurd (by simpa using this.2) (hj j)
  · rfl
end
end Go.Proofs.Ytfpbcdlfcaglgaa.P
