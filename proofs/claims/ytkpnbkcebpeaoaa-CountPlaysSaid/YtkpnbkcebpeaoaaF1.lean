/- What CountPlays keeps from act to act: the plain law. For the program's counters (layer 26). -/
import Derived.Test.YtkpnbkcebpeaoaaC9
namespace Go.Proofs.Ytkpnbkcebpeaoaa.P
open Go.RowKit

/-- What holds behind kk acts of CountPlays: the ledger's counters, lines and how many were lost are the law's own. -/
structure InvP (rm : Int) (kk : Nat) (c : List Int) (l : List LineC) (lost : Int) : Prop where
  len : c.length = 16
  pos : ∀ x ∈ c, 0 ≤ x ∧ x ≤ kk
  rm : (l.length : Int) ≤ rm
  ll : l.length ≤ kk
  lost0 : 0 ≤ lost
  lost1 : lost ≤ kk
section
variable {rm : Int} {kk : Nat} {c : List Int} {l : List LineC} {lost : Int}
theorem InvP.start (h : 0 ≤ rm) : InvP rm 0 (List.replicate 16 0) [] 0 :=
  ⟨rfl, fun x hx => by obtain rfl := List.eq_of_mem_replicate hx; exact ⟨by omega, by omega⟩, by simpa using h, by simp, by omega, by omega⟩
theorem InvP.no (h : InvP rm kk c l lost) : InvP rm (kk + 1) c l lost := by
  obtain ⟨h1, h2, h5, h6, h7, h8⟩ := h
  exact ⟨h1, fun x hx => ⟨(h2 x hx).1, by have := (h2 x hx).2; omega⟩, h5, by omega, h7, by omega⟩
theorem InvP.clear (h : InvP rm kk c l lost) : InvP rm (kk + 1) c [] lost := by
  obtain ⟨h1, h2, h5, h6, h7, h8⟩ := h
  exact ⟨h1, fun x hx => ⟨(h2 x hx).1, by have := (h2 x hx).2; omega⟩, by simp; omega, by simp, h7, by omega⟩
theorem InvP.get (h : InvP rm kk c l lost) (n : Nat) (hn : n < 16) : 0 ≤ c.getD n 0 ∧ c.getD n 0 ≤ kk := by
  have hl : n < c.length := by rw [h.len]; exact hn
  have : c.getD n 0 ∈ c := by
    simp [List.getD, List.getElem?_eq_getElem hl]
  exact h.pos _ this
theorem InvP.add (h : InvP rm kk c l lost) (n : Nat) (hn : n < 16) (y : LineC) :
    InvP rm (kk + 1) (c.set n (c.getD n 0 + 1)) (if quietR n = true then l else if (l.length : Int) < rm then l ++ [y] else (l ++ [y]).tail) (if quietR n = true then lost else if (l.length : Int) < rm then lost else lost + 1) := by
  have hg := h.get n hn
  obtain ⟨h1, h2, h5, h6, h7, h8⟩ := h
  have hp : ∀ x ∈ c.set n (c.getD n 0 + 1), 0 ≤ x ∧ x ≤ ((kk + 1 : Nat) : Int) := by
    intro x hx
    rcases List.mem_or_eq_of_mem_set hx with hx | rfl
    · have := h2 x hx; omega
    · omega
  by_cases hq : quietR n = true
  · simp only [hq, if_true]
    exact ⟨by simpa using h1, hp, h5, by omega, h7, by omega⟩
  · simp only [hq]
    by_cases hr : (l.length : Int) < rm
    · simp only [hr, if_true]
      refine ⟨by simpa using h1, hp, ?_, ?_, h7, by omega⟩
      all_goals simp; omega
    · simp only [hr, if_false]
      refine ⟨by simpa using h1, hp, ?_, ?_, by omega, by omega⟩
      all_goals simp; omega
end

/-- The law's own array of counters, in block G. -/
def Cnt (w : World) (G : Nat) (c : List Int) : Prop := c.length = 16 ∧ w.heap[G]? = some (.cells (c.map (Value.int .i64)).toArray 37 (0, 0))
theorem Cnt.get {w : World} {G : Nat} {c : List Int} (h : Cnt w G c) (j : Nat) (hj : j < 16) : w.cell? ⟨G, j, none⟩ = some (.int .i64 (c.getD j 0)) := by
  rw [cell_of_row _ _ _ _ _ _ h.2]
  simp [List.getD, List.getElem?_eq_getElem (show j < c.length by have := h.1; omega)]
theorem Cnt.fr {w : World} {G : Nat} {c : List Int} (h : Cnt w G c) (j : Nat) : w.frozen? ⟨G, j, none⟩ = false := frozen_of_row w G j _ _ h.2
theorem Cnt.lt {w : World} {G : Nat} {c : List Int} (h : Cnt w G c) : G < w.heap.size := lt_of_block h.2
theorem Cnt.kept {w w' : World} {G : Nat} {c : List Int} (h : Cnt w G c) (hb : w'.heap[G]? = w.heap[G]?) : Cnt w' G c := ⟨h.1, hb.trans h.2⟩
theorem Cnt.set {w : World} {G : Nat} {c : List Int} (h : Cnt w G c) (n : Nat) (x : Int) : Cnt (w.setCell ⟨G, n, none⟩ (.int .i64 x)) G (c.set n x) := by
  refine ⟨by simp [h.1], ?_⟩
  rw [heap_setCell_same w G n _ 37 _ h.2]
  congr 2
  apply Array.ext'
  simp only [Array.toList_setIfInBounds, List.map_set]
end Go.Proofs.Ytkpnbkcebpeaoaa.P
