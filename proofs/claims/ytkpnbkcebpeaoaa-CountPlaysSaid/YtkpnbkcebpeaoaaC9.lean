/- What CountSums keeps from act to act: the plain law. For the program's counters (layer 26). -/
import Derived.Test.YtkpnbkcebpeaoaaC6
namespace Go.Proofs.Ytkpnbkcebpeaoaa.P
open Go.RowKit

/-- An act: its eight cells. -/
structure ActC where
  (b : Bool) (t r s d p sp dp : Int)

/-- The cells of the acts, as the walk asks for them. -/
def ActsAt (w : World) (A : Option Addr) (l : List ActC) : Prop := ∀ (kk : Nat) (x : ActC), l[kk]? = some x → ∃ ad : Addr, A = some ad ∧ (ad.add (kk * 8)).block < w.heap.size ∧
  w.cell? (ad.add (kk * 8)) = some (.bool x.b) ∧ w.cell? ⟨(ad.add (kk * 8)).block, (ad.add (kk * 8)).off + 1, none⟩ = some (.int .i64 x.t) ∧ w.cell? ⟨(ad.add (kk * 8)).block, (ad.add (kk * 8)).off + 2, none⟩ = some (.int .i64 x.r) ∧
  w.cell? ⟨(ad.add (kk * 8)).block, (ad.add (kk * 8)).off + 3, none⟩ = some (.int .u32 x.s) ∧ w.cell? ⟨(ad.add (kk * 8)).block, (ad.add (kk * 8)).off + 4, none⟩ = some (.int .u32 x.d) ∧ w.cell? ⟨(ad.add (kk * 8)).block, (ad.add (kk * 8)).off + 5, none⟩ = some (.int .i64 x.p) ∧
  w.cell? ⟨(ad.add (kk * 8)).block, (ad.add (kk * 8)).off + 6, none⟩ = some (.int .i64 x.sp) ∧ w.cell? ⟨(ad.add (kk * 8)).block, (ad.add (kk * 8)).off + 7, none⟩ = some (.int .i64 x.dp)
theorem ActsAt.below {w w' : World} {A : Option Addr} {l : List ActC} (h : ActsAt w A l) (hb : Below w.heap.size w w') : ActsAt w' A l := by
  intro kk x hx
  obtain ⟨ad, e, hl, h0, h1, h2, h3, h4, h5, h6, h7⟩ := h kk x hx
  refine ⟨ad, e, Nat.lt_of_lt_of_le hl hb.size, ?_, ?_, ?_, ?_, ?_, ?_, ?_, ?_⟩
  all_goals
    rw [hb.cell (by exact hl)]
    assumption

/-- What holds behind kk acts: c, l, lost: the ledger's; added, told, cleared: the law's own. -/
structure Inv (rm : Int) (kk : Nat) (c : List Int) (l : List LineC) (lost added told cleared : Int) : Prop where
  len : c.length = 16
  pos : ∀ x ∈ c, 0 ≤ x ∧ x ≤ kk
  sum : c.sum = added
  tot : (l.length : Int) + lost + cleared = told
  rm : (l.length : Int) ≤ rm
  ll : l.length ≤ kk
  lost0 : 0 ≤ lost
  lost1 : lost ≤ kk
  add0 : 0 ≤ added
  add1 : added ≤ kk
  told0 : 0 ≤ told
  told1 : told ≤ kk
  clr0 : 0 ≤ cleared
  clr1 : cleared ≤ kk
section
variable {rm : Int} {kk : Nat} {c : List Int} {l : List LineC} {lost added told cleared : Int}
theorem Inv.start (h : 0 ≤ rm) : Inv rm 0 (List.replicate 16 0) [] 0 0 0 0 :=
  ⟨rfl, fun x hx => by obtain rfl := List.eq_of_mem_replicate hx; exact ⟨by omega, by omega⟩, by decide, rfl, by simpa using h, by simp, by omega, by omega, by omega, by omega, by omega, by omega, by omega, by omega⟩
theorem Inv.no (h : Inv rm kk c l lost added told cleared) : Inv rm (kk + 1) c l lost added told cleared := by
  obtain ⟨h1, h2, h3, h4, h5, h6, h7, h8, h9, h10, h11, h12, h13, h14⟩ := h
  exact ⟨h1, fun x hx => ⟨(h2 x hx).1, by have := (h2 x hx).2; omega⟩, h3, h4, h5, by omega, h7, by omega, h9, by omega, h11, by omega, h13, by omega⟩
theorem Inv.clear (h : Inv rm kk c l lost added told cleared) : Inv rm (kk + 1) c [] lost added told (cleared + l.length) := by
  obtain ⟨h1, h2, h3, h4, h5, h6, h7, h8, h9, h10, h11, h12, h13, h14⟩ := h
  refine ⟨h1, fun x hx => ⟨(h2 x hx).1, by have := (h2 x hx).2; omega⟩, h3, ?_, ?_, by simp, h7, by omega, h9, by omega, h11, by omega, by omega, ?_⟩
  · simp; omega
  · simp; omega
  · omega
theorem sum_set : ∀ (c : List Int) (n : Nat) (x : Int), n < c.length → (c.set n x).sum = c.sum + (x - c.getD n 0)
  | a :: c, 0, x, _ => by simp; omega
  | a :: c, n + 1, x, h => by
    have := sum_set c n x (by simpa using h)
    simp only [List.set_cons_succ, List.sum_cons, this, List.getD_cons_succ]
    omega
theorem Inv.get (h : Inv rm kk c l lost added told cleared) (n : Nat) (hn : n < 16) : 0 ≤ c.getD n 0 ∧ c.getD n 0 ≤ kk := by
  have hl : n < c.length := by rw [h.len]; exact hn
  have : c.getD n 0 ∈ c := by
    simp [List.getD, List.getElem?_eq_getElem hl]
  exact h.pos _ this
theorem Inv.add (h : Inv rm kk c l lost added told cleared) (n : Nat) (hn : n < 16) (y : LineC) :
    Inv rm (kk + 1) (c.set n (c.getD n 0 + 1)) (if quietR n = true then l else if (l.length : Int) < rm then l ++ [y] else (l ++ [y]).tail) (if quietR n = true then lost else if (l.length : Int) < rm then lost else lost + 1) (added + 1) (if quietR n = true then told else told + 1) cleared := by
  have hg := h.get n hn
  obtain ⟨h1, h2, h3, h4, h5, h6, h7, h8, h9, h10, h11, h12, h13, h14⟩ := h
  have hp : ∀ x ∈ c.set n (c.getD n 0 + 1), 0 ≤ x ∧ x ≤ ((kk + 1 : Nat) : Int) := by
    intro x hx
    rcases List.mem_or_eq_of_mem_set hx with hx | rfl
    · have := h2 x hx; omega
    · omega
  have hs : (c.set n (c.getD n 0 + 1)).sum = added + 1 := by rw [sum_set c n _ (by omega), h3]; omega
  by_cases hq : quietR n = true
  · simp only [hq, if_true]
    exact ⟨by simpa using h1, hp, hs, h4, h5, by omega, h7, by omega, by omega, by omega, h11, by omega, h13, by omega⟩
  · simp only [hq]
    by_cases hr : (l.length : Int) < rm
    · simp only [hr, if_true]
      refine ⟨by simpa using h1, hp, hs, ?_, ?_, ?_, h7, by omega, by omega, by omega, by omega, by omega, h13, by omega⟩
      all_goals simp; omega
    · simp only [hr, if_false]
      refine ⟨by simpa using h1, hp, hs, ?_, ?_, ?_, by omega, by omega, by omega, by omega, by omega, by omega, h13, by omega⟩
      all_goals simp; omega
end

theorem linesN (w : World) (B : Nat) (v : Value) (c : List Int) (l : List LineC) (room lost : Int) (h : Led w B v c l room lost) (hn : l.length ≤ 1000) :
    Calls Try.prog 9 #[.pointer (some ⟨B, 0, none⟩)] w fun e w' => ∃ A cap, e = .returned (.slice A l.length cap) ∧ Led w' B v c l room lost ∧ Below w.heap.size w w' := by
  refine (lines9 w B v c _ _ _ h hn).mono ?_
  rintro e w' ⟨v', rfl, ho, hb⟩
  rcases ho.2 with ⟨rfl, h0⟩ | ⟨g, cap, cur, rfl, _⟩
  · exact ⟨none, 0, by rw [h0], h.below hb, hb⟩
  · exact ⟨_, cap, rfl, h.below hb, hb⟩
end Go.Proofs.Ytkpnbkcebpeaoaa.P
