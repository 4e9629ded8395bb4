/- Two appends in one region, as CountPlays copies its lines: laws at a step, whatever the order. For the program's counters (layer 26). -/
import Derived.Test.YtkpnbkcebpeaoaaF2
import Derived.Deep.RegionLawGrows
namespace Go.Proofs.Ytkpnbkcebpeaoaa.P
open Go.RowKit

/-- What is made of lines in memory that is newer than w0's. -/
structure St (w0 w : World) (v : Value) (n : Nat) (xs : List Value) : Prop where
  bel : Below w0.heap.size w0 w
  own : w.ownsRow w0.heap.size 42 7 v n xs ∨ ∃ ao, v = .slice ao 0 0 ∧ n = 0 ∧ xs = []
theorem St.alloc {w0 w : World} {v : Value} {n : Nat} {xs : List Value} (h : St w0 w v n xs) (o : Obj) : St w0 (w.alloc o) v n xs :=
  ⟨h.bel.alloc h.bel.size _, h.own.elim (fun k => .inl (k.alloc _)) .inr⟩

theorem run_nothing (w : World) (ty : TypeId) (g : Addr) (A : Option Addr) (c : Nat) : (Builtin.append_ #[34, 34] ty #[.slice (some g) 0 0, .slice A 0 c]).run Try.prog w = .ok (.slice (some g) 0 0) w := by
  obtain ⟨i0, hi0, hz1, hz2, hz0⟩ := info42
  cases A <;> simp [Builtin.append_, run_underlying Try.underlying34, sizeOf, typeInfo, hi0, Builtin.lenOf, Builtin.firstCells, storeCells, loadCells, loadCellsFrom]

section
variable {ops : Array Oper} {o : Oper} {a : Act} {K : Act → World → Prop} {Q : Exit → Act → World → Prop} {E : Prop} {w : World}
theorem step1 (w0 : World) (hgd : o.guard = none) (s x : Operand) (ho : o.op = .call { callee := .builtin .append, args := #[s, x], argTypes := #[34, 34] })
    (g : Addr) (hs : a.eval s = .slice (some g) 0 0) (A : Option Addr) (n c : Nat) (hx : a.eval x = .slice A n c) (l : List LineC) (hl : l.length = n) (hA : A = none → n = 0)
    (hsrc : ∀ ad, A = some ad → ad.spot = none ∧ ad.block < w0.heap.size ∧ ∀ j u, (lns l)[j]? = some u → w0.cell? ⟨ad.block, ad.off + j, none⟩ = some u) (hn : n ≤ 1000) (hb : Below w0.heap.size w0 w)
    (hK : ∀ v' w', St w0 w' v' n (lns l) → w.grownBy w' none → K (a.put o.dst v') w') : if Region.wanted o (yielded ops a.tmps) = true then Oper.wp Try.prog o a w K Q else E := by
  have hu34 := Try.underlying34
  obtain ⟨i0, hi0, hz1, hz2, hz0⟩ := info42
  by_cases h0 : n = 0
  · subst h0
    have hl0 : l = [] := List.length_eq_zero_iff.1 hl
    subst hl0
    have hw : Region.wanted o (yielded ops a.tmps) = true := by simp [Region.wanted, hgd]
    rw [if_pos hw]
    unfold Oper.wp
    simp [execOp, ho, resolve, invoke, builtin, hs, hx, run_nothing, Result.andThen]
    exact hK _ _ ⟨hb, .inr ⟨_, rfl, rfl, rfl⟩⟩ ⟨rfl, rfl, rfl, Nat.le_refl _, fun _ _ _ => rfl⟩
  · cases A with
    | none => exact absurd (hA rfl) h0
    | some ad =>
      obtain ⟨k1, k2, k3⟩ := hsrc ad rfl
      refine step_append_grows hgd s x 34 ho 42 i0 (.agg zln.toArray) 7 48 hu34 hi0 hz0 hz1 hz2 rfl (by decide) (some g) 0 0 [] hs (fun h => by cases h) rfl (fun b _ j u hu => by simp at hu) ad n c (lns l) hx (by rw [lns_len, hl]) ?_ (lns_one l) (by omega) (by unfold maxLen; omega) (by omega) ?_
      · intro j u hu
        obtain ⟨ab, ao, asp⟩ := ad
        obtain rfl : asp = none := k1
        rw [Addr.add_lit]
        exact (hb.cell (p := ⟨ab, ao + j, none⟩) k2).trans (k3 j u hu)
      · intro v' w' h1 h2
        refine hK v' w' ⟨hb.trans ?_, .inl ?_⟩ h2
        · exact ⟨h2.os, h2.tape, h2.output, h2.size, fun k hk => h2.block k (Nat.lt_of_lt_of_le hk hb.size) (by simp)⟩
        · rw [Nat.zero_add, List.nil_append] at h1
          refine ⟨h1.1, ?_⟩
          rcases h1.2 with h | ⟨g', cap, cur, r1, r2, r3⟩
          · exact .inl h
          · exact .inr ⟨g', cap, cur, r1, Nat.le_trans hb.size r2, r3⟩

theorem step2 (w0 : World) (hgd : o.guard = none) (s x : Operand) (ho : o.op = .call { callee := .builtin .append, args := #[s, x], argTypes := #[34, 34] })
    (v : Value) (n : Nat) (hs : a.eval s = v) (l : List LineC) (y : LineC) (LB c : Nat) (hx : a.eval x = .slice (some ⟨LB, 0, none⟩) 1 c) (hn : n ≤ 1000) (hst : St w0 w v n (lns l)) (hlb : w.heap[LB]? = some (.cells (lnC y).toArray 42 (0, 0)))
    (hK : ∀ g cap w', w'.ownsRow w0.heap.size 42 7 (.slice (some ⟨g, 0, none⟩) (n + 1) cap) (n + 1) (lns (l ++ [y])) → Below w0.heap.size w0 w' → K (a.put o.dst (.slice (some ⟨g, 0, none⟩) (n + 1) cap)) w') :
    if Region.wanted o (yielded ops a.tmps) = true then Oper.wp Try.prog o a w K Q else E := by
  have hu34 := Try.underlying34
  obtain ⟨i0, hi0, hz1, hz2, hz0⟩ := info42
  have hb := hst.bel
  have news := World.news_of_block hlb
  have one : ∀ u ∈ lnC y, u.oneCell' = true := by simp [lnC, Value.oneCell']
  rcases hst.own with hown | ⟨ao, rfl, rfl, hxs⟩
  · refine step_append_lies w hgd s x 34 ho w0.heap.size 42 i0 (.agg zln.toArray) 7 48 hu34 hi0 hz0 hz1 hz2 rfl (by decide) v n (lns l) hs hown ⟨LB, 0, none⟩ 1 c (lnC y) hx rfl news one (by omega) (by unfold maxLen; omega) (by omega) hb.size _ rfl ?_
    intro g cap w' h1 h2 h3 h4
    refine hK g cap w' (by rw [lns_snoc]; exact h1) (hb.trans ?_)
    refine ⟨h2.os, h2.tape, h2.output, h2.size, fun k hk => h2.block k (Nat.lt_of_lt_of_le hk hb.size) (fun e => ?_)⟩
    have := (hown.lt k e.symm).1
    omega
  · refine step_append_grows hgd s x 34 ho 42 i0 (.agg zln.toArray) 7 48 hu34 hi0 hz0 hz1 hz2 rfl (by decide) ao 0 0 [] hs (fun _ => ⟨rfl, rfl⟩) rfl (fun b _ j u hu => by simp at hu) ⟨LB, 0, none⟩ 1 c (lnC y) hx rfl news one (by omega) (by unfold maxLen; omega) (by omega) ?_
    intro v' w' h1 h2
    have hl0 : lns (l ++ [y]) = lnC y := by rw [lns_snoc, hxs, List.nil_append]
    rw [Nat.zero_add, List.nil_append] at h1
    obtain ⟨g, cap, rfl, hg1, hg2⟩ := h1.form (by omega)
    refine hK g cap w' ?_ (hb.trans ⟨h2.os, h2.tape, h2.output, h2.size, fun k hk => h2.block k (Nat.lt_of_lt_of_le hk hb.size) (by simp)⟩)
    rw [hl0, Nat.zero_add]
    refine ⟨h1.1, ?_⟩
    rcases h1.2 with h | ⟨g', cap', cur, r1, r2, r3⟩
    · exact .inl h
    · exact .inr ⟨g', cap', cur, r1, Nat.le_trans hb.size r2, r3⟩
end

/-- Lines as a slice somewhere behind block H (nil: no line). -/
def LnS (w : World) (H : Nat) (lv : Value) (l : List LineC) : Prop :=
  ∃ A cap, lv = .slice A l.length cap ∧ l.length ≤ cap ∧ (A = none → l = [] ∧ cap = 0) ∧ ∀ a, A = some a → a.spot = none ∧ H < a.block ∧ a.block < w.heap.size ∧ ∀ j u, (lns l)[j]? = some u → w.cell? ⟨a.block, a.off + j, none⟩ = some u
theorem LnS.nil (w : World) (H : Nat) : LnS w H (.slice none 0 0) [] := ⟨none, 0, rfl, Nat.le_refl _, fun _ => ⟨rfl, rfl⟩, fun a h => (by cases h)⟩
theorem LnS.kept {w w' : World} {H : Nat} {lv : Value} {l : List LineC} (h : LnS w H lv l) (hs : w.heap.size ≤ w'.heap.size) (hb : ∀ g, lv.ownBlock = some g → w'.heap[g]? = w.heap[g]?) : LnS w' H lv l := by
  obtain ⟨A, cap, rfl, h1, h2, h3⟩ := h
  refine ⟨A, cap, rfl, h1, h2, fun a ha => ?_⟩
  obtain ⟨k1, k2, k3, k4⟩ := h3 a ha
  subst ha
  refine ⟨k1, k2, Nat.lt_of_lt_of_le k3 hs, fun j u hu => ?_⟩
  rw [World.cell?_of_block (a := ⟨a.block, a.off + j, none⟩) (hb a.block rfl)]
  exact k4 j u hu
theorem LnS.of_own {w : World} {B H g n cap : Nat} {l : List LineC} (h : w.ownsRow B 42 7 (.slice (some ⟨g, 0, none⟩) n cap) n (lns l)) (hH : H < B) : LnS w H (.slice (some ⟨g, 0, none⟩) n cap) l := by
  have hn : l.length = n := by have := h.1; rw [lns_len] at this; omega
  rcases h.2 with ⟨h', _⟩ | ⟨g', cap', cur, h', hg, hgg, hcap, _⟩
  · cases h'
  · cases h'
    refine ⟨some ⟨g, 0, none⟩, cap, by rw [hn], by omega, fun h => (by cases h), fun a ha => ?_⟩
    cases ha
    refine ⟨rfl, Nat.lt_of_lt_of_le hH hg, lt_of_block hgg, fun j u hu => ?_⟩
    have := h.cells (g := g) rfl j u hu
    rw [Addr.add_lit] at this
    exact this
theorem LnS.tail {w : World} {H g n cap : Nat} {l : List LineC} (h : LnS w H (.slice (some ⟨g, 0, none⟩) (n + 1) cap) l) (A' : Option Addr) (hA : A' = if cap = 1 then some ⟨g, 0, none⟩ else some ⟨g, 7, none⟩) :
    LnS w H (.slice A' n (cap - 1)) l.tail := by
  obtain ⟨A, cap', he, h1, h2, h3⟩ := h
  simp only [Value.slice.injEq] at he
  obtain ⟨hA', hn, hc⟩ := he
  subst hA'
  subst hc
  obtain ⟨k1, k2, k3, k4⟩ := h3 _ rfl
  simp only at k2 k3 k4
  have hl : l.tail.length = n := by rw [List.length_tail]; omega
  refine ⟨A', cap - 1, by rw [hl], by omega, fun e => ?_, fun a ha => ?_⟩
  · rw [e] at hA; split at hA <;> cases hA
  · rw [ha] at hA
    by_cases hc : cap = 1
    · rw [if_pos hc] at hA
      cases hA
      refine ⟨rfl, k2, k3, fun j u hu => ?_⟩
      have : l.tail = [] := List.length_eq_zero_iff.1 (by omega)
      rw [this] at hu
      simp [lns] at hu
    · rw [if_neg hc] at hA
      cases hA
      refine ⟨rfl, k2, k3, fun j u hu => ?_⟩
      rw [← lns_tail, List.getElem?_drop] at hu
      have := k4 _ u hu
      rw [Nat.zero_add] at this
      exact this

theorem keepsOf {w w' : World} (h : w.grownBy w' none) : ∀ (k : Nat) (o : Obj), w.heap[k]? = some o → w'.heap[k]? = some o := fun k o hk => by
  have : k < w.heap.size := by
    rcases Nat.lt_or_ge k w.heap.size with h | h
    · exact h
    · rw [Array.getElem?_eq_none h] at hk; cases hk
  rw [h.block k this (by simp)]
  exact hk
theorem heap2a (w : World) (o o' : Obj) : ((w.alloc o).alloc o').heap[w.heap.size]? = some o := by
  rw [(Below.refl (w.alloc o).heap.size (w.alloc o)).alloc (Nat.le_refl _) o' |>.block w.heap.size (by simp)]
  exact heap_alloc_new w o
theorem heap2b (w : World) (o o' : Obj) : ((w.alloc o).alloc o').heap[w.heap.size + 1]? = some o' := by
  have := heap_alloc_new (w.alloc o) o'
  simpa using this
theorem bz_alloc {a b : World} (h : Below a.heap.size a b) (o : Obj) : Below a.heap.size a (b.alloc o) := h.alloc h.size o
/-- The cells of an act in its block. -/
theorem boxed {W w : World} {X : Nat} {b : Value} {t r s d p sp dp : Int} (hb : W.heap[X]? = some (.cells #[b, .int .i64 t, .int .i64 r, .int .u32 s, .int .u32 d, .int .i64 p, .int .i64 sp, .int .i64 dp] 33 (0, 0))) (h : Below W.heap.size W w) :
    w.cell? ⟨X, 1, none⟩ = some (.int .i64 t) ∧ w.cell? ⟨X, 2, none⟩ = some (.int .i64 r) ∧ w.cell? ⟨X, 3, none⟩ = some (.int .u32 s) ∧ w.cell? ⟨X, 4, none⟩ = some (.int .u32 d) ∧ w.cell? ⟨X, 5, none⟩ = some (.int .i64 p) ∧ w.cell? ⟨X, 6, none⟩ = some (.int .i64 sp) ∧ w.cell? ⟨X, 7, none⟩ = some (.int .i64 dp) := by
  have h2 := (h.block X (lt_of_block hb)).trans hb
  exact ⟨cell_of_row _ _ _ _ _ _ h2, cell_of_row _ _ _ _ _ _ h2, cell_of_row _ _ _ _ _ _ h2, cell_of_row _ _ _ _ _ _ h2, cell_of_row _ _ _ _ _ _ h2, cell_of_row _ _ _ _ _ _ h2, cell_of_row _ _ _ _ _ _ h2⟩
end Go.Proofs.Ytkpnbkcebpeaoaa.P
