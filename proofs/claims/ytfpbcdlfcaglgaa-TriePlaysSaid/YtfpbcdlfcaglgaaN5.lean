/- Nodes, the trie's memory; contracts of empty, New, Len, Nodes (layer 14). -/
import Derived.Test.YtfpbcdlfcaglgaaN4
namespace Go.Proofs.Ytfpbcdlfcaglgaa.P
open Go.RowKit

theorem own_below {w w1 : World} {b e s n : Nat} {v : Value} {xs : List Value} (h : w.ownsRow b e s v n xs) (hb : Below w.heap.size w w1) : w1.ownsRow b e s v n xs := by
  refine ⟨h.1, ?_⟩
  rcases h.2 with hn | ⟨g, cap, cur, rfl, hbb, hgg, rest⟩
  · exact .inl hn
  · exact .inr ⟨g, cap, cur, rfl, hbb, (hb.block g (lt_of_block hgg)).trans hgg, rest⟩
theorem own_lower {w : World} {b b' e s n : Nat} {v : Value} {xs : List Value} (h : w.ownsRow b e s v n xs) (hb : b' ≤ b) : w.ownsRow b' e s v n xs := by
  refine ⟨h.1, ?_⟩
  rcases h.2 with hn | ⟨g, cap, cur, rfl, hbb, rest⟩
  · exact .inl hn
  · exact .inr ⟨g, cap, cur, rfl, Nat.le_trans hb hbb, rest⟩
theorem own_keep {w w1 : World} {b e s n : Nat} {v : Value} {xs : List Value} (h : w.ownsRow b e s v n xs) (hb : ∀ k, v.ownBlock = some k → w1.heap[k]? = w.heap[k]?) : w1.ownsRow b e s v n xs := by
  refine ⟨h.1, ?_⟩
  rcases h.2 with hn | ⟨g, cap, cur, rfl, hbb, hgg, rest⟩
  · exact .inl hn
  · exact .inr ⟨g, cap, cur, rfl, hbb, (hb g rfl).trans hgg, rest⟩
theorem blk_below {w w1 : World} {g : Nat} {o : Obj} (h : w.heap[g]? = some o) (hb : Below w.heap.size w w1) : w1.heap[g]? = some o := by
  refine (hb.block g ?_).trans h
  rcases Nat.lt_or_ge g w.heap.size with h' | h'
  · exact h'
  · rw [Array.getElem?_eq_none h'] at h; cases h
theorem foldl_set (l : List Value) : ∀ (o : Nat) (z : Array Value), o + l.length ≤ z.size → (l.zipIdx o).foldl (fun (cs : Array Value) (x : Value × Nat) => cs.setIfInBounds x.2 x.1) z = (z.toList.take o ++ l ++ z.toList.drop (o + l.length)).toArray := by
  induction l with
  | nil => intro o z _; simp
  | cons v l ih =>
    intro o z hz
    simp only [List.length_cons] at hz
    rw [List.zipIdx_cons, List.foldl_cons, ih (o + 1) _ (by simp; omega)]
    congr 1
    rw [Array.toList_setIfInBounds]
    have ho : o < z.toList.length := by rw [Array.length_toList]; omega
    rw [List.take_set, List.drop_set_of_lt (by omega)]
    simp only [List.length_cons]
    rw [show o + 1 + l.length = o + (l.length + 1) by omega]
    congr 1
    rw [List.take_succ_eq_append_getElem ho, List.set_append_right _ _ (by rw [List.length_take]; omega)]
    have ho' : o < z.size := by omega
    simp [Nat.min_eq_left (Nat.le_of_lt ho')]
/-- A slice of one element of many cells is built. -/
theorem run_build1 {P : Program} (w : World) (t e : TypeId) (cs : Array Value) (z : Value) (hu : P.underlying t = some (.slice e)) (hi : (P.info? e).map (fun i => (i.zero, i.size)) = some (some z, cs.size)) (h0 : 0 < cs.size) (h1 : cs.size ≤ 1000) :
    (Instr.buildSlice t 1 #[(0, .agg cs)]).run P w = .ok (.slice (some ⟨w.heap.size, 0, none⟩) 1 1) (w.alloc (.cells cs e)) := by
  cases hie : P.info? e with
  | none => simp [hie] at hi
  | some ie =>
    simp [hie] at hi
    refine run_buildSlice w t e 1 _ cs ie z hu hie hi.1 (by omega) (by omega) ?_
    have hf := foldl_set cs.toList 0 ((Array.range (1 * ie.size)).map (z.cells[· % z.cells.size]!)) (by simp; omega)
    have hc : (Value.agg cs).cells = cs := rfl
    simp only [Instr.fill, hc]
    rw [if_neg (by simp; omega), ← Array.foldl_toList, Array.toList_zipIdx]
    simp only [Nat.zero_mul, Nat.zero_add]
    rw [hf]
    simp [hi.2]
    rw [List.drop_of_length_le (by simp), List.append_nil]
section
variable {P : Program} {ops : Array Oper} {rest : List Oper} {o : Oper} {a : Act} {w : World} {Q : Exit → Act → World → Prop}
/-- A slice of one element of many cells, at a plain region's list. -/
theorem build1 (hgd : o.guard = none) (t e : TypeId) (x : Operand) (ho : o.op = .buildSlice t 1 #[(0, x)]) (cs : Array Value) (hx : a.eval x = .agg cs) (z : Value) (hu : P.underlying t = some (.slice e)) (hi : (P.info? e).map (fun i => (i.zero, i.size)) = some (some z, cs.size)) (h0 : 0 < cs.size) (h1 : cs.size ≤ 1000)
    (h : wpList P ops Q rest (a.put o.dst (.slice (some ⟨w.heap.size, 0, none⟩) 1 1)) (w.alloc (.cells cs e))) : wpList P ops Q (o :: rest) a w := wpList_plain hgd fun _ hK => by
  have hr := run_build1 (P := P) w t e cs z hu hi h0 h1
  unfold Oper.wp execOp
  simp only [ho, Sem.run_bind, List.map_toArray, List.map_cons, List.map_nil, hx, hr, Result.andThen_ok, Sem.run_pure]
  exact hK _ _ h
end

/-- A route. -/
structure Rt where
  ad : Nat
  bt : Int
  ou : Int
deriving DecidableEq
def rtC (r : Rt) : List Value := [.int .u32 r.ad, .int .i64 r.bt, .int .i64 r.ou]
def rt0 : Rt := ⟨0, 0, 0⟩
/-- A node. -/
structure Nd where
  a : Int
  b : Int
  r : Rt
  has : Bool
deriving DecidableEq
def ndC (x : Nd) : List Value := [.int .i64 x.a, .int .i64 x.b, .int .u32 x.r.ad, .int .i64 x.r.bt, .int .i64 x.r.ou, .bool x.has]
def nd0 : Nd := ⟨-1, -1, rt0, false⟩
def ndsL (l : List Nd) : List Value := l.flatMap ndC
def ndA0 : Array Value := #[.int .i64 (-1), .int .i64 (-1), .int .u32 0, .int .i64 0, .int .i64 0, .bool false]
theorem ndsL_len (l : List Nd) : (ndsL l).length = l.length * 6 := by
  induction l with
  | nil => rfl
  | cons x l ih =>
    have e : (ndsL (x :: l)).length = 6 + (ndsL l).length := by simp [ndsL, ndC]; omega
    rw [e, ih, List.length_cons]; omega
theorem ndsL_cons (x : Nd) (l : List Nd) : ndsL (x :: l) = ndC x ++ ndsL l := rfl
theorem ndsL_snoc (l : List Nd) (x : Nd) : ndsL (l ++ [x]) = ndsL l ++ ndC x := by simp [ndsL]
theorem ndC_len (x : Nd) : (ndC x).length = 6 := rfl
theorem ndsL_get (l : List Nd) : ∀ (i j : Nat) (x : Nd), l[i]? = some x → j < 6 → (ndsL l)[i * 6 + j]? = (ndC x)[j]? := by
  induction l with
  | nil => intro i j x h; simp at h
  | cons y l ih =>
    intro i j x h hj
    rw [ndsL_cons]
    cases i with
    | zero =>
      simp at h
      subst h
      rw [List.getElem?_append_left (by rw [ndC_len]; omega)]
      simp
    | succ i =>
      rw [List.getElem?_append_right (by rw [ndC_len]; omega), ndC_len]
      rw [show (i + 1) * 6 + j - 6 = i * 6 + j by omega]
      exact ih i j x (by simpa using h) hj
theorem ndsL_set (l : List Nd) : ∀ (i j : Nat) (x y : Nd) (v : Value), l[i]? = some x → j < 6 → (ndC x).set j v = ndC y → (ndsL l).set (i * 6 + j) v = ndsL (l.set i y) := by
  induction l with
  | nil => intro i j x y v h; simp at h
  | cons z l ih =>
    intro i j x y v h hj hy
    cases i with
    | zero =>
      simp at h
      subst h
      rw [List.set_cons_zero, ndsL_cons, ndsL_cons, List.set_append_left _ _ (by rw [ndC_len]; omega)]
      simp [hy]
    | succ i =>
      rw [List.set_cons_succ, ndsL_cons, ndsL_cons, List.set_append_right _ _ (by rw [ndC_len]; omega), ndC_len]
      rw [show (i + 1) * 6 + j - 6 = i * 6 + j by omega, ih i j x y v (by simpa using h) hj hy]

def intsL (l : List Nat) : List Value := l.map fun (x : Nat) => Value.int .i64 (x : Int)
/-- A trie lies in block B: nodes in memory of their own from block M on, the places that were let go too, the count. -/
structure Tri (w : World) (M B g cap : Nat) (vf : Value) (l : List Nd) (fr : List Nat) (n : Int) : Prop where
  base : M ≤ B
  pos : 0 < l.length
  blk : w.heap[B]? = some (.cells #[.slice (some ⟨g, 0, none⟩) l.length cap, vf, .int .i64 n] 61 (0, 0))
  own : w.ownsRow M 56 6 (.slice (some ⟨g, 0, none⟩) l.length cap) l.length (ndsL l)
  fown : w.ownsRow M 3 1 vf fr.length (intsL fr)
section
variable {w : World} {M B g cap : Nat} {vf : Value} {l : List Nd} {fr : List Nat} {n : Int}
theorem Tri.c0 (h : Tri w M B g cap vf l fr n) : w.cell? ⟨B, 0, none⟩ = some (.slice (some ⟨g, 0, none⟩) l.length cap) := by rw [cell_of_row _ _ _ _ _ _ h.blk]; rfl
theorem Tri.c1 (h : Tri w M B g cap vf l fr n) : w.cell? ⟨B, 1, none⟩ = some vf := by rw [cell_of_row _ _ _ _ _ _ h.blk]; rfl
theorem Tri.c2 (h : Tri w M B g cap vf l fr n) : w.cell? ⟨B, 2, none⟩ = some (.int .i64 n) := by rw [cell_of_row _ _ _ _ _ _ h.blk]; rfl
theorem Tri.fz (h : Tri w M B g cap vf l fr n) (j : Nat) : w.frozen? ⟨B, j, none⟩ = false := frozen_of_row w B j _ _ h.blk
theorem Tri.lt (h : Tri w M B g cap vf l fr n) : B < w.heap.size := lt_of_block h.blk
theorem Tri.glt (h : Tri w M B g cap vf l fr n) : M ≤ g ∧ g < w.heap.size := h.own.lt g rfl
theorem Tri.lecap (h : Tri w M B g cap vf l fr n) : l.length ≤ cap := by
  rcases h.own.2 with ⟨h, _⟩ | ⟨g', cap', cur, h, _, _, h3, _⟩
  · cases h
  · cases h; exact h3
theorem Tri.nd (h : Tri w M B g cap vf l fr n) (i j : Nat) (x : Nd) (hx : l[i]? = some x) (hj : j < 6) : w.cell? ⟨g, i * 6 + j, none⟩ = (ndC x)[j]? := by
  have hg := ndsL_get l i j x hx hj
  cases hv : (ndC x)[j]? with
  | none => rw [List.getElem?_eq_none_iff] at hv; rw [ndC_len] at hv; omega
  | some v =>
    rw [hv] at hg
    have := h.own.cells (g := g) rfl _ v hg
    rwa [Addr.add_lit, Nat.zero_add] at this
theorem Tri.na (h : Tri w M B g cap vf l fr n) (i : Nat) (x : Nd) (hx : l[i]? = some x) : w.cell? ⟨g, i * 6, none⟩ = some (.int .i64 x.a) := h.nd i 0 x hx (by omega)
theorem Tri.nb (h : Tri w M B g cap vf l fr n) (i : Nat) (x : Nd) (hx : l[i]? = some x) : w.cell? ⟨g, i * 6 + 1, none⟩ = some (.int .i64 x.b) := h.nd i 1 x hx (by omega)
theorem Tri.nr0 (h : Tri w M B g cap vf l fr n) (i : Nat) (x : Nd) (hx : l[i]? = some x) : w.cell? ⟨g, i * 6 + 2, none⟩ = some (.int .u32 x.r.ad) := h.nd i 2 x hx (by omega)
theorem Tri.nr1 (h : Tri w M B g cap vf l fr n) (i : Nat) (x : Nd) (hx : l[i]? = some x) : w.cell? ⟨g, i * 6 + 3, none⟩ = some (.int .i64 x.r.bt) := h.nd i 3 x hx (by omega)
theorem Tri.nr2 (h : Tri w M B g cap vf l fr n) (i : Nat) (x : Nd) (hx : l[i]? = some x) : w.cell? ⟨g, i * 6 + 4, none⟩ = some (.int .i64 x.r.ou) := h.nd i 4 x hx (by omega)
theorem Tri.nh (h : Tri w M B g cap vf l fr n) (i : Nat) (x : Nd) (hx : l[i]? = some x) : w.cell? ⟨g, i * 6 + 5, none⟩ = some (.bool x.has) := h.nd i 5 x hx (by omega)
theorem Tri.kept {w' : World} (h : Tri w M B g cap vf l fr n) (hb : w'.heap[B]? = w.heap[B]?) (hg : w'.heap[g]? = w.heap[g]?) (hv : ∀ k, vf.ownBlock = some k → w'.heap[k]? = w.heap[k]?) : Tri w' M B g cap vf l fr n :=
  ⟨h.base, h.pos, hb.trans h.blk, own_keep h.own (fun k hk => by cases hk; exact hg), own_keep h.fown hv⟩
theorem Tri.below {w' : World} (h : Tri w M B g cap vf l fr n) (hb : Below w.heap.size w w') : Tri w' M B g cap vf l fr n :=
  h.kept (hb.block _ h.lt) (hb.block _ h.glt.2) (fun k hk => hb.block _ (h.fown.lt k hk).2)
end

theorem empty23 (w : World) : Calls Try.prog 23 #[] w fun e w' => e = .returned (.agg ndA0) ∧ Below w.heap.size w w' := by
  have hu56 := Try.underlying56
  have hu54 := Try.underlying54
  go_enter Try.func23, Try.ntmps23
  go_wp2
  refine bodyPost_ret (results_cell_row rfl _ _ w.heap.size 56 ndA0 (0, 0) _ rfl ?_ Try.underlying56 rfl (by kernel_rfl)) rfl ?_
  · exact heap_alloc_new w _
  · exact ⟨rfl, bel_alloc (Below.refl _ _) _⟩
end Go.Proofs.Ytfpbcdlfcaglgaa.P
