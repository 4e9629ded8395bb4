/- What a trie's functions write: laws of memory; contract of fresh (layer 14). -/
import Derived.Test.YtfpbcdlfcaglgaaNA
namespace Go.Proofs.Ytfpbcdlfcaglgaa.P
open Go.RowKit

theorem setCells_far {g : Nat} : ∀ (vs : List Value) (o : Nat) {w : World} (k : Nat), k ≠ g → (w.setCells g o vs).heap[k]? = w.heap[k]?
  | [], _, _, _, _ => rfl
  | v :: r, o, w, k, hk => by
    rw [World.setCells, setCells_far r (o + 1) k hk]
    exact Below.heap_setCell w ⟨g, o, none⟩ v k hk
theorem setCells_same (g : Nat) : ∀ (vs : List Value) (o : Nat) (w : World), (w.setCells g o vs).os = w.os ∧ (w.setCells g o vs).tape = w.tape ∧ (w.setCells g o vs).output = w.output ∧ (w.setCells g o vs).heap.size = w.heap.size
  | [], _, _ => ⟨rfl, rfl, rfl, rfl⟩
  | v :: r, o, w => by
    obtain ⟨h1, h2, h3, h4⟩ := setCells_same g r (o + 1) (w.setCell ⟨g, o, none⟩ v)
    rw [World.setCells]
    exact ⟨h1, h2, h3, by rw [h4]; simp [World.setCell]⟩
theorem own_set {w : World} {b e s n g cap : Nat} {xs : List Value} (h : w.ownsRow b e s (.slice (some ⟨g, 0, none⟩) n cap) n xs) (j : Nat) (u : Value) :
    (w.setCell ⟨g, j, none⟩ u).ownsRow b e s (.slice (some ⟨g, 0, none⟩) n cap) n (xs.set j u) := by
  refine ⟨by rw [List.length_set]; exact h.1, ?_⟩
  rcases h.2 with ⟨h, _⟩ | ⟨g', cap', cur, h, hb, hg, h3, h4, h5, h6⟩
  · cases h
  · cases h
    exact .inr ⟨g, cap, cur.setIfInBounds j u, rfl, hb, heap_setCell_same w g j cur e u hg, h3, h4, by simpa using h5, by rw [Array.toList_setIfInBounds, List.take_set, h6]⟩
theorem own_not {w : World} {b e s n k t : Nat} {v : Value} {xs : List Value} {cs : Array Value} {fr : Nat × Nat} (h : w.ownsRow b e s v n xs) (hk : w.heap[k]? = some (.cells cs t fr)) (ht : t ≠ e) : v.ownBlock ≠ some k := by
  intro hv
  rcases h.2 with ⟨rfl, _⟩ | ⟨g, cap, cur, rfl, hb, hg, _⟩
  · cases hv
  · cases hv
    rw [hk] at hg
    cases hg
    exact ht rfl
/-- What a function of a trie's may turn beside blocks that it makes. -/
structure Chg (B g : Nat) (vf : Value) (w w' : World) (g' : Nat) (vf' : Value) : Prop where
  os : w'.os = w.os
  tape : w'.tape = w.tape
  output : w'.output = w.output
  size : w.heap.size ≤ w'.heap.size
  block : ∀ k, k < w.heap.size → k ≠ B → k ≠ g → vf.ownBlock ≠ some k → w'.heap[k]? = w.heap[k]?
  gl : g' = g ∨ w.heap.size ≤ g'
  fl : ∀ k, vf'.ownBlock = some k → vf.ownBlock = some k ∨ w.heap.size ≤ k
theorem Chg.refl (B g : Nat) (vf : Value) (w : World) : Chg B g vf w w g vf := ⟨rfl, rfl, rfl, Nat.le_refl _, fun _ _ _ _ _ => rfl, .inl rfl, fun _ h => .inl h⟩
theorem Chg.trans {B g g' g'' : Nat} {vf vf' vf'' : Value} {a b c : World} (h : Chg B g vf a b g' vf') (k : Chg B g' vf' b c g'' vf'') : Chg B g vf a c g'' vf'' := by
  refine ⟨k.os.trans h.os, k.tape.trans h.tape, k.output.trans h.output, Nat.le_trans h.size k.size, fun i hi hb hg hv => ?_, ?_, fun i hi => ?_⟩
  · refine (k.block i (Nat.lt_of_lt_of_le hi h.size) hb (fun e => ?_) (fun e => ?_)).trans (h.block i hi hb hg hv)
    · rcases h.gl with h1 | h1
      · exact hg (e.trans h1)
      · omega
    · rcases h.fl i e with h1 | h1
      · exact hv h1
      · omega
  · rcases k.gl with h1 | h1
    · rw [h1]; exact h.gl
    · exact .inr (Nat.le_trans h.size h1)
  · rcases k.fl i hi with h1 | h1
    · exact h.fl i h1
    · exact .inr (Nat.le_trans h.size h1)
theorem Chg.of_below {B g : Nat} {vf : Value} {w w' : World} (h : Below w.heap.size w w') : Chg B g vf w w' g vf :=
  ⟨h.os, h.tape, h.output, h.size, fun k hk _ _ _ => h.block k hk, .inl rfl, fun _ h => .inl h⟩
theorem Chg.setB {B g : Nat} {vf vf' : Value} {w : World} (j : Nat) (u : Value) (hv : ∀ k, vf'.ownBlock = some k → vf.ownBlock = some k ∨ w.heap.size ≤ k) : Chg B g vf w (w.setCell ⟨B, j, none⟩ u) g vf' :=
  ⟨rfl, rfl, rfl, by simp [World.setCell], fun k _ hb _ _ => Below.heap_setCell _ _ _ _ hb, .inl rfl, hv⟩
theorem Chg.setg {B g : Nat} {vf : Value} {w : World} (j : Nat) (u : Value) : Chg B g vf w (w.setCell ⟨g, j, none⟩ u) g vf :=
  ⟨rfl, rfl, rfl, by simp [World.setCell], fun k _ _ hg _ => Below.heap_setCell _ _ _ _ hg, .inl rfl, fun _ h => .inl h⟩
theorem Chg.setgs {B g : Nat} {vf : Value} {w : World} (o : Nat) (us : List Value) : Chg B g vf w (w.setCells g o us) g vf := by
  obtain ⟨h1, h2, h3, h4⟩ := setCells_same g us o w
  exact ⟨h1, h2, h3, by rw [h4]; exact Nat.le_refl _, fun k _ _ hg _ => setCells_far us o k hg, .inl rfl, fun _ h => .inl h⟩
theorem Chg.below {M B g cap : Nat} {vf : Value} {l : List Nd} {fr : List Nat} {n : Int} {w w' : World} {g' : Nat} {vf' : Value} (h : Chg B g vf w w' g' vf') (t : Tri w M B g cap vf l fr n) : Below M w w' :=
  ⟨h.os, h.tape, h.output, h.size, fun k hk => by
    have h1 := t.base
    have h2 := t.glt
    have h3 := t.lt
    exact h.block k (by omega) (by omega) (by omega) (fun e => by have := (t.fown.lt k e).1; omega)⟩
section
variable {w : World} {M B g cap : Nat} {vf : Value} {l : List Nd} {fr : List Nat} {n : Int}
theorem Tri.gblk (h : Tri w M B g cap vf l fr n) : ∃ cur, w.heap[g]? = some (.cells cur 56 (0, 0)) ∧ cur.size = cap * 6 := by
  rcases h.own.2 with ⟨h, _⟩ | ⟨g', cap', cur, h, _, h2, _, _, h3, _⟩
  · cases h
  · cases h; exact ⟨cur, h2, h3⟩
theorem Tri.Bg (h : Tri w M B g cap vf l fr n) : B ≠ g := by
  obtain ⟨cur, hg, _⟩ := h.gblk
  intro e
  have := h.blk
  rw [e, hg] at this
  cases this
theorem Tri.fB (h : Tri w M B g cap vf l fr n) : vf.ownBlock ≠ some B := own_not h.fown h.blk (by decide)
theorem Tri.fg (h : Tri w M B g cap vf l fr n) : vf.ownBlock ≠ some g := by
  obtain ⟨cur, hg, _⟩ := h.gblk
  exact own_not h.fown hg (by decide)
theorem Tri.fzg (h : Tri w M B g cap vf l fr n) (j : Nat) : w.frozen? ⟨g, j, none⟩ = false := by
  obtain ⟨cur, hg, _⟩ := h.gblk
  exact frozen_of_row w g j _ _ hg
theorem Tri.setC (h : Tri w M B g cap vf l fr n) (m : Int) : Tri (w.setCell ⟨B, 2, none⟩ (.int .i64 m)) M B g cap vf l fr m :=
  ⟨h.base, h.pos, heap_setCell_same w B 2 _ 61 _ h.blk, ownsRow_setCell_other h.own (fun e => h.Bg (Option.some.inj e).symm) _, ownsRow_setCell_other h.fown h.fB _⟩
theorem Tri.setF (h : Tri w M B g cap vf l fr n) {vf' : Value} {fr' : List Nat} (ho : w.ownsRow M 3 1 vf' fr'.length (intsL fr')) : Tri (w.setCell ⟨B, 1, none⟩ vf') M B g cap vf' l fr' n :=
  ⟨h.base, h.pos, heap_setCell_same w B 1 _ 61 _ h.blk, ownsRow_setCell_other h.own (fun e => h.Bg (Option.some.inj e).symm) _, ownsRow_setCell_other ho (own_not ho h.blk (by decide)) _⟩
theorem Tri.setN (h : Tri w M B g cap vf l fr n) (i j : Nat) (x y : Nd) (v : Value) (hx : l[i]? = some x) (hj : j < 6) (hy : (ndC x).set j v = ndC y) : Tri (w.setCell ⟨g, i * 6 + j, none⟩ v) M B g cap vf (l.set i y) fr n := by
  refine ⟨h.base, by rw [List.length_set]; exact h.pos, ?_, ?_, ownsRow_setCell_other h.fown h.fg _⟩
  · rw [heap_setCell_other _ _ _ _ h.Bg, List.length_set]; exact h.blk
  · rw [List.length_set, ← ndsL_set l i j x y v hx hj hy]
    exact own_set h.own _ _
theorem Tri.setR (h : Tri w M B g cap vf l fr n) (i : Nat) (x : Nd) (r : Rt) (hx : l[i]? = some x) : Tri (w.setCells g (i * 6 + 2) (rtA r).toList) M B g cap vf (l.set i ⟨x.a, x.b, r, x.has⟩) fr n := by
  have hi := (List.getElem?_eq_some_iff.1 hx).1
  have e : ∀ y, (l.set i y)[i]? = some y := fun y => by simp [hi]
  have h1 := h.setN i 2 x ⟨x.a, x.b, ⟨r.ad, x.r.bt, x.r.ou⟩, x.has⟩ (.int .u32 r.ad) hx (by omega) rfl
  have h2 := h1.setN i 3 ⟨x.a, x.b, ⟨r.ad, x.r.bt, x.r.ou⟩, x.has⟩ ⟨x.a, x.b, ⟨r.ad, r.bt, x.r.ou⟩, x.has⟩ (.int .i64 r.bt) (e _) (by omega) rfl
  have h3 := h2.setN i 4 ⟨x.a, x.b, ⟨r.ad, r.bt, x.r.ou⟩, x.has⟩ ⟨x.a, x.b, r, x.has⟩ (.int .i64 r.ou) (by rw [List.set_set]; exact e _) (by omega) rfl
  rw [List.set_set, List.set_set] at h3
  exact h3
theorem Tri.set0 (h : Tri w M B g cap vf l fr n) (i : Nat) (hi : i < l.length) : Tri (w.setCells g (i * 6) ndA0.toList) M B g cap vf (l.set i nd0) fr n := by
  have hx : l[i]? = some l[i] := List.getElem?_eq_getElem hi
  generalize l[i] = x at hx
  have e : ∀ y, (l.set i y)[i]? = some y := fun y => by simp [hi]
  have h1 := h.setN i 0 x ⟨-1, x.b, x.r, x.has⟩ (.int .i64 (-1)) hx (by omega) rfl
  have h2 := h1.setN i 1 ⟨-1, x.b, x.r, x.has⟩ ⟨-1, -1, x.r, x.has⟩ (.int .i64 (-1)) (e _) (by omega) rfl
  rw [List.set_set] at h2
  have h3 := h2.setR i ⟨-1, -1, x.r, x.has⟩ rt0 (e _)
  rw [List.set_set] at h3
  have h4 := h3.setN i 5 ⟨-1, -1, rt0, x.has⟩ nd0 (.bool false) (e _) (by omega) rfl
  rw [List.set_set] at h4
  exact h4
theorem Tri.drew (h : Tri w M B g cap vf l fr n) : Tri w.drew M B g cap vf l fr n := h.kept rfl rfl (fun _ _ => rfl)
theorem Chg.drew {w' : World} {g' : Nat} {vf' : Value} (h : Chg B g vf w w' g' vf') : Chg B g vf w w'.drew g' vf' := ⟨h.os, h.tape, h.output, h.size, h.block, h.gl, h.fl⟩
end
end Go.Proofs.Ytfpbcdlfcaglgaa.P
