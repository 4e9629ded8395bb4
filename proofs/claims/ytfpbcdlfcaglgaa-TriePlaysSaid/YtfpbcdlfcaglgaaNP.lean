/- The trie, plainly: how many nodes there are; routes in another order; two tries in one world (layer 14). -/
import Derived.Test.YtfpbcdlfcaglgaaNO
import Derived.Test.YtfpbcdlfcaglgaaNK
namespace Go.Proofs.Ytfpbcdlfcaglgaa.P
open Go.RowKit

theorem nodup_le {α : Type} [DecidableEq α] : ∀ (a b : List α), a.Nodup → (∀ x ∈ a, x ∈ b) → a.length ≤ b.length := by
  intro a
  induction a with
  | nil => intro b _ _; exact Nat.zero_le _
  | cons x a ih =>
    intro b hn h
    have hx := h x (by simp)
    have hn2 := List.nodup_cons.1 hn
    have := ih (b.erase x) hn2.2 fun y hy => (List.mem_erase_of_ne (fun (e : y = x) => hn2.1 (e ▸ hy))).2 (h y (by simp [hy]))
    rw [List.length_erase_of_mem hx] at this
    have hb := List.length_pos_of_mem hx
    rw [List.length_cons]
    omega
theorem nodup_eq {α : Type} [DecidableEq α] {a b : List α} (ha : a.Nodup) (hb : b.Nodup) (h : ∀ x, x ∈ a ↔ x ∈ b) : a.length = b.length :=
  Nat.le_antisymm (nodup_le a b ha fun x hx => (h x).1 hx) (nodup_le b a hb fun x hx => (h x).2 hx)
theorem map_nodup {α β : Type} {f : α → β} : ∀ {l : List α}, l.Nodup → (∀ x ∈ l, ∀ y ∈ l, f x = f y → x = y) → (l.map f).Nodup := by
  intro l
  induction l with
  | nil => intro _ _; exact List.nodup_nil
  | cons x l ih =>
    intro hn hf
    have hn2 := List.nodup_cons.1 hn
    rw [List.map_cons, List.nodup_cons]
    refine ⟨fun hm => ?_, ih hn2.2 fun a ha b hb => hf a (by simp [ha]) b (by simp [hb])⟩
    obtain ⟨y, hy, e⟩ := List.mem_map.1 hm
    have := hf y (by simp [hy]) x (by simp) e
    exact hn2.1 (this ▸ hy)
theorem nodup_filter {α : Type} {l : List α} (f : α → Bool) (h : l.Nodup) : (l.filter f).Nodup := List.Pairwise.sublist List.filter_sublist h
/-- The beginnings of a route's prefix that none of some others has. -/
def newP (old : List Rt) (r : Rt) : List (List Bool) := ((List.range r.bt.toNat).map fun b => pth r.ad (b + 1)).filter fun p => !(old.any fun y => decide (p <+: ofR y))
def pfx : List Rt → List Rt → List (List Bool)
  | _, [] => []
  | old, r :: l => newP old r ++ pfx (old ++ [r]) l
def Has (now : List Rt) (p : List Bool) : Prop := ∃ y ∈ now, p <+: ofR y
theorem newP_iff (old : List Rt) (r : Rt) (p : List Bool) : p ∈ newP old r ↔ p ≠ [] ∧ p <+: ofR r ∧ ¬ Has old p := by
  rw [newP, List.mem_filter]
  have h1 : (p ∈ (List.range r.bt.toNat).map fun b => pth r.ad (b + 1)) ↔ p ≠ [] ∧ p <+: ofR r := by
    rw [List.mem_map, ofR, pth_prefix]
    constructor
    · rintro ⟨b, hb, rfl⟩
      rw [List.mem_range] at hb
      refine ⟨fun e => ?_, by rw [pth_len]; omega, by rw [pth_len]⟩
      have := congrArg List.length e
      simp [pth_len] at this
    · rintro ⟨h1, h2, h3⟩
      have hp : 0 < p.length := List.length_pos_iff.2 h1
      exact ⟨p.length - 1, List.mem_range.2 (by omega), by rw [Nat.sub_add_cancel hp]; exact h3.symm⟩
  have h2 : (!(old.any fun y => decide (p <+: ofR y))) = true ↔ ¬ Has old p := by
    rw [Bool.not_eq_true', Bool.eq_false_iff, ne_eq, List.any_eq_true]
    simp [Has]
  rw [h1, h2, and_assoc]
theorem pfx_iff : ∀ (l old : List Rt) (p : List Bool), p ∈ pfx old l ↔ p ≠ [] ∧ Has l p ∧ ¬ Has old p := by
  intro l
  induction l with
  | nil => intro old p; simp [pfx, Has]
  | cons r l ih =>
    intro old p
    rw [pfx, List.mem_append, newP_iff, ih]
    have e1 : Has (r :: l) p ↔ p <+: ofR r ∨ Has l p := by simp [Has]
    have e2 : Has (old ++ [r]) p ↔ Has old p ∨ p <+: ofR r := by
      simp only [Has, List.mem_append, List.mem_singleton]
      constructor
      · rintro ⟨y, h1 | rfl, h2⟩
        · exact .inl ⟨y, h1, h2⟩
        · exact .inr h2
      · rintro (⟨y, h1, h2⟩ | h2)
        · exact ⟨y, .inl h1, h2⟩
        · exact ⟨r, .inr rfl, h2⟩
    rw [e1, e2]
    constructor
    · rintro (⟨h1, h2, h3⟩ | ⟨h1, h2, h3⟩)
      · exact ⟨h1, .inl h2, h3⟩
      · exact ⟨h1, .inr h2, fun h => h3 (.inl h)⟩
    · rintro ⟨h1, h2, h3⟩
      by_cases h4 : p <+: ofR r
      · exact .inl ⟨h1, h4, h3⟩
      · rcases h2 with h2 | h2
        · exact absurd h2 h4
        · exact .inr ⟨h1, h2, fun h => h.elim h3 h4⟩
theorem pfx_nodup : ∀ (l old : List Rt), (pfx old l).Nodup := by
  intro l
  induction l with
  | nil => intro old; exact List.nodup_nil
  | cons r l ih =>
    intro old
    rw [pfx, List.nodup_append]
    refine ⟨?_, ih _, fun a ha b hb e => ?_⟩
    · rw [newP]
      refine nodup_filter _ (map_nodup List.nodup_range fun x _ y _ e => ?_)
      have := congrArg List.length e
      rw [pth_len, pth_len] at this
      omega
    · subst e
      have h1 := (newP_iff old r a).1 ha
      exact ((pfx_iff l _ a).1 hb).2.2 ⟨r, by simp, h1.2.1⟩
/-- How many nodes routes need. -/
def ndsN (now : List Rt) : Nat := 1 + (pfx [] now).length
theorem Inv.nodes {l : List Nd} {fr : List Nat} {now : List Rt} {n : Int} (h : Inv l fr n now) : fr.length ≤ l.length ∧ l.length - fr.length = ndsN now := by
  obtain ⟨_, G, hc, hr⟩ := h
  have e1 : (([] : List Bool) :: pfx [] now).length = ndsN now := by rw [List.length_cons, ndsN]; omega
  have hdead : ((List.range l.length).filter fun i => !(G i).isSome).length = fr.length := by
    refine nodup_eq (nodup_filter _ List.nodup_range) hc.frn fun i => ?_
    rw [List.mem_filter, List.mem_range]
    constructor
    · rintro ⟨h1, h2⟩
      refine hc.all i h1 ?_
      cases hg : G i with
      | none => rfl
      | some p => rw [hg] at h2; cases h2
    · intro hi
      refine ⟨hc.frl i hi, ?_⟩
      cases hg : G i with
      | none => rfl
      | some p => exact absurd hi (hc.lt i p hg).2
  have hlive : (((List.range l.length).filter fun i => (G i).isSome).map fun i => (G i).getD []).length = ndsN now := by
    rw [← e1]
    have hex : ∀ i, (G i).isSome = true → ∃ p, G i = some p := fun i h => Option.isSome_iff_exists.1 h
    refine nodup_eq (map_nodup (nodup_filter _ List.nodup_range) fun i hi j hj e => ?_) ?_ fun p => ?_
    · obtain ⟨p, hp⟩ := hex i (List.mem_filter.1 hi).2
      obtain ⟨q, hq⟩ := hex j (List.mem_filter.1 hj).2
      rw [hp, hq] at e
      have e2 : p = q := e
      subst e2
      exact hc.inj _ _ _ hp hq
    · rw [List.nodup_cons]
      exact ⟨fun h => ((pfx_iff now [] []).1 h).1 rfl, pfx_nodup _ _⟩
    · rw [List.mem_map, List.mem_cons, pfx_iff]
      constructor
      · rintro ⟨i, hi, rfl⟩
        obtain ⟨p, hp⟩ := hex i (List.mem_filter.1 hi).2
        rw [hp]
        show p = [] ∨ _
        by_cases h0 : p = []
        · exact .inl h0
        · right
          refine ⟨h0, ?_, fun h => by obtain ⟨y, hy, _⟩ := h; cases hy⟩
          rcases hr.dead i p hp with h1 | h1
          · exact absurd (List.prefix_nil.1 h1) h0
          · exact h1
      · have key : ∀ i, G i = some p → ∃ a, a ∈ (List.range l.length).filter (fun i => (G i).isSome) ∧ (G a).getD [] = p := fun i hi =>
          ⟨i, List.mem_filter.2 ⟨List.mem_range.2 (hc.lt i p hi).1, by rw [hi]; rfl⟩, by rw [hi]; rfl⟩
        rintro (rfl | ⟨_, ⟨y, hy, h2⟩, _⟩)
        · exact key 0 hc.root
        · obtain ⟨i, z, hi, _, _⟩ := hr.back y hy
          obtain ⟨j, hj⟩ := hc.up p.length (ofR y) i hi h2.length_le
          rw [← List.prefix_iff_eq_take.1 h2] at hj
          exact key j hj
  have hsum : ∀ (ls : List Nat) (f : Nat → Bool), (ls.filter f).length + (ls.filter fun i => !f i).length = ls.length := fun ls f => by
    induction ls with
    | nil => rfl
    | cons a ls ih => cases hf : f a <;> simp [hf] <;> omega
  have := hsum (List.range l.length) (fun i => (G i).isSome)
  rw [List.length_map] at hlive
  rw [hdead, hlive, List.length_range] at this
  omega
/-- The same routes. -/
def Same (a b : List Rt) : Prop := ∀ y, y ∈ a ↔ y ∈ b
theorem nodes_same {a b : List Rt} (h : Same a b) : ndsN a = ndsN b := by
  unfold ndsN
  congr 1
  refine nodup_eq (pfx_nodup _ _) (pfx_nodup _ _) fun p => ?_
  rw [pfx_iff, pfx_iff]
  have : Has a p ↔ Has b p := by
    constructor
    · rintro ⟨y, h1, h2⟩; exact ⟨y, (h y).1 h1, h2⟩
    · rintro ⟨y, h1, h2⟩; exact ⟨y, (h y).2 h1, h2⟩
  rw [this]
theorem uniq_eq {now : List Rt} (hu : now.Pairwise fun r s => ofR r ≠ ofR s) {x y : Rt} (hx : x ∈ now) (hy : y ∈ now) (h : ofR x = ofR y) : x = y := by
  induction now with
  | nil => cases hx
  | cons z now ih =>
    have hu2 := List.pairwise_cons.1 hu
    rcases List.mem_cons.1 hx with e1 | h1
    · rcases List.mem_cons.1 hy with e2 | h2
      · rw [e1, e2]
      · rw [e1] at h; exact absurd h (hu2.1 y h2)
    · rcases List.mem_cons.1 hy with e2 | h2
      · rw [e2] at h; exact absurd h.symm (hu2.1 x h1)
      · exact ih hu2.2 h1 h2
def Uq (now : List Rt) : Prop := now.Pairwise fun r s => ofR r ≠ ofR s
theorem find_same {a b : List Rt} (hu : Uq a) (h : Same a b) {ad : Nat} {o o' : Option Rt} (h1 : FindR a ad o) (h2 : FindR b ad o') : o = o' := by
  rcases h1 with ⟨x, rfl, hx, hh, hm⟩ | ⟨rfl, hn⟩
  · rcases h2 with ⟨y, rfl, hy, hh2, hm2⟩ | ⟨rfl, hn2⟩
    · have hya := (h y).2 hy
      have e1 := hm y hya hh2
      have e2 := hm2 x ((h x).1 hx) hh
      have e3 : x.bt = y.bt := by omega
      rw [uniq_eq hu hx hya (by unfold Hld at hh hh2; rw [hh, hh2, e3])]
    · exact absurd hh (hn2 x ((h x).1 hx))
  · rcases h2 with ⟨y, rfl, hy, hh2, _⟩ | ⟨rfl, _⟩
    · exact absurd hh2 (hn y ((h y).2 hy))
    · rfl
theorem TrS.uq {w : World} {M B g K : Nat} {vf : Value} {now : List Rt} (h : TrS w M B g vf K now) : Uq now := by
  obtain ⟨cap, l, fr, n, _, ⟨_, G, _, hr⟩, _⟩ := h
  exact hr.uniq
theorem TrS.lt {w : World} {M B g K : Nat} {vf : Value} {now : List Rt} (h : TrS w M B g vf K now) : B < w.heap.size ∧ g < w.heap.size ∧ ∀ k, vf.ownBlock = some k → k < w.heap.size := by
  obtain ⟨cap, l, fr, n, ht, _⟩ := h
  exact ⟨ht.lt, ht.glt.2, fun k hk => (ht.fown.lt k hk).2⟩
theorem TrS.lower {w : World} {M M' B g K : Nat} {vf : Value} {now : List Rt} (h : TrS w M B g vf K now) (hM : M' ≤ M) : TrS w M' B g vf K now := by
  obtain ⟨cap, l, fr, n, ht, h2⟩ := h
  exact ⟨cap, l, fr, n, ⟨Nat.le_trans hM ht.base, ht.pos, ht.blk, own_lower ht.own hM, own_lower ht.fown hM⟩, h2⟩
/-- Two tries lie apart. -/
structure Sep (B g : Nat) (vf : Value) (B' g' : Nat) (vf' : Value) : Prop where
  b : B ≠ B'
  g : g ≠ g'
  v : ∀ k, vf.ownBlock = some k → vf'.ownBlock ≠ some k
theorem Sep.symm {B g B' g' : Nat} {vf vf' : Value} (h : Sep B g vf B' g' vf') : Sep B' g' vf' B g vf := ⟨h.b.symm, h.g.symm, fun k h1 h2 => h.v k h2 h1⟩
theorem Sep.chg {w w' : World} {B g B' g' g2 M K : Nat} {vf vf' vf2 : Value} {now : List Rt} (h : Sep B g vf B' g' vf') (hc : Chg B g vf w w' g2 vf2) (h' : TrS w M B' g' vf' K now) : Sep B g2 vf2 B' g' vf' := by
  obtain ⟨_, h2, h3⟩ := h'.lt
  refine ⟨h.b, ?_, fun k h4 h5 => ?_⟩
  · rcases hc.gl with e | e
    · rw [e]; exact h.g
    · omega
  · rcases hc.fl k h4 with e | e
    · exact h.v k e h5
    · have := h3 k h5; omega
theorem TrS.keep {w w' : World} {M B g M' B' g' K K' g2 : Nat} {vf vf' vf2 : Value} {now now' : List Rt} (h : TrS w M B g vf K now) (h' : TrS w M' B' g' vf' K' now') (hs : Sep B g vf B' g' vf') (hc : Chg B' g' vf' w w' g2 vf2) : TrS w' M B g vf K now := by
  obtain ⟨cap, l, fr, n, ht, h2⟩ := h
  obtain ⟨cap', l', fr', n', ht', _⟩ := h'
  obtain ⟨cg, hcg, _⟩ := ht.gblk
  obtain ⟨cg', hcg', _⟩ := ht'.gblk
  refine ⟨cap, l, fr, n, ht.kept (hc.block B ht.lt hs.b (fun e => ?_) (own_not ht'.fown ht.blk (by decide))) (hc.block g ht.glt.2 (fun e => ?_) hs.g (own_not ht'.fown hcg (by decide))) (fun k hk => hc.block k (ht.fown.lt k hk).2 (fun e => ?_) (fun e => ?_) (fun e => hs.v k hk e)), h2⟩
  · have := ht.blk
    rw [e, hcg'] at this
    cases this
  · have := ht'.blk
    rw [← e, hcg] at this
    cases this
  · subst e
    exact own_not ht.fown ht'.blk (by decide) hk
  · subst e
    exact own_not ht.fown hcg' (by decide) hk
/-- A row of another type is kept. -/
theorem own_chg {w w' : World} {M B g K g2 b e s n : Nat} {vf vf2 v : Value} {now : List Rt} {xs : List Value} (h : w.ownsRow b e s v n xs) (ht : TrS w M B g vf K now) (hc : Chg B g vf w w' g2 vf2) (h1 : e ≠ 61) (h2 : e ≠ 56) (h3 : e ≠ 3) : w'.ownsRow b e s v n xs := by
  obtain ⟨cap, l, fr, m, ht, _⟩ := ht
  obtain ⟨cg, hcg, _⟩ := ht.gblk
  refine own_keep h fun k hk => ?_
  refine hc.block k (h.lt k hk).2 (fun e => ?_) (fun e => ?_) (fun e => ?_)
  · subst e; exact own_not h ht.blk (Ne.symm h1) hk
  · subst e; exact own_not h hcg (Ne.symm h2) hk
  · rcases ht.fown.2 with ⟨rfl, _⟩ | ⟨g', c', cur, rfl, _, hg, _⟩
    · cases e
    · cases e
      exact own_not h hg (Ne.symm h3) hk
/-- A trie is kept where a row of another type grows. -/
theorem TrS.grown {w w' : World} {M B g K b e s n : Nat} {vf v : Value} {now : List Rt} {xs : List Value} (h : TrS w M B g vf K now) (ho : w.ownsRow b e s v n xs) (hg : w.grownBy w' v.ownBlock) (h1 : e ≠ 61) (h2 : e ≠ 56) (h3 : e ≠ 3) : TrS w' M B g vf K now := by
  obtain ⟨cap, l, fr, m, ht, hi⟩ := h
  obtain ⟨cg, hcg, _⟩ := ht.gblk
  refine ⟨cap, l, fr, m, ht.kept (hg.block B ht.lt fun e => own_not ho ht.blk (Ne.symm h1) e.symm) (hg.block g ht.glt.2 fun e => own_not ho hcg (Ne.symm h2) e.symm) (fun k hk => hg.block k (ht.fown.lt k hk).2 fun e => ?_), hi⟩
  rcases ht.fown.2 with ⟨rfl, _⟩ | ⟨g', c', cur, rfl, _, hgg, _⟩
  · cases hk
  · cases hk
    exact own_not ho hgg (Ne.symm h3) e.symm
end Go.Proofs.Ytfpbcdlfcaglgaa.P
