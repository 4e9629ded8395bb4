/- How arguments that are read as data give what the walks ask: cells and kinds, type by type. Over any program. -/
import Derived.Test.YtakfnghakbjncaaVMore
import Derived.ProofKit
import Derived.OpenShut
import Derived.Deep.Slices
namespace Go.Proofs.Ytakfnghakbjncaa.Rd
open Go.RowKit Go.ChangeShapes Go.WideShapes Go.Proofs.YtakfnghakbjncaaW.PrintWords

/-- What is read at type t has the cells of an a of this kind, and ok holds of a. -/
structure Reads (P : Program) (t : TypeId) {α : Type} (k : Kd α) (ok : α → Prop) : Prop where
  out : ∀ {H : Type} (enc : TypeId × Value → H) (W : World) (base : Nat) (spare : Nat → Bool) (held : Bool) (fuel : Nat) (cs : List Value) (x : DataW H × List MemPlace),
    DataW.trod enc P W base spare held fuel t cs = some x → ∃ a, k.K W a cs ∧ ok a

section
variable {P : Program}
theorem reads_int {t : TypeId} {k : IntKind} (ht : P.underlying t = some (.int k)) : Reads P t (Kd.int k) (fun x => (Lit.int k x).wf = true) := by
  refine ⟨?_⟩
  intro H enc W base spare held fuel cs x h
  obtain ⟨n, rfl, _, hw⟩ := DataW.trod_int ht h
  exact ⟨n, rfl, hw⟩
theorem reads_bool {t : TypeId} (ht : P.underlying t = some .bool) : Reads P t Kd.bool (fun _ => True) := by
  refine ⟨?_⟩
  intro H enc W base spare held fuel cs x h
  obtain ⟨b, rfl, _⟩ := DataW.trod_bool ht h
  exact ⟨b, rfl, trivial⟩
theorem reads_string {t : TypeId} (ht : P.underlying t = some .string) : Reads P t Kd.string (fun s => s.size ≤ maxLen) := by
  refine ⟨?_⟩
  intro H enc W base spare held fuel cs x h
  obtain ⟨s, rfl, _, hs⟩ := DataW.trod_string ht h
  exact ⟨s, rfl, hs⟩
theorem reads_iso {t : TypeId} {α β : Type} {k : Kd α} {ok : α → Prop} (h : Reads P t k ok) (f : β → α) (g : α → β) (hfg : ∀ a, f (g a) = a) : Reads P t (Kd.iso k f) (fun b => ok (f b)) := by
  refine ⟨?_⟩
  intro H enc W base spare held fuel cs x hx
  obtain ⟨a, hk, ho⟩ := h.out enc W base spare held fuel cs x hx
  exact ⟨g a, by show k.K W (f (g a)) cs; rw [hfg]; exact hk, by show ok (f (g a)); rw [hfg]; exact ho⟩

/-- The fields of a struct from one on, whose cells begin at o. -/
structure ReadsF (P : Program) (fs : List Field) (o : Nat) {α : Type} (k : Kd α) (ok : α → Prop) : Prop where
  out : ∀ {H : Type} (enc : TypeId × Value → H) (W : World) (base : Nat) (spare : Nat → Bool) (held : Bool) (n : Nat) (cs : List Value), cs.length = o + k.sz →
    (∀ f ∈ fs, ∃ y, DataW.trod enc P W base spare held n f.type ((cs.drop f.offset).take (P.cellsOf f.type)) = some y) → ∃ a, k.K W a (cs.drop o) ∧ ok a
theorem readsF_one {f : Field} {o : Nat} {α : Type} {k : Kd α} {ok : α → Prop} (h : Reads P f.type k ok) (ho : f.offset = o) (hc : P.cellsOf f.type = k.sz) : ReadsF P [f] o k ok := by
  refine ⟨?_⟩
  intro H enc W base spare held n cs hl hf
  obtain ⟨y, hy⟩ := hf f (List.mem_singleton.2 rfl)
  rw [ho, hc, List.take_of_length_le (by rw [List.length_drop, hl]; omega)] at hy
  exact h.out enc W base spare held n _ y hy
theorem readsF_cons {f : Field} {fs : List Field} {o : Nat} {α β : Type} {k : Kd α} {ok : α → Prop} {k' : Kd β} {ok' : β → Prop} (h : Reads P f.type k ok) (ho : f.offset = o) (hc : P.cellsOf f.type = k.sz) (hs : ReadsF P fs (o + k.sz) k' ok') :
    ReadsF P (f :: fs) o (Kd.pair k k') (fun a => ok a.1 ∧ ok' a.2) := by
  refine ⟨?_⟩
  intro H enc W base spare held n cs hl hf
  have hl' : cs.length = o + (k.sz + k'.sz) := hl
  obtain ⟨y, hy⟩ := hf f (List.mem_cons_self ..)
  rw [ho, hc] at hy
  obtain ⟨a, ha, oka⟩ := h.out enc W base spare held n _ y hy
  obtain ⟨b, hb, okb⟩ := hs.out enc W base spare held n cs (by omega) (fun g hg => hf g (List.mem_cons_of_mem _ hg))
  refine ⟨(a, b), ⟨(cs.drop o).take k.sz, cs.drop (o + k.sz), ?_, ha, hb⟩, oka, okb⟩
  rw [← List.drop_drop, List.take_append_drop]
theorem reads_struct {t : TypeId} {fs : Array Field} {α : Type} {k : Kd α} {ok : α → Prop} (ht : P.underlying t = some (.struct fs)) (hc : P.cellsOf t = k.sz) (h : ReadsF P fs.toList 0 k ok) : Reads P t k ok := by
  refine ⟨?_⟩
  intro H enc W base spare held fuel cs x hx
  obtain ⟨xs, n, _, _, hl, hlen, hf⟩ := DataW.trod_struct ht hx
  have := h.out enc W base spare held n cs (by omega) (fun f hf' => by
    obtain ⟨i, hi⟩ := List.getElem?_of_mem hf'
    have hi' : fs[i]? = some f := by simpa using hi
    have hil : i < xs.length := by rw [hlen]; exact (Array.getElem?_eq_some_iff.1 hi').1
    exact ⟨xs[i], by rw [hf i f hi', List.getElem?_eq_getElem hil]⟩)
  simpa using this
theorem cellsFrom_get (w : World) : ∀ (n : Nat) (base : Nat) (a : Addr) (cs : List Value), w.cells? base a n = some cs → cs.length = n ∧ ∀ i u, cs[i]? = some u → w.cell? (a.add i) = some u := by
  intro n base a cs h
  obtain ⟨_, hl, hc⟩ := World.cells?_some h
  exact ⟨hl, fun i u hu => by rw [hc i (by rw [← hl]; exact (List.getElem?_eq_some_iff.1 hu).1)]; exact hu⟩
theorem reads_slice {t e : TypeId} {α : Type} {k : Kd α} {ok : α → Prop} (ht : P.underlying t = some (.slice e)) (hc : P.cellsOf e = k.sz) (h : Reads P e k ok) : Reads P t (Kd.slice e k) (fun l => ∀ x ∈ l, ok x) := by
  refine ⟨?_⟩
  intro H enc W base spare held fuel cs x hx
  rcases Go.Deep.open_slice ht hx with ⟨rfl, _⟩ | ⟨a, len, cap, m, n, D, Pl, rfl, _, hl, hm, hmm, hxe, hel⟩
  · exact ⟨[], ⟨none, 0, rfl, Nat.le_refl _, rfl, by simp, fun h => absurd h (Nat.lt_irrefl _)⟩, by simp⟩
  · have hlm : len ≤ m := by rw [hmm]; split <;> omega
    have hev : ∀ i : Nat, i < len → ∃ p : α × List Value, p.2.length = k.sz ∧ k.K W p.1 p.2 ∧ ok p.1 ∧ ∀ j u, p.2[j]? = some u → W.cell? (a.add (i * k.sz + j)) = some u := by
      intro i hi
      obtain ⟨cs', h1, h2⟩ := hel i (by omega)
      obtain ⟨y, hk, ho⟩ := h.out enc W base spare held n cs' _ h2
      rw [hc] at h1
      obtain ⟨h3, h4⟩ := cellsFrom_get W _ _ _ _ h1
      exact ⟨(y, cs'), h3, hk, ho, fun j u hu => by rw [← Go.Deep.add_add]; exact h4 j u hu⟩
    clear hel hmm hlm hx hxe
    obtain ⟨l, hll, hlp⟩ : ∃ l : List (α × List Value), l.length = len ∧ ∀ i p, l[i]? = some p → p.2.length = k.sz ∧ k.K W p.1 p.2 ∧ ok p.1 ∧ ∀ j u, p.2[j]? = some u → W.cell? (a.add (i * k.sz + j)) = some u := by
      clear hl
      induction len with
      | zero => exact ⟨[], rfl, fun i p hp => by simp at hp⟩
      | succ len ih =>
        obtain ⟨l, h1, h2⟩ := ih (fun i hi => hev i (by omega))
        obtain ⟨p, hp⟩ := hev len (by omega)
        refine ⟨l ++ [p], by simp [h1], fun i q hq => ?_⟩
        rcases Nat.lt_or_ge i l.length with hi | hi
        · rw [List.getElem?_append_left hi] at hq; exact h2 i q hq
        · have hi' : i = l.length := by
            have := (List.getElem?_eq_some_iff.1 hq).1
            simp at this; omega
          subst hi'
          simp at hq
          subst hq
          rw [h1]; exact hp
    refine ⟨l.map (·.1), ⟨some a, cap, by rw [List.length_map, hll], by rw [List.length_map, hll]; exact hl, ?_, ?_, ?_⟩, ?_⟩
    · rfl
    · rw [List.length_map, hll]; unfold maxLen at hm; omega
    · intro _
      refine ⟨a, rfl, fun j p hj => ?_⟩
      rw [List.getElem?_map] at hj
      cases hq : l[j]? with
      | none => rw [hq] at hj; cases hj
      | some q =>
        rw [hq] at hj
        simp at hj
        subst hj
        obtain ⟨h1, h2, _, h4⟩ := hlp j q hq
        exact ⟨q.2, h1, h2, h4⟩
    · intro y hy
      obtain ⟨q, hq, rfl⟩ := List.mem_map.1 hy
      obtain ⟨i, hi⟩ := List.getElem?_of_mem hq
      exact (hlp i q hi).2.2.1
theorem agg_of {cs : Array Value} {l : List Value} (h : (Value.agg cs).cells.toList = l) : cs = l.toArray := by
  subst h
  simp [Value.cells]
/-- At an argument. -/
theorem reads_arg {t : TypeId} {α : Type} {k : Kd α} {ok : α → Prop} (h : Reads P t k ok) {H : Type} {enc : TypeId × Value → H} {W : World} {base : Nat} {spare : Nat → Bool} {held : Bool} {v : Value} {d : DataW H} {p : List MemPlace}
    (hx : DataW.Trod enc P W base spare held t v d p) : ∃ a, k.K W a v.cells.toList ∧ ok a := by
  obtain ⟨fuel, hf⟩ := hx
  exact h.out enc W base spare held fuel _ _ hf
end
end Go.Proofs.Ytakfnghakbjncaa.Rd
