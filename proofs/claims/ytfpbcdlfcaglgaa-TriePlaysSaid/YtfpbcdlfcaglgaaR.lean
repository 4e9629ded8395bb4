/- How arguments that are read as data give cells: numbers, structs, routes, slices. -/
import Derived.Test.YtfpbcdlfcaglgaaNK
import Derived.ProofKit
import Derived.OpenShut
import Derived.Deep.Slices
namespace Go.Proofs.Ytfpbcdlfcaglgaa.Rd
open Go.RowKit Go.ChangeShapes Go.WideShapes Go.Proofs.Ytfpbcdlfcaglgaa.P

/-- A kind: how many cells, and when cells are a value's. -/
structure Kn (α : Type) where
  sz : Nat
  K : World → α → List Value → Prop
/-- What is read at type t has the cells of an a of this kind, and ok holds of a. -/
structure Reads (P : Program) (t : TypeId) {α : Type} (k : Kn α) (ok : α → Prop) : Prop where
  out : ∀ {H : Type} (enc : TypeId × Value → H) (W : World) (base : Nat) (spare : Nat → Bool) (held : Bool) (fuel : Nat) (cs : List Value) (x : DataW H × List MemPlace),
    DataW.trod enc P W base spare held fuel t cs = some x → ∃ a, k.K W a cs ∧ ok a
def kInt (k : IntKind) : Kn Int := ⟨1, fun _ n cs => cs = [.int k n]⟩
def kStr : Kn ByteArray := ⟨1, fun _ s cs => cs = [.string s]⟩
def kPair {α β : Type} (a : Kn α) (b : Kn β) : Kn (α × β) := ⟨a.sz + b.sz, fun W x cs => ∃ c d, cs = c ++ d ∧ a.K W x.1 c ∧ b.K W x.2 d⟩
/-- A slice whose elements lie in the world. -/
def kSlice {α : Type} (k : Kn α) : Kn (List α) := ⟨1, fun W l cs => ∃ A c, cs = [.slice A l.length c] ∧ l.length ≤ c ∧ l.length ≤ maxLen ∧ (0 < l.length → ∃ a : Addr, A = some a ∧ ∀ j x, l[j]? = some x → ∃ u, u.length = k.sz ∧ k.K W x u ∧ ∀ i v, u[i]? = some v → W.cell? (a.add (j * k.sz + i)) = some v)⟩

section
variable {P : Program}
theorem reads_int {t : TypeId} {k : IntKind} (ht : P.underlying t = some (.int k)) : Reads P t (kInt k) (fun x => (Lit.int k x).wf = true) := by
  refine ⟨?_⟩
  intro H enc W base spare held fuel cs x h
  obtain ⟨n, rfl, _, hw⟩ := DataW.trod_int ht h
  exact ⟨n, rfl, hw⟩
theorem reads_string {t : TypeId} (ht : P.underlying t = some .string) : Reads P t kStr (fun s => s.size ≤ maxLen) := by
  refine ⟨?_⟩
  intro H enc W base spare held fuel cs x h
  obtain ⟨s, rfl, _, hs⟩ := DataW.trod_string ht h
  exact ⟨s, rfl, hs⟩
theorem mapM_each {α β : Type} {f : α → Option β} : ∀ (l : List α) (xs : List β), l.mapM f = some xs → ∀ a ∈ l, ∃ y, f a = some y
  | [], _, _, a, ha => by simp at ha
  | b :: l, xs, h, a, ha => by
    rw [List.mapM_cons] at h
    cases hb : f b with
    | none => simp [hb] at h
    | some y =>
      cases hl : l.mapM f with
      | none => simp [hb, hl] at h
      | some ys =>
        rcases List.mem_cons.1 ha with rfl | ha
        · exact ⟨y, hb⟩
        · exact mapM_each l ys hl a ha
theorem trod_array {H : Type} {enc : TypeId × Value → H} {W : World} {base : Nat} {spare : Nat → Bool} {held : Bool} {t e : TypeId} {n fuel : Nat} {cs : List Value} {x : DataW H × List MemPlace} (ht : P.underlying t = some (.array n e))
    (h : DataW.trod enc P W base spare held fuel t cs = some x) : cs.length = P.cellsOf t ∧ ∃ m, ∀ i, i < n → ∃ y, DataW.trod enc P W base spare held m e ((cs.drop (i * P.cellsOf e)).take (P.cellsOf e)) = some y := by
  cases fuel with
  | zero => simp [DataW.trod] at h
  | succ m =>
    unfold DataW.trod at h
    rw [ht] at h
    simp only [] at h
    split at h
    · rename_i hl
      refine ⟨hl, m, fun i hi => ?_⟩
      obtain ⟨xs, hxs, _⟩ := Option.map_eq_some_iff.1 h
      exact mapM_each _ _ hxs i (List.mem_range.2 hi)
    · cases h
/-- The fields of a struct from one on, whose cells begin at o. -/
structure ReadsF (P : Program) (fs : List Field) (o : Nat) {α : Type} (k : Kn α) (ok : α → Prop) : Prop where
  out : ∀ {H : Type} (enc : TypeId × Value → H) (W : World) (base : Nat) (spare : Nat → Bool) (held : Bool) (n : Nat) (cs : List Value), cs.length = o + k.sz →
    (∀ f ∈ fs, ∃ y, DataW.trod enc P W base spare held n f.type ((cs.drop f.offset).take (P.cellsOf f.type)) = some y) → ∃ a, k.K W a (cs.drop o) ∧ ok a
theorem readsF_one {f : Field} {o : Nat} {α : Type} {k : Kn α} {ok : α → Prop} (h : Reads P f.type k ok) (ho : f.offset = o) (hc : P.cellsOf f.type = k.sz) : ReadsF P [f] o k ok := by
  refine ⟨?_⟩
  intro H enc W base spare held n cs hl hf
  obtain ⟨y, hy⟩ := hf f (List.mem_singleton.2 rfl)
  rw [ho, hc, List.take_of_length_le (by rw [List.length_drop, hl]; omega)] at hy
  exact h.out enc W base spare held n _ y hy
theorem readsF_cons {f : Field} {fs : List Field} {o : Nat} {α β : Type} {k : Kn α} {ok : α → Prop} {k' : Kn β} {ok' : β → Prop} (h : Reads P f.type k ok) (ho : f.offset = o) (hc : P.cellsOf f.type = k.sz) (hs : ReadsF P fs (o + k.sz) k' ok') :
    ReadsF P (f :: fs) o (kPair k k') (fun a => ok a.1 ∧ ok' a.2) := by
  refine ⟨?_⟩
  intro H enc W base spare held n cs hl hf
  have hl' : cs.length = o + (k.sz + k'.sz) := hl
  obtain ⟨y, hy⟩ := hf f (List.mem_cons_self ..)
  rw [ho, hc] at hy
  obtain ⟨a, ha, oka⟩ := h.out enc W base spare held n _ y hy
  obtain ⟨b, hb, okb⟩ := hs.out enc W base spare held n cs (by omega) (fun g hg => hf g (List.mem_cons_of_mem _ hg))
  refine ⟨(a, b), ⟨(cs.drop o).take k.sz, cs.drop (o + k.sz), ?_, ha, hb⟩, oka, okb⟩
  rw [← List.drop_drop, List.take_append_drop]
theorem reads_struct {t : TypeId} {fs : Array Field} {α : Type} {k : Kn α} {ok : α → Prop} (ht : P.underlying t = some (.struct fs)) (hc : P.cellsOf t = k.sz) (h : ReadsF P fs.toList 0 k ok) : Reads P t k ok := by
  refine ⟨?_⟩
  intro H enc W base spare held fuel cs x hx
  obtain ⟨xs, n, _, _, hl, hlen, hf⟩ := DataW.trod_struct ht hx
  have := h.out enc W base spare held n cs (by omega) (fun f hf' => by
    obtain ⟨i, hi⟩ := List.getElem?_of_mem hf'
    have hi' : fs[i]? = some f := by simpa using hi
    have hil : i < xs.length := by rw [hlen]; exact (Array.getElem?_eq_some_iff.1 hi').1
    exact ⟨xs[i], by rw [hf i f hi', List.getElem?_eq_getElem hil]⟩)
  simpa using this
theorem cellsFrom_get (w : World) : ∀ (n : Nat) (base : Nat) (a : Addr) (cs : List Value), w.cells? base a n = some cs → cs.length = n ∧ ∀ i u, cs[i]? = some u → w.cell? (a.add i) = some u := by
  intro n base a cs h
  obtain ⟨_, hl, hc⟩ := World.cells?_some h
  exact ⟨hl, fun i u hu => by rw [hc i (by rw [← hl]; exact (List.getElem?_eq_some_iff.1 hu).1)]; exact hu⟩
theorem reads_slice {t e : TypeId} {α : Type} {k : Kn α} {ok : α → Prop} (ht : P.underlying t = some (.slice e)) (hc : P.cellsOf e = k.sz) (h : Reads P e k ok) : Reads P t (kSlice k) (fun l => ∀ x ∈ l, ok x) := by
  refine ⟨?_⟩
  intro H enc W base spare held fuel cs x hx
  rcases Go.Deep.open_slice ht hx with ⟨rfl, _⟩ | ⟨a, len, cap, m, n, D, Pl, rfl, _, hl, hm, hmm, hxe, hel⟩
  · exact ⟨[], ⟨none, 0, rfl, Nat.le_refl _, Nat.zero_le _, fun h => absurd h (Nat.lt_irrefl _)⟩, by simp⟩
  · have hlm : len ≤ m := by rw [hmm]; split <;> omega
    have hev : ∀ i : Nat, i < len → ∃ p : α × List Value, p.2.length = k.sz ∧ k.K W p.1 p.2 ∧ ok p.1 ∧ ∀ j u, p.2[j]? = some u → W.cell? (a.add (i * k.sz + j)) = some u := by
      intro i hi
      obtain ⟨cs', h1, h2⟩ := hel i (by omega)
      obtain ⟨y, hk, ho⟩ := h.out enc W base spare held n cs' _ h2
      rw [hc] at h1
      obtain ⟨h3, h4⟩ := cellsFrom_get W _ _ _ _ h1
      exact ⟨(y, cs'), h3, hk, ho, fun j u hu => by rw [← Go.Deep.add_add]; exact h4 j u hu⟩
    clear hel hmm hlm hx hxe
    obtain ⟨l, hll, hlp⟩ : ∃ l : List (α × List Value), l.length = len ∧ ∀ i p, l[i]? = some p → p.2.length = k.sz ∧ k.K W p.1 p.2 ∧ ok p.1 ∧ ∀ j u, p.2[j]? = some u → W.cell? (a.add (i * k.sz + j)) = some u := by
      clear hl
      induction len with
      | zero => exact ⟨[], rfl, fun i p hp => by simp at hp⟩
      | succ len ih =>
        obtain ⟨l, h1, h2⟩ := ih (fun i hi => hev i (by omega))
        obtain ⟨p, hp⟩ := hev len (by omega)
        refine ⟨l ++ [p], by simp [h1], fun i q hq => ?_⟩
        rcases Nat.lt_or_ge i l.length with hi | hi
        · rw [List.getElem?_append_left hi] at hq; exact h2 i q hq
        · have hi' : i = l.length := by
            have := (List.getElem?_eq_some_iff.1 hq).1
            simp at this; omega
          subst hi'
          simp at hq
          subst hq
          rw [h1]; exact hp
    refine ⟨l.map (·.1), ⟨some a, cap, by rw [List.length_map, hll], by rw [List.length_map, hll]; exact hl, by rw [List.length_map, hll]; omega, ?_⟩, ?_⟩
    · intro _
      refine ⟨a, rfl, fun j p hj => ?_⟩
      rw [List.getElem?_map] at hj
      cases hq : l[j]? with
      | none => rw [hq] at hj; cases hj
      | some q =>
        rw [hq] at hj
        simp at hj
        subst hj
        obtain ⟨h1, h2, _, h4⟩ := hlp j q hq
        exact ⟨q.2, h1, h2, h4⟩
    · intro y hy
      obtain ⟨q, hq, rfl⟩ := List.mem_map.1 hy
      obtain ⟨i, hi⟩ := List.getElem?_of_mem hq
      exact (hlp i q hi).2.2.1
theorem agg_of {cs : Array Value} {l : List Value} (h : (Value.agg cs).cells.toList = l) : cs = l.toArray := by
  subst h
  simp [Value.cells]
/-- At an argument. -/
theorem reads_arg {t : TypeId} {α : Type} {k : Kn α} {ok : α → Prop} (h : Reads P t k ok) {H : Type} {enc : TypeId × Value → H} {W : World} {base : Nat} {spare : Nat → Bool} {held : Bool} {v : Value} {d : DataW H} {p : List MemPlace}
    (hx : DataW.Trod enc P W base spare held t v d p) : ∃ a, k.K W a v.cells.toList ∧ ok a := by
  obtain ⟨fuel, hf⟩ := hx
  exact h.out enc W base spare held fuel _ _ hf
end

theorem rd3 : Reads Try.prog 3 (kInt .i64) (fun x => (Lit.int .i64 x).wf = true) := reads_int Try.underlying3
theorem rd23 : Reads Try.prog 23 (kInt .u32) (fun x => (Lit.int .u32 x).wf = true) := reads_int Try.underlying23
theorem rd30 : Reads Try.prog 30 (kPair (kInt .u32) (kInt .i64)) (fun a => (Lit.int .u32 a.1).wf = true ∧ (Lit.int .i64 a.2).wf = true) :=
  reads_struct Try.underlying30 (by kernel_rfl) (readsF_cons (k := kInt .u32) (ok := fun x => (Lit.int .u32 x).wf = true) (k' := kInt .i64) (ok' := fun x => (Lit.int .i64 x).wf = true) rd23 rfl (by kernel_rfl) (readsF_one rd3 rfl (by kernel_rfl)))
theorem u32r {n : Int} (h : (Lit.int .u32 n).wf = true) : 0 ≤ n ∧ n < 2 ^ 32 := by
  have : 0 ≤ n ∧ n ≤ 4294967295 := by simpa [Lit.wf, IntKind.min, IntKind.max, IntKind.signed, IntKind.bits] using h
  omega
def kRt : Kn Rt := ⟨3, fun _ x cs => cs = rtC x⟩
theorem rd32 : Reads Try.prog 32 kRt (fun x => x.ad < 2 ^ 32) := by
  have h : Reads Try.prog 32 (kPair (kPair (kInt .u32) (kInt .i64)) (kInt .i64)) (fun a => ((Lit.int .u32 a.1.1).wf = true ∧ (Lit.int .i64 a.1.2).wf = true) ∧ (Lit.int .i64 a.2).wf = true) :=
    reads_struct Try.underlying32 (by kernel_rfl) (readsF_cons (k := kPair (kInt .u32) (kInt .i64)) (ok := fun a => (Lit.int .u32 a.1).wf = true ∧ (Lit.int .i64 a.2).wf = true) (k' := kInt .i64) (ok' := fun x => (Lit.int .i64 x).wf = true) rd30 rfl (by kernel_rfl) (readsF_one rd3 rfl (by kernel_rfl)))
  refine ⟨?_⟩
  intro H enc W base spare held fuel cs x hx
  obtain ⟨a, ⟨c, d, rfl, ⟨e, f, rfl, he, hf⟩, hd⟩, ok⟩ := h.out enc W base spare held fuel cs x hx
  have he : e = [.int .u32 a.1.1] := he
  have hf : f = [.int .i64 a.1.2] := hf
  have hd : d = [.int .i64 a.2] := hd
  subst he hf hd
  have h2 := u32r ok.1.1
  refine ⟨⟨a.1.1.toNat, a.1.2, a.2⟩, ?_, by show a.1.1.toNat < 2 ^ 32; omega⟩
  show _ = rtC _
  simp only [rtC]
  rw [show ((a.1.1.toNat : Nat) : Int) = a.1.1 by omega]
  rfl
theorem rd22 : Reads Try.prog 22 (kSlice kRt) (fun l => ∀ x ∈ l, x.ad < 2 ^ 32) := reads_slice Try.underlying22 (by kernel_rfl) rd32
end Go.Proofs.Ytfpbcdlfcaglgaa.Rd
namespace Go.Proofs.Ytfpbcdlfcaglgaa.P
open Go.RowKit
theorem addr_lit {w : World} {ad : Addr} {v : Value} (h : w.cell? ad = some v) : ad = ⟨ad.block, ad.off, none⟩ := by
  obtain ⟨b, o, s⟩ := ad
  cases s with
  | none => rfl
  | some s =>
    exfalso
    unfold World.cell? at h
    split at h <;> simp at h
theorem rts_of {w : World} {A : Option Addr} {l : List Rt} (h : l.length ≤ maxLen ∧ (0 < l.length → ∃ a : Addr, A = some a ∧ ∀ (j : Nat) x, l[j]? = some x → ∃ u, u.length = Rd.kRt.sz ∧ Rd.kRt.K w x u ∧ ∀ (i : Nat) v, u[i]? = some v → w.cell? (a.add (j * Rd.kRt.sz + i)) = some v)) : RtsA w A l := fun hl => by
  obtain ⟨a, rfl, hc⟩ := h.2 hl
  have hc' : ∀ (j : Nat) x, l[j]? = some x → ∀ (i : Nat) v, (rtC x)[i]? = some v → w.cell? (a.add (j * 3 + i)) = some v := fun j x hx i v hv => by
    obtain ⟨u, _, hk, hu⟩ := hc j x hx
    have : u = rtC x := hk
    subst this
    exact hu i v hv
  obtain ⟨x, hx⟩ : ∃ x, l[0]? = some x := ⟨l[0], List.getElem?_eq_getElem hl⟩
  have c0 := hc' 0 x hx 0 _ rfl
  have e0 : a.add (0 * 3 + 0) = a := rfl
  rw [e0] at c0
  have ha := addr_lit c0
  refine ⟨a.block, a.off, congrArg some ha, World.block_lt_of_cell? w _ c0, fun j x hx i v hv => ?_⟩
  have := hc' j x hx i v hv
  rw [ha, Addr.add_mid] at this
  rwa [show a.off + j * 3 + i = a.off + (j * 3 + i) by omega]
end Go.Proofs.Ytfpbcdlfcaglgaa.P
