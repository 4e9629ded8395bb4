/- How domains are read as data. -/
import Derived.Test.YtifmckhabkghcaaR2
import Derived.Test.YtifmckhabkghcaaV3
namespace Go.Proofs.Ytifmckhabkghcaa.Rd
theorem rd44 : Reads Try.prog 44 (kInt .u32) (fun x => (Lit.int .u32 x).wf = true) := reads_int Try.underlying44
def kPr : Kn (Int × Int) := ⟨2, fun _ p cs => cs = [.int .i64 p.1, .int .i64 p.2]⟩
theorem rd89 : Reads Try.prog 89 kPr (fun _ => True) := by
  have h : Reads Try.prog 89 (kPair (kInt .i64) (kInt .i64)) (fun a => (Lit.int .i64 a.1).wf = true ∧ (Lit.int .i64 a.2).wf = true) :=
    reads_struct Try.underlying89 (by kernel_rfl) (readsF_cons (k := kInt .i64) (ok := fun x => (Lit.int .i64 x).wf = true) (k' := kInt .i64) (ok' := fun x => (Lit.int .i64 x).wf = true) rd3 rfl (by kernel_rfl) (readsF_one rd3 rfl (by kernel_rfl)))
  refine ⟨?_⟩
  intro H enc W base spare held fuel cs x hx
  obtain ⟨a, ⟨c, d, rfl, rfl, rfl⟩, _⟩ := h.out enc W base spare held fuel cs x hx
  exact ⟨a, rfl, trivial⟩
theorem rd45 : Reads Try.prog 45 (kSlice kPr) (fun l => ∀ x ∈ l, True) := reads_slice Try.underlying45 (by kernel_rfl) rd89
end Go.Proofs.Ytifmckhabkghcaa.Rd
namespace Go.Proofs.Ytifmckhabkghcaa.P
open Go.RowKit
theorem prs_of {w : World} {A : Option Addr} {l : List (Int × Int)} (h : 0 < l.length → ∃ a : Addr, A = some a ∧ ∀ (j : Nat) x, l[j]? = some x → ∃ u, u.length = Rd.kPr.sz ∧ Rd.kPr.K w x u ∧ ∀ (i : Nat) v, u[i]? = some v → w.cell? (a.add (j * Rd.kPr.sz + i)) = some v) : PrsA w A l := fun hl => by
  obtain ⟨a, rfl, hc⟩ := h hl
  have hc' : ∀ (j : Nat) p, l[j]? = some p → w.cell? (a.add (j * 2 + 0)) = some (.int .i64 p.1) ∧ w.cell? (a.add (j * 2 + 1)) = some (.int .i64 p.2) := fun j p hp => by
    obtain ⟨u, _, hk, hu⟩ := hc j p hp
    have : u = [.int .i64 p.1, .int .i64 p.2] := hk
    subst this
    exact ⟨hu 0 _ rfl, hu 1 _ rfl⟩
  obtain ⟨p, hp⟩ : ∃ p, l[0]? = some p := ⟨l[0], List.getElem?_eq_getElem hl⟩
  have c0 := (hc' 0 p hp).1
  have e0 : a.add (0 * 2 + 0) = a := rfl
  rw [e0] at c0
  have ha := addr_lit c0
  refine ⟨a.block, a.off, congrArg some ha, World.block_lt_of_cell? w _ c0, fun j p hp => ?_⟩
  obtain ⟨h1, h2⟩ := hc' j p hp
  rw [ha, Addr.add_mid] at h1 h2
  exact ⟨h1, h2⟩
end Go.Proofs.Ytifmckhabkghcaa.P
namespace Go.Proofs.Ytifmckhabkghcaa.Rd
open Go.Proofs.Ytifmckhabkghcaa.P
def kDm : Kn Dm := ⟨3, fun w d cs => cs = dmL d ∧ DmA w d⟩
theorem rd47 : Reads Try.prog 47 kDm (fun _ => True) := by
  have h : Reads Try.prog 47 (kPair (kInt .u32) (kPair (kSlice kPr) (kSlice kPr))) (fun a => (Lit.int .u32 a.1).wf = true ∧ ((∀ x ∈ a.2.1, True) ∧ (∀ x ∈ a.2.2, True))) :=
    reads_struct Try.underlying47 (by kernel_rfl) (readsF_cons (k := kInt .u32) (ok := fun x => (Lit.int .u32 x).wf = true) (k' := kPair (kSlice kPr) (kSlice kPr)) (ok' := fun b => (∀ x ∈ b.1, True) ∧ (∀ x ∈ b.2, True)) rd44 rfl (by kernel_rfl) (readsF_cons (k := kSlice kPr) (ok := fun l => ∀ x ∈ l, True) (k' := kSlice kPr) (ok' := fun l => ∀ x ∈ l, True) rd45 rfl (by kernel_rfl) (readsF_one rd45 rfl (by kernel_rfl))))
  refine ⟨?_⟩
  intro H enc W base spare held fuel cs x hx
  obtain ⟨a, ⟨c, d, rfl, hc, ⟨e, f, rfl, he, hf⟩⟩, _⟩ := h.out enc W base spare held fuel cs x hx
  obtain ⟨A1, c1, rfl, _, _, h1⟩ := he
  obtain ⟨A2, c2, rfl, _, _, h2⟩ := hf
  have hc' : c = [.int .u32 a.1] := hc
  subst hc'
  exact ⟨⟨a.1, A1, c1, a.2.1, A2, c2, a.2.2⟩, ⟨rfl, prs_of h1, prs_of h2⟩, trivial⟩
theorem rd51 : Reads Try.prog 51 (kSlice kDm) (fun l => ∀ x ∈ l, True) := reads_slice Try.underlying51 (by kernel_rfl) rd47
end Go.Proofs.Ytifmckhabkghcaa.Rd
namespace Go.Proofs.Ytifmckhabkghcaa.P
open Go.RowKit
theorem dmCells {w : World} {d : Dm} {cs : List Value} (h : Rd.kDm.K w d cs) : cs = dmL d := h.1
theorem dmAt {w : World} {d : Dm} {cs : List Value} (h : Rd.kDm.K w d cs) : DmA w d := h.2
theorem dms_of {w : World} {A : Option Addr} {l : List Dm} (h : l.length ≤ maxLen ∧ (0 < l.length → ∃ a : Addr, A = some a ∧ ∀ (j : Nat) x, l[j]? = some x → ∃ u, u.length = Rd.kDm.sz ∧ Rd.kDm.K w x u ∧ ∀ (i : Nat) v, u[i]? = some v → w.cell? (a.add (j * Rd.kDm.sz + i)) = some v)) : DmsA w A l ∧ ∀ d ∈ l, DmA w d := by
  constructor
  · intro hl
    obtain ⟨a, rfl, hc⟩ := h.2 hl
    have hc' : ∀ (j : Nat) d, l[j]? = some d → ∀ (i : Nat) v, (dmL d)[i]? = some v → w.cell? (a.add (j * 3 + i)) = some v := fun j d hd i v hv => by
      obtain ⟨u, _, hk, hu⟩ := hc j d hd
      have : u = dmL d := hk.1
      subst this
      exact hu i v hv
    obtain ⟨d, hd⟩ : ∃ d, l[0]? = some d := ⟨l[0], List.getElem?_eq_getElem hl⟩
    have c0 := hc' 0 d hd 0 _ rfl
    have e0 : a.add (0 * 3 + 0) = a := rfl
    rw [e0] at c0
    have ha := addr_lit c0
    refine ⟨a.block, a.off, congrArg some ha, World.block_lt_of_cell? w _ c0, fun j d hd i v hv => ?_⟩
    have := hc' j d hd i v hv
    rw [ha, Addr.add_mid] at this
    rwa [show a.off + j * 3 + i = a.off + (j * 3 + i) by omega]
  · intro d hd
    obtain ⟨j, hj⟩ := List.getElem?_of_mem hd
    obtain ⟨a, _, hc⟩ := h.2 (by have := (List.getElem?_eq_some_iff.1 hj).1; omega)
    obtain ⟨u, _, hk, _⟩ := hc j d hj
    exact hk.2
end Go.Proofs.Ytifmckhabkghcaa.P
