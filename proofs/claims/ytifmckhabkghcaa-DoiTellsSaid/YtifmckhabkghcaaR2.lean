/- How slices of labels are read as data. -/
import Derived.Test.YtifmckhabkghcaaR
import Derived.Test.YtifmckhabkghcaaT1
namespace Go.Proofs.Ytifmckhabkghcaa.Rd
theorem rd56 : Reads Try.prog 56 (kSlice kLab) (fun l => ∀ x ∈ l, (Lit.int .i64 x.lv).wf = true ∧ x.S < 2 ^ 240) := reads_slice Try.underlying56 (by kernel_rfl) rd25
end Go.Proofs.Ytifmckhabkghcaa.Rd
namespace Go.Proofs.Ytifmckhabkghcaa.P
open Go.RowKit
theorem addr_lit {w : World} {ad : Addr} {v : Value} (h : w.cell? ad = some v) : ad = ⟨ad.block, ad.off, none⟩ := by
  obtain ⟨b, o, s⟩ := ad
  cases s with
  | none => rfl
  | some s =>
    exfalso
    unfold World.cell? at h
    split at h <;> simp at h
theorem sla_of {w : World} {A : Option Addr} {l : List Lab} (h : l.length ≤ maxLen ∧ (0 < l.length → ∃ a : Addr, A = some a ∧ ∀ (j : Nat) x, l[j]? = some x → ∃ u, u.length = Rd.kLab.sz ∧ Rd.kLab.K w x u ∧ ∀ (i : Nat) v, u[i]? = some v → w.cell? (a.add (j * Rd.kLab.sz + i)) = some v)) : SlA w A l := fun hl => by
  obtain ⟨a, rfl, hc⟩ := h.2 hl
  have hc' : ∀ (j : Nat) x, l[j]? = some x → ∀ (i : Nat) v, (labL x)[i]? = some v → w.cell? (a.add (j * 31 + i)) = some v := fun j x hx i v hv => by
    obtain ⟨u, _, hk, hu⟩ := hc j x hx
    have : u = labL x := hk
    subst this
    exact hu i v hv
  obtain ⟨x, hx⟩ : ∃ x, l[0]? = some x := ⟨l[0], List.getElem?_eq_getElem hl⟩
  have c0 := hc' 0 x hx 0 _ rfl
  have e0 : a.add (0 * 31 + 0) = a := rfl
  rw [e0] at c0
  have ha := addr_lit c0
  refine ⟨a.block, a.off, congrArg some ha, World.block_lt_of_cell? w _ c0, fun j x hx i v hv => ?_⟩
  have := hc' j x hx i v hv
  rw [ha, Addr.add_mid] at this
  rwa [show a.off + j * 31 + i = a.off + (j * 31 + i) by omega]
end Go.Proofs.Ytifmckhabkghcaa.P
