/- Acts, read as arguments (layer 14). -/
import Derived.Test.YtfpbcdlfcaglgaaR
import Derived.Test.YtfpbcdlfcaglgaaO2
namespace Go.Proofs.Ytfpbcdlfcaglgaa.Rd
open Go.RowKit Go.ChangeShapes Go.WideShapes Go.Proofs.Ytfpbcdlfcaglgaa.P

def kAc : Kn Ac := ⟨5, fun _ x cs => cs = acC x⟩
theorem rd42 : Reads Try.prog 42 kAc (fun x => x.r.ad < 2 ^ 32 ∧ x.ad < 2 ^ 32) := by
  have h : Reads Try.prog 42 (kPair (kInt .i64) (kPair kRt (kInt .u32))) (fun a => (Lit.int .i64 a.1).wf = true ∧ a.2.1.ad < 2 ^ 32 ∧ (Lit.int .u32 a.2.2).wf = true) :=
    reads_struct Try.underlying42 (by kernel_rfl) (readsF_cons (k := kInt .i64) (ok := fun x => (Lit.int .i64 x).wf = true) (k' := kPair kRt (kInt .u32)) (ok' := fun a => a.1.ad < 2 ^ 32 ∧ (Lit.int .u32 a.2).wf = true) rd3 rfl (by kernel_rfl)
      (readsF_cons (k := kRt) (ok := fun x => x.ad < 2 ^ 32) (k' := kInt .u32) (ok' := fun x => (Lit.int .u32 x).wf = true) rd32 rfl (by kernel_rfl) (readsF_one rd23 rfl (by kernel_rfl))))
  refine ⟨?_⟩
  intro H enc W base spare held fuel cs x hx
  obtain ⟨a, ⟨c, d, rfl, hc, ⟨e, f, rfl, he, hf⟩⟩, ok⟩ := h.out enc W base spare held fuel cs x hx
  have hc : c = [.int .i64 a.1] := hc
  have he : e = rtC a.2.1 := he
  have hf : f = [.int .u32 a.2.2] := hf
  subst hc he hf
  have h2 := u32r ok.2.2
  refine ⟨⟨a.1, a.2.1, a.2.2.toNat⟩, ?_, ok.2.1, by show a.2.2.toNat < 2 ^ 32; omega⟩
  show _ = acC _
  simp only [acC, rtC]
  rw [show ((a.2.2.toNat : Nat) : Int) = a.2.2 by omega]
  rfl
theorem rd40 : Reads Try.prog 40 (kSlice kAc) (fun l => ∀ x ∈ l, x.r.ad < 2 ^ 32 ∧ x.ad < 2 ^ 32) := reads_slice Try.underlying40 (by kernel_rfl) rd42
end Go.Proofs.Ytfpbcdlfcaglgaa.Rd
namespace Go.Proofs.Ytfpbcdlfcaglgaa.P
open Go.RowKit
theorem acts_of {w : World} {A : Option Addr} {l : List Ac} (h : l.length ≤ maxLen ∧ (0 < l.length → ∃ a : Addr, A = some a ∧ ∀ (j : Nat) x, l[j]? = some x → ∃ u, u.length = Rd.kAc.sz ∧ Rd.kAc.K w x u ∧ ∀ (i : Nat) v, u[i]? = some v → w.cell? (a.add (j * Rd.kAc.sz + i)) = some v)) : ActsA w A l := fun hl => by
  obtain ⟨a, rfl, hc⟩ := h.2 hl
  have hc' : ∀ (j : Nat) x, l[j]? = some x → ∀ (i : Nat) v, (acC x)[i]? = some v → w.cell? (a.add (j * 5 + i)) = some v := fun j x hx i v hv => by
    obtain ⟨u, _, hk, hu⟩ := hc j x hx
    have : u = acC x := hk
    subst this
    exact hu i v hv
  obtain ⟨x, hx⟩ : ∃ x, l[0]? = some x := ⟨l[0], List.getElem?_eq_getElem hl⟩
  have c0 := hc' 0 x hx 0 _ rfl
  have e0 : a.add (0 * 5 + 0) = a := rfl
  rw [e0] at c0
  have ha := addr_lit c0
  refine ⟨a.block, a.off, congrArg some ha, World.block_lt_of_cell? w _ c0, fun j x hx i v hv => ?_⟩
  have := hc' j x hx i v hv
  rw [ha, Addr.add_mid] at this
  rwa [show a.off + j * 5 + i = a.off + (j * 5 + i) by omega]
end Go.Proofs.Ytfpbcdlfcaglgaa.P
