/- A prefix, read as an argument (layer 14). -/
import Derived.Test.YtfpbcdlfcaglgaaR
import Derived.Test.YtfpbcdlfcaglgaaNT
namespace Go.Proofs.Ytfpbcdlfcaglgaa.P
open Go.RowKit Go.ChangeShapes Go.WideShapes
/-- The cells of a prefix. -/
theorem pfCells {W : World} {x : Int × Int} {cs : List Value} (h : (Rd.kPair (Rd.kInt .u32) (Rd.kInt .i64)).K W x cs) : cs = [.int .u32 x.1, .int .i64 x.2] := by
  obtain ⟨c, d, rfl, hc, hd⟩ := h
  have hc : c = [.int .u32 x.1] := hc
  have hd : d = [.int .i64 x.2] := hd
  subst hc hd
  rfl
theorem fullW (n a pa pb : Int) (w : World) (hn : (Lit.int .u8 n).wf = true) (ha : (Lit.int .u32 a).wf = true) (hp : (Lit.int .u32 pa).wf = true) :
    Calls Try.prog 6 #[.int .u8 n, .int .u32 a, .agg ([.int .u32 pa, .int .i64 pb] : List Value).toArray] w fun e w' => e = .returned (.bool true) ∧ Below w.heap.size w w' := by
  obtain ⟨n', rfl⟩ : ∃ m : Nat, n = m := ⟨n.toNat, by have := u8r hn; omega⟩
  obtain ⟨a', rfl⟩ : ∃ m : Nat, a = m := ⟨a.toNat, by have := Rd.u32r ha; omega⟩
  obtain ⟨p', rfl⟩ : ∃ m : Nat, pa = m := ⟨pa.toNat, by have := Rd.u32r hp; omega⟩
  exact full6 n' a' p' pb w (by have := u8r hn; omega)
end Go.Proofs.Ytfpbcdlfcaglgaa.P
