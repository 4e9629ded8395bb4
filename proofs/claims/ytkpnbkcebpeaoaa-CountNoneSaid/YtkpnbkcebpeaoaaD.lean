/- How a flow's key, acts and numbers are read as data. -/
import Derived.Test.YtkpnbkcebpeaoaaR
import Derived.Test.YtkpnbkcebpeaoaaProg
namespace Go.Proofs.Ytkpnbkcebpeaoaa.P
open Go.RowKit Go.Proofs.YtkpnbkcebpeaoaaW.PrintWords

def wI (k : IntKind) (x : Int) : Prop := (Lit.int k x).wf = true
theorem rd3 : Rd.Reads Try.prog 3 (Kd.int .i64) (wI .i64) := Rd.reads_int Try.underlying3
theorem rd28 : Rd.Reads Try.prog 28 (Kd.int .i64) (wI .i64) := Rd.reads_int Try.underlying28
theorem rd29 : Rd.Reads Try.prog 29 (Kd.int .u32) (wI .u32) := Rd.reads_int Try.underlying29
def K31 : Kd (Int × Int × Int × Int × Int) := Kd.pair (Kd.int .u32) (Kd.pair (Kd.int .u32) (Kd.pair (Kd.int .i64) (Kd.pair (Kd.int .i64) (Kd.int .i64))))
theorem K31_open {w : World} {x : Int × Int × Int × Int × Int} {cs : List Value} (h : K31.K w x cs) : cs = [.int .u32 x.1, .int .u32 x.2.1, .int .i64 x.2.2.1, .int .i64 x.2.2.2.1, .int .i64 x.2.2.2.2] := by
  obtain ⟨_, _, rfl, rfl, ⟨_, _, rfl, rfl, ⟨_, _, rfl, rfl, ⟨_, _, rfl, rfl, rfl⟩⟩⟩⟩ := h
  rfl
theorem rd31 : Rd.Reads Try.prog 31 K31 (fun x => wI .u32 x.1 ∧ wI .u32 x.2.1 ∧ wI .i64 x.2.2.1 ∧ wI .i64 x.2.2.2.1 ∧ wI .i64 x.2.2.2.2) :=
  Rd.reads_struct Try.underlying31 (by kernel_rfl) (Rd.readsF_cons rd29 rfl (by kernel_rfl) (Rd.readsF_cons rd29 rfl (by kernel_rfl) (Rd.readsF_cons rd3 rfl (by kernel_rfl) (Rd.readsF_cons rd3 rfl (by kernel_rfl) (Rd.readsF_one rd3 rfl (by kernel_rfl))))))
end Go.Proofs.Ytkpnbkcebpeaoaa.P
