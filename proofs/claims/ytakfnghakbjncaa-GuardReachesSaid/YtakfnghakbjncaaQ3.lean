/- How relabelling rules, rules and questions are read as data. -/
import Derived.Test.YtakfnghakbjncaaR
import Derived.Test.YtakfnghakbjncaaQ2
namespace Go.Proofs.Ytakfnghakbjncaa.P
open Go.RowKit Go.Proofs.YtakfnghakbjncaaW.PrintWords Go.Proofs.YtakfnghakbjncaaW.PrintLast Go.Proofs.YtakfnghakbjncaaW.PrintMore

def wI (k : IntKind) (x : Int) : Prop := (Lit.int k x).wf = true
theorem wI_u32 {x : Int} (h : wI .u32 x) : 0 ≤ x ∧ x < 2 ^ 32 := by
  simp [wI, Lit.wf, IntKind.min, IntKind.max, IntKind.signed, IntKind.bits] at h
  omega
theorem rd3 : Rd.Reads Try.prog 3 (Kd.int .i64) (wI .i64) := Rd.reads_int Try.underlying3
theorem rd23 : Rd.Reads Try.prog 23 (Kd.int .u32) (wI .u32) := Rd.reads_int Try.underlying23
theorem rd29 : Rd.Reads Try.prog 29 k29 (fun x => wI .u32 x.f0 ∧ wI .i64 x.f1) := by
  have h := Rd.reads_struct Try.underlying29 (by kernel_rfl) (Rd.readsF_cons rd23 rfl (by kernel_rfl) (Rd.readsF_one rd3 rfl (by kernel_rfl)))
  exact Rd.reads_iso h (fun x : S29 => (x.f0, x.f1)) (fun a => ⟨a.1, a.2⟩) (fun _ => rfl)
def ok31 (x : S31) : Prop := wI .i64 x.f0 ∧ wI .i64 x.f1 ∧ (wI .u32 x.f2.f0 ∧ wI .i64 x.f2.f1) ∧ (wI .u32 x.f3.f0 ∧ wI .i64 x.f3.f1) ∧ wI .i64 x.f4 ∧ wI .i64 x.f5
theorem rd31 : Rd.Reads Try.prog 31 k31 ok31 := by
  have h := Rd.reads_struct Try.underlying31 (by kernel_rfl) (Rd.readsF_cons rd3 rfl (by kernel_rfl) (Rd.readsF_cons rd3 rfl (by kernel_rfl) (Rd.readsF_cons rd29 rfl (by kernel_rfl) (Rd.readsF_cons rd29 rfl (by kernel_rfl) (Rd.readsF_cons rd3 rfl (by kernel_rfl) (Rd.readsF_one rd3 rfl (by kernel_rfl)))))))
  exact Rd.reads_iso h (fun x : S31 => (x.f0, x.f1, x.f2, x.f3, x.f4, x.f5)) (fun a => ⟨a.1, a.2.1, a.2.2.1, a.2.2.2.1, a.2.2.2.2.1, a.2.2.2.2.2⟩) (fun _ => rfl)
theorem rd22 : Rd.Reads Try.prog 22 (Kd.slice 31 k31) (fun l => ∀ x ∈ l, ok31 x) := Rd.reads_slice Try.underlying22 (by kernel_rfl) rd31
theorem ok_InR {l : List S31} (h : ∀ x ∈ l, ok31 x) : ∀ x ∈ l, InR x := fun x hx => ⟨wI_u32 (h x hx).2.2.1.1, wI_u32 (h x hx).2.2.2.1.1⟩

def K25 : Kd (Int × Int × Int × Int × Int) := Kd.pair (Kd.int .i64) (Kd.pair (Kd.int .i64) (Kd.pair (Kd.int .i64) (Kd.pair (Kd.int .u32) (Kd.int .u32))))
theorem K25_open {w : World} {x : Int × Int × Int × Int × Int} {cs : List Value} (h : K25.K w x cs) : cs = [.int .i64 x.1, .int .i64 x.2.1, .int .i64 x.2.2.1, .int .u32 x.2.2.2.1, .int .u32 x.2.2.2.2] := by
  obtain ⟨_, _, rfl, rfl, ⟨_, _, rfl, rfl, ⟨_, _, rfl, rfl, ⟨_, _, rfl, rfl, rfl⟩⟩⟩⟩ := h
  rfl
theorem rd25 : Rd.Reads Try.prog 25 K25 (fun x => wI .i64 x.1 ∧ wI .i64 x.2.1 ∧ wI .i64 x.2.2.1 ∧ wI .u32 x.2.2.2.1 ∧ wI .u32 x.2.2.2.2) :=
  Rd.reads_struct Try.underlying25 (by kernel_rfl) (Rd.readsF_cons rd3 rfl (by kernel_rfl) (Rd.readsF_cons rd3 rfl (by kernel_rfl) (Rd.readsF_cons rd3 rfl (by kernel_rfl) (Rd.readsF_cons rd23 rfl (by kernel_rfl) (Rd.readsF_one rd23 rfl (by kernel_rfl))))))
end Go.Proofs.Ytakfnghakbjncaa.P
