/- How rules and questions are read as data. -/
import Derived.Test.YtakfnghakbjncaaR
import Derived.Test.YtakfnghakbjncaaPx0
namespace Go.Proofs.Ytakfnghakbjncaa.P
open Go.RowKit Go.Proofs.YtakfnghakbjncaaW.PrintWords Go.Proofs.YtakfnghakbjncaaW.PrintLast Go.Proofs.YtakfnghakbjncaaW.PrintMore
namespace D15
def wI (k : IntKind) (x : Int) : Prop := (Lit.int k x).wf = true
theorem wI_u32 {x : Int} (h : wI .u32 x) : 0 ≤ x ∧ x < 2 ^ 32 := by
  simp [wI, Lit.wf, IntKind.min, IntKind.max, IntKind.signed, IntKind.bits] at h
  omega
theorem rd3 : Rd.Reads Try.prog 3 (Kd.int .i64) (wI .i64) := Rd.reads_int Try.underlying3
theorem rd4 : Rd.Reads Try.prog 4 Kd.bool (fun _ => True) := Rd.reads_bool Try.underlying4
theorem rd23 : Rd.Reads Try.prog 23 (Kd.int .u32) (wI .u32) := Rd.reads_int Try.underlying23
theorem rd29 : Rd.Reads Try.prog 29 k29 (fun x => wI .u32 x.f0 ∧ wI .i64 x.f1) := by
  have h := Rd.reads_struct Try.underlying29 (by kernel_rfl) (Rd.readsF_cons rd23 rfl (by kernel_rfl) (Rd.readsF_one rd3 rfl (by kernel_rfl)))
  exact Rd.reads_iso h (fun x : S29 => (x.f0, x.f1)) (fun a => ⟨a.1, a.2⟩) (fun _ => rfl)
def ok42 (x : S42) : Prop := wI .i64 x.f0 ∧ wI .i64 x.f1 ∧ (wI .u32 x.f2.f0 ∧ wI .i64 x.f2.f1) ∧ (wI .u32 x.f3.f0 ∧ wI .i64 x.f3.f1) ∧ wI .i64 x.f4 ∧ wI .i64 x.f5 ∧ wI .i64 x.f6 ∧ wI .i64 x.f7 ∧ wI .i64 x.f8 ∧ True
theorem rd42 : Rd.Reads Try.prog 42 k42 ok42 := by
  have h := Rd.reads_struct Try.underlying42 (by kernel_rfl) (Rd.readsF_cons rd3 rfl (by kernel_rfl) (Rd.readsF_cons rd3 rfl (by kernel_rfl) (Rd.readsF_cons rd29 rfl (by kernel_rfl) (Rd.readsF_cons rd29 rfl (by kernel_rfl) (Rd.readsF_cons rd3 rfl (by kernel_rfl) (Rd.readsF_cons rd3 rfl (by kernel_rfl) (Rd.readsF_cons rd3 rfl (by kernel_rfl) (Rd.readsF_cons rd3 rfl (by kernel_rfl) (Rd.readsF_cons rd3 rfl (by kernel_rfl) (Rd.readsF_one rd4 rfl (by kernel_rfl)))))))))))
  exact Rd.reads_iso h (fun x : S42 => (x.f0, x.f1, x.f2, x.f3, x.f4, x.f5, x.f6, x.f7, x.f8, x.f9)) (fun a => ⟨a.1, a.2.1, a.2.2.1, a.2.2.2.1, a.2.2.2.2.1, a.2.2.2.2.2.1, a.2.2.2.2.2.2.1, a.2.2.2.2.2.2.2.1, a.2.2.2.2.2.2.2.2.1, a.2.2.2.2.2.2.2.2.2⟩) (fun _ => rfl)
theorem rd40 : Rd.Reads Try.prog 40 (Kd.slice 42 k42) (fun l => ∀ x ∈ l, ok42 x) := Rd.reads_slice Try.underlying40 (by kernel_rfl) rd42
theorem rd44 : Rd.Reads Try.prog 44 k44 (fun x => wI .u32 x.f0 ∧ wI .u32 x.f1 ∧ wI .i64 x.f2 ∧ wI .i64 x.f3 ∧ wI .i64 x.f4) := by
  have h := Rd.reads_struct Try.underlying44 (by kernel_rfl) (Rd.readsF_cons rd23 rfl (by kernel_rfl) (Rd.readsF_cons rd23 rfl (by kernel_rfl) (Rd.readsF_cons rd3 rfl (by kernel_rfl) (Rd.readsF_cons rd3 rfl (by kernel_rfl) (Rd.readsF_one rd3 rfl (by kernel_rfl))))))
  exact Rd.reads_iso h (fun x : S44 => (x.f0, x.f1, x.f2, x.f3, x.f4)) (fun a => ⟨a.1, a.2.1, a.2.2.1, a.2.2.2.1, a.2.2.2.2⟩) (fun _ => rfl)
theorem rd46 : Rd.Reads Try.prog 46 k46 (fun x => wI .i64 x.f0 ∧ wI .i64 x.f1 ∧ (wI .u32 x.f2.f0 ∧ wI .u32 x.f2.f1 ∧ wI .i64 x.f2.f2 ∧ wI .i64 x.f2.f3 ∧ wI .i64 x.f2.f4)) := by
  have h := Rd.reads_struct Try.underlying46 (by kernel_rfl) (Rd.readsF_cons rd3 rfl (by kernel_rfl) (Rd.readsF_cons rd3 rfl (by kernel_rfl) (Rd.readsF_one rd44 rfl (by kernel_rfl))))
  exact Rd.reads_iso h (fun x : S46 => (x.f0, x.f1, x.f2)) (fun a => ⟨a.1, a.2.1, a.2.2⟩) (fun _ => rfl)
end D15
end Go.Proofs.Ytakfnghakbjncaa.P
