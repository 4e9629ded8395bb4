/- How acts and numbers are read as data. -/
import Derived.Test.YtkpnbkcebpeaoaaR
import Derived.Test.YtkpnbkcebpeaoaaC9
namespace Go.Proofs.Ytkpnbkcebpeaoaa.P
open Go.RowKit Go.Proofs.YtkpnbkcebpeaoaaW.PrintWords

def wI (k : IntKind) (x : Int) : Prop := (Lit.int k x).wf = true
theorem rd3 : Rd.Reads Try.prog 3 (Kd.int .i64) (wI .i64) := Rd.reads_int Try.underlying3
theorem rd28 : Rd.Reads Try.prog 28 (Kd.int .i64) (wI .i64) := Rd.reads_int Try.underlying28
theorem rd29 : Rd.Reads Try.prog 29 (Kd.int .u32) (wI .u32) := Rd.reads_int Try.underlying29
def K31 : Kd (Int × Int × Int × Int × Int) := Kd.pair (Kd.int .u32) (Kd.pair (Kd.int .u32) (Kd.pair (Kd.int .i64) (Kd.pair (Kd.int .i64) (Kd.int .i64))))
theorem K31_open {w : World} {x : Int × Int × Int × Int × Int} {cs : List Value} (h : K31.K w x cs) : cs = [.int .u32 x.1, .int .u32 x.2.1, .int .i64 x.2.2.1, .int .i64 x.2.2.2.1, .int .i64 x.2.2.2.2] := by
  obtain ⟨_, _, rfl, rfl, ⟨_, _, rfl, rfl, ⟨_, _, rfl, rfl, ⟨_, _, rfl, rfl, rfl⟩⟩⟩⟩ := h
  rfl
theorem rd31 : Rd.Reads Try.prog 31 K31 (fun x => wI .u32 x.1 ∧ wI .u32 x.2.1 ∧ wI .i64 x.2.2.1 ∧ wI .i64 x.2.2.2.1 ∧ wI .i64 x.2.2.2.2) :=
  Rd.reads_struct Try.underlying31 (by kernel_rfl) (Rd.readsF_cons rd29 rfl (by kernel_rfl) (Rd.readsF_cons rd29 rfl (by kernel_rfl) (Rd.readsF_cons rd3 rfl (by kernel_rfl) (Rd.readsF_cons rd3 rfl (by kernel_rfl) (Rd.readsF_one rd3 rfl (by kernel_rfl))))))
def K33 : Kd ActC := Kd.iso (Kd.pair Kd.bool (Kd.pair (Kd.int .i64) (Kd.pair (Kd.int .i64) K31))) (fun x : ActC => (x.b, x.t, x.r, (x.s, x.d, x.p, x.sp, x.dp)))
theorem rd4 : Rd.Reads Try.prog 4 Kd.bool (fun _ => True) := Rd.reads_bool Try.underlying4
theorem rd33 : Rd.Reads Try.prog 33 K33 (fun _ => True) := by
  have h := Rd.reads_struct Try.underlying33 (by kernel_rfl) (Rd.readsF_cons rd4 rfl (by kernel_rfl) (Rd.readsF_cons rd3 rfl (by kernel_rfl) (Rd.readsF_cons rd28 rfl (by kernel_rfl) (Rd.readsF_one rd31 rfl (by kernel_rfl)))))
  have h2 := Rd.reads_iso h (fun x : ActC => (x.b, x.t, x.r, (x.s, x.d, x.p, x.sp, x.dp))) (fun a => ⟨a.1, a.2.1, a.2.2.1, a.2.2.2.1, a.2.2.2.2.1, a.2.2.2.2.2.1, a.2.2.2.2.2.2.1, a.2.2.2.2.2.2.2⟩) (fun _ => rfl)
  refine ⟨?_⟩
  intro H enc W base spare held fuel cs x hx
  obtain ⟨a, ha, _⟩ := h2.out enc W base spare held fuel cs x hx
  exact ⟨a, ha, trivial⟩
theorem rd22 : Rd.Reads Try.prog 22 (Kd.slice 33 K33) (fun l => ∀ x ∈ l, True) := Rd.reads_slice Try.underlying22 (by kernel_rfl) rd33
theorem acts_of {w : World} {A : Option Addr} {l : List ActC} (h : Kd.C K33 w A l.length l) : ActsAt w A l := by
  intro kk x hx
  have hk : kk < l.length := (List.getElem?_eq_some_iff.1 hx).1
  obtain ⟨ad, cs, e, _, hK, hc0⟩ := Kd.C_get h x kk (by omega) (by omega)
  rw [Int.toNat_natCast] at hK hc0
  have hc : ∀ j u, cs[j]? = some u → w.cell? (ad.add (kk * 8 + j)) = some u := hc0
  have hxx : l.getD kk x = x := by simp [List.getD, hx]
  rw [hxx] at hK
  obtain ⟨_, _, rfl, rfl, ⟨_, _, rfl, rfl, ⟨_, _, rfl, rfl, h5⟩⟩⟩ := hK
  obtain rfl := K31_open h5
  have q0 : w.cell? (ad.add (kk * 8)) = some (.bool x.b) := hc 0 _ rfl
  refine ⟨ad, e, World.block_lt_of_cell? w _ q0, q0, ?_, ?_, ?_, ?_, ?_, ?_, ?_⟩
  · rw [← add_field _ _ 1 (by omega)]; exact hc 1 _ rfl
  · rw [← add_field _ _ 2 (by omega)]; exact hc 2 _ rfl
  · rw [← add_field _ _ 3 (by omega)]; exact hc 3 _ rfl
  · rw [← add_field _ _ 4 (by omega)]; exact hc 4 _ rfl
  · rw [← add_field _ _ 5 (by omega)]; exact hc 5 _ rfl
  · rw [← add_field _ _ 6 (by omega)]; exact hc 6 _ rfl
  · rw [← add_field _ _ 7 (by omega)]; exact hc 7 _ rfl
theorem i64_le {x : Int} (h : wI .i64 x) : x ≤ 9223372036854775807 := by
  simp [wI, Lit.wf, IntKind.min, IntKind.max, IntKind.signed, IntKind.bits] at h
  omega
end Go.Proofs.Ytkpnbkcebpeaoaa.P
