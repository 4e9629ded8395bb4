/- RuleCovers: whether any rule covers any other one is as the document says, and what that one matches it matches; for every input, without a condition. -/
import Derived.Test.YtakfnghakbjncaaRows
import Derived.Test.YtakfnghakbjncaaQA
import Derived.Test.YtakfnghakbjncaaQ5
import Derived.WalkKit
import Derived.ProofKit
import Derived.OpenShut
import Derived.ShutString
import Derived.ChangeOld
import Derived.Below
import Derived.SizedLaws
import Derived.Carry
namespace Go.Proofs.Ytakfnghakbjncaa.ruleCovers
open Go.ChangeShapes Go.WideShapes Go.ChangeAt Go.RowKit 
open Go.ChangeMaps (open_string shut_string)
theorem own : ownKnob Try.prog.godebug = none := by kernel_rfl
theorem laidOut : laidOutB Try.prog = true := by kernel_rfl
set_option maxRecDepth 100000 in
set_option maxHeartbeats 1000000 in
theorem lifted (os : Os) (started : os.Started) (H : Type) (enc : TypeId × Value → H) :
    ReturnsInHanded {} Try.checked os 8 .any (Rows.ruleCoversSpec.pre6 enc Try.prog Try.f8 Rows.ruleCoversRow.domain false) (Rows.ruleCoversSpec.post enc Try.prog Try.f8 false true false false) := by
  refine returnsInHanded_of_change_sized (C := Try.checked) own started (by kernel_rfl) Try.func8
    (ChangeSpec.witness6 (enc := enc) (C := Try.checked) false ⟨#[], #[.agg #[.int .i64 0, .int .i64 0, .int .u32 0, .int .i64 0, .int .u32 0, .int .i64 0, .int .i64 0, .int .i64 0, .int .i64 0, .int .i64 0, .int .i64 0, .bool false], .agg #[.int .i64 0, .int .i64 0, .int .u32 0, .int .i64 0, .int .u32 0, .int .i64 0, .int .i64 0, .int .i64 0, .int .i64 0, .int .i64 0, .int .i64 0, .bool false], .agg #[.int .i64 0, .int .i64 0, .int .u32 0, .int .u32 0, .int .i64 0, .int .i64 0, .int .i64 0]], []⟩ 8 (by kernel_rfl) (by kernel_rfl) (by kernel_rfl) (by kernel_rfl)) ?_
  intro W base args ds gs before hval0 hW hcnd hsz0 _
  have hsz : (DataW.weightsEach Try.prog (Try.f8.params.toList ++ Rows.ruleCoversSpec.plain.varTypes Try.prog) (ds ++ gs)).all (· ≤ reachBytes) = true := hsz0
  have hval : ∀ (j : Nat) t v, Try.f8.params[j]? = some t → args[j]? = some v → Value.okWide Try.prog W .any base t v := hval0
  have hW' := hW
  obtain ⟨p, q, hA0, hV, rfl, hfz, hnd⟩ := hW
  have hA : DataW.TrodAll enc Try.prog W 0 (fun _ => true) true Try.f8.params.toList args.toList ds p := hA0
  rw [Try.params8] at hA hval hsz
  obtain ⟨v0, vs0, d0, ds0, p0, q0, hargs, rfl, rfl, h0, r0⟩ := trodAll_cons hA
  obtain ⟨v1, vs1, d1, ds1, p1, q1, rfl, rfl, rfl, h1, r1⟩ := trodAll_cons r0
  obtain ⟨v2, vs2, d2, ds2, p2, q2, rfl, rfl, rfl, h2, r2⟩ := trodAll_cons r1
  obtain ⟨rfl, rfl, rfl⟩ := trodAll_nil r2
  obtain rfl : args = #[v0, v1, v2] := by cases args; simp_all
  obtain ⟨rfl, rfl⟩ := trodVars_none hV
  have k0 := h0
  have lt0 : ∀ x ∈ p0, x.block < W.heap.size := by obtain ⟨m, hm⟩ := k0; exact DataW.trod_lt m _ _ _ hm
  obtain ⟨x0, hK0, ok0⟩ := Rd.reads_arg (P.D15.rd42) h0
  obtain ⟨cs0, rfl, hcs0⟩ := okWide_struct Try.underlying42 (hval 0 42 v0 rfl rfl)
  have e0 := P.k42_open hK0
  obtain rfl := Rd.agg_of e0
  have k1 := h1
  have lt1 : ∀ x ∈ p1, x.block < W.heap.size := by obtain ⟨m, hm⟩ := k1; exact DataW.trod_lt m _ _ _ hm
  obtain ⟨x1, hK1, ok1⟩ := Rd.reads_arg (P.D15.rd42) h1
  obtain ⟨cs1, rfl, hcs1⟩ := okWide_struct Try.underlying42 (hval 1 42 v1 rfl rfl)
  have e1 := P.k42_open hK1
  obtain rfl := Rd.agg_of e1
  have k2 := h2
  have lt2 : ∀ x ∈ p2, x.block < W.heap.size := by obtain ⟨m, hm⟩ := k2; exact DataW.trod_lt m _ _ _ hm
  obtain ⟨x2, hK2, ok2⟩ := Rd.reads_arg (P.D15.rd46) h2
  obtain ⟨cs2, rfl, hcs2⟩ := okWide_struct Try.underlying46 (hval 2 46 v2 rfl rfl)
  have e2 := P.k46_open hK2
  obtain rfl := Rd.agg_of e2
  clear hA0 hval0 hsz0 hsz
  obtain ⟨k, hk⟩ := P.D15.covers_pure x0 x1 x2.f0 x2.f1 x2.f2.f0 x2.f2.f1 x2.f2.f2 x2.f2.f3 x2.f2.f4 ⟨P.D15.wI_u32 ok0.2.2.1.1, P.D15.wI_u32 ok0.2.2.2.1.1⟩ ⟨P.D15.wI_u32 ok1.2.2.1.1, P.D15.wI_u32 ok1.2.2.2.1.1⟩ (P.D15.wI_u32 ok2.2.2.1) (P.D15.wI_u32 ok2.2.2.2.1)
  refine (P.gueritelaw15_RuleCovers.calls k x0.f0 x0.f1 x0.f2.f0 x0.f2.f1 x0.f3.f0 x0.f3.f1 x0.f4 x0.f5 x0.f6 x0.f7 x0.f8 x0.f9 x1.f0 x1.f1 x1.f2.f0 x1.f2.f1 x1.f3.f0 x1.f3.f1 x1.f4 x1.f5 x1.f6 x1.f7 x1.f8 x1.f9 x2.f0 x2.f1 x2.f2.f0 x2.f2.f1 x2.f2.f2 x2.f2.f3 x2.f2.f4 true W hk).mono fun e W' ⟨he, bel⟩ => ?_
  subst he
  exact ⟨_, rfl, _, _, _, [], _, [], hW', trodAll_mk1 (shut_bool Try.underlying4 _), (trodAll_cons_mk (Below.trod laidOut (by kernel_rfl) (of_decide_eq_true (by kernel_rfl)) k0 bel lt0) (trodAll_cons_mk (Below.trod laidOut (by kernel_rfl) (of_decide_eq_true (by kernel_rfl)) k1 bel lt1) (trodAll_cons_mk (Below.trod laidOut (by kernel_rfl) (of_decide_eq_true (by kernel_rfl)) k2 bel lt2) trodAll_mk0))), rfl, bel.frame _, fun h => by cases h⟩
theorem over : Rows.ruleCoversRow.holds Try.pinned (OpenSpec.ofChange Rows.ruleCoversSpec) :=
  OpenClaim.holds_of_wide 8 Try.f8 rfl rfl rfl rfl rfl rfl rfl ⟨rfl, rfl, rfl, rfl, rfl⟩ rfl rfl rfl rfl rfl (by kernel_rfl) Try.func8 (by kernel_rfl)
    (of_decide_eq_true (by kernel_rfl)) (by unfold Func.isWrapper; first | (rw [if_pos (by decide +kernel)]; kernel_rfl) | (rw [if_neg (by decide +kernel)]; exact ⟨rfl, rfl⟩))
    (fun os started H enc _ => lifted os started H enc)
theorem proved : Rows.RuleCoversSaid := over
#print axioms proved
end Go.Proofs.Ytakfnghakbjncaa.ruleCovers
namespace Go.Proofs.Ytakfnghakbjncaa
/-- The row, under a short name, for the claim. -/
theorem ruleCovers_holds : Rows.RuleCoversSaid := ruleCovers.proved
end Go.Proofs.Ytakfnghakbjncaa

