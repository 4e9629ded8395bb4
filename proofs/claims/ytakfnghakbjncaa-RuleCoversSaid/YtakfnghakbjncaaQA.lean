/- Plain law of rules: RuleCovers. -/
import Derived.Test.YtakfnghakbjncaaQ7
import Derived.Test.YtakfnghakbjncaaPx25
namespace Go.Proofs.Ytakfnghakbjncaa.P
open Go.RowKit Go.Proofs.YtakfnghakbjncaaW.PrintWords Go.Proofs.YtakfnghakbjncaaW.PrintLast Go.Proofs.YtakfnghakbjncaaW.PrintMore
namespace D15

theorem covers_pure (x y : S42) (a0 a1 a2 a3 a4 a5 a6 : Int) (hx : InR x) (hy : InR y) (h2 : 0 ≤ a2 ∧ a2 < 2 ^ 32) (h3 : 0 ≤ a3 ∧ a3 < 2 ^ 32) : ∃ k, gueritelaw15_RuleCovers.f k x.f0 x.f1 x.f2.f0 x.f2.f1 x.f3.f0 x.f3.f1 x.f4 x.f5 x.f6 x.f7 x.f8 x.f9 y.f0 y.f1 y.f2.f0 y.f2.f1 y.f3.f0 y.f3.f1 y.f4 y.f5 y.f6 y.f7 y.f8 y.f9 a0 a1 a2 a3 a4 a5 a6 = some true := by
  refine ⟨60, ?_⟩
  unfold gueritelaw15_RuleCovers.f
  rw [rc_some x y 60 (by decide), r15_covers x y hx hy 60 (by decide), rm_some x a0 a1 a2 a3 a4 a5 a6 60 (by decide), rm_some y a0 a1 a2 a3 a4 a5 a6 60 (by decide), awake15]
  simp only [Option.bind_some, bne_self_eq_false, Bool.false_eq_true, if_false]
  cases h : rcB x y with
  | false => simp
  | true =>
    cases k : rmB y a0 a1 a2 a3 a4 a5 a6 with
    | false => simp
    | true => rw [covers_sound x y a0 a1 a2 a3 a4 a5 a6 hx hy h2 h3 h k]; simp
end D15
end Go.Proofs.Ytakfnghakbjncaa.P
