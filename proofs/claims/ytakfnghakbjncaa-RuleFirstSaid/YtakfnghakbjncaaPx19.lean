-- Written by a program of this session (xprint.py), over the kit's print; not trusted: Lean checks it.
import Derived.Test.YtakfnghakbjncaaPx0
import Derived.Test.YtakfnghakbjncaaPx5
import Derived.Test.YtakfnghakbjncaaPx18
namespace Go.Proofs.Ytakfnghakbjncaa.P
open Go.RowKit Go.Proofs.YtakfnghakbjncaaW.PrintWords Go.Proofs.YtakfnghakbjncaaW.PrintLast Go.Proofs.YtakfnghakbjncaaW.PrintMore
attribute [local go_sem] max2_int min2_int max_two min_two max_three min_three max_four min_four   -- for this text's walks alone
set_option linter.unusedVariables false
set_option linter.unusedSimpArgs false

/-! ### gueriteref15_Matches: function 24 -/
mutual
def gueriteref15_Matches.j0 : Nat → Bool → Int → Int → Int → Int → Int → Int → Int → Int → Int → Int → Int → Bool → Int → Int → Int → Int → Int → Option (Bool)
  | 0, _, _, _, _, _, _, _, _, _, _, _, _, _, _, _, _, _, _ => none
  | k + 1, x45, x272000, x272001, x272002, x272003, x272004, x272005, x272006, x272007, x272008, x272009, x272010, x272011, x273000, x273001, x273002, x273003, x273004 => if x45 = true then (some false) else ((gueriteref03_Holds.f k x272002 x272003 x273000).bind fun t274 => (if t274 = true then ((gueriteref03_Holds.f k x272004 x272005 x273001).bind fun t275 => (gueriteref15_Matches.j1 k (!t275) x272000 x272001 x272002 x272003 x272004 x272005 x272006 x272007 x272008 x272009 x272010 x272011 x273000 x273001 x273002 x273003 x273004)) else (gueriteref15_Matches.j1 k true x272000 x272001 x272002 x272003 x272004 x272005 x272006 x272007 x272008 x272009 x272010 x272011 x273000 x273001 x273002 x273003 x273004)))
def gueriteref15_Matches.j1 : Nat → Bool → Int → Int → Int → Int → Int → Int → Int → Int → Int → Int → Int → Bool → Int → Int → Int → Int → Int → Option (Bool)
  | 0, _, _, _, _, _, _, _, _, _, _, _, _, _, _, _, _, _, _ => none
  | k + 1, x59, x272000, x272001, x272002, x272003, x272004, x272005, x272006, x272007, x272008, x272009, x272010, x272011, x273000, x273001, x273002, x273003, x273004 => if x59 = true then (some false) else (if x273002 = 6 then (gueriteref15_Matches.j2 k false x272000 x272001 x272002 x272003 x272004 x272005 x272006 x272007 x272008 x272009 x272010 x272011 x273000 x273001 x273002 x273003 x273004) else (if x273002 = 17 then (gueriteref15_Matches.j2 k false x272000 x272001 x272002 x272003 x272004 x272005 x272006 x272007 x272008 x272009 x272010 x272011 x273000 x273001 x273002 x273003 x273004) else (gueriteref15_Matches.j2 k (x273002 != 1) x272000 x272001 x272002 x272003 x272004 x272005 x272006 x272007 x272008 x272009 x272010 x272011 x273000 x273001 x273002 x273003 x273004)))
def gueriteref15_Matches.j2 : Nat → Bool → Int → Int → Int → Int → Int → Int → Int → Int → Int → Int → Int → Bool → Int → Int → Int → Int → Int → Option (Bool)
  | 0, _, _, _, _, _, _, _, _, _, _, _, _, _, _, _, _, _, _ => none
  | k + 1, x72, x272000, x272001, x272002, x272003, x272004, x272005, x272006, x272007, x272008, x272009, x272010, x272011, x273000, x273001, x273002, x273003, x273004 => if x72 = true then (some true) else (if x273003 ≥ x272007 then (if x273003 ≤ x272008 then (if x273004 ≥ x272009 then (some (decide (x273004 ≤ x272010))) else (some false)) else (some false)) else (some false))
end
def gueriteref15_Matches.f (k : Nat) (a0_0 : Int) (a0_1 : Int) (a0_2 : Int) (a0_3 : Int) (a0_4 : Int) (a0_5 : Int) (a0_6 : Int) (a0_7 : Int) (a0_8 : Int) (a0_9 : Int) (a0_10 : Int) (a0_11 : Bool) (a1 : Int) (a2 : Int) (a3_0 : Int) (a3_1 : Int) (a3_2 : Int) (a3_3 : Int) (a3_4 : Int) : Option (Bool) := (gueriteref15_Right.f k a0_0 a0_1 a0_2 a0_3 a0_4 a0_5 a0_6 a0_7 a0_8 a0_9 a0_10 a0_11).bind fun t273 => (if t273 = true then (if a0_0 ≥ 0 then (if a0_0 = a1 then (if a0_1 ≥ 0 then (if a0_1 = a2 then (if a0_6 ≥ 0 then (gueriteref15_Matches.j0 k (a0_6 != a3_2) a0_0 a0_1 a0_2 a0_3 a0_4 a0_5 a0_6 a0_7 a0_8 a0_9 a0_10 a0_11 a3_0 a3_1 a3_2 a3_3 a3_4) else (gueriteref15_Matches.j0 k false a0_0 a0_1 a0_2 a0_3 a0_4 a0_5 a0_6 a0_7 a0_8 a0_9 a0_10 a0_11 a3_0 a3_1 a3_2 a3_3 a3_4)) else (gueriteref15_Matches.j0 k true a0_0 a0_1 a0_2 a0_3 a0_4 a0_5 a0_6 a0_7 a0_8 a0_9 a0_10 a0_11 a3_0 a3_1 a3_2 a3_3 a3_4)) else (if a0_6 ≥ 0 then (gueriteref15_Matches.j0 k (a0_6 != a3_2) a0_0 a0_1 a0_2 a0_3 a0_4 a0_5 a0_6 a0_7 a0_8 a0_9 a0_10 a0_11 a3_0 a3_1 a3_2 a3_3 a3_4) else (gueriteref15_Matches.j0 k false a0_0 a0_1 a0_2 a0_3 a0_4 a0_5 a0_6 a0_7 a0_8 a0_9 a0_10 a0_11 a3_0 a3_1 a3_2 a3_3 a3_4))) else (gueriteref15_Matches.j0 k true a0_0 a0_1 a0_2 a0_3 a0_4 a0_5 a0_6 a0_7 a0_8 a0_9 a0_10 a0_11 a3_0 a3_1 a3_2 a3_3 a3_4)) else (if a0_1 ≥ 0 then (if a0_1 = a2 then (if a0_6 ≥ 0 then (gueriteref15_Matches.j0 k (a0_6 != a3_2) a0_0 a0_1 a0_2 a0_3 a0_4 a0_5 a0_6 a0_7 a0_8 a0_9 a0_10 a0_11 a3_0 a3_1 a3_2 a3_3 a3_4) else (gueriteref15_Matches.j0 k false a0_0 a0_1 a0_2 a0_3 a0_4 a0_5 a0_6 a0_7 a0_8 a0_9 a0_10 a0_11 a3_0 a3_1 a3_2 a3_3 a3_4)) else (gueriteref15_Matches.j0 k true a0_0 a0_1 a0_2 a0_3 a0_4 a0_5 a0_6 a0_7 a0_8 a0_9 a0_10 a0_11 a3_0 a3_1 a3_2 a3_3 a3_4)) else (if a0_6 ≥ 0 then (gueriteref15_Matches.j0 k (a0_6 != a3_2) a0_0 a0_1 a0_2 a0_3 a0_4 a0_5 a0_6 a0_7 a0_8 a0_9 a0_10 a0_11 a3_0 a3_1 a3_2 a3_3 a3_4) else (gueriteref15_Matches.j0 k false a0_0 a0_1 a0_2 a0_3 a0_4 a0_5 a0_6 a0_7 a0_8 a0_9 a0_10 a0_11 a3_0 a3_1 a3_2 a3_3 a3_4)))) else (gueriteref15_Matches.j0 k true a0_0 a0_1 a0_2 a0_3 a0_4 a0_5 a0_6 a0_7 a0_8 a0_9 a0_10 a0_11 a3_0 a3_1 a3_2 a3_3 a3_4))
theorem gueriteref15_Matches.mono_l : ∀ k, (∀ y0 y1 y2 y3 y4 y5 y6 y7 y8 y9 y10 y11 y12 y13 y14 y15 y16 y17, LeO (gueriteref15_Matches.j0 k y0 y1 y2 y3 y4 y5 y6 y7 y8 y9 y10 y11 y12 y13 y14 y15 y16 y17) (gueriteref15_Matches.j0 (k + 1) y0 y1 y2 y3 y4 y5 y6 y7 y8 y9 y10 y11 y12 y13 y14 y15 y16 y17)) ∧ (∀ y0 y1 y2 y3 y4 y5 y6 y7 y8 y9 y10 y11 y12 y13 y14 y15 y16 y17, LeO (gueriteref15_Matches.j1 k y0 y1 y2 y3 y4 y5 y6 y7 y8 y9 y10 y11 y12 y13 y14 y15 y16 y17) (gueriteref15_Matches.j1 (k + 1) y0 y1 y2 y3 y4 y5 y6 y7 y8 y9 y10 y11 y12 y13 y14 y15 y16 y17)) ∧ (∀ y0 y1 y2 y3 y4 y5 y6 y7 y8 y9 y10 y11 y12 y13 y14 y15 y16 y17, LeO (gueriteref15_Matches.j2 k y0 y1 y2 y3 y4 y5 y6 y7 y8 y9 y10 y11 y12 y13 y14 y15 y16 y17) (gueriteref15_Matches.j2 (k + 1) y0 y1 y2 y3 y4 y5 y6 y7 y8 y9 y10 y11 y12 y13 y14 y15 y16 y17))
  | 0 => ⟨fun _ _ _ _ _ _ _ _ _ _ _ _ _ _ _ _ _ _ r h => by simp [gueriteref15_Matches.j0] at h, fun _ _ _ _ _ _ _ _ _ _ _ _ _ _ _ _ _ _ r h => by simp [gueriteref15_Matches.j1] at h, fun _ _ _ _ _ _ _ _ _ _ _ _ _ _ _ _ _ _ r h => by simp [gueriteref15_Matches.j2] at h⟩
  | k + 1 => by
    obtain ⟨ih0, ih1, ih2⟩ := gueriteref15_Matches.mono_l k
    refine ⟨?_, ?_, ?_⟩
    · intro y0 y1 y2 y3 y4 y5 y6 y7 y8 y9 y10 y11 y12 y13 y14 y15 y16 y17
      unfold gueriteref15_Matches.j0
      repeat' first
      | (with_reducible exact ih0 _ _ _ _ _ _ _ _ _ _ _ _ _ _ _ _ _ _)
      | (with_reducible exact ih1 _ _ _ _ _ _ _ _ _ _ _ _ _ _ _ _ _ _)
      | (with_reducible exact ih2 _ _ _ _ _ _ _ _ _ _ _ _ _ _ _ _ _ _)
      | (with_reducible exact gueriteref03_Holds.mono _ _ _ _)
      | (with_reducible exact gueriteref15_Right.mono _ _ _ _ _ _ _ _ _ _ _ _ _)
      | (with_reducible exact LeO.refl _)
      | (with_reducible exact LeO.none _)
      | (with_reducible refine LeO.ite ?_ ?_)
      | (with_reducible refine LeO.bind ?_ (fun _ => ?_))
      | exact ih0 _ _ _ _ _ _ _ _ _ _ _ _ _ _ _ _ _ _
      | exact ih1 _ _ _ _ _ _ _ _ _ _ _ _ _ _ _ _ _ _
      | exact ih2 _ _ _ _ _ _ _ _ _ _ _ _ _ _ _ _ _ _
      | exact gueriteref03_Holds.mono _ _ _ _
      | exact gueriteref15_Right.mono _ _ _ _ _ _ _ _ _ _ _ _ _
      | exact LeO.none _
      | refine LeO.ite ?_ ?_
      | refine LeO.bind ?_ (fun _ => ?_)
    · intro y0 y1 y2 y3 y4 y5 y6 y7 y8 y9 y10 y11 y12 y13 y14 y15 y16 y17
      unfold gueriteref15_Matches.j1
      repeat' first
      | (with_reducible exact ih0 _ _ _ _ _ _ _ _ _ _ _ _ _ _ _ _ _ _)
      | (with_reducible exact ih1 _ _ _ _ _ _ _ _ _ _ _ _ _ _ _ _ _ _)
      | (with_reducible exact ih2 _ _ _ _ _ _ _ _ _ _ _ _ _ _ _ _ _ _)
      | (with_reducible exact gueriteref03_Holds.mono _ _ _ _)
      | (with_reducible exact gueriteref15_Right.mono _ _ _ _ _ _ _ _ _ _ _ _ _)
      | (with_reducible exact LeO.refl _)
      | (with_reducible exact LeO.none _)
      | (with_reducible refine LeO.ite ?_ ?_)
      | (with_reducible refine LeO.bind ?_ (fun _ => ?_))
      | exact ih0 _ _ _ _ _ _ _ _ _ _ _ _ _ _ _ _ _ _
      | exact ih1 _ _ _ _ _ _ _ _ _ _ _ _ _ _ _ _ _ _
      | exact ih2 _ _ _ _ _ _ _ _ _ _ _ _ _ _ _ _ _ _
      | exact gueriteref03_Holds.mono _ _ _ _
      | exact gueriteref15_Right.mono _ _ _ _ _ _ _ _ _ _ _ _ _
      | exact LeO.none _
      | refine LeO.ite ?_ ?_
      | refine LeO.bind ?_ (fun _ => ?_)
    · intro y0 y1 y2 y3 y4 y5 y6 y7 y8 y9 y10 y11 y12 y13 y14 y15 y16 y17
      unfold gueriteref15_Matches.j2
      repeat' first
      | (with_reducible exact ih0 _ _ _ _ _ _ _ _ _ _ _ _ _ _ _ _ _ _)
      | (with_reducible exact ih1 _ _ _ _ _ _ _ _ _ _ _ _ _ _ _ _ _ _)
      | (with_reducible exact ih2 _ _ _ _ _ _ _ _ _ _ _ _ _ _ _ _ _ _)
      | (with_reducible exact gueriteref03_Holds.mono _ _ _ _)
      | (with_reducible exact gueriteref15_Right.mono _ _ _ _ _ _ _ _ _ _ _ _ _)
      | (with_reducible exact LeO.refl _)
      | (with_reducible exact LeO.none _)
      | (with_reducible refine LeO.ite ?_ ?_)
      | (with_reducible refine LeO.bind ?_ (fun _ => ?_))
      | exact ih0 _ _ _ _ _ _ _ _ _ _ _ _ _ _ _ _ _ _
      | exact ih1 _ _ _ _ _ _ _ _ _ _ _ _ _ _ _ _ _ _
      | exact ih2 _ _ _ _ _ _ _ _ _ _ _ _ _ _ _ _ _ _
      | exact gueriteref03_Holds.mono _ _ _ _
      | exact gueriteref15_Right.mono _ _ _ _ _ _ _ _ _ _ _ _ _
      | exact LeO.none _
      | refine LeO.ite ?_ ?_
      | refine LeO.bind ?_ (fun _ => ?_)
theorem gueriteref15_Matches.mono : ∀ a0 a1 a2 a3 a4 a5 a6 a7 a8 a9 a10 a11 a12 a13 a14 a15 a16 a17 a18 k, LeO (gueriteref15_Matches.f k a0 a1 a2 a3 a4 a5 a6 a7 a8 a9 a10 a11 a12 a13 a14 a15 a16 a17 a18) (gueriteref15_Matches.f (k + 1) a0 a1 a2 a3 a4 a5 a6 a7 a8 a9 a10 a11 a12 a13 a14 a15 a16 a17 a18) := by
  intro a0 a1 a2 a3 a4 a5 a6 a7 a8 a9 a10 a11 a12 a13 a14 a15 a16 a17 a18 k
  obtain ⟨ih0, ih1, ih2⟩ := gueriteref15_Matches.mono_l k
  unfold gueriteref15_Matches.f
  repeat' first
      | (with_reducible exact ih0 _ _ _ _ _ _ _ _ _ _ _ _ _ _ _ _ _ _)
      | (with_reducible exact ih1 _ _ _ _ _ _ _ _ _ _ _ _ _ _ _ _ _ _)
      | (with_reducible exact ih2 _ _ _ _ _ _ _ _ _ _ _ _ _ _ _ _ _ _)
      | (with_reducible exact gueriteref03_Holds.mono _ _ _ _)
      | (with_reducible exact gueriteref15_Right.mono _ _ _ _ _ _ _ _ _ _ _ _ _)
      | (with_reducible exact LeO.refl _)
      | (with_reducible exact LeO.none _)
      | (with_reducible refine LeO.ite ?_ ?_)
      | (with_reducible refine LeO.bind ?_ (fun _ => ?_))
      | exact ih0 _ _ _ _ _ _ _ _ _ _ _ _ _ _ _ _ _ _
      | exact ih1 _ _ _ _ _ _ _ _ _ _ _ _ _ _ _ _ _ _
      | exact ih2 _ _ _ _ _ _ _ _ _ _ _ _ _ _ _ _ _ _
      | exact gueriteref03_Holds.mono _ _ _ _
      | exact gueriteref15_Right.mono _ _ _ _ _ _ _ _ _ _ _ _ _
      | exact LeO.none _
      | refine LeO.ite ?_ ?_
      | refine LeO.bind ?_ (fun _ => ?_)
set_option maxHeartbeats 8000000 in
set_option maxRecDepth 100000 in
theorem gueriteref15_Matches.calls (k : Nat) (a0_0 : Int) (a0_1 : Int) (a0_2 : Int) (a0_3 : Int) (a0_4 : Int) (a0_5 : Int) (a0_6 : Int) (a0_7 : Int) (a0_8 : Int) (a0_9 : Int) (a0_10 : Int) (a0_11 : Bool) (a1 : Int) (a2 : Int) (a3_0 : Int) (a3_1 : Int) (a3_2 : Int) (a3_3 : Int) (a3_4 : Int) (r : Bool) (w : World) (h : gueriteref15_Matches.f k a0_0 a0_1 a0_2 a0_3 a0_4 a0_5 a0_6 a0_7 a0_8 a0_9 a0_10 a0_11 a1 a2 a3_0 a3_1 a3_2 a3_3 a3_4 = some r) :
    Calls Try.prog 24 #[.agg #[.int .i64 a0_0, .int .i64 a0_1, .int .u32 a0_2, .int .i64 a0_3, .int .u32 a0_4, .int .i64 a0_5, .int .i64 a0_6, .int .i64 a0_7, .int .i64 a0_8, .int .i64 a0_9, .int .i64 a0_10, .bool a0_11], .int .i64 a1, .int .i64 a2, .agg #[.int .u32 a3_0, .int .u32 a3_1, .int .i64 a3_2, .int .i64 a3_3, .int .i64 a3_4]] w fun e w' => e = .returned (.bool r) ∧ Below w.heap.size w w' := by
  have hu42 := Try.underlying42
  have hu44 := Try.underlying44
  have hu29 := Try.underlying29
  have HB := Aside0.mk (Below.refl w.heap.size w)
  have H : ((gueriteref15_Right.f k a0_0 a0_1 a0_2 a0_3 a0_4 a0_5 a0_6 a0_7 a0_8 a0_9 a0_10 a0_11).bind fun t273 => (if t273 = true then (if a0_0 ≥ 0 then (if a0_0 = a1 then (if a0_1 ≥ 0 then (if a0_1 = a2 then (if a0_6 ≥ 0 then (gueriteref15_Matches.j0 k (a0_6 != a3_2) a0_0 a0_1 a0_2 a0_3 a0_4 a0_5 a0_6 a0_7 a0_8 a0_9 a0_10 a0_11 a3_0 a3_1 a3_2 a3_3 a3_4) else (gueriteref15_Matches.j0 k false a0_0 a0_1 a0_2 a0_3 a0_4 a0_5 a0_6 a0_7 a0_8 a0_9 a0_10 a0_11 a3_0 a3_1 a3_2 a3_3 a3_4)) else (gueriteref15_Matches.j0 k true a0_0 a0_1 a0_2 a0_3 a0_4 a0_5 a0_6 a0_7 a0_8 a0_9 a0_10 a0_11 a3_0 a3_1 a3_2 a3_3 a3_4)) else (if a0_6 ≥ 0 then (gueriteref15_Matches.j0 k (a0_6 != a3_2) a0_0 a0_1 a0_2 a0_3 a0_4 a0_5 a0_6 a0_7 a0_8 a0_9 a0_10 a0_11 a3_0 a3_1 a3_2 a3_3 a3_4) else (gueriteref15_Matches.j0 k false a0_0 a0_1 a0_2 a0_3 a0_4 a0_5 a0_6 a0_7 a0_8 a0_9 a0_10 a0_11 a3_0 a3_1 a3_2 a3_3 a3_4))) else (gueriteref15_Matches.j0 k true a0_0 a0_1 a0_2 a0_3 a0_4 a0_5 a0_6 a0_7 a0_8 a0_9 a0_10 a0_11 a3_0 a3_1 a3_2 a3_3 a3_4)) else (if a0_1 ≥ 0 then (if a0_1 = a2 then (if a0_6 ≥ 0 then (gueriteref15_Matches.j0 k (a0_6 != a3_2) a0_0 a0_1 a0_2 a0_3 a0_4 a0_5 a0_6 a0_7 a0_8 a0_9 a0_10 a0_11 a3_0 a3_1 a3_2 a3_3 a3_4) else (gueriteref15_Matches.j0 k false a0_0 a0_1 a0_2 a0_3 a0_4 a0_5 a0_6 a0_7 a0_8 a0_9 a0_10 a0_11 a3_0 a3_1 a3_2 a3_3 a3_4)) else (gueriteref15_Matches.j0 k true a0_0 a0_1 a0_2 a0_3 a0_4 a0_5 a0_6 a0_7 a0_8 a0_9 a0_10 a0_11 a3_0 a3_1 a3_2 a3_3 a3_4)) else (if a0_6 ≥ 0 then (gueriteref15_Matches.j0 k (a0_6 != a3_2) a0_0 a0_1 a0_2 a0_3 a0_4 a0_5 a0_6 a0_7 a0_8 a0_9 a0_10 a0_11 a3_0 a3_1 a3_2 a3_3 a3_4) else (gueriteref15_Matches.j0 k false a0_0 a0_1 a0_2 a0_3 a0_4 a0_5 a0_6 a0_7 a0_8 a0_9 a0_10 a0_11 a3_0 a3_1 a3_2 a3_3 a3_4)))) else (gueriteref15_Matches.j0 k true a0_0 a0_1 a0_2 a0_3 a0_4 a0_5 a0_6 a0_7 a0_8 a0_9 a0_10 a0_11 a3_0 a3_1 a3_2 a3_3 a3_4))) = some r := h
  clear h
  have HC5 := Aside0.mk H
  clear H
  go_enter Try.func24, Try.ntmps24
  go_upto_region 1 with (first | ((with_reducible refine gate_dst (N := 4) rfl ?_); refine box_event ?hg (N := 4) ?hd (cs := #[.int .i64 a0_0, .int .i64 a0_1, .int .u32 a0_2, .int .i64 a0_3, .int .u32 a0_4, .int .i64 a0_5, .int .i64 a0_6, .int .i64 a0_7, .int .i64 a0_8, .int .i64 a0_9, .int .i64 a0_10, .bool a0_11]) (t := 42) ?hr ?_; (case hd => rfl); (case hg => rfl); (case hr => first | (go_simp; done) | (go_simp; rfl)); intro gb271 hg w6 hbox hb; have n0_ := Aside0.mk (below_step (by repeat (first | (with_reducible first | exact HB.out | apply below_alloc | apply pw_below_drewN | apply below_drew1) | exact HB.out)) hb); have n1_ := Aside0.mk (hbox); have n2_ := Aside0.mk ((by rw [hg]; exact (below_size (by repeat (first | (with_reducible first | exact HB.out | apply below_alloc | apply pw_below_drewN | apply below_drew1) | exact HB.out))) : w.heap.size ≤ gb271)); have n3_ := Aside0.mk ((by rw [hg]; exact (below_size (by repeat (first | (with_reducible first | exact HB.out | apply below_alloc | apply pw_below_drewN | apply below_drew1) | exact HB.out))) : w.heap.size ≤ gb271)); clear HB; have HB := n0_; have BK271 := n1_; have GW271 := n2_; have GE271 := n3_; clear n0_ n1_ n2_ n3_; clear hb hbox hg) | ((with_reducible refine gate_dst (N := 7) rfl ?_); refine box_event ?hg (N := 7) ?hd (cs := #[.int .u32 a3_0, .int .u32 a3_1, .int .i64 a3_2, .int .i64 a3_3, .int .i64 a3_4]) (t := 44) ?hr ?_; (case hd => rfl); (case hg => rfl); (case hr => first | (go_simp; done) | (go_simp; rfl)); intro gb272 hg w7 hbox hb; have n0_ := Aside0.mk (blk_below (g := gb271) (o := .cells #[.int .i64 a0_0, .int .i64 a0_1, .int .u32 a0_2, .int .i64 a0_3, .int .u32 a0_4, .int .i64 a0_5, .int .i64 a0_6, .int .i64 a0_7, .int .i64 a0_8, .int .i64 a0_9, .int .i64 a0_10, .bool a0_11] 42 (0, 0)) (by (with_reducible repeat (first | refine blk_drewN ?_ _ | refine blk_drew ?_ | refine blk_alloc ?_ _)); exact BK271.out) hb); have n1_ := Aside0.mk (below_step (by repeat (first | (with_reducible first | exact HB.out | apply below_alloc | apply pw_below_drewN | apply below_drew1 | refine below_set ?_ GE271.out) | exact HB.out)) hb); have n2_ := Aside0.mk (hbox); have n3_ := Aside0.mk ((by rw [hg]; exact (below_size (by repeat (first | (with_reducible first | exact HB.out | apply below_alloc | apply pw_below_drewN | apply below_drew1 | refine below_set ?_ GE271.out) | exact HB.out))) : w.heap.size ≤ gb272)); have n4_ := Aside0.mk ((by rw [hg]; exact (below_size (by repeat (first | (with_reducible first | exact HB.out | apply below_alloc | apply pw_below_drewN | apply below_drew1 | refine below_set ?_ GE271.out) | exact HB.out))) : w.heap.size ≤ gb272)); have n5_ := Aside0.mk ((by rw [hg]; exact Nat.ne_of_lt (blk_lt (g := gb271) (o := .cells #[.int .i64 a0_0, .int .i64 a0_1, .int .u32 a0_2, .int .i64 a0_3, .int .u32 a0_4, .int .i64 a0_5, .int .i64 a0_6, .int .i64 a0_7, .int .i64 a0_8, .int .i64 a0_9, .int .i64 a0_10, .bool a0_11] 42 (0, 0)) (by (with_reducible repeat (first | refine blk_drewN ?_ _ | refine blk_drew ?_ | refine blk_alloc ?_ _)); exact BK271.out)) : gb271 ≠ gb272)); have n6_ := Aside0.mk ((by rw [hg]; exact Nat.ne_of_gt (blk_lt (g := gb271) (o := .cells #[.int .i64 a0_0, .int .i64 a0_1, .int .u32 a0_2, .int .i64 a0_3, .int .u32 a0_4, .int .i64 a0_5, .int .i64 a0_6, .int .i64 a0_7, .int .i64 a0_8, .int .i64 a0_9, .int .i64 a0_10, .bool a0_11] 42 (0, 0)) (by (with_reducible repeat (first | refine blk_drewN ?_ _ | refine blk_drew ?_ | refine blk_alloc ?_ _)); exact BK271.out)) : gb272 ≠ gb271)); clear BK271; clear HB; have BK271 := n0_; have HB := n1_; have BK272 := n2_; have GW272 := n3_; have GE272 := n4_; have NB271_272 := n5_; have NB272_271 := n6_; clear n0_ n1_ n2_ n3_ n4_ n5_ n6_; clear hb hbox hg))
  (try simp only [Act.put, List.setIfInBounds_toArray, List.set_cons_zero, List.set_cons_succ])
  go_cut [45] (fun v45 wc => ∃ (kq : Nat) (x45_4 : Bool), v45 = .bool x45_4 ∧ Aside0 (gueriteref15_Matches.j0 kq x45_4 a0_0 a0_1 a0_2 a0_3 a0_4 a0_5 a0_6 a0_7 a0_8 a0_9 a0_10 a0_11 a3_0 a3_1 a3_2 a3_3 a3_4 = some r) ∧ Aside0 (kq ≤ k) ∧ Aside0 (wc.heap[gb271]? = some (.cells #[.int .i64 a0_0, .int .i64 a0_1, .int .u32 a0_2, .int .i64 a0_3, .int .u32 a0_4, .int .i64 a0_5, .int .i64 a0_6, .int .i64 a0_7, .int .i64 a0_8, .int .i64 a0_9, .int .i64 a0_10, .bool a0_11] 42 (0, 0))) ∧ Aside0 (wc.heap[gb272]? = some (.cells #[.int .u32 a3_0, .int .u32 a3_1, .int .i64 a3_2, .int .i64 a3_3, .int .i64 a3_4] 44 (0, 0))) ∧ Aside0 (Below w.heap.size w wc))
  case first =>
    have H := HC5.out
    clear HC5
    replace H := Option.bind_eq_some_iff.mp H
    obtain ⟨t273, A80, H⟩ := H
    replace H : (if t273 = true then (if a0_0 ≥ 0 then (if a0_0 = a1 then (if a0_1 ≥ 0 then (if a0_1 = a2 then (if a0_6 ≥ 0 then (gueriteref15_Matches.j0 k (a0_6 != a3_2) a0_0 a0_1 a0_2 a0_3 a0_4 a0_5 a0_6 a0_7 a0_8 a0_9 a0_10 a0_11 a3_0 a3_1 a3_2 a3_3 a3_4) else (gueriteref15_Matches.j0 k false a0_0 a0_1 a0_2 a0_3 a0_4 a0_5 a0_6 a0_7 a0_8 a0_9 a0_10 a0_11 a3_0 a3_1 a3_2 a3_3 a3_4)) else (gueriteref15_Matches.j0 k true a0_0 a0_1 a0_2 a0_3 a0_4 a0_5 a0_6 a0_7 a0_8 a0_9 a0_10 a0_11 a3_0 a3_1 a3_2 a3_3 a3_4)) else (if a0_6 ≥ 0 then (gueriteref15_Matches.j0 k (a0_6 != a3_2) a0_0 a0_1 a0_2 a0_3 a0_4 a0_5 a0_6 a0_7 a0_8 a0_9 a0_10 a0_11 a3_0 a3_1 a3_2 a3_3 a3_4) else (gueriteref15_Matches.j0 k false a0_0 a0_1 a0_2 a0_3 a0_4 a0_5 a0_6 a0_7 a0_8 a0_9 a0_10 a0_11 a3_0 a3_1 a3_2 a3_3 a3_4))) else (gueriteref15_Matches.j0 k true a0_0 a0_1 a0_2 a0_3 a0_4 a0_5 a0_6 a0_7 a0_8 a0_9 a0_10 a0_11 a3_0 a3_1 a3_2 a3_3 a3_4)) else (if a0_1 ≥ 0 then (if a0_1 = a2 then (if a0_6 ≥ 0 then (gueriteref15_Matches.j0 k (a0_6 != a3_2) a0_0 a0_1 a0_2 a0_3 a0_4 a0_5 a0_6 a0_7 a0_8 a0_9 a0_10 a0_11 a3_0 a3_1 a3_2 a3_3 a3_4) else (gueriteref15_Matches.j0 k false a0_0 a0_1 a0_2 a0_3 a0_4 a0_5 a0_6 a0_7 a0_8 a0_9 a0_10 a0_11 a3_0 a3_1 a3_2 a3_3 a3_4)) else (gueriteref15_Matches.j0 k true a0_0 a0_1 a0_2 a0_3 a0_4 a0_5 a0_6 a0_7 a0_8 a0_9 a0_10 a0_11 a3_0 a3_1 a3_2 a3_3 a3_4)) else (if a0_6 ≥ 0 then (gueriteref15_Matches.j0 k (a0_6 != a3_2) a0_0 a0_1 a0_2 a0_3 a0_4 a0_5 a0_6 a0_7 a0_8 a0_9 a0_10 a0_11 a3_0 a3_1 a3_2 a3_3 a3_4) else (gueriteref15_Matches.j0 k false a0_0 a0_1 a0_2 a0_3 a0_4 a0_5 a0_6 a0_7 a0_8 a0_9 a0_10 a0_11 a3_0 a3_1 a3_2 a3_3 a3_4)))) else (gueriteref15_Matches.j0 k true a0_0 a0_1 a0_2 a0_3 a0_4 a0_5 a0_6 a0_7 a0_8 a0_9 a0_10 a0_11 a3_0 a3_1 a3_2 a3_3 a3_4)) = some r := H
    have A8 := Aside0.mk A80
    clear A80
    by_cases c9 : t273 = true
    · subst c9
      have H1 : (if a0_0 ≥ 0 then (if a0_0 = a1 then (if a0_1 ≥ 0 then (if a0_1 = a2 then (if a0_6 ≥ 0 then (gueriteref15_Matches.j0 k (a0_6 != a3_2) a0_0 a0_1 a0_2 a0_3 a0_4 a0_5 a0_6 a0_7 a0_8 a0_9 a0_10 a0_11 a3_0 a3_1 a3_2 a3_3 a3_4) else (gueriteref15_Matches.j0 k false a0_0 a0_1 a0_2 a0_3 a0_4 a0_5 a0_6 a0_7 a0_8 a0_9 a0_10 a0_11 a3_0 a3_1 a3_2 a3_3 a3_4)) else (gueriteref15_Matches.j0 k true a0_0 a0_1 a0_2 a0_3 a0_4 a0_5 a0_6 a0_7 a0_8 a0_9 a0_10 a0_11 a3_0 a3_1 a3_2 a3_3 a3_4)) else (if a0_6 ≥ 0 then (gueriteref15_Matches.j0 k (a0_6 != a3_2) a0_0 a0_1 a0_2 a0_3 a0_4 a0_5 a0_6 a0_7 a0_8 a0_9 a0_10 a0_11 a3_0 a3_1 a3_2 a3_3 a3_4) else (gueriteref15_Matches.j0 k false a0_0 a0_1 a0_2 a0_3 a0_4 a0_5 a0_6 a0_7 a0_8 a0_9 a0_10 a0_11 a3_0 a3_1 a3_2 a3_3 a3_4))) else (gueriteref15_Matches.j0 k true a0_0 a0_1 a0_2 a0_3 a0_4 a0_5 a0_6 a0_7 a0_8 a0_9 a0_10 a0_11 a3_0 a3_1 a3_2 a3_3 a3_4)) else (if a0_1 ≥ 0 then (if a0_1 = a2 then (if a0_6 ≥ 0 then (gueriteref15_Matches.j0 k (a0_6 != a3_2) a0_0 a0_1 a0_2 a0_3 a0_4 a0_5 a0_6 a0_7 a0_8 a0_9 a0_10 a0_11 a3_0 a3_1 a3_2 a3_3 a3_4) else (gueriteref15_Matches.j0 k false a0_0 a0_1 a0_2 a0_3 a0_4 a0_5 a0_6 a0_7 a0_8 a0_9 a0_10 a0_11 a3_0 a3_1 a3_2 a3_3 a3_4)) else (gueriteref15_Matches.j0 k true a0_0 a0_1 a0_2 a0_3 a0_4 a0_5 a0_6 a0_7 a0_8 a0_9 a0_10 a0_11 a3_0 a3_1 a3_2 a3_3 a3_4)) else (if a0_6 ≥ 0 then (gueriteref15_Matches.j0 k (a0_6 != a3_2) a0_0 a0_1 a0_2 a0_3 a0_4 a0_5 a0_6 a0_7 a0_8 a0_9 a0_10 a0_11 a3_0 a3_1 a3_2 a3_3 a3_4) else (gueriteref15_Matches.j0 k false a0_0 a0_1 a0_2 a0_3 a0_4 a0_5 a0_6 a0_7 a0_8 a0_9 a0_10 a0_11 a3_0 a3_1 a3_2 a3_3 a3_4)))) = some r := by rw [if_pos rfl] at H; exact H
      clear H
      have H := H1
      clear H1
      by_cases c10 : a0_0 ≥ 0
      · rw [if_pos c10] at H
        have c10b0 : decide (0 ≤ a0_0) = true := decide_eq_true c10
        clear c10
        (first | rw [c10b0] | (simp only [i64_w, i32_w]; rw [c10b0]) | skip)
        by_cases c11 : a0_0 = a1
        · rw [if_pos c11] at H
          have c11b0 : (a0_0 == a1) = true := beq_iff_eq.mpr c11
          have c11b1 : (a0_0 != a1) = false := bne_eq_false_iff_eq.mpr c11
          clear c11
          by_cases c12 : a0_1 ≥ 0
          · rw [if_pos c12] at H
            have c12b0 : decide (0 ≤ a0_1) = true := decide_eq_true c12
            clear c12
            by_cases c13 : a0_1 = a2
            · rw [if_pos c13] at H
              have c13b0 : (a0_1 == a2) = true := beq_iff_eq.mpr c13
              have c13b1 : (a0_1 != a2) = false := bne_eq_false_iff_eq.mpr c13
              clear c13
              by_cases c14 : a0_6 ≥ 0
              · rw [if_pos c14] at H
                have c14b0 : decide (0 ≤ a0_6) = true := decide_eq_true c14
                clear c14
                have H' := Aside0.mk H
                clear H
                have hnb15 := NB271_272.out
                have hnc15 := NB272_271.out
                have hcz16_0 : w7.cell? ⟨gb271, 0, none⟩ = some (.int .i64 a0_0) := (blk_cell BK271.out 0).trans rfl
                have hcz16_1 : w7.cell? ⟨gb271, 1, none⟩ = some (.int .i64 a0_1) := (blk_cell BK271.out 1).trans rfl
                have hcz16_2 : w7.cell? ⟨gb271, 2, none⟩ = some (.int .u32 a0_2) := (blk_cell BK271.out 2).trans rfl
                have hcz16_3 : w7.cell? ⟨gb271, 3, none⟩ = some (.int .i64 a0_3) := (blk_cell BK271.out 3).trans rfl
                have hcz16_4 : w7.cell? ⟨gb271, 4, none⟩ = some (.int .u32 a0_4) := (blk_cell BK271.out 4).trans rfl
                have hcz16_5 : w7.cell? ⟨gb271, 5, none⟩ = some (.int .i64 a0_5) := (blk_cell BK271.out 5).trans rfl
                have hcz16_6 : w7.cell? ⟨gb271, 6, none⟩ = some (.int .i64 a0_6) := (blk_cell BK271.out 6).trans rfl
                have hcz16_7 : w7.cell? ⟨gb271, 7, none⟩ = some (.int .i64 a0_7) := (blk_cell BK271.out 7).trans rfl
                have hcz16_8 : w7.cell? ⟨gb271, 8, none⟩ = some (.int .i64 a0_8) := (blk_cell BK271.out 8).trans rfl
                have hcz16_9 : w7.cell? ⟨gb271, 9, none⟩ = some (.int .i64 a0_9) := (blk_cell BK271.out 9).trans rfl
                have hcz16_10 : w7.cell? ⟨gb271, 10, none⟩ = some (.int .i64 a0_10) := (blk_cell BK271.out 10).trans rfl
                have hcz16_11 : w7.cell? ⟨gb271, 11, none⟩ = some (.bool a0_11) := (blk_cell BK271.out 11).trans rfl
                have hfz16_0 := blk_frozen BK271.out 0
                have hfz16_1 := blk_frozen BK271.out 1
                have hfz16_2 := blk_frozen BK271.out 2
                have hfz16_3 := blk_frozen BK271.out 3
                have hfz16_4 := blk_frozen BK271.out 4
                have hfz16_5 := blk_frozen BK271.out 5
                have hfz16_6 := blk_frozen BK271.out 6
                have hfz16_7 := blk_frozen BK271.out 7
                have hfz16_8 := blk_frozen BK271.out 8
                have hfz16_9 := blk_frozen BK271.out 9
                have hfz16_10 := blk_frozen BK271.out 10
                have hfz16_11 := blk_frozen BK271.out 11
                go_wp2_with (first | ((with_reducible refine gate_callee (f := 23) rfl ?_); refine goesL_ (some 10) rfl rfl Try.func23 (by kernel_rfl) rfl #[.agg #[.int .i64 a0_0, .int .i64 a0_1, .int .u32 a0_2, .int .i64 a0_3, .int .u32 a0_4, .int .i64 a0_5, .int .i64 a0_6, .int .i64 a0_7, .int .i64 a0_8, .int .i64 a0_9, .int .i64 a0_10, .bool a0_11]] rfl (by (try simp only [List.map_toArray, List.map_cons, List.map_nil]); first | done | rfl | (simp only [List.length_drop, List.length_take]; rfl)) ?_; (with_reducible refine (gueriteref15_Right.calls k a0_0 a0_1 a0_2 a0_3 a0_4 a0_5 a0_6 a0_7 a0_8 a0_9 a0_10 a0_11 true _ A8.out).mono ?_); rintro e w17 ⟨rfl, hb⟩; refine ⟨_, rfl, ?_⟩; have n0_ := Aside0.mk (blk_below (g := gb271) (o := .cells #[.int .i64 a0_0, .int .i64 a0_1, .int .u32 a0_2, .int .i64 a0_3, .int .u32 a0_4, .int .i64 a0_5, .int .i64 a0_6, .int .i64 a0_7, .int .i64 a0_8, .int .i64 a0_9, .int .i64 a0_10, .bool a0_11] 42 (0, 0)) (by (with_reducible repeat (first | refine blk_drewN ?_ _ | refine blk_drew ?_ | refine blk_alloc ?_ _)); exact BK271.out) hb); have n1_ := Aside0.mk (blk_below (g := gb272) (o := .cells #[.int .u32 a3_0, .int .u32 a3_1, .int .i64 a3_2, .int .i64 a3_3, .int .i64 a3_4] 44 (0, 0)) (by (with_reducible repeat (first | refine blk_drewN ?_ _ | refine blk_drew ?_ | refine blk_alloc ?_ _)); exact BK272.out) hb); have n2_ := Aside0.mk (below_step (by repeat (first | (with_reducible first | exact HB.out | apply below_alloc | apply pw_below_drewN | apply below_drew1 | refine below_set ?_ GE271.out | refine below_set ?_ GE272.out) | exact HB.out)) hb); clear BK271; clear BK272; clear HB; have BK271 := n0_; have BK272 := n1_; have HB := n2_; clear n0_ n1_ n2_; (try clear hb); (try clear hb2); (try clear hk); (try clear hi); have hcz18_0 : w17.cell? ⟨gb271, 0, none⟩ = some (.int .i64 a0_0) := (blk_cell BK271.out 0).trans rfl; have hcz18_1 : w17.cell? ⟨gb271, 1, none⟩ = some (.int .i64 a0_1) := (blk_cell BK271.out 1).trans rfl; have hcz18_2 : w17.cell? ⟨gb271, 2, none⟩ = some (.int .u32 a0_2) := (blk_cell BK271.out 2).trans rfl; have hcz18_3 : w17.cell? ⟨gb271, 3, none⟩ = some (.int .i64 a0_3) := (blk_cell BK271.out 3).trans rfl; have hcz18_4 : w17.cell? ⟨gb271, 4, none⟩ = some (.int .u32 a0_4) := (blk_cell BK271.out 4).trans rfl; have hcz18_5 : w17.cell? ⟨gb271, 5, none⟩ = some (.int .i64 a0_5) := (blk_cell BK271.out 5).trans rfl; have hcz18_6 : w17.cell? ⟨gb271, 6, none⟩ = some (.int .i64 a0_6) := (blk_cell BK271.out 6).trans rfl; have hcz18_7 : w17.cell? ⟨gb271, 7, none⟩ = some (.int .i64 a0_7) := (blk_cell BK271.out 7).trans rfl; have hcz18_8 : w17.cell? ⟨gb271, 8, none⟩ = some (.int .i64 a0_8) := (blk_cell BK271.out 8).trans rfl; have hcz18_9 : w17.cell? ⟨gb271, 9, none⟩ = some (.int .i64 a0_9) := (blk_cell BK271.out 9).trans rfl; have hcz18_10 : w17.cell? ⟨gb271, 10, none⟩ = some (.int .i64 a0_10) := (blk_cell BK271.out 10).trans rfl; have hcz18_11 : w17.cell? ⟨gb271, 11, none⟩ = some (.bool a0_11) := (blk_cell BK271.out 11).trans rfl; have hfz18_0 := blk_frozen BK271.out 0; have hfz18_1 := blk_frozen BK271.out 1; have hfz18_2 := blk_frozen BK271.out 2; have hfz18_3 := blk_frozen BK271.out 3; have hfz18_4 := blk_frozen BK271.out 4; have hfz18_5 := blk_frozen BK271.out 5; have hfz18_6 := blk_frozen BK271.out 6; have hfz18_7 := blk_frozen BK271.out 7; have hfz18_8 := blk_frozen BK271.out 8; have hfz18_9 := blk_frozen BK271.out 9; have hfz18_10 := blk_frozen BK271.out 10; have hfz18_11 := blk_frozen BK271.out 11; have hcz19_0 : w17.cell? ⟨gb272, 0, none⟩ = some (.int .u32 a3_0) := (blk_cell BK272.out 0).trans rfl; have hcz19_1 : w17.cell? ⟨gb272, 1, none⟩ = some (.int .u32 a3_1) := (blk_cell BK272.out 1).trans rfl; have hcz19_2 : w17.cell? ⟨gb272, 2, none⟩ = some (.int .i64 a3_2) := (blk_cell BK272.out 2).trans rfl; have hcz19_3 : w17.cell? ⟨gb272, 3, none⟩ = some (.int .i64 a3_3) := (blk_cell BK272.out 3).trans rfl; have hcz19_4 : w17.cell? ⟨gb272, 4, none⟩ = some (.int .i64 a3_4) := (blk_cell BK272.out 4).trans rfl; have hfz19_0 := blk_frozen BK272.out 0; have hfz19_1 := blk_frozen BK272.out 1; have hfz19_2 := blk_frozen BK272.out 2; have hfz19_3 := blk_frozen BK272.out 3; have hfz19_4 := blk_frozen BK272.out 4))
                go_meet
                case rel => exact ⟨_, ((a0_6 != a3_2)), (by first | rfl | (simp; done) | (simp [*]; done)), H', ⟨by first | omega | exact Nat.le_refl _⟩, ⟨by (with_reducible repeat (first | refine blk_drewN ?_ _ | refine blk_drew ?_ | refine blk_alloc ?_ _)); exact BK271.out⟩, ⟨by (with_reducible repeat (first | refine blk_drewN ?_ _ | refine blk_drew ?_ | refine blk_alloc ?_ _)); exact BK272.out⟩, ⟨by repeat (first | (with_reducible first | exact HB.out | apply below_alloc | apply pw_below_drewN | apply below_drew1 | refine below_set ?_ GE271.out | refine below_set ?_ GE272.out) | exact HB.out)⟩⟩
              · rw [if_neg c14] at H
                have c14b0 : decide (0 ≤ a0_6) = false := decide_eq_false c14
                clear c14
                have H' := Aside0.mk H
                clear H
                have hnb20 := NB271_272.out
                have hnc20 := NB272_271.out
                have hcz21_0 : w7.cell? ⟨gb271, 0, none⟩ = some (.int .i64 a0_0) := (blk_cell BK271.out 0).trans rfl
                have hcz21_1 : w7.cell? ⟨gb271, 1, none⟩ = some (.int .i64 a0_1) := (blk_cell BK271.out 1).trans rfl
                have hcz21_2 : w7.cell? ⟨gb271, 2, none⟩ = some (.int .u32 a0_2) := (blk_cell BK271.out 2).trans rfl
                have hcz21_3 : w7.cell? ⟨gb271, 3, none⟩ = some (.int .i64 a0_3) := (blk_cell BK271.out 3).trans rfl
                have hcz21_4 : w7.cell? ⟨gb271, 4, none⟩ = some (.int .u32 a0_4) := (blk_cell BK271.out 4).trans rfl
                have hcz21_5 : w7.cell? ⟨gb271, 5, none⟩ = some (.int .i64 a0_5) := (blk_cell BK271.out 5).trans rfl
                have hcz21_6 : w7.cell? ⟨gb271, 6, none⟩ = some (.int .i64 a0_6) := (blk_cell BK271.out 6).trans rfl
                have hcz21_7 : w7.cell? ⟨gb271, 7, none⟩ = some (.int .i64 a0_7) := (blk_cell BK271.out 7).trans rfl
                have hcz21_8 : w7.cell? ⟨gb271, 8, none⟩ = some (.int .i64 a0_8) := (blk_cell BK271.out 8).trans rfl
                have hcz21_9 : w7.cell? ⟨gb271, 9, none⟩ = some (.int .i64 a0_9) := (blk_cell BK271.out 9).trans rfl
                have hcz21_10 : w7.cell? ⟨gb271, 10, none⟩ = some (.int .i64 a0_10) := (blk_cell BK271.out 10).trans rfl
                have hcz21_11 : w7.cell? ⟨gb271, 11, none⟩ = some (.bool a0_11) := (blk_cell BK271.out 11).trans rfl
                have hfz21_0 := blk_frozen BK271.out 0
                have hfz21_1 := blk_frozen BK271.out 1
                have hfz21_2 := blk_frozen BK271.out 2
                have hfz21_3 := blk_frozen BK271.out 3
                have hfz21_4 := blk_frozen BK271.out 4
                have hfz21_5 := blk_frozen BK271.out 5
                have hfz21_6 := blk_frozen BK271.out 6
                have hfz21_7 := blk_frozen BK271.out 7
                have hfz21_8 := blk_frozen BK271.out 8
                have hfz21_9 := blk_frozen BK271.out 9
                have hfz21_10 := blk_frozen BK271.out 10
                have hfz21_11 := blk_frozen BK271.out 11
                go_wp2_with (first | ((with_reducible refine gate_callee (f := 23) rfl ?_); refine goesL_ (some 10) rfl rfl Try.func23 (by kernel_rfl) rfl #[.agg #[.int .i64 a0_0, .int .i64 a0_1, .int .u32 a0_2, .int .i64 a0_3, .int .u32 a0_4, .int .i64 a0_5, .int .i64 a0_6, .int .i64 a0_7, .int .i64 a0_8, .int .i64 a0_9, .int .i64 a0_10, .bool a0_11]] rfl (by (try simp only [List.map_toArray, List.map_cons, List.map_nil]); first | done | rfl | (simp only [List.length_drop, List.length_take]; rfl)) ?_; (with_reducible refine (gueriteref15_Right.calls k a0_0 a0_1 a0_2 a0_3 a0_4 a0_5 a0_6 a0_7 a0_8 a0_9 a0_10 a0_11 true _ A8.out).mono ?_); rintro e w22 ⟨rfl, hb⟩; refine ⟨_, rfl, ?_⟩; have n0_ := Aside0.mk (blk_below (g := gb271) (o := .cells #[.int .i64 a0_0, .int .i64 a0_1, .int .u32 a0_2, .int .i64 a0_3, .int .u32 a0_4, .int .i64 a0_5, .int .i64 a0_6, .int .i64 a0_7, .int .i64 a0_8, .int .i64 a0_9, .int .i64 a0_10, .bool a0_11] 42 (0, 0)) (by (with_reducible repeat (first | refine blk_drewN ?_ _ | refine blk_drew ?_ | refine blk_alloc ?_ _)); exact BK271.out) hb); have n1_ := Aside0.mk (blk_below (g := gb272) (o := .cells #[.int .u32 a3_0, .int .u32 a3_1, .int .i64 a3_2, .int .i64 a3_3, .int .i64 a3_4] 44 (0, 0)) (by (with_reducible repeat (first | refine blk_drewN ?_ _ | refine blk_drew ?_ | refine blk_alloc ?_ _)); exact BK272.out) hb); have n2_ := Aside0.mk (below_step (by repeat (first | (with_reducible first | exact HB.out | apply below_alloc | apply pw_below_drewN | apply below_drew1 | refine below_set ?_ GE271.out | refine below_set ?_ GE272.out) | exact HB.out)) hb); clear BK271; clear BK272; clear HB; have BK271 := n0_; have BK272 := n1_; have HB := n2_; clear n0_ n1_ n2_; (try clear hb); (try clear hb2); (try clear hk); (try clear hi); have hcz23_0 : w22.cell? ⟨gb271, 0, none⟩ = some (.int .i64 a0_0) := (blk_cell BK271.out 0).trans rfl; have hcz23_1 : w22.cell? ⟨gb271, 1, none⟩ = some (.int .i64 a0_1) := (blk_cell BK271.out 1).trans rfl; have hcz23_2 : w22.cell? ⟨gb271, 2, none⟩ = some (.int .u32 a0_2) := (blk_cell BK271.out 2).trans rfl; have hcz23_3 : w22.cell? ⟨gb271, 3, none⟩ = some (.int .i64 a0_3) := (blk_cell BK271.out 3).trans rfl; have hcz23_4 : w22.cell? ⟨gb271, 4, none⟩ = some (.int .u32 a0_4) := (blk_cell BK271.out 4).trans rfl; have hcz23_5 : w22.cell? ⟨gb271, 5, none⟩ = some (.int .i64 a0_5) := (blk_cell BK271.out 5).trans rfl; have hcz23_6 : w22.cell? ⟨gb271, 6, none⟩ = some (.int .i64 a0_6) := (blk_cell BK271.out 6).trans rfl; have hcz23_7 : w22.cell? ⟨gb271, 7, none⟩ = some (.int .i64 a0_7) := (blk_cell BK271.out 7).trans rfl; have hcz23_8 : w22.cell? ⟨gb271, 8, none⟩ = some (.int .i64 a0_8) := (blk_cell BK271.out 8).trans rfl; have hcz23_9 : w22.cell? ⟨gb271, 9, none⟩ = some (.int .i64 a0_9) := (blk_cell BK271.out 9).trans rfl; have hcz23_10 : w22.cell? ⟨gb271, 10, none⟩ = some (.int .i64 a0_10) := (blk_cell BK271.out 10).trans rfl; have hcz23_11 : w22.cell? ⟨gb271, 11, none⟩ = some (.bool a0_11) := (blk_cell BK271.out 11).trans rfl; have hfz23_0 := blk_frozen BK271.out 0; have hfz23_1 := blk_frozen BK271.out 1; have hfz23_2 := blk_frozen BK271.out 2; have hfz23_3 := blk_frozen BK271.out 3; have hfz23_4 := blk_frozen BK271.out 4; have hfz23_5 := blk_frozen BK271.out 5; have hfz23_6 := blk_frozen BK271.out 6; have hfz23_7 := blk_frozen BK271.out 7; have hfz23_8 := blk_frozen BK271.out 8; have hfz23_9 := blk_frozen BK271.out 9; have hfz23_10 := blk_frozen BK271.out 10; have hfz23_11 := blk_frozen BK271.out 11))
                go_meet
                case rel => exact ⟨_, (false), (by first | rfl | (simp; done) | (simp [*]; done)), H', ⟨by first | omega | exact Nat.le_refl _⟩, ⟨by (with_reducible repeat (first | refine blk_drewN ?_ _ | refine blk_drew ?_ | refine blk_alloc ?_ _)); exact BK271.out⟩, ⟨by (with_reducible repeat (first | refine blk_drewN ?_ _ | refine blk_drew ?_ | refine blk_alloc ?_ _)); exact BK272.out⟩, ⟨by repeat (first | (with_reducible first | exact HB.out | apply below_alloc | apply pw_below_drewN | apply below_drew1 | refine below_set ?_ GE271.out | refine below_set ?_ GE272.out) | exact HB.out)⟩⟩
            · rw [if_neg c13] at H
              have c13b0 : (a0_1 == a2) = false := beq_eq_false_iff_ne.mpr c13
              have c13b1 : (a0_1 != a2) = true := bne_iff_ne.mpr c13
              have H' := Aside0.mk H
              clear H
              have hnb24 := NB271_272.out
              have hnc24 := NB272_271.out
              have hcz25_0 : w7.cell? ⟨gb271, 0, none⟩ = some (.int .i64 a0_0) := (blk_cell BK271.out 0).trans rfl
              have hcz25_1 : w7.cell? ⟨gb271, 1, none⟩ = some (.int .i64 a0_1) := (blk_cell BK271.out 1).trans rfl
              have hcz25_2 : w7.cell? ⟨gb271, 2, none⟩ = some (.int .u32 a0_2) := (blk_cell BK271.out 2).trans rfl
              have hcz25_3 : w7.cell? ⟨gb271, 3, none⟩ = some (.int .i64 a0_3) := (blk_cell BK271.out 3).trans rfl
              have hcz25_4 : w7.cell? ⟨gb271, 4, none⟩ = some (.int .u32 a0_4) := (blk_cell BK271.out 4).trans rfl
              have hcz25_5 : w7.cell? ⟨gb271, 5, none⟩ = some (.int .i64 a0_5) := (blk_cell BK271.out 5).trans rfl
              have hcz25_6 : w7.cell? ⟨gb271, 6, none⟩ = some (.int .i64 a0_6) := (blk_cell BK271.out 6).trans rfl
              have hcz25_7 : w7.cell? ⟨gb271, 7, none⟩ = some (.int .i64 a0_7) := (blk_cell BK271.out 7).trans rfl
              have hcz25_8 : w7.cell? ⟨gb271, 8, none⟩ = some (.int .i64 a0_8) := (blk_cell BK271.out 8).trans rfl
              have hcz25_9 : w7.cell? ⟨gb271, 9, none⟩ = some (.int .i64 a0_9) := (blk_cell BK271.out 9).trans rfl
              have hcz25_10 : w7.cell? ⟨gb271, 10, none⟩ = some (.int .i64 a0_10) := (blk_cell BK271.out 10).trans rfl
              have hcz25_11 : w7.cell? ⟨gb271, 11, none⟩ = some (.bool a0_11) := (blk_cell BK271.out 11).trans rfl
              have hfz25_0 := blk_frozen BK271.out 0
              have hfz25_1 := blk_frozen BK271.out 1
              have hfz25_2 := blk_frozen BK271.out 2
              have hfz25_3 := blk_frozen BK271.out 3
              have hfz25_4 := blk_frozen BK271.out 4
              have hfz25_5 := blk_frozen BK271.out 5
              have hfz25_6 := blk_frozen BK271.out 6
              have hfz25_7 := blk_frozen BK271.out 7
              have hfz25_8 := blk_frozen BK271.out 8
              have hfz25_9 := blk_frozen BK271.out 9
              have hfz25_10 := blk_frozen BK271.out 10
              have hfz25_11 := blk_frozen BK271.out 11
              go_wp2_with (first | ((with_reducible refine gate_callee (f := 23) rfl ?_); refine goesL_ (some 10) rfl rfl Try.func23 (by kernel_rfl) rfl #[.agg #[.int .i64 a0_0, .int .i64 a0_1, .int .u32 a0_2, .int .i64 a0_3, .int .u32 a0_4, .int .i64 a0_5, .int .i64 a0_6, .int .i64 a0_7, .int .i64 a0_8, .int .i64 a0_9, .int .i64 a0_10, .bool a0_11]] rfl (by (try simp only [List.map_toArray, List.map_cons, List.map_nil]); first | done | rfl | (simp only [List.length_drop, List.length_take]; rfl)) ?_; (with_reducible refine (gueriteref15_Right.calls k a0_0 a0_1 a0_2 a0_3 a0_4 a0_5 a0_6 a0_7 a0_8 a0_9 a0_10 a0_11 true _ A8.out).mono ?_); rintro e w26 ⟨rfl, hb⟩; refine ⟨_, rfl, ?_⟩; have n0_ := Aside0.mk (blk_below (g := gb271) (o := .cells #[.int .i64 a0_0, .int .i64 a0_1, .int .u32 a0_2, .int .i64 a0_3, .int .u32 a0_4, .int .i64 a0_5, .int .i64 a0_6, .int .i64 a0_7, .int .i64 a0_8, .int .i64 a0_9, .int .i64 a0_10, .bool a0_11] 42 (0, 0)) (by (with_reducible repeat (first | refine blk_drewN ?_ _ | refine blk_drew ?_ | refine blk_alloc ?_ _)); exact BK271.out) hb); have n1_ := Aside0.mk (blk_below (g := gb272) (o := .cells #[.int .u32 a3_0, .int .u32 a3_1, .int .i64 a3_2, .int .i64 a3_3, .int .i64 a3_4] 44 (0, 0)) (by (with_reducible repeat (first | refine blk_drewN ?_ _ | refine blk_drew ?_ | refine blk_alloc ?_ _)); exact BK272.out) hb); have n2_ := Aside0.mk (below_step (by repeat (first | (with_reducible first | exact HB.out | apply below_alloc | apply pw_below_drewN | apply below_drew1 | refine below_set ?_ GE271.out | refine below_set ?_ GE272.out) | exact HB.out)) hb); clear BK271; clear BK272; clear HB; have BK271 := n0_; have BK272 := n1_; have HB := n2_; clear n0_ n1_ n2_; (try clear hb); (try clear hb2); (try clear hk); (try clear hi); have hcz27_0 : w26.cell? ⟨gb271, 0, none⟩ = some (.int .i64 a0_0) := (blk_cell BK271.out 0).trans rfl; have hcz27_1 : w26.cell? ⟨gb271, 1, none⟩ = some (.int .i64 a0_1) := (blk_cell BK271.out 1).trans rfl; have hcz27_2 : w26.cell? ⟨gb271, 2, none⟩ = some (.int .u32 a0_2) := (blk_cell BK271.out 2).trans rfl; have hcz27_3 : w26.cell? ⟨gb271, 3, none⟩ = some (.int .i64 a0_3) := (blk_cell BK271.out 3).trans rfl; have hcz27_4 : w26.cell? ⟨gb271, 4, none⟩ = some (.int .u32 a0_4) := (blk_cell BK271.out 4).trans rfl; have hcz27_5 : w26.cell? ⟨gb271, 5, none⟩ = some (.int .i64 a0_5) := (blk_cell BK271.out 5).trans rfl; have hcz27_6 : w26.cell? ⟨gb271, 6, none⟩ = some (.int .i64 a0_6) := (blk_cell BK271.out 6).trans rfl; have hcz27_7 : w26.cell? ⟨gb271, 7, none⟩ = some (.int .i64 a0_7) := (blk_cell BK271.out 7).trans rfl; have hcz27_8 : w26.cell? ⟨gb271, 8, none⟩ = some (.int .i64 a0_8) := (blk_cell BK271.out 8).trans rfl; have hcz27_9 : w26.cell? ⟨gb271, 9, none⟩ = some (.int .i64 a0_9) := (blk_cell BK271.out 9).trans rfl; have hcz27_10 : w26.cell? ⟨gb271, 10, none⟩ = some (.int .i64 a0_10) := (blk_cell BK271.out 10).trans rfl; have hcz27_11 : w26.cell? ⟨gb271, 11, none⟩ = some (.bool a0_11) := (blk_cell BK271.out 11).trans rfl; have hfz27_0 := blk_frozen BK271.out 0; have hfz27_1 := blk_frozen BK271.out 1; have hfz27_2 := blk_frozen BK271.out 2; have hfz27_3 := blk_frozen BK271.out 3; have hfz27_4 := blk_frozen BK271.out 4; have hfz27_5 := blk_frozen BK271.out 5; have hfz27_6 := blk_frozen BK271.out 6; have hfz27_7 := blk_frozen BK271.out 7; have hfz27_8 := blk_frozen BK271.out 8; have hfz27_9 := blk_frozen BK271.out 9; have hfz27_10 := blk_frozen BK271.out 10; have hfz27_11 := blk_frozen BK271.out 11))
              go_meet
              case rel => exact ⟨_, (true), (by first | rfl | (simp; done) | (simp [*]; done)), H', ⟨by first | omega | exact Nat.le_refl _⟩, ⟨by (with_reducible repeat (first | refine blk_drewN ?_ _ | refine blk_drew ?_ | refine blk_alloc ?_ _)); exact BK271.out⟩, ⟨by (with_reducible repeat (first | refine blk_drewN ?_ _ | refine blk_drew ?_ | refine blk_alloc ?_ _)); exact BK272.out⟩, ⟨by repeat (first | (with_reducible first | exact HB.out | apply below_alloc | apply pw_below_drewN | apply below_drew1 | refine below_set ?_ GE271.out | refine below_set ?_ GE272.out) | exact HB.out)⟩⟩
          · rw [if_neg c12] at H
            have c12b0 : decide (0 ≤ a0_1) = false := decide_eq_false c12
            clear c12
            by_cases c28 : a0_6 ≥ 0
            · rw [if_pos c28] at H
              have c28b0 : decide (0 ≤ a0_6) = true := decide_eq_true c28
              clear c28
              have H' := Aside0.mk H
              clear H
              have hnb29 := NB271_272.out
              have hnc29 := NB272_271.out
              have hcz30_0 : w7.cell? ⟨gb271, 0, none⟩ = some (.int .i64 a0_0) := (blk_cell BK271.out 0).trans rfl
              have hcz30_1 : w7.cell? ⟨gb271, 1, none⟩ = some (.int .i64 a0_1) := (blk_cell BK271.out 1).trans rfl
              have hcz30_2 : w7.cell? ⟨gb271, 2, none⟩ = some (.int .u32 a0_2) := (blk_cell BK271.out 2).trans rfl
              have hcz30_3 : w7.cell? ⟨gb271, 3, none⟩ = some (.int .i64 a0_3) := (blk_cell BK271.out 3).trans rfl
              have hcz30_4 : w7.cell? ⟨gb271, 4, none⟩ = some (.int .u32 a0_4) := (blk_cell BK271.out 4).trans rfl
              have hcz30_5 : w7.cell? ⟨gb271, 5, none⟩ = some (.int .i64 a0_5) := (blk_cell BK271.out 5).trans rfl
              have hcz30_6 : w7.cell? ⟨gb271, 6, none⟩ = some (.int .i64 a0_6) := (blk_cell BK271.out 6).trans rfl
              have hcz30_7 : w7.cell? ⟨gb271, 7, none⟩ = some (.int .i64 a0_7) := (blk_cell BK271.out 7).trans rfl
              have hcz30_8 : w7.cell? ⟨gb271, 8, none⟩ = some (.int .i64 a0_8) := (blk_cell BK271.out 8).trans rfl
              have hcz30_9 : w7.cell? ⟨gb271, 9, none⟩ = some (.int .i64 a0_9) := (blk_cell BK271.out 9).trans rfl
              have hcz30_10 : w7.cell? ⟨gb271, 10, none⟩ = some (.int .i64 a0_10) := (blk_cell BK271.out 10).trans rfl
              have hcz30_11 : w7.cell? ⟨gb271, 11, none⟩ = some (.bool a0_11) := (blk_cell BK271.out 11).trans rfl
              have hfz30_0 := blk_frozen BK271.out 0
              have hfz30_1 := blk_frozen BK271.out 1
              have hfz30_2 := blk_frozen BK271.out 2
              have hfz30_3 := blk_frozen BK271.out 3
              have hfz30_4 := blk_frozen BK271.out 4
              have hfz30_5 := blk_frozen BK271.out 5
              have hfz30_6 := blk_frozen BK271.out 6
              have hfz30_7 := blk_frozen BK271.out 7
              have hfz30_8 := blk_frozen BK271.out 8
              have hfz30_9 := blk_frozen BK271.out 9
              have hfz30_10 := blk_frozen BK271.out 10
              have hfz30_11 := blk_frozen BK271.out 11
              go_wp2_with (first | ((with_reducible refine gate_callee (f := 23) rfl ?_); refine goesL_ (some 10) rfl rfl Try.func23 (by kernel_rfl) rfl #[.agg #[.int .i64 a0_0, .int .i64 a0_1, .int .u32 a0_2, .int .i64 a0_3, .int .u32 a0_4, .int .i64 a0_5, .int .i64 a0_6, .int .i64 a0_7, .int .i64 a0_8, .int .i64 a0_9, .int .i64 a0_10, .bool a0_11]] rfl (by (try simp only [List.map_toArray, List.map_cons, List.map_nil]); first | done | rfl | (simp only [List.length_drop, List.length_take]; rfl)) ?_; (with_reducible refine (gueriteref15_Right.calls k a0_0 a0_1 a0_2 a0_3 a0_4 a0_5 a0_6 a0_7 a0_8 a0_9 a0_10 a0_11 true _ A8.out).mono ?_); rintro e w31 ⟨rfl, hb⟩; refine ⟨_, rfl, ?_⟩; have n0_ := Aside0.mk (blk_below (g := gb271) (o := .cells #[.int .i64 a0_0, .int .i64 a0_1, .int .u32 a0_2, .int .i64 a0_3, .int .u32 a0_4, .int .i64 a0_5, .int .i64 a0_6, .int .i64 a0_7, .int .i64 a0_8, .int .i64 a0_9, .int .i64 a0_10, .bool a0_11] 42 (0, 0)) (by (with_reducible repeat (first | refine blk_drewN ?_ _ | refine blk_drew ?_ | refine blk_alloc ?_ _)); exact BK271.out) hb); have n1_ := Aside0.mk (blk_below (g := gb272) (o := .cells #[.int .u32 a3_0, .int .u32 a3_1, .int .i64 a3_2, .int .i64 a3_3, .int .i64 a3_4] 44 (0, 0)) (by (with_reducible repeat (first | refine blk_drewN ?_ _ | refine blk_drew ?_ | refine blk_alloc ?_ _)); exact BK272.out) hb); have n2_ := Aside0.mk (below_step (by repeat (first | (with_reducible first | exact HB.out | apply below_alloc | apply pw_below_drewN | apply below_drew1 | refine below_set ?_ GE271.out | refine below_set ?_ GE272.out) | exact HB.out)) hb); clear BK271; clear BK272; clear HB; have BK271 := n0_; have BK272 := n1_; have HB := n2_; clear n0_ n1_ n2_; (try clear hb); (try clear hb2); (try clear hk); (try clear hi); have hcz32_0 : w31.cell? ⟨gb271, 0, none⟩ = some (.int .i64 a0_0) := (blk_cell BK271.out 0).trans rfl; have hcz32_1 : w31.cell? ⟨gb271, 1, none⟩ = some (.int .i64 a0_1) := (blk_cell BK271.out 1).trans rfl; have hcz32_2 : w31.cell? ⟨gb271, 2, none⟩ = some (.int .u32 a0_2) := (blk_cell BK271.out 2).trans rfl; have hcz32_3 : w31.cell? ⟨gb271, 3, none⟩ = some (.int .i64 a0_3) := (blk_cell BK271.out 3).trans rfl; have hcz32_4 : w31.cell? ⟨gb271, 4, none⟩ = some (.int .u32 a0_4) := (blk_cell BK271.out 4).trans rfl; have hcz32_5 : w31.cell? ⟨gb271, 5, none⟩ = some (.int .i64 a0_5) := (blk_cell BK271.out 5).trans rfl; have hcz32_6 : w31.cell? ⟨gb271, 6, none⟩ = some (.int .i64 a0_6) := (blk_cell BK271.out 6).trans rfl; have hcz32_7 : w31.cell? ⟨gb271, 7, none⟩ = some (.int .i64 a0_7) := (blk_cell BK271.out 7).trans rfl; have hcz32_8 : w31.cell? ⟨gb271, 8, none⟩ = some (.int .i64 a0_8) := (blk_cell BK271.out 8).trans rfl; have hcz32_9 : w31.cell? ⟨gb271, 9, none⟩ = some (.int .i64 a0_9) := (blk_cell BK271.out 9).trans rfl; have hcz32_10 : w31.cell? ⟨gb271, 10, none⟩ = some (.int .i64 a0_10) := (blk_cell BK271.out 10).trans rfl; have hcz32_11 : w31.cell? ⟨gb271, 11, none⟩ = some (.bool a0_11) := (blk_cell BK271.out 11).trans rfl; have hfz32_0 := blk_frozen BK271.out 0; have hfz32_1 := blk_frozen BK271.out 1; have hfz32_2 := blk_frozen BK271.out 2; have hfz32_3 := blk_frozen BK271.out 3; have hfz32_4 := blk_frozen BK271.out 4; have hfz32_5 := blk_frozen BK271.out 5; have hfz32_6 := blk_frozen BK271.out 6; have hfz32_7 := blk_frozen BK271.out 7; have hfz32_8 := blk_frozen BK271.out 8; have hfz32_9 := blk_frozen BK271.out 9; have hfz32_10 := blk_frozen BK271.out 10; have hfz32_11 := blk_frozen BK271.out 11; have hcz33_0 : w31.cell? ⟨gb272, 0, none⟩ = some (.int .u32 a3_0) := (blk_cell BK272.out 0).trans rfl; have hcz33_1 : w31.cell? ⟨gb272, 1, none⟩ = some (.int .u32 a3_1) := (blk_cell BK272.out 1).trans rfl; have hcz33_2 : w31.cell? ⟨gb272, 2, none⟩ = some (.int .i64 a3_2) := (blk_cell BK272.out 2).trans rfl; have hcz33_3 : w31.cell? ⟨gb272, 3, none⟩ = some (.int .i64 a3_3) := (blk_cell BK272.out 3).trans rfl; have hcz33_4 : w31.cell? ⟨gb272, 4, none⟩ = some (.int .i64 a3_4) := (blk_cell BK272.out 4).trans rfl; have hfz33_0 := blk_frozen BK272.out 0; have hfz33_1 := blk_frozen BK272.out 1; have hfz33_2 := blk_frozen BK272.out 2; have hfz33_3 := blk_frozen BK272.out 3; have hfz33_4 := blk_frozen BK272.out 4))
              go_meet
              case rel => exact ⟨_, ((a0_6 != a3_2)), (by first | rfl | (simp; done) | (simp [*]; done)), H', ⟨by first | omega | exact Nat.le_refl _⟩, ⟨by (with_reducible repeat (first | refine blk_drewN ?_ _ | refine blk_drew ?_ | refine blk_alloc ?_ _)); exact BK271.out⟩, ⟨by (with_reducible repeat (first | refine blk_drewN ?_ _ | refine blk_drew ?_ | refine blk_alloc ?_ _)); exact BK272.out⟩, ⟨by repeat (first | (with_reducible first | exact HB.out | apply below_alloc | apply pw_below_drewN | apply below_drew1 | refine below_set ?_ GE271.out | refine below_set ?_ GE272.out) | exact HB.out)⟩⟩
            · rw [if_neg c28] at H
              have c28b0 : decide (0 ≤ a0_6) = false := decide_eq_false c28
              clear c28
              have H' := Aside0.mk H
              clear H
              have hnb34 := NB271_272.out
              have hnc34 := NB272_271.out
              have hcz35_0 : w7.cell? ⟨gb271, 0, none⟩ = some (.int .i64 a0_0) := (blk_cell BK271.out 0).trans rfl
              have hcz35_1 : w7.cell? ⟨gb271, 1, none⟩ = some (.int .i64 a0_1) := (blk_cell BK271.out 1).trans rfl
              have hcz35_2 : w7.cell? ⟨gb271, 2, none⟩ = some (.int .u32 a0_2) := (blk_cell BK271.out 2).trans rfl
              have hcz35_3 : w7.cell? ⟨gb271, 3, none⟩ = some (.int .i64 a0_3) := (blk_cell BK271.out 3).trans rfl
              have hcz35_4 : w7.cell? ⟨gb271, 4, none⟩ = some (.int .u32 a0_4) := (blk_cell BK271.out 4).trans rfl
              have hcz35_5 : w7.cell? ⟨gb271, 5, none⟩ = some (.int .i64 a0_5) := (blk_cell BK271.out 5).trans rfl
              have hcz35_6 : w7.cell? ⟨gb271, 6, none⟩ = some (.int .i64 a0_6) := (blk_cell BK271.out 6).trans rfl
              have hcz35_7 : w7.cell? ⟨gb271, 7, none⟩ = some (.int .i64 a0_7) := (blk_cell BK271.out 7).trans rfl
              have hcz35_8 : w7.cell? ⟨gb271, 8, none⟩ = some (.int .i64 a0_8) := (blk_cell BK271.out 8).trans rfl
              have hcz35_9 : w7.cell? ⟨gb271, 9, none⟩ = some (.int .i64 a0_9) := (blk_cell BK271.out 9).trans rfl
              have hcz35_10 : w7.cell? ⟨gb271, 10, none⟩ = some (.int .i64 a0_10) := (blk_cell BK271.out 10).trans rfl
              have hcz35_11 : w7.cell? ⟨gb271, 11, none⟩ = some (.bool a0_11) := (blk_cell BK271.out 11).trans rfl
              have hfz35_0 := blk_frozen BK271.out 0
              have hfz35_1 := blk_frozen BK271.out 1
              have hfz35_2 := blk_frozen BK271.out 2
              have hfz35_3 := blk_frozen BK271.out 3
              have hfz35_4 := blk_frozen BK271.out 4
              have hfz35_5 := blk_frozen BK271.out 5
              have hfz35_6 := blk_frozen BK271.out 6
              have hfz35_7 := blk_frozen BK271.out 7
              have hfz35_8 := blk_frozen BK271.out 8
              have hfz35_9 := blk_frozen BK271.out 9
              have hfz35_10 := blk_frozen BK271.out 10
              have hfz35_11 := blk_frozen BK271.out 11
              go_wp2_with (first | ((with_reducible refine gate_callee (f := 23) rfl ?_); refine goesL_ (some 10) rfl rfl Try.func23 (by kernel_rfl) rfl #[.agg #[.int .i64 a0_0, .int .i64 a0_1, .int .u32 a0_2, .int .i64 a0_3, .int .u32 a0_4, .int .i64 a0_5, .int .i64 a0_6, .int .i64 a0_7, .int .i64 a0_8, .int .i64 a0_9, .int .i64 a0_10, .bool a0_11]] rfl (by (try simp only [List.map_toArray, List.map_cons, List.map_nil]); first | done | rfl | (simp only [List.length_drop, List.length_take]; rfl)) ?_; (with_reducible refine (gueriteref15_Right.calls k a0_0 a0_1 a0_2 a0_3 a0_4 a0_5 a0_6 a0_7 a0_8 a0_9 a0_10 a0_11 true _ A8.out).mono ?_); rintro e w36 ⟨rfl, hb⟩; refine ⟨_, rfl, ?_⟩; have n0_ := Aside0.mk (blk_below (g := gb271) (o := .cells #[.int .i64 a0_0, .int .i64 a0_1, .int .u32 a0_2, .int .i64 a0_3, .int .u32 a0_4, .int .i64 a0_5, .int .i64 a0_6, .int .i64 a0_7, .int .i64 a0_8, .int .i64 a0_9, .int .i64 a0_10, .bool a0_11] 42 (0, 0)) (by (with_reducible repeat (first | refine blk_drewN ?_ _ | refine blk_drew ?_ | refine blk_alloc ?_ _)); exact BK271.out) hb); have n1_ := Aside0.mk (blk_below (g := gb272) (o := .cells #[.int .u32 a3_0, .int .u32 a3_1, .int .i64 a3_2, .int .i64 a3_3, .int .i64 a3_4] 44 (0, 0)) (by (with_reducible repeat (first | refine blk_drewN ?_ _ | refine blk_drew ?_ | refine blk_alloc ?_ _)); exact BK272.out) hb); have n2_ := Aside0.mk (below_step (by repeat (first | (with_reducible first | exact HB.out | apply below_alloc | apply pw_below_drewN | apply below_drew1 | refine below_set ?_ GE271.out | refine below_set ?_ GE272.out) | exact HB.out)) hb); clear BK271; clear BK272; clear HB; have BK271 := n0_; have BK272 := n1_; have HB := n2_; clear n0_ n1_ n2_; (try clear hb); (try clear hb2); (try clear hk); (try clear hi); have hcz37_0 : w36.cell? ⟨gb271, 0, none⟩ = some (.int .i64 a0_0) := (blk_cell BK271.out 0).trans rfl; have hcz37_1 : w36.cell? ⟨gb271, 1, none⟩ = some (.int .i64 a0_1) := (blk_cell BK271.out 1).trans rfl; have hcz37_2 : w36.cell? ⟨gb271, 2, none⟩ = some (.int .u32 a0_2) := (blk_cell BK271.out 2).trans rfl; have hcz37_3 : w36.cell? ⟨gb271, 3, none⟩ = some (.int .i64 a0_3) := (blk_cell BK271.out 3).trans rfl; have hcz37_4 : w36.cell? ⟨gb271, 4, none⟩ = some (.int .u32 a0_4) := (blk_cell BK271.out 4).trans rfl; have hcz37_5 : w36.cell? ⟨gb271, 5, none⟩ = some (.int .i64 a0_5) := (blk_cell BK271.out 5).trans rfl; have hcz37_6 : w36.cell? ⟨gb271, 6, none⟩ = some (.int .i64 a0_6) := (blk_cell BK271.out 6).trans rfl; have hcz37_7 : w36.cell? ⟨gb271, 7, none⟩ = some (.int .i64 a0_7) := (blk_cell BK271.out 7).trans rfl; have hcz37_8 : w36.cell? ⟨gb271, 8, none⟩ = some (.int .i64 a0_8) := (blk_cell BK271.out 8).trans rfl; have hcz37_9 : w36.cell? ⟨gb271, 9, none⟩ = some (.int .i64 a0_9) := (blk_cell BK271.out 9).trans rfl; have hcz37_10 : w36.cell? ⟨gb271, 10, none⟩ = some (.int .i64 a0_10) := (blk_cell BK271.out 10).trans rfl; have hcz37_11 : w36.cell? ⟨gb271, 11, none⟩ = some (.bool a0_11) := (blk_cell BK271.out 11).trans rfl; have hfz37_0 := blk_frozen BK271.out 0; have hfz37_1 := blk_frozen BK271.out 1; have hfz37_2 := blk_frozen BK271.out 2; have hfz37_3 := blk_frozen BK271.out 3; have hfz37_4 := blk_frozen BK271.out 4; have hfz37_5 := blk_frozen BK271.out 5; have hfz37_6 := blk_frozen BK271.out 6; have hfz37_7 := blk_frozen BK271.out 7; have hfz37_8 := blk_frozen BK271.out 8; have hfz37_9 := blk_frozen BK271.out 9; have hfz37_10 := blk_frozen BK271.out 10; have hfz37_11 := blk_frozen BK271.out 11))
              go_meet
              case rel => exact ⟨_, (false), (by first | rfl | (simp; done) | (simp [*]; done)), H', ⟨by first | omega | exact Nat.le_refl _⟩, ⟨by (with_reducible repeat (first | refine blk_drewN ?_ _ | refine blk_drew ?_ | refine blk_alloc ?_ _)); exact BK271.out⟩, ⟨by (with_reducible repeat (first | refine blk_drewN ?_ _ | refine blk_drew ?_ | refine blk_alloc ?_ _)); exact BK272.out⟩, ⟨by repeat (first | (with_reducible first | exact HB.out | apply below_alloc | apply pw_below_drewN | apply below_drew1 | refine below_set ?_ GE271.out | refine below_set ?_ GE272.out) | exact HB.out)⟩⟩
        · rw [if_neg c11] at H
          have c11b0 : (a0_0 == a1) = false := beq_eq_false_iff_ne.mpr c11
          have c11b1 : (a0_0 != a1) = true := bne_iff_ne.mpr c11
          have H' := Aside0.mk H
          clear H
          have hnb38 := NB271_272.out
          have hnc38 := NB272_271.out
          have hcz39_0 : w7.cell? ⟨gb271, 0, none⟩ = some (.int .i64 a0_0) := (blk_cell BK271.out 0).trans rfl
          have hcz39_1 : w7.cell? ⟨gb271, 1, none⟩ = some (.int .i64 a0_1) := (blk_cell BK271.out 1).trans rfl
          have hcz39_2 : w7.cell? ⟨gb271, 2, none⟩ = some (.int .u32 a0_2) := (blk_cell BK271.out 2).trans rfl
          have hcz39_3 : w7.cell? ⟨gb271, 3, none⟩ = some (.int .i64 a0_3) := (blk_cell BK271.out 3).trans rfl
          have hcz39_4 : w7.cell? ⟨gb271, 4, none⟩ = some (.int .u32 a0_4) := (blk_cell BK271.out 4).trans rfl
          have hcz39_5 : w7.cell? ⟨gb271, 5, none⟩ = some (.int .i64 a0_5) := (blk_cell BK271.out 5).trans rfl
          have hcz39_6 : w7.cell? ⟨gb271, 6, none⟩ = some (.int .i64 a0_6) := (blk_cell BK271.out 6).trans rfl
          have hcz39_7 : w7.cell? ⟨gb271, 7, none⟩ = some (.int .i64 a0_7) := (blk_cell BK271.out 7).trans rfl
          have hcz39_8 : w7.cell? ⟨gb271, 8, none⟩ = some (.int .i64 a0_8) := (blk_cell BK271.out 8).trans rfl
          have hcz39_9 : w7.cell? ⟨gb271, 9, none⟩ = some (.int .i64 a0_9) := (blk_cell BK271.out 9).trans rfl
          have hcz39_10 : w7.cell? ⟨gb271, 10, none⟩ = some (.int .i64 a0_10) := (blk_cell BK271.out 10).trans rfl
          have hcz39_11 : w7.cell? ⟨gb271, 11, none⟩ = some (.bool a0_11) := (blk_cell BK271.out 11).trans rfl
          have hfz39_0 := blk_frozen BK271.out 0
          have hfz39_1 := blk_frozen BK271.out 1
          have hfz39_2 := blk_frozen BK271.out 2
          have hfz39_3 := blk_frozen BK271.out 3
          have hfz39_4 := blk_frozen BK271.out 4
          have hfz39_5 := blk_frozen BK271.out 5
          have hfz39_6 := blk_frozen BK271.out 6
          have hfz39_7 := blk_frozen BK271.out 7
          have hfz39_8 := blk_frozen BK271.out 8
          have hfz39_9 := blk_frozen BK271.out 9
          have hfz39_10 := blk_frozen BK271.out 10
          have hfz39_11 := blk_frozen BK271.out 11
          go_wp2_with (first | ((with_reducible refine gate_callee (f := 23) rfl ?_); refine goesL_ (some 10) rfl rfl Try.func23 (by kernel_rfl) rfl #[.agg #[.int .i64 a0_0, .int .i64 a0_1, .int .u32 a0_2, .int .i64 a0_3, .int .u32 a0_4, .int .i64 a0_5, .int .i64 a0_6, .int .i64 a0_7, .int .i64 a0_8, .int .i64 a0_9, .int .i64 a0_10, .bool a0_11]] rfl (by (try simp only [List.map_toArray, List.map_cons, List.map_nil]); first | done | rfl | (simp only [List.length_drop, List.length_take]; rfl)) ?_; (with_reducible refine (gueriteref15_Right.calls k a0_0 a0_1 a0_2 a0_3 a0_4 a0_5 a0_6 a0_7 a0_8 a0_9 a0_10 a0_11 true _ A8.out).mono ?_); rintro e w40 ⟨rfl, hb⟩; refine ⟨_, rfl, ?_⟩; have n0_ := Aside0.mk (blk_below (g := gb271) (o := .cells #[.int .i64 a0_0, .int .i64 a0_1, .int .u32 a0_2, .int .i64 a0_3, .int .u32 a0_4, .int .i64 a0_5, .int .i64 a0_6, .int .i64 a0_7, .int .i64 a0_8, .int .i64 a0_9, .int .i64 a0_10, .bool a0_11] 42 (0, 0)) (by (with_reducible repeat (first | refine blk_drewN ?_ _ | refine blk_drew ?_ | refine blk_alloc ?_ _)); exact BK271.out) hb); have n1_ := Aside0.mk (blk_below (g := gb272) (o := .cells #[.int .u32 a3_0, .int .u32 a3_1, .int .i64 a3_2, .int .i64 a3_3, .int .i64 a3_4] 44 (0, 0)) (by (with_reducible repeat (first | refine blk_drewN ?_ _ | refine blk_drew ?_ | refine blk_alloc ?_ _)); exact BK272.out) hb); have n2_ := Aside0.mk (below_step (by repeat (first | (with_reducible first | exact HB.out | apply below_alloc | apply pw_below_drewN | apply below_drew1 | refine below_set ?_ GE271.out | refine below_set ?_ GE272.out) | exact HB.out)) hb); clear BK271; clear BK272; clear HB; have BK271 := n0_; have BK272 := n1_; have HB := n2_; clear n0_ n1_ n2_; (try clear hb); (try clear hb2); (try clear hk); (try clear hi); have hcz41_0 : w40.cell? ⟨gb271, 0, none⟩ = some (.int .i64 a0_0) := (blk_cell BK271.out 0).trans rfl; have hcz41_1 : w40.cell? ⟨gb271, 1, none⟩ = some (.int .i64 a0_1) := (blk_cell BK271.out 1).trans rfl; have hcz41_2 : w40.cell? ⟨gb271, 2, none⟩ = some (.int .u32 a0_2) := (blk_cell BK271.out 2).trans rfl; have hcz41_3 : w40.cell? ⟨gb271, 3, none⟩ = some (.int .i64 a0_3) := (blk_cell BK271.out 3).trans rfl; have hcz41_4 : w40.cell? ⟨gb271, 4, none⟩ = some (.int .u32 a0_4) := (blk_cell BK271.out 4).trans rfl; have hcz41_5 : w40.cell? ⟨gb271, 5, none⟩ = some (.int .i64 a0_5) := (blk_cell BK271.out 5).trans rfl; have hcz41_6 : w40.cell? ⟨gb271, 6, none⟩ = some (.int .i64 a0_6) := (blk_cell BK271.out 6).trans rfl; have hcz41_7 : w40.cell? ⟨gb271, 7, none⟩ = some (.int .i64 a0_7) := (blk_cell BK271.out 7).trans rfl; have hcz41_8 : w40.cell? ⟨gb271, 8, none⟩ = some (.int .i64 a0_8) := (blk_cell BK271.out 8).trans rfl; have hcz41_9 : w40.cell? ⟨gb271, 9, none⟩ = some (.int .i64 a0_9) := (blk_cell BK271.out 9).trans rfl; have hcz41_10 : w40.cell? ⟨gb271, 10, none⟩ = some (.int .i64 a0_10) := (blk_cell BK271.out 10).trans rfl; have hcz41_11 : w40.cell? ⟨gb271, 11, none⟩ = some (.bool a0_11) := (blk_cell BK271.out 11).trans rfl; have hfz41_0 := blk_frozen BK271.out 0; have hfz41_1 := blk_frozen BK271.out 1; have hfz41_2 := blk_frozen BK271.out 2; have hfz41_3 := blk_frozen BK271.out 3; have hfz41_4 := blk_frozen BK271.out 4; have hfz41_5 := blk_frozen BK271.out 5; have hfz41_6 := blk_frozen BK271.out 6; have hfz41_7 := blk_frozen BK271.out 7; have hfz41_8 := blk_frozen BK271.out 8; have hfz41_9 := blk_frozen BK271.out 9; have hfz41_10 := blk_frozen BK271.out 10; have hfz41_11 := blk_frozen BK271.out 11))
          go_meet
          case rel => exact ⟨_, (true), (by first | rfl | (simp; done) | (simp [*]; done)), H', ⟨by first | omega | exact Nat.le_refl _⟩, ⟨by (with_reducible repeat (first | refine blk_drewN ?_ _ | refine blk_drew ?_ | refine blk_alloc ?_ _)); exact BK271.out⟩, ⟨by (with_reducible repeat (first | refine blk_drewN ?_ _ | refine blk_drew ?_ | refine blk_alloc ?_ _)); exact BK272.out⟩, ⟨by repeat (first | (with_reducible first | exact HB.out | apply below_alloc | apply pw_below_drewN | apply below_drew1 | refine below_set ?_ GE271.out | refine below_set ?_ GE272.out) | exact HB.out)⟩⟩
      · rw [if_neg c10] at H
        have c10b0 : decide (0 ≤ a0_0) = false := decide_eq_false c10
        clear c10
        (first | rw [c10b0] | (simp only [i64_w, i32_w]; rw [c10b0]) | skip)
        by_cases c42 : a0_1 ≥ 0
        · rw [if_pos c42] at H
          have c42b0 : decide (0 ≤ a0_1) = true := decide_eq_true c42
          clear c42
          by_cases c43 : a0_1 = a2
          · rw [if_pos c43] at H
            have c43b0 : (a0_1 == a2) = true := beq_iff_eq.mpr c43
            have c43b1 : (a0_1 != a2) = false := bne_eq_false_iff_eq.mpr c43
            clear c43
            by_cases c44 : a0_6 ≥ 0
            · rw [if_pos c44] at H
              have c44b0 : decide (0 ≤ a0_6) = true := decide_eq_true c44
              clear c44
              have H' := Aside0.mk H
              clear H
              have hnb45 := NB271_272.out
              have hnc45 := NB272_271.out
              have hcz46_0 : w7.cell? ⟨gb271, 0, none⟩ = some (.int .i64 a0_0) := (blk_cell BK271.out 0).trans rfl
              have hcz46_1 : w7.cell? ⟨gb271, 1, none⟩ = some (.int .i64 a0_1) := (blk_cell BK271.out 1).trans rfl
              have hcz46_2 : w7.cell? ⟨gb271, 2, none⟩ = some (.int .u32 a0_2) := (blk_cell BK271.out 2).trans rfl
              have hcz46_3 : w7.cell? ⟨gb271, 3, none⟩ = some (.int .i64 a0_3) := (blk_cell BK271.out 3).trans rfl
              have hcz46_4 : w7.cell? ⟨gb271, 4, none⟩ = some (.int .u32 a0_4) := (blk_cell BK271.out 4).trans rfl
              have hcz46_5 : w7.cell? ⟨gb271, 5, none⟩ = some (.int .i64 a0_5) := (blk_cell BK271.out 5).trans rfl
              have hcz46_6 : w7.cell? ⟨gb271, 6, none⟩ = some (.int .i64 a0_6) := (blk_cell BK271.out 6).trans rfl
              have hcz46_7 : w7.cell? ⟨gb271, 7, none⟩ = some (.int .i64 a0_7) := (blk_cell BK271.out 7).trans rfl
              have hcz46_8 : w7.cell? ⟨gb271, 8, none⟩ = some (.int .i64 a0_8) := (blk_cell BK271.out 8).trans rfl
              have hcz46_9 : w7.cell? ⟨gb271, 9, none⟩ = some (.int .i64 a0_9) := (blk_cell BK271.out 9).trans rfl
              have hcz46_10 : w7.cell? ⟨gb271, 10, none⟩ = some (.int .i64 a0_10) := (blk_cell BK271.out 10).trans rfl
              have hcz46_11 : w7.cell? ⟨gb271, 11, none⟩ = some (.bool a0_11) := (blk_cell BK271.out 11).trans rfl
              have hfz46_0 := blk_frozen BK271.out 0
              have hfz46_1 := blk_frozen BK271.out 1
              have hfz46_2 := blk_frozen BK271.out 2
              have hfz46_3 := blk_frozen BK271.out 3
              have hfz46_4 := blk_frozen BK271.out 4
              have hfz46_5 := blk_frozen BK271.out 5
              have hfz46_6 := blk_frozen BK271.out 6
              have hfz46_7 := blk_frozen BK271.out 7
              have hfz46_8 := blk_frozen BK271.out 8
              have hfz46_9 := blk_frozen BK271.out 9
              have hfz46_10 := blk_frozen BK271.out 10
              have hfz46_11 := blk_frozen BK271.out 11
              go_wp2_with (first | ((with_reducible refine gate_callee (f := 23) rfl ?_); refine goesL_ (some 10) rfl rfl Try.func23 (by kernel_rfl) rfl #[.agg #[.int .i64 a0_0, .int .i64 a0_1, .int .u32 a0_2, .int .i64 a0_3, .int .u32 a0_4, .int .i64 a0_5, .int .i64 a0_6, .int .i64 a0_7, .int .i64 a0_8, .int .i64 a0_9, .int .i64 a0_10, .bool a0_11]] rfl (by (try simp only [List.map_toArray, List.map_cons, List.map_nil]); first | done | rfl | (simp only [List.length_drop, List.length_take]; rfl)) ?_; (with_reducible refine (gueriteref15_Right.calls k a0_0 a0_1 a0_2 a0_3 a0_4 a0_5 a0_6 a0_7 a0_8 a0_9 a0_10 a0_11 true _ A8.out).mono ?_); rintro e w47 ⟨rfl, hb⟩; refine ⟨_, rfl, ?_⟩; have n0_ := Aside0.mk (blk_below (g := gb271) (o := .cells #[.int .i64 a0_0, .int .i64 a0_1, .int .u32 a0_2, .int .i64 a0_3, .int .u32 a0_4, .int .i64 a0_5, .int .i64 a0_6, .int .i64 a0_7, .int .i64 a0_8, .int .i64 a0_9, .int .i64 a0_10, .bool a0_11] 42 (0, 0)) (by (with_reducible repeat (first | refine blk_drewN ?_ _ | refine blk_drew ?_ | refine blk_alloc ?_ _)); exact BK271.out) hb); have n1_ := Aside0.mk (blk_below (g := gb272) (o := .cells #[.int .u32 a3_0, .int .u32 a3_1, .int .i64 a3_2, .int .i64 a3_3, .int .i64 a3_4] 44 (0, 0)) (by (with_reducible repeat (first | refine blk_drewN ?_ _ | refine blk_drew ?_ | refine blk_alloc ?_ _)); exact BK272.out) hb); have n2_ := Aside0.mk (below_step (by repeat (first | (with_reducible first | exact HB.out | apply below_alloc | apply pw_below_drewN | apply below_drew1 | refine below_set ?_ GE271.out | refine below_set ?_ GE272.out) | exact HB.out)) hb); clear BK271; clear BK272; clear HB; have BK271 := n0_; have BK272 := n1_; have HB := n2_; clear n0_ n1_ n2_; (try clear hb); (try clear hb2); (try clear hk); (try clear hi); have hcz48_0 : w47.cell? ⟨gb271, 0, none⟩ = some (.int .i64 a0_0) := (blk_cell BK271.out 0).trans rfl; have hcz48_1 : w47.cell? ⟨gb271, 1, none⟩ = some (.int .i64 a0_1) := (blk_cell BK271.out 1).trans rfl; have hcz48_2 : w47.cell? ⟨gb271, 2, none⟩ = some (.int .u32 a0_2) := (blk_cell BK271.out 2).trans rfl; have hcz48_3 : w47.cell? ⟨gb271, 3, none⟩ = some (.int .i64 a0_3) := (blk_cell BK271.out 3).trans rfl; have hcz48_4 : w47.cell? ⟨gb271, 4, none⟩ = some (.int .u32 a0_4) := (blk_cell BK271.out 4).trans rfl; have hcz48_5 : w47.cell? ⟨gb271, 5, none⟩ = some (.int .i64 a0_5) := (blk_cell BK271.out 5).trans rfl; have hcz48_6 : w47.cell? ⟨gb271, 6, none⟩ = some (.int .i64 a0_6) := (blk_cell BK271.out 6).trans rfl; have hcz48_7 : w47.cell? ⟨gb271, 7, none⟩ = some (.int .i64 a0_7) := (blk_cell BK271.out 7).trans rfl; have hcz48_8 : w47.cell? ⟨gb271, 8, none⟩ = some (.int .i64 a0_8) := (blk_cell BK271.out 8).trans rfl; have hcz48_9 : w47.cell? ⟨gb271, 9, none⟩ = some (.int .i64 a0_9) := (blk_cell BK271.out 9).trans rfl; have hcz48_10 : w47.cell? ⟨gb271, 10, none⟩ = some (.int .i64 a0_10) := (blk_cell BK271.out 10).trans rfl; have hcz48_11 : w47.cell? ⟨gb271, 11, none⟩ = some (.bool a0_11) := (blk_cell BK271.out 11).trans rfl; have hfz48_0 := blk_frozen BK271.out 0; have hfz48_1 := blk_frozen BK271.out 1; have hfz48_2 := blk_frozen BK271.out 2; have hfz48_3 := blk_frozen BK271.out 3; have hfz48_4 := blk_frozen BK271.out 4; have hfz48_5 := blk_frozen BK271.out 5; have hfz48_6 := blk_frozen BK271.out 6; have hfz48_7 := blk_frozen BK271.out 7; have hfz48_8 := blk_frozen BK271.out 8; have hfz48_9 := blk_frozen BK271.out 9; have hfz48_10 := blk_frozen BK271.out 10; have hfz48_11 := blk_frozen BK271.out 11; have hcz49_0 : w47.cell? ⟨gb272, 0, none⟩ = some (.int .u32 a3_0) := (blk_cell BK272.out 0).trans rfl; have hcz49_1 : w47.cell? ⟨gb272, 1, none⟩ = some (.int .u32 a3_1) := (blk_cell BK272.out 1).trans rfl; have hcz49_2 : w47.cell? ⟨gb272, 2, none⟩ = some (.int .i64 a3_2) := (blk_cell BK272.out 2).trans rfl; have hcz49_3 : w47.cell? ⟨gb272, 3, none⟩ = some (.int .i64 a3_3) := (blk_cell BK272.out 3).trans rfl; have hcz49_4 : w47.cell? ⟨gb272, 4, none⟩ = some (.int .i64 a3_4) := (blk_cell BK272.out 4).trans rfl; have hfz49_0 := blk_frozen BK272.out 0; have hfz49_1 := blk_frozen BK272.out 1; have hfz49_2 := blk_frozen BK272.out 2; have hfz49_3 := blk_frozen BK272.out 3; have hfz49_4 := blk_frozen BK272.out 4))
              go_meet
              case rel => exact ⟨_, ((a0_6 != a3_2)), (by first | rfl | (simp; done) | (simp [*]; done)), H', ⟨by first | omega | exact Nat.le_refl _⟩, ⟨by (with_reducible repeat (first | refine blk_drewN ?_ _ | refine blk_drew ?_ | refine blk_alloc ?_ _)); exact BK271.out⟩, ⟨by (with_reducible repeat (first | refine blk_drewN ?_ _ | refine blk_drew ?_ | refine blk_alloc ?_ _)); exact BK272.out⟩, ⟨by repeat (first | (with_reducible first | exact HB.out | apply below_alloc | apply pw_below_drewN | apply below_drew1 | refine below_set ?_ GE271.out | refine below_set ?_ GE272.out) | exact HB.out)⟩⟩
            · rw [if_neg c44] at H
              have c44b0 : decide (0 ≤ a0_6) = false := decide_eq_false c44
              clear c44
              have H' := Aside0.mk H
              clear H
              have hnb50 := NB271_272.out
              have hnc50 := NB272_271.out
              have hcz51_0 : w7.cell? ⟨gb271, 0, none⟩ = some (.int .i64 a0_0) := (blk_cell BK271.out 0).trans rfl
              have hcz51_1 : w7.cell? ⟨gb271, 1, none⟩ = some (.int .i64 a0_1) := (blk_cell BK271.out 1).trans rfl
              have hcz51_2 : w7.cell? ⟨gb271, 2, none⟩ = some (.int .u32 a0_2) := (blk_cell BK271.out 2).trans rfl
              have hcz51_3 : w7.cell? ⟨gb271, 3, none⟩ = some (.int .i64 a0_3) := (blk_cell BK271.out 3).trans rfl
              have hcz51_4 : w7.cell? ⟨gb271, 4, none⟩ = some (.int .u32 a0_4) := (blk_cell BK271.out 4).trans rfl
              have hcz51_5 : w7.cell? ⟨gb271, 5, none⟩ = some (.int .i64 a0_5) := (blk_cell BK271.out 5).trans rfl
              have hcz51_6 : w7.cell? ⟨gb271, 6, none⟩ = some (.int .i64 a0_6) := (blk_cell BK271.out 6).trans rfl
              have hcz51_7 : w7.cell? ⟨gb271, 7, none⟩ = some (.int .i64 a0_7) := (blk_cell BK271.out 7).trans rfl
              have hcz51_8 : w7.cell? ⟨gb271, 8, none⟩ = some (.int .i64 a0_8) := (blk_cell BK271.out 8).trans rfl
              have hcz51_9 : w7.cell? ⟨gb271, 9, none⟩ = some (.int .i64 a0_9) := (blk_cell BK271.out 9).trans rfl
              have hcz51_10 : w7.cell? ⟨gb271, 10, none⟩ = some (.int .i64 a0_10) := (blk_cell BK271.out 10).trans rfl
              have hcz51_11 : w7.cell? ⟨gb271, 11, none⟩ = some (.bool a0_11) := (blk_cell BK271.out 11).trans rfl
              have hfz51_0 := blk_frozen BK271.out 0
              have hfz51_1 := blk_frozen BK271.out 1
              have hfz51_2 := blk_frozen BK271.out 2
              have hfz51_3 := blk_frozen BK271.out 3
              have hfz51_4 := blk_frozen BK271.out 4
              have hfz51_5 := blk_frozen BK271.out 5
              have hfz51_6 := blk_frozen BK271.out 6
              have hfz51_7 := blk_frozen BK271.out 7
              have hfz51_8 := blk_frozen BK271.out 8
              have hfz51_9 := blk_frozen BK271.out 9
              have hfz51_10 := blk_frozen BK271.out 10
              have hfz51_11 := blk_frozen BK271.out 11
              go_wp2_with (first | ((with_reducible refine gate_callee (f := 23) rfl ?_); refine goesL_ (some 10) rfl rfl Try.func23 (by kernel_rfl) rfl #[.agg #[.int .i64 a0_0, .int .i64 a0_1, .int .u32 a0_2, .int .i64 a0_3, .int .u32 a0_4, .int .i64 a0_5, .int .i64 a0_6, .int .i64 a0_7, .int .i64 a0_8, .int .i64 a0_9, .int .i64 a0_10, .bool a0_11]] rfl (by (try simp only [List.map_toArray, List.map_cons, List.map_nil]); first | done | rfl | (simp only [List.length_drop, List.length_take]; rfl)) ?_; (with_reducible refine (gueriteref15_Right.calls k a0_0 a0_1 a0_2 a0_3 a0_4 a0_5 a0_6 a0_7 a0_8 a0_9 a0_10 a0_11 true _ A8.out).mono ?_); rintro e w52 ⟨rfl, hb⟩; refine ⟨_, rfl, ?_⟩; have n0_ := Aside0.mk (blk_below (g := gb271) (o := .cells #[.int .i64 a0_0, .int .i64 a0_1, .int .u32 a0_2, .int .i64 a0_3, .int .u32 a0_4, .int .i64 a0_5, .int .i64 a0_6, .int .i64 a0_7, .int .i64 a0_8, .int .i64 a0_9, .int .i64 a0_10, .bool a0_11] 42 (0, 0)) (by (with_reducible repeat (first | refine blk_drewN ?_ _ | refine blk_drew ?_ | refine blk_alloc ?_ _)); exact BK271.out) hb); have n1_ := Aside0.mk (blk_below (g := gb272) (o := .cells #[.int .u32 a3_0, .int .u32 a3_1, .int .i64 a3_2, .int .i64 a3_3, .int .i64 a3_4] 44 (0, 0)) (by (with_reducible repeat (first | refine blk_drewN ?_ _ | refine blk_drew ?_ | refine blk_alloc ?_ _)); exact BK272.out) hb); have n2_ := Aside0.mk (below_step (by repeat (first | (with_reducible first | exact HB.out | apply below_alloc | apply pw_below_drewN | apply below_drew1 | refine below_set ?_ GE271.out | refine below_set ?_ GE272.out) | exact HB.out)) hb); clear BK271; clear BK272; clear HB; have BK271 := n0_; have BK272 := n1_; have HB := n2_; clear n0_ n1_ n2_; (try clear hb); (try clear hb2); (try clear hk); (try clear hi); have hcz53_0 : w52.cell? ⟨gb271, 0, none⟩ = some (.int .i64 a0_0) := (blk_cell BK271.out 0).trans rfl; have hcz53_1 : w52.cell? ⟨gb271, 1, none⟩ = some (.int .i64 a0_1) := (blk_cell BK271.out 1).trans rfl; have hcz53_2 : w52.cell? ⟨gb271, 2, none⟩ = some (.int .u32 a0_2) := (blk_cell BK271.out 2).trans rfl; have hcz53_3 : w52.cell? ⟨gb271, 3, none⟩ = some (.int .i64 a0_3) := (blk_cell BK271.out 3).trans rfl; have hcz53_4 : w52.cell? ⟨gb271, 4, none⟩ = some (.int .u32 a0_4) := (blk_cell BK271.out 4).trans rfl; have hcz53_5 : w52.cell? ⟨gb271, 5, none⟩ = some (.int .i64 a0_5) := (blk_cell BK271.out 5).trans rfl; have hcz53_6 : w52.cell? ⟨gb271, 6, none⟩ = some (.int .i64 a0_6) := (blk_cell BK271.out 6).trans rfl; have hcz53_7 : w52.cell? ⟨gb271, 7, none⟩ = some (.int .i64 a0_7) := (blk_cell BK271.out 7).trans rfl; have hcz53_8 : w52.cell? ⟨gb271, 8, none⟩ = some (.int .i64 a0_8) := (blk_cell BK271.out 8).trans rfl; have hcz53_9 : w52.cell? ⟨gb271, 9, none⟩ = some (.int .i64 a0_9) := (blk_cell BK271.out 9).trans rfl; have hcz53_10 : w52.cell? ⟨gb271, 10, none⟩ = some (.int .i64 a0_10) := (blk_cell BK271.out 10).trans rfl; have hcz53_11 : w52.cell? ⟨gb271, 11, none⟩ = some (.bool a0_11) := (blk_cell BK271.out 11).trans rfl; have hfz53_0 := blk_frozen BK271.out 0; have hfz53_1 := blk_frozen BK271.out 1; have hfz53_2 := blk_frozen BK271.out 2; have hfz53_3 := blk_frozen BK271.out 3; have hfz53_4 := blk_frozen BK271.out 4; have hfz53_5 := blk_frozen BK271.out 5; have hfz53_6 := blk_frozen BK271.out 6; have hfz53_7 := blk_frozen BK271.out 7; have hfz53_8 := blk_frozen BK271.out 8; have hfz53_9 := blk_frozen BK271.out 9; have hfz53_10 := blk_frozen BK271.out 10; have hfz53_11 := blk_frozen BK271.out 11))
              go_meet
              case rel => exact ⟨_, (false), (by first | rfl | (simp; done) | (simp [*]; done)), H', ⟨by first | omega | exact Nat.le_refl _⟩, ⟨by (with_reducible repeat (first | refine blk_drewN ?_ _ | refine blk_drew ?_ | refine blk_alloc ?_ _)); exact BK271.out⟩, ⟨by (with_reducible repeat (first | refine blk_drewN ?_ _ | refine blk_drew ?_ | refine blk_alloc ?_ _)); exact BK272.out⟩, ⟨by repeat (first | (with_reducible first | exact HB.out | apply below_alloc | apply pw_below_drewN | apply below_drew1 | refine below_set ?_ GE271.out | refine below_set ?_ GE272.out) | exact HB.out)⟩⟩
          · rw [if_neg c43] at H
            have c43b0 : (a0_1 == a2) = false := beq_eq_false_iff_ne.mpr c43
            have c43b1 : (a0_1 != a2) = true := bne_iff_ne.mpr c43
            have H' := Aside0.mk H
            clear H
            have hnb54 := NB271_272.out
            have hnc54 := NB272_271.out
            have hcz55_0 : w7.cell? ⟨gb271, 0, none⟩ = some (.int .i64 a0_0) := (blk_cell BK271.out 0).trans rfl
            have hcz55_1 : w7.cell? ⟨gb271, 1, none⟩ = some (.int .i64 a0_1) := (blk_cell BK271.out 1).trans rfl
            have hcz55_2 : w7.cell? ⟨gb271, 2, none⟩ = some (.int .u32 a0_2) := (blk_cell BK271.out 2).trans rfl
            have hcz55_3 : w7.cell? ⟨gb271, 3, none⟩ = some (.int .i64 a0_3) := (blk_cell BK271.out 3).trans rfl
            have hcz55_4 : w7.cell? ⟨gb271, 4, none⟩ = some (.int .u32 a0_4) := (blk_cell BK271.out 4).trans rfl
            have hcz55_5 : w7.cell? ⟨gb271, 5, none⟩ = some (.int .i64 a0_5) := (blk_cell BK271.out 5).trans rfl
            have hcz55_6 : w7.cell? ⟨gb271, 6, none⟩ = some (.int .i64 a0_6) := (blk_cell BK271.out 6).trans rfl
            have hcz55_7 : w7.cell? ⟨gb271, 7, none⟩ = some (.int .i64 a0_7) := (blk_cell BK271.out 7).trans rfl
            have hcz55_8 : w7.cell? ⟨gb271, 8, none⟩ = some (.int .i64 a0_8) := (blk_cell BK271.out 8).trans rfl
            have hcz55_9 : w7.cell? ⟨gb271, 9, none⟩ = some (.int .i64 a0_9) := (blk_cell BK271.out 9).trans rfl
            have hcz55_10 : w7.cell? ⟨gb271, 10, none⟩ = some (.int .i64 a0_10) := (blk_cell BK271.out 10).trans rfl
            have hcz55_11 : w7.cell? ⟨gb271, 11, none⟩ = some (.bool a0_11) := (blk_cell BK271.out 11).trans rfl
            have hfz55_0 := blk_frozen BK271.out 0
            have hfz55_1 := blk_frozen BK271.out 1
            have hfz55_2 := blk_frozen BK271.out 2
            have hfz55_3 := blk_frozen BK271.out 3
            have hfz55_4 := blk_frozen BK271.out 4
            have hfz55_5 := blk_frozen BK271.out 5
            have hfz55_6 := blk_frozen BK271.out 6
            have hfz55_7 := blk_frozen BK271.out 7
            have hfz55_8 := blk_frozen BK271.out 8
            have hfz55_9 := blk_frozen BK271.out 9
            have hfz55_10 := blk_frozen BK271.out 10
            have hfz55_11 := blk_frozen BK271.out 11
            go_wp2_with (first | ((with_reducible refine gate_callee (f := 23) rfl ?_); refine goesL_ (some 10) rfl rfl Try.func23 (by kernel_rfl) rfl #[.agg #[.int .i64 a0_0, .int .i64 a0_1, .int .u32 a0_2, .int .i64 a0_3, .int .u32 a0_4, .int .i64 a0_5, .int .i64 a0_6, .int .i64 a0_7, .int .i64 a0_8, .int .i64 a0_9, .int .i64 a0_10, .bool a0_11]] rfl (by (try simp only [List.map_toArray, List.map_cons, List.map_nil]); first | done | rfl | (simp only [List.length_drop, List.length_take]; rfl)) ?_; (with_reducible refine (gueriteref15_Right.calls k a0_0 a0_1 a0_2 a0_3 a0_4 a0_5 a0_6 a0_7 a0_8 a0_9 a0_10 a0_11 true _ A8.out).mono ?_); rintro e w56 ⟨rfl, hb⟩; refine ⟨_, rfl, ?_⟩; have n0_ := Aside0.mk (blk_below (g := gb271) (o := .cells #[.int .i64 a0_0, .int .i64 a0_1, .int .u32 a0_2, .int .i64 a0_3, .int .u32 a0_4, .int .i64 a0_5, .int .i64 a0_6, .int .i64 a0_7, .int .i64 a0_8, .int .i64 a0_9, .int .i64 a0_10, .bool a0_11] 42 (0, 0)) (by (with_reducible repeat (first | refine blk_drewN ?_ _ | refine blk_drew ?_ | refine blk_alloc ?_ _)); exact BK271.out) hb); have n1_ := Aside0.mk (blk_below (g := gb272) (o := .cells #[.int .u32 a3_0, .int .u32 a3_1, .int .i64 a3_2, .int .i64 a3_3, .int .i64 a3_4] 44 (0, 0)) (by (with_reducible repeat (first | refine blk_drewN ?_ _ | refine blk_drew ?_ | refine blk_alloc ?_ _)); exact BK272.out) hb); have n2_ := Aside0.mk (below_step (by repeat (first | (with_reducible first | exact HB.out | apply below_alloc | apply pw_below_drewN | apply below_drew1 | refine below_set ?_ GE271.out | refine below_set ?_ GE272.out) | exact HB.out)) hb); clear BK271; clear BK272; clear HB; have BK271 := n0_; have BK272 := n1_; have HB := n2_; clear n0_ n1_ n2_; (try clear hb); (try clear hb2); (try clear hk); (try clear hi); have hcz57_0 : w56.cell? ⟨gb271, 0, none⟩ = some (.int .i64 a0_0) := (blk_cell BK271.out 0).trans rfl; have hcz57_1 : w56.cell? ⟨gb271, 1, none⟩ = some (.int .i64 a0_1) := (blk_cell BK271.out 1).trans rfl; have hcz57_2 : w56.cell? ⟨gb271, 2, none⟩ = some (.int .u32 a0_2) := (blk_cell BK271.out 2).trans rfl; have hcz57_3 : w56.cell? ⟨gb271, 3, none⟩ = some (.int .i64 a0_3) := (blk_cell BK271.out 3).trans rfl; have hcz57_4 : w56.cell? ⟨gb271, 4, none⟩ = some (.int .u32 a0_4) := (blk_cell BK271.out 4).trans rfl; have hcz57_5 : w56.cell? ⟨gb271, 5, none⟩ = some (.int .i64 a0_5) := (blk_cell BK271.out 5).trans rfl; have hcz57_6 : w56.cell? ⟨gb271, 6, none⟩ = some (.int .i64 a0_6) := (blk_cell BK271.out 6).trans rfl; have hcz57_7 : w56.cell? ⟨gb271, 7, none⟩ = some (.int .i64 a0_7) := (blk_cell BK271.out 7).trans rfl; have hcz57_8 : w56.cell? ⟨gb271, 8, none⟩ = some (.int .i64 a0_8) := (blk_cell BK271.out 8).trans rfl; have hcz57_9 : w56.cell? ⟨gb271, 9, none⟩ = some (.int .i64 a0_9) := (blk_cell BK271.out 9).trans rfl; have hcz57_10 : w56.cell? ⟨gb271, 10, none⟩ = some (.int .i64 a0_10) := (blk_cell BK271.out 10).trans rfl; have hcz57_11 : w56.cell? ⟨gb271, 11, none⟩ = some (.bool a0_11) := (blk_cell BK271.out 11).trans rfl; have hfz57_0 := blk_frozen BK271.out 0; have hfz57_1 := blk_frozen BK271.out 1; have hfz57_2 := blk_frozen BK271.out 2; have hfz57_3 := blk_frozen BK271.out 3; have hfz57_4 := blk_frozen BK271.out 4; have hfz57_5 := blk_frozen BK271.out 5; have hfz57_6 := blk_frozen BK271.out 6; have hfz57_7 := blk_frozen BK271.out 7; have hfz57_8 := blk_frozen BK271.out 8; have hfz57_9 := blk_frozen BK271.out 9; have hfz57_10 := blk_frozen BK271.out 10; have hfz57_11 := blk_frozen BK271.out 11))
            go_meet
            case rel => exact ⟨_, (true), (by first | rfl | (simp; done) | (simp [*]; done)), H', ⟨by first | omega | exact Nat.le_refl _⟩, ⟨by (with_reducible repeat (first | refine blk_drewN ?_ _ | refine blk_drew ?_ | refine blk_alloc ?_ _)); exact BK271.out⟩, ⟨by (with_reducible repeat (first | refine blk_drewN ?_ _ | refine blk_drew ?_ | refine blk_alloc ?_ _)); exact BK272.out⟩, ⟨by repeat (first | (with_reducible first | exact HB.out | apply below_alloc | apply pw_below_drewN | apply below_drew1 | refine below_set ?_ GE271.out | refine below_set ?_ GE272.out) | exact HB.out)⟩⟩
        · rw [if_neg c42] at H
          have c42b0 : decide (0 ≤ a0_1) = false := decide_eq_false c42
          clear c42
          by_cases c58 : a0_6 ≥ 0
          · rw [if_pos c58] at H
            have c58b0 : decide (0 ≤ a0_6) = true := decide_eq_true c58
            clear c58
            have H' := Aside0.mk H
            clear H
            have hnb59 := NB271_272.out
            have hnc59 := NB272_271.out
            have hcz60_0 : w7.cell? ⟨gb271, 0, none⟩ = some (.int .i64 a0_0) := (blk_cell BK271.out 0).trans rfl
            have hcz60_1 : w7.cell? ⟨gb271, 1, none⟩ = some (.int .i64 a0_1) := (blk_cell BK271.out 1).trans rfl
            have hcz60_2 : w7.cell? ⟨gb271, 2, none⟩ = some (.int .u32 a0_2) := (blk_cell BK271.out 2).trans rfl
            have hcz60_3 : w7.cell? ⟨gb271, 3, none⟩ = some (.int .i64 a0_3) := (blk_cell BK271.out 3).trans rfl
            have hcz60_4 : w7.cell? ⟨gb271, 4, none⟩ = some (.int .u32 a0_4) := (blk_cell BK271.out 4).trans rfl
            have hcz60_5 : w7.cell? ⟨gb271, 5, none⟩ = some (.int .i64 a0_5) := (blk_cell BK271.out 5).trans rfl
            have hcz60_6 : w7.cell? ⟨gb271, 6, none⟩ = some (.int .i64 a0_6) := (blk_cell BK271.out 6).trans rfl
            have hcz60_7 : w7.cell? ⟨gb271, 7, none⟩ = some (.int .i64 a0_7) := (blk_cell BK271.out 7).trans rfl
            have hcz60_8 : w7.cell? ⟨gb271, 8, none⟩ = some (.int .i64 a0_8) := (blk_cell BK271.out 8).trans rfl
            have hcz60_9 : w7.cell? ⟨gb271, 9, none⟩ = some (.int .i64 a0_9) := (blk_cell BK271.out 9).trans rfl
            have hcz60_10 : w7.cell? ⟨gb271, 10, none⟩ = some (.int .i64 a0_10) := (blk_cell BK271.out 10).trans rfl
            have hcz60_11 : w7.cell? ⟨gb271, 11, none⟩ = some (.bool a0_11) := (blk_cell BK271.out 11).trans rfl
            have hfz60_0 := blk_frozen BK271.out 0
            have hfz60_1 := blk_frozen BK271.out 1
            have hfz60_2 := blk_frozen BK271.out 2
            have hfz60_3 := blk_frozen BK271.out 3
            have hfz60_4 := blk_frozen BK271.out 4
            have hfz60_5 := blk_frozen BK271.out 5
            have hfz60_6 := blk_frozen BK271.out 6
            have hfz60_7 := blk_frozen BK271.out 7
            have hfz60_8 := blk_frozen BK271.out 8
            have hfz60_9 := blk_frozen BK271.out 9
            have hfz60_10 := blk_frozen BK271.out 10
            have hfz60_11 := blk_frozen BK271.out 11
            go_wp2_with (first | ((with_reducible refine gate_callee (f := 23) rfl ?_); refine goesL_ (some 10) rfl rfl Try.func23 (by kernel_rfl) rfl #[.agg #[.int .i64 a0_0, .int .i64 a0_1, .int .u32 a0_2, .int .i64 a0_3, .int .u32 a0_4, .int .i64 a0_5, .int .i64 a0_6, .int .i64 a0_7, .int .i64 a0_8, .int .i64 a0_9, .int .i64 a0_10, .bool a0_11]] rfl (by (try simp only [List.map_toArray, List.map_cons, List.map_nil]); first | done | rfl | (simp only [List.length_drop, List.length_take]; rfl)) ?_; (with_reducible refine (gueriteref15_Right.calls k a0_0 a0_1 a0_2 a0_3 a0_4 a0_5 a0_6 a0_7 a0_8 a0_9 a0_10 a0_11 true _ A8.out).mono ?_); rintro e w61 ⟨rfl, hb⟩; refine ⟨_, rfl, ?_⟩; have n0_ := Aside0.mk (blk_below (g := gb271) (o := .cells #[.int .i64 a0_0, .int .i64 a0_1, .int .u32 a0_2, .int .i64 a0_3, .int .u32 a0_4, .int .i64 a0_5, .int .i64 a0_6, .int .i64 a0_7, .int .i64 a0_8, .int .i64 a0_9, .int .i64 a0_10, .bool a0_11] 42 (0, 0)) (by (with_reducible repeat (first | refine blk_drewN ?_ _ | refine blk_drew ?_ | refine blk_alloc ?_ _)); exact BK271.out) hb); have n1_ := Aside0.mk (blk_below (g := gb272) (o := .cells #[.int .u32 a3_0, .int .u32 a3_1, .int .i64 a3_2, .int .i64 a3_3, .int .i64 a3_4] 44 (0, 0)) (by (with_reducible repeat (first | refine blk_drewN ?_ _ | refine blk_drew ?_ | refine blk_alloc ?_ _)); exact BK272.out) hb); have n2_ := Aside0.mk (below_step (by repeat (first | (with_reducible first | exact HB.out | apply below_alloc | apply pw_below_drewN | apply below_drew1 | refine below_set ?_ GE271.out | refine below_set ?_ GE272.out) | exact HB.out)) hb); clear BK271; clear BK272; clear HB; have BK271 := n0_; have BK272 := n1_; have HB := n2_; clear n0_ n1_ n2_; (try clear hb); (try clear hb2); (try clear hk); (try clear hi); have hcz62_0 : w61.cell? ⟨gb271, 0, none⟩ = some (.int .i64 a0_0) := (blk_cell BK271.out 0).trans rfl; have hcz62_1 : w61.cell? ⟨gb271, 1, none⟩ = some (.int .i64 a0_1) := (blk_cell BK271.out 1).trans rfl; have hcz62_2 : w61.cell? ⟨gb271, 2, none⟩ = some (.int .u32 a0_2) := (blk_cell BK271.out 2).trans rfl; have hcz62_3 : w61.cell? ⟨gb271, 3, none⟩ = some (.int .i64 a0_3) := (blk_cell BK271.out 3).trans rfl; have hcz62_4 : w61.cell? ⟨gb271, 4, none⟩ = some (.int .u32 a0_4) := (blk_cell BK271.out 4).trans rfl; have hcz62_5 : w61.cell? ⟨gb271, 5, none⟩ = some (.int .i64 a0_5) := (blk_cell BK271.out 5).trans rfl; have hcz62_6 : w61.cell? ⟨gb271, 6, none⟩ = some (.int .i64 a0_6) := (blk_cell BK271.out 6).trans rfl; have hcz62_7 : w61.cell? ⟨gb271, 7, none⟩ = some (.int .i64 a0_7) := (blk_cell BK271.out 7).trans rfl; have hcz62_8 : w61.cell? ⟨gb271, 8, none⟩ = some (.int .i64 a0_8) := (blk_cell BK271.out 8).trans rfl; have hcz62_9 : w61.cell? ⟨gb271, 9, none⟩ = some (.int .i64 a0_9) := (blk_cell BK271.out 9).trans rfl; have hcz62_10 : w61.cell? ⟨gb271, 10, none⟩ = some (.int .i64 a0_10) := (blk_cell BK271.out 10).trans rfl; have hcz62_11 : w61.cell? ⟨gb271, 11, none⟩ = some (.bool a0_11) := (blk_cell BK271.out 11).trans rfl; have hfz62_0 := blk_frozen BK271.out 0; have hfz62_1 := blk_frozen BK271.out 1; have hfz62_2 := blk_frozen BK271.out 2; have hfz62_3 := blk_frozen BK271.out 3; have hfz62_4 := blk_frozen BK271.out 4; have hfz62_5 := blk_frozen BK271.out 5; have hfz62_6 := blk_frozen BK271.out 6; have hfz62_7 := blk_frozen BK271.out 7; have hfz62_8 := blk_frozen BK271.out 8; have hfz62_9 := blk_frozen BK271.out 9; have hfz62_10 := blk_frozen BK271.out 10; have hfz62_11 := blk_frozen BK271.out 11; have hcz63_0 : w61.cell? ⟨gb272, 0, none⟩ = some (.int .u32 a3_0) := (blk_cell BK272.out 0).trans rfl; have hcz63_1 : w61.cell? ⟨gb272, 1, none⟩ = some (.int .u32 a3_1) := (blk_cell BK272.out 1).trans rfl; have hcz63_2 : w61.cell? ⟨gb272, 2, none⟩ = some (.int .i64 a3_2) := (blk_cell BK272.out 2).trans rfl; have hcz63_3 : w61.cell? ⟨gb272, 3, none⟩ = some (.int .i64 a3_3) := (blk_cell BK272.out 3).trans rfl; have hcz63_4 : w61.cell? ⟨gb272, 4, none⟩ = some (.int .i64 a3_4) := (blk_cell BK272.out 4).trans rfl; have hfz63_0 := blk_frozen BK272.out 0; have hfz63_1 := blk_frozen BK272.out 1; have hfz63_2 := blk_frozen BK272.out 2; have hfz63_3 := blk_frozen BK272.out 3; have hfz63_4 := blk_frozen BK272.out 4))
            go_meet
            case rel => exact ⟨_, ((a0_6 != a3_2)), (by first | rfl | (simp; done) | (simp [*]; done)), H', ⟨by first | omega | exact Nat.le_refl _⟩, ⟨by (with_reducible repeat (first | refine blk_drewN ?_ _ | refine blk_drew ?_ | refine blk_alloc ?_ _)); exact BK271.out⟩, ⟨by (with_reducible repeat (first | refine blk_drewN ?_ _ | refine blk_drew ?_ | refine blk_alloc ?_ _)); exact BK272.out⟩, ⟨by repeat (first | (with_reducible first | exact HB.out | apply below_alloc | apply pw_below_drewN | apply below_drew1 | refine below_set ?_ GE271.out | refine below_set ?_ GE272.out) | exact HB.out)⟩⟩
          · rw [if_neg c58] at H
            have c58b0 : decide (0 ≤ a0_6) = false := decide_eq_false c58
            clear c58
            have H' := Aside0.mk H
            clear H
            have hnb64 := NB271_272.out
            have hnc64 := NB272_271.out
            have hcz65_0 : w7.cell? ⟨gb271, 0, none⟩ = some (.int .i64 a0_0) := (blk_cell BK271.out 0).trans rfl
            have hcz65_1 : w7.cell? ⟨gb271, 1, none⟩ = some (.int .i64 a0_1) := (blk_cell BK271.out 1).trans rfl
            have hcz65_2 : w7.cell? ⟨gb271, 2, none⟩ = some (.int .u32 a0_2) := (blk_cell BK271.out 2).trans rfl
            have hcz65_3 : w7.cell? ⟨gb271, 3, none⟩ = some (.int .i64 a0_3) := (blk_cell BK271.out 3).trans rfl
            have hcz65_4 : w7.cell? ⟨gb271, 4, none⟩ = some (.int .u32 a0_4) := (blk_cell BK271.out 4).trans rfl
            have hcz65_5 : w7.cell? ⟨gb271, 5, none⟩ = some (.int .i64 a0_5) := (blk_cell BK271.out 5).trans rfl
            have hcz65_6 : w7.cell? ⟨gb271, 6, none⟩ = some (.int .i64 a0_6) := (blk_cell BK271.out 6).trans rfl
            have hcz65_7 : w7.cell? ⟨gb271, 7, none⟩ = some (.int .i64 a0_7) := (blk_cell BK271.out 7).trans rfl
            have hcz65_8 : w7.cell? ⟨gb271, 8, none⟩ = some (.int .i64 a0_8) := (blk_cell BK271.out 8).trans rfl
            have hcz65_9 : w7.cell? ⟨gb271, 9, none⟩ = some (.int .i64 a0_9) := (blk_cell BK271.out 9).trans rfl
            have hcz65_10 : w7.cell? ⟨gb271, 10, none⟩ = some (.int .i64 a0_10) := (blk_cell BK271.out 10).trans rfl
            have hcz65_11 : w7.cell? ⟨gb271, 11, none⟩ = some (.bool a0_11) := (blk_cell BK271.out 11).trans rfl
            have hfz65_0 := blk_frozen BK271.out 0
            have hfz65_1 := blk_frozen BK271.out 1
            have hfz65_2 := blk_frozen BK271.out 2
            have hfz65_3 := blk_frozen BK271.out 3
            have hfz65_4 := blk_frozen BK271.out 4
            have hfz65_5 := blk_frozen BK271.out 5
            have hfz65_6 := blk_frozen BK271.out 6
            have hfz65_7 := blk_frozen BK271.out 7
            have hfz65_8 := blk_frozen BK271.out 8
            have hfz65_9 := blk_frozen BK271.out 9
            have hfz65_10 := blk_frozen BK271.out 10
            have hfz65_11 := blk_frozen BK271.out 11
            go_wp2_with (first | ((with_reducible refine gate_callee (f := 23) rfl ?_); refine goesL_ (some 10) rfl rfl Try.func23 (by kernel_rfl) rfl #[.agg #[.int .i64 a0_0, .int .i64 a0_1, .int .u32 a0_2, .int .i64 a0_3, .int .u32 a0_4, .int .i64 a0_5, .int .i64 a0_6, .int .i64 a0_7, .int .i64 a0_8, .int .i64 a0_9, .int .i64 a0_10, .bool a0_11]] rfl (by (try simp only [List.map_toArray, List.map_cons, List.map_nil]); first | done | rfl | (simp only [List.length_drop, List.length_take]; rfl)) ?_; (with_reducible refine (gueriteref15_Right.calls k a0_0 a0_1 a0_2 a0_3 a0_4 a0_5 a0_6 a0_7 a0_8 a0_9 a0_10 a0_11 true _ A8.out).mono ?_); rintro e w66 ⟨rfl, hb⟩; refine ⟨_, rfl, ?_⟩; have n0_ := Aside0.mk (blk_below (g := gb271) (o := .cells #[.int .i64 a0_0, .int .i64 a0_1, .int .u32 a0_2, .int .i64 a0_3, .int .u32 a0_4, .int .i64 a0_5, .int .i64 a0_6, .int .i64 a0_7, .int .i64 a0_8, .int .i64 a0_9, .int .i64 a0_10, .bool a0_11] 42 (0, 0)) (by (with_reducible repeat (first | refine blk_drewN ?_ _ | refine blk_drew ?_ | refine blk_alloc ?_ _)); exact BK271.out) hb); have n1_ := Aside0.mk (blk_below (g := gb272) (o := .cells #[.int .u32 a3_0, .int .u32 a3_1, .int .i64 a3_2, .int .i64 a3_3, .int .i64 a3_4] 44 (0, 0)) (by (with_reducible repeat (first | refine blk_drewN ?_ _ | refine blk_drew ?_ | refine blk_alloc ?_ _)); exact BK272.out) hb); have n2_ := Aside0.mk (below_step (by repeat (first | (with_reducible first | exact HB.out | apply below_alloc | apply pw_below_drewN | apply below_drew1 | refine below_set ?_ GE271.out | refine below_set ?_ GE272.out) | exact HB.out)) hb); clear BK271; clear BK272; clear HB; have BK271 := n0_; have BK272 := n1_; have HB := n2_; clear n0_ n1_ n2_; (try clear hb); (try clear hb2); (try clear hk); (try clear hi); have hcz67_0 : w66.cell? ⟨gb271, 0, none⟩ = some (.int .i64 a0_0) := (blk_cell BK271.out 0).trans rfl; have hcz67_1 : w66.cell? ⟨gb271, 1, none⟩ = some (.int .i64 a0_1) := (blk_cell BK271.out 1).trans rfl; have hcz67_2 : w66.cell? ⟨gb271, 2, none⟩ = some (.int .u32 a0_2) := (blk_cell BK271.out 2).trans rfl; have hcz67_3 : w66.cell? ⟨gb271, 3, none⟩ = some (.int .i64 a0_3) := (blk_cell BK271.out 3).trans rfl; have hcz67_4 : w66.cell? ⟨gb271, 4, none⟩ = some (.int .u32 a0_4) := (blk_cell BK271.out 4).trans rfl; have hcz67_5 : w66.cell? ⟨gb271, 5, none⟩ = some (.int .i64 a0_5) := (blk_cell BK271.out 5).trans rfl; have hcz67_6 : w66.cell? ⟨gb271, 6, none⟩ = some (.int .i64 a0_6) := (blk_cell BK271.out 6).trans rfl; have hcz67_7 : w66.cell? ⟨gb271, 7, none⟩ = some (.int .i64 a0_7) := (blk_cell BK271.out 7).trans rfl; have hcz67_8 : w66.cell? ⟨gb271, 8, none⟩ = some (.int .i64 a0_8) := (blk_cell BK271.out 8).trans rfl; have hcz67_9 : w66.cell? ⟨gb271, 9, none⟩ = some (.int .i64 a0_9) := (blk_cell BK271.out 9).trans rfl; have hcz67_10 : w66.cell? ⟨gb271, 10, none⟩ = some (.int .i64 a0_10) := (blk_cell BK271.out 10).trans rfl; have hcz67_11 : w66.cell? ⟨gb271, 11, none⟩ = some (.bool a0_11) := (blk_cell BK271.out 11).trans rfl; have hfz67_0 := blk_frozen BK271.out 0; have hfz67_1 := blk_frozen BK271.out 1; have hfz67_2 := blk_frozen BK271.out 2; have hfz67_3 := blk_frozen BK271.out 3; have hfz67_4 := blk_frozen BK271.out 4; have hfz67_5 := blk_frozen BK271.out 5; have hfz67_6 := blk_frozen BK271.out 6; have hfz67_7 := blk_frozen BK271.out 7; have hfz67_8 := blk_frozen BK271.out 8; have hfz67_9 := blk_frozen BK271.out 9; have hfz67_10 := blk_frozen BK271.out 10; have hfz67_11 := blk_frozen BK271.out 11))
            go_meet
            case rel => exact ⟨_, (false), (by first | rfl | (simp; done) | (simp [*]; done)), H', ⟨by first | omega | exact Nat.le_refl _⟩, ⟨by (with_reducible repeat (first | refine blk_drewN ?_ _ | refine blk_drew ?_ | refine blk_alloc ?_ _)); exact BK271.out⟩, ⟨by (with_reducible repeat (first | refine blk_drewN ?_ _ | refine blk_drew ?_ | refine blk_alloc ?_ _)); exact BK272.out⟩, ⟨by repeat (first | (with_reducible first | exact HB.out | apply below_alloc | apply pw_below_drewN | apply below_drew1 | refine below_set ?_ GE271.out | refine below_set ?_ GE272.out) | exact HB.out)⟩⟩
    · replace c9 := Bool.eq_false_iff.mpr c9
      subst c9
      have H1 : (gueriteref15_Matches.j0 k true a0_0 a0_1 a0_2 a0_3 a0_4 a0_5 a0_6 a0_7 a0_8 a0_9 a0_10 a0_11 a3_0 a3_1 a3_2 a3_3 a3_4) = some r := by rw [if_neg (show ¬ (false = true) by decide)] at H; exact H
      clear H
      have H := H1
      clear H1
      have H' := Aside0.mk H
      clear H
      have hnb68 := NB271_272.out
      have hnc68 := NB272_271.out
      have hcz69_0 : w7.cell? ⟨gb271, 0, none⟩ = some (.int .i64 a0_0) := (blk_cell BK271.out 0).trans rfl
      have hcz69_1 : w7.cell? ⟨gb271, 1, none⟩ = some (.int .i64 a0_1) := (blk_cell BK271.out 1).trans rfl
      have hcz69_2 : w7.cell? ⟨gb271, 2, none⟩ = some (.int .u32 a0_2) := (blk_cell BK271.out 2).trans rfl
      have hcz69_3 : w7.cell? ⟨gb271, 3, none⟩ = some (.int .i64 a0_3) := (blk_cell BK271.out 3).trans rfl
      have hcz69_4 : w7.cell? ⟨gb271, 4, none⟩ = some (.int .u32 a0_4) := (blk_cell BK271.out 4).trans rfl
      have hcz69_5 : w7.cell? ⟨gb271, 5, none⟩ = some (.int .i64 a0_5) := (blk_cell BK271.out 5).trans rfl
      have hcz69_6 : w7.cell? ⟨gb271, 6, none⟩ = some (.int .i64 a0_6) := (blk_cell BK271.out 6).trans rfl
      have hcz69_7 : w7.cell? ⟨gb271, 7, none⟩ = some (.int .i64 a0_7) := (blk_cell BK271.out 7).trans rfl
      have hcz69_8 : w7.cell? ⟨gb271, 8, none⟩ = some (.int .i64 a0_8) := (blk_cell BK271.out 8).trans rfl
      have hcz69_9 : w7.cell? ⟨gb271, 9, none⟩ = some (.int .i64 a0_9) := (blk_cell BK271.out 9).trans rfl
      have hcz69_10 : w7.cell? ⟨gb271, 10, none⟩ = some (.int .i64 a0_10) := (blk_cell BK271.out 10).trans rfl
      have hcz69_11 : w7.cell? ⟨gb271, 11, none⟩ = some (.bool a0_11) := (blk_cell BK271.out 11).trans rfl
      have hfz69_0 := blk_frozen BK271.out 0
      have hfz69_1 := blk_frozen BK271.out 1
      have hfz69_2 := blk_frozen BK271.out 2
      have hfz69_3 := blk_frozen BK271.out 3
      have hfz69_4 := blk_frozen BK271.out 4
      have hfz69_5 := blk_frozen BK271.out 5
      have hfz69_6 := blk_frozen BK271.out 6
      have hfz69_7 := blk_frozen BK271.out 7
      have hfz69_8 := blk_frozen BK271.out 8
      have hfz69_9 := blk_frozen BK271.out 9
      have hfz69_10 := blk_frozen BK271.out 10
      have hfz69_11 := blk_frozen BK271.out 11
      go_wp2_with (first | ((with_reducible refine gate_callee (f := 23) rfl ?_); refine goesL_ (some 10) rfl rfl Try.func23 (by kernel_rfl) rfl #[.agg #[.int .i64 a0_0, .int .i64 a0_1, .int .u32 a0_2, .int .i64 a0_3, .int .u32 a0_4, .int .i64 a0_5, .int .i64 a0_6, .int .i64 a0_7, .int .i64 a0_8, .int .i64 a0_9, .int .i64 a0_10, .bool a0_11]] rfl (by (try simp only [List.map_toArray, List.map_cons, List.map_nil]); first | done | rfl | (simp only [List.length_drop, List.length_take]; rfl)) ?_; (with_reducible refine (gueriteref15_Right.calls k a0_0 a0_1 a0_2 a0_3 a0_4 a0_5 a0_6 a0_7 a0_8 a0_9 a0_10 a0_11 false _ A8.out).mono ?_); rintro e w70 ⟨rfl, hb⟩; refine ⟨_, rfl, ?_⟩; have n0_ := Aside0.mk (blk_below (g := gb271) (o := .cells #[.int .i64 a0_0, .int .i64 a0_1, .int .u32 a0_2, .int .i64 a0_3, .int .u32 a0_4, .int .i64 a0_5, .int .i64 a0_6, .int .i64 a0_7, .int .i64 a0_8, .int .i64 a0_9, .int .i64 a0_10, .bool a0_11] 42 (0, 0)) (by (with_reducible repeat (first | refine blk_drewN ?_ _ | refine blk_drew ?_ | refine blk_alloc ?_ _)); exact BK271.out) hb); have n1_ := Aside0.mk (blk_below (g := gb272) (o := .cells #[.int .u32 a3_0, .int .u32 a3_1, .int .i64 a3_2, .int .i64 a3_3, .int .i64 a3_4] 44 (0, 0)) (by (with_reducible repeat (first | refine blk_drewN ?_ _ | refine blk_drew ?_ | refine blk_alloc ?_ _)); exact BK272.out) hb); have n2_ := Aside0.mk (below_step (by repeat (first | (with_reducible first | exact HB.out | apply below_alloc | apply pw_below_drewN | apply below_drew1 | refine below_set ?_ GE271.out | refine below_set ?_ GE272.out) | exact HB.out)) hb); clear BK271; clear BK272; clear HB; have BK271 := n0_; have BK272 := n1_; have HB := n2_; clear n0_ n1_ n2_; (try clear hb); (try clear hb2); (try clear hk); (try clear hi)))
      go_meet
      case rel => exact ⟨_, (true), (by first | rfl | (simp; done) | (simp [*]; done)), H', ⟨by first | omega | exact Nat.le_refl _⟩, ⟨by (with_reducible repeat (first | refine blk_drewN ?_ _ | refine blk_drew ?_ | refine blk_alloc ?_ _)); exact BK271.out⟩, ⟨by (with_reducible repeat (first | refine blk_drewN ?_ _ | refine blk_drew ?_ | refine blk_alloc ?_ _)); exact BK272.out⟩, ⟨by repeat (first | (with_reducible first | exact HB.out | apply below_alloc | apply pw_below_drewN | apply below_drew1 | refine below_set ?_ GE271.out | refine below_set ?_ GE272.out) | exact HB.out)⟩⟩
  case rest =>
    clear HC5
    try clear c1
    try clear c2
    try clear p2
    try clear c3
    try clear c4
    try clear c5
    try clear c6
    try clear c9
    try clear c10
    try clear c10b0
    try clear c11
    try clear c11b0
    try clear c11b1
    try clear c12
    try clear c12b0
    try clear c13
    try clear c13b0
    try clear c13b1
    try clear c14
    try clear c14b0
    try clear c15
    try clear c20
    try clear c23
    try clear c24
    try clear c28
    try clear c28b0
    try clear c29
    try clear c34
    try clear c38
    try clear c42
    try clear c42b0
    try clear c43
    try clear c43b0
    try clear c43b1
    try clear c44
    try clear c44b0
    try clear c45
    try clear c50
    try clear c54
    try clear c58
    try clear c58b0
    try clear c59
    try clear c64
    try clear c68
    try clear hcz16_0
    try clear hcz16_1
    try clear hcz16_10
    try clear hcz16_11
    try clear hcz16_2
    try clear hcz16_3
    try clear hcz16_4
    try clear hcz16_5
    try clear hcz16_6
    try clear hcz16_7
    try clear hcz16_8
    try clear hcz16_9
    try clear hcz18_0
    try clear hcz18_1
    try clear hcz18_10
    try clear hcz18_11
    try clear hcz18_2
    try clear hcz18_3
    try clear hcz18_4
    try clear hcz18_5
    try clear hcz18_6
    try clear hcz18_7
    try clear hcz18_8
    try clear hcz18_9
    try clear hcz19_0
    try clear hcz19_1
    try clear hcz19_2
    try clear hcz19_3
    try clear hcz19_4
    try clear hcz21_0
    try clear hcz21_1
    try clear hcz21_10
    try clear hcz21_11
    try clear hcz21_2
    try clear hcz21_3
    try clear hcz21_4
    try clear hcz21_5
    try clear hcz21_6
    try clear hcz21_7
    try clear hcz21_8
    try clear hcz21_9
    try clear hcz23_0
    try clear hcz23_1
    try clear hcz23_10
    try clear hcz23_11
    try clear hcz23_2
    try clear hcz23_3
    try clear hcz23_4
    try clear hcz23_5
    try clear hcz23_6
    try clear hcz23_7
    try clear hcz23_8
    try clear hcz23_9
    try clear hcz25_0
    try clear hcz25_1
    try clear hcz25_10
    try clear hcz25_11
    try clear hcz25_2
    try clear hcz25_3
    try clear hcz25_4
    try clear hcz25_5
    try clear hcz25_6
    try clear hcz25_7
    try clear hcz25_8
    try clear hcz25_9
    try clear hcz27_0
    try clear hcz27_1
    try clear hcz27_10
    try clear hcz27_11
    try clear hcz27_2
    try clear hcz27_3
    try clear hcz27_4
    try clear hcz27_5
    try clear hcz27_6
    try clear hcz27_7
    try clear hcz27_8
    try clear hcz27_9
    try clear hcz30_0
    try clear hcz30_1
    try clear hcz30_10
    try clear hcz30_11
    try clear hcz30_2
    try clear hcz30_3
    try clear hcz30_4
    try clear hcz30_5
    try clear hcz30_6
    try clear hcz30_7
    try clear hcz30_8
    try clear hcz30_9
    try clear hcz32_0
    try clear hcz32_1
    try clear hcz32_10
    try clear hcz32_11
    try clear hcz32_2
    try clear hcz32_3
    try clear hcz32_4
    try clear hcz32_5
    try clear hcz32_6
    try clear hcz32_7
    try clear hcz32_8
    try clear hcz32_9
    try clear hcz33_0
    try clear hcz33_1
    try clear hcz33_2
    try clear hcz33_3
    try clear hcz33_4
    try clear hcz35_0
    try clear hcz35_1
    try clear hcz35_10
    try clear hcz35_11
    try clear hcz35_2
    try clear hcz35_3
    try clear hcz35_4
    try clear hcz35_5
    try clear hcz35_6
    try clear hcz35_7
    try clear hcz35_8
    try clear hcz35_9
    try clear hcz37_0
    try clear hcz37_1
    try clear hcz37_10
    try clear hcz37_11
    try clear hcz37_2
    try clear hcz37_3
    try clear hcz37_4
    try clear hcz37_5
    try clear hcz37_6
    try clear hcz37_7
    try clear hcz37_8
    try clear hcz37_9
    try clear hcz39_0
    try clear hcz39_1
    try clear hcz39_10
    try clear hcz39_11
    try clear hcz39_2
    try clear hcz39_3
    try clear hcz39_4
    try clear hcz39_5
    try clear hcz39_6
    try clear hcz39_7
    try clear hcz39_8
    try clear hcz39_9
    try clear hcz41_0
    try clear hcz41_1
    try clear hcz41_10
    try clear hcz41_11
    try clear hcz41_2
    try clear hcz41_3
    try clear hcz41_4
    try clear hcz41_5
    try clear hcz41_6
    try clear hcz41_7
    try clear hcz41_8
    try clear hcz41_9
    try clear hcz46_0
    try clear hcz46_1
    try clear hcz46_10
    try clear hcz46_11
    try clear hcz46_2
    try clear hcz46_3
    try clear hcz46_4
    try clear hcz46_5
    try clear hcz46_6
    try clear hcz46_7
    try clear hcz46_8
    try clear hcz46_9
    try clear hcz48_0
    try clear hcz48_1
    try clear hcz48_10
    try clear hcz48_11
    try clear hcz48_2
    try clear hcz48_3
    try clear hcz48_4
    try clear hcz48_5
    try clear hcz48_6
    try clear hcz48_7
    try clear hcz48_8
    try clear hcz48_9
    try clear hcz49_0
    try clear hcz49_1
    try clear hcz49_2
    try clear hcz49_3
    try clear hcz49_4
    try clear hcz51_0
    try clear hcz51_1
    try clear hcz51_10
    try clear hcz51_11
    try clear hcz51_2
    try clear hcz51_3
    try clear hcz51_4
    try clear hcz51_5
    try clear hcz51_6
    try clear hcz51_7
    try clear hcz51_8
    try clear hcz51_9
    try clear hcz53_0
    try clear hcz53_1
    try clear hcz53_10
    try clear hcz53_11
    try clear hcz53_2
    try clear hcz53_3
    try clear hcz53_4
    try clear hcz53_5
    try clear hcz53_6
    try clear hcz53_7
    try clear hcz53_8
    try clear hcz53_9
    try clear hcz55_0
    try clear hcz55_1
    try clear hcz55_10
    try clear hcz55_11
    try clear hcz55_2
    try clear hcz55_3
    try clear hcz55_4
    try clear hcz55_5
    try clear hcz55_6
    try clear hcz55_7
    try clear hcz55_8
    try clear hcz55_9
    try clear hcz57_0
    try clear hcz57_1
    try clear hcz57_10
    try clear hcz57_11
    try clear hcz57_2
    try clear hcz57_3
    try clear hcz57_4
    try clear hcz57_5
    try clear hcz57_6
    try clear hcz57_7
    try clear hcz57_8
    try clear hcz57_9
    try clear hcz60_0
    try clear hcz60_1
    try clear hcz60_10
    try clear hcz60_11
    try clear hcz60_2
    try clear hcz60_3
    try clear hcz60_4
    try clear hcz60_5
    try clear hcz60_6
    try clear hcz60_7
    try clear hcz60_8
    try clear hcz60_9
    try clear hcz62_0
    try clear hcz62_1
    try clear hcz62_10
    try clear hcz62_11
    try clear hcz62_2
    try clear hcz62_3
    try clear hcz62_4
    try clear hcz62_5
    try clear hcz62_6
    try clear hcz62_7
    try clear hcz62_8
    try clear hcz62_9
    try clear hcz63_0
    try clear hcz63_1
    try clear hcz63_2
    try clear hcz63_3
    try clear hcz63_4
    try clear hcz65_0
    try clear hcz65_1
    try clear hcz65_10
    try clear hcz65_11
    try clear hcz65_2
    try clear hcz65_3
    try clear hcz65_4
    try clear hcz65_5
    try clear hcz65_6
    try clear hcz65_7
    try clear hcz65_8
    try clear hcz65_9
    try clear hcz67_0
    try clear hcz67_1
    try clear hcz67_10
    try clear hcz67_11
    try clear hcz67_2
    try clear hcz67_3
    try clear hcz67_4
    try clear hcz67_5
    try clear hcz67_6
    try clear hcz67_7
    try clear hcz67_8
    try clear hcz67_9
    try clear hcz69_0
    try clear hcz69_1
    try clear hcz69_10
    try clear hcz69_11
    try clear hcz69_2
    try clear hcz69_3
    try clear hcz69_4
    try clear hcz69_5
    try clear hcz69_6
    try clear hcz69_7
    try clear hcz69_8
    try clear hcz69_9
    try clear hfz16_0
    try clear hfz16_1
    try clear hfz16_10
    try clear hfz16_11
    try clear hfz16_2
    try clear hfz16_3
    try clear hfz16_4
    try clear hfz16_5
    try clear hfz16_6
    try clear hfz16_7
    try clear hfz16_8
    try clear hfz16_9
    try clear hfz18_0
    try clear hfz18_1
    try clear hfz18_10
    try clear hfz18_11
    try clear hfz18_2
    try clear hfz18_3
    try clear hfz18_4
    try clear hfz18_5
    try clear hfz18_6
    try clear hfz18_7
    try clear hfz18_8
    try clear hfz18_9
    try clear hfz19_0
    try clear hfz19_1
    try clear hfz19_2
    try clear hfz19_3
    try clear hfz19_4
    try clear hfz21_0
    try clear hfz21_1
    try clear hfz21_10
    try clear hfz21_11
    try clear hfz21_2
    try clear hfz21_3
    try clear hfz21_4
    try clear hfz21_5
    try clear hfz21_6
    try clear hfz21_7
    try clear hfz21_8
    try clear hfz21_9
    try clear hfz23_0
    try clear hfz23_1
    try clear hfz23_10
    try clear hfz23_11
    try clear hfz23_2
    try clear hfz23_3
    try clear hfz23_4
    try clear hfz23_5
    try clear hfz23_6
    try clear hfz23_7
    try clear hfz23_8
    try clear hfz23_9
    try clear hfz25_0
    try clear hfz25_1
    try clear hfz25_10
    try clear hfz25_11
    try clear hfz25_2
    try clear hfz25_3
    try clear hfz25_4
    try clear hfz25_5
    try clear hfz25_6
    try clear hfz25_7
    try clear hfz25_8
    try clear hfz25_9
    try clear hfz27_0
    try clear hfz27_1
    try clear hfz27_10
    try clear hfz27_11
    try clear hfz27_2
    try clear hfz27_3
    try clear hfz27_4
    try clear hfz27_5
    try clear hfz27_6
    try clear hfz27_7
    try clear hfz27_8
    try clear hfz27_9
    try clear hfz30_0
    try clear hfz30_1
    try clear hfz30_10
    try clear hfz30_11
    try clear hfz30_2
    try clear hfz30_3
    try clear hfz30_4
    try clear hfz30_5
    try clear hfz30_6
    try clear hfz30_7
    try clear hfz30_8
    try clear hfz30_9
    try clear hfz32_0
    try clear hfz32_1
    try clear hfz32_10
    try clear hfz32_11
    try clear hfz32_2
    try clear hfz32_3
    try clear hfz32_4
    try clear hfz32_5
    try clear hfz32_6
    try clear hfz32_7
    try clear hfz32_8
    try clear hfz32_9
    try clear hfz33_0
    try clear hfz33_1
    try clear hfz33_2
    try clear hfz33_3
    try clear hfz33_4
    try clear hfz35_0
    try clear hfz35_1
    try clear hfz35_10
    try clear hfz35_11
    try clear hfz35_2
    try clear hfz35_3
    try clear hfz35_4
    try clear hfz35_5
    try clear hfz35_6
    try clear hfz35_7
    try clear hfz35_8
    try clear hfz35_9
    try clear hfz37_0
    try clear hfz37_1
    try clear hfz37_10
    try clear hfz37_11
    try clear hfz37_2
    try clear hfz37_3
    try clear hfz37_4
    try clear hfz37_5
    try clear hfz37_6
    try clear hfz37_7
    try clear hfz37_8
    try clear hfz37_9
    try clear hfz39_0
    try clear hfz39_1
    try clear hfz39_10
    try clear hfz39_11
    try clear hfz39_2
    try clear hfz39_3
    try clear hfz39_4
    try clear hfz39_5
    try clear hfz39_6
    try clear hfz39_7
    try clear hfz39_8
    try clear hfz39_9
    try clear hfz41_0
    try clear hfz41_1
    try clear hfz41_10
    try clear hfz41_11
    try clear hfz41_2
    try clear hfz41_3
    try clear hfz41_4
    try clear hfz41_5
    try clear hfz41_6
    try clear hfz41_7
    try clear hfz41_8
    try clear hfz41_9
    try clear hfz46_0
    try clear hfz46_1
    try clear hfz46_10
    try clear hfz46_11
    try clear hfz46_2
    try clear hfz46_3
    try clear hfz46_4
    try clear hfz46_5
    try clear hfz46_6
    try clear hfz46_7
    try clear hfz46_8
    try clear hfz46_9
    try clear hfz48_0
    try clear hfz48_1
    try clear hfz48_10
    try clear hfz48_11
    try clear hfz48_2
    try clear hfz48_3
    try clear hfz48_4
    try clear hfz48_5
    try clear hfz48_6
    try clear hfz48_7
    try clear hfz48_8
    try clear hfz48_9
    try clear hfz49_0
    try clear hfz49_1
    try clear hfz49_2
    try clear hfz49_3
    try clear hfz49_4
    try clear hfz51_0
    try clear hfz51_1
    try clear hfz51_10
    try clear hfz51_11
    try clear hfz51_2
    try clear hfz51_3
    try clear hfz51_4
    try clear hfz51_5
    try clear hfz51_6
    try clear hfz51_7
    try clear hfz51_8
    try clear hfz51_9
    try clear hfz53_0
    try clear hfz53_1
    try clear hfz53_10
    try clear hfz53_11
    try clear hfz53_2
    try clear hfz53_3
    try clear hfz53_4
    try clear hfz53_5
    try clear hfz53_6
    try clear hfz53_7
    try clear hfz53_8
    try clear hfz53_9
    try clear hfz55_0
    try clear hfz55_1
    try clear hfz55_10
    try clear hfz55_11
    try clear hfz55_2
    try clear hfz55_3
    try clear hfz55_4
    try clear hfz55_5
    try clear hfz55_6
    try clear hfz55_7
    try clear hfz55_8
    try clear hfz55_9
    try clear hfz57_0
    try clear hfz57_1
    try clear hfz57_10
    try clear hfz57_11
    try clear hfz57_2
    try clear hfz57_3
    try clear hfz57_4
    try clear hfz57_5
    try clear hfz57_6
    try clear hfz57_7
    try clear hfz57_8
    try clear hfz57_9
    try clear hfz60_0
    try clear hfz60_1
    try clear hfz60_10
    try clear hfz60_11
    try clear hfz60_2
    try clear hfz60_3
    try clear hfz60_4
    try clear hfz60_5
    try clear hfz60_6
    try clear hfz60_7
    try clear hfz60_8
    try clear hfz60_9
    try clear hfz62_0
    try clear hfz62_1
    try clear hfz62_10
    try clear hfz62_11
    try clear hfz62_2
    try clear hfz62_3
    try clear hfz62_4
    try clear hfz62_5
    try clear hfz62_6
    try clear hfz62_7
    try clear hfz62_8
    try clear hfz62_9
    try clear hfz63_0
    try clear hfz63_1
    try clear hfz63_2
    try clear hfz63_3
    try clear hfz63_4
    try clear hfz65_0
    try clear hfz65_1
    try clear hfz65_10
    try clear hfz65_11
    try clear hfz65_2
    try clear hfz65_3
    try clear hfz65_4
    try clear hfz65_5
    try clear hfz65_6
    try clear hfz65_7
    try clear hfz65_8
    try clear hfz65_9
    try clear hfz67_0
    try clear hfz67_1
    try clear hfz67_10
    try clear hfz67_11
    try clear hfz67_2
    try clear hfz67_3
    try clear hfz67_4
    try clear hfz67_5
    try clear hfz67_6
    try clear hfz67_7
    try clear hfz67_8
    try clear hfz67_9
    try clear hfz69_0
    try clear hfz69_1
    try clear hfz69_10
    try clear hfz69_11
    try clear hfz69_2
    try clear hfz69_3
    try clear hfz69_4
    try clear hfz69_5
    try clear hfz69_6
    try clear hfz69_7
    try clear hfz69_8
    try clear hfz69_9
    obtain ⟨kq, x45_4, rfl, HA, HJ4, BK271, BK272, HB⟩ := hcut
    cases kq with
    | zero => exact absurd HA.out (by simp [gueriteref15_Matches.j0])
    | succ kj4 =>
      have H := HA.out
      clear HA
      simp only [gueriteref15_Matches.j0] at H
      by_cases c71 : x45_4 = true
      · subst c71
        have H1 : (some false) = some r := by rw [if_pos rfl] at H; exact H
        clear H
        have H := H1
        clear H1
        obtain rfl := Option.some.inj H
        go_wp2
        go_ret
        exact ⟨by first | rfl | (simp [errW_none, errW_some] <;> rfl) | (simp [*, errW_none, errW_some] <;> rfl), by repeat (first | (with_reducible first | exact HB.out | apply below_alloc | apply pw_below_drewN | apply below_drew1 | refine below_set ?_ GE271.out | refine below_set ?_ GE272.out) | exact HB.out)⟩
      · replace c71 := Bool.eq_false_iff.mpr c71
        subst c71
        have H1 : ((gueriteref03_Holds.f kj4 a0_2 a0_3 a3_0).bind fun t274 => (if t274 = true then ((gueriteref03_Holds.f kj4 a0_4 a0_5 a3_1).bind fun t275 => (gueriteref15_Matches.j1 kj4 (!t275) a0_0 a0_1 a0_2 a0_3 a0_4 a0_5 a0_6 a0_7 a0_8 a0_9 a0_10 a0_11 a3_0 a3_1 a3_2 a3_3 a3_4)) else (gueriteref15_Matches.j1 kj4 true a0_0 a0_1 a0_2 a0_3 a0_4 a0_5 a0_6 a0_7 a0_8 a0_9 a0_10 a0_11 a3_0 a3_1 a3_2 a3_3 a3_4))) = some r := by rw [if_neg (show ¬ (false = true) by decide)] at H; exact H
        clear H
        have H := H1
        clear H1
        have HC72 := Aside0.mk H
        clear H
        go_upto_region 3 with (fail)
        go_cut [59] (fun v59 wc => ∃ (kq : Nat) (x59_71 : Bool), v59 = .bool x59_71 ∧ Aside0 (gueriteref15_Matches.j1 kq x59_71 a0_0 a0_1 a0_2 a0_3 a0_4 a0_5 a0_6 a0_7 a0_8 a0_9 a0_10 a0_11 a3_0 a3_1 a3_2 a3_3 a3_4 = some r) ∧ Aside0 (kq ≤ kj4) ∧ Aside0 (wc.heap[gb271]? = some (.cells #[.int .i64 a0_0, .int .i64 a0_1, .int .u32 a0_2, .int .i64 a0_3, .int .u32 a0_4, .int .i64 a0_5, .int .i64 a0_6, .int .i64 a0_7, .int .i64 a0_8, .int .i64 a0_9, .int .i64 a0_10, .bool a0_11] 42 (0, 0))) ∧ Aside0 (wc.heap[gb272]? = some (.cells #[.int .u32 a3_0, .int .u32 a3_1, .int .i64 a3_2, .int .i64 a3_3, .int .i64 a3_4] 44 (0, 0))) ∧ Aside0 (Below w.heap.size w wc))
        case first =>
          have H := HC72.out
          clear HC72
          replace H := Option.bind_eq_some_iff.mp H
          obtain ⟨t274, A730, H⟩ := H
          replace H : (if t274 = true then ((gueriteref03_Holds.f kj4 a0_4 a0_5 a3_1).bind fun t275 => (gueriteref15_Matches.j1 kj4 (!t275) a0_0 a0_1 a0_2 a0_3 a0_4 a0_5 a0_6 a0_7 a0_8 a0_9 a0_10 a0_11 a3_0 a3_1 a3_2 a3_3 a3_4)) else (gueriteref15_Matches.j1 kj4 true a0_0 a0_1 a0_2 a0_3 a0_4 a0_5 a0_6 a0_7 a0_8 a0_9 a0_10 a0_11 a3_0 a3_1 a3_2 a3_3 a3_4)) = some r := H
          have A73 := Aside0.mk A730
          clear A730
          by_cases c74 : t274 = true
          · subst c74
            have H1 : ((gueriteref03_Holds.f kj4 a0_4 a0_5 a3_1).bind fun t275 => (gueriteref15_Matches.j1 kj4 (!t275) a0_0 a0_1 a0_2 a0_3 a0_4 a0_5 a0_6 a0_7 a0_8 a0_9 a0_10 a0_11 a3_0 a3_1 a3_2 a3_3 a3_4)) = some r := by rw [if_pos rfl] at H; exact H
            clear H
            have H := H1
            clear H1
            replace H := Option.bind_eq_some_iff.mp H
            obtain ⟨t275, A750, H⟩ := H
            replace H : (gueriteref15_Matches.j1 kj4 (!t275) a0_0 a0_1 a0_2 a0_3 a0_4 a0_5 a0_6 a0_7 a0_8 a0_9 a0_10 a0_11 a3_0 a3_1 a3_2 a3_3 a3_4) = some r := H
            have A75 := Aside0.mk A750
            clear A750
            have H' := Aside0.mk H
            clear H
            have hnb76 := NB271_272.out
            have hnc76 := NB272_271.out
            have hcz77_0 : wc.cell? ⟨gb271, 0, none⟩ = some (.int .i64 a0_0) := (blk_cell BK271.out 0).trans rfl
            have hcz77_1 : wc.cell? ⟨gb271, 1, none⟩ = some (.int .i64 a0_1) := (blk_cell BK271.out 1).trans rfl
            have hcz77_2 : wc.cell? ⟨gb271, 2, none⟩ = some (.int .u32 a0_2) := (blk_cell BK271.out 2).trans rfl
            have hcz77_3 : wc.cell? ⟨gb271, 3, none⟩ = some (.int .i64 a0_3) := (blk_cell BK271.out 3).trans rfl
            have hcz77_4 : wc.cell? ⟨gb271, 4, none⟩ = some (.int .u32 a0_4) := (blk_cell BK271.out 4).trans rfl
            have hcz77_5 : wc.cell? ⟨gb271, 5, none⟩ = some (.int .i64 a0_5) := (blk_cell BK271.out 5).trans rfl
            have hcz77_6 : wc.cell? ⟨gb271, 6, none⟩ = some (.int .i64 a0_6) := (blk_cell BK271.out 6).trans rfl
            have hcz77_7 : wc.cell? ⟨gb271, 7, none⟩ = some (.int .i64 a0_7) := (blk_cell BK271.out 7).trans rfl
            have hcz77_8 : wc.cell? ⟨gb271, 8, none⟩ = some (.int .i64 a0_8) := (blk_cell BK271.out 8).trans rfl
            have hcz77_9 : wc.cell? ⟨gb271, 9, none⟩ = some (.int .i64 a0_9) := (blk_cell BK271.out 9).trans rfl
            have hcz77_10 : wc.cell? ⟨gb271, 10, none⟩ = some (.int .i64 a0_10) := (blk_cell BK271.out 10).trans rfl
            have hcz77_11 : wc.cell? ⟨gb271, 11, none⟩ = some (.bool a0_11) := (blk_cell BK271.out 11).trans rfl
            have hfz77_0 := blk_frozen BK271.out 0
            have hfz77_1 := blk_frozen BK271.out 1
            have hfz77_2 := blk_frozen BK271.out 2
            have hfz77_3 := blk_frozen BK271.out 3
            have hfz77_4 := blk_frozen BK271.out 4
            have hfz77_5 := blk_frozen BK271.out 5
            have hfz77_6 := blk_frozen BK271.out 6
            have hfz77_7 := blk_frozen BK271.out 7
            have hfz77_8 := blk_frozen BK271.out 8
            have hfz77_9 := blk_frozen BK271.out 9
            have hfz77_10 := blk_frozen BK271.out 10
            have hfz77_11 := blk_frozen BK271.out 11
            have hcz78_0 : wc.cell? ⟨gb272, 0, none⟩ = some (.int .u32 a3_0) := (blk_cell BK272.out 0).trans rfl
            have hcz78_1 : wc.cell? ⟨gb272, 1, none⟩ = some (.int .u32 a3_1) := (blk_cell BK272.out 1).trans rfl
            have hcz78_2 : wc.cell? ⟨gb272, 2, none⟩ = some (.int .i64 a3_2) := (blk_cell BK272.out 2).trans rfl
            have hcz78_3 : wc.cell? ⟨gb272, 3, none⟩ = some (.int .i64 a3_3) := (blk_cell BK272.out 3).trans rfl
            have hcz78_4 : wc.cell? ⟨gb272, 4, none⟩ = some (.int .i64 a3_4) := (blk_cell BK272.out 4).trans rfl
            have hfz78_0 := blk_frozen BK272.out 0
            have hfz78_1 := blk_frozen BK272.out 1
            have hfz78_2 := blk_frozen BK272.out 2
            have hfz78_3 := blk_frozen BK272.out 3
            have hfz78_4 := blk_frozen BK272.out 4
            go_wp2_with (first | ((with_reducible refine gate_callee (f := 30) rfl ?_); refine goesL_ (some 50) rfl rfl Try.func30 (by kernel_rfl) rfl #[.agg #[.int .u32 a0_2, .int .i64 a0_3], .int .u32 a3_0] rfl (by (try simp only [List.map_toArray, List.map_cons, List.map_nil]); first | done | rfl | (simp only [List.length_drop, List.length_take]; rfl)) ?_; (with_reducible refine (gueriteref03_Holds.calls kj4 a0_2 a0_3 a3_0 true _ A73.out).mono ?_); rintro e w79 ⟨rfl, hb⟩; refine ⟨_, rfl, ?_⟩; have n0_ := Aside0.mk (blk_below (g := gb271) (o := .cells #[.int .i64 a0_0, .int .i64 a0_1, .int .u32 a0_2, .int .i64 a0_3, .int .u32 a0_4, .int .i64 a0_5, .int .i64 a0_6, .int .i64 a0_7, .int .i64 a0_8, .int .i64 a0_9, .int .i64 a0_10, .bool a0_11] 42 (0, 0)) (by (with_reducible repeat (first | refine blk_drewN ?_ _ | refine blk_drew ?_ | refine blk_alloc ?_ _)); exact BK271.out) hb); have n1_ := Aside0.mk (blk_below (g := gb272) (o := .cells #[.int .u32 a3_0, .int .u32 a3_1, .int .i64 a3_2, .int .i64 a3_3, .int .i64 a3_4] 44 (0, 0)) (by (with_reducible repeat (first | refine blk_drewN ?_ _ | refine blk_drew ?_ | refine blk_alloc ?_ _)); exact BK272.out) hb); have n2_ := Aside0.mk (below_step (by repeat (first | (with_reducible first | exact HB.out | apply below_alloc | apply pw_below_drewN | apply below_drew1 | refine below_set ?_ GE271.out | refine below_set ?_ GE272.out) | exact HB.out)) hb); clear BK271; clear BK272; clear HB; have BK271 := n0_; have BK272 := n1_; have HB := n2_; clear n0_ n1_ n2_; (try clear hb); (try clear hb2); (try clear hk); (try clear hi); have hcz80_0 : w79.cell? ⟨gb271, 0, none⟩ = some (.int .i64 a0_0) := (blk_cell BK271.out 0).trans rfl; have hcz80_1 : w79.cell? ⟨gb271, 1, none⟩ = some (.int .i64 a0_1) := (blk_cell BK271.out 1).trans rfl; have hcz80_2 : w79.cell? ⟨gb271, 2, none⟩ = some (.int .u32 a0_2) := (blk_cell BK271.out 2).trans rfl; have hcz80_3 : w79.cell? ⟨gb271, 3, none⟩ = some (.int .i64 a0_3) := (blk_cell BK271.out 3).trans rfl; have hcz80_4 : w79.cell? ⟨gb271, 4, none⟩ = some (.int .u32 a0_4) := (blk_cell BK271.out 4).trans rfl; have hcz80_5 : w79.cell? ⟨gb271, 5, none⟩ = some (.int .i64 a0_5) := (blk_cell BK271.out 5).trans rfl; have hcz80_6 : w79.cell? ⟨gb271, 6, none⟩ = some (.int .i64 a0_6) := (blk_cell BK271.out 6).trans rfl; have hcz80_7 : w79.cell? ⟨gb271, 7, none⟩ = some (.int .i64 a0_7) := (blk_cell BK271.out 7).trans rfl; have hcz80_8 : w79.cell? ⟨gb271, 8, none⟩ = some (.int .i64 a0_8) := (blk_cell BK271.out 8).trans rfl; have hcz80_9 : w79.cell? ⟨gb271, 9, none⟩ = some (.int .i64 a0_9) := (blk_cell BK271.out 9).trans rfl; have hcz80_10 : w79.cell? ⟨gb271, 10, none⟩ = some (.int .i64 a0_10) := (blk_cell BK271.out 10).trans rfl; have hcz80_11 : w79.cell? ⟨gb271, 11, none⟩ = some (.bool a0_11) := (blk_cell BK271.out 11).trans rfl; have hfz80_0 := blk_frozen BK271.out 0; have hfz80_1 := blk_frozen BK271.out 1; have hfz80_2 := blk_frozen BK271.out 2; have hfz80_3 := blk_frozen BK271.out 3; have hfz80_4 := blk_frozen BK271.out 4; have hfz80_5 := blk_frozen BK271.out 5; have hfz80_6 := blk_frozen BK271.out 6; have hfz80_7 := blk_frozen BK271.out 7; have hfz80_8 := blk_frozen BK271.out 8; have hfz80_9 := blk_frozen BK271.out 9; have hfz80_10 := blk_frozen BK271.out 10; have hfz80_11 := blk_frozen BK271.out 11; have hcz81_0 : w79.cell? ⟨gb272, 0, none⟩ = some (.int .u32 a3_0) := (blk_cell BK272.out 0).trans rfl; have hcz81_1 : w79.cell? ⟨gb272, 1, none⟩ = some (.int .u32 a3_1) := (blk_cell BK272.out 1).trans rfl; have hcz81_2 : w79.cell? ⟨gb272, 2, none⟩ = some (.int .i64 a3_2) := (blk_cell BK272.out 2).trans rfl; have hcz81_3 : w79.cell? ⟨gb272, 3, none⟩ = some (.int .i64 a3_3) := (blk_cell BK272.out 3).trans rfl; have hcz81_4 : w79.cell? ⟨gb272, 4, none⟩ = some (.int .i64 a3_4) := (blk_cell BK272.out 4).trans rfl; have hfz81_0 := blk_frozen BK272.out 0; have hfz81_1 := blk_frozen BK272.out 1; have hfz81_2 := blk_frozen BK272.out 2; have hfz81_3 := blk_frozen BK272.out 3; have hfz81_4 := blk_frozen BK272.out 4) | (go_at_call 30; (with_reducible refine (gueriteref03_Holds.calls kj4 a0_4 a0_5 a3_1 t275 _ A75.out).mono ?_); rintro e w82 ⟨rfl, hb⟩; have n0_ := Aside0.mk (blk_below (g := gb271) (o := .cells #[.int .i64 a0_0, .int .i64 a0_1, .int .u32 a0_2, .int .i64 a0_3, .int .u32 a0_4, .int .i64 a0_5, .int .i64 a0_6, .int .i64 a0_7, .int .i64 a0_8, .int .i64 a0_9, .int .i64 a0_10, .bool a0_11] 42 (0, 0)) (by (with_reducible repeat (first | refine blk_drewN ?_ _ | refine blk_drew ?_ | refine blk_alloc ?_ _)); exact BK271.out) hb); have n1_ := Aside0.mk (blk_below (g := gb272) (o := .cells #[.int .u32 a3_0, .int .u32 a3_1, .int .i64 a3_2, .int .i64 a3_3, .int .i64 a3_4] 44 (0, 0)) (by (with_reducible repeat (first | refine blk_drewN ?_ _ | refine blk_drew ?_ | refine blk_alloc ?_ _)); exact BK272.out) hb); have n2_ := Aside0.mk (below_step (by repeat (first | (with_reducible first | exact HB.out | apply below_alloc | apply pw_below_drewN | apply below_drew1 | refine below_set ?_ GE271.out | refine below_set ?_ GE272.out) | exact HB.out)) hb); clear BK271; clear BK272; clear HB; have BK271 := n0_; have BK272 := n1_; have HB := n2_; clear n0_ n1_ n2_; (try clear hb); (try clear hb2); (try clear hk); (try clear hi)))
            go_meet
            case rel => exact ⟨_, (!t275), (by first | rfl | (simp; done) | (simp [*]; done)), H', ⟨by have := HJ4.out; first | omega | exact Nat.le_refl _⟩, ⟨by (with_reducible repeat (first | refine blk_drewN ?_ _ | refine blk_drew ?_ | refine blk_alloc ?_ _)); exact BK271.out⟩, ⟨by (with_reducible repeat (first | refine blk_drewN ?_ _ | refine blk_drew ?_ | refine blk_alloc ?_ _)); exact BK272.out⟩, ⟨by repeat (first | (with_reducible first | exact HB.out | apply below_alloc | apply pw_below_drewN | apply below_drew1 | refine below_set ?_ GE271.out | refine below_set ?_ GE272.out) | exact HB.out)⟩⟩
          · replace c74 := Bool.eq_false_iff.mpr c74
            subst c74
            have H1 : (gueriteref15_Matches.j1 kj4 true a0_0 a0_1 a0_2 a0_3 a0_4 a0_5 a0_6 a0_7 a0_8 a0_9 a0_10 a0_11 a3_0 a3_1 a3_2 a3_3 a3_4) = some r := by rw [if_neg (show ¬ (false = true) by decide)] at H; exact H
            clear H
            have H := H1
            clear H1
            have H' := Aside0.mk H
            clear H
            have hnb83 := NB271_272.out
            have hnc83 := NB272_271.out
            have hcz84_0 : wc.cell? ⟨gb271, 0, none⟩ = some (.int .i64 a0_0) := (blk_cell BK271.out 0).trans rfl
            have hcz84_1 : wc.cell? ⟨gb271, 1, none⟩ = some (.int .i64 a0_1) := (blk_cell BK271.out 1).trans rfl
            have hcz84_2 : wc.cell? ⟨gb271, 2, none⟩ = some (.int .u32 a0_2) := (blk_cell BK271.out 2).trans rfl
            have hcz84_3 : wc.cell? ⟨gb271, 3, none⟩ = some (.int .i64 a0_3) := (blk_cell BK271.out 3).trans rfl
            have hcz84_4 : wc.cell? ⟨gb271, 4, none⟩ = some (.int .u32 a0_4) := (blk_cell BK271.out 4).trans rfl
            have hcz84_5 : wc.cell? ⟨gb271, 5, none⟩ = some (.int .i64 a0_5) := (blk_cell BK271.out 5).trans rfl
            have hcz84_6 : wc.cell? ⟨gb271, 6, none⟩ = some (.int .i64 a0_6) := (blk_cell BK271.out 6).trans rfl
            have hcz84_7 : wc.cell? ⟨gb271, 7, none⟩ = some (.int .i64 a0_7) := (blk_cell BK271.out 7).trans rfl
            have hcz84_8 : wc.cell? ⟨gb271, 8, none⟩ = some (.int .i64 a0_8) := (blk_cell BK271.out 8).trans rfl
            have hcz84_9 : wc.cell? ⟨gb271, 9, none⟩ = some (.int .i64 a0_9) := (blk_cell BK271.out 9).trans rfl
            have hcz84_10 : wc.cell? ⟨gb271, 10, none⟩ = some (.int .i64 a0_10) := (blk_cell BK271.out 10).trans rfl
            have hcz84_11 : wc.cell? ⟨gb271, 11, none⟩ = some (.bool a0_11) := (blk_cell BK271.out 11).trans rfl
            have hfz84_0 := blk_frozen BK271.out 0
            have hfz84_1 := blk_frozen BK271.out 1
            have hfz84_2 := blk_frozen BK271.out 2
            have hfz84_3 := blk_frozen BK271.out 3
            have hfz84_4 := blk_frozen BK271.out 4
            have hfz84_5 := blk_frozen BK271.out 5
            have hfz84_6 := blk_frozen BK271.out 6
            have hfz84_7 := blk_frozen BK271.out 7
            have hfz84_8 := blk_frozen BK271.out 8
            have hfz84_9 := blk_frozen BK271.out 9
            have hfz84_10 := blk_frozen BK271.out 10
            have hfz84_11 := blk_frozen BK271.out 11
            have hcz85_0 : wc.cell? ⟨gb272, 0, none⟩ = some (.int .u32 a3_0) := (blk_cell BK272.out 0).trans rfl
            have hcz85_1 : wc.cell? ⟨gb272, 1, none⟩ = some (.int .u32 a3_1) := (blk_cell BK272.out 1).trans rfl
            have hcz85_2 : wc.cell? ⟨gb272, 2, none⟩ = some (.int .i64 a3_2) := (blk_cell BK272.out 2).trans rfl
            have hcz85_3 : wc.cell? ⟨gb272, 3, none⟩ = some (.int .i64 a3_3) := (blk_cell BK272.out 3).trans rfl
            have hcz85_4 : wc.cell? ⟨gb272, 4, none⟩ = some (.int .i64 a3_4) := (blk_cell BK272.out 4).trans rfl
            have hfz85_0 := blk_frozen BK272.out 0
            have hfz85_1 := blk_frozen BK272.out 1
            have hfz85_2 := blk_frozen BK272.out 2
            have hfz85_3 := blk_frozen BK272.out 3
            have hfz85_4 := blk_frozen BK272.out 4
            go_wp2_with (first | ((with_reducible refine gate_callee (f := 30) rfl ?_); refine goesL_ (some 50) rfl rfl Try.func30 (by kernel_rfl) rfl #[.agg #[.int .u32 a0_2, .int .i64 a0_3], .int .u32 a3_0] rfl (by (try simp only [List.map_toArray, List.map_cons, List.map_nil]); first | done | rfl | (simp only [List.length_drop, List.length_take]; rfl)) ?_; (with_reducible refine (gueriteref03_Holds.calls kj4 a0_2 a0_3 a3_0 false _ A73.out).mono ?_); rintro e w86 ⟨rfl, hb⟩; refine ⟨_, rfl, ?_⟩; have n0_ := Aside0.mk (blk_below (g := gb271) (o := .cells #[.int .i64 a0_0, .int .i64 a0_1, .int .u32 a0_2, .int .i64 a0_3, .int .u32 a0_4, .int .i64 a0_5, .int .i64 a0_6, .int .i64 a0_7, .int .i64 a0_8, .int .i64 a0_9, .int .i64 a0_10, .bool a0_11] 42 (0, 0)) (by (with_reducible repeat (first | refine blk_drewN ?_ _ | refine blk_drew ?_ | refine blk_alloc ?_ _)); exact BK271.out) hb); have n1_ := Aside0.mk (blk_below (g := gb272) (o := .cells #[.int .u32 a3_0, .int .u32 a3_1, .int .i64 a3_2, .int .i64 a3_3, .int .i64 a3_4] 44 (0, 0)) (by (with_reducible repeat (first | refine blk_drewN ?_ _ | refine blk_drew ?_ | refine blk_alloc ?_ _)); exact BK272.out) hb); have n2_ := Aside0.mk (below_step (by repeat (first | (with_reducible first | exact HB.out | apply below_alloc | apply pw_below_drewN | apply below_drew1 | refine below_set ?_ GE271.out | refine below_set ?_ GE272.out) | exact HB.out)) hb); clear BK271; clear BK272; clear HB; have BK271 := n0_; have BK272 := n1_; have HB := n2_; clear n0_ n1_ n2_; (try clear hb); (try clear hb2); (try clear hk); (try clear hi)))
            go_meet
            case rel => exact ⟨_, (true), (by first | rfl | (simp; done) | (simp [*]; done)), H', ⟨by have := HJ4.out; first | omega | exact Nat.le_refl _⟩, ⟨by (with_reducible repeat (first | refine blk_drewN ?_ _ | refine blk_drew ?_ | refine blk_alloc ?_ _)); exact BK271.out⟩, ⟨by (with_reducible repeat (first | refine blk_drewN ?_ _ | refine blk_drew ?_ | refine blk_alloc ?_ _)); exact BK272.out⟩, ⟨by repeat (first | (with_reducible first | exact HB.out | apply below_alloc | apply pw_below_drewN | apply below_drew1 | refine below_set ?_ GE271.out | refine below_set ?_ GE272.out) | exact HB.out)⟩⟩
        case rest =>
          clear HC72
          try clear p2
          try clear c3
          try clear c7
          try clear c8
          try clear c30
          try clear c71
          try clear c74
          try clear c76
          try clear c83
          try clear hcz37_8
          try clear hcz37_9
          try clear hcz39_0
          try clear hcz39_1
          try clear hcz39_10
          try clear hcz39_11
          try clear hcz39_2
          try clear hcz39_3
          try clear hcz39_4
          try clear hcz39_5
          try clear hcz39_6
          try clear hcz39_7
          try clear hcz39_8
          try clear hcz39_9
          try clear hcz41_0
          try clear hcz41_1
          try clear hcz41_10
          try clear hcz41_11
          try clear hcz41_2
          try clear hcz41_3
          try clear hcz41_4
          try clear hcz41_5
          try clear hcz41_6
          try clear hcz41_7
          try clear hcz41_8
          try clear hcz41_9
          try clear hcz46_0
          try clear hcz46_1
          try clear hcz46_10
          try clear hcz46_11
          try clear hcz46_2
          try clear hcz46_3
          try clear hcz46_4
          try clear hcz46_5
          try clear hcz46_6
          try clear hcz46_7
          try clear hcz46_8
          try clear hcz46_9
          try clear hcz48_0
          try clear hcz48_1
          try clear hcz48_10
          try clear hcz48_11
          try clear hcz48_2
          try clear hcz48_3
          try clear hcz48_4
          try clear hcz48_5
          try clear hcz48_6
          try clear hcz48_7
          try clear hcz48_8
          try clear hcz48_9
          try clear hcz49_0
          try clear hcz49_1
          try clear hcz49_2
          try clear hcz49_3
          try clear hcz49_4
          try clear hcz51_0
          try clear hcz51_1
          try clear hcz51_10
          try clear hcz51_11
          try clear hcz51_2
          try clear hcz51_3
          try clear hcz51_4
          try clear hcz51_5
          try clear hcz51_6
          try clear hcz51_7
          try clear hcz51_8
          try clear hcz51_9
          try clear hcz53_0
          try clear hcz53_1
          try clear hcz53_10
          try clear hcz53_11
          try clear hcz53_2
          try clear hcz53_3
          try clear hcz53_4
          try clear hcz53_5
          try clear hcz53_6
          try clear hcz53_7
          try clear hcz53_8
          try clear hcz53_9
          try clear hcz55_0
          try clear hcz55_1
          try clear hcz55_10
          try clear hcz55_11
          try clear hcz55_2
          try clear hcz55_3
          try clear hcz55_4
          try clear hcz55_5
          try clear hcz55_6
          try clear hcz55_7
          try clear hcz55_8
          try clear hcz55_9
          try clear hcz57_0
          try clear hcz57_1
          try clear hcz57_10
          try clear hcz57_11
          try clear hcz57_2
          try clear hcz57_3
          try clear hcz57_4
          try clear hcz57_5
          try clear hcz57_6
          try clear hcz57_7
          try clear hcz57_8
          try clear hcz57_9
          try clear hcz60_0
          try clear hcz60_1
          try clear hcz60_10
          try clear hcz60_11
          try clear hcz60_2
          try clear hcz60_3
          try clear hcz60_4
          try clear hcz60_5
          try clear hcz60_6
          try clear hcz60_7
          try clear hcz60_8
          try clear hcz60_9
          try clear hcz62_0
          try clear hcz62_1
          try clear hcz62_10
          try clear hcz62_11
          try clear hcz62_2
          try clear hcz62_3
          try clear hcz62_4
          try clear hcz62_5
          try clear hcz62_6
          try clear hcz62_7
          try clear hcz62_8
          try clear hcz62_9
          try clear hcz63_0
          try clear hcz63_1
          try clear hcz63_2
          try clear hcz63_3
          try clear hcz63_4
          try clear hcz65_0
          try clear hcz65_1
          try clear hcz65_10
          try clear hcz65_11
          try clear hcz65_2
          try clear hcz65_3
          try clear hcz65_4
          try clear hcz65_5
          try clear hcz65_6
          try clear hcz65_7
          try clear hcz65_8
          try clear hcz65_9
          try clear hcz67_0
          try clear hcz67_1
          try clear hcz67_10
          try clear hcz67_11
          try clear hcz67_2
          try clear hcz67_3
          try clear hcz67_4
          try clear hcz67_5
          try clear hcz67_6
          try clear hcz67_7
          try clear hcz67_8
          try clear hcz67_9
          try clear hcz69_0
          try clear hcz69_1
          try clear hcz69_10
          try clear hcz69_11
          try clear hcz69_2
          try clear hcz69_3
          try clear hcz69_4
          try clear hcz69_5
          try clear hcz69_6
          try clear hcz69_7
          try clear hcz69_8
          try clear hcz69_9
          try clear hcz77_0
          try clear hcz77_1
          try clear hcz77_10
          try clear hcz77_11
          try clear hcz77_2
          try clear hcz77_3
          try clear hcz77_4
          try clear hcz77_5
          try clear hcz77_6
          try clear hcz77_7
          try clear hcz77_8
          try clear hcz77_9
          try clear hcz78_0
          try clear hcz78_1
          try clear hcz78_2
          try clear hcz78_3
          try clear hcz78_4
          try clear hcz80_0
          try clear hcz80_1
          try clear hcz80_10
          try clear hcz80_11
          try clear hcz80_2
          try clear hcz80_3
          try clear hcz80_4
          try clear hcz80_5
          try clear hcz80_6
          try clear hcz80_7
          try clear hcz80_8
          try clear hcz80_9
          try clear hcz81_0
          try clear hcz81_1
          try clear hcz81_2
          try clear hcz81_3
          try clear hcz81_4
          try clear hcz84_0
          try clear hcz84_1
          try clear hcz84_10
          try clear hcz84_11
          try clear hcz84_2
          try clear hcz84_3
          try clear hcz84_4
          try clear hcz84_5
          try clear hcz84_6
          try clear hcz84_7
          try clear hcz84_8
          try clear hcz84_9
          try clear hcz85_0
          try clear hcz85_1
          try clear hcz85_2
          try clear hcz85_3
          try clear hcz85_4
          try clear hfz16_0
          try clear hfz16_1
          try clear hfz16_10
          try clear hfz16_11
          try clear hfz16_2
          try clear hfz16_3
          try clear hfz16_4
          try clear hfz16_5
          try clear hfz16_6
          try clear hfz16_7
          try clear hfz16_8
          try clear hfz16_9
          try clear hfz18_0
          try clear hfz18_1
          try clear hfz18_10
          try clear hfz18_11
          try clear hfz18_2
          try clear hfz18_3
          try clear hfz18_4
          try clear hfz18_5
          try clear hfz18_6
          try clear hfz18_7
          try clear hfz18_8
          try clear hfz18_9
          try clear hfz19_0
          try clear hfz19_1
          try clear hfz19_2
          try clear hfz19_3
          try clear hfz19_4
          try clear hfz21_0
          try clear hfz21_1
          try clear hfz21_10
          try clear hfz21_11
          try clear hfz21_2
          try clear hfz21_3
          try clear hfz21_4
          try clear hfz21_5
          try clear hfz21_6
          try clear hfz21_7
          try clear hfz21_8
          try clear hfz21_9
          try clear hfz23_0
          try clear hfz23_1
          try clear hfz23_10
          try clear hfz23_11
          try clear hfz23_2
          try clear hfz23_3
          try clear hfz23_4
          try clear hfz23_5
          try clear hfz23_6
          try clear hfz23_7
          try clear hfz23_8
          try clear hfz23_9
          try clear hfz25_0
          try clear hfz25_1
          try clear hfz25_10
          try clear hfz25_11
          try clear hfz25_2
          try clear hfz25_3
          try clear hfz25_4
          try clear hfz25_5
          try clear hfz25_6
          try clear hfz25_7
          try clear hfz25_8
          try clear hfz25_9
          try clear hfz27_0
          try clear hfz27_1
          try clear hfz27_10
          try clear hfz27_11
          try clear hfz27_2
          try clear hfz27_3
          try clear hfz27_4
          try clear hfz27_5
          try clear hfz27_6
          try clear hfz27_7
          try clear hfz27_8
          try clear hfz27_9
          try clear hfz30_0
          try clear hfz30_1
          try clear hfz30_10
          try clear hfz30_11
          try clear hfz30_2
          try clear hfz30_3
          try clear hfz30_4
          try clear hfz30_5
          try clear hfz30_6
          try clear hfz30_7
          try clear hfz30_8
          try clear hfz30_9
          try clear hfz32_0
          try clear hfz32_1
          try clear hfz32_10
          try clear hfz32_11
          try clear hfz32_2
          try clear hfz32_3
          try clear hfz32_4
          try clear hfz32_5
          try clear hfz32_6
          try clear hfz32_7
          try clear hfz32_8
          try clear hfz32_9
          try clear hfz33_0
          try clear hfz33_1
          try clear hfz33_2
          try clear hfz33_3
          try clear hfz33_4
          try clear hfz35_0
          try clear hfz35_1
          try clear hfz35_10
          try clear hfz35_11
          try clear hfz35_2
          try clear hfz35_3
          try clear hfz35_4
          try clear hfz35_5
          try clear hfz35_6
          try clear hfz35_7
          try clear hfz35_8
          try clear hfz35_9
          try clear hfz37_0
          try clear hfz37_1
          try clear hfz37_10
          try clear hfz37_11
          try clear hfz37_2
          try clear hfz37_3
          try clear hfz37_4
          try clear hfz37_5
          try clear hfz37_6
          try clear hfz37_7
          try clear hfz37_8
          try clear hfz37_9
          try clear hfz39_0
          try clear hfz39_1
          try clear hfz39_10
          try clear hfz39_11
          try clear hfz39_2
          try clear hfz39_3
          try clear hfz39_4
          try clear hfz39_5
          try clear hfz39_6
          try clear hfz39_7
          try clear hfz39_8
          try clear hfz39_9
          try clear hfz41_0
          try clear hfz41_1
          try clear hfz41_10
          try clear hfz41_11
          try clear hfz41_2
          try clear hfz41_3
          try clear hfz41_4
          try clear hfz41_5
          try clear hfz41_6
          try clear hfz41_7
          try clear hfz41_8
          try clear hfz41_9
          try clear hfz46_0
          try clear hfz46_1
          try clear hfz46_10
          try clear hfz46_11
          try clear hfz46_2
          try clear hfz46_3
          try clear hfz46_4
          try clear hfz46_5
          try clear hfz46_6
          try clear hfz46_7
          try clear hfz46_8
          try clear hfz46_9
          try clear hfz48_0
          try clear hfz48_1
          try clear hfz48_10
          try clear hfz48_11
          try clear hfz48_2
          try clear hfz48_3
          try clear hfz48_4
          try clear hfz48_5
          try clear hfz48_6
          try clear hfz48_7
          try clear hfz48_8
          try clear hfz48_9
          try clear hfz49_0
          try clear hfz49_1
          try clear hfz49_2
          try clear hfz49_3
          try clear hfz49_4
          try clear hfz51_0
          try clear hfz51_1
          try clear hfz51_10
          try clear hfz51_11
          try clear hfz51_2
          try clear hfz51_3
          try clear hfz51_4
          try clear hfz51_5
          try clear hfz51_6
          try clear hfz51_7
          try clear hfz51_8
          try clear hfz51_9
          try clear hfz53_0
          try clear hfz53_1
          try clear hfz53_10
          try clear hfz53_11
          try clear hfz53_2
          try clear hfz53_3
          try clear hfz53_4
          try clear hfz53_5
          try clear hfz53_6
          try clear hfz53_7
          try clear hfz53_8
          try clear hfz53_9
          try clear hfz55_0
          try clear hfz55_1
          try clear hfz55_10
          try clear hfz55_11
          try clear hfz55_2
          try clear hfz55_3
          try clear hfz55_4
          try clear hfz55_5
          try clear hfz55_6
          try clear hfz55_7
          try clear hfz55_8
          try clear hfz55_9
          try clear hfz57_0
          try clear hfz57_1
          try clear hfz57_10
          try clear hfz57_11
          try clear hfz57_2
          try clear hfz57_3
          try clear hfz57_4
          try clear hfz57_5
          try clear hfz57_6
          try clear hfz57_7
          try clear hfz57_8
          try clear hfz57_9
          try clear hfz60_0
          try clear hfz60_1
          try clear hfz60_10
          try clear hfz60_11
          try clear hfz60_2
          try clear hfz60_3
          try clear hfz60_4
          try clear hfz60_5
          try clear hfz60_6
          try clear hfz60_7
          try clear hfz60_8
          try clear hfz60_9
          try clear hfz62_0
          try clear hfz62_1
          try clear hfz62_10
          try clear hfz62_11
          try clear hfz62_2
          try clear hfz62_3
          try clear hfz62_4
          try clear hfz62_5
          try clear hfz62_6
          try clear hfz62_7
          try clear hfz62_8
          try clear hfz62_9
          try clear hfz63_0
          try clear hfz63_1
          try clear hfz63_2
          try clear hfz63_3
          try clear hfz63_4
          try clear hfz65_0
          try clear hfz65_1
          try clear hfz65_10
          try clear hfz65_11
          try clear hfz65_2
          try clear hfz65_3
          try clear hfz65_4
          try clear hfz65_5
          try clear hfz65_6
          try clear hfz65_7
          try clear hfz65_8
          try clear hfz65_9
          try clear hfz67_0
          try clear hfz67_1
          try clear hfz67_10
          try clear hfz67_11
          try clear hfz67_2
          try clear hfz67_3
          try clear hfz67_4
          try clear hfz67_5
          try clear hfz67_6
          try clear hfz67_7
          try clear hfz67_8
          try clear hfz67_9
          try clear hfz69_0
          try clear hfz69_1
          try clear hfz69_10
          try clear hfz69_11
          try clear hfz69_2
          try clear hfz69_3
          try clear hfz69_4
          try clear hfz69_5
          try clear hfz69_6
          try clear hfz69_7
          try clear hfz69_8
          try clear hfz69_9
          try clear hfz77_0
          try clear hfz77_1
          try clear hfz77_10
          try clear hfz77_11
          try clear hfz77_2
          try clear hfz77_3
          try clear hfz77_4
          try clear hfz77_5
          try clear hfz77_6
          try clear hfz77_7
          try clear hfz77_8
          try clear hfz77_9
          try clear hfz78_0
          try clear hfz78_1
          try clear hfz78_2
          try clear hfz78_3
          try clear hfz78_4
          try clear hfz80_0
          try clear hfz80_1
          try clear hfz80_10
          try clear hfz80_11
          try clear hfz80_2
          try clear hfz80_3
          try clear hfz80_4
          try clear hfz80_5
          try clear hfz80_6
          try clear hfz80_7
          try clear hfz80_8
          try clear hfz80_9
          try clear hfz81_0
          try clear hfz81_1
          try clear hfz81_2
          try clear hfz81_3
          try clear hfz81_4
          try clear hfz84_0
          try clear hfz84_1
          try clear hfz84_10
          try clear hfz84_11
          try clear hfz84_2
          try clear hfz84_3
          try clear hfz84_4
          try clear hfz84_5
          try clear hfz84_6
          try clear hfz84_7
          try clear hfz84_8
          try clear hfz84_9
          try clear hfz85_0
          try clear hfz85_1
          try clear hfz85_2
          try clear hfz85_3
          try clear hfz85_4
          obtain ⟨kq, x59_71, rfl, HA, HJ71, BK271, BK272, HB⟩ := hcut
          cases kq with
          | zero => exact absurd HA.out (by simp [gueriteref15_Matches.j1])
          | succ kj71 =>
            have H := HA.out
            clear HA
            simp only [gueriteref15_Matches.j1] at H
            by_cases c87 : x59_71 = true
            · subst c87
              have H1 : (some false) = some r := by rw [if_pos rfl] at H; exact H
              clear H
              have H := H1
              clear H1
              obtain rfl := Option.some.inj H
              go_wp2
              go_ret
              exact ⟨by first | rfl | (simp [errW_none, errW_some] <;> rfl) | (simp [*, errW_none, errW_some] <;> rfl), by repeat (first | (with_reducible first | exact HB.out | apply below_alloc | apply pw_below_drewN | apply below_drew1 | refine below_set ?_ GE271.out | refine below_set ?_ GE272.out) | exact HB.out)⟩
            · replace c87 := Bool.eq_false_iff.mpr c87
              subst c87
              have H1 : (if a3_2 = 6 then (gueriteref15_Matches.j2 kj71 false a0_0 a0_1 a0_2 a0_3 a0_4 a0_5 a0_6 a0_7 a0_8 a0_9 a0_10 a0_11 a3_0 a3_1 a3_2 a3_3 a3_4) else (if a3_2 = 17 then (gueriteref15_Matches.j2 kj71 false a0_0 a0_1 a0_2 a0_3 a0_4 a0_5 a0_6 a0_7 a0_8 a0_9 a0_10 a0_11 a3_0 a3_1 a3_2 a3_3 a3_4) else (gueriteref15_Matches.j2 kj71 (a3_2 != 1) a0_0 a0_1 a0_2 a0_3 a0_4 a0_5 a0_6 a0_7 a0_8 a0_9 a0_10 a0_11 a3_0 a3_1 a3_2 a3_3 a3_4))) = some r := by rw [if_neg (show ¬ (false = true) by decide)] at H; exact H
              clear H
              have H := H1
              clear H1
              have HC88 := Aside0.mk H
              clear H
              go_upto_region 5 with (fail)
              go_cut [72] (fun v72 wc => ∃ (kq : Nat) (x72_87 : Bool), v72 = .bool x72_87 ∧ Aside0 (gueriteref15_Matches.j2 kq x72_87 a0_0 a0_1 a0_2 a0_3 a0_4 a0_5 a0_6 a0_7 a0_8 a0_9 a0_10 a0_11 a3_0 a3_1 a3_2 a3_3 a3_4 = some r) ∧ Aside0 (kq ≤ kj71) ∧ Aside0 (wc.heap[gb271]? = some (.cells #[.int .i64 a0_0, .int .i64 a0_1, .int .u32 a0_2, .int .i64 a0_3, .int .u32 a0_4, .int .i64 a0_5, .int .i64 a0_6, .int .i64 a0_7, .int .i64 a0_8, .int .i64 a0_9, .int .i64 a0_10, .bool a0_11] 42 (0, 0))) ∧ Aside0 (wc.heap[gb272]? = some (.cells #[.int .u32 a3_0, .int .u32 a3_1, .int .i64 a3_2, .int .i64 a3_3, .int .i64 a3_4] 44 (0, 0))) ∧ Aside0 (Below w.heap.size w wc))
              case first =>
                have H := HC88.out
                clear HC88
                by_cases c89 : a3_2 = 6
                · rw [if_pos c89] at H
                  have c89b0 : (a3_2 == 6) = true := beq_iff_eq.mpr c89
                  have c89b1 : (a3_2 != 6) = false := bne_eq_false_iff_eq.mpr c89
                  clear c89
                  (first | rw [c89b0] | (simp only [i64_w, i32_w]; rw [c89b0]) | skip)
                  have H' := Aside0.mk H
                  clear H
                  have hnb90 := NB272_271.out
                  have hnc90 := NB271_272.out
                  have hcz91_0 : wc.cell? ⟨gb272, 0, none⟩ = some (.int .u32 a3_0) := (blk_cell BK272.out 0).trans rfl
                  have hcz91_1 : wc.cell? ⟨gb272, 1, none⟩ = some (.int .u32 a3_1) := (blk_cell BK272.out 1).trans rfl
                  have hcz91_2 : wc.cell? ⟨gb272, 2, none⟩ = some (.int .i64 a3_2) := (blk_cell BK272.out 2).trans rfl
                  have hcz91_3 : wc.cell? ⟨gb272, 3, none⟩ = some (.int .i64 a3_3) := (blk_cell BK272.out 3).trans rfl
                  have hcz91_4 : wc.cell? ⟨gb272, 4, none⟩ = some (.int .i64 a3_4) := (blk_cell BK272.out 4).trans rfl
                  have hfz91_0 := blk_frozen BK272.out 0
                  have hfz91_1 := blk_frozen BK272.out 1
                  have hfz91_2 := blk_frozen BK272.out 2
                  have hfz91_3 := blk_frozen BK272.out 3
                  have hfz91_4 := blk_frozen BK272.out 4
                  go_wp2
                  go_meet
                  case rel => exact ⟨_, (false), (by first | rfl | (simp; done) | (simp [*]; done)), H', ⟨by have := HJ4.out; have := HJ71.out; first | omega | exact Nat.le_refl _⟩, ⟨by (with_reducible repeat (first | refine blk_drewN ?_ _ | refine blk_drew ?_ | refine blk_alloc ?_ _)); exact BK271.out⟩, ⟨by (with_reducible repeat (first | refine blk_drewN ?_ _ | refine blk_drew ?_ | refine blk_alloc ?_ _)); exact BK272.out⟩, ⟨by repeat (first | (with_reducible first | exact HB.out | apply below_alloc | apply pw_below_drewN | apply below_drew1 | refine below_set ?_ GE271.out | refine below_set ?_ GE272.out) | exact HB.out)⟩⟩
                · rw [if_neg c89] at H
                  have c89b0 : (a3_2 == 6) = false := beq_eq_false_iff_ne.mpr c89
                  have c89b1 : (a3_2 != 6) = true := bne_iff_ne.mpr c89
                  (first | rw [c89b0] | (simp only [i64_w, i32_w]; rw [c89b0]) | skip)
                  by_cases c92 : a3_2 = 17
                  · rw [if_pos c92] at H
                    have c92b0 : (a3_2 == 17) = true := beq_iff_eq.mpr c92
                    have c92b1 : (a3_2 != 17) = false := bne_eq_false_iff_eq.mpr c92
                    clear c92
                    have H' := Aside0.mk H
                    clear H
                    have hnb93 := NB272_271.out
                    have hnc93 := NB271_272.out
                    have hcz94_0 : wc.cell? ⟨gb272, 0, none⟩ = some (.int .u32 a3_0) := (blk_cell BK272.out 0).trans rfl
                    have hcz94_1 : wc.cell? ⟨gb272, 1, none⟩ = some (.int .u32 a3_1) := (blk_cell BK272.out 1).trans rfl
                    have hcz94_2 : wc.cell? ⟨gb272, 2, none⟩ = some (.int .i64 a3_2) := (blk_cell BK272.out 2).trans rfl
                    have hcz94_3 : wc.cell? ⟨gb272, 3, none⟩ = some (.int .i64 a3_3) := (blk_cell BK272.out 3).trans rfl
                    have hcz94_4 : wc.cell? ⟨gb272, 4, none⟩ = some (.int .i64 a3_4) := (blk_cell BK272.out 4).trans rfl
                    have hfz94_0 := blk_frozen BK272.out 0
                    have hfz94_1 := blk_frozen BK272.out 1
                    have hfz94_2 := blk_frozen BK272.out 2
                    have hfz94_3 := blk_frozen BK272.out 3
                    have hfz94_4 := blk_frozen BK272.out 4
                    go_wp2
                    go_meet
                    case rel => exact ⟨_, (false), (by first | rfl | (simp; done) | (simp [*]; done)), H', ⟨by have := HJ4.out; have := HJ71.out; first | omega | exact Nat.le_refl _⟩, ⟨by (with_reducible repeat (first | refine blk_drewN ?_ _ | refine blk_drew ?_ | refine blk_alloc ?_ _)); exact BK271.out⟩, ⟨by (with_reducible repeat (first | refine blk_drewN ?_ _ | refine blk_drew ?_ | refine blk_alloc ?_ _)); exact BK272.out⟩, ⟨by repeat (first | (with_reducible first | exact HB.out | apply below_alloc | apply pw_below_drewN | apply below_drew1 | refine below_set ?_ GE271.out | refine below_set ?_ GE272.out) | exact HB.out)⟩⟩
                  · rw [if_neg c92] at H
                    have c92b0 : (a3_2 == 17) = false := beq_eq_false_iff_ne.mpr c92
                    have c92b1 : (a3_2 != 17) = true := bne_iff_ne.mpr c92
                    have H' := Aside0.mk H
                    clear H
                    have hnb95 := NB272_271.out
                    have hnc95 := NB271_272.out
                    have hcz96_0 : wc.cell? ⟨gb272, 0, none⟩ = some (.int .u32 a3_0) := (blk_cell BK272.out 0).trans rfl
                    have hcz96_1 : wc.cell? ⟨gb272, 1, none⟩ = some (.int .u32 a3_1) := (blk_cell BK272.out 1).trans rfl
                    have hcz96_2 : wc.cell? ⟨gb272, 2, none⟩ = some (.int .i64 a3_2) := (blk_cell BK272.out 2).trans rfl
                    have hcz96_3 : wc.cell? ⟨gb272, 3, none⟩ = some (.int .i64 a3_3) := (blk_cell BK272.out 3).trans rfl
                    have hcz96_4 : wc.cell? ⟨gb272, 4, none⟩ = some (.int .i64 a3_4) := (blk_cell BK272.out 4).trans rfl
                    have hfz96_0 := blk_frozen BK272.out 0
                    have hfz96_1 := blk_frozen BK272.out 1
                    have hfz96_2 := blk_frozen BK272.out 2
                    have hfz96_3 := blk_frozen BK272.out 3
                    have hfz96_4 := blk_frozen BK272.out 4
                    go_wp2
                    go_meet
                    case rel => exact ⟨_, ((a3_2 != 1)), (by first | rfl | (simp; done) | (simp [*]; done)), H', ⟨by have := HJ4.out; have := HJ71.out; first | omega | exact Nat.le_refl _⟩, ⟨by (with_reducible repeat (first | refine blk_drewN ?_ _ | refine blk_drew ?_ | refine blk_alloc ?_ _)); exact BK271.out⟩, ⟨by (with_reducible repeat (first | refine blk_drewN ?_ _ | refine blk_drew ?_ | refine blk_alloc ?_ _)); exact BK272.out⟩, ⟨by repeat (first | (with_reducible first | exact HB.out | apply below_alloc | apply pw_below_drewN | apply below_drew1 | refine below_set ?_ GE271.out | refine below_set ?_ GE272.out) | exact HB.out)⟩⟩
              case rest =>
                clear HC88
                try clear p2
                try clear c8
                try clear c9
                try clear c87
                try clear c89
                try clear c89b0
                try clear c89b1
                try clear c90
                try clear c92
                try clear c92b0
                try clear c92b1
                try clear c93
                try clear c95
                try clear hcz53_0
                try clear hcz53_1
                try clear hcz53_10
                try clear hcz53_11
                try clear hcz53_2
                try clear hcz53_3
                try clear hcz53_4
                try clear hcz53_5
                try clear hcz53_6
                try clear hcz53_7
                try clear hcz53_8
                try clear hcz53_9
                try clear hcz55_0
                try clear hcz55_1
                try clear hcz55_10
                try clear hcz55_11
                try clear hcz55_2
                try clear hcz55_3
                try clear hcz55_4
                try clear hcz55_5
                try clear hcz55_6
                try clear hcz55_7
                try clear hcz55_8
                try clear hcz55_9
                try clear hcz57_0
                try clear hcz57_1
                try clear hcz57_10
                try clear hcz57_11
                try clear hcz57_2
                try clear hcz57_3
                try clear hcz57_4
                try clear hcz57_5
                try clear hcz57_6
                try clear hcz57_7
                try clear hcz57_8
                try clear hcz57_9
                try clear hcz60_0
                try clear hcz60_1
                try clear hcz60_10
                try clear hcz60_11
                try clear hcz60_2
                try clear hcz60_3
                try clear hcz60_4
                try clear hcz60_5
                try clear hcz60_6
                try clear hcz60_7
                try clear hcz60_8
                try clear hcz60_9
                try clear hcz62_0
                try clear hcz62_1
                try clear hcz62_10
                try clear hcz62_11
                try clear hcz62_2
                try clear hcz62_3
                try clear hcz62_4
                try clear hcz62_5
                try clear hcz62_6
                try clear hcz62_7
                try clear hcz62_8
                try clear hcz62_9
                try clear hcz63_0
                try clear hcz63_1
                try clear hcz63_2
                try clear hcz63_3
                try clear hcz63_4
                try clear hcz65_0
                try clear hcz65_1
                try clear hcz65_10
                try clear hcz65_11
                try clear hcz65_2
                try clear hcz65_3
                try clear hcz65_4
                try clear hcz65_5
                try clear hcz65_6
                try clear hcz65_7
                try clear hcz65_8
                try clear hcz65_9
                try clear hcz67_0
                try clear hcz67_1
                try clear hcz67_10
                try clear hcz67_11
                try clear hcz67_2
                try clear hcz67_3
                try clear hcz67_4
                try clear hcz67_5
                try clear hcz67_6
                try clear hcz67_7
                try clear hcz67_8
                try clear hcz67_9
                try clear hcz69_0
                try clear hcz69_1
                try clear hcz69_10
                try clear hcz69_11
                try clear hcz69_2
                try clear hcz69_3
                try clear hcz69_4
                try clear hcz69_5
                try clear hcz69_6
                try clear hcz69_7
                try clear hcz69_8
                try clear hcz69_9
                try clear hcz77_0
                try clear hcz77_1
                try clear hcz77_10
                try clear hcz77_11
                try clear hcz77_2
                try clear hcz77_3
                try clear hcz77_4
                try clear hcz77_5
                try clear hcz77_6
                try clear hcz77_7
                try clear hcz77_8
                try clear hcz77_9
                try clear hcz78_0
                try clear hcz78_1
                try clear hcz78_2
                try clear hcz78_3
                try clear hcz78_4
                try clear hcz80_0
                try clear hcz80_1
                try clear hcz80_10
                try clear hcz80_11
                try clear hcz80_2
                try clear hcz80_3
                try clear hcz80_4
                try clear hcz80_5
                try clear hcz80_6
                try clear hcz80_7
                try clear hcz80_8
                try clear hcz80_9
                try clear hcz81_0
                try clear hcz81_1
                try clear hcz81_2
                try clear hcz81_3
                try clear hcz81_4
                try clear hcz84_0
                try clear hcz84_1
                try clear hcz84_10
                try clear hcz84_11
                try clear hcz84_2
                try clear hcz84_3
                try clear hcz84_4
                try clear hcz84_5
                try clear hcz84_6
                try clear hcz84_7
                try clear hcz84_8
                try clear hcz84_9
                try clear hcz85_0
                try clear hcz85_1
                try clear hcz85_2
                try clear hcz85_3
                try clear hcz85_4
                try clear hcz91_0
                try clear hcz91_1
                try clear hcz91_2
                try clear hcz91_3
                try clear hcz91_4
                try clear hcz94_0
                try clear hcz94_1
                try clear hcz94_2
                try clear hcz94_3
                try clear hcz94_4
                try clear hcz96_0
                try clear hcz96_1
                try clear hcz96_2
                try clear hcz96_3
                try clear hcz96_4
                try clear hfz16_0
                try clear hfz16_1
                try clear hfz16_10
                try clear hfz16_11
                try clear hfz16_2
                try clear hfz16_3
                try clear hfz16_4
                try clear hfz16_5
                try clear hfz16_6
                try clear hfz16_7
                try clear hfz16_8
                try clear hfz16_9
                try clear hfz18_0
                try clear hfz18_1
                try clear hfz18_10
                try clear hfz18_11
                try clear hfz18_2
                try clear hfz18_3
                try clear hfz18_4
                try clear hfz18_5
                try clear hfz18_6
                try clear hfz18_7
                try clear hfz18_8
                try clear hfz18_9
                try clear hfz19_0
                try clear hfz19_1
                try clear hfz19_2
                try clear hfz19_3
                try clear hfz19_4
                try clear hfz21_0
                try clear hfz21_1
                try clear hfz21_10
                try clear hfz21_11
                try clear hfz21_2
                try clear hfz21_3
                try clear hfz21_4
                try clear hfz21_5
                try clear hfz21_6
                try clear hfz21_7
                try clear hfz21_8
                try clear hfz21_9
                try clear hfz23_0
                try clear hfz23_1
                try clear hfz23_10
                try clear hfz23_11
                try clear hfz23_2
                try clear hfz23_3
                try clear hfz23_4
                try clear hfz23_5
                try clear hfz23_6
                try clear hfz23_7
                try clear hfz23_8
                try clear hfz23_9
                try clear hfz25_0
                try clear hfz25_1
                try clear hfz25_10
                try clear hfz25_11
                try clear hfz25_2
                try clear hfz25_3
                try clear hfz25_4
                try clear hfz25_5
                try clear hfz25_6
                try clear hfz25_7
                try clear hfz25_8
                try clear hfz25_9
                try clear hfz27_0
                try clear hfz27_1
                try clear hfz27_10
                try clear hfz27_11
                try clear hfz27_2
                try clear hfz27_3
                try clear hfz27_4
                try clear hfz27_5
                try clear hfz27_6
                try clear hfz27_7
                try clear hfz27_8
                try clear hfz27_9
                try clear hfz30_0
                try clear hfz30_1
                try clear hfz30_10
                try clear hfz30_11
                try clear hfz30_2
                try clear hfz30_3
                try clear hfz30_4
                try clear hfz30_5
                try clear hfz30_6
                try clear hfz30_7
                try clear hfz30_8
                try clear hfz30_9
                try clear hfz32_0
                try clear hfz32_1
                try clear hfz32_10
                try clear hfz32_11
                try clear hfz32_2
                try clear hfz32_3
                try clear hfz32_4
                try clear hfz32_5
                try clear hfz32_6
                try clear hfz32_7
                try clear hfz32_8
                try clear hfz32_9
                try clear hfz33_0
                try clear hfz33_1
                try clear hfz33_2
                try clear hfz33_3
                try clear hfz33_4
                try clear hfz35_0
                try clear hfz35_1
                try clear hfz35_10
                try clear hfz35_11
                try clear hfz35_2
                try clear hfz35_3
                try clear hfz35_4
                try clear hfz35_5
                try clear hfz35_6
                try clear hfz35_7
                try clear hfz35_8
                try clear hfz35_9
                try clear hfz37_0
                try clear hfz37_1
                try clear hfz37_10
                try clear hfz37_11
                try clear hfz37_2
                try clear hfz37_3
                try clear hfz37_4
                try clear hfz37_5
                try clear hfz37_6
                try clear hfz37_7
                try clear hfz37_8
                try clear hfz37_9
                try clear hfz39_0
                try clear hfz39_1
                try clear hfz39_10
                try clear hfz39_11
                try clear hfz39_2
                try clear hfz39_3
                try clear hfz39_4
                try clear hfz39_5
                try clear hfz39_6
                try clear hfz39_7
                try clear hfz39_8
                try clear hfz39_9
                try clear hfz41_0
                try clear hfz41_1
                try clear hfz41_10
                try clear hfz41_11
                try clear hfz41_2
                try clear hfz41_3
                try clear hfz41_4
                try clear hfz41_5
                try clear hfz41_6
                try clear hfz41_7
                try clear hfz41_8
                try clear hfz41_9
                try clear hfz46_0
                try clear hfz46_1
                try clear hfz46_10
                try clear hfz46_11
                try clear hfz46_2
                try clear hfz46_3
                try clear hfz46_4
                try clear hfz46_5
                try clear hfz46_6
                try clear hfz46_7
                try clear hfz46_8
                try clear hfz46_9
                try clear hfz48_0
                try clear hfz48_1
                try clear hfz48_10
                try clear hfz48_11
                try clear hfz48_2
                try clear hfz48_3
                try clear hfz48_4
                try clear hfz48_5
                try clear hfz48_6
                try clear hfz48_7
                try clear hfz48_8
                try clear hfz48_9
                try clear hfz49_0
                try clear hfz49_1
                try clear hfz49_2
                try clear hfz49_3
                try clear hfz49_4
                try clear hfz51_0
                try clear hfz51_1
                try clear hfz51_10
                try clear hfz51_11
                try clear hfz51_2
                try clear hfz51_3
                try clear hfz51_4
                try clear hfz51_5
                try clear hfz51_6
                try clear hfz51_7
                try clear hfz51_8
                try clear hfz51_9
                try clear hfz53_0
                try clear hfz53_1
                try clear hfz53_10
                try clear hfz53_11
                try clear hfz53_2
                try clear hfz53_3
                try clear hfz53_4
                try clear hfz53_5
                try clear hfz53_6
                try clear hfz53_7
                try clear hfz53_8
                try clear hfz53_9
                try clear hfz55_0
                try clear hfz55_1
                try clear hfz55_10
                try clear hfz55_11
                try clear hfz55_2
                try clear hfz55_3
                try clear hfz55_4
                try clear hfz55_5
                try clear hfz55_6
                try clear hfz55_7
                try clear hfz55_8
                try clear hfz55_9
                try clear hfz57_0
                try clear hfz57_1
                try clear hfz57_10
                try clear hfz57_11
                try clear hfz57_2
                try clear hfz57_3
                try clear hfz57_4
                try clear hfz57_5
                try clear hfz57_6
                try clear hfz57_7
                try clear hfz57_8
                try clear hfz57_9
                try clear hfz60_0
                try clear hfz60_1
                try clear hfz60_10
                try clear hfz60_11
                try clear hfz60_2
                try clear hfz60_3
                try clear hfz60_4
                try clear hfz60_5
                try clear hfz60_6
                try clear hfz60_7
                try clear hfz60_8
                try clear hfz60_9
                try clear hfz62_0
                try clear hfz62_1
                try clear hfz62_10
                try clear hfz62_11
                try clear hfz62_2
                try clear hfz62_3
                try clear hfz62_4
                try clear hfz62_5
                try clear hfz62_6
                try clear hfz62_7
                try clear hfz62_8
                try clear hfz62_9
                try clear hfz63_0
                try clear hfz63_1
                try clear hfz63_2
                try clear hfz63_3
                try clear hfz63_4
                try clear hfz65_0
                try clear hfz65_1
                try clear hfz65_10
                try clear hfz65_11
                try clear hfz65_2
                try clear hfz65_3
                try clear hfz65_4
                try clear hfz65_5
                try clear hfz65_6
                try clear hfz65_7
                try clear hfz65_8
                try clear hfz65_9
                try clear hfz67_0
                try clear hfz67_1
                try clear hfz67_10
                try clear hfz67_11
                try clear hfz67_2
                try clear hfz67_3
                try clear hfz67_4
                try clear hfz67_5
                try clear hfz67_6
                try clear hfz67_7
                try clear hfz67_8
                try clear hfz67_9
                try clear hfz69_0
                try clear hfz69_1
                try clear hfz69_10
                try clear hfz69_11
                try clear hfz69_2
                try clear hfz69_3
                try clear hfz69_4
                try clear hfz69_5
                try clear hfz69_6
                try clear hfz69_7
                try clear hfz69_8
                try clear hfz69_9
                try clear hfz77_0
                try clear hfz77_1
                try clear hfz77_10
                try clear hfz77_11
                try clear hfz77_2
                try clear hfz77_3
                try clear hfz77_4
                try clear hfz77_5
                try clear hfz77_6
                try clear hfz77_7
                try clear hfz77_8
                try clear hfz77_9
                try clear hfz78_0
                try clear hfz78_1
                try clear hfz78_2
                try clear hfz78_3
                try clear hfz78_4
                try clear hfz80_0
                try clear hfz80_1
                try clear hfz80_10
                try clear hfz80_11
                try clear hfz80_2
                try clear hfz80_3
                try clear hfz80_4
                try clear hfz80_5
                try clear hfz80_6
                try clear hfz80_7
                try clear hfz80_8
                try clear hfz80_9
                try clear hfz81_0
                try clear hfz81_1
                try clear hfz81_2
                try clear hfz81_3
                try clear hfz81_4
                try clear hfz84_0
                try clear hfz84_1
                try clear hfz84_10
                try clear hfz84_11
                try clear hfz84_2
                try clear hfz84_3
                try clear hfz84_4
                try clear hfz84_5
                try clear hfz84_6
                try clear hfz84_7
                try clear hfz84_8
                try clear hfz84_9
                try clear hfz85_0
                try clear hfz85_1
                try clear hfz85_2
                try clear hfz85_3
                try clear hfz85_4
                try clear hfz91_0
                try clear hfz91_1
                try clear hfz91_2
                try clear hfz91_3
                try clear hfz91_4
                try clear hfz94_0
                try clear hfz94_1
                try clear hfz94_2
                try clear hfz94_3
                try clear hfz94_4
                try clear hfz96_0
                try clear hfz96_1
                try clear hfz96_2
                try clear hfz96_3
                try clear hfz96_4
                obtain ⟨kq, x72_87, rfl, HA, HJ87, BK271, BK272, HB⟩ := hcut
                cases kq with
                | zero => exact absurd HA.out (by simp [gueriteref15_Matches.j2])
                | succ kj87 =>
                  have H := HA.out
                  clear HA
                  simp only [gueriteref15_Matches.j2] at H
                  by_cases c97 : x72_87 = true
                  · subst c97
                    have H1 : (some true) = some r := by rw [if_pos rfl] at H; exact H
                    clear H
                    have H := H1
                    clear H1
                    obtain rfl := Option.some.inj H
                    go_wp2
                    go_ret
                    exact ⟨by first | rfl | (simp [errW_none, errW_some] <;> rfl) | (simp [*, errW_none, errW_some] <;> rfl), by repeat (first | (with_reducible first | exact HB.out | apply below_alloc | apply pw_below_drewN | apply below_drew1 | refine below_set ?_ GE271.out | refine below_set ?_ GE272.out) | exact HB.out)⟩
                  · replace c97 := Bool.eq_false_iff.mpr c97
                    subst c97
                    have H1 : (if a3_3 ≥ a0_7 then (if a3_3 ≤ a0_8 then (if a3_4 ≥ a0_9 then (some (decide (a3_4 ≤ a0_10))) else (some false)) else (some false)) else (some false)) = some r := by rw [if_neg (show ¬ (false = true) by decide)] at H; exact H
                    clear H
                    have H := H1
                    clear H1
                    by_cases c98 : a3_3 ≥ a0_7
                    · rw [if_pos c98] at H
                      have c98b0 : decide (a0_7 ≤ a3_3) = true := decide_eq_true c98
                      clear c98
                      by_cases c99 : a3_3 ≤ a0_8
                      · rw [if_pos c99] at H
                        have c99b0 : decide (a3_3 ≤ a0_8) = true := decide_eq_true c99
                        clear c99
                        by_cases c100 : a3_4 ≥ a0_9
                        · rw [if_pos c100] at H
                          have c100b0 : decide (a0_9 ≤ a3_4) = true := decide_eq_true c100
                          clear c100
                          obtain rfl := Option.some.inj H
                          have hnb101 := NB272_271.out
                          have hnc101 := NB271_272.out
                          have hcz102_0 : wc.cell? ⟨gb272, 0, none⟩ = some (.int .u32 a3_0) := (blk_cell BK272.out 0).trans rfl
                          have hcz102_1 : wc.cell? ⟨gb272, 1, none⟩ = some (.int .u32 a3_1) := (blk_cell BK272.out 1).trans rfl
                          have hcz102_2 : wc.cell? ⟨gb272, 2, none⟩ = some (.int .i64 a3_2) := (blk_cell BK272.out 2).trans rfl
                          have hcz102_3 : wc.cell? ⟨gb272, 3, none⟩ = some (.int .i64 a3_3) := (blk_cell BK272.out 3).trans rfl
                          have hcz102_4 : wc.cell? ⟨gb272, 4, none⟩ = some (.int .i64 a3_4) := (blk_cell BK272.out 4).trans rfl
                          have hfz102_0 := blk_frozen BK272.out 0
                          have hfz102_1 := blk_frozen BK272.out 1
                          have hfz102_2 := blk_frozen BK272.out 2
                          have hfz102_3 := blk_frozen BK272.out 3
                          have hfz102_4 := blk_frozen BK272.out 4
                          have hcz103_0 : wc.cell? ⟨gb271, 0, none⟩ = some (.int .i64 a0_0) := (blk_cell BK271.out 0).trans rfl
                          have hcz103_1 : wc.cell? ⟨gb271, 1, none⟩ = some (.int .i64 a0_1) := (blk_cell BK271.out 1).trans rfl
                          have hcz103_2 : wc.cell? ⟨gb271, 2, none⟩ = some (.int .u32 a0_2) := (blk_cell BK271.out 2).trans rfl
                          have hcz103_3 : wc.cell? ⟨gb271, 3, none⟩ = some (.int .i64 a0_3) := (blk_cell BK271.out 3).trans rfl
                          have hcz103_4 : wc.cell? ⟨gb271, 4, none⟩ = some (.int .u32 a0_4) := (blk_cell BK271.out 4).trans rfl
                          have hcz103_5 : wc.cell? ⟨gb271, 5, none⟩ = some (.int .i64 a0_5) := (blk_cell BK271.out 5).trans rfl
                          have hcz103_6 : wc.cell? ⟨gb271, 6, none⟩ = some (.int .i64 a0_6) := (blk_cell BK271.out 6).trans rfl
                          have hcz103_7 : wc.cell? ⟨gb271, 7, none⟩ = some (.int .i64 a0_7) := (blk_cell BK271.out 7).trans rfl
                          have hcz103_8 : wc.cell? ⟨gb271, 8, none⟩ = some (.int .i64 a0_8) := (blk_cell BK271.out 8).trans rfl
                          have hcz103_9 : wc.cell? ⟨gb271, 9, none⟩ = some (.int .i64 a0_9) := (blk_cell BK271.out 9).trans rfl
                          have hcz103_10 : wc.cell? ⟨gb271, 10, none⟩ = some (.int .i64 a0_10) := (blk_cell BK271.out 10).trans rfl
                          have hcz103_11 : wc.cell? ⟨gb271, 11, none⟩ = some (.bool a0_11) := (blk_cell BK271.out 11).trans rfl
                          have hfz103_0 := blk_frozen BK271.out 0
                          have hfz103_1 := blk_frozen BK271.out 1
                          have hfz103_2 := blk_frozen BK271.out 2
                          have hfz103_3 := blk_frozen BK271.out 3
                          have hfz103_4 := blk_frozen BK271.out 4
                          have hfz103_5 := blk_frozen BK271.out 5
                          have hfz103_6 := blk_frozen BK271.out 6
                          have hfz103_7 := blk_frozen BK271.out 7
                          have hfz103_8 := blk_frozen BK271.out 8
                          have hfz103_9 := blk_frozen BK271.out 9
                          have hfz103_10 := blk_frozen BK271.out 10
                          have hfz103_11 := blk_frozen BK271.out 11
                          go_wp2
                          go_ret
                          exact ⟨by first | rfl | (simp [errW_none, errW_some] <;> rfl) | (simp [*, errW_none, errW_some] <;> rfl), by repeat (first | (with_reducible first | exact HB.out | apply below_alloc | apply pw_below_drewN | apply below_drew1 | refine below_set ?_ GE271.out | refine below_set ?_ GE272.out) | exact HB.out)⟩
                        · rw [if_neg c100] at H
                          have c100b0 : decide (a0_9 ≤ a3_4) = false := decide_eq_false c100
                          clear c100
                          obtain rfl := Option.some.inj H
                          have hnb104 := NB272_271.out
                          have hnc104 := NB271_272.out
                          have hcz105_0 : wc.cell? ⟨gb272, 0, none⟩ = some (.int .u32 a3_0) := (blk_cell BK272.out 0).trans rfl
                          have hcz105_1 : wc.cell? ⟨gb272, 1, none⟩ = some (.int .u32 a3_1) := (blk_cell BK272.out 1).trans rfl
                          have hcz105_2 : wc.cell? ⟨gb272, 2, none⟩ = some (.int .i64 a3_2) := (blk_cell BK272.out 2).trans rfl
                          have hcz105_3 : wc.cell? ⟨gb272, 3, none⟩ = some (.int .i64 a3_3) := (blk_cell BK272.out 3).trans rfl
                          have hcz105_4 : wc.cell? ⟨gb272, 4, none⟩ = some (.int .i64 a3_4) := (blk_cell BK272.out 4).trans rfl
                          have hfz105_0 := blk_frozen BK272.out 0
                          have hfz105_1 := blk_frozen BK272.out 1
                          have hfz105_2 := blk_frozen BK272.out 2
                          have hfz105_3 := blk_frozen BK272.out 3
                          have hfz105_4 := blk_frozen BK272.out 4
                          have hcz106_0 : wc.cell? ⟨gb271, 0, none⟩ = some (.int .i64 a0_0) := (blk_cell BK271.out 0).trans rfl
                          have hcz106_1 : wc.cell? ⟨gb271, 1, none⟩ = some (.int .i64 a0_1) := (blk_cell BK271.out 1).trans rfl
                          have hcz106_2 : wc.cell? ⟨gb271, 2, none⟩ = some (.int .u32 a0_2) := (blk_cell BK271.out 2).trans rfl
                          have hcz106_3 : wc.cell? ⟨gb271, 3, none⟩ = some (.int .i64 a0_3) := (blk_cell BK271.out 3).trans rfl
                          have hcz106_4 : wc.cell? ⟨gb271, 4, none⟩ = some (.int .u32 a0_4) := (blk_cell BK271.out 4).trans rfl
                          have hcz106_5 : wc.cell? ⟨gb271, 5, none⟩ = some (.int .i64 a0_5) := (blk_cell BK271.out 5).trans rfl
                          have hcz106_6 : wc.cell? ⟨gb271, 6, none⟩ = some (.int .i64 a0_6) := (blk_cell BK271.out 6).trans rfl
                          have hcz106_7 : wc.cell? ⟨gb271, 7, none⟩ = some (.int .i64 a0_7) := (blk_cell BK271.out 7).trans rfl
                          have hcz106_8 : wc.cell? ⟨gb271, 8, none⟩ = some (.int .i64 a0_8) := (blk_cell BK271.out 8).trans rfl
                          have hcz106_9 : wc.cell? ⟨gb271, 9, none⟩ = some (.int .i64 a0_9) := (blk_cell BK271.out 9).trans rfl
                          have hcz106_10 : wc.cell? ⟨gb271, 10, none⟩ = some (.int .i64 a0_10) := (blk_cell BK271.out 10).trans rfl
                          have hcz106_11 : wc.cell? ⟨gb271, 11, none⟩ = some (.bool a0_11) := (blk_cell BK271.out 11).trans rfl
                          have hfz106_0 := blk_frozen BK271.out 0
                          have hfz106_1 := blk_frozen BK271.out 1
                          have hfz106_2 := blk_frozen BK271.out 2
                          have hfz106_3 := blk_frozen BK271.out 3
                          have hfz106_4 := blk_frozen BK271.out 4
                          have hfz106_5 := blk_frozen BK271.out 5
                          have hfz106_6 := blk_frozen BK271.out 6
                          have hfz106_7 := blk_frozen BK271.out 7
                          have hfz106_8 := blk_frozen BK271.out 8
                          have hfz106_9 := blk_frozen BK271.out 9
                          have hfz106_10 := blk_frozen BK271.out 10
                          have hfz106_11 := blk_frozen BK271.out 11
                          go_wp2
                          go_ret
                          exact ⟨by first | rfl | (simp [errW_none, errW_some] <;> rfl) | (simp [*, errW_none, errW_some] <;> rfl), by repeat (first | (with_reducible first | exact HB.out | apply below_alloc | apply pw_below_drewN | apply below_drew1 | refine below_set ?_ GE271.out | refine below_set ?_ GE272.out) | exact HB.out)⟩
                      · rw [if_neg c99] at H
                        have c99b0 : decide (a3_3 ≤ a0_8) = false := decide_eq_false c99
                        clear c99
                        obtain rfl := Option.some.inj H
                        have hnb107 := NB272_271.out
                        have hnc107 := NB271_272.out
                        have hcz108_0 : wc.cell? ⟨gb272, 0, none⟩ = some (.int .u32 a3_0) := (blk_cell BK272.out 0).trans rfl
                        have hcz108_1 : wc.cell? ⟨gb272, 1, none⟩ = some (.int .u32 a3_1) := (blk_cell BK272.out 1).trans rfl
                        have hcz108_2 : wc.cell? ⟨gb272, 2, none⟩ = some (.int .i64 a3_2) := (blk_cell BK272.out 2).trans rfl
                        have hcz108_3 : wc.cell? ⟨gb272, 3, none⟩ = some (.int .i64 a3_3) := (blk_cell BK272.out 3).trans rfl
                        have hcz108_4 : wc.cell? ⟨gb272, 4, none⟩ = some (.int .i64 a3_4) := (blk_cell BK272.out 4).trans rfl
                        have hfz108_0 := blk_frozen BK272.out 0
                        have hfz108_1 := blk_frozen BK272.out 1
                        have hfz108_2 := blk_frozen BK272.out 2
                        have hfz108_3 := blk_frozen BK272.out 3
                        have hfz108_4 := blk_frozen BK272.out 4
                        have hcz109_0 : wc.cell? ⟨gb271, 0, none⟩ = some (.int .i64 a0_0) := (blk_cell BK271.out 0).trans rfl
                        have hcz109_1 : wc.cell? ⟨gb271, 1, none⟩ = some (.int .i64 a0_1) := (blk_cell BK271.out 1).trans rfl
                        have hcz109_2 : wc.cell? ⟨gb271, 2, none⟩ = some (.int .u32 a0_2) := (blk_cell BK271.out 2).trans rfl
                        have hcz109_3 : wc.cell? ⟨gb271, 3, none⟩ = some (.int .i64 a0_3) := (blk_cell BK271.out 3).trans rfl
                        have hcz109_4 : wc.cell? ⟨gb271, 4, none⟩ = some (.int .u32 a0_4) := (blk_cell BK271.out 4).trans rfl
                        have hcz109_5 : wc.cell? ⟨gb271, 5, none⟩ = some (.int .i64 a0_5) := (blk_cell BK271.out 5).trans rfl
                        have hcz109_6 : wc.cell? ⟨gb271, 6, none⟩ = some (.int .i64 a0_6) := (blk_cell BK271.out 6).trans rfl
                        have hcz109_7 : wc.cell? ⟨gb271, 7, none⟩ = some (.int .i64 a0_7) := (blk_cell BK271.out 7).trans rfl
                        have hcz109_8 : wc.cell? ⟨gb271, 8, none⟩ = some (.int .i64 a0_8) := (blk_cell BK271.out 8).trans rfl
                        have hcz109_9 : wc.cell? ⟨gb271, 9, none⟩ = some (.int .i64 a0_9) := (blk_cell BK271.out 9).trans rfl
                        have hcz109_10 : wc.cell? ⟨gb271, 10, none⟩ = some (.int .i64 a0_10) := (blk_cell BK271.out 10).trans rfl
                        have hcz109_11 : wc.cell? ⟨gb271, 11, none⟩ = some (.bool a0_11) := (blk_cell BK271.out 11).trans rfl
                        have hfz109_0 := blk_frozen BK271.out 0
                        have hfz109_1 := blk_frozen BK271.out 1
                        have hfz109_2 := blk_frozen BK271.out 2
                        have hfz109_3 := blk_frozen BK271.out 3
                        have hfz109_4 := blk_frozen BK271.out 4
                        have hfz109_5 := blk_frozen BK271.out 5
                        have hfz109_6 := blk_frozen BK271.out 6
                        have hfz109_7 := blk_frozen BK271.out 7
                        have hfz109_8 := blk_frozen BK271.out 8
                        have hfz109_9 := blk_frozen BK271.out 9
                        have hfz109_10 := blk_frozen BK271.out 10
                        have hfz109_11 := blk_frozen BK271.out 11
                        go_wp2
                        go_ret
                        exact ⟨by first | rfl | (simp [errW_none, errW_some] <;> rfl) | (simp [*, errW_none, errW_some] <;> rfl), by repeat (first | (with_reducible first | exact HB.out | apply below_alloc | apply pw_below_drewN | apply below_drew1 | refine below_set ?_ GE271.out | refine below_set ?_ GE272.out) | exact HB.out)⟩
                    · rw [if_neg c98] at H
                      have c98b0 : decide (a0_7 ≤ a3_3) = false := decide_eq_false c98
                      clear c98
                      obtain rfl := Option.some.inj H
                      have hnb110 := NB272_271.out
                      have hnc110 := NB271_272.out
                      have hcz111_0 : wc.cell? ⟨gb272, 0, none⟩ = some (.int .u32 a3_0) := (blk_cell BK272.out 0).trans rfl
                      have hcz111_1 : wc.cell? ⟨gb272, 1, none⟩ = some (.int .u32 a3_1) := (blk_cell BK272.out 1).trans rfl
                      have hcz111_2 : wc.cell? ⟨gb272, 2, none⟩ = some (.int .i64 a3_2) := (blk_cell BK272.out 2).trans rfl
                      have hcz111_3 : wc.cell? ⟨gb272, 3, none⟩ = some (.int .i64 a3_3) := (blk_cell BK272.out 3).trans rfl
                      have hcz111_4 : wc.cell? ⟨gb272, 4, none⟩ = some (.int .i64 a3_4) := (blk_cell BK272.out 4).trans rfl
                      have hfz111_0 := blk_frozen BK272.out 0
                      have hfz111_1 := blk_frozen BK272.out 1
                      have hfz111_2 := blk_frozen BK272.out 2
                      have hfz111_3 := blk_frozen BK272.out 3
                      have hfz111_4 := blk_frozen BK272.out 4
                      have hcz112_0 : wc.cell? ⟨gb271, 0, none⟩ = some (.int .i64 a0_0) := (blk_cell BK271.out 0).trans rfl
                      have hcz112_1 : wc.cell? ⟨gb271, 1, none⟩ = some (.int .i64 a0_1) := (blk_cell BK271.out 1).trans rfl
                      have hcz112_2 : wc.cell? ⟨gb271, 2, none⟩ = some (.int .u32 a0_2) := (blk_cell BK271.out 2).trans rfl
                      have hcz112_3 : wc.cell? ⟨gb271, 3, none⟩ = some (.int .i64 a0_3) := (blk_cell BK271.out 3).trans rfl
                      have hcz112_4 : wc.cell? ⟨gb271, 4, none⟩ = some (.int .u32 a0_4) := (blk_cell BK271.out 4).trans rfl
                      have hcz112_5 : wc.cell? ⟨gb271, 5, none⟩ = some (.int .i64 a0_5) := (blk_cell BK271.out 5).trans rfl
                      have hcz112_6 : wc.cell? ⟨gb271, 6, none⟩ = some (.int .i64 a0_6) := (blk_cell BK271.out 6).trans rfl
                      have hcz112_7 : wc.cell? ⟨gb271, 7, none⟩ = some (.int .i64 a0_7) := (blk_cell BK271.out 7).trans rfl
                      have hcz112_8 : wc.cell? ⟨gb271, 8, none⟩ = some (.int .i64 a0_8) := (blk_cell BK271.out 8).trans rfl
                      have hcz112_9 : wc.cell? ⟨gb271, 9, none⟩ = some (.int .i64 a0_9) := (blk_cell BK271.out 9).trans rfl
                      have hcz112_10 : wc.cell? ⟨gb271, 10, none⟩ = some (.int .i64 a0_10) := (blk_cell BK271.out 10).trans rfl
                      have hcz112_11 : wc.cell? ⟨gb271, 11, none⟩ = some (.bool a0_11) := (blk_cell BK271.out 11).trans rfl
                      have hfz112_0 := blk_frozen BK271.out 0
                      have hfz112_1 := blk_frozen BK271.out 1
                      have hfz112_2 := blk_frozen BK271.out 2
                      have hfz112_3 := blk_frozen BK271.out 3
                      have hfz112_4 := blk_frozen BK271.out 4
                      have hfz112_5 := blk_frozen BK271.out 5
                      have hfz112_6 := blk_frozen BK271.out 6
                      have hfz112_7 := blk_frozen BK271.out 7
                      have hfz112_8 := blk_frozen BK271.out 8
                      have hfz112_9 := blk_frozen BK271.out 9
                      have hfz112_10 := blk_frozen BK271.out 10
                      have hfz112_11 := blk_frozen BK271.out 11
                      go_wp2
                      go_ret
                      exact ⟨by first | rfl | (simp [errW_none, errW_some] <;> rfl) | (simp [*, errW_none, errW_some] <;> rfl), by repeat (first | (with_reducible first | exact HB.out | apply below_alloc | apply pw_below_drewN | apply below_drew1 | refine below_set ?_ GE271.out | refine below_set ?_ GE272.out) | exact HB.out)⟩

end Go.Proofs.Ytakfnghakbjncaa.P
