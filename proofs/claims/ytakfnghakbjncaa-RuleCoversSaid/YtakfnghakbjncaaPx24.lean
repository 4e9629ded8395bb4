-- Written by a program of this session (xprint.py), over the kit's print; not trusted: Lean checks it.
import Derived.Test.YtakfnghakbjncaaPx0
import Derived.Test.YtakfnghakbjncaaPx18
import Derived.Test.YtakfnghakbjncaaPx23
namespace Go.Proofs.Ytakfnghakbjncaa.P
open Go.RowKit Go.Proofs.YtakfnghakbjncaaW.PrintWords Go.Proofs.YtakfnghakbjncaaW.PrintLast Go.Proofs.YtakfnghakbjncaaW.PrintMore
attribute [local go_sem] max2_int min2_int max_two min_two max_three min_three max_four min_four   -- for this text's walks alone
set_option linter.unusedVariables false
set_option linter.unusedSimpArgs false

/-! ### gueriteref15_Covers: function 28 -/
def gueriteref15_Covers.j0 : Nat → Bool → Int → Int → Int → Int → Int → Int → Int → Int → Int → Int → Int → Bool → Int → Int → Int → Int → Int → Int → Int → Int → Int → Int → Int → Bool → Option (Bool)
  | 0, _, _, _, _, _, _, _, _, _, _, _, _, _, _, _, _, _, _, _, _, _, _, _, _, _ => none
  | k + 1, x36, x320000, x320001, x320002, x320003, x320004, x320005, x320006, x320007, x320008, x320009, x320010, x320011, x321000, x321001, x321002, x321003, x321004, x321005, x321006, x321007, x321008, x321009, x321010, x321011 => if x36 = true then (some false) else ((gueriteref03_Within.f k x321002 x321003 x320002 x320003).bind fun t326 => (if t326 = true then ((gueriteref03_Within.f k x321004 x321005 x320004 x320005).bind fun t327 => (if t327 = true then (if x320007 ≤ x321007 then (if x320008 ≥ x321008 then (if x320009 ≤ x321009 then (some (decide (x320010 ≥ x321010))) else (some false)) else (some false)) else (some false)) else (some false))) else (some false)))
def gueriteref15_Covers.f (k : Nat) (a0_0 : Int) (a0_1 : Int) (a0_2 : Int) (a0_3 : Int) (a0_4 : Int) (a0_5 : Int) (a0_6 : Int) (a0_7 : Int) (a0_8 : Int) (a0_9 : Int) (a0_10 : Int) (a0_11 : Bool) (a1_0 : Int) (a1_1 : Int) (a1_2 : Int) (a1_3 : Int) (a1_4 : Int) (a1_5 : Int) (a1_6 : Int) (a1_7 : Int) (a1_8 : Int) (a1_9 : Int) (a1_10 : Int) (a1_11 : Bool) : Option (Bool) := (gueriteref15_Right.f k a0_0 a0_1 a0_2 a0_3 a0_4 a0_5 a0_6 a0_7 a0_8 a0_9 a0_10 a0_11).bind fun t321 => (if t321 = true then ((gueriteref15_Right.f k a1_0 a1_1 a1_2 a1_3 a1_4 a1_5 a1_6 a1_7 a1_8 a1_9 a1_10 a1_11).bind fun t322 => (if t322 = true then ((gueriteref15_wide.f a0_0 a1_0).bind fun t323 => (if t323 = true then ((gueriteref15_wide.f a0_1 a1_1).bind fun t324 => (if t324 = true then ((gueriteref15_wide.f a0_6 a1_6).bind fun t325 => (gueriteref15_Covers.j0 k (!t325) a0_0 a0_1 a0_2 a0_3 a0_4 a0_5 a0_6 a0_7 a0_8 a0_9 a0_10 a0_11 a1_0 a1_1 a1_2 a1_3 a1_4 a1_5 a1_6 a1_7 a1_8 a1_9 a1_10 a1_11)) else (gueriteref15_Covers.j0 k true a0_0 a0_1 a0_2 a0_3 a0_4 a0_5 a0_6 a0_7 a0_8 a0_9 a0_10 a0_11 a1_0 a1_1 a1_2 a1_3 a1_4 a1_5 a1_6 a1_7 a1_8 a1_9 a1_10 a1_11))) else (gueriteref15_Covers.j0 k true a0_0 a0_1 a0_2 a0_3 a0_4 a0_5 a0_6 a0_7 a0_8 a0_9 a0_10 a0_11 a1_0 a1_1 a1_2 a1_3 a1_4 a1_5 a1_6 a1_7 a1_8 a1_9 a1_10 a1_11))) else (gueriteref15_Covers.j0 k true a0_0 a0_1 a0_2 a0_3 a0_4 a0_5 a0_6 a0_7 a0_8 a0_9 a0_10 a0_11 a1_0 a1_1 a1_2 a1_3 a1_4 a1_5 a1_6 a1_7 a1_8 a1_9 a1_10 a1_11))) else (gueriteref15_Covers.j0 k true a0_0 a0_1 a0_2 a0_3 a0_4 a0_5 a0_6 a0_7 a0_8 a0_9 a0_10 a0_11 a1_0 a1_1 a1_2 a1_3 a1_4 a1_5 a1_6 a1_7 a1_8 a1_9 a1_10 a1_11))
theorem gueriteref15_Covers.mono_l : ∀ k, (∀ y0 y1 y2 y3 y4 y5 y6 y7 y8 y9 y10 y11 y12 y13 y14 y15 y16 y17 y18 y19 y20 y21 y22 y23 y24, LeO (gueriteref15_Covers.j0 k y0 y1 y2 y3 y4 y5 y6 y7 y8 y9 y10 y11 y12 y13 y14 y15 y16 y17 y18 y19 y20 y21 y22 y23 y24) (gueriteref15_Covers.j0 (k + 1) y0 y1 y2 y3 y4 y5 y6 y7 y8 y9 y10 y11 y12 y13 y14 y15 y16 y17 y18 y19 y20 y21 y22 y23 y24))
  | 0 => fun _ _ _ _ _ _ _ _ _ _ _ _ _ _ _ _ _ _ _ _ _ _ _ _ _ r h => by simp [gueriteref15_Covers.j0] at h
  | k + 1 => by
    have ih0 := gueriteref15_Covers.mono_l k
    · intro y0 y1 y2 y3 y4 y5 y6 y7 y8 y9 y10 y11 y12 y13 y14 y15 y16 y17 y18 y19 y20 y21 y22 y23 y24
      unfold gueriteref15_Covers.j0
      repeat' first
      | (with_reducible exact ih0 _ _ _ _ _ _ _ _ _ _ _ _ _ _ _ _ _ _ _ _ _ _ _ _ _)
      | (with_reducible exact gueriteref03_Within.mono _ _ _ _ _)
      | (with_reducible exact gueriteref15_Right.mono _ _ _ _ _ _ _ _ _ _ _ _ _)
      | (with_reducible exact LeO.refl _)
      | (with_reducible exact LeO.none _)
      | (with_reducible refine LeO.ite ?_ ?_)
      | (with_reducible refine LeO.bind ?_ (fun _ => ?_))
      | exact ih0 _ _ _ _ _ _ _ _ _ _ _ _ _ _ _ _ _ _ _ _ _ _ _ _ _
      | exact gueriteref03_Within.mono _ _ _ _ _
      | exact gueriteref15_Right.mono _ _ _ _ _ _ _ _ _ _ _ _ _
      | exact LeO.none _
      | refine LeO.ite ?_ ?_
      | refine LeO.bind ?_ (fun _ => ?_)
theorem gueriteref15_Covers.mono : ∀ a0 a1 a2 a3 a4 a5 a6 a7 a8 a9 a10 a11 a12 a13 a14 a15 a16 a17 a18 a19 a20 a21 a22 a23 k, LeO (gueriteref15_Covers.f k a0 a1 a2 a3 a4 a5 a6 a7 a8 a9 a10 a11 a12 a13 a14 a15 a16 a17 a18 a19 a20 a21 a22 a23) (gueriteref15_Covers.f (k + 1) a0 a1 a2 a3 a4 a5 a6 a7 a8 a9 a10 a11 a12 a13 a14 a15 a16 a17 a18 a19 a20 a21 a22 a23) := by
  intro a0 a1 a2 a3 a4 a5 a6 a7 a8 a9 a10 a11 a12 a13 a14 a15 a16 a17 a18 a19 a20 a21 a22 a23 k
  have ih0 := gueriteref15_Covers.mono_l k
  unfold gueriteref15_Covers.f
  repeat' first
      | (with_reducible exact ih0 _ _ _ _ _ _ _ _ _ _ _ _ _ _ _ _ _ _ _ _ _ _ _ _ _)
      | (with_reducible exact gueriteref03_Within.mono _ _ _ _ _)
      | (with_reducible exact gueriteref15_Right.mono _ _ _ _ _ _ _ _ _ _ _ _ _)
      | (with_reducible exact LeO.refl _)
      | (with_reducible exact LeO.none _)
      | (with_reducible refine LeO.ite ?_ ?_)
      | (with_reducible refine LeO.bind ?_ (fun _ => ?_))
      | exact ih0 _ _ _ _ _ _ _ _ _ _ _ _ _ _ _ _ _ _ _ _ _ _ _ _ _
      | exact gueriteref03_Within.mono _ _ _ _ _
      | exact gueriteref15_Right.mono _ _ _ _ _ _ _ _ _ _ _ _ _
      | exact LeO.none _
      | refine LeO.ite ?_ ?_
      | refine LeO.bind ?_ (fun _ => ?_)
set_option maxHeartbeats 8000000 in
set_option maxRecDepth 100000 in
theorem gueriteref15_Covers.calls (k : Nat) (a0_0 : Int) (a0_1 : Int) (a0_2 : Int) (a0_3 : Int) (a0_4 : Int) (a0_5 : Int) (a0_6 : Int) (a0_7 : Int) (a0_8 : Int) (a0_9 : Int) (a0_10 : Int) (a0_11 : Bool) (a1_0 : Int) (a1_1 : Int) (a1_2 : Int) (a1_3 : Int) (a1_4 : Int) (a1_5 : Int) (a1_6 : Int) (a1_7 : Int) (a1_8 : Int) (a1_9 : Int) (a1_10 : Int) (a1_11 : Bool) (r : Bool) (w : World) (h : gueriteref15_Covers.f k a0_0 a0_1 a0_2 a0_3 a0_4 a0_5 a0_6 a0_7 a0_8 a0_9 a0_10 a0_11 a1_0 a1_1 a1_2 a1_3 a1_4 a1_5 a1_6 a1_7 a1_8 a1_9 a1_10 a1_11 = some r) :
    Calls Try.prog 28 #[.agg #[.int .i64 a0_0, .int .i64 a0_1, .int .u32 a0_2, .int .i64 a0_3, .int .u32 a0_4, .int .i64 a0_5, .int .i64 a0_6, .int .i64 a0_7, .int .i64 a0_8, .int .i64 a0_9, .int .i64 a0_10, .bool a0_11], .agg #[.int .i64 a1_0, .int .i64 a1_1, .int .u32 a1_2, .int .i64 a1_3, .int .u32 a1_4, .int .i64 a1_5, .int .i64 a1_6, .int .i64 a1_7, .int .i64 a1_8, .int .i64 a1_9, .int .i64 a1_10, .bool a1_11]] w fun e w' => e = .returned (.bool r) ∧ Below w.heap.size w w' := by
  have hu42 := Try.underlying42
  have hu29 := Try.underlying29
  have HB := Aside0.mk (Below.refl w.heap.size w)
  have H : ((gueriteref15_Right.f k a0_0 a0_1 a0_2 a0_3 a0_4 a0_5 a0_6 a0_7 a0_8 a0_9 a0_10 a0_11).bind fun t321 => (if t321 = true then ((gueriteref15_Right.f k a1_0 a1_1 a1_2 a1_3 a1_4 a1_5 a1_6 a1_7 a1_8 a1_9 a1_10 a1_11).bind fun t322 => (if t322 = true then ((gueriteref15_wide.f a0_0 a1_0).bind fun t323 => (if t323 = true then ((gueriteref15_wide.f a0_1 a1_1).bind fun t324 => (if t324 = true then ((gueriteref15_wide.f a0_6 a1_6).bind fun t325 => (gueriteref15_Covers.j0 k (!t325) a0_0 a0_1 a0_2 a0_3 a0_4 a0_5 a0_6 a0_7 a0_8 a0_9 a0_10 a0_11 a1_0 a1_1 a1_2 a1_3 a1_4 a1_5 a1_6 a1_7 a1_8 a1_9 a1_10 a1_11)) else (gueriteref15_Covers.j0 k true a0_0 a0_1 a0_2 a0_3 a0_4 a0_5 a0_6 a0_7 a0_8 a0_9 a0_10 a0_11 a1_0 a1_1 a1_2 a1_3 a1_4 a1_5 a1_6 a1_7 a1_8 a1_9 a1_10 a1_11))) else (gueriteref15_Covers.j0 k true a0_0 a0_1 a0_2 a0_3 a0_4 a0_5 a0_6 a0_7 a0_8 a0_9 a0_10 a0_11 a1_0 a1_1 a1_2 a1_3 a1_4 a1_5 a1_6 a1_7 a1_8 a1_9 a1_10 a1_11))) else (gueriteref15_Covers.j0 k true a0_0 a0_1 a0_2 a0_3 a0_4 a0_5 a0_6 a0_7 a0_8 a0_9 a0_10 a0_11 a1_0 a1_1 a1_2 a1_3 a1_4 a1_5 a1_6 a1_7 a1_8 a1_9 a1_10 a1_11))) else (gueriteref15_Covers.j0 k true a0_0 a0_1 a0_2 a0_3 a0_4 a0_5 a0_6 a0_7 a0_8 a0_9 a0_10 a0_11 a1_0 a1_1 a1_2 a1_3 a1_4 a1_5 a1_6 a1_7 a1_8 a1_9 a1_10 a1_11))) = some r := h
  clear h
  have HC3 := Aside0.mk H
  clear H
  go_enter Try.func28, Try.ntmps28
  go_upto_region 1 with (first | ((with_reducible refine gate_dst (N := 2) rfl ?_); refine box_event ?hg (N := 2) ?hd (cs := #[.int .i64 a0_0, .int .i64 a0_1, .int .u32 a0_2, .int .i64 a0_3, .int .u32 a0_4, .int .i64 a0_5, .int .i64 a0_6, .int .i64 a0_7, .int .i64 a0_8, .int .i64 a0_9, .int .i64 a0_10, .bool a0_11]) (t := 42) ?hr ?_; (case hd => rfl); (case hg => rfl); (case hr => first | (go_simp; done) | (go_simp; rfl)); intro gb319 hg w4 hbox hb; have n0_ := Aside0.mk (below_step (by repeat (first | (with_reducible first | exact HB.out | apply below_alloc | apply pw_below_drewN | apply below_drew1) | exact HB.out)) hb); have n1_ := Aside0.mk (hbox); have n2_ := Aside0.mk ((by rw [hg]; exact (below_size (by repeat (first | (with_reducible first | exact HB.out | apply below_alloc | apply pw_below_drewN | apply below_drew1) | exact HB.out))) : w.heap.size ≤ gb319)); have n3_ := Aside0.mk ((by rw [hg]; exact (below_size (by repeat (first | (with_reducible first | exact HB.out | apply below_alloc | apply pw_below_drewN | apply below_drew1) | exact HB.out))) : w.heap.size ≤ gb319)); clear HB; have HB := n0_; have BK319 := n1_; have GW319 := n2_; have GE319 := n3_; clear n0_ n1_ n2_ n3_; clear hb hbox hg) | ((with_reducible refine gate_dst (N := 3) rfl ?_); refine box_event ?hg (N := 3) ?hd (cs := #[.int .i64 a1_0, .int .i64 a1_1, .int .u32 a1_2, .int .i64 a1_3, .int .u32 a1_4, .int .i64 a1_5, .int .i64 a1_6, .int .i64 a1_7, .int .i64 a1_8, .int .i64 a1_9, .int .i64 a1_10, .bool a1_11]) (t := 42) ?hr ?_; (case hd => rfl); (case hg => rfl); (case hr => first | (go_simp; done) | (go_simp; rfl)); intro gb320 hg w5 hbox hb; have n0_ := Aside0.mk (blk_below (g := gb319) (o := .cells #[.int .i64 a0_0, .int .i64 a0_1, .int .u32 a0_2, .int .i64 a0_3, .int .u32 a0_4, .int .i64 a0_5, .int .i64 a0_6, .int .i64 a0_7, .int .i64 a0_8, .int .i64 a0_9, .int .i64 a0_10, .bool a0_11] 42 (0, 0)) (by (with_reducible repeat (first | refine blk_drewN ?_ _ | refine blk_drew ?_ | refine blk_alloc ?_ _)); exact BK319.out) hb); have n1_ := Aside0.mk (below_step (by repeat (first | (with_reducible first | exact HB.out | apply below_alloc | apply pw_below_drewN | apply below_drew1 | refine below_set ?_ GE319.out) | exact HB.out)) hb); have n2_ := Aside0.mk (hbox); have n3_ := Aside0.mk ((by rw [hg]; exact (below_size (by repeat (first | (with_reducible first | exact HB.out | apply below_alloc | apply pw_below_drewN | apply below_drew1 | refine below_set ?_ GE319.out) | exact HB.out))) : w.heap.size ≤ gb320)); have n4_ := Aside0.mk ((by rw [hg]; exact (below_size (by repeat (first | (with_reducible first | exact HB.out | apply below_alloc | apply pw_below_drewN | apply below_drew1 | refine below_set ?_ GE319.out) | exact HB.out))) : w.heap.size ≤ gb320)); have n5_ := Aside0.mk ((by rw [hg]; exact Nat.ne_of_lt (blk_lt (g := gb319) (o := .cells #[.int .i64 a0_0, .int .i64 a0_1, .int .u32 a0_2, .int .i64 a0_3, .int .u32 a0_4, .int .i64 a0_5, .int .i64 a0_6, .int .i64 a0_7, .int .i64 a0_8, .int .i64 a0_9, .int .i64 a0_10, .bool a0_11] 42 (0, 0)) (by (with_reducible repeat (first | refine blk_drewN ?_ _ | refine blk_drew ?_ | refine blk_alloc ?_ _)); exact BK319.out)) : gb319 ≠ gb320)); have n6_ := Aside0.mk ((by rw [hg]; exact Nat.ne_of_gt (blk_lt (g := gb319) (o := .cells #[.int .i64 a0_0, .int .i64 a0_1, .int .u32 a0_2, .int .i64 a0_3, .int .u32 a0_4, .int .i64 a0_5, .int .i64 a0_6, .int .i64 a0_7, .int .i64 a0_8, .int .i64 a0_9, .int .i64 a0_10, .bool a0_11] 42 (0, 0)) (by (with_reducible repeat (first | refine blk_drewN ?_ _ | refine blk_drew ?_ | refine blk_alloc ?_ _)); exact BK319.out)) : gb320 ≠ gb319)); clear BK319; clear HB; have BK319 := n0_; have HB := n1_; have BK320 := n2_; have GW320 := n3_; have GE320 := n4_; have NB319_320 := n5_; have NB320_319 := n6_; clear n0_ n1_ n2_ n3_ n4_ n5_ n6_; clear hb hbox hg))
  (try simp only [Act.put, List.setIfInBounds_toArray, List.set_cons_zero, List.set_cons_succ])
  go_cut [36] (fun v36 wc => ∃ (kq : Nat) (x36_2 : Bool), v36 = .bool x36_2 ∧ Aside0 (gueriteref15_Covers.j0 kq x36_2 a0_0 a0_1 a0_2 a0_3 a0_4 a0_5 a0_6 a0_7 a0_8 a0_9 a0_10 a0_11 a1_0 a1_1 a1_2 a1_3 a1_4 a1_5 a1_6 a1_7 a1_8 a1_9 a1_10 a1_11 = some r) ∧ Aside0 (kq ≤ k) ∧ Aside0 (wc.heap[gb319]? = some (.cells #[.int .i64 a0_0, .int .i64 a0_1, .int .u32 a0_2, .int .i64 a0_3, .int .u32 a0_4, .int .i64 a0_5, .int .i64 a0_6, .int .i64 a0_7, .int .i64 a0_8, .int .i64 a0_9, .int .i64 a0_10, .bool a0_11] 42 (0, 0))) ∧ Aside0 (wc.heap[gb320]? = some (.cells #[.int .i64 a1_0, .int .i64 a1_1, .int .u32 a1_2, .int .i64 a1_3, .int .u32 a1_4, .int .i64 a1_5, .int .i64 a1_6, .int .i64 a1_7, .int .i64 a1_8, .int .i64 a1_9, .int .i64 a1_10, .bool a1_11] 42 (0, 0))) ∧ Aside0 (Below w.heap.size w wc))
  case first =>
    have H := HC3.out
    clear HC3
    replace H := Option.bind_eq_some_iff.mp H
    obtain ⟨t321, A60, H⟩ := H
    replace H : (if t321 = true then ((gueriteref15_Right.f k a1_0 a1_1 a1_2 a1_3 a1_4 a1_5 a1_6 a1_7 a1_8 a1_9 a1_10 a1_11).bind fun t322 => (if t322 = true then ((gueriteref15_wide.f a0_0 a1_0).bind fun t323 => (if t323 = true then ((gueriteref15_wide.f a0_1 a1_1).bind fun t324 => (if t324 = true then ((gueriteref15_wide.f a0_6 a1_6).bind fun t325 => (gueriteref15_Covers.j0 k (!t325) a0_0 a0_1 a0_2 a0_3 a0_4 a0_5 a0_6 a0_7 a0_8 a0_9 a0_10 a0_11 a1_0 a1_1 a1_2 a1_3 a1_4 a1_5 a1_6 a1_7 a1_8 a1_9 a1_10 a1_11)) else (gueriteref15_Covers.j0 k true a0_0 a0_1 a0_2 a0_3 a0_4 a0_5 a0_6 a0_7 a0_8 a0_9 a0_10 a0_11 a1_0 a1_1 a1_2 a1_3 a1_4 a1_5 a1_6 a1_7 a1_8 a1_9 a1_10 a1_11))) else (gueriteref15_Covers.j0 k true a0_0 a0_1 a0_2 a0_3 a0_4 a0_5 a0_6 a0_7 a0_8 a0_9 a0_10 a0_11 a1_0 a1_1 a1_2 a1_3 a1_4 a1_5 a1_6 a1_7 a1_8 a1_9 a1_10 a1_11))) else (gueriteref15_Covers.j0 k true a0_0 a0_1 a0_2 a0_3 a0_4 a0_5 a0_6 a0_7 a0_8 a0_9 a0_10 a0_11 a1_0 a1_1 a1_2 a1_3 a1_4 a1_5 a1_6 a1_7 a1_8 a1_9 a1_10 a1_11))) else (gueriteref15_Covers.j0 k true a0_0 a0_1 a0_2 a0_3 a0_4 a0_5 a0_6 a0_7 a0_8 a0_9 a0_10 a0_11 a1_0 a1_1 a1_2 a1_3 a1_4 a1_5 a1_6 a1_7 a1_8 a1_9 a1_10 a1_11)) = some r := H
    have A6 := Aside0.mk A60
    clear A60
    by_cases c7 : t321 = true
    · subst c7
      have H1 : ((gueriteref15_Right.f k a1_0 a1_1 a1_2 a1_3 a1_4 a1_5 a1_6 a1_7 a1_8 a1_9 a1_10 a1_11).bind fun t322 => (if t322 = true then ((gueriteref15_wide.f a0_0 a1_0).bind fun t323 => (if t323 = true then ((gueriteref15_wide.f a0_1 a1_1).bind fun t324 => (if t324 = true then ((gueriteref15_wide.f a0_6 a1_6).bind fun t325 => (gueriteref15_Covers.j0 k (!t325) a0_0 a0_1 a0_2 a0_3 a0_4 a0_5 a0_6 a0_7 a0_8 a0_9 a0_10 a0_11 a1_0 a1_1 a1_2 a1_3 a1_4 a1_5 a1_6 a1_7 a1_8 a1_9 a1_10 a1_11)) else (gueriteref15_Covers.j0 k true a0_0 a0_1 a0_2 a0_3 a0_4 a0_5 a0_6 a0_7 a0_8 a0_9 a0_10 a0_11 a1_0 a1_1 a1_2 a1_3 a1_4 a1_5 a1_6 a1_7 a1_8 a1_9 a1_10 a1_11))) else (gueriteref15_Covers.j0 k true a0_0 a0_1 a0_2 a0_3 a0_4 a0_5 a0_6 a0_7 a0_8 a0_9 a0_10 a0_11 a1_0 a1_1 a1_2 a1_3 a1_4 a1_5 a1_6 a1_7 a1_8 a1_9 a1_10 a1_11))) else (gueriteref15_Covers.j0 k true a0_0 a0_1 a0_2 a0_3 a0_4 a0_5 a0_6 a0_7 a0_8 a0_9 a0_10 a0_11 a1_0 a1_1 a1_2 a1_3 a1_4 a1_5 a1_6 a1_7 a1_8 a1_9 a1_10 a1_11))) = some r := by rw [if_pos rfl] at H; exact H
      clear H
      have H := H1
      clear H1
      replace H := Option.bind_eq_some_iff.mp H
      obtain ⟨t322, A80, H⟩ := H
      replace H : (if t322 = true then ((gueriteref15_wide.f a0_0 a1_0).bind fun t323 => (if t323 = true then ((gueriteref15_wide.f a0_1 a1_1).bind fun t324 => (if t324 = true then ((gueriteref15_wide.f a0_6 a1_6).bind fun t325 => (gueriteref15_Covers.j0 k (!t325) a0_0 a0_1 a0_2 a0_3 a0_4 a0_5 a0_6 a0_7 a0_8 a0_9 a0_10 a0_11 a1_0 a1_1 a1_2 a1_3 a1_4 a1_5 a1_6 a1_7 a1_8 a1_9 a1_10 a1_11)) else (gueriteref15_Covers.j0 k true a0_0 a0_1 a0_2 a0_3 a0_4 a0_5 a0_6 a0_7 a0_8 a0_9 a0_10 a0_11 a1_0 a1_1 a1_2 a1_3 a1_4 a1_5 a1_6 a1_7 a1_8 a1_9 a1_10 a1_11))) else (gueriteref15_Covers.j0 k true a0_0 a0_1 a0_2 a0_3 a0_4 a0_5 a0_6 a0_7 a0_8 a0_9 a0_10 a0_11 a1_0 a1_1 a1_2 a1_3 a1_4 a1_5 a1_6 a1_7 a1_8 a1_9 a1_10 a1_11))) else (gueriteref15_Covers.j0 k true a0_0 a0_1 a0_2 a0_3 a0_4 a0_5 a0_6 a0_7 a0_8 a0_9 a0_10 a0_11 a1_0 a1_1 a1_2 a1_3 a1_4 a1_5 a1_6 a1_7 a1_8 a1_9 a1_10 a1_11)) = some r := H
      have A8 := Aside0.mk A80
      clear A80
      by_cases c9 : t322 = true
      · subst c9
        have H1 : ((gueriteref15_wide.f a0_0 a1_0).bind fun t323 => (if t323 = true then ((gueriteref15_wide.f a0_1 a1_1).bind fun t324 => (if t324 = true then ((gueriteref15_wide.f a0_6 a1_6).bind fun t325 => (gueriteref15_Covers.j0 k (!t325) a0_0 a0_1 a0_2 a0_3 a0_4 a0_5 a0_6 a0_7 a0_8 a0_9 a0_10 a0_11 a1_0 a1_1 a1_2 a1_3 a1_4 a1_5 a1_6 a1_7 a1_8 a1_9 a1_10 a1_11)) else (gueriteref15_Covers.j0 k true a0_0 a0_1 a0_2 a0_3 a0_4 a0_5 a0_6 a0_7 a0_8 a0_9 a0_10 a0_11 a1_0 a1_1 a1_2 a1_3 a1_4 a1_5 a1_6 a1_7 a1_8 a1_9 a1_10 a1_11))) else (gueriteref15_Covers.j0 k true a0_0 a0_1 a0_2 a0_3 a0_4 a0_5 a0_6 a0_7 a0_8 a0_9 a0_10 a0_11 a1_0 a1_1 a1_2 a1_3 a1_4 a1_5 a1_6 a1_7 a1_8 a1_9 a1_10 a1_11))) = some r := by rw [if_pos rfl] at H; exact H
        clear H
        have H := H1
        clear H1
        replace H := Option.bind_eq_some_iff.mp H
        obtain ⟨t323, A100, H⟩ := H
        replace H : (if t323 = true then ((gueriteref15_wide.f a0_1 a1_1).bind fun t324 => (if t324 = true then ((gueriteref15_wide.f a0_6 a1_6).bind fun t325 => (gueriteref15_Covers.j0 k (!t325) a0_0 a0_1 a0_2 a0_3 a0_4 a0_5 a0_6 a0_7 a0_8 a0_9 a0_10 a0_11 a1_0 a1_1 a1_2 a1_3 a1_4 a1_5 a1_6 a1_7 a1_8 a1_9 a1_10 a1_11)) else (gueriteref15_Covers.j0 k true a0_0 a0_1 a0_2 a0_3 a0_4 a0_5 a0_6 a0_7 a0_8 a0_9 a0_10 a0_11 a1_0 a1_1 a1_2 a1_3 a1_4 a1_5 a1_6 a1_7 a1_8 a1_9 a1_10 a1_11))) else (gueriteref15_Covers.j0 k true a0_0 a0_1 a0_2 a0_3 a0_4 a0_5 a0_6 a0_7 a0_8 a0_9 a0_10 a0_11 a1_0 a1_1 a1_2 a1_3 a1_4 a1_5 a1_6 a1_7 a1_8 a1_9 a1_10 a1_11)) = some r := H
        have A10 := Aside0.mk A100
        clear A100
        by_cases c11 : t323 = true
        · subst c11
          have H1 : ((gueriteref15_wide.f a0_1 a1_1).bind fun t324 => (if t324 = true then ((gueriteref15_wide.f a0_6 a1_6).bind fun t325 => (gueriteref15_Covers.j0 k (!t325) a0_0 a0_1 a0_2 a0_3 a0_4 a0_5 a0_6 a0_7 a0_8 a0_9 a0_10 a0_11 a1_0 a1_1 a1_2 a1_3 a1_4 a1_5 a1_6 a1_7 a1_8 a1_9 a1_10 a1_11)) else (gueriteref15_Covers.j0 k true a0_0 a0_1 a0_2 a0_3 a0_4 a0_5 a0_6 a0_7 a0_8 a0_9 a0_10 a0_11 a1_0 a1_1 a1_2 a1_3 a1_4 a1_5 a1_6 a1_7 a1_8 a1_9 a1_10 a1_11))) = some r := by rw [if_pos rfl] at H; exact H
          clear H
          have H := H1
          clear H1
          replace H := Option.bind_eq_some_iff.mp H
          obtain ⟨t324, A120, H⟩ := H
          replace H : (if t324 = true then ((gueriteref15_wide.f a0_6 a1_6).bind fun t325 => (gueriteref15_Covers.j0 k (!t325) a0_0 a0_1 a0_2 a0_3 a0_4 a0_5 a0_6 a0_7 a0_8 a0_9 a0_10 a0_11 a1_0 a1_1 a1_2 a1_3 a1_4 a1_5 a1_6 a1_7 a1_8 a1_9 a1_10 a1_11)) else (gueriteref15_Covers.j0 k true a0_0 a0_1 a0_2 a0_3 a0_4 a0_5 a0_6 a0_7 a0_8 a0_9 a0_10 a0_11 a1_0 a1_1 a1_2 a1_3 a1_4 a1_5 a1_6 a1_7 a1_8 a1_9 a1_10 a1_11)) = some r := H
          have A12 := Aside0.mk A120
          clear A120
          by_cases c13 : t324 = true
          · subst c13
            have H1 : ((gueriteref15_wide.f a0_6 a1_6).bind fun t325 => (gueriteref15_Covers.j0 k (!t325) a0_0 a0_1 a0_2 a0_3 a0_4 a0_5 a0_6 a0_7 a0_8 a0_9 a0_10 a0_11 a1_0 a1_1 a1_2 a1_3 a1_4 a1_5 a1_6 a1_7 a1_8 a1_9 a1_10 a1_11)) = some r := by rw [if_pos rfl] at H; exact H
            clear H
            have H := H1
            clear H1
            replace H := Option.bind_eq_some_iff.mp H
            obtain ⟨t325, A140, H⟩ := H
            replace H : (gueriteref15_Covers.j0 k (!t325) a0_0 a0_1 a0_2 a0_3 a0_4 a0_5 a0_6 a0_7 a0_8 a0_9 a0_10 a0_11 a1_0 a1_1 a1_2 a1_3 a1_4 a1_5 a1_6 a1_7 a1_8 a1_9 a1_10 a1_11) = some r := H
            have A14 := Aside0.mk A140
            clear A140
            have H' := Aside0.mk H
            clear H
            have hnb15 := NB319_320.out
            have hnc15 := NB320_319.out
            have hcz16_0 : w5.cell? ⟨gb319, 0, none⟩ = some (.int .i64 a0_0) := (blk_cell BK319.out 0).trans rfl
            have hcz16_1 : w5.cell? ⟨gb319, 1, none⟩ = some (.int .i64 a0_1) := (blk_cell BK319.out 1).trans rfl
            have hcz16_2 : w5.cell? ⟨gb319, 2, none⟩ = some (.int .u32 a0_2) := (blk_cell BK319.out 2).trans rfl
            have hcz16_3 : w5.cell? ⟨gb319, 3, none⟩ = some (.int .i64 a0_3) := (blk_cell BK319.out 3).trans rfl
            have hcz16_4 : w5.cell? ⟨gb319, 4, none⟩ = some (.int .u32 a0_4) := (blk_cell BK319.out 4).trans rfl
            have hcz16_5 : w5.cell? ⟨gb319, 5, none⟩ = some (.int .i64 a0_5) := (blk_cell BK319.out 5).trans rfl
            have hcz16_6 : w5.cell? ⟨gb319, 6, none⟩ = some (.int .i64 a0_6) := (blk_cell BK319.out 6).trans rfl
            have hcz16_7 : w5.cell? ⟨gb319, 7, none⟩ = some (.int .i64 a0_7) := (blk_cell BK319.out 7).trans rfl
            have hcz16_8 : w5.cell? ⟨gb319, 8, none⟩ = some (.int .i64 a0_8) := (blk_cell BK319.out 8).trans rfl
            have hcz16_9 : w5.cell? ⟨gb319, 9, none⟩ = some (.int .i64 a0_9) := (blk_cell BK319.out 9).trans rfl
            have hcz16_10 : w5.cell? ⟨gb319, 10, none⟩ = some (.int .i64 a0_10) := (blk_cell BK319.out 10).trans rfl
            have hcz16_11 : w5.cell? ⟨gb319, 11, none⟩ = some (.bool a0_11) := (blk_cell BK319.out 11).trans rfl
            have hfz16_0 := blk_frozen BK319.out 0
            have hfz16_1 := blk_frozen BK319.out 1
            have hfz16_2 := blk_frozen BK319.out 2
            have hfz16_3 := blk_frozen BK319.out 3
            have hfz16_4 := blk_frozen BK319.out 4
            have hfz16_5 := blk_frozen BK319.out 5
            have hfz16_6 := blk_frozen BK319.out 6
            have hfz16_7 := blk_frozen BK319.out 7
            have hfz16_8 := blk_frozen BK319.out 8
            have hfz16_9 := blk_frozen BK319.out 9
            have hfz16_10 := blk_frozen BK319.out 10
            have hfz16_11 := blk_frozen BK319.out 11
            go_wp2_with (first | ((with_reducible refine gate_callee (f := 23) rfl ?_); refine goesL_ (some 6) rfl rfl Try.func23 (by kernel_rfl) rfl #[.agg #[.int .i64 a0_0, .int .i64 a0_1, .int .u32 a0_2, .int .i64 a0_3, .int .u32 a0_4, .int .i64 a0_5, .int .i64 a0_6, .int .i64 a0_7, .int .i64 a0_8, .int .i64 a0_9, .int .i64 a0_10, .bool a0_11]] rfl (by (try simp only [List.map_toArray, List.map_cons, List.map_nil]); first | done | rfl | (simp only [List.length_drop, List.length_take]; rfl)) ?_; (with_reducible refine (gueriteref15_Right.calls k a0_0 a0_1 a0_2 a0_3 a0_4 a0_5 a0_6 a0_7 a0_8 a0_9 a0_10 a0_11 true _ A6.out).mono ?_); rintro e w17 ⟨rfl, hb⟩; refine ⟨_, rfl, ?_⟩; have n0_ := Aside0.mk (blk_below (g := gb319) (o := .cells #[.int .i64 a0_0, .int .i64 a0_1, .int .u32 a0_2, .int .i64 a0_3, .int .u32 a0_4, .int .i64 a0_5, .int .i64 a0_6, .int .i64 a0_7, .int .i64 a0_8, .int .i64 a0_9, .int .i64 a0_10, .bool a0_11] 42 (0, 0)) (by (with_reducible repeat (first | refine blk_drewN ?_ _ | refine blk_drew ?_ | refine blk_alloc ?_ _)); exact BK319.out) hb); have n1_ := Aside0.mk (blk_below (g := gb320) (o := .cells #[.int .i64 a1_0, .int .i64 a1_1, .int .u32 a1_2, .int .i64 a1_3, .int .u32 a1_4, .int .i64 a1_5, .int .i64 a1_6, .int .i64 a1_7, .int .i64 a1_8, .int .i64 a1_9, .int .i64 a1_10, .bool a1_11] 42 (0, 0)) (by (with_reducible repeat (first | refine blk_drewN ?_ _ | refine blk_drew ?_ | refine blk_alloc ?_ _)); exact BK320.out) hb); have n2_ := Aside0.mk (below_step (by repeat (first | (with_reducible first | exact HB.out | apply below_alloc | apply pw_below_drewN | apply below_drew1 | refine below_set ?_ GE319.out | refine below_set ?_ GE320.out) | exact HB.out)) hb); clear BK319; clear BK320; clear HB; have BK319 := n0_; have BK320 := n1_; have HB := n2_; clear n0_ n1_ n2_; (try clear hb); (try clear hb2); (try clear hk); (try clear hi); have hcz18_0 : w17.cell? ⟨gb320, 0, none⟩ = some (.int .i64 a1_0) := (blk_cell BK320.out 0).trans rfl; have hcz18_1 : w17.cell? ⟨gb320, 1, none⟩ = some (.int .i64 a1_1) := (blk_cell BK320.out 1).trans rfl; have hcz18_2 : w17.cell? ⟨gb320, 2, none⟩ = some (.int .u32 a1_2) := (blk_cell BK320.out 2).trans rfl; have hcz18_3 : w17.cell? ⟨gb320, 3, none⟩ = some (.int .i64 a1_3) := (blk_cell BK320.out 3).trans rfl; have hcz18_4 : w17.cell? ⟨gb320, 4, none⟩ = some (.int .u32 a1_4) := (blk_cell BK320.out 4).trans rfl; have hcz18_5 : w17.cell? ⟨gb320, 5, none⟩ = some (.int .i64 a1_5) := (blk_cell BK320.out 5).trans rfl; have hcz18_6 : w17.cell? ⟨gb320, 6, none⟩ = some (.int .i64 a1_6) := (blk_cell BK320.out 6).trans rfl; have hcz18_7 : w17.cell? ⟨gb320, 7, none⟩ = some (.int .i64 a1_7) := (blk_cell BK320.out 7).trans rfl; have hcz18_8 : w17.cell? ⟨gb320, 8, none⟩ = some (.int .i64 a1_8) := (blk_cell BK320.out 8).trans rfl; have hcz18_9 : w17.cell? ⟨gb320, 9, none⟩ = some (.int .i64 a1_9) := (blk_cell BK320.out 9).trans rfl; have hcz18_10 : w17.cell? ⟨gb320, 10, none⟩ = some (.int .i64 a1_10) := (blk_cell BK320.out 10).trans rfl; have hcz18_11 : w17.cell? ⟨gb320, 11, none⟩ = some (.bool a1_11) := (blk_cell BK320.out 11).trans rfl; have hfz18_0 := blk_frozen BK320.out 0; have hfz18_1 := blk_frozen BK320.out 1; have hfz18_2 := blk_frozen BK320.out 2; have hfz18_3 := blk_frozen BK320.out 3; have hfz18_4 := blk_frozen BK320.out 4; have hfz18_5 := blk_frozen BK320.out 5; have hfz18_6 := blk_frozen BK320.out 6; have hfz18_7 := blk_frozen BK320.out 7; have hfz18_8 := blk_frozen BK320.out 8; have hfz18_9 := blk_frozen BK320.out 9; have hfz18_10 := blk_frozen BK320.out 10; have hfz18_11 := blk_frozen BK320.out 11) | (go_at_call 23; (with_reducible refine (gueriteref15_Right.calls k a1_0 a1_1 a1_2 a1_3 a1_4 a1_5 a1_6 a1_7 a1_8 a1_9 a1_10 a1_11 true _ A8.out).mono ?_); rintro e w19 ⟨rfl, hb⟩; have n0_ := Aside0.mk (blk_below (g := gb319) (o := .cells #[.int .i64 a0_0, .int .i64 a0_1, .int .u32 a0_2, .int .i64 a0_3, .int .u32 a0_4, .int .i64 a0_5, .int .i64 a0_6, .int .i64 a0_7, .int .i64 a0_8, .int .i64 a0_9, .int .i64 a0_10, .bool a0_11] 42 (0, 0)) (by (with_reducible repeat (first | refine blk_drewN ?_ _ | refine blk_drew ?_ | refine blk_alloc ?_ _)); exact BK319.out) hb); have n1_ := Aside0.mk (blk_below (g := gb320) (o := .cells #[.int .i64 a1_0, .int .i64 a1_1, .int .u32 a1_2, .int .i64 a1_3, .int .u32 a1_4, .int .i64 a1_5, .int .i64 a1_6, .int .i64 a1_7, .int .i64 a1_8, .int .i64 a1_9, .int .i64 a1_10, .bool a1_11] 42 (0, 0)) (by (with_reducible repeat (first | refine blk_drewN ?_ _ | refine blk_drew ?_ | refine blk_alloc ?_ _)); exact BK320.out) hb); have n2_ := Aside0.mk (below_step (by repeat (first | (with_reducible first | exact HB.out | apply below_alloc | apply pw_below_drewN | apply below_drew1 | refine below_set ?_ GE319.out | refine below_set ?_ GE320.out) | exact HB.out)) hb); clear BK319; clear BK320; clear HB; have BK319 := n0_; have BK320 := n1_; have HB := n2_; clear n0_ n1_ n2_; (try clear hb); (try clear hb2); (try clear hk); (try clear hi); have hcz20_0 : w19.cell? ⟨gb319, 0, none⟩ = some (.int .i64 a0_0) := (blk_cell BK319.out 0).trans rfl; have hcz20_1 : w19.cell? ⟨gb319, 1, none⟩ = some (.int .i64 a0_1) := (blk_cell BK319.out 1).trans rfl; have hcz20_2 : w19.cell? ⟨gb319, 2, none⟩ = some (.int .u32 a0_2) := (blk_cell BK319.out 2).trans rfl; have hcz20_3 : w19.cell? ⟨gb319, 3, none⟩ = some (.int .i64 a0_3) := (blk_cell BK319.out 3).trans rfl; have hcz20_4 : w19.cell? ⟨gb319, 4, none⟩ = some (.int .u32 a0_4) := (blk_cell BK319.out 4).trans rfl; have hcz20_5 : w19.cell? ⟨gb319, 5, none⟩ = some (.int .i64 a0_5) := (blk_cell BK319.out 5).trans rfl; have hcz20_6 : w19.cell? ⟨gb319, 6, none⟩ = some (.int .i64 a0_6) := (blk_cell BK319.out 6).trans rfl; have hcz20_7 : w19.cell? ⟨gb319, 7, none⟩ = some (.int .i64 a0_7) := (blk_cell BK319.out 7).trans rfl; have hcz20_8 : w19.cell? ⟨gb319, 8, none⟩ = some (.int .i64 a0_8) := (blk_cell BK319.out 8).trans rfl; have hcz20_9 : w19.cell? ⟨gb319, 9, none⟩ = some (.int .i64 a0_9) := (blk_cell BK319.out 9).trans rfl; have hcz20_10 : w19.cell? ⟨gb319, 10, none⟩ = some (.int .i64 a0_10) := (blk_cell BK319.out 10).trans rfl; have hcz20_11 : w19.cell? ⟨gb319, 11, none⟩ = some (.bool a0_11) := (blk_cell BK319.out 11).trans rfl; have hfz20_0 := blk_frozen BK319.out 0; have hfz20_1 := blk_frozen BK319.out 1; have hfz20_2 := blk_frozen BK319.out 2; have hfz20_3 := blk_frozen BK319.out 3; have hfz20_4 := blk_frozen BK319.out 4; have hfz20_5 := blk_frozen BK319.out 5; have hfz20_6 := blk_frozen BK319.out 6; have hfz20_7 := blk_frozen BK319.out 7; have hfz20_8 := blk_frozen BK319.out 8; have hfz20_9 := blk_frozen BK319.out 9; have hfz20_10 := blk_frozen BK319.out 10; have hfz20_11 := blk_frozen BK319.out 11; have hcz21_0 : w19.cell? ⟨gb320, 0, none⟩ = some (.int .i64 a1_0) := (blk_cell BK320.out 0).trans rfl; have hcz21_1 : w19.cell? ⟨gb320, 1, none⟩ = some (.int .i64 a1_1) := (blk_cell BK320.out 1).trans rfl; have hcz21_2 : w19.cell? ⟨gb320, 2, none⟩ = some (.int .u32 a1_2) := (blk_cell BK320.out 2).trans rfl; have hcz21_3 : w19.cell? ⟨gb320, 3, none⟩ = some (.int .i64 a1_3) := (blk_cell BK320.out 3).trans rfl; have hcz21_4 : w19.cell? ⟨gb320, 4, none⟩ = some (.int .u32 a1_4) := (blk_cell BK320.out 4).trans rfl; have hcz21_5 : w19.cell? ⟨gb320, 5, none⟩ = some (.int .i64 a1_5) := (blk_cell BK320.out 5).trans rfl; have hcz21_6 : w19.cell? ⟨gb320, 6, none⟩ = some (.int .i64 a1_6) := (blk_cell BK320.out 6).trans rfl; have hcz21_7 : w19.cell? ⟨gb320, 7, none⟩ = some (.int .i64 a1_7) := (blk_cell BK320.out 7).trans rfl; have hcz21_8 : w19.cell? ⟨gb320, 8, none⟩ = some (.int .i64 a1_8) := (blk_cell BK320.out 8).trans rfl; have hcz21_9 : w19.cell? ⟨gb320, 9, none⟩ = some (.int .i64 a1_9) := (blk_cell BK320.out 9).trans rfl; have hcz21_10 : w19.cell? ⟨gb320, 10, none⟩ = some (.int .i64 a1_10) := (blk_cell BK320.out 10).trans rfl; have hcz21_11 : w19.cell? ⟨gb320, 11, none⟩ = some (.bool a1_11) := (blk_cell BK320.out 11).trans rfl; have hfz21_0 := blk_frozen BK320.out 0; have hfz21_1 := blk_frozen BK320.out 1; have hfz21_2 := blk_frozen BK320.out 2; have hfz21_3 := blk_frozen BK320.out 3; have hfz21_4 := blk_frozen BK320.out 4; have hfz21_5 := blk_frozen BK320.out 5; have hfz21_6 := blk_frozen BK320.out 6; have hfz21_7 := blk_frozen BK320.out 7; have hfz21_8 := blk_frozen BK320.out 8; have hfz21_9 := blk_frozen BK320.out 9; have hfz21_10 := blk_frozen BK320.out 10; have hfz21_11 := blk_frozen BK320.out 11) | (go_at_call 50; (with_reducible refine (gueriteref15_wide.calls a0_0 a1_0 true _ A10.out).mono ?_); rintro e w' ⟨rfl, ⟨nd, rfl⟩⟩) | (go_at_call 50; (with_reducible refine (gueriteref15_wide.calls a0_1 a1_1 true _ A12.out).mono ?_); rintro e w' ⟨rfl, ⟨nd, rfl⟩⟩) | (go_at_call 50; (with_reducible refine (gueriteref15_wide.calls a0_6 a1_6 t325 _ A14.out).mono ?_); rintro e w' ⟨rfl, ⟨nd, rfl⟩⟩))
            go_meet
            case rel => exact ⟨_, (!t325), (by first | rfl | (simp; done) | (simp [*]; done)), H', ⟨by first | omega | exact Nat.le_refl _⟩, ⟨by (with_reducible repeat (first | refine blk_drewN ?_ _ | refine blk_drew ?_ | refine blk_alloc ?_ _)); exact BK319.out⟩, ⟨by (with_reducible repeat (first | refine blk_drewN ?_ _ | refine blk_drew ?_ | refine blk_alloc ?_ _)); exact BK320.out⟩, ⟨by repeat (first | (with_reducible first | exact HB.out | apply below_alloc | apply pw_below_drewN | apply below_drew1 | refine below_set ?_ GE319.out | refine below_set ?_ GE320.out) | exact HB.out)⟩⟩
          · replace c13 := Bool.eq_false_iff.mpr c13
            subst c13
            have H1 : (gueriteref15_Covers.j0 k true a0_0 a0_1 a0_2 a0_3 a0_4 a0_5 a0_6 a0_7 a0_8 a0_9 a0_10 a0_11 a1_0 a1_1 a1_2 a1_3 a1_4 a1_5 a1_6 a1_7 a1_8 a1_9 a1_10 a1_11) = some r := by rw [if_neg (show ¬ (false = true) by decide)] at H; exact H
            clear H
            have H := H1
            clear H1
            have H' := Aside0.mk H
            clear H
            have hnb22 := NB319_320.out
            have hnc22 := NB320_319.out
            have hcz23_0 : w5.cell? ⟨gb319, 0, none⟩ = some (.int .i64 a0_0) := (blk_cell BK319.out 0).trans rfl
            have hcz23_1 : w5.cell? ⟨gb319, 1, none⟩ = some (.int .i64 a0_1) := (blk_cell BK319.out 1).trans rfl
            have hcz23_2 : w5.cell? ⟨gb319, 2, none⟩ = some (.int .u32 a0_2) := (blk_cell BK319.out 2).trans rfl
            have hcz23_3 : w5.cell? ⟨gb319, 3, none⟩ = some (.int .i64 a0_3) := (blk_cell BK319.out 3).trans rfl
            have hcz23_4 : w5.cell? ⟨gb319, 4, none⟩ = some (.int .u32 a0_4) := (blk_cell BK319.out 4).trans rfl
            have hcz23_5 : w5.cell? ⟨gb319, 5, none⟩ = some (.int .i64 a0_5) := (blk_cell BK319.out 5).trans rfl
            have hcz23_6 : w5.cell? ⟨gb319, 6, none⟩ = some (.int .i64 a0_6) := (blk_cell BK319.out 6).trans rfl
            have hcz23_7 : w5.cell? ⟨gb319, 7, none⟩ = some (.int .i64 a0_7) := (blk_cell BK319.out 7).trans rfl
            have hcz23_8 : w5.cell? ⟨gb319, 8, none⟩ = some (.int .i64 a0_8) := (blk_cell BK319.out 8).trans rfl
            have hcz23_9 : w5.cell? ⟨gb319, 9, none⟩ = some (.int .i64 a0_9) := (blk_cell BK319.out 9).trans rfl
            have hcz23_10 : w5.cell? ⟨gb319, 10, none⟩ = some (.int .i64 a0_10) := (blk_cell BK319.out 10).trans rfl
            have hcz23_11 : w5.cell? ⟨gb319, 11, none⟩ = some (.bool a0_11) := (blk_cell BK319.out 11).trans rfl
            have hfz23_0 := blk_frozen BK319.out 0
            have hfz23_1 := blk_frozen BK319.out 1
            have hfz23_2 := blk_frozen BK319.out 2
            have hfz23_3 := blk_frozen BK319.out 3
            have hfz23_4 := blk_frozen BK319.out 4
            have hfz23_5 := blk_frozen BK319.out 5
            have hfz23_6 := blk_frozen BK319.out 6
            have hfz23_7 := blk_frozen BK319.out 7
            have hfz23_8 := blk_frozen BK319.out 8
            have hfz23_9 := blk_frozen BK319.out 9
            have hfz23_10 := blk_frozen BK319.out 10
            have hfz23_11 := blk_frozen BK319.out 11
            go_wp2_with (first | ((with_reducible refine gate_callee (f := 23) rfl ?_); refine goesL_ (some 6) rfl rfl Try.func23 (by kernel_rfl) rfl #[.agg #[.int .i64 a0_0, .int .i64 a0_1, .int .u32 a0_2, .int .i64 a0_3, .int .u32 a0_4, .int .i64 a0_5, .int .i64 a0_6, .int .i64 a0_7, .int .i64 a0_8, .int .i64 a0_9, .int .i64 a0_10, .bool a0_11]] rfl (by (try simp only [List.map_toArray, List.map_cons, List.map_nil]); first | done | rfl | (simp only [List.length_drop, List.length_take]; rfl)) ?_; (with_reducible refine (gueriteref15_Right.calls k a0_0 a0_1 a0_2 a0_3 a0_4 a0_5 a0_6 a0_7 a0_8 a0_9 a0_10 a0_11 true _ A6.out).mono ?_); rintro e w24 ⟨rfl, hb⟩; refine ⟨_, rfl, ?_⟩; have n0_ := Aside0.mk (blk_below (g := gb319) (o := .cells #[.int .i64 a0_0, .int .i64 a0_1, .int .u32 a0_2, .int .i64 a0_3, .int .u32 a0_4, .int .i64 a0_5, .int .i64 a0_6, .int .i64 a0_7, .int .i64 a0_8, .int .i64 a0_9, .int .i64 a0_10, .bool a0_11] 42 (0, 0)) (by (with_reducible repeat (first | refine blk_drewN ?_ _ | refine blk_drew ?_ | refine blk_alloc ?_ _)); exact BK319.out) hb); have n1_ := Aside0.mk (blk_below (g := gb320) (o := .cells #[.int .i64 a1_0, .int .i64 a1_1, .int .u32 a1_2, .int .i64 a1_3, .int .u32 a1_4, .int .i64 a1_5, .int .i64 a1_6, .int .i64 a1_7, .int .i64 a1_8, .int .i64 a1_9, .int .i64 a1_10, .bool a1_11] 42 (0, 0)) (by (with_reducible repeat (first | refine blk_drewN ?_ _ | refine blk_drew ?_ | refine blk_alloc ?_ _)); exact BK320.out) hb); have n2_ := Aside0.mk (below_step (by repeat (first | (with_reducible first | exact HB.out | apply below_alloc | apply pw_below_drewN | apply below_drew1 | refine below_set ?_ GE319.out | refine below_set ?_ GE320.out) | exact HB.out)) hb); clear BK319; clear BK320; clear HB; have BK319 := n0_; have BK320 := n1_; have HB := n2_; clear n0_ n1_ n2_; (try clear hb); (try clear hb2); (try clear hk); (try clear hi); have hcz25_0 : w24.cell? ⟨gb320, 0, none⟩ = some (.int .i64 a1_0) := (blk_cell BK320.out 0).trans rfl; have hcz25_1 : w24.cell? ⟨gb320, 1, none⟩ = some (.int .i64 a1_1) := (blk_cell BK320.out 1).trans rfl; have hcz25_2 : w24.cell? ⟨gb320, 2, none⟩ = some (.int .u32 a1_2) := (blk_cell BK320.out 2).trans rfl; have hcz25_3 : w24.cell? ⟨gb320, 3, none⟩ = some (.int .i64 a1_3) := (blk_cell BK320.out 3).trans rfl; have hcz25_4 : w24.cell? ⟨gb320, 4, none⟩ = some (.int .u32 a1_4) := (blk_cell BK320.out 4).trans rfl; have hcz25_5 : w24.cell? ⟨gb320, 5, none⟩ = some (.int .i64 a1_5) := (blk_cell BK320.out 5).trans rfl; have hcz25_6 : w24.cell? ⟨gb320, 6, none⟩ = some (.int .i64 a1_6) := (blk_cell BK320.out 6).trans rfl; have hcz25_7 : w24.cell? ⟨gb320, 7, none⟩ = some (.int .i64 a1_7) := (blk_cell BK320.out 7).trans rfl; have hcz25_8 : w24.cell? ⟨gb320, 8, none⟩ = some (.int .i64 a1_8) := (blk_cell BK320.out 8).trans rfl; have hcz25_9 : w24.cell? ⟨gb320, 9, none⟩ = some (.int .i64 a1_9) := (blk_cell BK320.out 9).trans rfl; have hcz25_10 : w24.cell? ⟨gb320, 10, none⟩ = some (.int .i64 a1_10) := (blk_cell BK320.out 10).trans rfl; have hcz25_11 : w24.cell? ⟨gb320, 11, none⟩ = some (.bool a1_11) := (blk_cell BK320.out 11).trans rfl; have hfz25_0 := blk_frozen BK320.out 0; have hfz25_1 := blk_frozen BK320.out 1; have hfz25_2 := blk_frozen BK320.out 2; have hfz25_3 := blk_frozen BK320.out 3; have hfz25_4 := blk_frozen BK320.out 4; have hfz25_5 := blk_frozen BK320.out 5; have hfz25_6 := blk_frozen BK320.out 6; have hfz25_7 := blk_frozen BK320.out 7; have hfz25_8 := blk_frozen BK320.out 8; have hfz25_9 := blk_frozen BK320.out 9; have hfz25_10 := blk_frozen BK320.out 10; have hfz25_11 := blk_frozen BK320.out 11) | (go_at_call 23; (with_reducible refine (gueriteref15_Right.calls k a1_0 a1_1 a1_2 a1_3 a1_4 a1_5 a1_6 a1_7 a1_8 a1_9 a1_10 a1_11 true _ A8.out).mono ?_); rintro e w26 ⟨rfl, hb⟩; have n0_ := Aside0.mk (blk_below (g := gb319) (o := .cells #[.int .i64 a0_0, .int .i64 a0_1, .int .u32 a0_2, .int .i64 a0_3, .int .u32 a0_4, .int .i64 a0_5, .int .i64 a0_6, .int .i64 a0_7, .int .i64 a0_8, .int .i64 a0_9, .int .i64 a0_10, .bool a0_11] 42 (0, 0)) (by (with_reducible repeat (first | refine blk_drewN ?_ _ | refine blk_drew ?_ | refine blk_alloc ?_ _)); exact BK319.out) hb); have n1_ := Aside0.mk (blk_below (g := gb320) (o := .cells #[.int .i64 a1_0, .int .i64 a1_1, .int .u32 a1_2, .int .i64 a1_3, .int .u32 a1_4, .int .i64 a1_5, .int .i64 a1_6, .int .i64 a1_7, .int .i64 a1_8, .int .i64 a1_9, .int .i64 a1_10, .bool a1_11] 42 (0, 0)) (by (with_reducible repeat (first | refine blk_drewN ?_ _ | refine blk_drew ?_ | refine blk_alloc ?_ _)); exact BK320.out) hb); have n2_ := Aside0.mk (below_step (by repeat (first | (with_reducible first | exact HB.out | apply below_alloc | apply pw_below_drewN | apply below_drew1 | refine below_set ?_ GE319.out | refine below_set ?_ GE320.out) | exact HB.out)) hb); clear BK319; clear BK320; clear HB; have BK319 := n0_; have BK320 := n1_; have HB := n2_; clear n0_ n1_ n2_; (try clear hb); (try clear hb2); (try clear hk); (try clear hi); have hcz27_0 : w26.cell? ⟨gb319, 0, none⟩ = some (.int .i64 a0_0) := (blk_cell BK319.out 0).trans rfl; have hcz27_1 : w26.cell? ⟨gb319, 1, none⟩ = some (.int .i64 a0_1) := (blk_cell BK319.out 1).trans rfl; have hcz27_2 : w26.cell? ⟨gb319, 2, none⟩ = some (.int .u32 a0_2) := (blk_cell BK319.out 2).trans rfl; have hcz27_3 : w26.cell? ⟨gb319, 3, none⟩ = some (.int .i64 a0_3) := (blk_cell BK319.out 3).trans rfl; have hcz27_4 : w26.cell? ⟨gb319, 4, none⟩ = some (.int .u32 a0_4) := (blk_cell BK319.out 4).trans rfl; have hcz27_5 : w26.cell? ⟨gb319, 5, none⟩ = some (.int .i64 a0_5) := (blk_cell BK319.out 5).trans rfl; have hcz27_6 : w26.cell? ⟨gb319, 6, none⟩ = some (.int .i64 a0_6) := (blk_cell BK319.out 6).trans rfl; have hcz27_7 : w26.cell? ⟨gb319, 7, none⟩ = some (.int .i64 a0_7) := (blk_cell BK319.out 7).trans rfl; have hcz27_8 : w26.cell? ⟨gb319, 8, none⟩ = some (.int .i64 a0_8) := (blk_cell BK319.out 8).trans rfl; have hcz27_9 : w26.cell? ⟨gb319, 9, none⟩ = some (.int .i64 a0_9) := (blk_cell BK319.out 9).trans rfl; have hcz27_10 : w26.cell? ⟨gb319, 10, none⟩ = some (.int .i64 a0_10) := (blk_cell BK319.out 10).trans rfl; have hcz27_11 : w26.cell? ⟨gb319, 11, none⟩ = some (.bool a0_11) := (blk_cell BK319.out 11).trans rfl; have hfz27_0 := blk_frozen BK319.out 0; have hfz27_1 := blk_frozen BK319.out 1; have hfz27_2 := blk_frozen BK319.out 2; have hfz27_3 := blk_frozen BK319.out 3; have hfz27_4 := blk_frozen BK319.out 4; have hfz27_5 := blk_frozen BK319.out 5; have hfz27_6 := blk_frozen BK319.out 6; have hfz27_7 := blk_frozen BK319.out 7; have hfz27_8 := blk_frozen BK319.out 8; have hfz27_9 := blk_frozen BK319.out 9; have hfz27_10 := blk_frozen BK319.out 10; have hfz27_11 := blk_frozen BK319.out 11; have hcz28_0 : w26.cell? ⟨gb320, 0, none⟩ = some (.int .i64 a1_0) := (blk_cell BK320.out 0).trans rfl; have hcz28_1 : w26.cell? ⟨gb320, 1, none⟩ = some (.int .i64 a1_1) := (blk_cell BK320.out 1).trans rfl; have hcz28_2 : w26.cell? ⟨gb320, 2, none⟩ = some (.int .u32 a1_2) := (blk_cell BK320.out 2).trans rfl; have hcz28_3 : w26.cell? ⟨gb320, 3, none⟩ = some (.int .i64 a1_3) := (blk_cell BK320.out 3).trans rfl; have hcz28_4 : w26.cell? ⟨gb320, 4, none⟩ = some (.int .u32 a1_4) := (blk_cell BK320.out 4).trans rfl; have hcz28_5 : w26.cell? ⟨gb320, 5, none⟩ = some (.int .i64 a1_5) := (blk_cell BK320.out 5).trans rfl; have hcz28_6 : w26.cell? ⟨gb320, 6, none⟩ = some (.int .i64 a1_6) := (blk_cell BK320.out 6).trans rfl; have hcz28_7 : w26.cell? ⟨gb320, 7, none⟩ = some (.int .i64 a1_7) := (blk_cell BK320.out 7).trans rfl; have hcz28_8 : w26.cell? ⟨gb320, 8, none⟩ = some (.int .i64 a1_8) := (blk_cell BK320.out 8).trans rfl; have hcz28_9 : w26.cell? ⟨gb320, 9, none⟩ = some (.int .i64 a1_9) := (blk_cell BK320.out 9).trans rfl; have hcz28_10 : w26.cell? ⟨gb320, 10, none⟩ = some (.int .i64 a1_10) := (blk_cell BK320.out 10).trans rfl; have hcz28_11 : w26.cell? ⟨gb320, 11, none⟩ = some (.bool a1_11) := (blk_cell BK320.out 11).trans rfl; have hfz28_0 := blk_frozen BK320.out 0; have hfz28_1 := blk_frozen BK320.out 1; have hfz28_2 := blk_frozen BK320.out 2; have hfz28_3 := blk_frozen BK320.out 3; have hfz28_4 := blk_frozen BK320.out 4; have hfz28_5 := blk_frozen BK320.out 5; have hfz28_6 := blk_frozen BK320.out 6; have hfz28_7 := blk_frozen BK320.out 7; have hfz28_8 := blk_frozen BK320.out 8; have hfz28_9 := blk_frozen BK320.out 9; have hfz28_10 := blk_frozen BK320.out 10; have hfz28_11 := blk_frozen BK320.out 11) | (go_at_call 50; (with_reducible refine (gueriteref15_wide.calls a0_0 a1_0 true _ A10.out).mono ?_); rintro e w' ⟨rfl, ⟨nd, rfl⟩⟩) | (go_at_call 50; (with_reducible refine (gueriteref15_wide.calls a0_1 a1_1 false _ A12.out).mono ?_); rintro e w' ⟨rfl, ⟨nd, rfl⟩⟩))
            go_meet
            case rel => exact ⟨_, (true), (by first | rfl | (simp; done) | (simp [*]; done)), H', ⟨by first | omega | exact Nat.le_refl _⟩, ⟨by (with_reducible repeat (first | refine blk_drewN ?_ _ | refine blk_drew ?_ | refine blk_alloc ?_ _)); exact BK319.out⟩, ⟨by (with_reducible repeat (first | refine blk_drewN ?_ _ | refine blk_drew ?_ | refine blk_alloc ?_ _)); exact BK320.out⟩, ⟨by repeat (first | (with_reducible first | exact HB.out | apply below_alloc | apply pw_below_drewN | apply below_drew1 | refine below_set ?_ GE319.out | refine below_set ?_ GE320.out) | exact HB.out)⟩⟩
        · replace c11 := Bool.eq_false_iff.mpr c11
          subst c11
          have H1 : (gueriteref15_Covers.j0 k true a0_0 a0_1 a0_2 a0_3 a0_4 a0_5 a0_6 a0_7 a0_8 a0_9 a0_10 a0_11 a1_0 a1_1 a1_2 a1_3 a1_4 a1_5 a1_6 a1_7 a1_8 a1_9 a1_10 a1_11) = some r := by rw [if_neg (show ¬ (false = true) by decide)] at H; exact H
          clear H
          have H := H1
          clear H1
          have H' := Aside0.mk H
          clear H
          have hnb29 := NB319_320.out
          have hnc29 := NB320_319.out
          have hcz30_0 : w5.cell? ⟨gb319, 0, none⟩ = some (.int .i64 a0_0) := (blk_cell BK319.out 0).trans rfl
          have hcz30_1 : w5.cell? ⟨gb319, 1, none⟩ = some (.int .i64 a0_1) := (blk_cell BK319.out 1).trans rfl
          have hcz30_2 : w5.cell? ⟨gb319, 2, none⟩ = some (.int .u32 a0_2) := (blk_cell BK319.out 2).trans rfl
          have hcz30_3 : w5.cell? ⟨gb319, 3, none⟩ = some (.int .i64 a0_3) := (blk_cell BK319.out 3).trans rfl
          have hcz30_4 : w5.cell? ⟨gb319, 4, none⟩ = some (.int .u32 a0_4) := (blk_cell BK319.out 4).trans rfl
          have hcz30_5 : w5.cell? ⟨gb319, 5, none⟩ = some (.int .i64 a0_5) := (blk_cell BK319.out 5).trans rfl
          have hcz30_6 : w5.cell? ⟨gb319, 6, none⟩ = some (.int .i64 a0_6) := (blk_cell BK319.out 6).trans rfl
          have hcz30_7 : w5.cell? ⟨gb319, 7, none⟩ = some (.int .i64 a0_7) := (blk_cell BK319.out 7).trans rfl
          have hcz30_8 : w5.cell? ⟨gb319, 8, none⟩ = some (.int .i64 a0_8) := (blk_cell BK319.out 8).trans rfl
          have hcz30_9 : w5.cell? ⟨gb319, 9, none⟩ = some (.int .i64 a0_9) := (blk_cell BK319.out 9).trans rfl
          have hcz30_10 : w5.cell? ⟨gb319, 10, none⟩ = some (.int .i64 a0_10) := (blk_cell BK319.out 10).trans rfl
          have hcz30_11 : w5.cell? ⟨gb319, 11, none⟩ = some (.bool a0_11) := (blk_cell BK319.out 11).trans rfl
          have hfz30_0 := blk_frozen BK319.out 0
          have hfz30_1 := blk_frozen BK319.out 1
          have hfz30_2 := blk_frozen BK319.out 2
          have hfz30_3 := blk_frozen BK319.out 3
          have hfz30_4 := blk_frozen BK319.out 4
          have hfz30_5 := blk_frozen BK319.out 5
          have hfz30_6 := blk_frozen BK319.out 6
          have hfz30_7 := blk_frozen BK319.out 7
          have hfz30_8 := blk_frozen BK319.out 8
          have hfz30_9 := blk_frozen BK319.out 9
          have hfz30_10 := blk_frozen BK319.out 10
          have hfz30_11 := blk_frozen BK319.out 11
          go_wp2_with (first | ((with_reducible refine gate_callee (f := 23) rfl ?_); refine goesL_ (some 6) rfl rfl Try.func23 (by kernel_rfl) rfl #[.agg #[.int .i64 a0_0, .int .i64 a0_1, .int .u32 a0_2, .int .i64 a0_3, .int .u32 a0_4, .int .i64 a0_5, .int .i64 a0_6, .int .i64 a0_7, .int .i64 a0_8, .int .i64 a0_9, .int .i64 a0_10, .bool a0_11]] rfl (by (try simp only [List.map_toArray, List.map_cons, List.map_nil]); first | done | rfl | (simp only [List.length_drop, List.length_take]; rfl)) ?_; (with_reducible refine (gueriteref15_Right.calls k a0_0 a0_1 a0_2 a0_3 a0_4 a0_5 a0_6 a0_7 a0_8 a0_9 a0_10 a0_11 true _ A6.out).mono ?_); rintro e w31 ⟨rfl, hb⟩; refine ⟨_, rfl, ?_⟩; have n0_ := Aside0.mk (blk_below (g := gb319) (o := .cells #[.int .i64 a0_0, .int .i64 a0_1, .int .u32 a0_2, .int .i64 a0_3, .int .u32 a0_4, .int .i64 a0_5, .int .i64 a0_6, .int .i64 a0_7, .int .i64 a0_8, .int .i64 a0_9, .int .i64 a0_10, .bool a0_11] 42 (0, 0)) (by (with_reducible repeat (first | refine blk_drewN ?_ _ | refine blk_drew ?_ | refine blk_alloc ?_ _)); exact BK319.out) hb); have n1_ := Aside0.mk (blk_below (g := gb320) (o := .cells #[.int .i64 a1_0, .int .i64 a1_1, .int .u32 a1_2, .int .i64 a1_3, .int .u32 a1_4, .int .i64 a1_5, .int .i64 a1_6, .int .i64 a1_7, .int .i64 a1_8, .int .i64 a1_9, .int .i64 a1_10, .bool a1_11] 42 (0, 0)) (by (with_reducible repeat (first | refine blk_drewN ?_ _ | refine blk_drew ?_ | refine blk_alloc ?_ _)); exact BK320.out) hb); have n2_ := Aside0.mk (below_step (by repeat (first | (with_reducible first | exact HB.out | apply below_alloc | apply pw_below_drewN | apply below_drew1 | refine below_set ?_ GE319.out | refine below_set ?_ GE320.out) | exact HB.out)) hb); clear BK319; clear BK320; clear HB; have BK319 := n0_; have BK320 := n1_; have HB := n2_; clear n0_ n1_ n2_; (try clear hb); (try clear hb2); (try clear hk); (try clear hi); have hcz32_0 : w31.cell? ⟨gb320, 0, none⟩ = some (.int .i64 a1_0) := (blk_cell BK320.out 0).trans rfl; have hcz32_1 : w31.cell? ⟨gb320, 1, none⟩ = some (.int .i64 a1_1) := (blk_cell BK320.out 1).trans rfl; have hcz32_2 : w31.cell? ⟨gb320, 2, none⟩ = some (.int .u32 a1_2) := (blk_cell BK320.out 2).trans rfl; have hcz32_3 : w31.cell? ⟨gb320, 3, none⟩ = some (.int .i64 a1_3) := (blk_cell BK320.out 3).trans rfl; have hcz32_4 : w31.cell? ⟨gb320, 4, none⟩ = some (.int .u32 a1_4) := (blk_cell BK320.out 4).trans rfl; have hcz32_5 : w31.cell? ⟨gb320, 5, none⟩ = some (.int .i64 a1_5) := (blk_cell BK320.out 5).trans rfl; have hcz32_6 : w31.cell? ⟨gb320, 6, none⟩ = some (.int .i64 a1_6) := (blk_cell BK320.out 6).trans rfl; have hcz32_7 : w31.cell? ⟨gb320, 7, none⟩ = some (.int .i64 a1_7) := (blk_cell BK320.out 7).trans rfl; have hcz32_8 : w31.cell? ⟨gb320, 8, none⟩ = some (.int .i64 a1_8) := (blk_cell BK320.out 8).trans rfl; have hcz32_9 : w31.cell? ⟨gb320, 9, none⟩ = some (.int .i64 a1_9) := (blk_cell BK320.out 9).trans rfl; have hcz32_10 : w31.cell? ⟨gb320, 10, none⟩ = some (.int .i64 a1_10) := (blk_cell BK320.out 10).trans rfl; have hcz32_11 : w31.cell? ⟨gb320, 11, none⟩ = some (.bool a1_11) := (blk_cell BK320.out 11).trans rfl; have hfz32_0 := blk_frozen BK320.out 0; have hfz32_1 := blk_frozen BK320.out 1; have hfz32_2 := blk_frozen BK320.out 2; have hfz32_3 := blk_frozen BK320.out 3; have hfz32_4 := blk_frozen BK320.out 4; have hfz32_5 := blk_frozen BK320.out 5; have hfz32_6 := blk_frozen BK320.out 6; have hfz32_7 := blk_frozen BK320.out 7; have hfz32_8 := blk_frozen BK320.out 8; have hfz32_9 := blk_frozen BK320.out 9; have hfz32_10 := blk_frozen BK320.out 10; have hfz32_11 := blk_frozen BK320.out 11) | (go_at_call 23; (with_reducible refine (gueriteref15_Right.calls k a1_0 a1_1 a1_2 a1_3 a1_4 a1_5 a1_6 a1_7 a1_8 a1_9 a1_10 a1_11 true _ A8.out).mono ?_); rintro e w33 ⟨rfl, hb⟩; have n0_ := Aside0.mk (blk_below (g := gb319) (o := .cells #[.int .i64 a0_0, .int .i64 a0_1, .int .u32 a0_2, .int .i64 a0_3, .int .u32 a0_4, .int .i64 a0_5, .int .i64 a0_6, .int .i64 a0_7, .int .i64 a0_8, .int .i64 a0_9, .int .i64 a0_10, .bool a0_11] 42 (0, 0)) (by (with_reducible repeat (first | refine blk_drewN ?_ _ | refine blk_drew ?_ | refine blk_alloc ?_ _)); exact BK319.out) hb); have n1_ := Aside0.mk (blk_below (g := gb320) (o := .cells #[.int .i64 a1_0, .int .i64 a1_1, .int .u32 a1_2, .int .i64 a1_3, .int .u32 a1_4, .int .i64 a1_5, .int .i64 a1_6, .int .i64 a1_7, .int .i64 a1_8, .int .i64 a1_9, .int .i64 a1_10, .bool a1_11] 42 (0, 0)) (by (with_reducible repeat (first | refine blk_drewN ?_ _ | refine blk_drew ?_ | refine blk_alloc ?_ _)); exact BK320.out) hb); have n2_ := Aside0.mk (below_step (by repeat (first | (with_reducible first | exact HB.out | apply below_alloc | apply pw_below_drewN | apply below_drew1 | refine below_set ?_ GE319.out | refine below_set ?_ GE320.out) | exact HB.out)) hb); clear BK319; clear BK320; clear HB; have BK319 := n0_; have BK320 := n1_; have HB := n2_; clear n0_ n1_ n2_; (try clear hb); (try clear hb2); (try clear hk); (try clear hi); have hcz34_0 : w33.cell? ⟨gb319, 0, none⟩ = some (.int .i64 a0_0) := (blk_cell BK319.out 0).trans rfl; have hcz34_1 : w33.cell? ⟨gb319, 1, none⟩ = some (.int .i64 a0_1) := (blk_cell BK319.out 1).trans rfl; have hcz34_2 : w33.cell? ⟨gb319, 2, none⟩ = some (.int .u32 a0_2) := (blk_cell BK319.out 2).trans rfl; have hcz34_3 : w33.cell? ⟨gb319, 3, none⟩ = some (.int .i64 a0_3) := (blk_cell BK319.out 3).trans rfl; have hcz34_4 : w33.cell? ⟨gb319, 4, none⟩ = some (.int .u32 a0_4) := (blk_cell BK319.out 4).trans rfl; have hcz34_5 : w33.cell? ⟨gb319, 5, none⟩ = some (.int .i64 a0_5) := (blk_cell BK319.out 5).trans rfl; have hcz34_6 : w33.cell? ⟨gb319, 6, none⟩ = some (.int .i64 a0_6) := (blk_cell BK319.out 6).trans rfl; have hcz34_7 : w33.cell? ⟨gb319, 7, none⟩ = some (.int .i64 a0_7) := (blk_cell BK319.out 7).trans rfl; have hcz34_8 : w33.cell? ⟨gb319, 8, none⟩ = some (.int .i64 a0_8) := (blk_cell BK319.out 8).trans rfl; have hcz34_9 : w33.cell? ⟨gb319, 9, none⟩ = some (.int .i64 a0_9) := (blk_cell BK319.out 9).trans rfl; have hcz34_10 : w33.cell? ⟨gb319, 10, none⟩ = some (.int .i64 a0_10) := (blk_cell BK319.out 10).trans rfl; have hcz34_11 : w33.cell? ⟨gb319, 11, none⟩ = some (.bool a0_11) := (blk_cell BK319.out 11).trans rfl; have hfz34_0 := blk_frozen BK319.out 0; have hfz34_1 := blk_frozen BK319.out 1; have hfz34_2 := blk_frozen BK319.out 2; have hfz34_3 := blk_frozen BK319.out 3; have hfz34_4 := blk_frozen BK319.out 4; have hfz34_5 := blk_frozen BK319.out 5; have hfz34_6 := blk_frozen BK319.out 6; have hfz34_7 := blk_frozen BK319.out 7; have hfz34_8 := blk_frozen BK319.out 8; have hfz34_9 := blk_frozen BK319.out 9; have hfz34_10 := blk_frozen BK319.out 10; have hfz34_11 := blk_frozen BK319.out 11; have hcz35_0 : w33.cell? ⟨gb320, 0, none⟩ = some (.int .i64 a1_0) := (blk_cell BK320.out 0).trans rfl; have hcz35_1 : w33.cell? ⟨gb320, 1, none⟩ = some (.int .i64 a1_1) := (blk_cell BK320.out 1).trans rfl; have hcz35_2 : w33.cell? ⟨gb320, 2, none⟩ = some (.int .u32 a1_2) := (blk_cell BK320.out 2).trans rfl; have hcz35_3 : w33.cell? ⟨gb320, 3, none⟩ = some (.int .i64 a1_3) := (blk_cell BK320.out 3).trans rfl; have hcz35_4 : w33.cell? ⟨gb320, 4, none⟩ = some (.int .u32 a1_4) := (blk_cell BK320.out 4).trans rfl; have hcz35_5 : w33.cell? ⟨gb320, 5, none⟩ = some (.int .i64 a1_5) := (blk_cell BK320.out 5).trans rfl; have hcz35_6 : w33.cell? ⟨gb320, 6, none⟩ = some (.int .i64 a1_6) := (blk_cell BK320.out 6).trans rfl; have hcz35_7 : w33.cell? ⟨gb320, 7, none⟩ = some (.int .i64 a1_7) := (blk_cell BK320.out 7).trans rfl; have hcz35_8 : w33.cell? ⟨gb320, 8, none⟩ = some (.int .i64 a1_8) := (blk_cell BK320.out 8).trans rfl; have hcz35_9 : w33.cell? ⟨gb320, 9, none⟩ = some (.int .i64 a1_9) := (blk_cell BK320.out 9).trans rfl; have hcz35_10 : w33.cell? ⟨gb320, 10, none⟩ = some (.int .i64 a1_10) := (blk_cell BK320.out 10).trans rfl; have hcz35_11 : w33.cell? ⟨gb320, 11, none⟩ = some (.bool a1_11) := (blk_cell BK320.out 11).trans rfl; have hfz35_0 := blk_frozen BK320.out 0; have hfz35_1 := blk_frozen BK320.out 1; have hfz35_2 := blk_frozen BK320.out 2; have hfz35_3 := blk_frozen BK320.out 3; have hfz35_4 := blk_frozen BK320.out 4; have hfz35_5 := blk_frozen BK320.out 5; have hfz35_6 := blk_frozen BK320.out 6; have hfz35_7 := blk_frozen BK320.out 7; have hfz35_8 := blk_frozen BK320.out 8; have hfz35_9 := blk_frozen BK320.out 9; have hfz35_10 := blk_frozen BK320.out 10; have hfz35_11 := blk_frozen BK320.out 11) | (go_at_call 50; (with_reducible refine (gueriteref15_wide.calls a0_0 a1_0 false _ A10.out).mono ?_); rintro e w' ⟨rfl, ⟨nd, rfl⟩⟩))
          go_meet
          case rel => exact ⟨_, (true), (by first | rfl | (simp; done) | (simp [*]; done)), H', ⟨by first | omega | exact Nat.le_refl _⟩, ⟨by (with_reducible repeat (first | refine blk_drewN ?_ _ | refine blk_drew ?_ | refine blk_alloc ?_ _)); exact BK319.out⟩, ⟨by (with_reducible repeat (first | refine blk_drewN ?_ _ | refine blk_drew ?_ | refine blk_alloc ?_ _)); exact BK320.out⟩, ⟨by repeat (first | (with_reducible first | exact HB.out | apply below_alloc | apply pw_below_drewN | apply below_drew1 | refine below_set ?_ GE319.out | refine below_set ?_ GE320.out) | exact HB.out)⟩⟩
      · replace c9 := Bool.eq_false_iff.mpr c9
        subst c9
        have H1 : (gueriteref15_Covers.j0 k true a0_0 a0_1 a0_2 a0_3 a0_4 a0_5 a0_6 a0_7 a0_8 a0_9 a0_10 a0_11 a1_0 a1_1 a1_2 a1_3 a1_4 a1_5 a1_6 a1_7 a1_8 a1_9 a1_10 a1_11) = some r := by rw [if_neg (show ¬ (false = true) by decide)] at H; exact H
        clear H
        have H := H1
        clear H1
        have H' := Aside0.mk H
        clear H
        have hnb36 := NB319_320.out
        have hnc36 := NB320_319.out
        have hcz37_0 : w5.cell? ⟨gb319, 0, none⟩ = some (.int .i64 a0_0) := (blk_cell BK319.out 0).trans rfl
        have hcz37_1 : w5.cell? ⟨gb319, 1, none⟩ = some (.int .i64 a0_1) := (blk_cell BK319.out 1).trans rfl
        have hcz37_2 : w5.cell? ⟨gb319, 2, none⟩ = some (.int .u32 a0_2) := (blk_cell BK319.out 2).trans rfl
        have hcz37_3 : w5.cell? ⟨gb319, 3, none⟩ = some (.int .i64 a0_3) := (blk_cell BK319.out 3).trans rfl
        have hcz37_4 : w5.cell? ⟨gb319, 4, none⟩ = some (.int .u32 a0_4) := (blk_cell BK319.out 4).trans rfl
        have hcz37_5 : w5.cell? ⟨gb319, 5, none⟩ = some (.int .i64 a0_5) := (blk_cell BK319.out 5).trans rfl
        have hcz37_6 : w5.cell? ⟨gb319, 6, none⟩ = some (.int .i64 a0_6) := (blk_cell BK319.out 6).trans rfl
        have hcz37_7 : w5.cell? ⟨gb319, 7, none⟩ = some (.int .i64 a0_7) := (blk_cell BK319.out 7).trans rfl
        have hcz37_8 : w5.cell? ⟨gb319, 8, none⟩ = some (.int .i64 a0_8) := (blk_cell BK319.out 8).trans rfl
        have hcz37_9 : w5.cell? ⟨gb319, 9, none⟩ = some (.int .i64 a0_9) := (blk_cell BK319.out 9).trans rfl
        have hcz37_10 : w5.cell? ⟨gb319, 10, none⟩ = some (.int .i64 a0_10) := (blk_cell BK319.out 10).trans rfl
        have hcz37_11 : w5.cell? ⟨gb319, 11, none⟩ = some (.bool a0_11) := (blk_cell BK319.out 11).trans rfl
        have hfz37_0 := blk_frozen BK319.out 0
        have hfz37_1 := blk_frozen BK319.out 1
        have hfz37_2 := blk_frozen BK319.out 2
        have hfz37_3 := blk_frozen BK319.out 3
        have hfz37_4 := blk_frozen BK319.out 4
        have hfz37_5 := blk_frozen BK319.out 5
        have hfz37_6 := blk_frozen BK319.out 6
        have hfz37_7 := blk_frozen BK319.out 7
        have hfz37_8 := blk_frozen BK319.out 8
        have hfz37_9 := blk_frozen BK319.out 9
        have hfz37_10 := blk_frozen BK319.out 10
        have hfz37_11 := blk_frozen BK319.out 11
        go_wp2_with (first | ((with_reducible refine gate_callee (f := 23) rfl ?_); refine goesL_ (some 6) rfl rfl Try.func23 (by kernel_rfl) rfl #[.agg #[.int .i64 a0_0, .int .i64 a0_1, .int .u32 a0_2, .int .i64 a0_3, .int .u32 a0_4, .int .i64 a0_5, .int .i64 a0_6, .int .i64 a0_7, .int .i64 a0_8, .int .i64 a0_9, .int .i64 a0_10, .bool a0_11]] rfl (by (try simp only [List.map_toArray, List.map_cons, List.map_nil]); first | done | rfl | (simp only [List.length_drop, List.length_take]; rfl)) ?_; (with_reducible refine (gueriteref15_Right.calls k a0_0 a0_1 a0_2 a0_3 a0_4 a0_5 a0_6 a0_7 a0_8 a0_9 a0_10 a0_11 true _ A6.out).mono ?_); rintro e w38 ⟨rfl, hb⟩; refine ⟨_, rfl, ?_⟩; have n0_ := Aside0.mk (blk_below (g := gb319) (o := .cells #[.int .i64 a0_0, .int .i64 a0_1, .int .u32 a0_2, .int .i64 a0_3, .int .u32 a0_4, .int .i64 a0_5, .int .i64 a0_6, .int .i64 a0_7, .int .i64 a0_8, .int .i64 a0_9, .int .i64 a0_10, .bool a0_11] 42 (0, 0)) (by (with_reducible repeat (first | refine blk_drewN ?_ _ | refine blk_drew ?_ | refine blk_alloc ?_ _)); exact BK319.out) hb); have n1_ := Aside0.mk (blk_below (g := gb320) (o := .cells #[.int .i64 a1_0, .int .i64 a1_1, .int .u32 a1_2, .int .i64 a1_3, .int .u32 a1_4, .int .i64 a1_5, .int .i64 a1_6, .int .i64 a1_7, .int .i64 a1_8, .int .i64 a1_9, .int .i64 a1_10, .bool a1_11] 42 (0, 0)) (by (with_reducible repeat (first | refine blk_drewN ?_ _ | refine blk_drew ?_ | refine blk_alloc ?_ _)); exact BK320.out) hb); have n2_ := Aside0.mk (below_step (by repeat (first | (with_reducible first | exact HB.out | apply below_alloc | apply pw_below_drewN | apply below_drew1 | refine below_set ?_ GE319.out | refine below_set ?_ GE320.out) | exact HB.out)) hb); clear BK319; clear BK320; clear HB; have BK319 := n0_; have BK320 := n1_; have HB := n2_; clear n0_ n1_ n2_; (try clear hb); (try clear hb2); (try clear hk); (try clear hi); have hcz39_0 : w38.cell? ⟨gb320, 0, none⟩ = some (.int .i64 a1_0) := (blk_cell BK320.out 0).trans rfl; have hcz39_1 : w38.cell? ⟨gb320, 1, none⟩ = some (.int .i64 a1_1) := (blk_cell BK320.out 1).trans rfl; have hcz39_2 : w38.cell? ⟨gb320, 2, none⟩ = some (.int .u32 a1_2) := (blk_cell BK320.out 2).trans rfl; have hcz39_3 : w38.cell? ⟨gb320, 3, none⟩ = some (.int .i64 a1_3) := (blk_cell BK320.out 3).trans rfl; have hcz39_4 : w38.cell? ⟨gb320, 4, none⟩ = some (.int .u32 a1_4) := (blk_cell BK320.out 4).trans rfl; have hcz39_5 : w38.cell? ⟨gb320, 5, none⟩ = some (.int .i64 a1_5) := (blk_cell BK320.out 5).trans rfl; have hcz39_6 : w38.cell? ⟨gb320, 6, none⟩ = some (.int .i64 a1_6) := (blk_cell BK320.out 6).trans rfl; have hcz39_7 : w38.cell? ⟨gb320, 7, none⟩ = some (.int .i64 a1_7) := (blk_cell BK320.out 7).trans rfl; have hcz39_8 : w38.cell? ⟨gb320, 8, none⟩ = some (.int .i64 a1_8) := (blk_cell BK320.out 8).trans rfl; have hcz39_9 : w38.cell? ⟨gb320, 9, none⟩ = some (.int .i64 a1_9) := (blk_cell BK320.out 9).trans rfl; have hcz39_10 : w38.cell? ⟨gb320, 10, none⟩ = some (.int .i64 a1_10) := (blk_cell BK320.out 10).trans rfl; have hcz39_11 : w38.cell? ⟨gb320, 11, none⟩ = some (.bool a1_11) := (blk_cell BK320.out 11).trans rfl; have hfz39_0 := blk_frozen BK320.out 0; have hfz39_1 := blk_frozen BK320.out 1; have hfz39_2 := blk_frozen BK320.out 2; have hfz39_3 := blk_frozen BK320.out 3; have hfz39_4 := blk_frozen BK320.out 4; have hfz39_5 := blk_frozen BK320.out 5; have hfz39_6 := blk_frozen BK320.out 6; have hfz39_7 := blk_frozen BK320.out 7; have hfz39_8 := blk_frozen BK320.out 8; have hfz39_9 := blk_frozen BK320.out 9; have hfz39_10 := blk_frozen BK320.out 10; have hfz39_11 := blk_frozen BK320.out 11) | (go_at_call 23; (with_reducible refine (gueriteref15_Right.calls k a1_0 a1_1 a1_2 a1_3 a1_4 a1_5 a1_6 a1_7 a1_8 a1_9 a1_10 a1_11 false _ A8.out).mono ?_); rintro e w40 ⟨rfl, hb⟩; have n0_ := Aside0.mk (blk_below (g := gb319) (o := .cells #[.int .i64 a0_0, .int .i64 a0_1, .int .u32 a0_2, .int .i64 a0_3, .int .u32 a0_4, .int .i64 a0_5, .int .i64 a0_6, .int .i64 a0_7, .int .i64 a0_8, .int .i64 a0_9, .int .i64 a0_10, .bool a0_11] 42 (0, 0)) (by (with_reducible repeat (first | refine blk_drewN ?_ _ | refine blk_drew ?_ | refine blk_alloc ?_ _)); exact BK319.out) hb); have n1_ := Aside0.mk (blk_below (g := gb320) (o := .cells #[.int .i64 a1_0, .int .i64 a1_1, .int .u32 a1_2, .int .i64 a1_3, .int .u32 a1_4, .int .i64 a1_5, .int .i64 a1_6, .int .i64 a1_7, .int .i64 a1_8, .int .i64 a1_9, .int .i64 a1_10, .bool a1_11] 42 (0, 0)) (by (with_reducible repeat (first | refine blk_drewN ?_ _ | refine blk_drew ?_ | refine blk_alloc ?_ _)); exact BK320.out) hb); have n2_ := Aside0.mk (below_step (by repeat (first | (with_reducible first | exact HB.out | apply below_alloc | apply pw_below_drewN | apply below_drew1 | refine below_set ?_ GE319.out | refine below_set ?_ GE320.out) | exact HB.out)) hb); clear BK319; clear BK320; clear HB; have BK319 := n0_; have BK320 := n1_; have HB := n2_; clear n0_ n1_ n2_; (try clear hb); (try clear hb2); (try clear hk); (try clear hi)))
        go_meet
        case rel => exact ⟨_, (true), (by first | rfl | (simp; done) | (simp [*]; done)), H', ⟨by first | omega | exact Nat.le_refl _⟩, ⟨by (with_reducible repeat (first | refine blk_drewN ?_ _ | refine blk_drew ?_ | refine blk_alloc ?_ _)); exact BK319.out⟩, ⟨by (with_reducible repeat (first | refine blk_drewN ?_ _ | refine blk_drew ?_ | refine blk_alloc ?_ _)); exact BK320.out⟩, ⟨by repeat (first | (with_reducible first | exact HB.out | apply below_alloc | apply pw_below_drewN | apply below_drew1 | refine below_set ?_ GE319.out | refine below_set ?_ GE320.out) | exact HB.out)⟩⟩
    · replace c7 := Bool.eq_false_iff.mpr c7
      subst c7
      have H1 : (gueriteref15_Covers.j0 k true a0_0 a0_1 a0_2 a0_3 a0_4 a0_5 a0_6 a0_7 a0_8 a0_9 a0_10 a0_11 a1_0 a1_1 a1_2 a1_3 a1_4 a1_5 a1_6 a1_7 a1_8 a1_9 a1_10 a1_11) = some r := by rw [if_neg (show ¬ (false = true) by decide)] at H; exact H
      clear H
      have H := H1
      clear H1
      have H' := Aside0.mk H
      clear H
      have hnb41 := NB319_320.out
      have hnc41 := NB320_319.out
      have hcz42_0 : w5.cell? ⟨gb319, 0, none⟩ = some (.int .i64 a0_0) := (blk_cell BK319.out 0).trans rfl
      have hcz42_1 : w5.cell? ⟨gb319, 1, none⟩ = some (.int .i64 a0_1) := (blk_cell BK319.out 1).trans rfl
      have hcz42_2 : w5.cell? ⟨gb319, 2, none⟩ = some (.int .u32 a0_2) := (blk_cell BK319.out 2).trans rfl
      have hcz42_3 : w5.cell? ⟨gb319, 3, none⟩ = some (.int .i64 a0_3) := (blk_cell BK319.out 3).trans rfl
      have hcz42_4 : w5.cell? ⟨gb319, 4, none⟩ = some (.int .u32 a0_4) := (blk_cell BK319.out 4).trans rfl
      have hcz42_5 : w5.cell? ⟨gb319, 5, none⟩ = some (.int .i64 a0_5) := (blk_cell BK319.out 5).trans rfl
      have hcz42_6 : w5.cell? ⟨gb319, 6, none⟩ = some (.int .i64 a0_6) := (blk_cell BK319.out 6).trans rfl
      have hcz42_7 : w5.cell? ⟨gb319, 7, none⟩ = some (.int .i64 a0_7) := (blk_cell BK319.out 7).trans rfl
      have hcz42_8 : w5.cell? ⟨gb319, 8, none⟩ = some (.int .i64 a0_8) := (blk_cell BK319.out 8).trans rfl
      have hcz42_9 : w5.cell? ⟨gb319, 9, none⟩ = some (.int .i64 a0_9) := (blk_cell BK319.out 9).trans rfl
      have hcz42_10 : w5.cell? ⟨gb319, 10, none⟩ = some (.int .i64 a0_10) := (blk_cell BK319.out 10).trans rfl
      have hcz42_11 : w5.cell? ⟨gb319, 11, none⟩ = some (.bool a0_11) := (blk_cell BK319.out 11).trans rfl
      have hfz42_0 := blk_frozen BK319.out 0
      have hfz42_1 := blk_frozen BK319.out 1
      have hfz42_2 := blk_frozen BK319.out 2
      have hfz42_3 := blk_frozen BK319.out 3
      have hfz42_4 := blk_frozen BK319.out 4
      have hfz42_5 := blk_frozen BK319.out 5
      have hfz42_6 := blk_frozen BK319.out 6
      have hfz42_7 := blk_frozen BK319.out 7
      have hfz42_8 := blk_frozen BK319.out 8
      have hfz42_9 := blk_frozen BK319.out 9
      have hfz42_10 := blk_frozen BK319.out 10
      have hfz42_11 := blk_frozen BK319.out 11
      go_wp2_with (first | ((with_reducible refine gate_callee (f := 23) rfl ?_); refine goesL_ (some 6) rfl rfl Try.func23 (by kernel_rfl) rfl #[.agg #[.int .i64 a0_0, .int .i64 a0_1, .int .u32 a0_2, .int .i64 a0_3, .int .u32 a0_4, .int .i64 a0_5, .int .i64 a0_6, .int .i64 a0_7, .int .i64 a0_8, .int .i64 a0_9, .int .i64 a0_10, .bool a0_11]] rfl (by (try simp only [List.map_toArray, List.map_cons, List.map_nil]); first | done | rfl | (simp only [List.length_drop, List.length_take]; rfl)) ?_; (with_reducible refine (gueriteref15_Right.calls k a0_0 a0_1 a0_2 a0_3 a0_4 a0_5 a0_6 a0_7 a0_8 a0_9 a0_10 a0_11 false _ A6.out).mono ?_); rintro e w43 ⟨rfl, hb⟩; refine ⟨_, rfl, ?_⟩; have n0_ := Aside0.mk (blk_below (g := gb319) (o := .cells #[.int .i64 a0_0, .int .i64 a0_1, .int .u32 a0_2, .int .i64 a0_3, .int .u32 a0_4, .int .i64 a0_5, .int .i64 a0_6, .int .i64 a0_7, .int .i64 a0_8, .int .i64 a0_9, .int .i64 a0_10, .bool a0_11] 42 (0, 0)) (by (with_reducible repeat (first | refine blk_drewN ?_ _ | refine blk_drew ?_ | refine blk_alloc ?_ _)); exact BK319.out) hb); have n1_ := Aside0.mk (blk_below (g := gb320) (o := .cells #[.int .i64 a1_0, .int .i64 a1_1, .int .u32 a1_2, .int .i64 a1_3, .int .u32 a1_4, .int .i64 a1_5, .int .i64 a1_6, .int .i64 a1_7, .int .i64 a1_8, .int .i64 a1_9, .int .i64 a1_10, .bool a1_11] 42 (0, 0)) (by (with_reducible repeat (first | refine blk_drewN ?_ _ | refine blk_drew ?_ | refine blk_alloc ?_ _)); exact BK320.out) hb); have n2_ := Aside0.mk (below_step (by repeat (first | (with_reducible first | exact HB.out | apply below_alloc | apply pw_below_drewN | apply below_drew1 | refine below_set ?_ GE319.out | refine below_set ?_ GE320.out) | exact HB.out)) hb); clear BK319; clear BK320; clear HB; have BK319 := n0_; have BK320 := n1_; have HB := n2_; clear n0_ n1_ n2_; (try clear hb); (try clear hb2); (try clear hk); (try clear hi)))
      go_meet
      case rel => exact ⟨_, (true), (by first | rfl | (simp; done) | (simp [*]; done)), H', ⟨by first | omega | exact Nat.le_refl _⟩, ⟨by (with_reducible repeat (first | refine blk_drewN ?_ _ | refine blk_drew ?_ | refine blk_alloc ?_ _)); exact BK319.out⟩, ⟨by (with_reducible repeat (first | refine blk_drewN ?_ _ | refine blk_drew ?_ | refine blk_alloc ?_ _)); exact BK320.out⟩, ⟨by repeat (first | (with_reducible first | exact HB.out | apply below_alloc | apply pw_below_drewN | apply below_drew1 | refine below_set ?_ GE319.out | refine below_set ?_ GE320.out) | exact HB.out)⟩⟩
  case rest =>
    clear HC3
    try clear c1
    try clear c2
    try clear p2
    try clear c3
    try clear c4
    try clear c7
    try clear c9
    try clear c11
    try clear c13
    try clear c15
    try clear c22
    try clear c23
    try clear c28
    try clear c29
    try clear c36
    try clear c41
    try clear hcz16_0
    try clear hcz16_1
    try clear hcz16_10
    try clear hcz16_11
    try clear hcz16_2
    try clear hcz16_3
    try clear hcz16_4
    try clear hcz16_5
    try clear hcz16_6
    try clear hcz16_7
    try clear hcz16_8
    try clear hcz16_9
    try clear hcz18_0
    try clear hcz18_1
    try clear hcz18_10
    try clear hcz18_11
    try clear hcz18_2
    try clear hcz18_3
    try clear hcz18_4
    try clear hcz18_5
    try clear hcz18_6
    try clear hcz18_7
    try clear hcz18_8
    try clear hcz18_9
    try clear hcz20_0
    try clear hcz20_1
    try clear hcz20_10
    try clear hcz20_11
    try clear hcz20_2
    try clear hcz20_3
    try clear hcz20_4
    try clear hcz20_5
    try clear hcz20_6
    try clear hcz20_7
    try clear hcz20_8
    try clear hcz20_9
    try clear hcz21_0
    try clear hcz21_1
    try clear hcz21_10
    try clear hcz21_11
    try clear hcz21_2
    try clear hcz21_3
    try clear hcz21_4
    try clear hcz21_5
    try clear hcz21_6
    try clear hcz21_7
    try clear hcz21_8
    try clear hcz21_9
    try clear hcz23_0
    try clear hcz23_1
    try clear hcz23_10
    try clear hcz23_11
    try clear hcz23_2
    try clear hcz23_3
    try clear hcz23_4
    try clear hcz23_5
    try clear hcz23_6
    try clear hcz23_7
    try clear hcz23_8
    try clear hcz23_9
    try clear hcz25_0
    try clear hcz25_1
    try clear hcz25_10
    try clear hcz25_11
    try clear hcz25_2
    try clear hcz25_3
    try clear hcz25_4
    try clear hcz25_5
    try clear hcz25_6
    try clear hcz25_7
    try clear hcz25_8
    try clear hcz25_9
    try clear hcz27_0
    try clear hcz27_1
    try clear hcz27_10
    try clear hcz27_11
    try clear hcz27_2
    try clear hcz27_3
    try clear hcz27_4
    try clear hcz27_5
    try clear hcz27_6
    try clear hcz27_7
    try clear hcz27_8
    try clear hcz27_9
    try clear hcz28_0
    try clear hcz28_1
    try clear hcz28_10
    try clear hcz28_11
    try clear hcz28_2
    try clear hcz28_3
    try clear hcz28_4
    try clear hcz28_5
    try clear hcz28_6
    try clear hcz28_7
    try clear hcz28_8
    try clear hcz28_9
    try clear hcz30_0
    try clear hcz30_1
    try clear hcz30_10
    try clear hcz30_11
    try clear hcz30_2
    try clear hcz30_3
    try clear hcz30_4
    try clear hcz30_5
    try clear hcz30_6
    try clear hcz30_7
    try clear hcz30_8
    try clear hcz30_9
    try clear hcz32_0
    try clear hcz32_1
    try clear hcz32_10
    try clear hcz32_11
    try clear hcz32_2
    try clear hcz32_3
    try clear hcz32_4
    try clear hcz32_5
    try clear hcz32_6
    try clear hcz32_7
    try clear hcz32_8
    try clear hcz32_9
    try clear hcz34_0
    try clear hcz34_1
    try clear hcz34_10
    try clear hcz34_11
    try clear hcz34_2
    try clear hcz34_3
    try clear hcz34_4
    try clear hcz34_5
    try clear hcz34_6
    try clear hcz34_7
    try clear hcz34_8
    try clear hcz34_9
    try clear hcz35_0
    try clear hcz35_1
    try clear hcz35_10
    try clear hcz35_11
    try clear hcz35_2
    try clear hcz35_3
    try clear hcz35_4
    try clear hcz35_5
    try clear hcz35_6
    try clear hcz35_7
    try clear hcz35_8
    try clear hcz35_9
    try clear hcz37_0
    try clear hcz37_1
    try clear hcz37_10
    try clear hcz37_11
    try clear hcz37_2
    try clear hcz37_3
    try clear hcz37_4
    try clear hcz37_5
    try clear hcz37_6
    try clear hcz37_7
    try clear hcz37_8
    try clear hcz37_9
    try clear hcz39_0
    try clear hcz39_1
    try clear hcz39_10
    try clear hcz39_11
    try clear hcz39_2
    try clear hcz39_3
    try clear hcz39_4
    try clear hcz39_5
    try clear hcz39_6
    try clear hcz39_7
    try clear hcz39_8
    try clear hcz39_9
    try clear hcz42_0
    try clear hcz42_1
    try clear hcz42_10
    try clear hcz42_11
    try clear hcz42_2
    try clear hcz42_3
    try clear hcz42_4
    try clear hcz42_5
    try clear hcz42_6
    try clear hcz42_7
    try clear hcz42_8
    try clear hcz42_9
    try clear hfz16_0
    try clear hfz16_1
    try clear hfz16_10
    try clear hfz16_11
    try clear hfz16_2
    try clear hfz16_3
    try clear hfz16_4
    try clear hfz16_5
    try clear hfz16_6
    try clear hfz16_7
    try clear hfz16_8
    try clear hfz16_9
    try clear hfz18_0
    try clear hfz18_1
    try clear hfz18_10
    try clear hfz18_11
    try clear hfz18_2
    try clear hfz18_3
    try clear hfz18_4
    try clear hfz18_5
    try clear hfz18_6
    try clear hfz18_7
    try clear hfz18_8
    try clear hfz18_9
    try clear hfz20_0
    try clear hfz20_1
    try clear hfz20_10
    try clear hfz20_11
    try clear hfz20_2
    try clear hfz20_3
    try clear hfz20_4
    try clear hfz20_5
    try clear hfz20_6
    try clear hfz20_7
    try clear hfz20_8
    try clear hfz20_9
    try clear hfz21_0
    try clear hfz21_1
    try clear hfz21_10
    try clear hfz21_11
    try clear hfz21_2
    try clear hfz21_3
    try clear hfz21_4
    try clear hfz21_5
    try clear hfz21_6
    try clear hfz21_7
    try clear hfz21_8
    try clear hfz21_9
    try clear hfz23_0
    try clear hfz23_1
    try clear hfz23_10
    try clear hfz23_11
    try clear hfz23_2
    try clear hfz23_3
    try clear hfz23_4
    try clear hfz23_5
    try clear hfz23_6
    try clear hfz23_7
    try clear hfz23_8
    try clear hfz23_9
    try clear hfz25_0
    try clear hfz25_1
    try clear hfz25_10
    try clear hfz25_11
    try clear hfz25_2
    try clear hfz25_3
    try clear hfz25_4
    try clear hfz25_5
    try clear hfz25_6
    try clear hfz25_7
    try clear hfz25_8
    try clear hfz25_9
    try clear hfz27_0
    try clear hfz27_1
    try clear hfz27_10
    try clear hfz27_11
    try clear hfz27_2
    try clear hfz27_3
    try clear hfz27_4
    try clear hfz27_5
    try clear hfz27_6
    try clear hfz27_7
    try clear hfz27_8
    try clear hfz27_9
    try clear hfz28_0
    try clear hfz28_1
    try clear hfz28_10
    try clear hfz28_11
    try clear hfz28_2
    try clear hfz28_3
    try clear hfz28_4
    try clear hfz28_5
    try clear hfz28_6
    try clear hfz28_7
    try clear hfz28_8
    try clear hfz28_9
    try clear hfz30_0
    try clear hfz30_1
    try clear hfz30_10
    try clear hfz30_11
    try clear hfz30_2
    try clear hfz30_3
    try clear hfz30_4
    try clear hfz30_5
    try clear hfz30_6
    try clear hfz30_7
    try clear hfz30_8
    try clear hfz30_9
    try clear hfz32_0
    try clear hfz32_1
    try clear hfz32_10
    try clear hfz32_11
    try clear hfz32_2
    try clear hfz32_3
    try clear hfz32_4
    try clear hfz32_5
    try clear hfz32_6
    try clear hfz32_7
    try clear hfz32_8
    try clear hfz32_9
    try clear hfz34_0
    try clear hfz34_1
    try clear hfz34_10
    try clear hfz34_11
    try clear hfz34_2
    try clear hfz34_3
    try clear hfz34_4
    try clear hfz34_5
    try clear hfz34_6
    try clear hfz34_7
    try clear hfz34_8
    try clear hfz34_9
    try clear hfz35_0
    try clear hfz35_1
    try clear hfz35_10
    try clear hfz35_11
    try clear hfz35_2
    try clear hfz35_3
    try clear hfz35_4
    try clear hfz35_5
    try clear hfz35_6
    try clear hfz35_7
    try clear hfz35_8
    try clear hfz35_9
    try clear hfz37_0
    try clear hfz37_1
    try clear hfz37_10
    try clear hfz37_11
    try clear hfz37_2
    try clear hfz37_3
    try clear hfz37_4
    try clear hfz37_5
    try clear hfz37_6
    try clear hfz37_7
    try clear hfz37_8
    try clear hfz37_9
    try clear hfz39_0
    try clear hfz39_1
    try clear hfz39_10
    try clear hfz39_11
    try clear hfz39_2
    try clear hfz39_3
    try clear hfz39_4
    try clear hfz39_5
    try clear hfz39_6
    try clear hfz39_7
    try clear hfz39_8
    try clear hfz39_9
    try clear hfz42_0
    try clear hfz42_1
    try clear hfz42_10
    try clear hfz42_11
    try clear hfz42_2
    try clear hfz42_3
    try clear hfz42_4
    try clear hfz42_5
    try clear hfz42_6
    try clear hfz42_7
    try clear hfz42_8
    try clear hfz42_9
    obtain ⟨kq, x36_2, rfl, HA, HJ2, BK319, BK320, HB⟩ := hcut
    cases kq with
    | zero => exact absurd HA.out (by simp [gueriteref15_Covers.j0])
    | succ kj2 =>
      have H := HA.out
      clear HA
      simp only [gueriteref15_Covers.j0] at H
      by_cases c44 : x36_2 = true
      · subst c44
        have H1 : (some false) = some r := by rw [if_pos rfl] at H; exact H
        clear H
        have H := H1
        clear H1
        obtain rfl := Option.some.inj H
        go_wp2
        go_ret
        exact ⟨by first | rfl | (simp [errW_none, errW_some] <;> rfl) | (simp [*, errW_none, errW_some] <;> rfl), by repeat (first | (with_reducible first | exact HB.out | apply below_alloc | apply pw_below_drewN | apply below_drew1 | refine below_set ?_ GE319.out | refine below_set ?_ GE320.out) | exact HB.out)⟩
      · replace c44 := Bool.eq_false_iff.mpr c44
        subst c44
        have H1 : ((gueriteref03_Within.f kj2 a1_2 a1_3 a0_2 a0_3).bind fun t326 => (if t326 = true then ((gueriteref03_Within.f kj2 a1_4 a1_5 a0_4 a0_5).bind fun t327 => (if t327 = true then (if a0_7 ≤ a1_7 then (if a0_8 ≥ a1_8 then (if a0_9 ≤ a1_9 then (some (decide (a0_10 ≥ a1_10))) else (some false)) else (some false)) else (some false)) else (some false))) else (some false))) = some r := by rw [if_neg (show ¬ (false = true) by decide)] at H; exact H
        clear H
        have H := H1
        clear H1
        replace H := Option.bind_eq_some_iff.mp H
        obtain ⟨t326, A450, H⟩ := H
        replace H : (if t326 = true then ((gueriteref03_Within.f kj2 a1_4 a1_5 a0_4 a0_5).bind fun t327 => (if t327 = true then (if a0_7 ≤ a1_7 then (if a0_8 ≥ a1_8 then (if a0_9 ≤ a1_9 then (some (decide (a0_10 ≥ a1_10))) else (some false)) else (some false)) else (some false)) else (some false))) else (some false)) = some r := H
        have A45 := Aside0.mk A450
        clear A450
        by_cases c46 : t326 = true
        · subst c46
          have H1 : ((gueriteref03_Within.f kj2 a1_4 a1_5 a0_4 a0_5).bind fun t327 => (if t327 = true then (if a0_7 ≤ a1_7 then (if a0_8 ≥ a1_8 then (if a0_9 ≤ a1_9 then (some (decide (a0_10 ≥ a1_10))) else (some false)) else (some false)) else (some false)) else (some false))) = some r := by rw [if_pos rfl] at H; exact H
          clear H
          have H := H1
          clear H1
          replace H := Option.bind_eq_some_iff.mp H
          obtain ⟨t327, A470, H⟩ := H
          replace H : (if t327 = true then (if a0_7 ≤ a1_7 then (if a0_8 ≥ a1_8 then (if a0_9 ≤ a1_9 then (some (decide (a0_10 ≥ a1_10))) else (some false)) else (some false)) else (some false)) else (some false)) = some r := H
          have A47 := Aside0.mk A470
          clear A470
          by_cases c48 : t327 = true
          · subst c48
            have H1 : (if a0_7 ≤ a1_7 then (if a0_8 ≥ a1_8 then (if a0_9 ≤ a1_9 then (some (decide (a0_10 ≥ a1_10))) else (some false)) else (some false)) else (some false)) = some r := by rw [if_pos rfl] at H; exact H
            clear H
            have H := H1
            clear H1
            by_cases c49 : a0_7 ≤ a1_7
            · rw [if_pos c49] at H
              have c49b0 : decide (a0_7 ≤ a1_7) = true := decide_eq_true c49
              clear c49
              by_cases c50 : a0_8 ≥ a1_8
              · rw [if_pos c50] at H
                have c50b0 : decide (a1_8 ≤ a0_8) = true := decide_eq_true c50
                clear c50
                by_cases c51 : a0_9 ≤ a1_9
                · rw [if_pos c51] at H
                  have c51b0 : decide (a0_9 ≤ a1_9) = true := decide_eq_true c51
                  clear c51
                  obtain rfl := Option.some.inj H
                  have hnb52 := NB320_319.out
                  have hnc52 := NB319_320.out
                  have hcz53_0 : wc.cell? ⟨gb320, 0, none⟩ = some (.int .i64 a1_0) := (blk_cell BK320.out 0).trans rfl
                  have hcz53_1 : wc.cell? ⟨gb320, 1, none⟩ = some (.int .i64 a1_1) := (blk_cell BK320.out 1).trans rfl
                  have hcz53_2 : wc.cell? ⟨gb320, 2, none⟩ = some (.int .u32 a1_2) := (blk_cell BK320.out 2).trans rfl
                  have hcz53_3 : wc.cell? ⟨gb320, 3, none⟩ = some (.int .i64 a1_3) := (blk_cell BK320.out 3).trans rfl
                  have hcz53_4 : wc.cell? ⟨gb320, 4, none⟩ = some (.int .u32 a1_4) := (blk_cell BK320.out 4).trans rfl
                  have hcz53_5 : wc.cell? ⟨gb320, 5, none⟩ = some (.int .i64 a1_5) := (blk_cell BK320.out 5).trans rfl
                  have hcz53_6 : wc.cell? ⟨gb320, 6, none⟩ = some (.int .i64 a1_6) := (blk_cell BK320.out 6).trans rfl
                  have hcz53_7 : wc.cell? ⟨gb320, 7, none⟩ = some (.int .i64 a1_7) := (blk_cell BK320.out 7).trans rfl
                  have hcz53_8 : wc.cell? ⟨gb320, 8, none⟩ = some (.int .i64 a1_8) := (blk_cell BK320.out 8).trans rfl
                  have hcz53_9 : wc.cell? ⟨gb320, 9, none⟩ = some (.int .i64 a1_9) := (blk_cell BK320.out 9).trans rfl
                  have hcz53_10 : wc.cell? ⟨gb320, 10, none⟩ = some (.int .i64 a1_10) := (blk_cell BK320.out 10).trans rfl
                  have hcz53_11 : wc.cell? ⟨gb320, 11, none⟩ = some (.bool a1_11) := (blk_cell BK320.out 11).trans rfl
                  have hfz53_0 := blk_frozen BK320.out 0
                  have hfz53_1 := blk_frozen BK320.out 1
                  have hfz53_2 := blk_frozen BK320.out 2
                  have hfz53_3 := blk_frozen BK320.out 3
                  have hfz53_4 := blk_frozen BK320.out 4
                  have hfz53_5 := blk_frozen BK320.out 5
                  have hfz53_6 := blk_frozen BK320.out 6
                  have hfz53_7 := blk_frozen BK320.out 7
                  have hfz53_8 := blk_frozen BK320.out 8
                  have hfz53_9 := blk_frozen BK320.out 9
                  have hfz53_10 := blk_frozen BK320.out 10
                  have hfz53_11 := blk_frozen BK320.out 11
                  have hcz54_0 : wc.cell? ⟨gb319, 0, none⟩ = some (.int .i64 a0_0) := (blk_cell BK319.out 0).trans rfl
                  have hcz54_1 : wc.cell? ⟨gb319, 1, none⟩ = some (.int .i64 a0_1) := (blk_cell BK319.out 1).trans rfl
                  have hcz54_2 : wc.cell? ⟨gb319, 2, none⟩ = some (.int .u32 a0_2) := (blk_cell BK319.out 2).trans rfl
                  have hcz54_3 : wc.cell? ⟨gb319, 3, none⟩ = some (.int .i64 a0_3) := (blk_cell BK319.out 3).trans rfl
                  have hcz54_4 : wc.cell? ⟨gb319, 4, none⟩ = some (.int .u32 a0_4) := (blk_cell BK319.out 4).trans rfl
                  have hcz54_5 : wc.cell? ⟨gb319, 5, none⟩ = some (.int .i64 a0_5) := (blk_cell BK319.out 5).trans rfl
                  have hcz54_6 : wc.cell? ⟨gb319, 6, none⟩ = some (.int .i64 a0_6) := (blk_cell BK319.out 6).trans rfl
                  have hcz54_7 : wc.cell? ⟨gb319, 7, none⟩ = some (.int .i64 a0_7) := (blk_cell BK319.out 7).trans rfl
                  have hcz54_8 : wc.cell? ⟨gb319, 8, none⟩ = some (.int .i64 a0_8) := (blk_cell BK319.out 8).trans rfl
                  have hcz54_9 : wc.cell? ⟨gb319, 9, none⟩ = some (.int .i64 a0_9) := (blk_cell BK319.out 9).trans rfl
                  have hcz54_10 : wc.cell? ⟨gb319, 10, none⟩ = some (.int .i64 a0_10) := (blk_cell BK319.out 10).trans rfl
                  have hcz54_11 : wc.cell? ⟨gb319, 11, none⟩ = some (.bool a0_11) := (blk_cell BK319.out 11).trans rfl
                  have hfz54_0 := blk_frozen BK319.out 0
                  have hfz54_1 := blk_frozen BK319.out 1
                  have hfz54_2 := blk_frozen BK319.out 2
                  have hfz54_3 := blk_frozen BK319.out 3
                  have hfz54_4 := blk_frozen BK319.out 4
                  have hfz54_5 := blk_frozen BK319.out 5
                  have hfz54_6 := blk_frozen BK319.out 6
                  have hfz54_7 := blk_frozen BK319.out 7
                  have hfz54_8 := blk_frozen BK319.out 8
                  have hfz54_9 := blk_frozen BK319.out 9
                  have hfz54_10 := blk_frozen BK319.out 10
                  have hfz54_11 := blk_frozen BK319.out 11
                  go_wp2_with (first | ((with_reducible refine gate_callee (f := 51) rfl ?_); refine goesL_ (some 41) rfl rfl Try.func51 (by kernel_rfl) rfl #[.agg #[.int .u32 a1_2, .int .i64 a1_3], .agg #[.int .u32 a0_2, .int .i64 a0_3]] rfl (by (try simp only [List.map_toArray, List.map_cons, List.map_nil]); first | done | rfl | (simp only [List.length_drop, List.length_take]; rfl)) ?_; (with_reducible refine (gueriteref03_Within.calls kj2 a1_2 a1_3 a0_2 a0_3 true _ A45.out).mono ?_); rintro e w55 ⟨rfl, hb⟩; refine ⟨_, rfl, ?_⟩; have n0_ := Aside0.mk (blk_below (g := gb319) (o := .cells #[.int .i64 a0_0, .int .i64 a0_1, .int .u32 a0_2, .int .i64 a0_3, .int .u32 a0_4, .int .i64 a0_5, .int .i64 a0_6, .int .i64 a0_7, .int .i64 a0_8, .int .i64 a0_9, .int .i64 a0_10, .bool a0_11] 42 (0, 0)) (by (with_reducible repeat (first | refine blk_drewN ?_ _ | refine blk_drew ?_ | refine blk_alloc ?_ _)); exact BK319.out) hb); have n1_ := Aside0.mk (blk_below (g := gb320) (o := .cells #[.int .i64 a1_0, .int .i64 a1_1, .int .u32 a1_2, .int .i64 a1_3, .int .u32 a1_4, .int .i64 a1_5, .int .i64 a1_6, .int .i64 a1_7, .int .i64 a1_8, .int .i64 a1_9, .int .i64 a1_10, .bool a1_11] 42 (0, 0)) (by (with_reducible repeat (first | refine blk_drewN ?_ _ | refine blk_drew ?_ | refine blk_alloc ?_ _)); exact BK320.out) hb); have n2_ := Aside0.mk (below_step (by repeat (first | (with_reducible first | exact HB.out | apply below_alloc | apply pw_below_drewN | apply below_drew1 | refine below_set ?_ GE319.out | refine below_set ?_ GE320.out) | exact HB.out)) hb); clear BK319; clear BK320; clear HB; have BK319 := n0_; have BK320 := n1_; have HB := n2_; clear n0_ n1_ n2_; (try clear hb); (try clear hb2); (try clear hk); (try clear hi); have hcz56_0 : w55.cell? ⟨gb320, 0, none⟩ = some (.int .i64 a1_0) := (blk_cell BK320.out 0).trans rfl; have hcz56_1 : w55.cell? ⟨gb320, 1, none⟩ = some (.int .i64 a1_1) := (blk_cell BK320.out 1).trans rfl; have hcz56_2 : w55.cell? ⟨gb320, 2, none⟩ = some (.int .u32 a1_2) := (blk_cell BK320.out 2).trans rfl; have hcz56_3 : w55.cell? ⟨gb320, 3, none⟩ = some (.int .i64 a1_3) := (blk_cell BK320.out 3).trans rfl; have hcz56_4 : w55.cell? ⟨gb320, 4, none⟩ = some (.int .u32 a1_4) := (blk_cell BK320.out 4).trans rfl; have hcz56_5 : w55.cell? ⟨gb320, 5, none⟩ = some (.int .i64 a1_5) := (blk_cell BK320.out 5).trans rfl; have hcz56_6 : w55.cell? ⟨gb320, 6, none⟩ = some (.int .i64 a1_6) := (blk_cell BK320.out 6).trans rfl; have hcz56_7 : w55.cell? ⟨gb320, 7, none⟩ = some (.int .i64 a1_7) := (blk_cell BK320.out 7).trans rfl; have hcz56_8 : w55.cell? ⟨gb320, 8, none⟩ = some (.int .i64 a1_8) := (blk_cell BK320.out 8).trans rfl; have hcz56_9 : w55.cell? ⟨gb320, 9, none⟩ = some (.int .i64 a1_9) := (blk_cell BK320.out 9).trans rfl; have hcz56_10 : w55.cell? ⟨gb320, 10, none⟩ = some (.int .i64 a1_10) := (blk_cell BK320.out 10).trans rfl; have hcz56_11 : w55.cell? ⟨gb320, 11, none⟩ = some (.bool a1_11) := (blk_cell BK320.out 11).trans rfl; have hfz56_0 := blk_frozen BK320.out 0; have hfz56_1 := blk_frozen BK320.out 1; have hfz56_2 := blk_frozen BK320.out 2; have hfz56_3 := blk_frozen BK320.out 3; have hfz56_4 := blk_frozen BK320.out 4; have hfz56_5 := blk_frozen BK320.out 5; have hfz56_6 := blk_frozen BK320.out 6; have hfz56_7 := blk_frozen BK320.out 7; have hfz56_8 := blk_frozen BK320.out 8; have hfz56_9 := blk_frozen BK320.out 9; have hfz56_10 := blk_frozen BK320.out 10; have hfz56_11 := blk_frozen BK320.out 11; have hcz57_0 : w55.cell? ⟨gb319, 0, none⟩ = some (.int .i64 a0_0) := (blk_cell BK319.out 0).trans rfl; have hcz57_1 : w55.cell? ⟨gb319, 1, none⟩ = some (.int .i64 a0_1) := (blk_cell BK319.out 1).trans rfl; have hcz57_2 : w55.cell? ⟨gb319, 2, none⟩ = some (.int .u32 a0_2) := (blk_cell BK319.out 2).trans rfl; have hcz57_3 : w55.cell? ⟨gb319, 3, none⟩ = some (.int .i64 a0_3) := (blk_cell BK319.out 3).trans rfl; have hcz57_4 : w55.cell? ⟨gb319, 4, none⟩ = some (.int .u32 a0_4) := (blk_cell BK319.out 4).trans rfl; have hcz57_5 : w55.cell? ⟨gb319, 5, none⟩ = some (.int .i64 a0_5) := (blk_cell BK319.out 5).trans rfl; have hcz57_6 : w55.cell? ⟨gb319, 6, none⟩ = some (.int .i64 a0_6) := (blk_cell BK319.out 6).trans rfl; have hcz57_7 : w55.cell? ⟨gb319, 7, none⟩ = some (.int .i64 a0_7) := (blk_cell BK319.out 7).trans rfl; have hcz57_8 : w55.cell? ⟨gb319, 8, none⟩ = some (.int .i64 a0_8) := (blk_cell BK319.out 8).trans rfl; have hcz57_9 : w55.cell? ⟨gb319, 9, none⟩ = some (.int .i64 a0_9) := (blk_cell BK319.out 9).trans rfl; have hcz57_10 : w55.cell? ⟨gb319, 10, none⟩ = some (.int .i64 a0_10) := (blk_cell BK319.out 10).trans rfl; have hcz57_11 : w55.cell? ⟨gb319, 11, none⟩ = some (.bool a0_11) := (blk_cell BK319.out 11).trans rfl; have hfz57_0 := blk_frozen BK319.out 0; have hfz57_1 := blk_frozen BK319.out 1; have hfz57_2 := blk_frozen BK319.out 2; have hfz57_3 := blk_frozen BK319.out 3; have hfz57_4 := blk_frozen BK319.out 4; have hfz57_5 := blk_frozen BK319.out 5; have hfz57_6 := blk_frozen BK319.out 6; have hfz57_7 := blk_frozen BK319.out 7; have hfz57_8 := blk_frozen BK319.out 8; have hfz57_9 := blk_frozen BK319.out 9; have hfz57_10 := blk_frozen BK319.out 10; have hfz57_11 := blk_frozen BK319.out 11) | (go_at_call 51; (with_reducible refine (gueriteref03_Within.calls kj2 a1_4 a1_5 a0_4 a0_5 true _ A47.out).mono ?_); rintro e w58 ⟨rfl, hb⟩; have n0_ := Aside0.mk (blk_below (g := gb319) (o := .cells #[.int .i64 a0_0, .int .i64 a0_1, .int .u32 a0_2, .int .i64 a0_3, .int .u32 a0_4, .int .i64 a0_5, .int .i64 a0_6, .int .i64 a0_7, .int .i64 a0_8, .int .i64 a0_9, .int .i64 a0_10, .bool a0_11] 42 (0, 0)) (by (with_reducible repeat (first | refine blk_drewN ?_ _ | refine blk_drew ?_ | refine blk_alloc ?_ _)); exact BK319.out) hb); have n1_ := Aside0.mk (blk_below (g := gb320) (o := .cells #[.int .i64 a1_0, .int .i64 a1_1, .int .u32 a1_2, .int .i64 a1_3, .int .u32 a1_4, .int .i64 a1_5, .int .i64 a1_6, .int .i64 a1_7, .int .i64 a1_8, .int .i64 a1_9, .int .i64 a1_10, .bool a1_11] 42 (0, 0)) (by (with_reducible repeat (first | refine blk_drewN ?_ _ | refine blk_drew ?_ | refine blk_alloc ?_ _)); exact BK320.out) hb); have n2_ := Aside0.mk (below_step (by repeat (first | (with_reducible first | exact HB.out | apply below_alloc | apply pw_below_drewN | apply below_drew1 | refine below_set ?_ GE319.out | refine below_set ?_ GE320.out) | exact HB.out)) hb); clear BK319; clear BK320; clear HB; have BK319 := n0_; have BK320 := n1_; have HB := n2_; clear n0_ n1_ n2_; (try clear hb); (try clear hb2); (try clear hk); (try clear hi); have hcz59_0 : w58.cell? ⟨gb319, 0, none⟩ = some (.int .i64 a0_0) := (blk_cell BK319.out 0).trans rfl; have hcz59_1 : w58.cell? ⟨gb319, 1, none⟩ = some (.int .i64 a0_1) := (blk_cell BK319.out 1).trans rfl; have hcz59_2 : w58.cell? ⟨gb319, 2, none⟩ = some (.int .u32 a0_2) := (blk_cell BK319.out 2).trans rfl; have hcz59_3 : w58.cell? ⟨gb319, 3, none⟩ = some (.int .i64 a0_3) := (blk_cell BK319.out 3).trans rfl; have hcz59_4 : w58.cell? ⟨gb319, 4, none⟩ = some (.int .u32 a0_4) := (blk_cell BK319.out 4).trans rfl; have hcz59_5 : w58.cell? ⟨gb319, 5, none⟩ = some (.int .i64 a0_5) := (blk_cell BK319.out 5).trans rfl; have hcz59_6 : w58.cell? ⟨gb319, 6, none⟩ = some (.int .i64 a0_6) := (blk_cell BK319.out 6).trans rfl; have hcz59_7 : w58.cell? ⟨gb319, 7, none⟩ = some (.int .i64 a0_7) := (blk_cell BK319.out 7).trans rfl; have hcz59_8 : w58.cell? ⟨gb319, 8, none⟩ = some (.int .i64 a0_8) := (blk_cell BK319.out 8).trans rfl; have hcz59_9 : w58.cell? ⟨gb319, 9, none⟩ = some (.int .i64 a0_9) := (blk_cell BK319.out 9).trans rfl; have hcz59_10 : w58.cell? ⟨gb319, 10, none⟩ = some (.int .i64 a0_10) := (blk_cell BK319.out 10).trans rfl; have hcz59_11 : w58.cell? ⟨gb319, 11, none⟩ = some (.bool a0_11) := (blk_cell BK319.out 11).trans rfl; have hfz59_0 := blk_frozen BK319.out 0; have hfz59_1 := blk_frozen BK319.out 1; have hfz59_2 := blk_frozen BK319.out 2; have hfz59_3 := blk_frozen BK319.out 3; have hfz59_4 := blk_frozen BK319.out 4; have hfz59_5 := blk_frozen BK319.out 5; have hfz59_6 := blk_frozen BK319.out 6; have hfz59_7 := blk_frozen BK319.out 7; have hfz59_8 := blk_frozen BK319.out 8; have hfz59_9 := blk_frozen BK319.out 9; have hfz59_10 := blk_frozen BK319.out 10; have hfz59_11 := blk_frozen BK319.out 11; have hcz60_0 : w58.cell? ⟨gb320, 0, none⟩ = some (.int .i64 a1_0) := (blk_cell BK320.out 0).trans rfl; have hcz60_1 : w58.cell? ⟨gb320, 1, none⟩ = some (.int .i64 a1_1) := (blk_cell BK320.out 1).trans rfl; have hcz60_2 : w58.cell? ⟨gb320, 2, none⟩ = some (.int .u32 a1_2) := (blk_cell BK320.out 2).trans rfl; have hcz60_3 : w58.cell? ⟨gb320, 3, none⟩ = some (.int .i64 a1_3) := (blk_cell BK320.out 3).trans rfl; have hcz60_4 : w58.cell? ⟨gb320, 4, none⟩ = some (.int .u32 a1_4) := (blk_cell BK320.out 4).trans rfl; have hcz60_5 : w58.cell? ⟨gb320, 5, none⟩ = some (.int .i64 a1_5) := (blk_cell BK320.out 5).trans rfl; have hcz60_6 : w58.cell? ⟨gb320, 6, none⟩ = some (.int .i64 a1_6) := (blk_cell BK320.out 6).trans rfl; have hcz60_7 : w58.cell? ⟨gb320, 7, none⟩ = some (.int .i64 a1_7) := (blk_cell BK320.out 7).trans rfl; have hcz60_8 : w58.cell? ⟨gb320, 8, none⟩ = some (.int .i64 a1_8) := (blk_cell BK320.out 8).trans rfl; have hcz60_9 : w58.cell? ⟨gb320, 9, none⟩ = some (.int .i64 a1_9) := (blk_cell BK320.out 9).trans rfl; have hcz60_10 : w58.cell? ⟨gb320, 10, none⟩ = some (.int .i64 a1_10) := (blk_cell BK320.out 10).trans rfl; have hcz60_11 : w58.cell? ⟨gb320, 11, none⟩ = some (.bool a1_11) := (blk_cell BK320.out 11).trans rfl; have hfz60_0 := blk_frozen BK320.out 0; have hfz60_1 := blk_frozen BK320.out 1; have hfz60_2 := blk_frozen BK320.out 2; have hfz60_3 := blk_frozen BK320.out 3; have hfz60_4 := blk_frozen BK320.out 4; have hfz60_5 := blk_frozen BK320.out 5; have hfz60_6 := blk_frozen BK320.out 6; have hfz60_7 := blk_frozen BK320.out 7; have hfz60_8 := blk_frozen BK320.out 8; have hfz60_9 := blk_frozen BK320.out 9; have hfz60_10 := blk_frozen BK320.out 10; have hfz60_11 := blk_frozen BK320.out 11))
                  go_ret
                  exact ⟨by first | rfl | (simp [errW_none, errW_some] <;> rfl) | (simp [*, errW_none, errW_some] <;> rfl), by repeat (first | (with_reducible first | exact HB.out | apply below_alloc | apply pw_below_drewN | apply below_drew1 | refine below_set ?_ GE319.out | refine below_set ?_ GE320.out) | exact HB.out)⟩
                · rw [if_neg c51] at H
                  have c51b0 : decide (a0_9 ≤ a1_9) = false := decide_eq_false c51
                  clear c51
                  obtain rfl := Option.some.inj H
                  have hnb61 := NB320_319.out
                  have hnc61 := NB319_320.out
                  have hcz62_0 : wc.cell? ⟨gb320, 0, none⟩ = some (.int .i64 a1_0) := (blk_cell BK320.out 0).trans rfl
                  have hcz62_1 : wc.cell? ⟨gb320, 1, none⟩ = some (.int .i64 a1_1) := (blk_cell BK320.out 1).trans rfl
                  have hcz62_2 : wc.cell? ⟨gb320, 2, none⟩ = some (.int .u32 a1_2) := (blk_cell BK320.out 2).trans rfl
                  have hcz62_3 : wc.cell? ⟨gb320, 3, none⟩ = some (.int .i64 a1_3) := (blk_cell BK320.out 3).trans rfl
                  have hcz62_4 : wc.cell? ⟨gb320, 4, none⟩ = some (.int .u32 a1_4) := (blk_cell BK320.out 4).trans rfl
                  have hcz62_5 : wc.cell? ⟨gb320, 5, none⟩ = some (.int .i64 a1_5) := (blk_cell BK320.out 5).trans rfl
                  have hcz62_6 : wc.cell? ⟨gb320, 6, none⟩ = some (.int .i64 a1_6) := (blk_cell BK320.out 6).trans rfl
                  have hcz62_7 : wc.cell? ⟨gb320, 7, none⟩ = some (.int .i64 a1_7) := (blk_cell BK320.out 7).trans rfl
                  have hcz62_8 : wc.cell? ⟨gb320, 8, none⟩ = some (.int .i64 a1_8) := (blk_cell BK320.out 8).trans rfl
                  have hcz62_9 : wc.cell? ⟨gb320, 9, none⟩ = some (.int .i64 a1_9) := (blk_cell BK320.out 9).trans rfl
                  have hcz62_10 : wc.cell? ⟨gb320, 10, none⟩ = some (.int .i64 a1_10) := (blk_cell BK320.out 10).trans rfl
                  have hcz62_11 : wc.cell? ⟨gb320, 11, none⟩ = some (.bool a1_11) := (blk_cell BK320.out 11).trans rfl
                  have hfz62_0 := blk_frozen BK320.out 0
                  have hfz62_1 := blk_frozen BK320.out 1
                  have hfz62_2 := blk_frozen BK320.out 2
                  have hfz62_3 := blk_frozen BK320.out 3
                  have hfz62_4 := blk_frozen BK320.out 4
                  have hfz62_5 := blk_frozen BK320.out 5
                  have hfz62_6 := blk_frozen BK320.out 6
                  have hfz62_7 := blk_frozen BK320.out 7
                  have hfz62_8 := blk_frozen BK320.out 8
                  have hfz62_9 := blk_frozen BK320.out 9
                  have hfz62_10 := blk_frozen BK320.out 10
                  have hfz62_11 := blk_frozen BK320.out 11
                  have hcz63_0 : wc.cell? ⟨gb319, 0, none⟩ = some (.int .i64 a0_0) := (blk_cell BK319.out 0).trans rfl
                  have hcz63_1 : wc.cell? ⟨gb319, 1, none⟩ = some (.int .i64 a0_1) := (blk_cell BK319.out 1).trans rfl
                  have hcz63_2 : wc.cell? ⟨gb319, 2, none⟩ = some (.int .u32 a0_2) := (blk_cell BK319.out 2).trans rfl
                  have hcz63_3 : wc.cell? ⟨gb319, 3, none⟩ = some (.int .i64 a0_3) := (blk_cell BK319.out 3).trans rfl
                  have hcz63_4 : wc.cell? ⟨gb319, 4, none⟩ = some (.int .u32 a0_4) := (blk_cell BK319.out 4).trans rfl
                  have hcz63_5 : wc.cell? ⟨gb319, 5, none⟩ = some (.int .i64 a0_5) := (blk_cell BK319.out 5).trans rfl
                  have hcz63_6 : wc.cell? ⟨gb319, 6, none⟩ = some (.int .i64 a0_6) := (blk_cell BK319.out 6).trans rfl
                  have hcz63_7 : wc.cell? ⟨gb319, 7, none⟩ = some (.int .i64 a0_7) := (blk_cell BK319.out 7).trans rfl
                  have hcz63_8 : wc.cell? ⟨gb319, 8, none⟩ = some (.int .i64 a0_8) := (blk_cell BK319.out 8).trans rfl
                  have hcz63_9 : wc.cell? ⟨gb319, 9, none⟩ = some (.int .i64 a0_9) := (blk_cell BK319.out 9).trans rfl
                  have hcz63_10 : wc.cell? ⟨gb319, 10, none⟩ = some (.int .i64 a0_10) := (blk_cell BK319.out 10).trans rfl
                  have hcz63_11 : wc.cell? ⟨gb319, 11, none⟩ = some (.bool a0_11) := (blk_cell BK319.out 11).trans rfl
                  have hfz63_0 := blk_frozen BK319.out 0
                  have hfz63_1 := blk_frozen BK319.out 1
                  have hfz63_2 := blk_frozen BK319.out 2
                  have hfz63_3 := blk_frozen BK319.out 3
                  have hfz63_4 := blk_frozen BK319.out 4
                  have hfz63_5 := blk_frozen BK319.out 5
                  have hfz63_6 := blk_frozen BK319.out 6
                  have hfz63_7 := blk_frozen BK319.out 7
                  have hfz63_8 := blk_frozen BK319.out 8
                  have hfz63_9 := blk_frozen BK319.out 9
                  have hfz63_10 := blk_frozen BK319.out 10
                  have hfz63_11 := blk_frozen BK319.out 11
                  go_wp2_with (first | ((with_reducible refine gate_callee (f := 51) rfl ?_); refine goesL_ (some 41) rfl rfl Try.func51 (by kernel_rfl) rfl #[.agg #[.int .u32 a1_2, .int .i64 a1_3], .agg #[.int .u32 a0_2, .int .i64 a0_3]] rfl (by (try simp only [List.map_toArray, List.map_cons, List.map_nil]); first | done | rfl | (simp only [List.length_drop, List.length_take]; rfl)) ?_; (with_reducible refine (gueriteref03_Within.calls kj2 a1_2 a1_3 a0_2 a0_3 true _ A45.out).mono ?_); rintro e w64 ⟨rfl, hb⟩; refine ⟨_, rfl, ?_⟩; have n0_ := Aside0.mk (blk_below (g := gb319) (o := .cells #[.int .i64 a0_0, .int .i64 a0_1, .int .u32 a0_2, .int .i64 a0_3, .int .u32 a0_4, .int .i64 a0_5, .int .i64 a0_6, .int .i64 a0_7, .int .i64 a0_8, .int .i64 a0_9, .int .i64 a0_10, .bool a0_11] 42 (0, 0)) (by (with_reducible repeat (first | refine blk_drewN ?_ _ | refine blk_drew ?_ | refine blk_alloc ?_ _)); exact BK319.out) hb); have n1_ := Aside0.mk (blk_below (g := gb320) (o := .cells #[.int .i64 a1_0, .int .i64 a1_1, .int .u32 a1_2, .int .i64 a1_3, .int .u32 a1_4, .int .i64 a1_5, .int .i64 a1_6, .int .i64 a1_7, .int .i64 a1_8, .int .i64 a1_9, .int .i64 a1_10, .bool a1_11] 42 (0, 0)) (by (with_reducible repeat (first | refine blk_drewN ?_ _ | refine blk_drew ?_ | refine blk_alloc ?_ _)); exact BK320.out) hb); have n2_ := Aside0.mk (below_step (by repeat (first | (with_reducible first | exact HB.out | apply below_alloc | apply pw_below_drewN | apply below_drew1 | refine below_set ?_ GE319.out | refine below_set ?_ GE320.out) | exact HB.out)) hb); clear BK319; clear BK320; clear HB; have BK319 := n0_; have BK320 := n1_; have HB := n2_; clear n0_ n1_ n2_; (try clear hb); (try clear hb2); (try clear hk); (try clear hi); have hcz65_0 : w64.cell? ⟨gb320, 0, none⟩ = some (.int .i64 a1_0) := (blk_cell BK320.out 0).trans rfl; have hcz65_1 : w64.cell? ⟨gb320, 1, none⟩ = some (.int .i64 a1_1) := (blk_cell BK320.out 1).trans rfl; have hcz65_2 : w64.cell? ⟨gb320, 2, none⟩ = some (.int .u32 a1_2) := (blk_cell BK320.out 2).trans rfl; have hcz65_3 : w64.cell? ⟨gb320, 3, none⟩ = some (.int .i64 a1_3) := (blk_cell BK320.out 3).trans rfl; have hcz65_4 : w64.cell? ⟨gb320, 4, none⟩ = some (.int .u32 a1_4) := (blk_cell BK320.out 4).trans rfl; have hcz65_5 : w64.cell? ⟨gb320, 5, none⟩ = some (.int .i64 a1_5) := (blk_cell BK320.out 5).trans rfl; have hcz65_6 : w64.cell? ⟨gb320, 6, none⟩ = some (.int .i64 a1_6) := (blk_cell BK320.out 6).trans rfl; have hcz65_7 : w64.cell? ⟨gb320, 7, none⟩ = some (.int .i64 a1_7) := (blk_cell BK320.out 7).trans rfl; have hcz65_8 : w64.cell? ⟨gb320, 8, none⟩ = some (.int .i64 a1_8) := (blk_cell BK320.out 8).trans rfl; have hcz65_9 : w64.cell? ⟨gb320, 9, none⟩ = some (.int .i64 a1_9) := (blk_cell BK320.out 9).trans rfl; have hcz65_10 : w64.cell? ⟨gb320, 10, none⟩ = some (.int .i64 a1_10) := (blk_cell BK320.out 10).trans rfl; have hcz65_11 : w64.cell? ⟨gb320, 11, none⟩ = some (.bool a1_11) := (blk_cell BK320.out 11).trans rfl; have hfz65_0 := blk_frozen BK320.out 0; have hfz65_1 := blk_frozen BK320.out 1; have hfz65_2 := blk_frozen BK320.out 2; have hfz65_3 := blk_frozen BK320.out 3; have hfz65_4 := blk_frozen BK320.out 4; have hfz65_5 := blk_frozen BK320.out 5; have hfz65_6 := blk_frozen BK320.out 6; have hfz65_7 := blk_frozen BK320.out 7; have hfz65_8 := blk_frozen BK320.out 8; have hfz65_9 := blk_frozen BK320.out 9; have hfz65_10 := blk_frozen BK320.out 10; have hfz65_11 := blk_frozen BK320.out 11; have hcz66_0 : w64.cell? ⟨gb319, 0, none⟩ = some (.int .i64 a0_0) := (blk_cell BK319.out 0).trans rfl; have hcz66_1 : w64.cell? ⟨gb319, 1, none⟩ = some (.int .i64 a0_1) := (blk_cell BK319.out 1).trans rfl; have hcz66_2 : w64.cell? ⟨gb319, 2, none⟩ = some (.int .u32 a0_2) := (blk_cell BK319.out 2).trans rfl; have hcz66_3 : w64.cell? ⟨gb319, 3, none⟩ = some (.int .i64 a0_3) := (blk_cell BK319.out 3).trans rfl; have hcz66_4 : w64.cell? ⟨gb319, 4, none⟩ = some (.int .u32 a0_4) := (blk_cell BK319.out 4).trans rfl; have hcz66_5 : w64.cell? ⟨gb319, 5, none⟩ = some (.int .i64 a0_5) := (blk_cell BK319.out 5).trans rfl; have hcz66_6 : w64.cell? ⟨gb319, 6, none⟩ = some (.int .i64 a0_6) := (blk_cell BK319.out 6).trans rfl; have hcz66_7 : w64.cell? ⟨gb319, 7, none⟩ = some (.int .i64 a0_7) := (blk_cell BK319.out 7).trans rfl; have hcz66_8 : w64.cell? ⟨gb319, 8, none⟩ = some (.int .i64 a0_8) := (blk_cell BK319.out 8).trans rfl; have hcz66_9 : w64.cell? ⟨gb319, 9, none⟩ = some (.int .i64 a0_9) := (blk_cell BK319.out 9).trans rfl; have hcz66_10 : w64.cell? ⟨gb319, 10, none⟩ = some (.int .i64 a0_10) := (blk_cell BK319.out 10).trans rfl; have hcz66_11 : w64.cell? ⟨gb319, 11, none⟩ = some (.bool a0_11) := (blk_cell BK319.out 11).trans rfl; have hfz66_0 := blk_frozen BK319.out 0; have hfz66_1 := blk_frozen BK319.out 1; have hfz66_2 := blk_frozen BK319.out 2; have hfz66_3 := blk_frozen BK319.out 3; have hfz66_4 := blk_frozen BK319.out 4; have hfz66_5 := blk_frozen BK319.out 5; have hfz66_6 := blk_frozen BK319.out 6; have hfz66_7 := blk_frozen BK319.out 7; have hfz66_8 := blk_frozen BK319.out 8; have hfz66_9 := blk_frozen BK319.out 9; have hfz66_10 := blk_frozen BK319.out 10; have hfz66_11 := blk_frozen BK319.out 11) | (go_at_call 51; (with_reducible refine (gueriteref03_Within.calls kj2 a1_4 a1_5 a0_4 a0_5 true _ A47.out).mono ?_); rintro e w67 ⟨rfl, hb⟩; have n0_ := Aside0.mk (blk_below (g := gb319) (o := .cells #[.int .i64 a0_0, .int .i64 a0_1, .int .u32 a0_2, .int .i64 a0_3, .int .u32 a0_4, .int .i64 a0_5, .int .i64 a0_6, .int .i64 a0_7, .int .i64 a0_8, .int .i64 a0_9, .int .i64 a0_10, .bool a0_11] 42 (0, 0)) (by (with_reducible repeat (first | refine blk_drewN ?_ _ | refine blk_drew ?_ | refine blk_alloc ?_ _)); exact BK319.out) hb); have n1_ := Aside0.mk (blk_below (g := gb320) (o := .cells #[.int .i64 a1_0, .int .i64 a1_1, .int .u32 a1_2, .int .i64 a1_3, .int .u32 a1_4, .int .i64 a1_5, .int .i64 a1_6, .int .i64 a1_7, .int .i64 a1_8, .int .i64 a1_9, .int .i64 a1_10, .bool a1_11] 42 (0, 0)) (by (with_reducible repeat (first | refine blk_drewN ?_ _ | refine blk_drew ?_ | refine blk_alloc ?_ _)); exact BK320.out) hb); have n2_ := Aside0.mk (below_step (by repeat (first | (with_reducible first | exact HB.out | apply below_alloc | apply pw_below_drewN | apply below_drew1 | refine below_set ?_ GE319.out | refine below_set ?_ GE320.out) | exact HB.out)) hb); clear BK319; clear BK320; clear HB; have BK319 := n0_; have BK320 := n1_; have HB := n2_; clear n0_ n1_ n2_; (try clear hb); (try clear hb2); (try clear hk); (try clear hi); have hcz68_0 : w67.cell? ⟨gb319, 0, none⟩ = some (.int .i64 a0_0) := (blk_cell BK319.out 0).trans rfl; have hcz68_1 : w67.cell? ⟨gb319, 1, none⟩ = some (.int .i64 a0_1) := (blk_cell BK319.out 1).trans rfl; have hcz68_2 : w67.cell? ⟨gb319, 2, none⟩ = some (.int .u32 a0_2) := (blk_cell BK319.out 2).trans rfl; have hcz68_3 : w67.cell? ⟨gb319, 3, none⟩ = some (.int .i64 a0_3) := (blk_cell BK319.out 3).trans rfl; have hcz68_4 : w67.cell? ⟨gb319, 4, none⟩ = some (.int .u32 a0_4) := (blk_cell BK319.out 4).trans rfl; have hcz68_5 : w67.cell? ⟨gb319, 5, none⟩ = some (.int .i64 a0_5) := (blk_cell BK319.out 5).trans rfl; have hcz68_6 : w67.cell? ⟨gb319, 6, none⟩ = some (.int .i64 a0_6) := (blk_cell BK319.out 6).trans rfl; have hcz68_7 : w67.cell? ⟨gb319, 7, none⟩ = some (.int .i64 a0_7) := (blk_cell BK319.out 7).trans rfl; have hcz68_8 : w67.cell? ⟨gb319, 8, none⟩ = some (.int .i64 a0_8) := (blk_cell BK319.out 8).trans rfl; have hcz68_9 : w67.cell? ⟨gb319, 9, none⟩ = some (.int .i64 a0_9) := (blk_cell BK319.out 9).trans rfl; have hcz68_10 : w67.cell? ⟨gb319, 10, none⟩ = some (.int .i64 a0_10) := (blk_cell BK319.out 10).trans rfl; have hcz68_11 : w67.cell? ⟨gb319, 11, none⟩ = some (.bool a0_11) := (blk_cell BK319.out 11).trans rfl; have hfz68_0 := blk_frozen BK319.out 0; have hfz68_1 := blk_frozen BK319.out 1; have hfz68_2 := blk_frozen BK319.out 2; have hfz68_3 := blk_frozen BK319.out 3; have hfz68_4 := blk_frozen BK319.out 4; have hfz68_5 := blk_frozen BK319.out 5; have hfz68_6 := blk_frozen BK319.out 6; have hfz68_7 := blk_frozen BK319.out 7; have hfz68_8 := blk_frozen BK319.out 8; have hfz68_9 := blk_frozen BK319.out 9; have hfz68_10 := blk_frozen BK319.out 10; have hfz68_11 := blk_frozen BK319.out 11; have hcz69_0 : w67.cell? ⟨gb320, 0, none⟩ = some (.int .i64 a1_0) := (blk_cell BK320.out 0).trans rfl; have hcz69_1 : w67.cell? ⟨gb320, 1, none⟩ = some (.int .i64 a1_1) := (blk_cell BK320.out 1).trans rfl; have hcz69_2 : w67.cell? ⟨gb320, 2, none⟩ = some (.int .u32 a1_2) := (blk_cell BK320.out 2).trans rfl; have hcz69_3 : w67.cell? ⟨gb320, 3, none⟩ = some (.int .i64 a1_3) := (blk_cell BK320.out 3).trans rfl; have hcz69_4 : w67.cell? ⟨gb320, 4, none⟩ = some (.int .u32 a1_4) := (blk_cell BK320.out 4).trans rfl; have hcz69_5 : w67.cell? ⟨gb320, 5, none⟩ = some (.int .i64 a1_5) := (blk_cell BK320.out 5).trans rfl; have hcz69_6 : w67.cell? ⟨gb320, 6, none⟩ = some (.int .i64 a1_6) := (blk_cell BK320.out 6).trans rfl; have hcz69_7 : w67.cell? ⟨gb320, 7, none⟩ = some (.int .i64 a1_7) := (blk_cell BK320.out 7).trans rfl; have hcz69_8 : w67.cell? ⟨gb320, 8, none⟩ = some (.int .i64 a1_8) := (blk_cell BK320.out 8).trans rfl; have hcz69_9 : w67.cell? ⟨gb320, 9, none⟩ = some (.int .i64 a1_9) := (blk_cell BK320.out 9).trans rfl; have hcz69_10 : w67.cell? ⟨gb320, 10, none⟩ = some (.int .i64 a1_10) := (blk_cell BK320.out 10).trans rfl; have hcz69_11 : w67.cell? ⟨gb320, 11, none⟩ = some (.bool a1_11) := (blk_cell BK320.out 11).trans rfl; have hfz69_0 := blk_frozen BK320.out 0; have hfz69_1 := blk_frozen BK320.out 1; have hfz69_2 := blk_frozen BK320.out 2; have hfz69_3 := blk_frozen BK320.out 3; have hfz69_4 := blk_frozen BK320.out 4; have hfz69_5 := blk_frozen BK320.out 5; have hfz69_6 := blk_frozen BK320.out 6; have hfz69_7 := blk_frozen BK320.out 7; have hfz69_8 := blk_frozen BK320.out 8; have hfz69_9 := blk_frozen BK320.out 9; have hfz69_10 := blk_frozen BK320.out 10; have hfz69_11 := blk_frozen BK320.out 11))
                  go_ret
                  exact ⟨by first | rfl | (simp [errW_none, errW_some] <;> rfl) | (simp [*, errW_none, errW_some] <;> rfl), by repeat (first | (with_reducible first | exact HB.out | apply below_alloc | apply pw_below_drewN | apply below_drew1 | refine below_set ?_ GE319.out | refine below_set ?_ GE320.out) | exact HB.out)⟩
              · rw [if_neg c50] at H
                have c50b0 : decide (a1_8 ≤ a0_8) = false := decide_eq_false c50
                clear c50
                obtain rfl := Option.some.inj H
                have hnb70 := NB320_319.out
                have hnc70 := NB319_320.out
                have hcz71_0 : wc.cell? ⟨gb320, 0, none⟩ = some (.int .i64 a1_0) := (blk_cell BK320.out 0).trans rfl
                have hcz71_1 : wc.cell? ⟨gb320, 1, none⟩ = some (.int .i64 a1_1) := (blk_cell BK320.out 1).trans rfl
                have hcz71_2 : wc.cell? ⟨gb320, 2, none⟩ = some (.int .u32 a1_2) := (blk_cell BK320.out 2).trans rfl
                have hcz71_3 : wc.cell? ⟨gb320, 3, none⟩ = some (.int .i64 a1_3) := (blk_cell BK320.out 3).trans rfl
                have hcz71_4 : wc.cell? ⟨gb320, 4, none⟩ = some (.int .u32 a1_4) := (blk_cell BK320.out 4).trans rfl
                have hcz71_5 : wc.cell? ⟨gb320, 5, none⟩ = some (.int .i64 a1_5) := (blk_cell BK320.out 5).trans rfl
                have hcz71_6 : wc.cell? ⟨gb320, 6, none⟩ = some (.int .i64 a1_6) := (blk_cell BK320.out 6).trans rfl
                have hcz71_7 : wc.cell? ⟨gb320, 7, none⟩ = some (.int .i64 a1_7) := (blk_cell BK320.out 7).trans rfl
                have hcz71_8 : wc.cell? ⟨gb320, 8, none⟩ = some (.int .i64 a1_8) := (blk_cell BK320.out 8).trans rfl
                have hcz71_9 : wc.cell? ⟨gb320, 9, none⟩ = some (.int .i64 a1_9) := (blk_cell BK320.out 9).trans rfl
                have hcz71_10 : wc.cell? ⟨gb320, 10, none⟩ = some (.int .i64 a1_10) := (blk_cell BK320.out 10).trans rfl
                have hcz71_11 : wc.cell? ⟨gb320, 11, none⟩ = some (.bool a1_11) := (blk_cell BK320.out 11).trans rfl
                have hfz71_0 := blk_frozen BK320.out 0
                have hfz71_1 := blk_frozen BK320.out 1
                have hfz71_2 := blk_frozen BK320.out 2
                have hfz71_3 := blk_frozen BK320.out 3
                have hfz71_4 := blk_frozen BK320.out 4
                have hfz71_5 := blk_frozen BK320.out 5
                have hfz71_6 := blk_frozen BK320.out 6
                have hfz71_7 := blk_frozen BK320.out 7
                have hfz71_8 := blk_frozen BK320.out 8
                have hfz71_9 := blk_frozen BK320.out 9
                have hfz71_10 := blk_frozen BK320.out 10
                have hfz71_11 := blk_frozen BK320.out 11
                have hcz72_0 : wc.cell? ⟨gb319, 0, none⟩ = some (.int .i64 a0_0) := (blk_cell BK319.out 0).trans rfl
                have hcz72_1 : wc.cell? ⟨gb319, 1, none⟩ = some (.int .i64 a0_1) := (blk_cell BK319.out 1).trans rfl
                have hcz72_2 : wc.cell? ⟨gb319, 2, none⟩ = some (.int .u32 a0_2) := (blk_cell BK319.out 2).trans rfl
                have hcz72_3 : wc.cell? ⟨gb319, 3, none⟩ = some (.int .i64 a0_3) := (blk_cell BK319.out 3).trans rfl
                have hcz72_4 : wc.cell? ⟨gb319, 4, none⟩ = some (.int .u32 a0_4) := (blk_cell BK319.out 4).trans rfl
                have hcz72_5 : wc.cell? ⟨gb319, 5, none⟩ = some (.int .i64 a0_5) := (blk_cell BK319.out 5).trans rfl
                have hcz72_6 : wc.cell? ⟨gb319, 6, none⟩ = some (.int .i64 a0_6) := (blk_cell BK319.out 6).trans rfl
                have hcz72_7 : wc.cell? ⟨gb319, 7, none⟩ = some (.int .i64 a0_7) := (blk_cell BK319.out 7).trans rfl
                have hcz72_8 : wc.cell? ⟨gb319, 8, none⟩ = some (.int .i64 a0_8) := (blk_cell BK319.out 8).trans rfl
                have hcz72_9 : wc.cell? ⟨gb319, 9, none⟩ = some (.int .i64 a0_9) := (blk_cell BK319.out 9).trans rfl
                have hcz72_10 : wc.cell? ⟨gb319, 10, none⟩ = some (.int .i64 a0_10) := (blk_cell BK319.out 10).trans rfl
                have hcz72_11 : wc.cell? ⟨gb319, 11, none⟩ = some (.bool a0_11) := (blk_cell BK319.out 11).trans rfl
                have hfz72_0 := blk_frozen BK319.out 0
                have hfz72_1 := blk_frozen BK319.out 1
                have hfz72_2 := blk_frozen BK319.out 2
                have hfz72_3 := blk_frozen BK319.out 3
                have hfz72_4 := blk_frozen BK319.out 4
                have hfz72_5 := blk_frozen BK319.out 5
                have hfz72_6 := blk_frozen BK319.out 6
                have hfz72_7 := blk_frozen BK319.out 7
                have hfz72_8 := blk_frozen BK319.out 8
                have hfz72_9 := blk_frozen BK319.out 9
                have hfz72_10 := blk_frozen BK319.out 10
                have hfz72_11 := blk_frozen BK319.out 11
                go_wp2_with (first | ((with_reducible refine gate_callee (f := 51) rfl ?_); refine goesL_ (some 41) rfl rfl Try.func51 (by kernel_rfl) rfl #[.agg #[.int .u32 a1_2, .int .i64 a1_3], .agg #[.int .u32 a0_2, .int .i64 a0_3]] rfl (by (try simp only [List.map_toArray, List.map_cons, List.map_nil]); first | done | rfl | (simp only [List.length_drop, List.length_take]; rfl)) ?_; (with_reducible refine (gueriteref03_Within.calls kj2 a1_2 a1_3 a0_2 a0_3 true _ A45.out).mono ?_); rintro e w73 ⟨rfl, hb⟩; refine ⟨_, rfl, ?_⟩; have n0_ := Aside0.mk (blk_below (g := gb319) (o := .cells #[.int .i64 a0_0, .int .i64 a0_1, .int .u32 a0_2, .int .i64 a0_3, .int .u32 a0_4, .int .i64 a0_5, .int .i64 a0_6, .int .i64 a0_7, .int .i64 a0_8, .int .i64 a0_9, .int .i64 a0_10, .bool a0_11] 42 (0, 0)) (by (with_reducible repeat (first | refine blk_drewN ?_ _ | refine blk_drew ?_ | refine blk_alloc ?_ _)); exact BK319.out) hb); have n1_ := Aside0.mk (blk_below (g := gb320) (o := .cells #[.int .i64 a1_0, .int .i64 a1_1, .int .u32 a1_2, .int .i64 a1_3, .int .u32 a1_4, .int .i64 a1_5, .int .i64 a1_6, .int .i64 a1_7, .int .i64 a1_8, .int .i64 a1_9, .int .i64 a1_10, .bool a1_11] 42 (0, 0)) (by (with_reducible repeat (first | refine blk_drewN ?_ _ | refine blk_drew ?_ | refine blk_alloc ?_ _)); exact BK320.out) hb); have n2_ := Aside0.mk (below_step (by repeat (first | (with_reducible first | exact HB.out | apply below_alloc | apply pw_below_drewN | apply below_drew1 | refine below_set ?_ GE319.out | refine below_set ?_ GE320.out) | exact HB.out)) hb); clear BK319; clear BK320; clear HB; have BK319 := n0_; have BK320 := n1_; have HB := n2_; clear n0_ n1_ n2_; (try clear hb); (try clear hb2); (try clear hk); (try clear hi); have hcz74_0 : w73.cell? ⟨gb320, 0, none⟩ = some (.int .i64 a1_0) := (blk_cell BK320.out 0).trans rfl; have hcz74_1 : w73.cell? ⟨gb320, 1, none⟩ = some (.int .i64 a1_1) := (blk_cell BK320.out 1).trans rfl; have hcz74_2 : w73.cell? ⟨gb320, 2, none⟩ = some (.int .u32 a1_2) := (blk_cell BK320.out 2).trans rfl; have hcz74_3 : w73.cell? ⟨gb320, 3, none⟩ = some (.int .i64 a1_3) := (blk_cell BK320.out 3).trans rfl; have hcz74_4 : w73.cell? ⟨gb320, 4, none⟩ = some (.int .u32 a1_4) := (blk_cell BK320.out 4).trans rfl; have hcz74_5 : w73.cell? ⟨gb320, 5, none⟩ = some (.int .i64 a1_5) := (blk_cell BK320.out 5).trans rfl; have hcz74_6 : w73.cell? ⟨gb320, 6, none⟩ = some (.int .i64 a1_6) := (blk_cell BK320.out 6).trans rfl; have hcz74_7 : w73.cell? ⟨gb320, 7, none⟩ = some (.int .i64 a1_7) := (blk_cell BK320.out 7).trans rfl; have hcz74_8 : w73.cell? ⟨gb320, 8, none⟩ = some (.int .i64 a1_8) := (blk_cell BK320.out 8).trans rfl; have hcz74_9 : w73.cell? ⟨gb320, 9, none⟩ = some (.int .i64 a1_9) := (blk_cell BK320.out 9).trans rfl; have hcz74_10 : w73.cell? ⟨gb320, 10, none⟩ = some (.int .i64 a1_10) := (blk_cell BK320.out 10).trans rfl; have hcz74_11 : w73.cell? ⟨gb320, 11, none⟩ = some (.bool a1_11) := (blk_cell BK320.out 11).trans rfl; have hfz74_0 := blk_frozen BK320.out 0; have hfz74_1 := blk_frozen BK320.out 1; have hfz74_2 := blk_frozen BK320.out 2; have hfz74_3 := blk_frozen BK320.out 3; have hfz74_4 := blk_frozen BK320.out 4; have hfz74_5 := blk_frozen BK320.out 5; have hfz74_6 := blk_frozen BK320.out 6; have hfz74_7 := blk_frozen BK320.out 7; have hfz74_8 := blk_frozen BK320.out 8; have hfz74_9 := blk_frozen BK320.out 9; have hfz74_10 := blk_frozen BK320.out 10; have hfz74_11 := blk_frozen BK320.out 11; have hcz75_0 : w73.cell? ⟨gb319, 0, none⟩ = some (.int .i64 a0_0) := (blk_cell BK319.out 0).trans rfl; have hcz75_1 : w73.cell? ⟨gb319, 1, none⟩ = some (.int .i64 a0_1) := (blk_cell BK319.out 1).trans rfl; have hcz75_2 : w73.cell? ⟨gb319, 2, none⟩ = some (.int .u32 a0_2) := (blk_cell BK319.out 2).trans rfl; have hcz75_3 : w73.cell? ⟨gb319, 3, none⟩ = some (.int .i64 a0_3) := (blk_cell BK319.out 3).trans rfl; have hcz75_4 : w73.cell? ⟨gb319, 4, none⟩ = some (.int .u32 a0_4) := (blk_cell BK319.out 4).trans rfl; have hcz75_5 : w73.cell? ⟨gb319, 5, none⟩ = some (.int .i64 a0_5) := (blk_cell BK319.out 5).trans rfl; have hcz75_6 : w73.cell? ⟨gb319, 6, none⟩ = some (.int .i64 a0_6) := (blk_cell BK319.out 6).trans rfl; have hcz75_7 : w73.cell? ⟨gb319, 7, none⟩ = some (.int .i64 a0_7) := (blk_cell BK319.out 7).trans rfl; have hcz75_8 : w73.cell? ⟨gb319, 8, none⟩ = some (.int .i64 a0_8) := (blk_cell BK319.out 8).trans rfl; have hcz75_9 : w73.cell? ⟨gb319, 9, none⟩ = some (.int .i64 a0_9) := (blk_cell BK319.out 9).trans rfl; have hcz75_10 : w73.cell? ⟨gb319, 10, none⟩ = some (.int .i64 a0_10) := (blk_cell BK319.out 10).trans rfl; have hcz75_11 : w73.cell? ⟨gb319, 11, none⟩ = some (.bool a0_11) := (blk_cell BK319.out 11).trans rfl; have hfz75_0 := blk_frozen BK319.out 0; have hfz75_1 := blk_frozen BK319.out 1; have hfz75_2 := blk_frozen BK319.out 2; have hfz75_3 := blk_frozen BK319.out 3; have hfz75_4 := blk_frozen BK319.out 4; have hfz75_5 := blk_frozen BK319.out 5; have hfz75_6 := blk_frozen BK319.out 6; have hfz75_7 := blk_frozen BK319.out 7; have hfz75_8 := blk_frozen BK319.out 8; have hfz75_9 := blk_frozen BK319.out 9; have hfz75_10 := blk_frozen BK319.out 10; have hfz75_11 := blk_frozen BK319.out 11) | (go_at_call 51; (with_reducible refine (gueriteref03_Within.calls kj2 a1_4 a1_5 a0_4 a0_5 true _ A47.out).mono ?_); rintro e w76 ⟨rfl, hb⟩; have n0_ := Aside0.mk (blk_below (g := gb319) (o := .cells #[.int .i64 a0_0, .int .i64 a0_1, .int .u32 a0_2, .int .i64 a0_3, .int .u32 a0_4, .int .i64 a0_5, .int .i64 a0_6, .int .i64 a0_7, .int .i64 a0_8, .int .i64 a0_9, .int .i64 a0_10, .bool a0_11] 42 (0, 0)) (by (with_reducible repeat (first | refine blk_drewN ?_ _ | refine blk_drew ?_ | refine blk_alloc ?_ _)); exact BK319.out) hb); have n1_ := Aside0.mk (blk_below (g := gb320) (o := .cells #[.int .i64 a1_0, .int .i64 a1_1, .int .u32 a1_2, .int .i64 a1_3, .int .u32 a1_4, .int .i64 a1_5, .int .i64 a1_6, .int .i64 a1_7, .int .i64 a1_8, .int .i64 a1_9, .int .i64 a1_10, .bool a1_11] 42 (0, 0)) (by (with_reducible repeat (first | refine blk_drewN ?_ _ | refine blk_drew ?_ | refine blk_alloc ?_ _)); exact BK320.out) hb); have n2_ := Aside0.mk (below_step (by repeat (first | (with_reducible first | exact HB.out | apply below_alloc | apply pw_below_drewN | apply below_drew1 | refine below_set ?_ GE319.out | refine below_set ?_ GE320.out) | exact HB.out)) hb); clear BK319; clear BK320; clear HB; have BK319 := n0_; have BK320 := n1_; have HB := n2_; clear n0_ n1_ n2_; (try clear hb); (try clear hb2); (try clear hk); (try clear hi); have hcz77_0 : w76.cell? ⟨gb319, 0, none⟩ = some (.int .i64 a0_0) := (blk_cell BK319.out 0).trans rfl; have hcz77_1 : w76.cell? ⟨gb319, 1, none⟩ = some (.int .i64 a0_1) := (blk_cell BK319.out 1).trans rfl; have hcz77_2 : w76.cell? ⟨gb319, 2, none⟩ = some (.int .u32 a0_2) := (blk_cell BK319.out 2).trans rfl; have hcz77_3 : w76.cell? ⟨gb319, 3, none⟩ = some (.int .i64 a0_3) := (blk_cell BK319.out 3).trans rfl; have hcz77_4 : w76.cell? ⟨gb319, 4, none⟩ = some (.int .u32 a0_4) := (blk_cell BK319.out 4).trans rfl; have hcz77_5 : w76.cell? ⟨gb319, 5, none⟩ = some (.int .i64 a0_5) := (blk_cell BK319.out 5).trans rfl; have hcz77_6 : w76.cell? ⟨gb319, 6, none⟩ = some (.int .i64 a0_6) := (blk_cell BK319.out 6).trans rfl; have hcz77_7 : w76.cell? ⟨gb319, 7, none⟩ = some (.int .i64 a0_7) := (blk_cell BK319.out 7).trans rfl; have hcz77_8 : w76.cell? ⟨gb319, 8, none⟩ = some (.int .i64 a0_8) := (blk_cell BK319.out 8).trans rfl; have hcz77_9 : w76.cell? ⟨gb319, 9, none⟩ = some (.int .i64 a0_9) := (blk_cell BK319.out 9).trans rfl; have hcz77_10 : w76.cell? ⟨gb319, 10, none⟩ = some (.int .i64 a0_10) := (blk_cell BK319.out 10).trans rfl; have hcz77_11 : w76.cell? ⟨gb319, 11, none⟩ = some (.bool a0_11) := (blk_cell BK319.out 11).trans rfl; have hfz77_0 := blk_frozen BK319.out 0; have hfz77_1 := blk_frozen BK319.out 1; have hfz77_2 := blk_frozen BK319.out 2; have hfz77_3 := blk_frozen BK319.out 3; have hfz77_4 := blk_frozen BK319.out 4; have hfz77_5 := blk_frozen BK319.out 5; have hfz77_6 := blk_frozen BK319.out 6; have hfz77_7 := blk_frozen BK319.out 7; have hfz77_8 := blk_frozen BK319.out 8; have hfz77_9 := blk_frozen BK319.out 9; have hfz77_10 := blk_frozen BK319.out 10; have hfz77_11 := blk_frozen BK319.out 11; have hcz78_0 : w76.cell? ⟨gb320, 0, none⟩ = some (.int .i64 a1_0) := (blk_cell BK320.out 0).trans rfl; have hcz78_1 : w76.cell? ⟨gb320, 1, none⟩ = some (.int .i64 a1_1) := (blk_cell BK320.out 1).trans rfl; have hcz78_2 : w76.cell? ⟨gb320, 2, none⟩ = some (.int .u32 a1_2) := (blk_cell BK320.out 2).trans rfl; have hcz78_3 : w76.cell? ⟨gb320, 3, none⟩ = some (.int .i64 a1_3) := (blk_cell BK320.out 3).trans rfl; have hcz78_4 : w76.cell? ⟨gb320, 4, none⟩ = some (.int .u32 a1_4) := (blk_cell BK320.out 4).trans rfl; have hcz78_5 : w76.cell? ⟨gb320, 5, none⟩ = some (.int .i64 a1_5) := (blk_cell BK320.out 5).trans rfl; have hcz78_6 : w76.cell? ⟨gb320, 6, none⟩ = some (.int .i64 a1_6) := (blk_cell BK320.out 6).trans rfl; have hcz78_7 : w76.cell? ⟨gb320, 7, none⟩ = some (.int .i64 a1_7) := (blk_cell BK320.out 7).trans rfl; have hcz78_8 : w76.cell? ⟨gb320, 8, none⟩ = some (.int .i64 a1_8) := (blk_cell BK320.out 8).trans rfl; have hcz78_9 : w76.cell? ⟨gb320, 9, none⟩ = some (.int .i64 a1_9) := (blk_cell BK320.out 9).trans rfl; have hcz78_10 : w76.cell? ⟨gb320, 10, none⟩ = some (.int .i64 a1_10) := (blk_cell BK320.out 10).trans rfl; have hcz78_11 : w76.cell? ⟨gb320, 11, none⟩ = some (.bool a1_11) := (blk_cell BK320.out 11).trans rfl; have hfz78_0 := blk_frozen BK320.out 0; have hfz78_1 := blk_frozen BK320.out 1; have hfz78_2 := blk_frozen BK320.out 2; have hfz78_3 := blk_frozen BK320.out 3; have hfz78_4 := blk_frozen BK320.out 4; have hfz78_5 := blk_frozen BK320.out 5; have hfz78_6 := blk_frozen BK320.out 6; have hfz78_7 := blk_frozen BK320.out 7; have hfz78_8 := blk_frozen BK320.out 8; have hfz78_9 := blk_frozen BK320.out 9; have hfz78_10 := blk_frozen BK320.out 10; have hfz78_11 := blk_frozen BK320.out 11))
                go_ret
                exact ⟨by first | rfl | (simp [errW_none, errW_some] <;> rfl) | (simp [*, errW_none, errW_some] <;> rfl), by repeat (first | (with_reducible first | exact HB.out | apply below_alloc | apply pw_below_drewN | apply below_drew1 | refine below_set ?_ GE319.out | refine below_set ?_ GE320.out) | exact HB.out)⟩
            · rw [if_neg c49] at H
              have c49b0 : decide (a0_7 ≤ a1_7) = false := decide_eq_false c49
              clear c49
              obtain rfl := Option.some.inj H
              have hnb79 := NB320_319.out
              have hnc79 := NB319_320.out
              have hcz80_0 : wc.cell? ⟨gb320, 0, none⟩ = some (.int .i64 a1_0) := (blk_cell BK320.out 0).trans rfl
              have hcz80_1 : wc.cell? ⟨gb320, 1, none⟩ = some (.int .i64 a1_1) := (blk_cell BK320.out 1).trans rfl
              have hcz80_2 : wc.cell? ⟨gb320, 2, none⟩ = some (.int .u32 a1_2) := (blk_cell BK320.out 2).trans rfl
              have hcz80_3 : wc.cell? ⟨gb320, 3, none⟩ = some (.int .i64 a1_3) := (blk_cell BK320.out 3).trans rfl
              have hcz80_4 : wc.cell? ⟨gb320, 4, none⟩ = some (.int .u32 a1_4) := (blk_cell BK320.out 4).trans rfl
              have hcz80_5 : wc.cell? ⟨gb320, 5, none⟩ = some (.int .i64 a1_5) := (blk_cell BK320.out 5).trans rfl
              have hcz80_6 : wc.cell? ⟨gb320, 6, none⟩ = some (.int .i64 a1_6) := (blk_cell BK320.out 6).trans rfl
              have hcz80_7 : wc.cell? ⟨gb320, 7, none⟩ = some (.int .i64 a1_7) := (blk_cell BK320.out 7).trans rfl
              have hcz80_8 : wc.cell? ⟨gb320, 8, none⟩ = some (.int .i64 a1_8) := (blk_cell BK320.out 8).trans rfl
              have hcz80_9 : wc.cell? ⟨gb320, 9, none⟩ = some (.int .i64 a1_9) := (blk_cell BK320.out 9).trans rfl
              have hcz80_10 : wc.cell? ⟨gb320, 10, none⟩ = some (.int .i64 a1_10) := (blk_cell BK320.out 10).trans rfl
              have hcz80_11 : wc.cell? ⟨gb320, 11, none⟩ = some (.bool a1_11) := (blk_cell BK320.out 11).trans rfl
              have hfz80_0 := blk_frozen BK320.out 0
              have hfz80_1 := blk_frozen BK320.out 1
              have hfz80_2 := blk_frozen BK320.out 2
              have hfz80_3 := blk_frozen BK320.out 3
              have hfz80_4 := blk_frozen BK320.out 4
              have hfz80_5 := blk_frozen BK320.out 5
              have hfz80_6 := blk_frozen BK320.out 6
              have hfz80_7 := blk_frozen BK320.out 7
              have hfz80_8 := blk_frozen BK320.out 8
              have hfz80_9 := blk_frozen BK320.out 9
              have hfz80_10 := blk_frozen BK320.out 10
              have hfz80_11 := blk_frozen BK320.out 11
              have hcz81_0 : wc.cell? ⟨gb319, 0, none⟩ = some (.int .i64 a0_0) := (blk_cell BK319.out 0).trans rfl
              have hcz81_1 : wc.cell? ⟨gb319, 1, none⟩ = some (.int .i64 a0_1) := (blk_cell BK319.out 1).trans rfl
              have hcz81_2 : wc.cell? ⟨gb319, 2, none⟩ = some (.int .u32 a0_2) := (blk_cell BK319.out 2).trans rfl
              have hcz81_3 : wc.cell? ⟨gb319, 3, none⟩ = some (.int .i64 a0_3) := (blk_cell BK319.out 3).trans rfl
              have hcz81_4 : wc.cell? ⟨gb319, 4, none⟩ = some (.int .u32 a0_4) := (blk_cell BK319.out 4).trans rfl
              have hcz81_5 : wc.cell? ⟨gb319, 5, none⟩ = some (.int .i64 a0_5) := (blk_cell BK319.out 5).trans rfl
              have hcz81_6 : wc.cell? ⟨gb319, 6, none⟩ = some (.int .i64 a0_6) := (blk_cell BK319.out 6).trans rfl
              have hcz81_7 : wc.cell? ⟨gb319, 7, none⟩ = some (.int .i64 a0_7) := (blk_cell BK319.out 7).trans rfl
              have hcz81_8 : wc.cell? ⟨gb319, 8, none⟩ = some (.int .i64 a0_8) := (blk_cell BK319.out 8).trans rfl
              have hcz81_9 : wc.cell? ⟨gb319, 9, none⟩ = some (.int .i64 a0_9) := (blk_cell BK319.out 9).trans rfl
              have hcz81_10 : wc.cell? ⟨gb319, 10, none⟩ = some (.int .i64 a0_10) := (blk_cell BK319.out 10).trans rfl
              have hcz81_11 : wc.cell? ⟨gb319, 11, none⟩ = some (.bool a0_11) := (blk_cell BK319.out 11).trans rfl
              have hfz81_0 := blk_frozen BK319.out 0
              have hfz81_1 := blk_frozen BK319.out 1
              have hfz81_2 := blk_frozen BK319.out 2
              have hfz81_3 := blk_frozen BK319.out 3
              have hfz81_4 := blk_frozen BK319.out 4
              have hfz81_5 := blk_frozen BK319.out 5
              have hfz81_6 := blk_frozen BK319.out 6
              have hfz81_7 := blk_frozen BK319.out 7
              have hfz81_8 := blk_frozen BK319.out 8
              have hfz81_9 := blk_frozen BK319.out 9
              have hfz81_10 := blk_frozen BK319.out 10
              have hfz81_11 := blk_frozen BK319.out 11
              go_wp2_with (first | ((with_reducible refine gate_callee (f := 51) rfl ?_); refine goesL_ (some 41) rfl rfl Try.func51 (by kernel_rfl) rfl #[.agg #[.int .u32 a1_2, .int .i64 a1_3], .agg #[.int .u32 a0_2, .int .i64 a0_3]] rfl (by (try simp only [List.map_toArray, List.map_cons, List.map_nil]); first | done | rfl | (simp only [List.length_drop, List.length_take]; rfl)) ?_; (with_reducible refine (gueriteref03_Within.calls kj2 a1_2 a1_3 a0_2 a0_3 true _ A45.out).mono ?_); rintro e w82 ⟨rfl, hb⟩; refine ⟨_, rfl, ?_⟩; have n0_ := Aside0.mk (blk_below (g := gb319) (o := .cells #[.int .i64 a0_0, .int .i64 a0_1, .int .u32 a0_2, .int .i64 a0_3, .int .u32 a0_4, .int .i64 a0_5, .int .i64 a0_6, .int .i64 a0_7, .int .i64 a0_8, .int .i64 a0_9, .int .i64 a0_10, .bool a0_11] 42 (0, 0)) (by (with_reducible repeat (first | refine blk_drewN ?_ _ | refine blk_drew ?_ | refine blk_alloc ?_ _)); exact BK319.out) hb); have n1_ := Aside0.mk (blk_below (g := gb320) (o := .cells #[.int .i64 a1_0, .int .i64 a1_1, .int .u32 a1_2, .int .i64 a1_3, .int .u32 a1_4, .int .i64 a1_5, .int .i64 a1_6, .int .i64 a1_7, .int .i64 a1_8, .int .i64 a1_9, .int .i64 a1_10, .bool a1_11] 42 (0, 0)) (by (with_reducible repeat (first | refine blk_drewN ?_ _ | refine blk_drew ?_ | refine blk_alloc ?_ _)); exact BK320.out) hb); have n2_ := Aside0.mk (below_step (by repeat (first | (with_reducible first | exact HB.out | apply below_alloc | apply pw_below_drewN | apply below_drew1 | refine below_set ?_ GE319.out | refine below_set ?_ GE320.out) | exact HB.out)) hb); clear BK319; clear BK320; clear HB; have BK319 := n0_; have BK320 := n1_; have HB := n2_; clear n0_ n1_ n2_; (try clear hb); (try clear hb2); (try clear hk); (try clear hi); have hcz83_0 : w82.cell? ⟨gb320, 0, none⟩ = some (.int .i64 a1_0) := (blk_cell BK320.out 0).trans rfl; have hcz83_1 : w82.cell? ⟨gb320, 1, none⟩ = some (.int .i64 a1_1) := (blk_cell BK320.out 1).trans rfl; have hcz83_2 : w82.cell? ⟨gb320, 2, none⟩ = some (.int .u32 a1_2) := (blk_cell BK320.out 2).trans rfl; have hcz83_3 : w82.cell? ⟨gb320, 3, none⟩ = some (.int .i64 a1_3) := (blk_cell BK320.out 3).trans rfl; have hcz83_4 : w82.cell? ⟨gb320, 4, none⟩ = some (.int .u32 a1_4) := (blk_cell BK320.out 4).trans rfl; have hcz83_5 : w82.cell? ⟨gb320, 5, none⟩ = some (.int .i64 a1_5) := (blk_cell BK320.out 5).trans rfl; have hcz83_6 : w82.cell? ⟨gb320, 6, none⟩ = some (.int .i64 a1_6) := (blk_cell BK320.out 6).trans rfl; have hcz83_7 : w82.cell? ⟨gb320, 7, none⟩ = some (.int .i64 a1_7) := (blk_cell BK320.out 7).trans rfl; have hcz83_8 : w82.cell? ⟨gb320, 8, none⟩ = some (.int .i64 a1_8) := (blk_cell BK320.out 8).trans rfl; have hcz83_9 : w82.cell? ⟨gb320, 9, none⟩ = some (.int .i64 a1_9) := (blk_cell BK320.out 9).trans rfl; have hcz83_10 : w82.cell? ⟨gb320, 10, none⟩ = some (.int .i64 a1_10) := (blk_cell BK320.out 10).trans rfl; have hcz83_11 : w82.cell? ⟨gb320, 11, none⟩ = some (.bool a1_11) := (blk_cell BK320.out 11).trans rfl; have hfz83_0 := blk_frozen BK320.out 0; have hfz83_1 := blk_frozen BK320.out 1; have hfz83_2 := blk_frozen BK320.out 2; have hfz83_3 := blk_frozen BK320.out 3; have hfz83_4 := blk_frozen BK320.out 4; have hfz83_5 := blk_frozen BK320.out 5; have hfz83_6 := blk_frozen BK320.out 6; have hfz83_7 := blk_frozen BK320.out 7; have hfz83_8 := blk_frozen BK320.out 8; have hfz83_9 := blk_frozen BK320.out 9; have hfz83_10 := blk_frozen BK320.out 10; have hfz83_11 := blk_frozen BK320.out 11; have hcz84_0 : w82.cell? ⟨gb319, 0, none⟩ = some (.int .i64 a0_0) := (blk_cell BK319.out 0).trans rfl; have hcz84_1 : w82.cell? ⟨gb319, 1, none⟩ = some (.int .i64 a0_1) := (blk_cell BK319.out 1).trans rfl; have hcz84_2 : w82.cell? ⟨gb319, 2, none⟩ = some (.int .u32 a0_2) := (blk_cell BK319.out 2).trans rfl; have hcz84_3 : w82.cell? ⟨gb319, 3, none⟩ = some (.int .i64 a0_3) := (blk_cell BK319.out 3).trans rfl; have hcz84_4 : w82.cell? ⟨gb319, 4, none⟩ = some (.int .u32 a0_4) := (blk_cell BK319.out 4).trans rfl; have hcz84_5 : w82.cell? ⟨gb319, 5, none⟩ = some (.int .i64 a0_5) := (blk_cell BK319.out 5).trans rfl; have hcz84_6 : w82.cell? ⟨gb319, 6, none⟩ = some (.int .i64 a0_6) := (blk_cell BK319.out 6).trans rfl; have hcz84_7 : w82.cell? ⟨gb319, 7, none⟩ = some (.int .i64 a0_7) := (blk_cell BK319.out 7).trans rfl; have hcz84_8 : w82.cell? ⟨gb319, 8, none⟩ = some (.int .i64 a0_8) := (blk_cell BK319.out 8).trans rfl; have hcz84_9 : w82.cell? ⟨gb319, 9, none⟩ = some (.int .i64 a0_9) := (blk_cell BK319.out 9).trans rfl; have hcz84_10 : w82.cell? ⟨gb319, 10, none⟩ = some (.int .i64 a0_10) := (blk_cell BK319.out 10).trans rfl; have hcz84_11 : w82.cell? ⟨gb319, 11, none⟩ = some (.bool a0_11) := (blk_cell BK319.out 11).trans rfl; have hfz84_0 := blk_frozen BK319.out 0; have hfz84_1 := blk_frozen BK319.out 1; have hfz84_2 := blk_frozen BK319.out 2; have hfz84_3 := blk_frozen BK319.out 3; have hfz84_4 := blk_frozen BK319.out 4; have hfz84_5 := blk_frozen BK319.out 5; have hfz84_6 := blk_frozen BK319.out 6; have hfz84_7 := blk_frozen BK319.out 7; have hfz84_8 := blk_frozen BK319.out 8; have hfz84_9 := blk_frozen BK319.out 9; have hfz84_10 := blk_frozen BK319.out 10; have hfz84_11 := blk_frozen BK319.out 11) | (go_at_call 51; (with_reducible refine (gueriteref03_Within.calls kj2 a1_4 a1_5 a0_4 a0_5 true _ A47.out).mono ?_); rintro e w85 ⟨rfl, hb⟩; have n0_ := Aside0.mk (blk_below (g := gb319) (o := .cells #[.int .i64 a0_0, .int .i64 a0_1, .int .u32 a0_2, .int .i64 a0_3, .int .u32 a0_4, .int .i64 a0_5, .int .i64 a0_6, .int .i64 a0_7, .int .i64 a0_8, .int .i64 a0_9, .int .i64 a0_10, .bool a0_11] 42 (0, 0)) (by (with_reducible repeat (first | refine blk_drewN ?_ _ | refine blk_drew ?_ | refine blk_alloc ?_ _)); exact BK319.out) hb); have n1_ := Aside0.mk (blk_below (g := gb320) (o := .cells #[.int .i64 a1_0, .int .i64 a1_1, .int .u32 a1_2, .int .i64 a1_3, .int .u32 a1_4, .int .i64 a1_5, .int .i64 a1_6, .int .i64 a1_7, .int .i64 a1_8, .int .i64 a1_9, .int .i64 a1_10, .bool a1_11] 42 (0, 0)) (by (with_reducible repeat (first | refine blk_drewN ?_ _ | refine blk_drew ?_ | refine blk_alloc ?_ _)); exact BK320.out) hb); have n2_ := Aside0.mk (below_step (by repeat (first | (with_reducible first | exact HB.out | apply below_alloc | apply pw_below_drewN | apply below_drew1 | refine below_set ?_ GE319.out | refine below_set ?_ GE320.out) | exact HB.out)) hb); clear BK319; clear BK320; clear HB; have BK319 := n0_; have BK320 := n1_; have HB := n2_; clear n0_ n1_ n2_; (try clear hb); (try clear hb2); (try clear hk); (try clear hi); have hcz86_0 : w85.cell? ⟨gb319, 0, none⟩ = some (.int .i64 a0_0) := (blk_cell BK319.out 0).trans rfl; have hcz86_1 : w85.cell? ⟨gb319, 1, none⟩ = some (.int .i64 a0_1) := (blk_cell BK319.out 1).trans rfl; have hcz86_2 : w85.cell? ⟨gb319, 2, none⟩ = some (.int .u32 a0_2) := (blk_cell BK319.out 2).trans rfl; have hcz86_3 : w85.cell? ⟨gb319, 3, none⟩ = some (.int .i64 a0_3) := (blk_cell BK319.out 3).trans rfl; have hcz86_4 : w85.cell? ⟨gb319, 4, none⟩ = some (.int .u32 a0_4) := (blk_cell BK319.out 4).trans rfl; have hcz86_5 : w85.cell? ⟨gb319, 5, none⟩ = some (.int .i64 a0_5) := (blk_cell BK319.out 5).trans rfl; have hcz86_6 : w85.cell? ⟨gb319, 6, none⟩ = some (.int .i64 a0_6) := (blk_cell BK319.out 6).trans rfl; have hcz86_7 : w85.cell? ⟨gb319, 7, none⟩ = some (.int .i64 a0_7) := (blk_cell BK319.out 7).trans rfl; have hcz86_8 : w85.cell? ⟨gb319, 8, none⟩ = some (.int .i64 a0_8) := (blk_cell BK319.out 8).trans rfl; have hcz86_9 : w85.cell? ⟨gb319, 9, none⟩ = some (.int .i64 a0_9) := (blk_cell BK319.out 9).trans rfl; have hcz86_10 : w85.cell? ⟨gb319, 10, none⟩ = some (.int .i64 a0_10) := (blk_cell BK319.out 10).trans rfl; have hcz86_11 : w85.cell? ⟨gb319, 11, none⟩ = some (.bool a0_11) := (blk_cell BK319.out 11).trans rfl; have hfz86_0 := blk_frozen BK319.out 0; have hfz86_1 := blk_frozen BK319.out 1; have hfz86_2 := blk_frozen BK319.out 2; have hfz86_3 := blk_frozen BK319.out 3; have hfz86_4 := blk_frozen BK319.out 4; have hfz86_5 := blk_frozen BK319.out 5; have hfz86_6 := blk_frozen BK319.out 6; have hfz86_7 := blk_frozen BK319.out 7; have hfz86_8 := blk_frozen BK319.out 8; have hfz86_9 := blk_frozen BK319.out 9; have hfz86_10 := blk_frozen BK319.out 10; have hfz86_11 := blk_frozen BK319.out 11; have hcz87_0 : w85.cell? ⟨gb320, 0, none⟩ = some (.int .i64 a1_0) := (blk_cell BK320.out 0).trans rfl; have hcz87_1 : w85.cell? ⟨gb320, 1, none⟩ = some (.int .i64 a1_1) := (blk_cell BK320.out 1).trans rfl; have hcz87_2 : w85.cell? ⟨gb320, 2, none⟩ = some (.int .u32 a1_2) := (blk_cell BK320.out 2).trans rfl; have hcz87_3 : w85.cell? ⟨gb320, 3, none⟩ = some (.int .i64 a1_3) := (blk_cell BK320.out 3).trans rfl; have hcz87_4 : w85.cell? ⟨gb320, 4, none⟩ = some (.int .u32 a1_4) := (blk_cell BK320.out 4).trans rfl; have hcz87_5 : w85.cell? ⟨gb320, 5, none⟩ = some (.int .i64 a1_5) := (blk_cell BK320.out 5).trans rfl; have hcz87_6 : w85.cell? ⟨gb320, 6, none⟩ = some (.int .i64 a1_6) := (blk_cell BK320.out 6).trans rfl; have hcz87_7 : w85.cell? ⟨gb320, 7, none⟩ = some (.int .i64 a1_7) := (blk_cell BK320.out 7).trans rfl; have hcz87_8 : w85.cell? ⟨gb320, 8, none⟩ = some (.int .i64 a1_8) := (blk_cell BK320.out 8).trans rfl; have hcz87_9 : w85.cell? ⟨gb320, 9, none⟩ = some (.int .i64 a1_9) := (blk_cell BK320.out 9).trans rfl; have hcz87_10 : w85.cell? ⟨gb320, 10, none⟩ = some (.int .i64 a1_10) := (blk_cell BK320.out 10).trans rfl; have hcz87_11 : w85.cell? ⟨gb320, 11, none⟩ = some (.bool a1_11) := (blk_cell BK320.out 11).trans rfl; have hfz87_0 := blk_frozen BK320.out 0; have hfz87_1 := blk_frozen BK320.out 1; have hfz87_2 := blk_frozen BK320.out 2; have hfz87_3 := blk_frozen BK320.out 3; have hfz87_4 := blk_frozen BK320.out 4; have hfz87_5 := blk_frozen BK320.out 5; have hfz87_6 := blk_frozen BK320.out 6; have hfz87_7 := blk_frozen BK320.out 7; have hfz87_8 := blk_frozen BK320.out 8; have hfz87_9 := blk_frozen BK320.out 9; have hfz87_10 := blk_frozen BK320.out 10; have hfz87_11 := blk_frozen BK320.out 11))
              go_ret
              exact ⟨by first | rfl | (simp [errW_none, errW_some] <;> rfl) | (simp [*, errW_none, errW_some] <;> rfl), by repeat (first | (with_reducible first | exact HB.out | apply below_alloc | apply pw_below_drewN | apply below_drew1 | refine below_set ?_ GE319.out | refine below_set ?_ GE320.out) | exact HB.out)⟩
          · replace c48 := Bool.eq_false_iff.mpr c48
            subst c48
            have H1 : (some false) = some r := by rw [if_neg (show ¬ (false = true) by decide)] at H; exact H
            clear H
            have H := H1
            clear H1
            obtain rfl := Option.some.inj H
            have hnb88 := NB320_319.out
            have hnc88 := NB319_320.out
            have hcz89_0 : wc.cell? ⟨gb320, 0, none⟩ = some (.int .i64 a1_0) := (blk_cell BK320.out 0).trans rfl
            have hcz89_1 : wc.cell? ⟨gb320, 1, none⟩ = some (.int .i64 a1_1) := (blk_cell BK320.out 1).trans rfl
            have hcz89_2 : wc.cell? ⟨gb320, 2, none⟩ = some (.int .u32 a1_2) := (blk_cell BK320.out 2).trans rfl
            have hcz89_3 : wc.cell? ⟨gb320, 3, none⟩ = some (.int .i64 a1_3) := (blk_cell BK320.out 3).trans rfl
            have hcz89_4 : wc.cell? ⟨gb320, 4, none⟩ = some (.int .u32 a1_4) := (blk_cell BK320.out 4).trans rfl
            have hcz89_5 : wc.cell? ⟨gb320, 5, none⟩ = some (.int .i64 a1_5) := (blk_cell BK320.out 5).trans rfl
            have hcz89_6 : wc.cell? ⟨gb320, 6, none⟩ = some (.int .i64 a1_6) := (blk_cell BK320.out 6).trans rfl
            have hcz89_7 : wc.cell? ⟨gb320, 7, none⟩ = some (.int .i64 a1_7) := (blk_cell BK320.out 7).trans rfl
            have hcz89_8 : wc.cell? ⟨gb320, 8, none⟩ = some (.int .i64 a1_8) := (blk_cell BK320.out 8).trans rfl
            have hcz89_9 : wc.cell? ⟨gb320, 9, none⟩ = some (.int .i64 a1_9) := (blk_cell BK320.out 9).trans rfl
            have hcz89_10 : wc.cell? ⟨gb320, 10, none⟩ = some (.int .i64 a1_10) := (blk_cell BK320.out 10).trans rfl
            have hcz89_11 : wc.cell? ⟨gb320, 11, none⟩ = some (.bool a1_11) := (blk_cell BK320.out 11).trans rfl
            have hfz89_0 := blk_frozen BK320.out 0
            have hfz89_1 := blk_frozen BK320.out 1
            have hfz89_2 := blk_frozen BK320.out 2
            have hfz89_3 := blk_frozen BK320.out 3
            have hfz89_4 := blk_frozen BK320.out 4
            have hfz89_5 := blk_frozen BK320.out 5
            have hfz89_6 := blk_frozen BK320.out 6
            have hfz89_7 := blk_frozen BK320.out 7
            have hfz89_8 := blk_frozen BK320.out 8
            have hfz89_9 := blk_frozen BK320.out 9
            have hfz89_10 := blk_frozen BK320.out 10
            have hfz89_11 := blk_frozen BK320.out 11
            have hcz90_0 : wc.cell? ⟨gb319, 0, none⟩ = some (.int .i64 a0_0) := (blk_cell BK319.out 0).trans rfl
            have hcz90_1 : wc.cell? ⟨gb319, 1, none⟩ = some (.int .i64 a0_1) := (blk_cell BK319.out 1).trans rfl
            have hcz90_2 : wc.cell? ⟨gb319, 2, none⟩ = some (.int .u32 a0_2) := (blk_cell BK319.out 2).trans rfl
            have hcz90_3 : wc.cell? ⟨gb319, 3, none⟩ = some (.int .i64 a0_3) := (blk_cell BK319.out 3).trans rfl
            have hcz90_4 : wc.cell? ⟨gb319, 4, none⟩ = some (.int .u32 a0_4) := (blk_cell BK319.out 4).trans rfl
            have hcz90_5 : wc.cell? ⟨gb319, 5, none⟩ = some (.int .i64 a0_5) := (blk_cell BK319.out 5).trans rfl
            have hcz90_6 : wc.cell? ⟨gb319, 6, none⟩ = some (.int .i64 a0_6) := (blk_cell BK319.out 6).trans rfl
            have hcz90_7 : wc.cell? ⟨gb319, 7, none⟩ = some (.int .i64 a0_7) := (blk_cell BK319.out 7).trans rfl
            have hcz90_8 : wc.cell? ⟨gb319, 8, none⟩ = some (.int .i64 a0_8) := (blk_cell BK319.out 8).trans rfl
            have hcz90_9 : wc.cell? ⟨gb319, 9, none⟩ = some (.int .i64 a0_9) := (blk_cell BK319.out 9).trans rfl
            have hcz90_10 : wc.cell? ⟨gb319, 10, none⟩ = some (.int .i64 a0_10) := (blk_cell BK319.out 10).trans rfl
            have hcz90_11 : wc.cell? ⟨gb319, 11, none⟩ = some (.bool a0_11) := (blk_cell BK319.out 11).trans rfl
            have hfz90_0 := blk_frozen BK319.out 0
            have hfz90_1 := blk_frozen BK319.out 1
            have hfz90_2 := blk_frozen BK319.out 2
            have hfz90_3 := blk_frozen BK319.out 3
            have hfz90_4 := blk_frozen BK319.out 4
            have hfz90_5 := blk_frozen BK319.out 5
            have hfz90_6 := blk_frozen BK319.out 6
            have hfz90_7 := blk_frozen BK319.out 7
            have hfz90_8 := blk_frozen BK319.out 8
            have hfz90_9 := blk_frozen BK319.out 9
            have hfz90_10 := blk_frozen BK319.out 10
            have hfz90_11 := blk_frozen BK319.out 11
            go_wp2_with (first | ((with_reducible refine gate_callee (f := 51) rfl ?_); refine goesL_ (some 41) rfl rfl Try.func51 (by kernel_rfl) rfl #[.agg #[.int .u32 a1_2, .int .i64 a1_3], .agg #[.int .u32 a0_2, .int .i64 a0_3]] rfl (by (try simp only [List.map_toArray, List.map_cons, List.map_nil]); first | done | rfl | (simp only [List.length_drop, List.length_take]; rfl)) ?_; (with_reducible refine (gueriteref03_Within.calls kj2 a1_2 a1_3 a0_2 a0_3 true _ A45.out).mono ?_); rintro e w91 ⟨rfl, hb⟩; refine ⟨_, rfl, ?_⟩; have n0_ := Aside0.mk (blk_below (g := gb319) (o := .cells #[.int .i64 a0_0, .int .i64 a0_1, .int .u32 a0_2, .int .i64 a0_3, .int .u32 a0_4, .int .i64 a0_5, .int .i64 a0_6, .int .i64 a0_7, .int .i64 a0_8, .int .i64 a0_9, .int .i64 a0_10, .bool a0_11] 42 (0, 0)) (by (with_reducible repeat (first | refine blk_drewN ?_ _ | refine blk_drew ?_ | refine blk_alloc ?_ _)); exact BK319.out) hb); have n1_ := Aside0.mk (blk_below (g := gb320) (o := .cells #[.int .i64 a1_0, .int .i64 a1_1, .int .u32 a1_2, .int .i64 a1_3, .int .u32 a1_4, .int .i64 a1_5, .int .i64 a1_6, .int .i64 a1_7, .int .i64 a1_8, .int .i64 a1_9, .int .i64 a1_10, .bool a1_11] 42 (0, 0)) (by (with_reducible repeat (first | refine blk_drewN ?_ _ | refine blk_drew ?_ | refine blk_alloc ?_ _)); exact BK320.out) hb); have n2_ := Aside0.mk (below_step (by repeat (first | (with_reducible first | exact HB.out | apply below_alloc | apply pw_below_drewN | apply below_drew1 | refine below_set ?_ GE319.out | refine below_set ?_ GE320.out) | exact HB.out)) hb); clear BK319; clear BK320; clear HB; have BK319 := n0_; have BK320 := n1_; have HB := n2_; clear n0_ n1_ n2_; (try clear hb); (try clear hb2); (try clear hk); (try clear hi); have hcz92_0 : w91.cell? ⟨gb320, 0, none⟩ = some (.int .i64 a1_0) := (blk_cell BK320.out 0).trans rfl; have hcz92_1 : w91.cell? ⟨gb320, 1, none⟩ = some (.int .i64 a1_1) := (blk_cell BK320.out 1).trans rfl; have hcz92_2 : w91.cell? ⟨gb320, 2, none⟩ = some (.int .u32 a1_2) := (blk_cell BK320.out 2).trans rfl; have hcz92_3 : w91.cell? ⟨gb320, 3, none⟩ = some (.int .i64 a1_3) := (blk_cell BK320.out 3).trans rfl; have hcz92_4 : w91.cell? ⟨gb320, 4, none⟩ = some (.int .u32 a1_4) := (blk_cell BK320.out 4).trans rfl; have hcz92_5 : w91.cell? ⟨gb320, 5, none⟩ = some (.int .i64 a1_5) := (blk_cell BK320.out 5).trans rfl; have hcz92_6 : w91.cell? ⟨gb320, 6, none⟩ = some (.int .i64 a1_6) := (blk_cell BK320.out 6).trans rfl; have hcz92_7 : w91.cell? ⟨gb320, 7, none⟩ = some (.int .i64 a1_7) := (blk_cell BK320.out 7).trans rfl; have hcz92_8 : w91.cell? ⟨gb320, 8, none⟩ = some (.int .i64 a1_8) := (blk_cell BK320.out 8).trans rfl; have hcz92_9 : w91.cell? ⟨gb320, 9, none⟩ = some (.int .i64 a1_9) := (blk_cell BK320.out 9).trans rfl; have hcz92_10 : w91.cell? ⟨gb320, 10, none⟩ = some (.int .i64 a1_10) := (blk_cell BK320.out 10).trans rfl; have hcz92_11 : w91.cell? ⟨gb320, 11, none⟩ = some (.bool a1_11) := (blk_cell BK320.out 11).trans rfl; have hfz92_0 := blk_frozen BK320.out 0; have hfz92_1 := blk_frozen BK320.out 1; have hfz92_2 := blk_frozen BK320.out 2; have hfz92_3 := blk_frozen BK320.out 3; have hfz92_4 := blk_frozen BK320.out 4; have hfz92_5 := blk_frozen BK320.out 5; have hfz92_6 := blk_frozen BK320.out 6; have hfz92_7 := blk_frozen BK320.out 7; have hfz92_8 := blk_frozen BK320.out 8; have hfz92_9 := blk_frozen BK320.out 9; have hfz92_10 := blk_frozen BK320.out 10; have hfz92_11 := blk_frozen BK320.out 11; have hcz93_0 : w91.cell? ⟨gb319, 0, none⟩ = some (.int .i64 a0_0) := (blk_cell BK319.out 0).trans rfl; have hcz93_1 : w91.cell? ⟨gb319, 1, none⟩ = some (.int .i64 a0_1) := (blk_cell BK319.out 1).trans rfl; have hcz93_2 : w91.cell? ⟨gb319, 2, none⟩ = some (.int .u32 a0_2) := (blk_cell BK319.out 2).trans rfl; have hcz93_3 : w91.cell? ⟨gb319, 3, none⟩ = some (.int .i64 a0_3) := (blk_cell BK319.out 3).trans rfl; have hcz93_4 : w91.cell? ⟨gb319, 4, none⟩ = some (.int .u32 a0_4) := (blk_cell BK319.out 4).trans rfl; have hcz93_5 : w91.cell? ⟨gb319, 5, none⟩ = some (.int .i64 a0_5) := (blk_cell BK319.out 5).trans rfl; have hcz93_6 : w91.cell? ⟨gb319, 6, none⟩ = some (.int .i64 a0_6) := (blk_cell BK319.out 6).trans rfl; have hcz93_7 : w91.cell? ⟨gb319, 7, none⟩ = some (.int .i64 a0_7) := (blk_cell BK319.out 7).trans rfl; have hcz93_8 : w91.cell? ⟨gb319, 8, none⟩ = some (.int .i64 a0_8) := (blk_cell BK319.out 8).trans rfl; have hcz93_9 : w91.cell? ⟨gb319, 9, none⟩ = some (.int .i64 a0_9) := (blk_cell BK319.out 9).trans rfl; have hcz93_10 : w91.cell? ⟨gb319, 10, none⟩ = some (.int .i64 a0_10) := (blk_cell BK319.out 10).trans rfl; have hcz93_11 : w91.cell? ⟨gb319, 11, none⟩ = some (.bool a0_11) := (blk_cell BK319.out 11).trans rfl; have hfz93_0 := blk_frozen BK319.out 0; have hfz93_1 := blk_frozen BK319.out 1; have hfz93_2 := blk_frozen BK319.out 2; have hfz93_3 := blk_frozen BK319.out 3; have hfz93_4 := blk_frozen BK319.out 4; have hfz93_5 := blk_frozen BK319.out 5; have hfz93_6 := blk_frozen BK319.out 6; have hfz93_7 := blk_frozen BK319.out 7; have hfz93_8 := blk_frozen BK319.out 8; have hfz93_9 := blk_frozen BK319.out 9; have hfz93_10 := blk_frozen BK319.out 10; have hfz93_11 := blk_frozen BK319.out 11) | (go_at_call 51; (with_reducible refine (gueriteref03_Within.calls kj2 a1_4 a1_5 a0_4 a0_5 false _ A47.out).mono ?_); rintro e w94 ⟨rfl, hb⟩; have n0_ := Aside0.mk (blk_below (g := gb319) (o := .cells #[.int .i64 a0_0, .int .i64 a0_1, .int .u32 a0_2, .int .i64 a0_3, .int .u32 a0_4, .int .i64 a0_5, .int .i64 a0_6, .int .i64 a0_7, .int .i64 a0_8, .int .i64 a0_9, .int .i64 a0_10, .bool a0_11] 42 (0, 0)) (by (with_reducible repeat (first | refine blk_drewN ?_ _ | refine blk_drew ?_ | refine blk_alloc ?_ _)); exact BK319.out) hb); have n1_ := Aside0.mk (blk_below (g := gb320) (o := .cells #[.int .i64 a1_0, .int .i64 a1_1, .int .u32 a1_2, .int .i64 a1_3, .int .u32 a1_4, .int .i64 a1_5, .int .i64 a1_6, .int .i64 a1_7, .int .i64 a1_8, .int .i64 a1_9, .int .i64 a1_10, .bool a1_11] 42 (0, 0)) (by (with_reducible repeat (first | refine blk_drewN ?_ _ | refine blk_drew ?_ | refine blk_alloc ?_ _)); exact BK320.out) hb); have n2_ := Aside0.mk (below_step (by repeat (first | (with_reducible first | exact HB.out | apply below_alloc | apply pw_below_drewN | apply below_drew1 | refine below_set ?_ GE319.out | refine below_set ?_ GE320.out) | exact HB.out)) hb); clear BK319; clear BK320; clear HB; have BK319 := n0_; have BK320 := n1_; have HB := n2_; clear n0_ n1_ n2_; (try clear hb); (try clear hb2); (try clear hk); (try clear hi)))
            go_ret
            exact ⟨by first | rfl | (simp [errW_none, errW_some] <;> rfl) | (simp [*, errW_none, errW_some] <;> rfl), by repeat (first | (with_reducible first | exact HB.out | apply below_alloc | apply pw_below_drewN | apply below_drew1 | refine below_set ?_ GE319.out | refine below_set ?_ GE320.out) | exact HB.out)⟩
        · replace c46 := Bool.eq_false_iff.mpr c46
          subst c46
          have H1 : (some false) = some r := by rw [if_neg (show ¬ (false = true) by decide)] at H; exact H
          clear H
          have H := H1
          clear H1
          obtain rfl := Option.some.inj H
          have hnb95 := NB320_319.out
          have hnc95 := NB319_320.out
          have hcz96_0 : wc.cell? ⟨gb320, 0, none⟩ = some (.int .i64 a1_0) := (blk_cell BK320.out 0).trans rfl
          have hcz96_1 : wc.cell? ⟨gb320, 1, none⟩ = some (.int .i64 a1_1) := (blk_cell BK320.out 1).trans rfl
          have hcz96_2 : wc.cell? ⟨gb320, 2, none⟩ = some (.int .u32 a1_2) := (blk_cell BK320.out 2).trans rfl
          have hcz96_3 : wc.cell? ⟨gb320, 3, none⟩ = some (.int .i64 a1_3) := (blk_cell BK320.out 3).trans rfl
          have hcz96_4 : wc.cell? ⟨gb320, 4, none⟩ = some (.int .u32 a1_4) := (blk_cell BK320.out 4).trans rfl
          have hcz96_5 : wc.cell? ⟨gb320, 5, none⟩ = some (.int .i64 a1_5) := (blk_cell BK320.out 5).trans rfl
          have hcz96_6 : wc.cell? ⟨gb320, 6, none⟩ = some (.int .i64 a1_6) := (blk_cell BK320.out 6).trans rfl
          have hcz96_7 : wc.cell? ⟨gb320, 7, none⟩ = some (.int .i64 a1_7) := (blk_cell BK320.out 7).trans rfl
          have hcz96_8 : wc.cell? ⟨gb320, 8, none⟩ = some (.int .i64 a1_8) := (blk_cell BK320.out 8).trans rfl
          have hcz96_9 : wc.cell? ⟨gb320, 9, none⟩ = some (.int .i64 a1_9) := (blk_cell BK320.out 9).trans rfl
          have hcz96_10 : wc.cell? ⟨gb320, 10, none⟩ = some (.int .i64 a1_10) := (blk_cell BK320.out 10).trans rfl
          have hcz96_11 : wc.cell? ⟨gb320, 11, none⟩ = some (.bool a1_11) := (blk_cell BK320.out 11).trans rfl
          have hfz96_0 := blk_frozen BK320.out 0
          have hfz96_1 := blk_frozen BK320.out 1
          have hfz96_2 := blk_frozen BK320.out 2
          have hfz96_3 := blk_frozen BK320.out 3
          have hfz96_4 := blk_frozen BK320.out 4
          have hfz96_5 := blk_frozen BK320.out 5
          have hfz96_6 := blk_frozen BK320.out 6
          have hfz96_7 := blk_frozen BK320.out 7
          have hfz96_8 := blk_frozen BK320.out 8
          have hfz96_9 := blk_frozen BK320.out 9
          have hfz96_10 := blk_frozen BK320.out 10
          have hfz96_11 := blk_frozen BK320.out 11
          have hcz97_0 : wc.cell? ⟨gb319, 0, none⟩ = some (.int .i64 a0_0) := (blk_cell BK319.out 0).trans rfl
          have hcz97_1 : wc.cell? ⟨gb319, 1, none⟩ = some (.int .i64 a0_1) := (blk_cell BK319.out 1).trans rfl
          have hcz97_2 : wc.cell? ⟨gb319, 2, none⟩ = some (.int .u32 a0_2) := (blk_cell BK319.out 2).trans rfl
          have hcz97_3 : wc.cell? ⟨gb319, 3, none⟩ = some (.int .i64 a0_3) := (blk_cell BK319.out 3).trans rfl
          have hcz97_4 : wc.cell? ⟨gb319, 4, none⟩ = some (.int .u32 a0_4) := (blk_cell BK319.out 4).trans rfl
          have hcz97_5 : wc.cell? ⟨gb319, 5, none⟩ = some (.int .i64 a0_5) := (blk_cell BK319.out 5).trans rfl
          have hcz97_6 : wc.cell? ⟨gb319, 6, none⟩ = some (.int .i64 a0_6) := (blk_cell BK319.out 6).trans rfl
          have hcz97_7 : wc.cell? ⟨gb319, 7, none⟩ = some (.int .i64 a0_7) := (blk_cell BK319.out 7).trans rfl
          have hcz97_8 : wc.cell? ⟨gb319, 8, none⟩ = some (.int .i64 a0_8) := (blk_cell BK319.out 8).trans rfl
          have hcz97_9 : wc.cell? ⟨gb319, 9, none⟩ = some (.int .i64 a0_9) := (blk_cell BK319.out 9).trans rfl
          have hcz97_10 : wc.cell? ⟨gb319, 10, none⟩ = some (.int .i64 a0_10) := (blk_cell BK319.out 10).trans rfl
          have hcz97_11 : wc.cell? ⟨gb319, 11, none⟩ = some (.bool a0_11) := (blk_cell BK319.out 11).trans rfl
          have hfz97_0 := blk_frozen BK319.out 0
          have hfz97_1 := blk_frozen BK319.out 1
          have hfz97_2 := blk_frozen BK319.out 2
          have hfz97_3 := blk_frozen BK319.out 3
          have hfz97_4 := blk_frozen BK319.out 4
          have hfz97_5 := blk_frozen BK319.out 5
          have hfz97_6 := blk_frozen BK319.out 6
          have hfz97_7 := blk_frozen BK319.out 7
          have hfz97_8 := blk_frozen BK319.out 8
          have hfz97_9 := blk_frozen BK319.out 9
          have hfz97_10 := blk_frozen BK319.out 10
          have hfz97_11 := blk_frozen BK319.out 11
          go_wp2_with (first | ((with_reducible refine gate_callee (f := 51) rfl ?_); refine goesL_ (some 41) rfl rfl Try.func51 (by kernel_rfl) rfl #[.agg #[.int .u32 a1_2, .int .i64 a1_3], .agg #[.int .u32 a0_2, .int .i64 a0_3]] rfl (by (try simp only [List.map_toArray, List.map_cons, List.map_nil]); first | done | rfl | (simp only [List.length_drop, List.length_take]; rfl)) ?_; (with_reducible refine (gueriteref03_Within.calls kj2 a1_2 a1_3 a0_2 a0_3 false _ A45.out).mono ?_); rintro e w98 ⟨rfl, hb⟩; refine ⟨_, rfl, ?_⟩; have n0_ := Aside0.mk (blk_below (g := gb319) (o := .cells #[.int .i64 a0_0, .int .i64 a0_1, .int .u32 a0_2, .int .i64 a0_3, .int .u32 a0_4, .int .i64 a0_5, .int .i64 a0_6, .int .i64 a0_7, .int .i64 a0_8, .int .i64 a0_9, .int .i64 a0_10, .bool a0_11] 42 (0, 0)) (by (with_reducible repeat (first | refine blk_drewN ?_ _ | refine blk_drew ?_ | refine blk_alloc ?_ _)); exact BK319.out) hb); have n1_ := Aside0.mk (blk_below (g := gb320) (o := .cells #[.int .i64 a1_0, .int .i64 a1_1, .int .u32 a1_2, .int .i64 a1_3, .int .u32 a1_4, .int .i64 a1_5, .int .i64 a1_6, .int .i64 a1_7, .int .i64 a1_8, .int .i64 a1_9, .int .i64 a1_10, .bool a1_11] 42 (0, 0)) (by (with_reducible repeat (first | refine blk_drewN ?_ _ | refine blk_drew ?_ | refine blk_alloc ?_ _)); exact BK320.out) hb); have n2_ := Aside0.mk (below_step (by repeat (first | (with_reducible first | exact HB.out | apply below_alloc | apply pw_below_drewN | apply below_drew1 | refine below_set ?_ GE319.out | refine below_set ?_ GE320.out) | exact HB.out)) hb); clear BK319; clear BK320; clear HB; have BK319 := n0_; have BK320 := n1_; have HB := n2_; clear n0_ n1_ n2_; (try clear hb); (try clear hb2); (try clear hk); (try clear hi)))
          go_ret
          exact ⟨by first | rfl | (simp [errW_none, errW_some] <;> rfl) | (simp [*, errW_none, errW_some] <;> rfl), by repeat (first | (with_reducible first | exact HB.out | apply below_alloc | apply pw_below_drewN | apply below_drew1 | refine below_set ?_ GE319.out | refine below_set ?_ GE320.out) | exact HB.out)⟩

end Go.Proofs.Ytakfnghakbjncaa.P
