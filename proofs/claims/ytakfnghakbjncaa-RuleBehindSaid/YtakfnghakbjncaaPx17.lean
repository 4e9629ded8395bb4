-- Written by a program of this session (xprint.py), over the kit's print; not trusted: Lean checks it.
import Derived.Test.YtakfnghakbjncaaPx0
import Derived.Test.YtakfnghakbjncaaPx14
import Derived.Test.YtakfnghakbjncaaPx16
import Derived.Test.YtakfnghakbjncaaG4
namespace Go.Proofs.Ytakfnghakbjncaa.P
open Go.RowKit Go.Proofs.YtakfnghakbjncaaW.PrintWords Go.Proofs.YtakfnghakbjncaaW.PrintLast Go.Proofs.YtakfnghakbjncaaW.PrintMore
attribute [local go_sem] max2_int min2_int max_two min_two max_three min_three max_four min_four   -- for this text's walks alone
set_option linter.unusedVariables false
set_option linter.unusedSimpArgs false

/-! ### gueritelaw15_RuleBehind: function 6 -/
def gueritelaw15_RuleBehind.j0 : Nat → Bool → Option (Bool)
  | 0, _ => none
  | k + 1, x90 => if x90 = true then (some false) else ((gueritelaw15_awake.f).bind fun t265 => (some t265))
def gueritelaw15_RuleBehind.f (k : Nat) (l0 : List (S42)) (a1_0 : Int) (a1_1 : Int) (a1_2 : Int) (a1_3 : Int) (a1_4 : Int) (a1_5 : Int) (a1_6 : Int) (a1_7 : Int) (a1_8 : Int) (a1_9 : Int) (a1_10 : Int) (a1_11 : Bool) (a2_0 : Int) (a2_1 : Int) (a2_2 : Int) (a2_3 : Int) (a2_4 : Int) (a2_5 : Int) (a2_6 : Int) : Option (Bool) := if (l0.length : Int) > 60 then ((gueritelaw15_awake.f).bind fun t242 => (some t242)) else (if ([] : List (S42)).length + l0.length < 1466015503701 then ((some (([] : List (S42)) ++ l0 : List (S42))).bind fun y243 => ((some (([(⟨a1_0, a1_1, (⟨a1_2, a1_3⟩ : S29), (⟨a1_4, a1_5⟩ : S29), a1_6, a1_7, a1_8, a1_9, a1_10, a1_11⟩ : S42)] : List (S42)) : List (S42))).bind fun y246 => (if y243.length + y246.length < 1466015503701 then ((some (([(⟨a1_0, a1_1, (⟨a1_2, a1_3⟩ : S29), (⟨a1_4, a1_5⟩ : S29), a1_6, a1_7, a1_8, a1_9, a1_10, a1_11⟩ : S42)] : List (S42)) : List (S42))).bind fun y252 => (if ([] : List (S42)).length + y252.length < 1466015503701 then ((some (([] : List (S42)) ++ y252 : List (S42))).bind fun y255 => (if y255.length + l0.length < 1466015503701 then ((rule_First.f l0 a2_0 a2_1 a2_2 a2_3 a2_4 a2_5 a2_6).bind fun t261 => ((rule_Matches.f k a1_0 a1_1 a1_2 a1_3 a1_4 a1_5 a1_6 a1_7 a1_8 a1_9 a1_10 a1_11 a2_0 a2_1 a2_2 a2_3 a2_4 a2_5 a2_6).bind fun t262 => ((rule_First.f (y243 ++ y246) a2_0 a2_1 a2_2 a2_3 a2_4 a2_5 a2_6).bind fun t263 => ((rule_First.f (y255 ++ l0) a2_0 a2_1 a2_2 a2_3 a2_4 a2_5 a2_6).bind fun t264 => (if t261 ≥ 0 then (if t263 = t261 then (if t261 < 0 then (if ((decide (t263 ≥ 0)) != t262) = true then (gueritelaw15_RuleBehind.j0 k true) else (if t262 = true then (if t264 = 0 then (gueritelaw15_RuleBehind.j0 k false) else (gueritelaw15_RuleBehind.j0 k true)) else (if t264 = (wrap64 (t261 + 1)) then (gueritelaw15_RuleBehind.j0 k (t264 != (-1))) else (gueritelaw15_RuleBehind.j0 k true)))) else (if t262 = true then (if t264 = 0 then (gueritelaw15_RuleBehind.j0 k false) else (gueritelaw15_RuleBehind.j0 k true)) else (if t264 = (wrap64 (t261 + 1)) then (gueritelaw15_RuleBehind.j0 k false) else (gueritelaw15_RuleBehind.j0 k true)))) else (gueritelaw15_RuleBehind.j0 k true)) else (if t261 < 0 then (if ((decide (t263 ≥ 0)) != t262) = true then (gueritelaw15_RuleBehind.j0 k true) else (if t262 = true then (if t264 = 0 then (gueritelaw15_RuleBehind.j0 k false) else (gueritelaw15_RuleBehind.j0 k true)) else (gueritelaw15_RuleBehind.j0 k (t264 != (-1))))) else (if t262 = true then (if t264 = 0 then (gueritelaw15_RuleBehind.j0 k false) else (gueritelaw15_RuleBehind.j0 k true)) else (gueritelaw15_RuleBehind.j0 k false)))))))) else (none))) else (none))) else (none)))) else (none))
theorem gueritelaw15_RuleBehind.mono_l : ∀ k, (∀ y0, LeO (gueritelaw15_RuleBehind.j0 k y0) (gueritelaw15_RuleBehind.j0 (k + 1) y0))
  | 0 => fun _ r h => by simp [gueritelaw15_RuleBehind.j0] at h
  | k + 1 => by
    have ih0 := gueritelaw15_RuleBehind.mono_l k
    · intro y0
      unfold gueritelaw15_RuleBehind.j0
      repeat' first
      | (with_reducible exact ih0 _)
      | (with_reducible exact rule_Matches.mono _ _ _ _ _ _ _ _ _ _ _ _ _ _ _ _ _ _ _ _)
      | (with_reducible exact LeO.refl _)
      | (with_reducible exact LeO.none _)
      | (with_reducible refine LeO.ite ?_ ?_)
      | (with_reducible refine LeO.bind ?_ (fun _ => ?_))
      | exact ih0 _
      | exact rule_Matches.mono _ _ _ _ _ _ _ _ _ _ _ _ _ _ _ _ _ _ _ _
      | exact LeO.none _
      | refine LeO.ite ?_ ?_
      | refine LeO.bind ?_ (fun _ => ?_)
theorem gueritelaw15_RuleBehind.mono : ∀ a0 a1 a2 a3 a4 a5 a6 a7 a8 a9 a10 a11 a12 a13 a14 a15 a16 a17 a18 a19 k, LeO (gueritelaw15_RuleBehind.f k a0 a1 a2 a3 a4 a5 a6 a7 a8 a9 a10 a11 a12 a13 a14 a15 a16 a17 a18 a19) (gueritelaw15_RuleBehind.f (k + 1) a0 a1 a2 a3 a4 a5 a6 a7 a8 a9 a10 a11 a12 a13 a14 a15 a16 a17 a18 a19) := by
  intro a0 a1 a2 a3 a4 a5 a6 a7 a8 a9 a10 a11 a12 a13 a14 a15 a16 a17 a18 a19 k
  have ih0 := gueritelaw15_RuleBehind.mono_l k
  unfold gueritelaw15_RuleBehind.f
  repeat' first
      | (with_reducible exact ih0 _)
      | (with_reducible exact rule_Matches.mono _ _ _ _ _ _ _ _ _ _ _ _ _ _ _ _ _ _ _ _)
      | (with_reducible exact LeO.refl _)
      | (with_reducible exact LeO.none _)
      | (with_reducible refine LeO.ite ?_ ?_)
      | (with_reducible refine LeO.bind ?_ (fun _ => ?_))
      | exact ih0 _
      | exact rule_Matches.mono _ _ _ _ _ _ _ _ _ _ _ _ _ _ _ _ _ _ _ _
      | exact LeO.none _
      | refine LeO.ite ?_ ?_
      | refine LeO.bind ?_ (fun _ => ?_)
def gueritelaw15_RuleBehind.T8 : Bool × List (List Nat × List Nat) := (true, [([], []), ([], []), ([0, 1], [0, 1]), ([], []), ([], []), ([3, 4, 2], [3, 4]), ([2, 5, 0, 1, 2], [2]), ([5, 6, 0, 1, 2, 3, 4, 5, 6], [5])])
def gueritelaw15_RuleBehind.B8 : List Nat := [0, 0, 3, 0, 0, 31, 63, 127]
theorem gueritelaw15_RuleBehind.tab8 : rtab .any (opsOf Try.f6 8) = gueritelaw15_RuleBehind.T8 := by kernel_rfl
theorem gueritelaw15_RuleBehind.bits8 : waitsOk gueritelaw15_RuleBehind.T8.2 gueritelaw15_RuleBehind.B8 = true := by kernel_rfl
set_option maxHeartbeats 8000000 in
set_option maxRecDepth 100000 in
theorem gueritelaw15_RuleBehind.calls (k : Nat) (A0 : Option Addr) (c0 : Nat) (l0 : List (S42)) (a1_0 : Int) (a1_1 : Int) (a1_2 : Int) (a1_3 : Int) (a1_4 : Int) (a1_5 : Int) (a1_6 : Int) (a1_7 : Int) (a1_8 : Int) (a1_9 : Int) (a1_10 : Int) (a1_11 : Bool) (a2_0 : Int) (a2_1 : Int) (a2_2 : Int) (a2_3 : Int) (a2_4 : Int) (a2_5 : Int) (a2_6 : Int) (r : Bool) (w : World) (hr0 : Kd.C k42 w A0 l0.length l0) (hc0 : l0.length ≤ c0) (h : gueritelaw15_RuleBehind.f k l0 a1_0 a1_1 a1_2 a1_3 a1_4 a1_5 a1_6 a1_7 a1_8 a1_9 a1_10 a1_11 a2_0 a2_1 a2_2 a2_3 a2_4 a2_5 a2_6 = some r) :
    Calls Try.prog 6 #[.slice A0 l0.length c0, .agg #[.int .i64 a1_0, .int .i64 a1_1, .int .u32 a1_2, .int .i64 a1_3, .int .u32 a1_4, .int .i64 a1_5, .int .i64 a1_6, .int .i64 a1_7, .int .i64 a1_8, .int .i64 a1_9, .int .i64 a1_10, .bool a1_11], .agg #[.int .i64 a2_0, .int .i64 a2_1, .int .u32 a2_2, .int .u32 a2_3, .int .i64 a2_4, .int .i64 a2_5, .int .i64 a2_6]] w fun e w' => e = .returned (.bool r) ∧ Below w.heap.size w w' := by
  have hu42 := Try.underlying42
  have hu46 := Try.underlying46
  have HR0 := Aside0.mk hr0
  have HC0 := Aside0.mk hc0
  clear hr0 hc0
  have HB := Aside0.mk (Below.refl w.heap.size w)
  have H : (if (l0.length : Int) > 60 then ((gueritelaw15_awake.f).bind fun t242 => (some t242)) else (if ([] : List (S42)).length + l0.length < 1466015503701 then ((some (([] : List (S42)) ++ l0 : List (S42))).bind fun y243 => ((some (([(⟨a1_0, a1_1, (⟨a1_2, a1_3⟩ : S29), (⟨a1_4, a1_5⟩ : S29), a1_6, a1_7, a1_8, a1_9, a1_10, a1_11⟩ : S42)] : List (S42)) : List (S42))).bind fun y246 => (if y243.length + y246.length < 1466015503701 then ((some (([(⟨a1_0, a1_1, (⟨a1_2, a1_3⟩ : S29), (⟨a1_4, a1_5⟩ : S29), a1_6, a1_7, a1_8, a1_9, a1_10, a1_11⟩ : S42)] : List (S42)) : List (S42))).bind fun y252 => (if ([] : List (S42)).length + y252.length < 1466015503701 then ((some (([] : List (S42)) ++ y252 : List (S42))).bind fun y255 => (if y255.length + l0.length < 1466015503701 then ((rule_First.f l0 a2_0 a2_1 a2_2 a2_3 a2_4 a2_5 a2_6).bind fun t261 => ((rule_Matches.f k a1_0 a1_1 a1_2 a1_3 a1_4 a1_5 a1_6 a1_7 a1_8 a1_9 a1_10 a1_11 a2_0 a2_1 a2_2 a2_3 a2_4 a2_5 a2_6).bind fun t262 => ((rule_First.f (y243 ++ y246) a2_0 a2_1 a2_2 a2_3 a2_4 a2_5 a2_6).bind fun t263 => ((rule_First.f (y255 ++ l0) a2_0 a2_1 a2_2 a2_3 a2_4 a2_5 a2_6).bind fun t264 => (if t261 ≥ 0 then (if t263 = t261 then (if t261 < 0 then (if ((decide (t263 ≥ 0)) != t262) = true then (gueritelaw15_RuleBehind.j0 k true) else (if t262 = true then (if t264 = 0 then (gueritelaw15_RuleBehind.j0 k false) else (gueritelaw15_RuleBehind.j0 k true)) else (if t264 = (wrap64 (t261 + 1)) then (gueritelaw15_RuleBehind.j0 k (t264 != (-1))) else (gueritelaw15_RuleBehind.j0 k true)))) else (if t262 = true then (if t264 = 0 then (gueritelaw15_RuleBehind.j0 k false) else (gueritelaw15_RuleBehind.j0 k true)) else (if t264 = (wrap64 (t261 + 1)) then (gueritelaw15_RuleBehind.j0 k false) else (gueritelaw15_RuleBehind.j0 k true)))) else (gueritelaw15_RuleBehind.j0 k true)) else (if t261 < 0 then (if ((decide (t263 ≥ 0)) != t262) = true then (gueritelaw15_RuleBehind.j0 k true) else (if t262 = true then (if t264 = 0 then (gueritelaw15_RuleBehind.j0 k false) else (gueritelaw15_RuleBehind.j0 k true)) else (gueritelaw15_RuleBehind.j0 k (t264 != (-1))))) else (if t262 = true then (if t264 = 0 then (gueritelaw15_RuleBehind.j0 k false) else (gueritelaw15_RuleBehind.j0 k true)) else (gueritelaw15_RuleBehind.j0 k false)))))))) else (none))) else (none))) else (none)))) else (none))) = some r := h
  clear h
  by_cases c4 : (l0.length : Int) > 60
  · rw [if_pos c4] at H
    have c4b0 : decide (60 < (l0.length : Int)) = true := decide_eq_true c4
    have c4b1 : decide (60 < l0.length) = true := decide_eq_true (by omega)
    clear c4
    replace H := Option.bind_eq_some_iff.mp H
    obtain ⟨t242, A50, H⟩ := H
    replace H : (some t242) = some r := H
    have A5 := Aside0.mk A50
    clear A50
    obtain rfl := Option.some.inj H
    go_enter Try.func6, Try.ntmps6
    go_wp2_with (first | ((with_reducible refine gate_dst (N := 4) rfl ?_); refine box_event ?hg (N := 4) ?hd (cs := #[.int .i64 a1_0, .int .i64 a1_1, .int .u32 a1_2, .int .i64 a1_3, .int .u32 a1_4, .int .i64 a1_5, .int .i64 a1_6, .int .i64 a1_7, .int .i64 a1_8, .int .i64 a1_9, .int .i64 a1_10, .bool a1_11]) (t := 42) ?hr ?_; (case hd => rfl); (case hg => rfl); (case hr => first | (go_simp; done) | (go_simp; rfl)); intro gb240 hg w6 hbox hb; have n0_ := Aside0.mk (below_step (by repeat (first | (with_reducible first | exact HB.out | apply below_alloc | apply pw_below_drewN | apply below_drew1) | exact HB.out)) hb); have n1_ := Aside0.mk (hbox); have n2_ := Aside0.mk ((by rw [hg]; exact (below_size (by repeat (first | (with_reducible first | exact HB.out | apply below_alloc | apply pw_below_drewN | apply below_drew1) | exact HB.out))) : w.heap.size ≤ gb240)); have n3_ := Aside0.mk ((by rw [hg]; exact (below_size (by repeat (first | (with_reducible first | exact HB.out | apply below_alloc | apply pw_below_drewN | apply below_drew1) | exact HB.out))) : w.heap.size ≤ gb240)); clear HB; have HB := n0_; have BK240 := n1_; have GW240 := n2_; have GE240 := n3_; clear n0_ n1_ n2_ n3_; clear hb hbox hg) | ((with_reducible refine gate_dst (N := 5) rfl ?_); refine box_event ?hg (N := 5) ?hd (cs := #[.int .i64 a2_0, .int .i64 a2_1, .int .u32 a2_2, .int .u32 a2_3, .int .i64 a2_4, .int .i64 a2_5, .int .i64 a2_6]) (t := 46) ?hr ?_; (case hd => rfl); (case hg => rfl); (case hr => first | (go_simp; done) | (go_simp; rfl)); intro gb241 hg w7 hbox hb; have n0_ := Aside0.mk (blk_below (g := gb240) (o := .cells #[.int .i64 a1_0, .int .i64 a1_1, .int .u32 a1_2, .int .i64 a1_3, .int .u32 a1_4, .int .i64 a1_5, .int .i64 a1_6, .int .i64 a1_7, .int .i64 a1_8, .int .i64 a1_9, .int .i64 a1_10, .bool a1_11] 42 (0, 0)) (by (with_reducible repeat (first | refine blk_drewN ?_ _ | refine blk_drew ?_ | refine blk_alloc ?_ _)); exact BK240.out) hb); have n1_ := Aside0.mk (below_step (by repeat (first | (with_reducible first | exact HB.out | apply below_alloc | apply pw_below_drewN | apply below_drew1 | refine below_set ?_ GE240.out) | exact HB.out)) hb); have n2_ := Aside0.mk (hbox); have n3_ := Aside0.mk ((by rw [hg]; exact (below_size (by repeat (first | (with_reducible first | exact HB.out | apply below_alloc | apply pw_below_drewN | apply below_drew1 | refine below_set ?_ GE240.out) | exact HB.out))) : w.heap.size ≤ gb241)); have n4_ := Aside0.mk ((by rw [hg]; exact (below_size (by repeat (first | (with_reducible first | exact HB.out | apply below_alloc | apply pw_below_drewN | apply below_drew1 | refine below_set ?_ GE240.out) | exact HB.out))) : w.heap.size ≤ gb241)); have n5_ := Aside0.mk ((by rw [hg]; exact Nat.ne_of_lt (blk_lt (g := gb240) (o := .cells #[.int .i64 a1_0, .int .i64 a1_1, .int .u32 a1_2, .int .i64 a1_3, .int .u32 a1_4, .int .i64 a1_5, .int .i64 a1_6, .int .i64 a1_7, .int .i64 a1_8, .int .i64 a1_9, .int .i64 a1_10, .bool a1_11] 42 (0, 0)) (by (with_reducible repeat (first | refine blk_drewN ?_ _ | refine blk_drew ?_ | refine blk_alloc ?_ _)); exact BK240.out)) : gb240 ≠ gb241)); have n6_ := Aside0.mk ((by rw [hg]; exact Nat.ne_of_gt (blk_lt (g := gb240) (o := .cells #[.int .i64 a1_0, .int .i64 a1_1, .int .u32 a1_2, .int .i64 a1_3, .int .u32 a1_4, .int .i64 a1_5, .int .i64 a1_6, .int .i64 a1_7, .int .i64 a1_8, .int .i64 a1_9, .int .i64 a1_10, .bool a1_11] 42 (0, 0)) (by (with_reducible repeat (first | refine blk_drewN ?_ _ | refine blk_drew ?_ | refine blk_alloc ?_ _)); exact BK240.out)) : gb241 ≠ gb240)); clear BK240; clear HB; have BK240 := n0_; have HB := n1_; have BK241 := n2_; have GW241 := n3_; have GE241 := n4_; have NB240_241 := n5_; have NB241_240 := n6_; clear n0_ n1_ n2_ n3_ n4_ n5_ n6_; clear hb hbox hg) | ((with_reducible refine gate_callee (f := 19) rfl ?_); refine goesL_ (some 16) rfl rfl Try.func19 (by kernel_rfl) rfl #[] rfl (by (try simp only [List.map_toArray, List.map_cons, List.map_nil]); first | done | rfl | (simp only [List.length_drop, List.length_take]; rfl)) ?_; (with_reducible refine (gueritelaw15_awake.calls  t242 _ A5.out).mono ?_); rintro e w8 ⟨rfl, hb⟩; refine ⟨_, rfl, ?_⟩; have n0_ := Aside0.mk (blk_below (g := gb240) (o := .cells #[.int .i64 a1_0, .int .i64 a1_1, .int .u32 a1_2, .int .i64 a1_3, .int .u32 a1_4, .int .i64 a1_5, .int .i64 a1_6, .int .i64 a1_7, .int .i64 a1_8, .int .i64 a1_9, .int .i64 a1_10, .bool a1_11] 42 (0, 0)) (by (with_reducible repeat (first | refine blk_drewN ?_ _ | refine blk_drew ?_ | refine blk_alloc ?_ _)); exact BK240.out) hb); have n1_ := Aside0.mk (blk_below (g := gb241) (o := .cells #[.int .i64 a2_0, .int .i64 a2_1, .int .u32 a2_2, .int .u32 a2_3, .int .i64 a2_4, .int .i64 a2_5, .int .i64 a2_6] 46 (0, 0)) (by (with_reducible repeat (first | refine blk_drewN ?_ _ | refine blk_drew ?_ | refine blk_alloc ?_ _)); exact BK241.out) hb); have n2_ := Aside0.mk (below_step (by repeat (first | (with_reducible first | exact HB.out | apply below_alloc | apply pw_below_drewN | apply below_drew1 | refine below_set ?_ GE240.out | refine below_set ?_ GE241.out) | exact HB.out)) hb); clear BK240; clear BK241; clear HB; have BK240 := n0_; have BK241 := n1_; have HB := n2_; clear n0_ n1_ n2_; (try clear hb); (try clear hb2); (try clear hk); (try clear hi)))
    go_ret
    exact ⟨by first | rfl | (simp [errW_none, errW_some] <;> rfl) | (simp [*, errW_none, errW_some] <;> rfl), by repeat (first | (with_reducible first | exact HB.out | apply below_alloc | apply pw_below_drewN | apply below_drew1 | refine below_set ?_ GE240.out | refine below_set ?_ GE241.out) | exact HB.out)⟩
  · rw [if_neg c4] at H
    have c4b0 : decide (60 < (l0.length : Int)) = false := decide_eq_false c4
    have c4b1 : decide (60 < l0.length) = false := decide_eq_false (by omega)
    clear c4
    by_cases c9 : ([] : List (S42)).length + l0.length < 1466015503701
    · rw [if_pos c9] at H
      have LMc9 := Aside0.mk c9
      clear c9
      obtain ⟨y243, hy243⟩ : ∃ y_ : List (S42), y_ = (([] : List (S42)) ++ l0) := ⟨_, rfl⟩
      replace H : ((some (([(⟨a1_0, a1_1, (⟨a1_2, a1_3⟩ : S29), (⟨a1_4, a1_5⟩ : S29), a1_6, a1_7, a1_8, a1_9, a1_10, a1_11⟩ : S42)] : List (S42)) : List (S42))).bind fun y246 => (if y243.length + y246.length < 1466015503701 then ((some (([(⟨a1_0, a1_1, (⟨a1_2, a1_3⟩ : S29), (⟨a1_4, a1_5⟩ : S29), a1_6, a1_7, a1_8, a1_9, a1_10, a1_11⟩ : S42)] : List (S42)) : List (S42))).bind fun y252 => (if ([] : List (S42)).length + y252.length < 1466015503701 then ((some (([] : List (S42)) ++ y252 : List (S42))).bind fun y255 => (if y255.length + l0.length < 1466015503701 then ((rule_First.f l0 a2_0 a2_1 a2_2 a2_3 a2_4 a2_5 a2_6).bind fun t261 => ((rule_Matches.f k a1_0 a1_1 a1_2 a1_3 a1_4 a1_5 a1_6 a1_7 a1_8 a1_9 a1_10 a1_11 a2_0 a2_1 a2_2 a2_3 a2_4 a2_5 a2_6).bind fun t262 => ((rule_First.f (y243 ++ y246) a2_0 a2_1 a2_2 a2_3 a2_4 a2_5 a2_6).bind fun t263 => ((rule_First.f (y255 ++ l0) a2_0 a2_1 a2_2 a2_3 a2_4 a2_5 a2_6).bind fun t264 => (if t261 ≥ 0 then (if t263 = t261 then (if t261 < 0 then (if ((decide (t263 ≥ 0)) != t262) = true then (gueritelaw15_RuleBehind.j0 k true) else (if t262 = true then (if t264 = 0 then (gueritelaw15_RuleBehind.j0 k false) else (gueritelaw15_RuleBehind.j0 k true)) else (if t264 = (wrap64 (t261 + 1)) then (gueritelaw15_RuleBehind.j0 k (t264 != (-1))) else (gueritelaw15_RuleBehind.j0 k true)))) else (if t262 = true then (if t264 = 0 then (gueritelaw15_RuleBehind.j0 k false) else (gueritelaw15_RuleBehind.j0 k true)) else (if t264 = (wrap64 (t261 + 1)) then (gueritelaw15_RuleBehind.j0 k false) else (gueritelaw15_RuleBehind.j0 k true)))) else (gueritelaw15_RuleBehind.j0 k true)) else (if t261 < 0 then (if ((decide (t263 ≥ 0)) != t262) = true then (gueritelaw15_RuleBehind.j0 k true) else (if t262 = true then (if t264 = 0 then (gueritelaw15_RuleBehind.j0 k false) else (gueritelaw15_RuleBehind.j0 k true)) else (gueritelaw15_RuleBehind.j0 k (t264 != (-1))))) else (if t262 = true then (if t264 = 0 then (gueritelaw15_RuleBehind.j0 k false) else (gueritelaw15_RuleBehind.j0 k true)) else (gueritelaw15_RuleBehind.j0 k false)))))))) else (none))) else (none))) else (none))) = some r := by first | (rw [hy243]; with_reducible exact H) | (have H2_ := (Option.bind_some _ _).symm.trans H; rw [hy243]; with_reducible exact H2_) | (have H2_ := (Option.bind_some _ _).symm.trans H; with_reducible exact H2_) | with_reducible exact H | (rw [hy243]; exact H) | exact H
      have Ny243 := Aside0.mk hy243
      clear hy243
      obtain ⟨y246, hy246⟩ : ∃ y_ : List (S42), y_ = (([(⟨a1_0, a1_1, (⟨a1_2, a1_3⟩ : S29), (⟨a1_4, a1_5⟩ : S29), a1_6, a1_7, a1_8, a1_9, a1_10, a1_11⟩ : S42)] : List (S42))) := ⟨_, rfl⟩
      replace H : (if y243.length + y246.length < 1466015503701 then ((some (([(⟨a1_0, a1_1, (⟨a1_2, a1_3⟩ : S29), (⟨a1_4, a1_5⟩ : S29), a1_6, a1_7, a1_8, a1_9, a1_10, a1_11⟩ : S42)] : List (S42)) : List (S42))).bind fun y252 => (if ([] : List (S42)).length + y252.length < 1466015503701 then ((some (([] : List (S42)) ++ y252 : List (S42))).bind fun y255 => (if y255.length + l0.length < 1466015503701 then ((rule_First.f l0 a2_0 a2_1 a2_2 a2_3 a2_4 a2_5 a2_6).bind fun t261 => ((rule_Matches.f k a1_0 a1_1 a1_2 a1_3 a1_4 a1_5 a1_6 a1_7 a1_8 a1_9 a1_10 a1_11 a2_0 a2_1 a2_2 a2_3 a2_4 a2_5 a2_6).bind fun t262 => ((rule_First.f (y243 ++ y246) a2_0 a2_1 a2_2 a2_3 a2_4 a2_5 a2_6).bind fun t263 => ((rule_First.f (y255 ++ l0) a2_0 a2_1 a2_2 a2_3 a2_4 a2_5 a2_6).bind fun t264 => (if t261 ≥ 0 then (if t263 = t261 then (if t261 < 0 then (if ((decide (t263 ≥ 0)) != t262) = true then (gueritelaw15_RuleBehind.j0 k true) else (if t262 = true then (if t264 = 0 then (gueritelaw15_RuleBehind.j0 k false) else (gueritelaw15_RuleBehind.j0 k true)) else (if t264 = (wrap64 (t261 + 1)) then (gueritelaw15_RuleBehind.j0 k (t264 != (-1))) else (gueritelaw15_RuleBehind.j0 k true)))) else (if t262 = true then (if t264 = 0 then (gueritelaw15_RuleBehind.j0 k false) else (gueritelaw15_RuleBehind.j0 k true)) else (if t264 = (wrap64 (t261 + 1)) then (gueritelaw15_RuleBehind.j0 k false) else (gueritelaw15_RuleBehind.j0 k true)))) else (gueritelaw15_RuleBehind.j0 k true)) else (if t261 < 0 then (if ((decide (t263 ≥ 0)) != t262) = true then (gueritelaw15_RuleBehind.j0 k true) else (if t262 = true then (if t264 = 0 then (gueritelaw15_RuleBehind.j0 k false) else (gueritelaw15_RuleBehind.j0 k true)) else (gueritelaw15_RuleBehind.j0 k (t264 != (-1))))) else (if t262 = true then (if t264 = 0 then (gueritelaw15_RuleBehind.j0 k false) else (gueritelaw15_RuleBehind.j0 k true)) else (gueritelaw15_RuleBehind.j0 k false)))))))) else (none))) else (none))) else (none)) = some r := by first | (rw [hy246]; with_reducible exact H) | (have H2_ := (Option.bind_some _ _).symm.trans H; rw [hy246]; with_reducible exact H2_) | (have H2_ := (Option.bind_some _ _).symm.trans H; with_reducible exact H2_) | with_reducible exact H | (rw [hy246]; exact H) | exact H
      have Ny246 := Aside0.mk hy246
      clear hy246
      by_cases c10 : y243.length + y246.length < 1466015503701
      · rw [if_pos c10] at H
        have LMc10 := Aside0.mk c10
        clear c10
        obtain ⟨y249, hy249⟩ : ∃ y_ : List (S42), y_ = (y243 ++ y246) := ⟨_, rfl⟩
        replace H : ((some (([(⟨a1_0, a1_1, (⟨a1_2, a1_3⟩ : S29), (⟨a1_4, a1_5⟩ : S29), a1_6, a1_7, a1_8, a1_9, a1_10, a1_11⟩ : S42)] : List (S42)) : List (S42))).bind fun y252 => (if ([] : List (S42)).length + y252.length < 1466015503701 then ((some (([] : List (S42)) ++ y252 : List (S42))).bind fun y255 => (if y255.length + l0.length < 1466015503701 then ((rule_First.f l0 a2_0 a2_1 a2_2 a2_3 a2_4 a2_5 a2_6).bind fun t261 => ((rule_Matches.f k a1_0 a1_1 a1_2 a1_3 a1_4 a1_5 a1_6 a1_7 a1_8 a1_9 a1_10 a1_11 a2_0 a2_1 a2_2 a2_3 a2_4 a2_5 a2_6).bind fun t262 => ((rule_First.f y249 a2_0 a2_1 a2_2 a2_3 a2_4 a2_5 a2_6).bind fun t263 => ((rule_First.f (y255 ++ l0) a2_0 a2_1 a2_2 a2_3 a2_4 a2_5 a2_6).bind fun t264 => (if t261 ≥ 0 then (if t263 = t261 then (if t261 < 0 then (if ((decide (t263 ≥ 0)) != t262) = true then (gueritelaw15_RuleBehind.j0 k true) else (if t262 = true then (if t264 = 0 then (gueritelaw15_RuleBehind.j0 k false) else (gueritelaw15_RuleBehind.j0 k true)) else (if t264 = (wrap64 (t261 + 1)) then (gueritelaw15_RuleBehind.j0 k (t264 != (-1))) else (gueritelaw15_RuleBehind.j0 k true)))) else (if t262 = true then (if t264 = 0 then (gueritelaw15_RuleBehind.j0 k false) else (gueritelaw15_RuleBehind.j0 k true)) else (if t264 = (wrap64 (t261 + 1)) then (gueritelaw15_RuleBehind.j0 k false) else (gueritelaw15_RuleBehind.j0 k true)))) else (gueritelaw15_RuleBehind.j0 k true)) else (if t261 < 0 then (if ((decide (t263 ≥ 0)) != t262) = true then (gueritelaw15_RuleBehind.j0 k true) else (if t262 = true then (if t264 = 0 then (gueritelaw15_RuleBehind.j0 k false) else (gueritelaw15_RuleBehind.j0 k true)) else (gueritelaw15_RuleBehind.j0 k (t264 != (-1))))) else (if t262 = true then (if t264 = 0 then (gueritelaw15_RuleBehind.j0 k false) else (gueritelaw15_RuleBehind.j0 k true)) else (gueritelaw15_RuleBehind.j0 k false)))))))) else (none))) else (none))) = some r := by first | (rw [hy249]; with_reducible exact H) | (have H2_ := (Option.bind_some _ _).symm.trans H; rw [hy249]; with_reducible exact H2_) | (have H2_ := (Option.bind_some _ _).symm.trans H; with_reducible exact H2_) | with_reducible exact H | (rw [hy249]; exact H) | exact H
        have Ny249 := Aside0.mk hy249
        clear hy249
        obtain ⟨y252, hy252⟩ : ∃ y_ : List (S42), y_ = (([(⟨a1_0, a1_1, (⟨a1_2, a1_3⟩ : S29), (⟨a1_4, a1_5⟩ : S29), a1_6, a1_7, a1_8, a1_9, a1_10, a1_11⟩ : S42)] : List (S42))) := ⟨_, rfl⟩
        replace H : (if ([] : List (S42)).length + y252.length < 1466015503701 then ((some (([] : List (S42)) ++ y252 : List (S42))).bind fun y255 => (if y255.length + l0.length < 1466015503701 then ((rule_First.f l0 a2_0 a2_1 a2_2 a2_3 a2_4 a2_5 a2_6).bind fun t261 => ((rule_Matches.f k a1_0 a1_1 a1_2 a1_3 a1_4 a1_5 a1_6 a1_7 a1_8 a1_9 a1_10 a1_11 a2_0 a2_1 a2_2 a2_3 a2_4 a2_5 a2_6).bind fun t262 => ((rule_First.f y249 a2_0 a2_1 a2_2 a2_3 a2_4 a2_5 a2_6).bind fun t263 => ((rule_First.f (y255 ++ l0) a2_0 a2_1 a2_2 a2_3 a2_4 a2_5 a2_6).bind fun t264 => (if t261 ≥ 0 then (if t263 = t261 then (if t261 < 0 then (if ((decide (t263 ≥ 0)) != t262) = true then (gueritelaw15_RuleBehind.j0 k true) else (if t262 = true then (if t264 = 0 then (gueritelaw15_RuleBehind.j0 k false) else (gueritelaw15_RuleBehind.j0 k true)) else (if t264 = (wrap64 (t261 + 1)) then (gueritelaw15_RuleBehind.j0 k (t264 != (-1))) else (gueritelaw15_RuleBehind.j0 k true)))) else (if t262 = true then (if t264 = 0 then (gueritelaw15_RuleBehind.j0 k false) else (gueritelaw15_RuleBehind.j0 k true)) else (if t264 = (wrap64 (t261 + 1)) then (gueritelaw15_RuleBehind.j0 k false) else (gueritelaw15_RuleBehind.j0 k true)))) else (gueritelaw15_RuleBehind.j0 k true)) else (if t261 < 0 then (if ((decide (t263 ≥ 0)) != t262) = true then (gueritelaw15_RuleBehind.j0 k true) else (if t262 = true then (if t264 = 0 then (gueritelaw15_RuleBehind.j0 k false) else (gueritelaw15_RuleBehind.j0 k true)) else (gueritelaw15_RuleBehind.j0 k (t264 != (-1))))) else (if t262 = true then (if t264 = 0 then (gueritelaw15_RuleBehind.j0 k false) else (gueritelaw15_RuleBehind.j0 k true)) else (gueritelaw15_RuleBehind.j0 k false)))))))) else (none))) else (none)) = some r := by first | (rw [hy252]; with_reducible exact H) | (have H2_ := (Option.bind_some _ _).symm.trans H; rw [hy252]; with_reducible exact H2_) | (have H2_ := (Option.bind_some _ _).symm.trans H; with_reducible exact H2_) | with_reducible exact H | (rw [hy252]; exact H) | exact H
        have Ny252 := Aside0.mk hy252
        clear hy252
        by_cases c11 : ([] : List (S42)).length + y252.length < 1466015503701
        · rw [if_pos c11] at H
          have LMc11 := Aside0.mk c11
          clear c11
          obtain ⟨y255, hy255⟩ : ∃ y_ : List (S42), y_ = (([] : List (S42)) ++ y252) := ⟨_, rfl⟩
          replace H : (if y255.length + l0.length < 1466015503701 then ((rule_First.f l0 a2_0 a2_1 a2_2 a2_3 a2_4 a2_5 a2_6).bind fun t261 => ((rule_Matches.f k a1_0 a1_1 a1_2 a1_3 a1_4 a1_5 a1_6 a1_7 a1_8 a1_9 a1_10 a1_11 a2_0 a2_1 a2_2 a2_3 a2_4 a2_5 a2_6).bind fun t262 => ((rule_First.f y249 a2_0 a2_1 a2_2 a2_3 a2_4 a2_5 a2_6).bind fun t263 => ((rule_First.f (y255 ++ l0) a2_0 a2_1 a2_2 a2_3 a2_4 a2_5 a2_6).bind fun t264 => (if t261 ≥ 0 then (if t263 = t261 then (if t261 < 0 then (if ((decide (t263 ≥ 0)) != t262) = true then (gueritelaw15_RuleBehind.j0 k true) else (if t262 = true then (if t264 = 0 then (gueritelaw15_RuleBehind.j0 k false) else (gueritelaw15_RuleBehind.j0 k true)) else (if t264 = (wrap64 (t261 + 1)) then (gueritelaw15_RuleBehind.j0 k (t264 != (-1))) else (gueritelaw15_RuleBehind.j0 k true)))) else (if t262 = true then (if t264 = 0 then (gueritelaw15_RuleBehind.j0 k false) else (gueritelaw15_RuleBehind.j0 k true)) else (if t264 = (wrap64 (t261 + 1)) then (gueritelaw15_RuleBehind.j0 k false) else (gueritelaw15_RuleBehind.j0 k true)))) else (gueritelaw15_RuleBehind.j0 k true)) else (if t261 < 0 then (if ((decide (t263 ≥ 0)) != t262) = true then (gueritelaw15_RuleBehind.j0 k true) else (if t262 = true then (if t264 = 0 then (gueritelaw15_RuleBehind.j0 k false) else (gueritelaw15_RuleBehind.j0 k true)) else (gueritelaw15_RuleBehind.j0 k (t264 != (-1))))) else (if t262 = true then (if t264 = 0 then (gueritelaw15_RuleBehind.j0 k false) else (gueritelaw15_RuleBehind.j0 k true)) else (gueritelaw15_RuleBehind.j0 k false)))))))) else (none)) = some r := by first | (rw [hy255]; with_reducible exact H) | (have H2_ := (Option.bind_some _ _).symm.trans H; rw [hy255]; with_reducible exact H2_) | (have H2_ := (Option.bind_some _ _).symm.trans H; with_reducible exact H2_) | with_reducible exact H | (rw [hy255]; exact H) | exact H
          have Ny255 := Aside0.mk hy255
          clear hy255
          by_cases c12 : y255.length + l0.length < 1466015503701
          · rw [if_pos c12] at H
            have LMc12 := Aside0.mk c12
            clear c12
            obtain ⟨y258, hy258⟩ : ∃ y_ : List (S42), y_ = (y255 ++ l0) := ⟨_, rfl⟩
            replace H : ((rule_First.f l0 a2_0 a2_1 a2_2 a2_3 a2_4 a2_5 a2_6).bind fun t261 => ((rule_Matches.f k a1_0 a1_1 a1_2 a1_3 a1_4 a1_5 a1_6 a1_7 a1_8 a1_9 a1_10 a1_11 a2_0 a2_1 a2_2 a2_3 a2_4 a2_5 a2_6).bind fun t262 => ((rule_First.f y249 a2_0 a2_1 a2_2 a2_3 a2_4 a2_5 a2_6).bind fun t263 => ((rule_First.f y258 a2_0 a2_1 a2_2 a2_3 a2_4 a2_5 a2_6).bind fun t264 => (if t261 ≥ 0 then (if t263 = t261 then (if t261 < 0 then (if ((decide (t263 ≥ 0)) != t262) = true then (gueritelaw15_RuleBehind.j0 k true) else (if t262 = true then (if t264 = 0 then (gueritelaw15_RuleBehind.j0 k false) else (gueritelaw15_RuleBehind.j0 k true)) else (if t264 = (wrap64 (t261 + 1)) then (gueritelaw15_RuleBehind.j0 k (t264 != (-1))) else (gueritelaw15_RuleBehind.j0 k true)))) else (if t262 = true then (if t264 = 0 then (gueritelaw15_RuleBehind.j0 k false) else (gueritelaw15_RuleBehind.j0 k true)) else (if t264 = (wrap64 (t261 + 1)) then (gueritelaw15_RuleBehind.j0 k false) else (gueritelaw15_RuleBehind.j0 k true)))) else (gueritelaw15_RuleBehind.j0 k true)) else (if t261 < 0 then (if ((decide (t263 ≥ 0)) != t262) = true then (gueritelaw15_RuleBehind.j0 k true) else (if t262 = true then (if t264 = 0 then (gueritelaw15_RuleBehind.j0 k false) else (gueritelaw15_RuleBehind.j0 k true)) else (gueritelaw15_RuleBehind.j0 k (t264 != (-1))))) else (if t262 = true then (if t264 = 0 then (gueritelaw15_RuleBehind.j0 k false) else (gueritelaw15_RuleBehind.j0 k true)) else (gueritelaw15_RuleBehind.j0 k false)))))))) = some r := by first | (rw [hy258]; with_reducible exact H) | (have H2_ := (Option.bind_some _ _).symm.trans H; rw [hy258]; with_reducible exact H2_) | (have H2_ := (Option.bind_some _ _).symm.trans H; with_reducible exact H2_) | with_reducible exact H | (rw [hy258]; exact H) | exact H
            have Ny258 := Aside0.mk hy258
            clear hy258
            replace H := Option.bind_eq_some_iff.mp H
            obtain ⟨t261, A130, H⟩ := H
            replace H : ((rule_Matches.f k a1_0 a1_1 a1_2 a1_3 a1_4 a1_5 a1_6 a1_7 a1_8 a1_9 a1_10 a1_11 a2_0 a2_1 a2_2 a2_3 a2_4 a2_5 a2_6).bind fun t262 => ((rule_First.f y249 a2_0 a2_1 a2_2 a2_3 a2_4 a2_5 a2_6).bind fun t263 => ((rule_First.f y258 a2_0 a2_1 a2_2 a2_3 a2_4 a2_5 a2_6).bind fun t264 => (if t261 ≥ 0 then (if t263 = t261 then (if t261 < 0 then (if ((decide (t263 ≥ 0)) != t262) = true then (gueritelaw15_RuleBehind.j0 k true) else (if t262 = true then (if t264 = 0 then (gueritelaw15_RuleBehind.j0 k false) else (gueritelaw15_RuleBehind.j0 k true)) else (if t264 = (wrap64 (t261 + 1)) then (gueritelaw15_RuleBehind.j0 k (t264 != (-1))) else (gueritelaw15_RuleBehind.j0 k true)))) else (if t262 = true then (if t264 = 0 then (gueritelaw15_RuleBehind.j0 k false) else (gueritelaw15_RuleBehind.j0 k true)) else (if t264 = (wrap64 (t261 + 1)) then (gueritelaw15_RuleBehind.j0 k false) else (gueritelaw15_RuleBehind.j0 k true)))) else (gueritelaw15_RuleBehind.j0 k true)) else (if t261 < 0 then (if ((decide (t263 ≥ 0)) != t262) = true then (gueritelaw15_RuleBehind.j0 k true) else (if t262 = true then (if t264 = 0 then (gueritelaw15_RuleBehind.j0 k false) else (gueritelaw15_RuleBehind.j0 k true)) else (gueritelaw15_RuleBehind.j0 k (t264 != (-1))))) else (if t262 = true then (if t264 = 0 then (gueritelaw15_RuleBehind.j0 k false) else (gueritelaw15_RuleBehind.j0 k true)) else (gueritelaw15_RuleBehind.j0 k false))))))) = some r := H
            have A13 := Aside0.mk A130
            clear A130
            replace H := Option.bind_eq_some_iff.mp H
            obtain ⟨t262, A140, H⟩ := H
            replace H : ((rule_First.f y249 a2_0 a2_1 a2_2 a2_3 a2_4 a2_5 a2_6).bind fun t263 => ((rule_First.f y258 a2_0 a2_1 a2_2 a2_3 a2_4 a2_5 a2_6).bind fun t264 => (if t261 ≥ 0 then (if t263 = t261 then (if t261 < 0 then (if ((decide (t263 ≥ 0)) != t262) = true then (gueritelaw15_RuleBehind.j0 k true) else (if t262 = true then (if t264 = 0 then (gueritelaw15_RuleBehind.j0 k false) else (gueritelaw15_RuleBehind.j0 k true)) else (if t264 = (wrap64 (t261 + 1)) then (gueritelaw15_RuleBehind.j0 k (t264 != (-1))) else (gueritelaw15_RuleBehind.j0 k true)))) else (if t262 = true then (if t264 = 0 then (gueritelaw15_RuleBehind.j0 k false) else (gueritelaw15_RuleBehind.j0 k true)) else (if t264 = (wrap64 (t261 + 1)) then (gueritelaw15_RuleBehind.j0 k false) else (gueritelaw15_RuleBehind.j0 k true)))) else (gueritelaw15_RuleBehind.j0 k true)) else (if t261 < 0 then (if ((decide (t263 ≥ 0)) != t262) = true then (gueritelaw15_RuleBehind.j0 k true) else (if t262 = true then (if t264 = 0 then (gueritelaw15_RuleBehind.j0 k false) else (gueritelaw15_RuleBehind.j0 k true)) else (gueritelaw15_RuleBehind.j0 k (t264 != (-1))))) else (if t262 = true then (if t264 = 0 then (gueritelaw15_RuleBehind.j0 k false) else (gueritelaw15_RuleBehind.j0 k true)) else (gueritelaw15_RuleBehind.j0 k false)))))) = some r := H
            have A14 := Aside0.mk A140
            clear A140
            replace H := Option.bind_eq_some_iff.mp H
            obtain ⟨t263, A150, H⟩ := H
            replace H : ((rule_First.f y258 a2_0 a2_1 a2_2 a2_3 a2_4 a2_5 a2_6).bind fun t264 => (if t261 ≥ 0 then (if t263 = t261 then (if t261 < 0 then (if ((decide (t263 ≥ 0)) != t262) = true then (gueritelaw15_RuleBehind.j0 k true) else (if t262 = true then (if t264 = 0 then (gueritelaw15_RuleBehind.j0 k false) else (gueritelaw15_RuleBehind.j0 k true)) else (if t264 = (wrap64 (t261 + 1)) then (gueritelaw15_RuleBehind.j0 k (t264 != (-1))) else (gueritelaw15_RuleBehind.j0 k true)))) else (if t262 = true then (if t264 = 0 then (gueritelaw15_RuleBehind.j0 k false) else (gueritelaw15_RuleBehind.j0 k true)) else (if t264 = (wrap64 (t261 + 1)) then (gueritelaw15_RuleBehind.j0 k false) else (gueritelaw15_RuleBehind.j0 k true)))) else (gueritelaw15_RuleBehind.j0 k true)) else (if t261 < 0 then (if ((decide (t263 ≥ 0)) != t262) = true then (gueritelaw15_RuleBehind.j0 k true) else (if t262 = true then (if t264 = 0 then (gueritelaw15_RuleBehind.j0 k false) else (gueritelaw15_RuleBehind.j0 k true)) else (gueritelaw15_RuleBehind.j0 k (t264 != (-1))))) else (if t262 = true then (if t264 = 0 then (gueritelaw15_RuleBehind.j0 k false) else (gueritelaw15_RuleBehind.j0 k true)) else (gueritelaw15_RuleBehind.j0 k false))))) = some r := H
            have A15 := Aside0.mk A150
            clear A150
            replace H := Option.bind_eq_some_iff.mp H
            obtain ⟨t264, A160, H⟩ := H
            replace H : (if t261 ≥ 0 then (if t263 = t261 then (if t261 < 0 then (if ((decide (t263 ≥ 0)) != t262) = true then (gueritelaw15_RuleBehind.j0 k true) else (if t262 = true then (if t264 = 0 then (gueritelaw15_RuleBehind.j0 k false) else (gueritelaw15_RuleBehind.j0 k true)) else (if t264 = (wrap64 (t261 + 1)) then (gueritelaw15_RuleBehind.j0 k (t264 != (-1))) else (gueritelaw15_RuleBehind.j0 k true)))) else (if t262 = true then (if t264 = 0 then (gueritelaw15_RuleBehind.j0 k false) else (gueritelaw15_RuleBehind.j0 k true)) else (if t264 = (wrap64 (t261 + 1)) then (gueritelaw15_RuleBehind.j0 k false) else (gueritelaw15_RuleBehind.j0 k true)))) else (gueritelaw15_RuleBehind.j0 k true)) else (if t261 < 0 then (if ((decide (t263 ≥ 0)) != t262) = true then (gueritelaw15_RuleBehind.j0 k true) else (if t262 = true then (if t264 = 0 then (gueritelaw15_RuleBehind.j0 k false) else (gueritelaw15_RuleBehind.j0 k true)) else (gueritelaw15_RuleBehind.j0 k (t264 != (-1))))) else (if t262 = true then (if t264 = 0 then (gueritelaw15_RuleBehind.j0 k false) else (gueritelaw15_RuleBehind.j0 k true)) else (gueritelaw15_RuleBehind.j0 k false)))) = some r := H
            have A16 := Aside0.mk A160
            clear A160
            have HC17 := Aside0.mk H
            clear H
            go_enter Try.func6, Try.ntmps6
            try go_wp2_with (first | ((with_reducible refine gate_dst (N := 4) rfl ?_); refine box_event ?hg (N := 4) ?hd (cs := #[.int .i64 a1_0, .int .i64 a1_1, .int .u32 a1_2, .int .i64 a1_3, .int .u32 a1_4, .int .i64 a1_5, .int .i64 a1_6, .int .i64 a1_7, .int .i64 a1_8, .int .i64 a1_9, .int .i64 a1_10, .bool a1_11]) (t := 42) ?hr ?_; (case hd => rfl); (case hg => rfl); (case hr => first | (go_simp; done) | (go_simp; rfl)); intro gb240 hg w18 hbox hb; have n0_ := Aside0.mk (below_step (by repeat (first | (with_reducible first | exact HB.out | apply below_alloc | apply pw_below_drewN | apply below_drew1) | exact HB.out)) hb); have n1_ := Aside0.mk (hbox); have n2_ := Aside0.mk ((by rw [hg]; exact (below_size (by repeat (first | (with_reducible first | exact HB.out | apply below_alloc | apply pw_below_drewN | apply below_drew1) | exact HB.out))) : w.heap.size ≤ gb240)); have n3_ := Aside0.mk ((by rw [hg]; exact (below_size (by repeat (first | (with_reducible first | exact HB.out | apply below_alloc | apply pw_below_drewN | apply below_drew1) | exact HB.out))) : w.heap.size ≤ gb240)); clear HB; have HB := n0_; have BK240 := n1_; have GW240 := n2_; have GE240 := n3_; clear n0_ n1_ n2_ n3_; clear hb hbox hg) | ((with_reducible refine gate_dst (N := 5) rfl ?_); refine box_event ?hg (N := 5) ?hd (cs := #[.int .i64 a2_0, .int .i64 a2_1, .int .u32 a2_2, .int .u32 a2_3, .int .i64 a2_4, .int .i64 a2_5, .int .i64 a2_6]) (t := 46) ?hr ?_; (case hd => rfl); (case hg => rfl); (case hr => first | (go_simp; done) | (go_simp; rfl)); intro gb241 hg w19 hbox hb; have n0_ := Aside0.mk (blk_below (g := gb240) (o := .cells #[.int .i64 a1_0, .int .i64 a1_1, .int .u32 a1_2, .int .i64 a1_3, .int .u32 a1_4, .int .i64 a1_5, .int .i64 a1_6, .int .i64 a1_7, .int .i64 a1_8, .int .i64 a1_9, .int .i64 a1_10, .bool a1_11] 42 (0, 0)) (by (with_reducible repeat (first | refine blk_drewN ?_ _ | refine blk_drew ?_ | refine blk_alloc ?_ _)); exact BK240.out) hb); have n1_ := Aside0.mk (below_step (by repeat (first | (with_reducible first | exact HB.out | apply below_alloc | apply pw_below_drewN | apply below_drew1 | refine below_set ?_ GE240.out) | exact HB.out)) hb); have n2_ := Aside0.mk (hbox); have n3_ := Aside0.mk ((by rw [hg]; exact (below_size (by repeat (first | (with_reducible first | exact HB.out | apply below_alloc | apply pw_below_drewN | apply below_drew1 | refine below_set ?_ GE240.out) | exact HB.out))) : w.heap.size ≤ gb241)); have n4_ := Aside0.mk ((by rw [hg]; exact (below_size (by repeat (first | (with_reducible first | exact HB.out | apply below_alloc | apply pw_below_drewN | apply below_drew1 | refine below_set ?_ GE240.out) | exact HB.out))) : w.heap.size ≤ gb241)); have n5_ := Aside0.mk ((by rw [hg]; exact Nat.ne_of_lt (blk_lt (g := gb240) (o := .cells #[.int .i64 a1_0, .int .i64 a1_1, .int .u32 a1_2, .int .i64 a1_3, .int .u32 a1_4, .int .i64 a1_5, .int .i64 a1_6, .int .i64 a1_7, .int .i64 a1_8, .int .i64 a1_9, .int .i64 a1_10, .bool a1_11] 42 (0, 0)) (by (with_reducible repeat (first | refine blk_drewN ?_ _ | refine blk_drew ?_ | refine blk_alloc ?_ _)); exact BK240.out)) : gb240 ≠ gb241)); have n6_ := Aside0.mk ((by rw [hg]; exact Nat.ne_of_gt (blk_lt (g := gb240) (o := .cells #[.int .i64 a1_0, .int .i64 a1_1, .int .u32 a1_2, .int .i64 a1_3, .int .u32 a1_4, .int .i64 a1_5, .int .i64 a1_6, .int .i64 a1_7, .int .i64 a1_8, .int .i64 a1_9, .int .i64 a1_10, .bool a1_11] 42 (0, 0)) (by (with_reducible repeat (first | refine blk_drewN ?_ _ | refine blk_drew ?_ | refine blk_alloc ?_ _)); exact BK240.out)) : gb241 ≠ gb240)); clear BK240; clear HB; have BK240 := n0_; have HB := n1_; have BK241 := n2_; have GW241 := n3_; have GE241 := n4_; have NB240_241 := n5_; have NB241_240 := n6_; clear n0_ n1_ n2_ n3_ n4_ n5_ n6_; clear hb hbox hg))
            have n0_ := Aside0.mk (blk_drew BK240.out)
            have n1_ := Aside0.mk (blk_drew BK241.out)
            have n2_ := Aside0.mk (below_drew1 HB.out)
            clear BK240
            clear BK241
            clear HB
            have BK240 := n0_
            have BK241 := n1_
            have HB := n2_
            clear n0_ n1_ n2_
            refine start_ (n := 7) (S := fun w' => w'.cell? ⟨gb240, 0, none⟩ = some (.int .i64 a1_0) ∧ w'.cell? ⟨gb240, 1, none⟩ = some (.int .i64 a1_1) ∧ w'.cell? ⟨gb240, 2, none⟩ = some (.int .u32 a1_2) ∧ w'.cell? ⟨gb240, 3, none⟩ = some (.int .i64 a1_3) ∧ w'.cell? ⟨gb240, 4, none⟩ = some (.int .u32 a1_4) ∧ w'.cell? ⟨gb240, 5, none⟩ = some (.int .i64 a1_5) ∧ w'.cell? ⟨gb240, 6, none⟩ = some (.int .i64 a1_6) ∧ w'.cell? ⟨gb240, 7, none⟩ = some (.int .i64 a1_7) ∧ w'.cell? ⟨gb240, 8, none⟩ = some (.int .i64 a1_8) ∧ w'.cell? ⟨gb240, 9, none⟩ = some (.int .i64 a1_9) ∧ w'.cell? ⟨gb240, 10, none⟩ = some (.int .i64 a1_10) ∧ w'.cell? ⟨gb240, 11, none⟩ = some (.bool a1_11)) (ds := []) #[false, false, false, false, false, false, false] (by kernel_rfl) rfl rfl ⟨(blk_cell BK240.out 0).trans rfl, (blk_cell BK240.out 1).trans rfl, (blk_cell BK240.out 2).trans rfl, (blk_cell BK240.out 3).trans rfl, (blk_cell BK240.out 4).trans rfl, (blk_cell BK240.out 5).trans rfl, (blk_cell BK240.out 6).trans rfl, (blk_cell BK240.out 7).trans rfl, (blk_cell BK240.out 8).trans rfl, (blk_cell BK240.out 9).trans rfl, (blk_cell BK240.out 10).trans rfl, (blk_cell BK240.out 11).trans rfl⟩ (fun hHeld => ?_)
            generalize w19.drew = w20 at BK240 BK241 HB hHeld ⊢
            refine pure_ (i := 0) (N := some 17) (v := ?_) (a' := ?_) #[true, false, false, false, false, false, false] rfl rfl (by kernel_rfl) (fun _ _ _ h => h) (Or.inl ⟨by rfl, ?_⟩) ?_ ?_
            rotate_left
            · intro w'
              go_simp
              with_reducible rfl
            rotate_left
            · simp only [Act.put, List.setIfInBounds_toArray, List.set_cons_zero, List.set_cons_succ, i64_w, i32_w]
              rfl
            refine pure_ (i := 1) (N := some 18) (v := ?_) (a' := ?_) #[true, true, false, false, false, false, false] rfl rfl (by kernel_rfl) (fun _ _ _ h => h) (Or.inl ⟨by rfl, ?_⟩) ?_ ?_
            rotate_left
            · intro w'
              go_simp
              with_reducible rfl
            rotate_left
            · simp only [Act.put, List.setIfInBounds_toArray, List.set_cons_zero, List.set_cons_succ, i64_w, i32_w]
              rfl
            refine take_ (i := 3) (N := some 20) (v := ?_) (a' := ?_) #[true, true, false, true, false, false, false] rfl rfl (by kernel_rfl) (fun _ _ _ h => h) (Or.inl ⟨by rfl, ?_⟩) hHeld ?_ ?_
            rotate_left
            · rintro w' ⟨s0, s1, s2, s3, s4, s5, s6, s7, s8, s9, s10, s11⟩
              go_simp
              with_reducible rfl
            rotate_left
            · simp only [Act.put, List.setIfInBounds_toArray, List.set_cons_zero, List.set_cons_succ, i64_w, i32_w]
              rfl
            refine join_ (σ := Value × Value) 2 #[true, true, true, true, true, false, false] (fun s_ => [(19, s_.1), (21, s_.2)]) (fun s_ w' => (w'.cell? ⟨gb240, 0, none⟩ = some (.int .i64 a1_0) ∧ w'.cell? ⟨gb240, 1, none⟩ = some (.int .i64 a1_1) ∧ w'.cell? ⟨gb240, 2, none⟩ = some (.int .u32 a1_2) ∧ w'.cell? ⟨gb240, 3, none⟩ = some (.int .i64 a1_3) ∧ w'.cell? ⟨gb240, 4, none⟩ = some (.int .u32 a1_4) ∧ w'.cell? ⟨gb240, 5, none⟩ = some (.int .i64 a1_5) ∧ w'.cell? ⟨gb240, 6, none⟩ = some (.int .i64 a1_6) ∧ w'.cell? ⟨gb240, 7, none⟩ = some (.int .i64 a1_7) ∧ w'.cell? ⟨gb240, 8, none⟩ = some (.int .i64 a1_8) ∧ w'.cell? ⟨gb240, 9, none⟩ = some (.int .i64 a1_9) ∧ w'.cell? ⟨gb240, 10, none⟩ = some (.int .i64 a1_10) ∧ w'.cell? ⟨gb240, 11, none⟩ = some (.bool a1_11)) ∧ (Kd.R k42 42 w' w.heap.size (fun k_ => some k_ ≠ (s_.2 : Value).ownBlock ∧ k_ ≠ gb240) s_.1 y243) ∧ (Kd.R k42 42 w' w.heap.size (fun k_ => some k_ ≠ (s_.1 : Value).ownBlock ∧ k_ ≠ gb240) s_.2 y246) ∧ (w'.heap[gb240]? = some (.cells #[.int .i64 a1_0, .int .i64 a1_1, .int .u32 a1_2, .int .i64 a1_3, .int .u32 a1_4, .int .i64 a1_5, .int .i64 a1_6, .int .i64 a1_7, .int .i64 a1_8, .int .i64 a1_9, .int .i64 a1_10, .bool a1_11] 42 (0, 0))) ∧ (w'.heap[gb241]? = some (.cells #[.int .i64 a2_0, .int .i64 a2_1, .int .u32 a2_2, .int .u32 a2_3, .int .i64 a2_4, .int .i64 a2_5, .int .i64 a2_6] 46 (0, 0))) ∧ (Below w.heap.size w w')) ?_ ?_
            rotate_left
            · intro hCont
              refine two_ (i := 2) (j := 4) (Ni := some 19) (Nj := some 21) #[true, true, true, true, false, false, false] #[true, true, false, true, true, false, false] rfl rfl rfl rfl (by kernel_rfl) (by decide) (by decide) (fun K hK => ?_) (fun K hK => ?_)
              · skip
                refine Kd.R_append_rows_step k42 (w0 := w) w.heap.size (by rfl) (.tmp 17) (.tmp 18) 40 42 (.agg #[(.int .i64 0), (.int .i64 0), (.int .u32 0), (.int .i64 0), (.int .u32 0), (.int .i64 0), (.int .i64 0), (.int .i64 0), (.int .i64 0), (.int .i64 0), (.int .i64 0), (.bool false)]) 96 rfl Try.underlying40 info42 rfl (by decide) (by omega) (.slice none 0 0) ([] : List (S42)) l0 _ _ _ (fun k_ => k_ ≠ gb240) (fun _ => False) rfl rfl ?aO ?aR (fun _ _ h => h) (fun _ h => h.elim) ?aF ?aB ?aS ?aL ?_
                (case aR => repeat (first | exact (Kd.C_below HR0.out HB.out) | (with_reducible refine Kd.C_alloc ?_ _) | (with_reducible refine Kd.C_drewN ?_ _) | (with_reducible refine Kd.C_drew ?_)))
                (case aB => exact (by repeat (first | (with_reducible first | exact HB.out | apply below_alloc | apply pw_below_drewN | apply below_drew1 | refine below_set ?_ GE240.out | refine below_set ?_ GE241.out) | exact HB.out)))
                (case aF => exact (fun k_ hk => Kd.freshB (g := gb240) (o := .cells #[.int .i64 a1_0, .int .i64 a1_1, .int .u32 a1_2, .int .i64 a1_3, .int .u32 a1_4, .int .i64 a1_5, .int .i64 a1_6, .int .i64 a1_7, .int .i64 a1_8, .int .i64 a1_9, .int .i64 a1_10, .bool a1_11] 42 (0, 0)) (by (with_reducible repeat (first | refine blk_drewN ?_ _ | refine blk_drew ?_ | refine blk_alloc ?_ _)); exact BK240.out) k_ hk))
                (case aO => exact ((Kd.R_nil _ _ _ _ (fun k_ => k_ ≠ gb240))))
                (case aS => exact (below_size (by repeat (first | (with_reducible first | exact HB.out | apply below_alloc | apply pw_below_drewN | apply below_drew1 | refine below_set ?_ GE240.out | refine below_set ?_ GE241.out) | exact HB.out))))
                (case aL => have := LMc9.out; omega)
                intro v244 w21 ho hb hg hat
                rw [← Ny243.out] at ho
                have n0_ := Aside0.mk (blk_grown (g := gb240) (o := .cells #[.int .i64 a1_0, .int .i64 a1_1, .int .u32 a1_2, .int .i64 a1_3, .int .u32 a1_4, .int .i64 a1_5, .int .i64 a1_6, .int .i64 a1_7, .int .i64 a1_8, .int .i64 a1_9, .int .i64 a1_10, .bool a1_11] 42 (0, 0)) (by (with_reducible repeat (first | refine blk_drewN ?_ _ | refine blk_drew ?_ | refine blk_alloc ?_ _)); exact BK240.out) hg (by simp [Value.ownBlock]))
                have n1_ := Aside0.mk (blk_grown (g := gb241) (o := .cells #[.int .i64 a2_0, .int .i64 a2_1, .int .u32 a2_2, .int .u32 a2_3, .int .i64 a2_4, .int .i64 a2_5, .int .i64 a2_6] 46 (0, 0)) (by (with_reducible repeat (first | refine blk_drewN ?_ _ | refine blk_drew ?_ | refine blk_alloc ?_ _)); exact BK241.out) hg (by simp [Value.ownBlock]))
                have n2_ := Aside0.mk (hb)
                have n3_ := Aside0.mk (ho)
                clear BK240
                clear BK241
                clear HB
                have BK240 := n0_
                have BK241 := n1_
                have HB := n2_
                have HO245 := n3_
                clear n0_ n1_ n2_ n3_
                clear ho hb hg hat
                refine hK.out _ _ ⟨(blk_cell BK240.out 0).trans rfl, (blk_cell BK240.out 1).trans rfl, (blk_cell BK240.out 2).trans rfl, (blk_cell BK240.out 3).trans rfl, (blk_cell BK240.out 4).trans rfl, (blk_cell BK240.out 5).trans rfl, (blk_cell BK240.out 6).trans rfl, (blk_cell BK240.out 7).trans rfl, (blk_cell BK240.out 8).trans rfl, (blk_cell BK240.out 9).trans rfl, (blk_cell BK240.out 10).trans rfl, (blk_cell BK240.out 11).trans rfl⟩ (fun hHeld => ?_)
                clear hK K
                refine norm_ (a' := ?_) ?_ ?_
                rotate_left
                · show Act.put _ (some 19) _ = _
                  simp only [Act.put, List.setIfInBounds_toArray, List.set_cons_zero, List.set_cons_succ, i64_w, i32_w]
                  rfl
                refine one_ (i := 4) (N := some 21) #[true, true, true, true, true, false, false] rfl rfl (by kernel_rfl) (by decide) (fun K hK => ?_)
                refine Kd.R_lit_step k42 _ 42 ?hg (N := 21) ?hd (xs := ([(⟨a1_0, a1_1, (⟨a1_2, a1_3⟩ : S29), (⟨a1_4, a1_5⟩ : S29), a1_6, a1_7, a1_8, a1_9, a1_10, a1_11⟩ : S42)] : List (S42))) (inner := [.int .i64 a1_0, .int .i64 a1_1, .int .u32 a1_2, .int .i64 a1_3, .int .u32 a1_4, .int .i64 a1_5, .int .i64 a1_6, .int .i64 a1_7, .int .i64 a1_8, .int .i64 a1_9, .int .i64 a1_10, .bool a1_11]) (ok := fun _ => True) (okp := fun _ => True) ?hr ?hp (fun _ hk => hk) trivial (Below.refl _ _) (Nat.le_refl _) (by simp) ?_; (case hd => rfl); (case hg => rfl); (case hr => first | (go_simp; done) | (go_simp; rfl)); (case hp => exact (Reps.front (show Kd.M k42 _ _ _ (⟨a1_0, a1_1, (⟨a1_2, a1_3⟩ : S29), (⟨a1_4, a1_5⟩ : S29), a1_6, a1_7, a1_8, a1_9, a1_10, a1_11⟩ : S42) [.int .i64 a1_0, .int .i64 a1_1, .int .u32 a1_2, .int .i64 a1_3, .int .u32 a1_4, .int .i64 a1_5, .int .i64 a1_6, .int .i64 a1_7, .int .i64 a1_8, .int .i64 a1_9, .int .i64 a1_10, .bool a1_11] from (k42_mkM _ _ _ (⟨a1_0, a1_1, (⟨a1_2, a1_3⟩ : S29), (⟨a1_4, a1_5⟩ : S29), a1_6, a1_7, a1_8, a1_9, a1_10, a1_11⟩ : S42) )) rfl (Reps.none _ _) rfl))
                intro v247 w22 ho23 hb hg_ hnew_
                clear hg_ hnew_
                (first | rw [← Ny246.out] at ho23 | (simp only [Int.reduceToNat] at ho23; rw [← Ny246.out] at ho23))
                have n0_ := Aside0.mk (Kd.R_elder' (by (with_reducible repeat (first | apply Kd.R_alloc | apply Kd.R_drewN | apply Kd.R_drew)); exact HO245.out) (Kd.R_base ho23) hb)
                have n1_ := Aside0.mk (Kd.R_lower (Kd.R_newB (Kd.R_new' ho23 (Kd.R_lt (by (with_reducible repeat (first | apply Kd.R_alloc | apply Kd.R_drewN | apply Kd.R_drew)); exact HO245.out))) (g := gb240) (o := .cells #[.int .i64 a1_0, .int .i64 a1_1, .int .u32 a1_2, .int .i64 a1_3, .int .u32 a1_4, .int .i64 a1_5, .int .i64 a1_6, .int .i64 a1_7, .int .i64 a1_8, .int .i64 a1_9, .int .i64 a1_10, .bool a1_11] 42 (0, 0)) (by (with_reducible repeat (first | refine blk_drewN ?_ _ | refine blk_drew ?_ | refine blk_alloc ?_ _)); exact BK240.out)) (below_size (by repeat (first | (with_reducible first | exact HB.out | apply below_alloc | apply pw_below_drewN | apply below_drew1 | refine below_set ?_ GE240.out | refine below_set ?_ GE241.out) | exact HB.out))))
                have n2_ := Aside0.mk (blk_below (g := gb240) (o := .cells #[.int .i64 a1_0, .int .i64 a1_1, .int .u32 a1_2, .int .i64 a1_3, .int .u32 a1_4, .int .i64 a1_5, .int .i64 a1_6, .int .i64 a1_7, .int .i64 a1_8, .int .i64 a1_9, .int .i64 a1_10, .bool a1_11] 42 (0, 0)) (by (with_reducible repeat (first | refine blk_drewN ?_ _ | refine blk_drew ?_ | refine blk_alloc ?_ _)); exact BK240.out) hb)
                have n3_ := Aside0.mk (blk_below (g := gb241) (o := .cells #[.int .i64 a2_0, .int .i64 a2_1, .int .u32 a2_2, .int .u32 a2_3, .int .i64 a2_4, .int .i64 a2_5, .int .i64 a2_6] 46 (0, 0)) (by (with_reducible repeat (first | refine blk_drewN ?_ _ | refine blk_drew ?_ | refine blk_alloc ?_ _)); exact BK241.out) hb)
                have n4_ := Aside0.mk (below_step (by repeat (first | (with_reducible first | exact HB.out | apply below_alloc | apply pw_below_drewN | apply below_drew1 | refine below_set ?_ GE240.out | refine below_set ?_ GE241.out) | exact HB.out)) hb)
                clear HO245
                clear BK240
                clear BK241
                clear HB
                have HO245 := n0_
                have HO248 := n1_
                have BK240 := n2_
                have BK241 := n3_
                have HB := n4_
                clear n0_ n1_ n2_ n3_ n4_
                clear hb ho23
                refine hK.out _ _ ⟨(blk_cell BK240.out 0).trans rfl, (blk_cell BK240.out 1).trans rfl, (blk_cell BK240.out 2).trans rfl, (blk_cell BK240.out 3).trans rfl, (blk_cell BK240.out 4).trans rfl, (blk_cell BK240.out 5).trans rfl, (blk_cell BK240.out 6).trans rfl, (blk_cell BK240.out 7).trans rfl, (blk_cell BK240.out 8).trans rfl, (blk_cell BK240.out 9).trans rfl, (blk_cell BK240.out 10).trans rfl, (blk_cell BK240.out 11).trans rfl⟩ (fun hHeld => ?_)
                clear hK K
                refine norm_ (a' := ?_) ?_ ?_
                rotate_left
                · show Act.put _ (some 21) _ = _
                  simp only [Act.put, List.setIfInBounds_toArray, List.set_cons_zero, List.set_cons_succ, i64_w, i32_w]
                  rfl
                exact norm_ (by simp only [putAll, Act.put, List.setIfInBounds_toArray, List.set_cons_zero, List.set_cons_succ]) (hCont (v244, v247) _ ⟨hHeld, (by (with_reducible repeat (first | apply Kd.R_alloc | apply Kd.R_drewN | apply Kd.R_drew)); exact Kd.R_mono HO245.out (fun _ hk => ⟨hk.2, hk.1⟩)), (by (with_reducible repeat (first | apply Kd.R_alloc | apply Kd.R_drewN | apply Kd.R_drew)); exact Kd.R_mono HO248.out (fun _ hk => ⟨hk.1.2, hk.2⟩)), (by (with_reducible repeat (first | refine blk_drewN ?_ _ | refine blk_drew ?_ | refine blk_alloc ?_ _)); exact BK240.out), (by (with_reducible repeat (first | refine blk_drewN ?_ _ | refine blk_drew ?_ | refine blk_alloc ?_ _)); exact BK241.out), (by repeat (first | (with_reducible first | exact HB.out | apply below_alloc | apply pw_below_drewN | apply below_drew1 | refine below_set ?_ GE240.out | refine below_set ?_ GE241.out) | exact HB.out))⟩)
              · skip
                refine Kd.R_lit_step k42 _ 42 ?hg (N := 21) ?hd (xs := ([(⟨a1_0, a1_1, (⟨a1_2, a1_3⟩ : S29), (⟨a1_4, a1_5⟩ : S29), a1_6, a1_7, a1_8, a1_9, a1_10, a1_11⟩ : S42)] : List (S42))) (inner := [.int .i64 a1_0, .int .i64 a1_1, .int .u32 a1_2, .int .i64 a1_3, .int .u32 a1_4, .int .i64 a1_5, .int .i64 a1_6, .int .i64 a1_7, .int .i64 a1_8, .int .i64 a1_9, .int .i64 a1_10, .bool a1_11]) (ok := fun _ => True) (okp := fun _ => True) ?hr ?hp (fun _ hk => hk) trivial (Below.refl _ _) (Nat.le_refl _) (by simp) ?_; (case hd => rfl); (case hg => rfl); (case hr => first | (go_simp; done) | (go_simp; rfl)); (case hp => exact (Reps.front (show Kd.M k42 _ _ _ (⟨a1_0, a1_1, (⟨a1_2, a1_3⟩ : S29), (⟨a1_4, a1_5⟩ : S29), a1_6, a1_7, a1_8, a1_9, a1_10, a1_11⟩ : S42) [.int .i64 a1_0, .int .i64 a1_1, .int .u32 a1_2, .int .i64 a1_3, .int .u32 a1_4, .int .i64 a1_5, .int .i64 a1_6, .int .i64 a1_7, .int .i64 a1_8, .int .i64 a1_9, .int .i64 a1_10, .bool a1_11] from (k42_mkM _ _ _ (⟨a1_0, a1_1, (⟨a1_2, a1_3⟩ : S29), (⟨a1_4, a1_5⟩ : S29), a1_6, a1_7, a1_8, a1_9, a1_10, a1_11⟩ : S42) )) rfl (Reps.none _ _) rfl))
                intro v247 w21 ho22 hb hg_ hnew_
                clear hg_ hnew_
                (first | rw [← Ny246.out] at ho22 | (simp only [Int.reduceToNat] at ho22; rw [← Ny246.out] at ho22))
                have n0_ := Aside0.mk (Kd.R_lower (Kd.R_newB ho22 (g := gb240) (o := .cells #[.int .i64 a1_0, .int .i64 a1_1, .int .u32 a1_2, .int .i64 a1_3, .int .u32 a1_4, .int .i64 a1_5, .int .i64 a1_6, .int .i64 a1_7, .int .i64 a1_8, .int .i64 a1_9, .int .i64 a1_10, .bool a1_11] 42 (0, 0)) (by (with_reducible repeat (first | refine blk_drewN ?_ _ | refine blk_drew ?_ | refine blk_alloc ?_ _)); exact BK240.out)) (below_size (by repeat (first | (with_reducible first | exact HB.out | apply below_alloc | apply pw_below_drewN | apply below_drew1 | refine below_set ?_ GE240.out | refine below_set ?_ GE241.out) | exact HB.out))))
                have n1_ := Aside0.mk (blk_below (g := gb240) (o := .cells #[.int .i64 a1_0, .int .i64 a1_1, .int .u32 a1_2, .int .i64 a1_3, .int .u32 a1_4, .int .i64 a1_5, .int .i64 a1_6, .int .i64 a1_7, .int .i64 a1_8, .int .i64 a1_9, .int .i64 a1_10, .bool a1_11] 42 (0, 0)) (by (with_reducible repeat (first | refine blk_drewN ?_ _ | refine blk_drew ?_ | refine blk_alloc ?_ _)); exact BK240.out) hb)
                have n2_ := Aside0.mk (blk_below (g := gb241) (o := .cells #[.int .i64 a2_0, .int .i64 a2_1, .int .u32 a2_2, .int .u32 a2_3, .int .i64 a2_4, .int .i64 a2_5, .int .i64 a2_6] 46 (0, 0)) (by (with_reducible repeat (first | refine blk_drewN ?_ _ | refine blk_drew ?_ | refine blk_alloc ?_ _)); exact BK241.out) hb)
                have n3_ := Aside0.mk (below_step (by repeat (first | (with_reducible first | exact HB.out | apply below_alloc | apply pw_below_drewN | apply below_drew1 | refine below_set ?_ GE240.out | refine below_set ?_ GE241.out) | exact HB.out)) hb)
                clear BK240
                clear BK241
                clear HB
                have HO248 := n0_
                have BK240 := n1_
                have BK241 := n2_
                have HB := n3_
                clear n0_ n1_ n2_ n3_
                clear hb ho22
                refine hK.out _ _ ⟨(blk_cell BK240.out 0).trans rfl, (blk_cell BK240.out 1).trans rfl, (blk_cell BK240.out 2).trans rfl, (blk_cell BK240.out 3).trans rfl, (blk_cell BK240.out 4).trans rfl, (blk_cell BK240.out 5).trans rfl, (blk_cell BK240.out 6).trans rfl, (blk_cell BK240.out 7).trans rfl, (blk_cell BK240.out 8).trans rfl, (blk_cell BK240.out 9).trans rfl, (blk_cell BK240.out 10).trans rfl, (blk_cell BK240.out 11).trans rfl⟩ (fun hHeld => ?_)
                clear hK K
                refine norm_ (a' := ?_) ?_ ?_
                rotate_left
                · show Act.put _ (some 21) _ = _
                  simp only [Act.put, List.setIfInBounds_toArray, List.set_cons_zero, List.set_cons_succ, i64_w, i32_w]
                  rfl
                refine one_ (i := 2) (N := some 19) #[true, true, true, true, true, false, false] rfl rfl (by kernel_rfl) (by decide) (fun K hK => ?_)
                refine Kd.R_append_rows_step k42 (w0 := w) w.heap.size (by rfl) (.tmp 17) (.tmp 18) 40 42 (.agg #[(.int .i64 0), (.int .i64 0), (.int .u32 0), (.int .i64 0), (.int .u32 0), (.int .i64 0), (.int .i64 0), (.int .i64 0), (.int .i64 0), (.int .i64 0), (.int .i64 0), (.bool false)]) 96 rfl Try.underlying40 info42 rfl (by decide) (by omega) (.slice none 0 0) ([] : List (S42)) l0 _ _ _ (fun k_ => some k_ ≠ (v247 : Value).ownBlock ∧ k_ ≠ gb240) (fun _ => False) rfl rfl ?aO ?aR (fun _ _ h => h) (fun _ h => h.elim) ?aF ?aB ?aS ?aL ?_
                (case aR => repeat (first | exact (Kd.C_below HR0.out HB.out) | (with_reducible refine Kd.C_alloc ?_ _) | (with_reducible refine Kd.C_drewN ?_ _) | (with_reducible refine Kd.C_drew ?_)))
                (case aB => exact (by repeat (first | (with_reducible first | exact HB.out | apply below_alloc | apply pw_below_drewN | apply below_drew1 | refine below_set ?_ GE240.out | refine below_set ?_ GE241.out) | exact HB.out)))
                (case aF => exact (fun k_ hk => ⟨Kd.fresh' (Kd.R_lt (by (with_reducible repeat (first | apply Kd.R_alloc | apply Kd.R_drewN | apply Kd.R_drew)); exact HO248.out)) k_ hk, Kd.freshB (g := gb240) (o := .cells #[.int .i64 a1_0, .int .i64 a1_1, .int .u32 a1_2, .int .i64 a1_3, .int .u32 a1_4, .int .i64 a1_5, .int .i64 a1_6, .int .i64 a1_7, .int .i64 a1_8, .int .i64 a1_9, .int .i64 a1_10, .bool a1_11] 42 (0, 0)) (by (with_reducible repeat (first | refine blk_drewN ?_ _ | refine blk_drew ?_ | refine blk_alloc ?_ _)); exact BK240.out) k_ hk⟩))
                (case aO => exact ((Kd.R_nil _ _ _ _ (fun k_ => some k_ ≠ (v247 : Value).ownBlock ∧ k_ ≠ gb240))))
                (case aS => exact (below_size (by repeat (first | (with_reducible first | exact HB.out | apply below_alloc | apply pw_below_drewN | apply below_drew1 | refine below_set ?_ GE240.out | refine below_set ?_ GE241.out) | exact HB.out))))
                (case aL => have := LMc9.out; omega)
                intro v244 w23 ho hb hg hat
                rw [← Ny243.out] at ho
                have n0_ := Aside0.mk (blk_grown (g := gb240) (o := .cells #[.int .i64 a1_0, .int .i64 a1_1, .int .u32 a1_2, .int .i64 a1_3, .int .u32 a1_4, .int .i64 a1_5, .int .i64 a1_6, .int .i64 a1_7, .int .i64 a1_8, .int .i64 a1_9, .int .i64 a1_10, .bool a1_11] 42 (0, 0)) (by (with_reducible repeat (first | refine blk_drewN ?_ _ | refine blk_drew ?_ | refine blk_alloc ?_ _)); exact BK240.out) hg (by simp [Value.ownBlock]))
                have n1_ := Aside0.mk (blk_grown (g := gb241) (o := .cells #[.int .i64 a2_0, .int .i64 a2_1, .int .u32 a2_2, .int .u32 a2_3, .int .i64 a2_4, .int .i64 a2_5, .int .i64 a2_6] 46 (0, 0)) (by (with_reducible repeat (first | refine blk_drewN ?_ _ | refine blk_drew ?_ | refine blk_alloc ?_ _)); exact BK241.out) hg (by simp [Value.ownBlock]))
                have n2_ := Aside0.mk (Kd.R_after (Kd.R_apart_nil (by (with_reducible repeat (first | apply Kd.R_alloc | apply Kd.R_drewN | apply Kd.R_drew)); exact HO248.out)) hg hat)
                have n3_ := Aside0.mk (hb)
                have n4_ := Aside0.mk (ho)
                clear BK240
                clear BK241
                clear HO248
                clear HB
                have BK240 := n0_
                have BK241 := n1_
                have HO248 := n2_
                have HB := n3_
                have HO245 := n4_
                clear n0_ n1_ n2_ n3_ n4_
                clear ho hb hg hat
                refine hK.out _ _ ⟨(blk_cell BK240.out 0).trans rfl, (blk_cell BK240.out 1).trans rfl, (blk_cell BK240.out 2).trans rfl, (blk_cell BK240.out 3).trans rfl, (blk_cell BK240.out 4).trans rfl, (blk_cell BK240.out 5).trans rfl, (blk_cell BK240.out 6).trans rfl, (blk_cell BK240.out 7).trans rfl, (blk_cell BK240.out 8).trans rfl, (blk_cell BK240.out 9).trans rfl, (blk_cell BK240.out 10).trans rfl, (blk_cell BK240.out 11).trans rfl⟩ (fun hHeld => ?_)
                clear hK K
                refine norm_ (a' := ?_) ?_ ?_
                rotate_left
                · show Act.put _ (some 19) _ = _
                  simp only [Act.put, List.setIfInBounds_toArray, List.set_cons_zero, List.set_cons_succ, i64_w, i32_w]
                  rfl
                exact norm_ (by simp only [putAll, Act.put, List.setIfInBounds_toArray, List.set_cons_zero, List.set_cons_succ]) (hCont (v244, v247) _ ⟨hHeld, (by (with_reducible repeat (first | apply Kd.R_alloc | apply Kd.R_drewN | apply Kd.R_drew)); exact HO245.out), (by (with_reducible repeat (first | apply Kd.R_alloc | apply Kd.R_drewN | apply Kd.R_drew)); exact Kd.R_mono HO248.out (fun _ hk => ⟨hk.2, hk.1.2⟩)), (by (with_reducible repeat (first | refine blk_drewN ?_ _ | refine blk_drew ?_ | refine blk_alloc ?_ _)); exact BK240.out), (by (with_reducible repeat (first | refine blk_drewN ?_ _ | refine blk_drew ?_ | refine blk_alloc ?_ _)); exact BK241.out), (by repeat (first | (with_reducible first | exact HB.out | apply below_alloc | apply pw_below_drewN | apply below_drew1 | refine below_set ?_ GE240.out | refine below_set ?_ GE241.out) | exact HB.out))⟩)
            rintro ⟨v244, v247⟩ w24 ⟨hS_, h0_, h1_, h2_, h3_, h4_⟩
            have n0_ : Aside0 (Kd.R k42 42 w24 w.heap.size (fun k_ => some k_ ≠ (v247 : Value).ownBlock ∧ k_ ≠ gb240) v244 y243) := ⟨h0_⟩
            have n1_ : Aside0 (Kd.R k42 42 w24 w.heap.size (fun k_ => some k_ ≠ (v244 : Value).ownBlock ∧ k_ ≠ gb240) v247 y246) := ⟨h1_⟩
            have n2_ : Aside0 (w24.heap[gb240]? = some (.cells #[.int .i64 a1_0, .int .i64 a1_1, .int .u32 a1_2, .int .i64 a1_3, .int .u32 a1_4, .int .i64 a1_5, .int .i64 a1_6, .int .i64 a1_7, .int .i64 a1_8, .int .i64 a1_9, .int .i64 a1_10, .bool a1_11] 42 (0, 0))) := ⟨h2_⟩
            have n3_ : Aside0 (w24.heap[gb241]? = some (.cells #[.int .i64 a2_0, .int .i64 a2_1, .int .u32 a2_2, .int .u32 a2_3, .int .i64 a2_4, .int .i64 a2_5, .int .i64 a2_6] 46 (0, 0))) := ⟨h3_⟩
            have n4_ : Aside0 (Below w.heap.size w w24) := ⟨h4_⟩
            clear BK240
            clear BK241
            clear HB
            clear h0_ h1_ h2_ h3_ h4_
            have HO245 := n0_
            have HO248 := n1_
            have BK240 := n2_
            have BK241 := n3_
            have HB := n4_
            clear n0_ n1_ n2_ n3_ n4_
            have hHeld : w24.cell? ⟨gb240, 0, none⟩ = some (.int .i64 a1_0) ∧ w24.cell? ⟨gb240, 1, none⟩ = some (.int .i64 a1_1) ∧ w24.cell? ⟨gb240, 2, none⟩ = some (.int .u32 a1_2) ∧ w24.cell? ⟨gb240, 3, none⟩ = some (.int .i64 a1_3) ∧ w24.cell? ⟨gb240, 4, none⟩ = some (.int .u32 a1_4) ∧ w24.cell? ⟨gb240, 5, none⟩ = some (.int .i64 a1_5) ∧ w24.cell? ⟨gb240, 6, none⟩ = some (.int .i64 a1_6) ∧ w24.cell? ⟨gb240, 7, none⟩ = some (.int .i64 a1_7) ∧ w24.cell? ⟨gb240, 8, none⟩ = some (.int .i64 a1_8) ∧ w24.cell? ⟨gb240, 9, none⟩ = some (.int .i64 a1_9) ∧ w24.cell? ⟨gb240, 10, none⟩ = some (.int .i64 a1_10) ∧ w24.cell? ⟨gb240, 11, none⟩ = some (.bool a1_11) := hS_
            obtain ⟨Ao26, co26, eo26⟩ := Kd.R_slice HO248.out
            (first | subst eo26 | (injection eo26 with f1_ f2_ f3_; have f4_ := f1_.symm; have f5_ := f3_.symm; clear f1_ f2_ f3_; subst f4_; subst f5_))
            refine norm_ (a' := ?_) ?_ ?_
            rotate_left
            · simp only [putAll, Act.put, List.setIfInBounds_toArray, List.set_cons_zero, List.set_cons_succ]
              rfl
            refine one_ (i := 5) (N := some 22) #[true, true, true, true, true, true, false] rfl rfl (by kernel_rfl) (by decide) (fun K hK => ?_)
            refine Kd.R_append_rows_step k42 (w0 := w) w.heap.size (by rfl) (.tmp 19) (.tmp 21) 40 42 (.agg #[(.int .i64 0), (.int .i64 0), (.int .u32 0), (.int .i64 0), (.int .u32 0), (.int .i64 0), (.int .i64 0), (.int .i64 0), (.int .i64 0), (.int .i64 0), (.int .i64 0), (.bool false)]) 96 rfl Try.underlying40 info42 rfl (by decide) (by omega) v244 y243 y246 _ _ _ (fun k_ => some k_ ≠ (.slice Ao26 y246.length co26 : Value).ownBlock ∧ k_ ≠ gb240) (fun _ => False) rfl rfl ?aO ?aR (fun _ _ h => h) (fun _ h => h.elim) ?aF ?aB ?aS ?aL ?_
            (case aR => repeat (first | exact (Kd.R_reads' HO248.out).2.2 | (with_reducible refine Kd.C_alloc ?_ _) | (with_reducible refine Kd.C_drewN ?_ _) | (with_reducible refine Kd.C_drew ?_)))
            (case aB => exact (by repeat (first | (with_reducible first | exact HB.out | apply below_alloc | apply pw_below_drewN | apply below_drew1 | refine below_set ?_ GE240.out | refine below_set ?_ GE241.out) | exact HB.out)))
            (case aF => exact (fun k_ hk => ⟨Kd.fresh' (Kd.R_lt (by (with_reducible repeat (first | apply Kd.R_alloc | apply Kd.R_drewN | apply Kd.R_drew)); exact HO248.out)) k_ hk, Kd.freshB (g := gb240) (o := .cells #[.int .i64 a1_0, .int .i64 a1_1, .int .u32 a1_2, .int .i64 a1_3, .int .u32 a1_4, .int .i64 a1_5, .int .i64 a1_6, .int .i64 a1_7, .int .i64 a1_8, .int .i64 a1_9, .int .i64 a1_10, .bool a1_11] 42 (0, 0)) (by (with_reducible repeat (first | refine blk_drewN ?_ _ | refine blk_drew ?_ | refine blk_alloc ?_ _)); exact BK240.out) k_ hk⟩))
            (case aO => exact (by (with_reducible repeat (first | apply Kd.R_alloc | apply Kd.R_drewN | apply Kd.R_drew)); exact HO245.out))
            (case aS => exact (below_size (by repeat (first | (with_reducible first | exact HB.out | apply below_alloc | apply pw_below_drewN | apply below_drew1 | refine below_set ?_ GE240.out | refine below_set ?_ GE241.out) | exact HB.out))))
            (case aL => have := LMc10.out; omega)
            intro v250 w25 ho hb hg hat
            rw [← Ny249.out] at ho
            have n0_ := Aside0.mk (blk_grown (g := gb240) (o := .cells #[.int .i64 a1_0, .int .i64 a1_1, .int .u32 a1_2, .int .i64 a1_3, .int .u32 a1_4, .int .i64 a1_5, .int .i64 a1_6, .int .i64 a1_7, .int .i64 a1_8, .int .i64 a1_9, .int .i64 a1_10, .bool a1_11] 42 (0, 0)) (by (with_reducible repeat (first | refine blk_drewN ?_ _ | refine blk_drew ?_ | refine blk_alloc ?_ _)); exact BK240.out) hg (Kd.R_away HO245.out (fun _ hk => hk.2)))
            have n1_ := Aside0.mk (blk_grown (g := gb241) (o := .cells #[.int .i64 a2_0, .int .i64 a2_1, .int .u32 a2_2, .int .u32 a2_3, .int .i64 a2_4, .int .i64 a2_5, .int .i64 a2_6] 46 (0, 0)) (by (with_reducible repeat (first | refine blk_drewN ?_ _ | refine blk_drew ?_ | refine blk_alloc ?_ _)); exact BK241.out) hg (Kd.R_ne HO245.out BK241.out (by decide)))
            have n2_ := Aside0.mk (Kd.R_after (ok := (fun k_ => k_ ≠ gb240)) (by (with_reducible repeat (first | apply Kd.R_alloc | apply Kd.R_drewN | apply Kd.R_drew)); exact Kd.R_mono HO248.out (fun _ hk => ⟨hk.2, hk.1⟩)) hg hat)
            have n3_ := Aside0.mk (hb)
            have n4_ := Aside0.mk (ho)
            clear BK240
            clear BK241
            clear HO248
            clear HB
            clear HO245
            have BK240 := n0_
            have BK241 := n1_
            have HO248 := n2_
            have HB := n3_
            have HO251 := n4_
            clear n0_ n1_ n2_ n3_ n4_
            clear ho hb hg hat
            refine hK.out _ _ ⟨(blk_cell BK240.out 0).trans rfl, (blk_cell BK240.out 1).trans rfl, (blk_cell BK240.out 2).trans rfl, (blk_cell BK240.out 3).trans rfl, (blk_cell BK240.out 4).trans rfl, (blk_cell BK240.out 5).trans rfl, (blk_cell BK240.out 6).trans rfl, (blk_cell BK240.out 7).trans rfl, (blk_cell BK240.out 8).trans rfl, (blk_cell BK240.out 9).trans rfl, (blk_cell BK240.out 10).trans rfl, (blk_cell BK240.out 11).trans rfl⟩ (fun hHeld => ?_)
            clear hK K
            refine norm_ (a' := ?_) ?_ ?_
            rotate_left
            · show Act.put _ (some 22) _ = _
              simp only [Act.put, List.setIfInBounds_toArray, List.set_cons_zero, List.set_cons_succ, i64_w, i32_w]
              rfl
            refine pure_ (i := 6) (N := some 7) (v := ?_) (a' := ?_) #[true, true, true, true, true, true, true] rfl rfl (by kernel_rfl) (fun _ _ _ h => h) (Or.inl ⟨by rfl, ?_⟩) ?_ ?_
            rotate_left
            · intro w'
              go_simp
              with_reducible rfl
            rotate_left
            · simp only [Act.put, List.setIfInBounds_toArray, List.set_cons_zero, List.set_cons_succ, i64_w, i32_w]
              rfl
            refine done_ (by kernel_rfl) ?_
            have hnb27 := NB240_241.out
            have hnc27 := NB241_240.out
            have hcz28_0 : w25.cell? ⟨gb240, 0, none⟩ = some (.int .i64 a1_0) := (blk_cell BK240.out 0).trans rfl
            have hcz28_1 : w25.cell? ⟨gb240, 1, none⟩ = some (.int .i64 a1_1) := (blk_cell BK240.out 1).trans rfl
            have hcz28_2 : w25.cell? ⟨gb240, 2, none⟩ = some (.int .u32 a1_2) := (blk_cell BK240.out 2).trans rfl
            have hcz28_3 : w25.cell? ⟨gb240, 3, none⟩ = some (.int .i64 a1_3) := (blk_cell BK240.out 3).trans rfl
            have hcz28_4 : w25.cell? ⟨gb240, 4, none⟩ = some (.int .u32 a1_4) := (blk_cell BK240.out 4).trans rfl
            have hcz28_5 : w25.cell? ⟨gb240, 5, none⟩ = some (.int .i64 a1_5) := (blk_cell BK240.out 5).trans rfl
            have hcz28_6 : w25.cell? ⟨gb240, 6, none⟩ = some (.int .i64 a1_6) := (blk_cell BK240.out 6).trans rfl
            have hcz28_7 : w25.cell? ⟨gb240, 7, none⟩ = some (.int .i64 a1_7) := (blk_cell BK240.out 7).trans rfl
            have hcz28_8 : w25.cell? ⟨gb240, 8, none⟩ = some (.int .i64 a1_8) := (blk_cell BK240.out 8).trans rfl
            have hcz28_9 : w25.cell? ⟨gb240, 9, none⟩ = some (.int .i64 a1_9) := (blk_cell BK240.out 9).trans rfl
            have hcz28_10 : w25.cell? ⟨gb240, 10, none⟩ = some (.int .i64 a1_10) := (blk_cell BK240.out 10).trans rfl
            have hcz28_11 : w25.cell? ⟨gb240, 11, none⟩ = some (.bool a1_11) := (blk_cell BK240.out 11).trans rfl
            have hfz28_0 := blk_frozen BK240.out 0
            have hfz28_1 := blk_frozen BK240.out 1
            have hfz28_2 := blk_frozen BK240.out 2
            have hfz28_3 := blk_frozen BK240.out 3
            have hfz28_4 := blk_frozen BK240.out 4
            have hfz28_5 := blk_frozen BK240.out 5
            have hfz28_6 := blk_frozen BK240.out 6
            have hfz28_7 := blk_frozen BK240.out 7
            have hfz28_8 := blk_frozen BK240.out 8
            have hfz28_9 := blk_frozen BK240.out 9
            have hfz28_10 := blk_frozen BK240.out 10
            have hfz28_11 := blk_frozen BK240.out 11
            try go_wp2_with (first | ((with_reducible refine gate_dst (N := 25) rfl ?_); refine Kd.R_lit k42 _ 42 ?hg (N := 25) ?hd (xs := ([(⟨a1_0, a1_1, (⟨a1_2, a1_3⟩ : S29), (⟨a1_4, a1_5⟩ : S29), a1_6, a1_7, a1_8, a1_9, a1_10, a1_11⟩ : S42)] : List (S42))) (inner := [.int .i64 a1_0, .int .i64 a1_1, .int .u32 a1_2, .int .i64 a1_3, .int .u32 a1_4, .int .i64 a1_5, .int .i64 a1_6, .int .i64 a1_7, .int .i64 a1_8, .int .i64 a1_9, .int .i64 a1_10, .bool a1_11]) (ok := fun _ => True) (okp := fun _ => True) ?hr ?hp (fun _ hk => hk) trivial (Below.refl _ _) (Nat.le_refl _) (by simp) ?_; (case hd => rfl); (case hg => rfl); (case hr => first | (go_simp; done) | (go_simp; rfl)); (case hp => exact (Reps.front (show Kd.M k42 _ _ _ (⟨a1_0, a1_1, (⟨a1_2, a1_3⟩ : S29), (⟨a1_4, a1_5⟩ : S29), a1_6, a1_7, a1_8, a1_9, a1_10, a1_11⟩ : S42) [.int .i64 a1_0, .int .i64 a1_1, .int .u32 a1_2, .int .i64 a1_3, .int .u32 a1_4, .int .i64 a1_5, .int .i64 a1_6, .int .i64 a1_7, .int .i64 a1_8, .int .i64 a1_9, .int .i64 a1_10, .bool a1_11] from (k42_mkM _ _ _ (⟨a1_0, a1_1, (⟨a1_2, a1_3⟩ : S29), (⟨a1_4, a1_5⟩ : S29), a1_6, a1_7, a1_8, a1_9, a1_10, a1_11⟩ : S42) )) rfl (Reps.none _ _) rfl)); intro v253 w29 ho30 hb hg_ hnew_; clear hg_ hnew_; (first | rw [← Ny252.out] at ho30 | (simp only [Int.reduceToNat] at ho30; rw [← Ny252.out] at ho30)); have n0_ := Aside0.mk (Kd.R_elder' (by (with_reducible repeat (first | apply Kd.R_alloc | apply Kd.R_drewN | apply Kd.R_drew)); exact HO248.out) (Kd.R_base ho30) hb); have n1_ := Aside0.mk (Kd.R_elder' (by (with_reducible repeat (first | apply Kd.R_alloc | apply Kd.R_drewN | apply Kd.R_drew)); exact HO251.out) (Kd.R_base ho30) hb); have n2_ := Aside0.mk (Kd.R_lower (Kd.R_newB (Kd.R_new' (Kd.R_new' ho30 (Kd.R_lt (by (with_reducible repeat (first | apply Kd.R_alloc | apply Kd.R_drewN | apply Kd.R_drew)); exact HO248.out))) (Kd.R_lt (by (with_reducible repeat (first | apply Kd.R_alloc | apply Kd.R_drewN | apply Kd.R_drew)); exact HO251.out))) (g := gb240) (o := .cells #[.int .i64 a1_0, .int .i64 a1_1, .int .u32 a1_2, .int .i64 a1_3, .int .u32 a1_4, .int .i64 a1_5, .int .i64 a1_6, .int .i64 a1_7, .int .i64 a1_8, .int .i64 a1_9, .int .i64 a1_10, .bool a1_11] 42 (0, 0)) (by (with_reducible repeat (first | refine blk_drewN ?_ _ | refine blk_drew ?_ | refine blk_alloc ?_ _)); exact BK240.out)) (below_size (by repeat (first | (with_reducible first | exact HB.out | apply below_alloc | apply pw_below_drewN | apply below_drew1 | refine below_set ?_ GE240.out | refine below_set ?_ GE241.out) | exact HB.out)))); have n3_ := Aside0.mk (blk_below (g := gb240) (o := .cells #[.int .i64 a1_0, .int .i64 a1_1, .int .u32 a1_2, .int .i64 a1_3, .int .u32 a1_4, .int .i64 a1_5, .int .i64 a1_6, .int .i64 a1_7, .int .i64 a1_8, .int .i64 a1_9, .int .i64 a1_10, .bool a1_11] 42 (0, 0)) (by (with_reducible repeat (first | refine blk_drewN ?_ _ | refine blk_drew ?_ | refine blk_alloc ?_ _)); exact BK240.out) hb); have n4_ := Aside0.mk (blk_below (g := gb241) (o := .cells #[.int .i64 a2_0, .int .i64 a2_1, .int .u32 a2_2, .int .u32 a2_3, .int .i64 a2_4, .int .i64 a2_5, .int .i64 a2_6] 46 (0, 0)) (by (with_reducible repeat (first | refine blk_drewN ?_ _ | refine blk_drew ?_ | refine blk_alloc ?_ _)); exact BK241.out) hb); have n5_ := Aside0.mk (below_step (by repeat (first | (with_reducible first | exact HB.out | apply below_alloc | apply pw_below_drewN | apply below_drew1 | refine below_set ?_ GE240.out | refine below_set ?_ GE241.out) | exact HB.out)) hb); clear HO248; clear HO251; clear BK240; clear BK241; clear HB; have HO248 := n0_; have HO251 := n1_; have HO254 := n2_; have BK240 := n3_; have BK241 := n4_; have HB := n5_; clear n0_ n1_ n2_ n3_ n4_ n5_; clear hb ho30; obtain ⟨Ao32, co32, eo32⟩ := Kd.R_slice HO254.out; subst eo32) | ((with_reducible refine gate_builtin (b := .append) (xs := #[.tmp 23, .tmp 25]) rfl ?_); at_builtin; refine Kd.R_append_rows k42 (w0 := w) w.heap.size rfl (.tmp 23) (.tmp 25) 40 42 (.agg #[(.int .i64 0), (.int .i64 0), (.int .u32 0), (.int .i64 0), (.int .u32 0), (.int .i64 0), (.int .i64 0), (.int .i64 0), (.int .i64 0), (.int .i64 0), (.int .i64 0), (.bool false)]) 96 rfl Try.underlying40 info42 rfl (by decide) (by omega) (.slice none 0 0) ([] : List (S42)) y252 _ _ _ (fun k_ => some k_ ≠ (.slice Ao26 y246.length co26 : Value).ownBlock ∧ some k_ ≠ (v250 : Value).ownBlock ∧ some k_ ≠ (.slice Ao32 y252.length co32 : Value).ownBlock ∧ k_ ≠ gb240) (fun _ => False) rfl rfl ?aO ?aR (fun _ _ h => h) (fun _ h => h.elim) ?aF ?aB ?aS ?aL ?_; (case aR => repeat (first | exact (Kd.R_reads' HO254.out).2.2 | (with_reducible refine Kd.C_alloc ?_ _) | (with_reducible refine Kd.C_drewN ?_ _) | (with_reducible refine Kd.C_drew ?_))); (case aB => exact (by repeat (first | (with_reducible first | exact HB.out | apply below_alloc | apply pw_below_drewN | apply below_drew1 | refine below_set ?_ GE240.out | refine below_set ?_ GE241.out) | exact HB.out))); (case aF => exact (fun k_ hk => ⟨Kd.fresh' (Kd.R_lt (by (with_reducible repeat (first | apply Kd.R_alloc | apply Kd.R_drewN | apply Kd.R_drew)); exact HO248.out)) k_ hk, Kd.fresh' (Kd.R_lt (by (with_reducible repeat (first | apply Kd.R_alloc | apply Kd.R_drewN | apply Kd.R_drew)); exact HO251.out)) k_ hk, Kd.fresh' (Kd.R_lt (by (with_reducible repeat (first | apply Kd.R_alloc | apply Kd.R_drewN | apply Kd.R_drew)); exact HO254.out)) k_ hk, Kd.freshB (g := gb240) (o := .cells #[.int .i64 a1_0, .int .i64 a1_1, .int .u32 a1_2, .int .i64 a1_3, .int .u32 a1_4, .int .i64 a1_5, .int .i64 a1_6, .int .i64 a1_7, .int .i64 a1_8, .int .i64 a1_9, .int .i64 a1_10, .bool a1_11] 42 (0, 0)) (by (with_reducible repeat (first | refine blk_drewN ?_ _ | refine blk_drew ?_ | refine blk_alloc ?_ _)); exact BK240.out) k_ hk⟩)); (case aO => exact ((Kd.R_nil _ _ _ _ (fun k_ => some k_ ≠ (.slice Ao26 y246.length co26 : Value).ownBlock ∧ some k_ ≠ (v250 : Value).ownBlock ∧ some k_ ≠ (.slice Ao32 y252.length co32 : Value).ownBlock ∧ k_ ≠ gb240)))); (case aS => exact (below_size (by repeat (first | (with_reducible first | exact HB.out | apply below_alloc | apply pw_below_drewN | apply below_drew1 | refine below_set ?_ GE240.out | refine below_set ?_ GE241.out) | exact HB.out)))); (case aL => have := LMc11.out; omega); intro v256 w31 ho hb hg hat; rw [← Ny255.out] at ho; have n0_ := Aside0.mk (blk_grown (g := gb240) (o := .cells #[.int .i64 a1_0, .int .i64 a1_1, .int .u32 a1_2, .int .i64 a1_3, .int .u32 a1_4, .int .i64 a1_5, .int .i64 a1_6, .int .i64 a1_7, .int .i64 a1_8, .int .i64 a1_9, .int .i64 a1_10, .bool a1_11] 42 (0, 0)) (by (with_reducible repeat (first | refine blk_drewN ?_ _ | refine blk_drew ?_ | refine blk_alloc ?_ _)); exact BK240.out) hg (by simp [Value.ownBlock])); have n1_ := Aside0.mk (blk_grown (g := gb241) (o := .cells #[.int .i64 a2_0, .int .i64 a2_1, .int .u32 a2_2, .int .u32 a2_3, .int .i64 a2_4, .int .i64 a2_5, .int .i64 a2_6] 46 (0, 0)) (by (with_reducible repeat (first | refine blk_drewN ?_ _ | refine blk_drew ?_ | refine blk_alloc ?_ _)); exact BK241.out) hg (by simp [Value.ownBlock])); have n2_ := Aside0.mk (Kd.R_after (Kd.R_apart_nil (by (with_reducible repeat (first | apply Kd.R_alloc | apply Kd.R_drewN | apply Kd.R_drew)); exact HO248.out)) hg hat); have n3_ := Aside0.mk (Kd.R_after (Kd.R_apart_nil (by (with_reducible repeat (first | apply Kd.R_alloc | apply Kd.R_drewN | apply Kd.R_drew)); exact HO251.out)) hg hat); have n4_ := Aside0.mk (Kd.R_after (Kd.R_apart_nil (by (with_reducible repeat (first | apply Kd.R_alloc | apply Kd.R_drewN | apply Kd.R_drew)); exact HO254.out)) hg hat); have n5_ := Aside0.mk (hb); have n6_ := Aside0.mk (ho); clear BK240; clear BK241; clear HO248; clear HO251; clear HO254; clear HB; have BK240 := n0_; have BK241 := n1_; have HO248 := n2_; have HO251 := n3_; have HO254 := n4_; have HB := n5_; have HO257 := n6_; clear n0_ n1_ n2_ n3_ n4_ n5_ n6_; clear ho hb hg hat) | ((with_reducible refine gate_builtin (b := .append) (xs := #[.tmp 26, .tmp 27]) rfl ?_); at_builtin; refine Kd.R_append_rows k42 (w0 := w) w.heap.size rfl (.tmp 26) (.tmp 27) 40 42 (.agg #[(.int .i64 0), (.int .i64 0), (.int .u32 0), (.int .i64 0), (.int .u32 0), (.int .i64 0), (.int .i64 0), (.int .i64 0), (.int .i64 0), (.int .i64 0), (.int .i64 0), (.bool false)]) 96 rfl Try.underlying40 info42 rfl (by decide) (by omega) v256 y255 l0 _ _ _ (fun k_ => some k_ ≠ (.slice Ao26 y246.length co26 : Value).ownBlock ∧ some k_ ≠ (v250 : Value).ownBlock ∧ some k_ ≠ (.slice Ao32 y252.length co32 : Value).ownBlock ∧ k_ ≠ gb240) (fun _ => False) rfl rfl ?aO ?aR (fun _ _ h => h) (fun _ h => h.elim) ?aF ?aB ?aS ?aL ?_; (case aR => repeat (first | exact (Kd.C_below HR0.out HB.out) | (with_reducible refine Kd.C_alloc ?_ _) | (with_reducible refine Kd.C_drewN ?_ _) | (with_reducible refine Kd.C_drew ?_))); (case aB => exact (by repeat (first | (with_reducible first | exact HB.out | apply below_alloc | apply pw_below_drewN | apply below_drew1 | refine below_set ?_ GE240.out | refine below_set ?_ GE241.out) | exact HB.out))); (case aF => exact (fun k_ hk => ⟨Kd.fresh' (Kd.R_lt (by (with_reducible repeat (first | apply Kd.R_alloc | apply Kd.R_drewN | apply Kd.R_drew)); exact HO248.out)) k_ hk, Kd.fresh' (Kd.R_lt (by (with_reducible repeat (first | apply Kd.R_alloc | apply Kd.R_drewN | apply Kd.R_drew)); exact HO251.out)) k_ hk, Kd.fresh' (Kd.R_lt (by (with_reducible repeat (first | apply Kd.R_alloc | apply Kd.R_drewN | apply Kd.R_drew)); exact HO254.out)) k_ hk, Kd.freshB (g := gb240) (o := .cells #[.int .i64 a1_0, .int .i64 a1_1, .int .u32 a1_2, .int .i64 a1_3, .int .u32 a1_4, .int .i64 a1_5, .int .i64 a1_6, .int .i64 a1_7, .int .i64 a1_8, .int .i64 a1_9, .int .i64 a1_10, .bool a1_11] 42 (0, 0)) (by (with_reducible repeat (first | refine blk_drewN ?_ _ | refine blk_drew ?_ | refine blk_alloc ?_ _)); exact BK240.out) k_ hk⟩)); (case aO => exact (by (with_reducible repeat (first | apply Kd.R_alloc | apply Kd.R_drewN | apply Kd.R_drew)); exact HO257.out)); (case aS => exact (below_size (by repeat (first | (with_reducible first | exact HB.out | apply below_alloc | apply pw_below_drewN | apply below_drew1 | refine below_set ?_ GE240.out | refine below_set ?_ GE241.out) | exact HB.out)))); (case aL => have := LMc12.out; omega); intro v259 w33 ho hb hg hat; rw [← Ny258.out] at ho; have n0_ := Aside0.mk (blk_grown (g := gb240) (o := .cells #[.int .i64 a1_0, .int .i64 a1_1, .int .u32 a1_2, .int .i64 a1_3, .int .u32 a1_4, .int .i64 a1_5, .int .i64 a1_6, .int .i64 a1_7, .int .i64 a1_8, .int .i64 a1_9, .int .i64 a1_10, .bool a1_11] 42 (0, 0)) (by (with_reducible repeat (first | refine blk_drewN ?_ _ | refine blk_drew ?_ | refine blk_alloc ?_ _)); exact BK240.out) hg (Kd.R_away HO257.out (fun _ hk => hk.2.2.2))); have n1_ := Aside0.mk (blk_grown (g := gb241) (o := .cells #[.int .i64 a2_0, .int .i64 a2_1, .int .u32 a2_2, .int .u32 a2_3, .int .i64 a2_4, .int .i64 a2_5, .int .i64 a2_6] 46 (0, 0)) (by (with_reducible repeat (first | refine blk_drewN ?_ _ | refine blk_drew ?_ | refine blk_alloc ?_ _)); exact BK241.out) hg (Kd.R_ne HO257.out BK241.out (by decide))); have n2_ := Aside0.mk (Kd.R_after (ok := (fun k_ => some k_ ≠ (v250 : Value).ownBlock ∧ some k_ ≠ (.slice Ao32 y252.length co32 : Value).ownBlock ∧ k_ ≠ gb240)) (by (with_reducible repeat (first | apply Kd.R_alloc | apply Kd.R_drewN | apply Kd.R_drew)); exact Kd.R_mono HO248.out (fun _ hk => ⟨⟨hk.1.1.2, ⟨hk.1.2, hk.1.1.1⟩⟩, hk.2⟩)) hg hat); have n3_ := Aside0.mk (Kd.R_after (ok := (fun k_ => some k_ ≠ (.slice Ao26 y246.length co26 : Value).ownBlock ∧ some k_ ≠ (.slice Ao32 y252.length co32 : Value).ownBlock ∧ k_ ≠ gb240)) (by (with_reducible repeat (first | apply Kd.R_alloc | apply Kd.R_drewN | apply Kd.R_drew)); exact Kd.R_mono HO251.out (fun _ hk => ⟨⟨hk.1.1.1, ⟨hk.1.2, hk.1.1.2⟩⟩, hk.2⟩)) hg hat); have n4_ := Aside0.mk (Kd.R_after (ok := (fun k_ => some k_ ≠ (.slice Ao26 y246.length co26 : Value).ownBlock ∧ some k_ ≠ (v250 : Value).ownBlock ∧ k_ ≠ gb240)) (by (with_reducible repeat (first | apply Kd.R_alloc | apply Kd.R_drewN | apply Kd.R_drew)); exact Kd.R_mono HO254.out (fun _ hk => ⟨⟨hk.1.1.1.2, ⟨hk.1.1.2, hk.1.2⟩⟩, hk.2⟩)) hg hat); have n5_ := Aside0.mk (hb); have n6_ := Aside0.mk (ho); clear BK240; clear BK241; clear HO248; clear HO251; clear HO254; clear HB; clear HO257; have BK240 := n0_; have BK241 := n1_; have HO248 := n2_; have HO251 := n3_; have HO254 := n4_; have HB := n5_; have HO260 := n6_; clear n0_ n1_ n2_ n3_ n4_ n5_ n6_; clear ho hb hg hat; have hcz34_0 : w33.cell? ⟨gb241, 0, none⟩ = some (.int .i64 a2_0) := (blk_cell BK241.out 0).trans rfl; have hcz34_1 : w33.cell? ⟨gb241, 1, none⟩ = some (.int .i64 a2_1) := (blk_cell BK241.out 1).trans rfl; have hcz34_2 : w33.cell? ⟨gb241, 2, none⟩ = some (.int .u32 a2_2) := (blk_cell BK241.out 2).trans rfl; have hcz34_3 : w33.cell? ⟨gb241, 3, none⟩ = some (.int .u32 a2_3) := (blk_cell BK241.out 3).trans rfl; have hcz34_4 : w33.cell? ⟨gb241, 4, none⟩ = some (.int .i64 a2_4) := (blk_cell BK241.out 4).trans rfl; have hcz34_5 : w33.cell? ⟨gb241, 5, none⟩ = some (.int .i64 a2_5) := (blk_cell BK241.out 5).trans rfl; have hcz34_6 : w33.cell? ⟨gb241, 6, none⟩ = some (.int .i64 a2_6) := (blk_cell BK241.out 6).trans rfl; have hfz34_0 := blk_frozen BK241.out 0; have hfz34_1 := blk_frozen BK241.out 1; have hfz34_2 := blk_frozen BK241.out 2; have hfz34_3 := blk_frozen BK241.out 3; have hfz34_4 := blk_frozen BK241.out 4; have hfz34_5 := blk_frozen BK241.out 5; have hfz34_6 := blk_frozen BK241.out 6) | ((with_reducible refine gate_callee (f := 20) rfl ?_); refine goesL_ (some 31) rfl rfl Try.func20 (by kernel_rfl) rfl #[.slice A0 l0.length c0, .agg #[.int .i64 a2_0, .int .i64 a2_1, .int .u32 a2_2, .int .u32 a2_3, .int .i64 a2_4, .int .i64 a2_5, .int .i64 a2_6]] rfl (by (try simp only [List.map_toArray, List.map_cons, List.map_nil]); first | done | rfl | (simp only [List.length_drop, List.length_take]; rfl)) ?_; (with_reducible refine (rule_First.calls _ _ l0 a2_0 a2_1 a2_2 a2_3 a2_4 a2_5 a2_6 t261 _ ?side1 ?side2 A13.out).mono ?_); (case side1 => repeat (first | exact (Kd.C_below HR0.out HB.out) | (with_reducible refine Kd.C_alloc ?_ _) | (with_reducible refine Kd.C_drewN ?_ _) | (with_reducible refine Kd.C_drew ?_))); (case side2 => exact HC0.out); rintro e w35 ⟨rfl, hb⟩; refine ⟨_, rfl, ?_⟩; have n0_ := Aside0.mk (Kd.R_below (by (with_reducible repeat (first | apply Kd.R_alloc | apply Kd.R_drewN | apply Kd.R_drew)); exact HO248.out) hb); have n1_ := Aside0.mk (Kd.R_below (by (with_reducible repeat (first | apply Kd.R_alloc | apply Kd.R_drewN | apply Kd.R_drew)); exact HO251.out) hb); have n2_ := Aside0.mk (Kd.R_below (by (with_reducible repeat (first | apply Kd.R_alloc | apply Kd.R_drewN | apply Kd.R_drew)); exact HO254.out) hb); have n3_ := Aside0.mk (Kd.R_below (by (with_reducible repeat (first | apply Kd.R_alloc | apply Kd.R_drewN | apply Kd.R_drew)); exact HO260.out) hb); have n4_ := Aside0.mk (blk_below (g := gb240) (o := .cells #[.int .i64 a1_0, .int .i64 a1_1, .int .u32 a1_2, .int .i64 a1_3, .int .u32 a1_4, .int .i64 a1_5, .int .i64 a1_6, .int .i64 a1_7, .int .i64 a1_8, .int .i64 a1_9, .int .i64 a1_10, .bool a1_11] 42 (0, 0)) (by (with_reducible repeat (first | refine blk_drewN ?_ _ | refine blk_drew ?_ | refine blk_alloc ?_ _)); exact BK240.out) hb); have n5_ := Aside0.mk (blk_below (g := gb241) (o := .cells #[.int .i64 a2_0, .int .i64 a2_1, .int .u32 a2_2, .int .u32 a2_3, .int .i64 a2_4, .int .i64 a2_5, .int .i64 a2_6] 46 (0, 0)) (by (with_reducible repeat (first | refine blk_drewN ?_ _ | refine blk_drew ?_ | refine blk_alloc ?_ _)); exact BK241.out) hb); have n6_ := Aside0.mk (below_step (by repeat (first | (with_reducible first | exact HB.out | apply below_alloc | apply pw_below_drewN | apply below_drew1 | refine below_set ?_ GE240.out | refine below_set ?_ GE241.out) | exact HB.out)) hb); clear HO248; clear HO251; clear HO254; clear HO260; clear BK240; clear BK241; clear HB; have HO248 := n0_; have HO251 := n1_; have HO254 := n2_; have HO260 := n3_; have BK240 := n4_; have BK241 := n5_; have HB := n6_; clear n0_ n1_ n2_ n3_ n4_ n5_ n6_; (try clear hb); (try clear hb2); (try clear hk); (try clear hi); have hcz36_0 : w35.cell? ⟨gb240, 0, none⟩ = some (.int .i64 a1_0) := (blk_cell BK240.out 0).trans rfl; have hcz36_1 : w35.cell? ⟨gb240, 1, none⟩ = some (.int .i64 a1_1) := (blk_cell BK240.out 1).trans rfl; have hcz36_2 : w35.cell? ⟨gb240, 2, none⟩ = some (.int .u32 a1_2) := (blk_cell BK240.out 2).trans rfl; have hcz36_3 : w35.cell? ⟨gb240, 3, none⟩ = some (.int .i64 a1_3) := (blk_cell BK240.out 3).trans rfl; have hcz36_4 : w35.cell? ⟨gb240, 4, none⟩ = some (.int .u32 a1_4) := (blk_cell BK240.out 4).trans rfl; have hcz36_5 : w35.cell? ⟨gb240, 5, none⟩ = some (.int .i64 a1_5) := (blk_cell BK240.out 5).trans rfl; have hcz36_6 : w35.cell? ⟨gb240, 6, none⟩ = some (.int .i64 a1_6) := (blk_cell BK240.out 6).trans rfl; have hcz36_7 : w35.cell? ⟨gb240, 7, none⟩ = some (.int .i64 a1_7) := (blk_cell BK240.out 7).trans rfl; have hcz36_8 : w35.cell? ⟨gb240, 8, none⟩ = some (.int .i64 a1_8) := (blk_cell BK240.out 8).trans rfl; have hcz36_9 : w35.cell? ⟨gb240, 9, none⟩ = some (.int .i64 a1_9) := (blk_cell BK240.out 9).trans rfl; have hcz36_10 : w35.cell? ⟨gb240, 10, none⟩ = some (.int .i64 a1_10) := (blk_cell BK240.out 10).trans rfl; have hcz36_11 : w35.cell? ⟨gb240, 11, none⟩ = some (.bool a1_11) := (blk_cell BK240.out 11).trans rfl; have hfz36_0 := blk_frozen BK240.out 0; have hfz36_1 := blk_frozen BK240.out 1; have hfz36_2 := blk_frozen BK240.out 2; have hfz36_3 := blk_frozen BK240.out 3; have hfz36_4 := blk_frozen BK240.out 4; have hfz36_5 := blk_frozen BK240.out 5; have hfz36_6 := blk_frozen BK240.out 6; have hfz36_7 := blk_frozen BK240.out 7; have hfz36_8 := blk_frozen BK240.out 8; have hfz36_9 := blk_frozen BK240.out 9; have hfz36_10 := blk_frozen BK240.out 10; have hfz36_11 := blk_frozen BK240.out 11; have hcz37_0 : w35.cell? ⟨gb241, 0, none⟩ = some (.int .i64 a2_0) := (blk_cell BK241.out 0).trans rfl; have hcz37_1 : w35.cell? ⟨gb241, 1, none⟩ = some (.int .i64 a2_1) := (blk_cell BK241.out 1).trans rfl; have hcz37_2 : w35.cell? ⟨gb241, 2, none⟩ = some (.int .u32 a2_2) := (blk_cell BK241.out 2).trans rfl; have hcz37_3 : w35.cell? ⟨gb241, 3, none⟩ = some (.int .u32 a2_3) := (blk_cell BK241.out 3).trans rfl; have hcz37_4 : w35.cell? ⟨gb241, 4, none⟩ = some (.int .i64 a2_4) := (blk_cell BK241.out 4).trans rfl; have hcz37_5 : w35.cell? ⟨gb241, 5, none⟩ = some (.int .i64 a2_5) := (blk_cell BK241.out 5).trans rfl; have hcz37_6 : w35.cell? ⟨gb241, 6, none⟩ = some (.int .i64 a2_6) := (blk_cell BK241.out 6).trans rfl; have hfz37_0 := blk_frozen BK241.out 0; have hfz37_1 := blk_frozen BK241.out 1; have hfz37_2 := blk_frozen BK241.out 2; have hfz37_3 := blk_frozen BK241.out 3; have hfz37_4 := blk_frozen BK241.out 4; have hfz37_5 := blk_frozen BK241.out 5; have hfz37_6 := blk_frozen BK241.out 6) | ((with_reducible refine gate_callee (f := 21) rfl ?_); refine goesL_ (some 34) rfl rfl Try.func21 (by kernel_rfl) rfl #[.agg #[.int .i64 a1_0, .int .i64 a1_1, .int .u32 a1_2, .int .i64 a1_3, .int .u32 a1_4, .int .i64 a1_5, .int .i64 a1_6, .int .i64 a1_7, .int .i64 a1_8, .int .i64 a1_9, .int .i64 a1_10, .bool a1_11], .agg #[.int .i64 a2_0, .int .i64 a2_1, .int .u32 a2_2, .int .u32 a2_3, .int .i64 a2_4, .int .i64 a2_5, .int .i64 a2_6]] rfl (by (try simp only [List.map_toArray, List.map_cons, List.map_nil]); first | done | rfl | (simp only [List.length_drop, List.length_take]; rfl)) ?_; (with_reducible refine (rule_Matches.calls k a1_0 a1_1 a1_2 a1_3 a1_4 a1_5 a1_6 a1_7 a1_8 a1_9 a1_10 a1_11 a2_0 a2_1 a2_2 a2_3 a2_4 a2_5 a2_6 t262 _ A14.out).mono ?_); rintro e w38 ⟨rfl, hb⟩; refine ⟨_, rfl, ?_⟩; have n0_ := Aside0.mk (Kd.R_below (by (with_reducible repeat (first | apply Kd.R_alloc | apply Kd.R_drewN | apply Kd.R_drew)); exact HO248.out) hb); have n1_ := Aside0.mk (Kd.R_below (by (with_reducible repeat (first | apply Kd.R_alloc | apply Kd.R_drewN | apply Kd.R_drew)); exact HO251.out) hb); have n2_ := Aside0.mk (Kd.R_below (by (with_reducible repeat (first | apply Kd.R_alloc | apply Kd.R_drewN | apply Kd.R_drew)); exact HO254.out) hb); have n3_ := Aside0.mk (Kd.R_below (by (with_reducible repeat (first | apply Kd.R_alloc | apply Kd.R_drewN | apply Kd.R_drew)); exact HO260.out) hb); have n4_ := Aside0.mk (blk_below (g := gb240) (o := .cells #[.int .i64 a1_0, .int .i64 a1_1, .int .u32 a1_2, .int .i64 a1_3, .int .u32 a1_4, .int .i64 a1_5, .int .i64 a1_6, .int .i64 a1_7, .int .i64 a1_8, .int .i64 a1_9, .int .i64 a1_10, .bool a1_11] 42 (0, 0)) (by (with_reducible repeat (first | refine blk_drewN ?_ _ | refine blk_drew ?_ | refine blk_alloc ?_ _)); exact BK240.out) hb); have n5_ := Aside0.mk (blk_below (g := gb241) (o := .cells #[.int .i64 a2_0, .int .i64 a2_1, .int .u32 a2_2, .int .u32 a2_3, .int .i64 a2_4, .int .i64 a2_5, .int .i64 a2_6] 46 (0, 0)) (by (with_reducible repeat (first | refine blk_drewN ?_ _ | refine blk_drew ?_ | refine blk_alloc ?_ _)); exact BK241.out) hb); have n6_ := Aside0.mk (below_step (by repeat (first | (with_reducible first | exact HB.out | apply below_alloc | apply pw_below_drewN | apply below_drew1 | refine below_set ?_ GE240.out | refine below_set ?_ GE241.out) | exact HB.out)) hb); clear HO248; clear HO251; clear HO254; clear HO260; clear BK240; clear BK241; clear HB; have HO248 := n0_; have HO251 := n1_; have HO254 := n2_; have HO260 := n3_; have BK240 := n4_; have BK241 := n5_; have HB := n6_; clear n0_ n1_ n2_ n3_ n4_ n5_ n6_; (try clear hb); (try clear hb2); (try clear hk); (try clear hi)))
            have n0_ := Aside0.mk (Kd.R_drew HO248.out)
            have n1_ := Aside0.mk (Kd.R_drew HO251.out)
            have n2_ := Aside0.mk (Kd.R_drew HO254.out)
            have n3_ := Aside0.mk (Kd.R_drew HO260.out)
            have n4_ := Aside0.mk (blk_drew BK240.out)
            have n5_ := Aside0.mk (blk_drew BK241.out)
            have n6_ := Aside0.mk (below_drew1 HB.out)
            clear HO248
            clear HO251
            clear HO254
            clear HO260
            clear BK240
            clear BK241
            clear HB
            have HO248 := n0_
            have HO251 := n1_
            have HO254 := n2_
            have HO260 := n3_
            have BK240 := n4_
            have BK241 := n5_
            have HB := n6_
            clear n0_ n1_ n2_ n3_ n4_ n5_ n6_
            obtain ⟨Ao40, co40, eo40⟩ := Kd.R_slice HO251.out
            (first | subst eo40 | (injection eo40 with f1_ f2_ f3_; have f4_ := f1_.symm; have f5_ := f3_.symm; clear f1_ f2_ f3_; subst f4_; subst f5_))
            refine start_ (n := 8) (S := fun w' => w'.cell? ⟨gb241, 0, none⟩ = some (.int .i64 a2_0) ∧ w'.cell? ⟨gb241, 1, none⟩ = some (.int .i64 a2_1) ∧ w'.cell? ⟨gb241, 2, none⟩ = some (.int .u32 a2_2) ∧ w'.cell? ⟨gb241, 3, none⟩ = some (.int .u32 a2_3) ∧ w'.cell? ⟨gb241, 4, none⟩ = some (.int .i64 a2_4) ∧ w'.cell? ⟨gb241, 5, none⟩ = some (.int .i64 a2_5) ∧ w'.cell? ⟨gb241, 6, none⟩ = some (.int .i64 a2_6)) (ds := []) #[false, false, false, false, false, false, false, false] (by kernel_rfl) rfl rfl ⟨(blk_cell BK241.out 0).trans rfl, (blk_cell BK241.out 1).trans rfl, (blk_cell BK241.out 2).trans rfl, (blk_cell BK241.out 3).trans rfl, (blk_cell BK241.out 4).trans rfl, (blk_cell BK241.out 5).trans rfl, (blk_cell BK241.out 6).trans rfl⟩ (fun hHeld => ?_); refine with_tabW gueritelaw15_RuleBehind.tab8 gueritelaw15_RuleBehind.bits8 (fun HT_ HW_ => ?_)
            generalize w38.drew = w39 at HO248 HO251 HO254 HO260 BK240 BK241 HB hHeld ⊢
            refine pure_ (i := 0) (N := some 35) (v := ?_) (a' := ?_) #[true, false, false, false, false, false, false, false] rfl rfl (any_of HT_.out (by kernel_rfl)) (fun _ _ _ h => h) (Or.inl ⟨by rfl, ?_⟩) ?_ ?_
            rotate_left
            · intro w'
              go_simp
              with_reducible rfl
            rotate_left
            · simp only [Act.put, List.setIfInBounds_toArray, List.set_cons_zero, List.set_cons_succ, i64_w, i32_w]
              rfl
            refine pure_ (i := 3) (N := some 38) (v := ?_) (a' := ?_) #[true, false, false, true, false, false, false, false] rfl rfl (any_of HT_.out (by kernel_rfl)) (fun _ _ _ h => h) (Or.inl ⟨by rfl, ?_⟩) ?_ ?_
            rotate_left
            · intro w'
              go_simp
              with_reducible rfl
            rotate_left
            · simp only [Act.put, List.setIfInBounds_toArray, List.set_cons_zero, List.set_cons_succ, i64_w, i32_w]
              rfl
            refine take_ (i := 1) (N := some 36) (v := ?_) (a' := ?_) #[true, true, false, true, false, false, false, false] rfl rfl (take_ofW HT_.out HW_.out (by kernel_rfl)) (fun _ _ _ h => h) (Or.inl ⟨by rfl, ?_⟩) hHeld ?_ ?_
            rotate_left
            · rintro w' ⟨s0, s1, s2, s3, s4, s5, s6⟩
              go_simp
              with_reducible rfl
            rotate_left
            · simp only [Act.put, List.setIfInBounds_toArray, List.set_cons_zero, List.set_cons_succ, i64_w, i32_w]
              rfl
            refine take_ (i := 4) (N := some 39) (v := ?_) (a' := ?_) #[true, true, false, true, true, false, false, false] rfl rfl (take_ofW HT_.out HW_.out (by kernel_rfl)) (fun _ _ _ h => h) (Or.inl ⟨by rfl, ?_⟩) hHeld ?_ ?_
            rotate_left
            · rintro w' ⟨s0, s1, s2, s3, s4, s5, s6⟩
              go_simp
              with_reducible rfl
            rotate_left
            · simp only [Act.put, List.setIfInBounds_toArray, List.set_cons_zero, List.set_cons_succ, i64_w, i32_w]
              rfl
            refine one_ (i := 2) (N := some 37) #[true, true, true, true, true, false, false, false] rfl rfl (one_of HT_.out (by kernel_rfl)) (by decide) (fun K hK => ?_)
            refine goes_ Try.func20 (by kernel_rfl) rfl #[.slice Ao40 y249.length co40, .agg #[.int .i64 a2_0, .int .i64 a2_1, .int .u32 a2_2, .int .u32 a2_3, .int .i64 a2_4, .int .i64 a2_5, .int .i64 a2_6]] (by rfl) rfl rfl (by (try simp only [List.map_toArray, List.map_cons, List.map_nil]); first | done | rfl | (simp only [List.length_drop, List.length_take]; rfl)) ?_
            with_reducible refine (rule_First.calls _ _ y249 a2_0 a2_1 a2_2 a2_3 a2_4 a2_5 a2_6 t263 _ ?side1 ?side2 A15.out).mono ?_
            (case side1 => repeat (first | exact (Kd.R_reads' HO251.out).2.2 | (with_reducible refine Kd.C_alloc ?_ _) | (with_reducible refine Kd.C_drewN ?_ _) | (with_reducible refine Kd.C_drew ?_)))
            (case side2 => exact (Kd.R_reads' HO251.out).2.1)
            rintro e w41 ⟨rfl, hb⟩
            refine ⟨_, rfl, ?_⟩
            have n0_ := Aside0.mk (Kd.R_below (by (with_reducible repeat (first | apply Kd.R_alloc | apply Kd.R_drewN | apply Kd.R_drew)); exact HO248.out) hb)
            have n1_ := Aside0.mk (Kd.R_below (by (with_reducible repeat (first | apply Kd.R_alloc | apply Kd.R_drewN | apply Kd.R_drew)); exact HO251.out) hb)
            have n2_ := Aside0.mk (Kd.R_below (by (with_reducible repeat (first | apply Kd.R_alloc | apply Kd.R_drewN | apply Kd.R_drew)); exact HO254.out) hb)
            have n3_ := Aside0.mk (Kd.R_below (by (with_reducible repeat (first | apply Kd.R_alloc | apply Kd.R_drewN | apply Kd.R_drew)); exact HO260.out) hb)
            have n4_ := Aside0.mk (blk_below (g := gb240) (o := .cells #[.int .i64 a1_0, .int .i64 a1_1, .int .u32 a1_2, .int .i64 a1_3, .int .u32 a1_4, .int .i64 a1_5, .int .i64 a1_6, .int .i64 a1_7, .int .i64 a1_8, .int .i64 a1_9, .int .i64 a1_10, .bool a1_11] 42 (0, 0)) (by (with_reducible repeat (first | refine blk_drewN ?_ _ | refine blk_drew ?_ | refine blk_alloc ?_ _)); exact BK240.out) hb)
            have n5_ := Aside0.mk (blk_below (g := gb241) (o := .cells #[.int .i64 a2_0, .int .i64 a2_1, .int .u32 a2_2, .int .u32 a2_3, .int .i64 a2_4, .int .i64 a2_5, .int .i64 a2_6] 46 (0, 0)) (by (with_reducible repeat (first | refine blk_drewN ?_ _ | refine blk_drew ?_ | refine blk_alloc ?_ _)); exact BK241.out) hb)
            have n6_ := Aside0.mk (below_step (by repeat (first | (with_reducible first | exact HB.out | apply below_alloc | apply pw_below_drewN | apply below_drew1 | refine below_set ?_ GE240.out | refine below_set ?_ GE241.out) | exact HB.out)) hb)
            clear HO248
            clear HO251
            clear HO254
            clear HO260
            clear BK240
            clear BK241
            clear HB
            have HO248 := n0_
            have HO251 := n1_
            have HO254 := n2_
            have HO260 := n3_
            have BK240 := n4_
            have BK241 := n5_
            have HB := n6_
            clear n0_ n1_ n2_ n3_ n4_ n5_ n6_
            (try clear hb)
            (try clear hb2)
            (try clear hk)
            (try clear hi)
            obtain ⟨Ao42, co42, eo42⟩ := Kd.R_slice HO260.out
            (first | subst eo42 | (injection eo42 with f1_ f2_ f3_; have f4_ := f1_.symm; have f5_ := f3_.symm; clear f1_ f2_ f3_; subst f4_; subst f5_))
            refine hK.out _ _ ⟨(blk_cell BK241.out 0).trans rfl, (blk_cell BK241.out 1).trans rfl, (blk_cell BK241.out 2).trans rfl, (blk_cell BK241.out 3).trans rfl, (blk_cell BK241.out 4).trans rfl, (blk_cell BK241.out 5).trans rfl, (blk_cell BK241.out 6).trans rfl⟩ (fun hHeld => ?_)
            clear hK K
            refine norm_ (a' := ?_) ?_ ?_
            rotate_left
            · show Act.put _ (some 37) _ = _
              simp only [Act.put, List.setIfInBounds_toArray, List.set_cons_zero, List.set_cons_succ, i64_w, i32_w]
              rfl
            refine one_ (i := 5) (N := some 40) #[true, true, true, true, true, true, false, false] rfl rfl (one_of HT_.out (by kernel_rfl)) (by decide) (fun K hK => ?_)
            refine goes_ Try.func20 (by kernel_rfl) rfl #[.slice Ao42 y258.length co42, .agg #[.int .i64 a2_0, .int .i64 a2_1, .int .u32 a2_2, .int .u32 a2_3, .int .i64 a2_4, .int .i64 a2_5, .int .i64 a2_6]] (by rfl) rfl rfl (by (try simp only [List.map_toArray, List.map_cons, List.map_nil]); first | done | rfl | (simp only [List.length_drop, List.length_take]; rfl)) ?_
            with_reducible refine (rule_First.calls _ _ y258 a2_0 a2_1 a2_2 a2_3 a2_4 a2_5 a2_6 t264 _ ?side1 ?side2 A16.out).mono ?_
            (case side1 => repeat (first | exact (Kd.R_reads' HO260.out).2.2 | (with_reducible refine Kd.C_alloc ?_ _) | (with_reducible refine Kd.C_drewN ?_ _) | (with_reducible refine Kd.C_drew ?_)))
            (case side2 => exact (Kd.R_reads' HO260.out).2.1)
            rintro e w43 ⟨rfl, hb⟩
            refine ⟨_, rfl, ?_⟩
            have n0_ := Aside0.mk (Kd.R_below (by (with_reducible repeat (first | apply Kd.R_alloc | apply Kd.R_drewN | apply Kd.R_drew)); exact HO248.out) hb)
            have n1_ := Aside0.mk (Kd.R_below (by (with_reducible repeat (first | apply Kd.R_alloc | apply Kd.R_drewN | apply Kd.R_drew)); exact HO251.out) hb)
            have n2_ := Aside0.mk (Kd.R_below (by (with_reducible repeat (first | apply Kd.R_alloc | apply Kd.R_drewN | apply Kd.R_drew)); exact HO254.out) hb)
            have n3_ := Aside0.mk (Kd.R_below (by (with_reducible repeat (first | apply Kd.R_alloc | apply Kd.R_drewN | apply Kd.R_drew)); exact HO260.out) hb)
            have n4_ := Aside0.mk (blk_below (g := gb240) (o := .cells #[.int .i64 a1_0, .int .i64 a1_1, .int .u32 a1_2, .int .i64 a1_3, .int .u32 a1_4, .int .i64 a1_5, .int .i64 a1_6, .int .i64 a1_7, .int .i64 a1_8, .int .i64 a1_9, .int .i64 a1_10, .bool a1_11] 42 (0, 0)) (by (with_reducible repeat (first | refine blk_drewN ?_ _ | refine blk_drew ?_ | refine blk_alloc ?_ _)); exact BK240.out) hb)
            have n5_ := Aside0.mk (blk_below (g := gb241) (o := .cells #[.int .i64 a2_0, .int .i64 a2_1, .int .u32 a2_2, .int .u32 a2_3, .int .i64 a2_4, .int .i64 a2_5, .int .i64 a2_6] 46 (0, 0)) (by (with_reducible repeat (first | refine blk_drewN ?_ _ | refine blk_drew ?_ | refine blk_alloc ?_ _)); exact BK241.out) hb)
            have n6_ := Aside0.mk (below_step (by repeat (first | (with_reducible first | exact HB.out | apply below_alloc | apply pw_below_drewN | apply below_drew1 | refine below_set ?_ GE240.out | refine below_set ?_ GE241.out) | exact HB.out)) hb)
            clear HO248
            clear HO251
            clear HO254
            clear HO260
            clear BK240
            clear BK241
            clear HB
            have HO248 := n0_
            have HO251 := n1_
            have HO254 := n2_
            have HO260 := n3_
            have BK240 := n4_
            have BK241 := n5_
            have HB := n6_
            clear n0_ n1_ n2_ n3_ n4_ n5_ n6_
            (try clear hb)
            (try clear hb2)
            (try clear hk)
            (try clear hi)
            refine hK.out _ _ ⟨(blk_cell BK241.out 0).trans rfl, (blk_cell BK241.out 1).trans rfl, (blk_cell BK241.out 2).trans rfl, (blk_cell BK241.out 3).trans rfl, (blk_cell BK241.out 4).trans rfl, (blk_cell BK241.out 5).trans rfl, (blk_cell BK241.out 6).trans rfl⟩ (fun hHeld => ?_)
            clear hK K
            refine norm_ (a' := ?_) ?_ ?_
            rotate_left
            · show Act.put _ (some 40) _ = _
              simp only [Act.put, List.setIfInBounds_toArray, List.set_cons_zero, List.set_cons_succ, i64_w, i32_w]
              rfl
            refine pure_ (i := 6) (N := some 11) (v := ?_) (a' := ?_) #[true, true, true, true, true, true, true, false] rfl rfl (any_of HT_.out (by kernel_rfl)) (fun _ _ _ h => h) (Or.inl ⟨by rfl, ?_⟩) ?_ ?_
            rotate_left
            · intro w'
              go_simp
              with_reducible rfl
            rotate_left
            · simp only [Act.put, List.setIfInBounds_toArray, List.set_cons_zero, List.set_cons_succ, i64_w, i32_w]
              rfl
            refine pure_ (i := 7) (N := some 12) (v := ?_) (a' := ?_) #[true, true, true, true, true, true, true, true] rfl rfl (any_of HT_.out (by kernel_rfl)) (fun _ _ _ h => h) (Or.inl ⟨by rfl, ?_⟩) ?_ ?_
            rotate_left
            · intro w'
              go_simp
              with_reducible rfl
            rotate_left
            · simp only [Act.put, List.setIfInBounds_toArray, List.set_cons_zero, List.set_cons_succ, i64_w, i32_w]
              rfl
            refine done_ (done_of HT_.out (by kernel_rfl)) ?_
            go_upto_region 9 with (fail)
            go_cut [90] (fun v90 wc => ∃ (kq : Nat) (x90_16 : Bool), v90 = .bool x90_16 ∧ Aside0 (gueritelaw15_RuleBehind.j0 kq x90_16 = some r) ∧ Aside0 (kq ≤ k) ∧ Aside0 (wc.heap[gb240]? = some (.cells #[.int .i64 a1_0, .int .i64 a1_1, .int .u32 a1_2, .int .i64 a1_3, .int .u32 a1_4, .int .i64 a1_5, .int .i64 a1_6, .int .i64 a1_7, .int .i64 a1_8, .int .i64 a1_9, .int .i64 a1_10, .bool a1_11] 42 (0, 0))) ∧ Aside0 (wc.heap[gb241]? = some (.cells #[.int .i64 a2_0, .int .i64 a2_1, .int .u32 a2_2, .int .u32 a2_3, .int .i64 a2_4, .int .i64 a2_5, .int .i64 a2_6] 46 (0, 0))) ∧ Aside0 (Below w.heap.size w wc))
            case first =>
              have H := HC17.out
              clear HC17
              by_cases c44 : t261 ≥ 0
              · rw [if_pos c44] at H
                have c44b0 : decide (0 ≤ t261) = true := decide_eq_true c44
                clear c44
                (first | rw [c44b0] | (simp only [i64_w, i32_w]; rw [c44b0]) | skip)
                by_cases c45 : t263 = t261
                · rw [if_pos c45] at H
                  have c45b0 : (t263 == t261) = true := beq_iff_eq.mpr c45
                  have c45b1 : (t263 != t261) = false := bne_eq_false_iff_eq.mpr c45
                  clear c45
                  by_cases c46 : t261 < 0
                  · rw [if_pos c46] at H
                    have c46b0 : decide (t261 < 0) = true := decide_eq_true c46
                    clear c46
                    by_cases c47 : ((decide (t263 ≥ 0)) != t262) = true
                    · rw [if_pos c47] at H
                      have c47b0 : ((decide (t263 ≥ 0)) != t262) = true := c47
                      (try (have c47b1 : decide ((decide (t263 ≥ 0)) = t262) = false := by simpa using c47))
                      (try (have c47b2 : ((decide (t263 ≥ 0)) == t262) = false := by simpa using c47))
                      (try (have c47b3 : ¬ ((decide (t263 ≥ 0)) = t262) := by simpa using c47))
                      clear c47
                      have H' := Aside0.mk H
                      clear H
                      go_wp2
                      go_meet
                      case rel => exact ⟨_, (true), (by first | rfl | (simp; done) | (simp [*]; done)), H', ⟨by first | omega | exact Nat.le_refl _⟩, ⟨by (with_reducible repeat (first | refine blk_drewN ?_ _ | refine blk_drew ?_ | refine blk_alloc ?_ _)); exact BK240.out⟩, ⟨by (with_reducible repeat (first | refine blk_drewN ?_ _ | refine blk_drew ?_ | refine blk_alloc ?_ _)); exact BK241.out⟩, ⟨by repeat (first | (with_reducible first | exact HB.out | apply below_alloc | apply pw_below_drewN | apply below_drew1 | refine below_set ?_ GE240.out | refine below_set ?_ GE241.out) | exact HB.out)⟩⟩
                    · rw [if_neg c47] at H
                      have c47b0 : ((decide (t263 ≥ 0)) != t262) = false := by simpa using c47
                      (try (have c47b1 : decide ((decide (t263 ≥ 0)) = t262) = true := by simpa using c47))
                      (try (have c47b2 : ((decide (t263 ≥ 0)) == t262) = true := by simpa using c47))
                      clear c47
                      by_cases c48 : t262 = true
                      · subst c48
                        have H1 : (if t264 = 0 then (gueritelaw15_RuleBehind.j0 k false) else (gueritelaw15_RuleBehind.j0 k true)) = some r := by rw [if_pos rfl] at H; exact H
                        clear H
                        have H := H1
                        clear H1
                        by_cases c49 : t264 = 0
                        · rw [if_pos c49] at H
                          have c49b0 : (t264 == 0) = true := beq_iff_eq.mpr c49
                          have c49b1 : (t264 != 0) = false := bne_eq_false_iff_eq.mpr c49
                          clear c49
                          have H' := Aside0.mk H
                          clear H
                          go_wp2
                          go_meet
                          case rel => exact ⟨_, (false), (by first | rfl | (simp; done) | (simp [*]; done)), H', ⟨by first | omega | exact Nat.le_refl _⟩, ⟨by (with_reducible repeat (first | refine blk_drewN ?_ _ | refine blk_drew ?_ | refine blk_alloc ?_ _)); exact BK240.out⟩, ⟨by (with_reducible repeat (first | refine blk_drewN ?_ _ | refine blk_drew ?_ | refine blk_alloc ?_ _)); exact BK241.out⟩, ⟨by repeat (first | (with_reducible first | exact HB.out | apply below_alloc | apply pw_below_drewN | apply below_drew1 | refine below_set ?_ GE240.out | refine below_set ?_ GE241.out) | exact HB.out)⟩⟩
                        · rw [if_neg c49] at H
                          have c49b0 : (t264 == 0) = false := beq_eq_false_iff_ne.mpr c49
                          have c49b1 : (t264 != 0) = true := bne_iff_ne.mpr c49
                          have H' := Aside0.mk H
                          clear H
                          go_wp2
                          go_meet
                          case rel => exact ⟨_, (true), (by first | rfl | (simp; done) | (simp [*]; done)), H', ⟨by first | omega | exact Nat.le_refl _⟩, ⟨by (with_reducible repeat (first | refine blk_drewN ?_ _ | refine blk_drew ?_ | refine blk_alloc ?_ _)); exact BK240.out⟩, ⟨by (with_reducible repeat (first | refine blk_drewN ?_ _ | refine blk_drew ?_ | refine blk_alloc ?_ _)); exact BK241.out⟩, ⟨by repeat (first | (with_reducible first | exact HB.out | apply below_alloc | apply pw_below_drewN | apply below_drew1 | refine below_set ?_ GE240.out | refine below_set ?_ GE241.out) | exact HB.out)⟩⟩
                      · replace c48 := Bool.eq_false_iff.mpr c48
                        subst c48
                        have H1 : (if t264 = (wrap64 (t261 + 1)) then (gueritelaw15_RuleBehind.j0 k (t264 != (-1))) else (gueritelaw15_RuleBehind.j0 k true)) = some r := by rw [if_neg (show ¬ (false = true) by decide)] at H; exact H
                        clear H
                        have H := H1
                        clear H1
                        by_cases c50 : t264 = (wrap64 (t261 + 1))
                        · rw [if_pos c50] at H
                          have c50b0 : (t264 == (wrap64 (t261 + 1))) = true := beq_iff_eq.mpr c50
                          have c50b1 : (t264 != (wrap64 (t261 + 1))) = false := bne_eq_false_iff_eq.mpr c50
                          clear c50
                          have H' := Aside0.mk H
                          clear H
                          go_wp2
                          go_meet
                          case rel => exact ⟨_, ((t264 != (-1))), (by first | rfl | (simp; done) | (simp [*]; done)), H', ⟨by first | omega | exact Nat.le_refl _⟩, ⟨by (with_reducible repeat (first | refine blk_drewN ?_ _ | refine blk_drew ?_ | refine blk_alloc ?_ _)); exact BK240.out⟩, ⟨by (with_reducible repeat (first | refine blk_drewN ?_ _ | refine blk_drew ?_ | refine blk_alloc ?_ _)); exact BK241.out⟩, ⟨by repeat (first | (with_reducible first | exact HB.out | apply below_alloc | apply pw_below_drewN | apply below_drew1 | refine below_set ?_ GE240.out | refine below_set ?_ GE241.out) | exact HB.out)⟩⟩
                        · rw [if_neg c50] at H
                          have c50b0 : (t264 == (wrap64 (t261 + 1))) = false := beq_eq_false_iff_ne.mpr c50
                          have c50b1 : (t264 != (wrap64 (t261 + 1))) = true := bne_iff_ne.mpr c50
                          have H' := Aside0.mk H
                          clear H
                          go_wp2
                          go_meet
                          case rel => exact ⟨_, (true), (by first | rfl | (simp; done) | (simp [*]; done)), H', ⟨by first | omega | exact Nat.le_refl _⟩, ⟨by (with_reducible repeat (first | refine blk_drewN ?_ _ | refine blk_drew ?_ | refine blk_alloc ?_ _)); exact BK240.out⟩, ⟨by (with_reducible repeat (first | refine blk_drewN ?_ _ | refine blk_drew ?_ | refine blk_alloc ?_ _)); exact BK241.out⟩, ⟨by repeat (first | (with_reducible first | exact HB.out | apply below_alloc | apply pw_below_drewN | apply below_drew1 | refine below_set ?_ GE240.out | refine below_set ?_ GE241.out) | exact HB.out)⟩⟩
                  · rw [if_neg c46] at H
                    have c46b0 : decide (t261 < 0) = false := decide_eq_false c46
                    clear c46
                    by_cases c51 : t262 = true
                    · subst c51
                      have H1 : (if t264 = 0 then (gueritelaw15_RuleBehind.j0 k false) else (gueritelaw15_RuleBehind.j0 k true)) = some r := by rw [if_pos rfl] at H; exact H
                      clear H
                      have H := H1
                      clear H1
                      by_cases c52 : t264 = 0
                      · rw [if_pos c52] at H
                        have c52b0 : (t264 == 0) = true := beq_iff_eq.mpr c52
                        have c52b1 : (t264 != 0) = false := bne_eq_false_iff_eq.mpr c52
                        clear c52
                        have H' := Aside0.mk H
                        clear H
                        go_wp2
                        go_meet
                        case rel => exact ⟨_, (false), (by first | rfl | (simp; done) | (simp [*]; done)), H', ⟨by first | omega | exact Nat.le_refl _⟩, ⟨by (with_reducible repeat (first | refine blk_drewN ?_ _ | refine blk_drew ?_ | refine blk_alloc ?_ _)); exact BK240.out⟩, ⟨by (with_reducible repeat (first | refine blk_drewN ?_ _ | refine blk_drew ?_ | refine blk_alloc ?_ _)); exact BK241.out⟩, ⟨by repeat (first | (with_reducible first | exact HB.out | apply below_alloc | apply pw_below_drewN | apply below_drew1 | refine below_set ?_ GE240.out | refine below_set ?_ GE241.out) | exact HB.out)⟩⟩
                      · rw [if_neg c52] at H
                        have c52b0 : (t264 == 0) = false := beq_eq_false_iff_ne.mpr c52
                        have c52b1 : (t264 != 0) = true := bne_iff_ne.mpr c52
                        have H' := Aside0.mk H
                        clear H
                        go_wp2
                        go_meet
                        case rel => exact ⟨_, (true), (by first | rfl | (simp; done) | (simp [*]; done)), H', ⟨by first | omega | exact Nat.le_refl _⟩, ⟨by (with_reducible repeat (first | refine blk_drewN ?_ _ | refine blk_drew ?_ | refine blk_alloc ?_ _)); exact BK240.out⟩, ⟨by (with_reducible repeat (first | refine blk_drewN ?_ _ | refine blk_drew ?_ | refine blk_alloc ?_ _)); exact BK241.out⟩, ⟨by repeat (first | (with_reducible first | exact HB.out | apply below_alloc | apply pw_below_drewN | apply below_drew1 | refine below_set ?_ GE240.out | refine below_set ?_ GE241.out) | exact HB.out)⟩⟩
                    · replace c51 := Bool.eq_false_iff.mpr c51
                      subst c51
                      have H1 : (if t264 = (wrap64 (t261 + 1)) then (gueritelaw15_RuleBehind.j0 k false) else (gueritelaw15_RuleBehind.j0 k true)) = some r := by rw [if_neg (show ¬ (false = true) by decide)] at H; exact H
                      clear H
                      have H := H1
                      clear H1
                      by_cases c53 : t264 = (wrap64 (t261 + 1))
                      · rw [if_pos c53] at H
                        have c53b0 : (t264 == (wrap64 (t261 + 1))) = true := beq_iff_eq.mpr c53
                        have c53b1 : (t264 != (wrap64 (t261 + 1))) = false := bne_eq_false_iff_eq.mpr c53
                        clear c53
                        have H' := Aside0.mk H
                        clear H
                        go_wp2
                        go_meet
                        case rel => exact ⟨_, (false), (by first | rfl | (simp; done) | (simp [*]; done)), H', ⟨by first | omega | exact Nat.le_refl _⟩, ⟨by (with_reducible repeat (first | refine blk_drewN ?_ _ | refine blk_drew ?_ | refine blk_alloc ?_ _)); exact BK240.out⟩, ⟨by (with_reducible repeat (first | refine blk_drewN ?_ _ | refine blk_drew ?_ | refine blk_alloc ?_ _)); exact BK241.out⟩, ⟨by repeat (first | (with_reducible first | exact HB.out | apply below_alloc | apply pw_below_drewN | apply below_drew1 | refine below_set ?_ GE240.out | refine below_set ?_ GE241.out) | exact HB.out)⟩⟩
                      · rw [if_neg c53] at H
                        have c53b0 : (t264 == (wrap64 (t261 + 1))) = false := beq_eq_false_iff_ne.mpr c53
                        have c53b1 : (t264 != (wrap64 (t261 + 1))) = true := bne_iff_ne.mpr c53
                        have H' := Aside0.mk H
                        clear H
                        go_wp2
                        go_meet
                        case rel => exact ⟨_, (true), (by first | rfl | (simp; done) | (simp [*]; done)), H', ⟨by first | omega | exact Nat.le_refl _⟩, ⟨by (with_reducible repeat (first | refine blk_drewN ?_ _ | refine blk_drew ?_ | refine blk_alloc ?_ _)); exact BK240.out⟩, ⟨by (with_reducible repeat (first | refine blk_drewN ?_ _ | refine blk_drew ?_ | refine blk_alloc ?_ _)); exact BK241.out⟩, ⟨by repeat (first | (with_reducible first | exact HB.out | apply below_alloc | apply pw_below_drewN | apply below_drew1 | refine below_set ?_ GE240.out | refine below_set ?_ GE241.out) | exact HB.out)⟩⟩
                · rw [if_neg c45] at H
                  have c45b0 : (t263 == t261) = false := beq_eq_false_iff_ne.mpr c45
                  have c45b1 : (t263 != t261) = true := bne_iff_ne.mpr c45
                  have H' := Aside0.mk H
                  clear H
                  go_wp2
                  go_meet
                  case rel => exact ⟨_, (true), (by first | rfl | (simp; done) | (simp [*]; done)), H', ⟨by first | omega | exact Nat.le_refl _⟩, ⟨by (with_reducible repeat (first | refine blk_drewN ?_ _ | refine blk_drew ?_ | refine blk_alloc ?_ _)); exact BK240.out⟩, ⟨by (with_reducible repeat (first | refine blk_drewN ?_ _ | refine blk_drew ?_ | refine blk_alloc ?_ _)); exact BK241.out⟩, ⟨by repeat (first | (with_reducible first | exact HB.out | apply below_alloc | apply pw_below_drewN | apply below_drew1 | refine below_set ?_ GE240.out | refine below_set ?_ GE241.out) | exact HB.out)⟩⟩
              · rw [if_neg c44] at H
                have c44b0 : decide (0 ≤ t261) = false := decide_eq_false c44
                clear c44
                (first | rw [c44b0] | (simp only [i64_w, i32_w]; rw [c44b0]) | skip)
                by_cases c54 : t261 < 0
                · rw [if_pos c54] at H
                  have c54b0 : decide (t261 < 0) = true := decide_eq_true c54
                  clear c54
                  by_cases c55 : ((decide (t263 ≥ 0)) != t262) = true
                  · rw [if_pos c55] at H
                    have c55b0 : ((decide (t263 ≥ 0)) != t262) = true := c55
                    (try (have c55b1 : decide ((decide (t263 ≥ 0)) = t262) = false := by simpa using c55))
                    (try (have c55b2 : ((decide (t263 ≥ 0)) == t262) = false := by simpa using c55))
                    (try (have c55b3 : ¬ ((decide (t263 ≥ 0)) = t262) := by simpa using c55))
                    clear c55
                    have H' := Aside0.mk H
                    clear H
                    go_wp2
                    go_meet
                    case rel => exact ⟨_, (true), (by first | rfl | (simp; done) | (simp [*]; done)), H', ⟨by first | omega | exact Nat.le_refl _⟩, ⟨by (with_reducible repeat (first | refine blk_drewN ?_ _ | refine blk_drew ?_ | refine blk_alloc ?_ _)); exact BK240.out⟩, ⟨by (with_reducible repeat (first | refine blk_drewN ?_ _ | refine blk_drew ?_ | refine blk_alloc ?_ _)); exact BK241.out⟩, ⟨by repeat (first | (with_reducible first | exact HB.out | apply below_alloc | apply pw_below_drewN | apply below_drew1 | refine below_set ?_ GE240.out | refine below_set ?_ GE241.out) | exact HB.out)⟩⟩
                  · rw [if_neg c55] at H
                    have c55b0 : ((decide (t263 ≥ 0)) != t262) = false := by simpa using c55
                    (try (have c55b1 : decide ((decide (t263 ≥ 0)) = t262) = true := by simpa using c55))
                    (try (have c55b2 : ((decide (t263 ≥ 0)) == t262) = true := by simpa using c55))
                    clear c55
                    by_cases c56 : t262 = true
                    · subst c56
                      have H1 : (if t264 = 0 then (gueritelaw15_RuleBehind.j0 k false) else (gueritelaw15_RuleBehind.j0 k true)) = some r := by rw [if_pos rfl] at H; exact H
                      clear H
                      have H := H1
                      clear H1
                      by_cases c57 : t264 = 0
                      · rw [if_pos c57] at H
                        have c57b0 : (t264 == 0) = true := beq_iff_eq.mpr c57
                        have c57b1 : (t264 != 0) = false := bne_eq_false_iff_eq.mpr c57
                        clear c57
                        have H' := Aside0.mk H
                        clear H
                        go_wp2
                        go_meet
                        case rel => exact ⟨_, (false), (by first | rfl | (simp; done) | (simp [*]; done)), H', ⟨by first | omega | exact Nat.le_refl _⟩, ⟨by (with_reducible repeat (first | refine blk_drewN ?_ _ | refine blk_drew ?_ | refine blk_alloc ?_ _)); exact BK240.out⟩, ⟨by (with_reducible repeat (first | refine blk_drewN ?_ _ | refine blk_drew ?_ | refine blk_alloc ?_ _)); exact BK241.out⟩, ⟨by repeat (first | (with_reducible first | exact HB.out | apply below_alloc | apply pw_below_drewN | apply below_drew1 | refine below_set ?_ GE240.out | refine below_set ?_ GE241.out) | exact HB.out)⟩⟩
                      · rw [if_neg c57] at H
                        have c57b0 : (t264 == 0) = false := beq_eq_false_iff_ne.mpr c57
                        have c57b1 : (t264 != 0) = true := bne_iff_ne.mpr c57
                        have H' := Aside0.mk H
                        clear H
                        go_wp2
                        go_meet
                        case rel => exact ⟨_, (true), (by first | rfl | (simp; done) | (simp [*]; done)), H', ⟨by first | omega | exact Nat.le_refl _⟩, ⟨by (with_reducible repeat (first | refine blk_drewN ?_ _ | refine blk_drew ?_ | refine blk_alloc ?_ _)); exact BK240.out⟩, ⟨by (with_reducible repeat (first | refine blk_drewN ?_ _ | refine blk_drew ?_ | refine blk_alloc ?_ _)); exact BK241.out⟩, ⟨by repeat (first | (with_reducible first | exact HB.out | apply below_alloc | apply pw_below_drewN | apply below_drew1 | refine below_set ?_ GE240.out | refine below_set ?_ GE241.out) | exact HB.out)⟩⟩
                    · replace c56 := Bool.eq_false_iff.mpr c56
                      subst c56
                      have H1 : (gueritelaw15_RuleBehind.j0 k (t264 != (-1))) = some r := by rw [if_neg (show ¬ (false = true) by decide)] at H; exact H
                      clear H
                      have H := H1
                      clear H1
                      have H' := Aside0.mk H
                      clear H
                      go_wp2
                      go_meet
                      case rel => exact ⟨_, ((t264 != (-1))), (by first | rfl | (simp; done) | (simp [*]; done)), H', ⟨by first | omega | exact Nat.le_refl _⟩, ⟨by (with_reducible repeat (first | refine blk_drewN ?_ _ | refine blk_drew ?_ | refine blk_alloc ?_ _)); exact BK240.out⟩, ⟨by (with_reducible repeat (first | refine blk_drewN ?_ _ | refine blk_drew ?_ | refine blk_alloc ?_ _)); exact BK241.out⟩, ⟨by repeat (first | (with_reducible first | exact HB.out | apply below_alloc | apply pw_below_drewN | apply below_drew1 | refine below_set ?_ GE240.out | refine below_set ?_ GE241.out) | exact HB.out)⟩⟩
                · rw [if_neg c54] at H
                  have c54b0 : decide (t261 < 0) = false := decide_eq_false c54
                  clear c54
                  by_cases c58 : t262 = true
                  · subst c58
                    have H1 : (if t264 = 0 then (gueritelaw15_RuleBehind.j0 k false) else (gueritelaw15_RuleBehind.j0 k true)) = some r := by rw [if_pos rfl] at H; exact H
                    clear H
                    have H := H1
                    clear H1
                    by_cases c59 : t264 = 0
                    · rw [if_pos c59] at H
                      have c59b0 : (t264 == 0) = true := beq_iff_eq.mpr c59
                      have c59b1 : (t264 != 0) = false := bne_eq_false_iff_eq.mpr c59
                      clear c59
                      have H' := Aside0.mk H
                      clear H
                      go_wp2
                      go_meet
                      case rel => exact ⟨_, (false), (by first | rfl | (simp; done) | (simp [*]; done)), H', ⟨by first | omega | exact Nat.le_refl _⟩, ⟨by (with_reducible repeat (first | refine blk_drewN ?_ _ | refine blk_drew ?_ | refine blk_alloc ?_ _)); exact BK240.out⟩, ⟨by (with_reducible repeat (first | refine blk_drewN ?_ _ | refine blk_drew ?_ | refine blk_alloc ?_ _)); exact BK241.out⟩, ⟨by repeat (first | (with_reducible first | exact HB.out | apply below_alloc | apply pw_below_drewN | apply below_drew1 | refine below_set ?_ GE240.out | refine below_set ?_ GE241.out) | exact HB.out)⟩⟩
                    · rw [if_neg c59] at H
                      have c59b0 : (t264 == 0) = false := beq_eq_false_iff_ne.mpr c59
                      have c59b1 : (t264 != 0) = true := bne_iff_ne.mpr c59
                      have H' := Aside0.mk H
                      clear H
                      go_wp2
                      go_meet
                      case rel => exact ⟨_, (true), (by first | rfl | (simp; done) | (simp [*]; done)), H', ⟨by first | omega | exact Nat.le_refl _⟩, ⟨by (with_reducible repeat (first | refine blk_drewN ?_ _ | refine blk_drew ?_ | refine blk_alloc ?_ _)); exact BK240.out⟩, ⟨by (with_reducible repeat (first | refine blk_drewN ?_ _ | refine blk_drew ?_ | refine blk_alloc ?_ _)); exact BK241.out⟩, ⟨by repeat (first | (with_reducible first | exact HB.out | apply below_alloc | apply pw_below_drewN | apply below_drew1 | refine below_set ?_ GE240.out | refine below_set ?_ GE241.out) | exact HB.out)⟩⟩
                  · replace c58 := Bool.eq_false_iff.mpr c58
                    subst c58
                    have H1 : (gueritelaw15_RuleBehind.j0 k false) = some r := by rw [if_neg (show ¬ (false = true) by decide)] at H; exact H
                    clear H
                    have H := H1
                    clear H1
                    have H' := Aside0.mk H
                    clear H
                    go_wp2
                    go_meet
                    case rel => exact ⟨_, (false), (by first | rfl | (simp; done) | (simp [*]; done)), H', ⟨by first | omega | exact Nat.le_refl _⟩, ⟨by (with_reducible repeat (first | refine blk_drewN ?_ _ | refine blk_drew ?_ | refine blk_alloc ?_ _)); exact BK240.out⟩, ⟨by (with_reducible repeat (first | refine blk_drewN ?_ _ | refine blk_drew ?_ | refine blk_alloc ?_ _)); exact BK241.out⟩, ⟨by repeat (first | (with_reducible first | exact HB.out | apply below_alloc | apply pw_below_drewN | apply below_drew1 | refine below_set ?_ GE240.out | refine below_set ?_ GE241.out) | exact HB.out)⟩⟩
            case rest =>
              clear HC17
              try clear c1
              try clear c2
              try clear p2
              try clear c4
              try clear c5
              try clear p6
              try clear c9
              try clear c10
              try clear c11
              try clear c12
              try clear c20
              try clear c21
              try clear c27
              try clear c44
              try clear c44b0
              try clear c45
              try clear c45b0
              try clear c45b1
              try clear c46
              try clear c46b0
              try clear c47
              try clear c47b0
              try clear c47b1
              try clear c47b2
              try clear c48
              try clear c49
              try clear c49b0
              try clear c49b1
              try clear c50
              try clear c50b0
              try clear c50b1
              try clear c51
              try clear c52
              try clear c52b0
              try clear c52b1
              try clear c53
              try clear c53b0
              try clear c53b1
              try clear c54
              try clear c54b0
              try clear c55
              try clear c55b0
              try clear c55b1
              try clear c55b2
              try clear c56
              try clear c57
              try clear c57b0
              try clear c57b1
              try clear c58
              try clear c59
              try clear c59b0
              try clear c59b1
              try clear hcz28_0
              try clear hcz28_1
              try clear hcz28_10
              try clear hcz28_11
              try clear hcz28_2
              try clear hcz28_3
              try clear hcz28_4
              try clear hcz28_5
              try clear hcz28_6
              try clear hcz28_7
              try clear hcz28_8
              try clear hcz28_9
              try clear hcz34_0
              try clear hcz34_1
              try clear hcz34_2
              try clear hcz34_3
              try clear hcz34_4
              try clear hcz34_5
              try clear hcz34_6
              try clear hcz36_0
              try clear hcz36_1
              try clear hcz36_10
              try clear hcz36_11
              try clear hcz36_2
              try clear hcz36_3
              try clear hcz36_4
              try clear hcz36_5
              try clear hcz36_6
              try clear hcz36_7
              try clear hcz36_8
              try clear hcz36_9
              try clear hcz37_0
              try clear hcz37_1
              try clear hcz37_2
              try clear hcz37_3
              try clear hcz37_4
              try clear hcz37_5
              try clear hcz37_6
              try clear hfz28_0
              try clear hfz28_1
              try clear hfz28_10
              try clear hfz28_11
              try clear hfz28_2
              try clear hfz28_3
              try clear hfz28_4
              try clear hfz28_5
              try clear hfz28_6
              try clear hfz28_7
              try clear hfz28_8
              try clear hfz28_9
              try clear hfz34_0
              try clear hfz34_1
              try clear hfz34_2
              try clear hfz34_3
              try clear hfz34_4
              try clear hfz34_5
              try clear hfz34_6
              try clear hfz36_0
              try clear hfz36_1
              try clear hfz36_10
              try clear hfz36_11
              try clear hfz36_2
              try clear hfz36_3
              try clear hfz36_4
              try clear hfz36_5
              try clear hfz36_6
              try clear hfz36_7
              try clear hfz36_8
              try clear hfz36_9
              try clear hfz37_0
              try clear hfz37_1
              try clear hfz37_2
              try clear hfz37_3
              try clear hfz37_4
              try clear hfz37_5
              try clear hfz37_6
              obtain ⟨kq, x90_16, rfl, HA, HJ16, BK240, BK241, HB⟩ := hcut
              cases kq with
              | zero => exact absurd HA.out (by simp [gueritelaw15_RuleBehind.j0])
              | succ kj16 =>
                have H := HA.out
                clear HA
                simp only [gueritelaw15_RuleBehind.j0] at H
                by_cases c60 : x90_16 = true
                · subst c60
                  have H1 : (some false) = some r := by rw [if_pos rfl] at H; exact H
                  clear H
                  have H := H1
                  clear H1
                  obtain rfl := Option.some.inj H
                  go_wp2
                  go_ret
                  exact ⟨by first | rfl | (simp [errW_none, errW_some] <;> rfl) | (simp [*, errW_none, errW_some] <;> rfl), by repeat (first | (with_reducible first | exact HB.out | apply below_alloc | apply pw_below_drewN | apply below_drew1 | refine below_set ?_ GE240.out | refine below_set ?_ GE241.out) | exact HB.out)⟩
                · replace c60 := Bool.eq_false_iff.mpr c60
                  subst c60
                  have H1 : ((gueritelaw15_awake.f).bind fun t265 => (some t265)) = some r := by rw [if_neg (show ¬ (false = true) by decide)] at H; exact H
                  clear H
                  have H := H1
                  clear H1
                  replace H := Option.bind_eq_some_iff.mp H
                  obtain ⟨t265, A610, H⟩ := H
                  replace H : (some t265) = some r := H
                  have A61 := Aside0.mk A610
                  clear A610
                  obtain rfl := Option.some.inj H
                  go_wp2_with (first | ((with_reducible refine gate_callee (f := 19) rfl ?_); refine goesL_ (some 91) rfl rfl Try.func19 (by kernel_rfl) rfl #[] rfl (by (try simp only [List.map_toArray, List.map_cons, List.map_nil]); first | done | rfl | (simp only [List.length_drop, List.length_take]; rfl)) ?_; (with_reducible refine (gueritelaw15_awake.calls  t265 _ A61.out).mono ?_); rintro e w62 ⟨rfl, hb⟩; refine ⟨_, rfl, ?_⟩; have n0_ := Aside0.mk (blk_below (g := gb240) (o := .cells #[.int .i64 a1_0, .int .i64 a1_1, .int .u32 a1_2, .int .i64 a1_3, .int .u32 a1_4, .int .i64 a1_5, .int .i64 a1_6, .int .i64 a1_7, .int .i64 a1_8, .int .i64 a1_9, .int .i64 a1_10, .bool a1_11] 42 (0, 0)) (by (with_reducible repeat (first | refine blk_drewN ?_ _ | refine blk_drew ?_ | refine blk_alloc ?_ _)); exact BK240.out) hb); have n1_ := Aside0.mk (blk_below (g := gb241) (o := .cells #[.int .i64 a2_0, .int .i64 a2_1, .int .u32 a2_2, .int .u32 a2_3, .int .i64 a2_4, .int .i64 a2_5, .int .i64 a2_6] 46 (0, 0)) (by (with_reducible repeat (first | refine blk_drewN ?_ _ | refine blk_drew ?_ | refine blk_alloc ?_ _)); exact BK241.out) hb); have n2_ := Aside0.mk (below_step (by repeat (first | (with_reducible first | exact HB.out | apply below_alloc | apply pw_below_drewN | apply below_drew1 | refine below_set ?_ GE240.out | refine below_set ?_ GE241.out) | exact HB.out)) hb); clear BK240; clear BK241; clear HB; have BK240 := n0_; have BK241 := n1_; have HB := n2_; clear n0_ n1_ n2_; (try clear hb); (try clear hb2); (try clear hk); (try clear hi)))
                  go_ret
                  exact ⟨by first | rfl | (simp [errW_none, errW_some] <;> rfl) | (simp [*, errW_none, errW_some] <;> rfl), by repeat (first | (with_reducible first | exact HB.out | apply below_alloc | apply pw_below_drewN | apply below_drew1 | refine below_set ?_ GE240.out | refine below_set ?_ GE241.out) | exact HB.out)⟩
          · rw [if_neg c12] at H
            exact absurd H (by simp)
        · rw [if_neg c11] at H
          exact absurd H (by simp)
      · rw [if_neg c10] at H
        exact absurd H (by simp)
    · rw [if_neg c9] at H
      exact absurd H (by simp)

end Go.Proofs.Ytakfnghakbjncaa.P
