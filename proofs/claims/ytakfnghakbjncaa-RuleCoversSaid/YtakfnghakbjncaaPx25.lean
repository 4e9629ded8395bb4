-- Written by a program of this session (xprint.py), over the kit's print; not trusted: Lean checks it.
import Derived.Test.YtakfnghakbjncaaPx0
import Derived.Test.YtakfnghakbjncaaPx14
import Derived.Test.YtakfnghakbjncaaPx16
import Derived.Test.YtakfnghakbjncaaPx23
import Derived.Test.YtakfnghakbjncaaPx24
namespace Go.Proofs.Ytakfnghakbjncaa.P
open Go.RowKit Go.Proofs.YtakfnghakbjncaaW.PrintWords Go.Proofs.YtakfnghakbjncaaW.PrintLast Go.Proofs.YtakfnghakbjncaaW.PrintMore
attribute [local go_sem] max2_int min2_int max_two min_two max_three min_three max_four min_four   -- for this text's walks alone
set_option linter.unusedVariables false
set_option linter.unusedSimpArgs false

/-! ### gueritelaw15_RuleCovers: function 8 -/
def gueritelaw15_RuleCovers.f (k : Nat) (a0_0 : Int) (a0_1 : Int) (a0_2 : Int) (a0_3 : Int) (a0_4 : Int) (a0_5 : Int) (a0_6 : Int) (a0_7 : Int) (a0_8 : Int) (a0_9 : Int) (a0_10 : Int) (a0_11 : Bool) (a1_0 : Int) (a1_1 : Int) (a1_2 : Int) (a1_3 : Int) (a1_4 : Int) (a1_5 : Int) (a1_6 : Int) (a1_7 : Int) (a1_8 : Int) (a1_9 : Int) (a1_10 : Int) (a1_11 : Bool) (a2_0 : Int) (a2_1 : Int) (a2_2 : Int) (a2_3 : Int) (a2_4 : Int) (a2_5 : Int) (a2_6 : Int) : Option (Bool) := (rule_Covers.f k a0_0 a0_1 a0_2 a0_3 a0_4 a0_5 a0_6 a0_7 a0_8 a0_9 a0_10 a0_11 a1_0 a1_1 a1_2 a1_3 a1_4 a1_5 a1_6 a1_7 a1_8 a1_9 a1_10 a1_11).bind fun t331 => ((gueriteref15_Covers.f k a0_0 a0_1 a0_2 a0_3 a0_4 a0_5 a0_6 a0_7 a0_8 a0_9 a0_10 a0_11 a1_0 a1_1 a1_2 a1_3 a1_4 a1_5 a1_6 a1_7 a1_8 a1_9 a1_10 a1_11).bind fun t332 => (if (t331 != t332) = true then (some false) else ((rule_Covers.f k a0_0 a0_1 a0_2 a0_3 a0_4 a0_5 a0_6 a0_7 a0_8 a0_9 a0_10 a0_11 a1_0 a1_1 a1_2 a1_3 a1_4 a1_5 a1_6 a1_7 a1_8 a1_9 a1_10 a1_11).bind fun t333 => (if t333 = true then ((rule_Matches.f k a1_0 a1_1 a1_2 a1_3 a1_4 a1_5 a1_6 a1_7 a1_8 a1_9 a1_10 a1_11 a2_0 a2_1 a2_2 a2_3 a2_4 a2_5 a2_6).bind fun t334 => (if t334 = true then ((rule_Matches.f k a0_0 a0_1 a0_2 a0_3 a0_4 a0_5 a0_6 a0_7 a0_8 a0_9 a0_10 a0_11 a2_0 a2_1 a2_2 a2_3 a2_4 a2_5 a2_6).bind fun t335 => (if t335 = true then ((gueritelaw15_awake.f).bind fun t336 => (some t336)) else (some false))) else ((gueritelaw15_awake.f).bind fun t337 => (some t337)))) else ((gueritelaw15_awake.f).bind fun t338 => (some t338))))))
theorem gueritelaw15_RuleCovers.mono : ∀ a0 a1 a2 a3 a4 a5 a6 a7 a8 a9 a10 a11 a12 a13 a14 a15 a16 a17 a18 a19 a20 a21 a22 a23 a24 a25 a26 a27 a28 a29 a30 k, LeO (gueritelaw15_RuleCovers.f k a0 a1 a2 a3 a4 a5 a6 a7 a8 a9 a10 a11 a12 a13 a14 a15 a16 a17 a18 a19 a20 a21 a22 a23 a24 a25 a26 a27 a28 a29 a30) (gueritelaw15_RuleCovers.f (k + 1) a0 a1 a2 a3 a4 a5 a6 a7 a8 a9 a10 a11 a12 a13 a14 a15 a16 a17 a18 a19 a20 a21 a22 a23 a24 a25 a26 a27 a28 a29 a30) := by
  intro a0 a1 a2 a3 a4 a5 a6 a7 a8 a9 a10 a11 a12 a13 a14 a15 a16 a17 a18 a19 a20 a21 a22 a23 a24 a25 a26 a27 a28 a29 a30 k
  unfold gueritelaw15_RuleCovers.f
  repeat' first
      | (with_reducible exact gueriteref15_Covers.mono _ _ _ _ _ _ _ _ _ _ _ _ _ _ _ _ _ _ _ _ _ _ _ _ _)
      | (with_reducible exact rule_Covers.mono _ _ _ _ _ _ _ _ _ _ _ _ _ _ _ _ _ _ _ _ _ _ _ _ _)
      | (with_reducible exact rule_Matches.mono _ _ _ _ _ _ _ _ _ _ _ _ _ _ _ _ _ _ _ _)
      | (with_reducible exact LeO.refl _)
      | (with_reducible exact LeO.none _)
      | (with_reducible refine LeO.ite ?_ ?_)
      | (with_reducible refine LeO.bind ?_ (fun _ => ?_))
      | exact gueriteref15_Covers.mono _ _ _ _ _ _ _ _ _ _ _ _ _ _ _ _ _ _ _ _ _ _ _ _ _
      | exact rule_Covers.mono _ _ _ _ _ _ _ _ _ _ _ _ _ _ _ _ _ _ _ _ _ _ _ _ _
      | exact rule_Matches.mono _ _ _ _ _ _ _ _ _ _ _ _ _ _ _ _ _ _ _ _
      | exact LeO.none _
      | refine LeO.ite ?_ ?_
      | refine LeO.bind ?_ (fun _ => ?_)
set_option maxHeartbeats 8000000 in
set_option maxRecDepth 100000 in
theorem gueritelaw15_RuleCovers.calls (k : Nat) (a0_0 : Int) (a0_1 : Int) (a0_2 : Int) (a0_3 : Int) (a0_4 : Int) (a0_5 : Int) (a0_6 : Int) (a0_7 : Int) (a0_8 : Int) (a0_9 : Int) (a0_10 : Int) (a0_11 : Bool) (a1_0 : Int) (a1_1 : Int) (a1_2 : Int) (a1_3 : Int) (a1_4 : Int) (a1_5 : Int) (a1_6 : Int) (a1_7 : Int) (a1_8 : Int) (a1_9 : Int) (a1_10 : Int) (a1_11 : Bool) (a2_0 : Int) (a2_1 : Int) (a2_2 : Int) (a2_3 : Int) (a2_4 : Int) (a2_5 : Int) (a2_6 : Int) (r : Bool) (w : World) (h : gueritelaw15_RuleCovers.f k a0_0 a0_1 a0_2 a0_3 a0_4 a0_5 a0_6 a0_7 a0_8 a0_9 a0_10 a0_11 a1_0 a1_1 a1_2 a1_3 a1_4 a1_5 a1_6 a1_7 a1_8 a1_9 a1_10 a1_11 a2_0 a2_1 a2_2 a2_3 a2_4 a2_5 a2_6 = some r) :
    Calls Try.prog 8 #[.agg #[.int .i64 a0_0, .int .i64 a0_1, .int .u32 a0_2, .int .i64 a0_3, .int .u32 a0_4, .int .i64 a0_5, .int .i64 a0_6, .int .i64 a0_7, .int .i64 a0_8, .int .i64 a0_9, .int .i64 a0_10, .bool a0_11], .agg #[.int .i64 a1_0, .int .i64 a1_1, .int .u32 a1_2, .int .i64 a1_3, .int .u32 a1_4, .int .i64 a1_5, .int .i64 a1_6, .int .i64 a1_7, .int .i64 a1_8, .int .i64 a1_9, .int .i64 a1_10, .bool a1_11], .agg #[.int .i64 a2_0, .int .i64 a2_1, .int .u32 a2_2, .int .u32 a2_3, .int .i64 a2_4, .int .i64 a2_5, .int .i64 a2_6]] w fun e w' => e = .returned (.bool r) ∧ Below w.heap.size w w' := by
  have hu42 := Try.underlying42
  have hu46 := Try.underlying46
  have HB := Aside0.mk (Below.refl w.heap.size w)
  have H : ((rule_Covers.f k a0_0 a0_1 a0_2 a0_3 a0_4 a0_5 a0_6 a0_7 a0_8 a0_9 a0_10 a0_11 a1_0 a1_1 a1_2 a1_3 a1_4 a1_5 a1_6 a1_7 a1_8 a1_9 a1_10 a1_11).bind fun t331 => ((gueriteref15_Covers.f k a0_0 a0_1 a0_2 a0_3 a0_4 a0_5 a0_6 a0_7 a0_8 a0_9 a0_10 a0_11 a1_0 a1_1 a1_2 a1_3 a1_4 a1_5 a1_6 a1_7 a1_8 a1_9 a1_10 a1_11).bind fun t332 => (if (t331 != t332) = true then (some false) else ((rule_Covers.f k a0_0 a0_1 a0_2 a0_3 a0_4 a0_5 a0_6 a0_7 a0_8 a0_9 a0_10 a0_11 a1_0 a1_1 a1_2 a1_3 a1_4 a1_5 a1_6 a1_7 a1_8 a1_9 a1_10 a1_11).bind fun t333 => (if t333 = true then ((rule_Matches.f k a1_0 a1_1 a1_2 a1_3 a1_4 a1_5 a1_6 a1_7 a1_8 a1_9 a1_10 a1_11 a2_0 a2_1 a2_2 a2_3 a2_4 a2_5 a2_6).bind fun t334 => (if t334 = true then ((rule_Matches.f k a0_0 a0_1 a0_2 a0_3 a0_4 a0_5 a0_6 a0_7 a0_8 a0_9 a0_10 a0_11 a2_0 a2_1 a2_2 a2_3 a2_4 a2_5 a2_6).bind fun t335 => (if t335 = true then ((gueritelaw15_awake.f).bind fun t336 => (some t336)) else (some false))) else ((gueritelaw15_awake.f).bind fun t337 => (some t337)))) else ((gueritelaw15_awake.f).bind fun t338 => (some t338))))))) = some r := h
  clear h
  replace H := Option.bind_eq_some_iff.mp H
  obtain ⟨t331, A40, H⟩ := H
  replace H : ((gueriteref15_Covers.f k a0_0 a0_1 a0_2 a0_3 a0_4 a0_5 a0_6 a0_7 a0_8 a0_9 a0_10 a0_11 a1_0 a1_1 a1_2 a1_3 a1_4 a1_5 a1_6 a1_7 a1_8 a1_9 a1_10 a1_11).bind fun t332 => (if (t331 != t332) = true then (some false) else ((rule_Covers.f k a0_0 a0_1 a0_2 a0_3 a0_4 a0_5 a0_6 a0_7 a0_8 a0_9 a0_10 a0_11 a1_0 a1_1 a1_2 a1_3 a1_4 a1_5 a1_6 a1_7 a1_8 a1_9 a1_10 a1_11).bind fun t333 => (if t333 = true then ((rule_Matches.f k a1_0 a1_1 a1_2 a1_3 a1_4 a1_5 a1_6 a1_7 a1_8 a1_9 a1_10 a1_11 a2_0 a2_1 a2_2 a2_3 a2_4 a2_5 a2_6).bind fun t334 => (if t334 = true then ((rule_Matches.f k a0_0 a0_1 a0_2 a0_3 a0_4 a0_5 a0_6 a0_7 a0_8 a0_9 a0_10 a0_11 a2_0 a2_1 a2_2 a2_3 a2_4 a2_5 a2_6).bind fun t335 => (if t335 = true then ((gueritelaw15_awake.f).bind fun t336 => (some t336)) else (some false))) else ((gueritelaw15_awake.f).bind fun t337 => (some t337)))) else ((gueritelaw15_awake.f).bind fun t338 => (some t338)))))) = some r := H
  have A4 := Aside0.mk A40
  clear A40
  replace H := Option.bind_eq_some_iff.mp H
  obtain ⟨t332, A50, H⟩ := H
  replace H : (if (t331 != t332) = true then (some false) else ((rule_Covers.f k a0_0 a0_1 a0_2 a0_3 a0_4 a0_5 a0_6 a0_7 a0_8 a0_9 a0_10 a0_11 a1_0 a1_1 a1_2 a1_3 a1_4 a1_5 a1_6 a1_7 a1_8 a1_9 a1_10 a1_11).bind fun t333 => (if t333 = true then ((rule_Matches.f k a1_0 a1_1 a1_2 a1_3 a1_4 a1_5 a1_6 a1_7 a1_8 a1_9 a1_10 a1_11 a2_0 a2_1 a2_2 a2_3 a2_4 a2_5 a2_6).bind fun t334 => (if t334 = true then ((rule_Matches.f k a0_0 a0_1 a0_2 a0_3 a0_4 a0_5 a0_6 a0_7 a0_8 a0_9 a0_10 a0_11 a2_0 a2_1 a2_2 a2_3 a2_4 a2_5 a2_6).bind fun t335 => (if t335 = true then ((gueritelaw15_awake.f).bind fun t336 => (some t336)) else (some false))) else ((gueritelaw15_awake.f).bind fun t337 => (some t337)))) else ((gueritelaw15_awake.f).bind fun t338 => (some t338))))) = some r := H
  have A5 := Aside0.mk A50
  clear A50
  by_cases c6 : (t331 != t332) = true
  · rw [if_pos c6] at H
    have c6b0 : (t331 != t332) = true := c6
    (try (have c6b1 : decide (t331 = t332) = false := by simpa using c6))
    (try (have c6b2 : (t331 == t332) = false := by simpa using c6))
    (try (have c6b3 : ¬ (t331 = t332) := by simpa using c6))
    clear c6
    obtain rfl := Option.some.inj H
    go_enter Try.func8, Try.ntmps8
    try go_wp2_with (first | ((with_reducible refine gate_dst (N := 3) rfl ?_); refine box_event ?hg (N := 3) ?hd (cs := #[.int .i64 a0_0, .int .i64 a0_1, .int .u32 a0_2, .int .i64 a0_3, .int .u32 a0_4, .int .i64 a0_5, .int .i64 a0_6, .int .i64 a0_7, .int .i64 a0_8, .int .i64 a0_9, .int .i64 a0_10, .bool a0_11]) (t := 42) ?hr ?_; (case hd => rfl); (case hg => rfl); (case hr => first | (go_simp; done) | (go_simp; rfl)); intro gb328 hg w7 hbox hb; have n0_ := Aside0.mk (below_step (by repeat (first | (with_reducible first | exact HB.out | apply below_alloc | apply pw_below_drewN | apply below_drew1) | exact HB.out)) hb); have n1_ := Aside0.mk (hbox); have n2_ := Aside0.mk ((by rw [hg]; exact (below_size (by repeat (first | (with_reducible first | exact HB.out | apply below_alloc | apply pw_below_drewN | apply below_drew1) | exact HB.out))) : w.heap.size ≤ gb328)); have n3_ := Aside0.mk ((by rw [hg]; exact (below_size (by repeat (first | (with_reducible first | exact HB.out | apply below_alloc | apply pw_below_drewN | apply below_drew1) | exact HB.out))) : w.heap.size ≤ gb328)); clear HB; have HB := n0_; have BK328 := n1_; have GW328 := n2_; have GE328 := n3_; clear n0_ n1_ n2_ n3_; clear hb hbox hg) | ((with_reducible refine gate_dst (N := 4) rfl ?_); refine box_event ?hg (N := 4) ?hd (cs := #[.int .i64 a1_0, .int .i64 a1_1, .int .u32 a1_2, .int .i64 a1_3, .int .u32 a1_4, .int .i64 a1_5, .int .i64 a1_6, .int .i64 a1_7, .int .i64 a1_8, .int .i64 a1_9, .int .i64 a1_10, .bool a1_11]) (t := 42) ?hr ?_; (case hd => rfl); (case hg => rfl); (case hr => first | (go_simp; done) | (go_simp; rfl)); intro gb329 hg w8 hbox hb; have n0_ := Aside0.mk (blk_below (g := gb328) (o := .cells #[.int .i64 a0_0, .int .i64 a0_1, .int .u32 a0_2, .int .i64 a0_3, .int .u32 a0_4, .int .i64 a0_5, .int .i64 a0_6, .int .i64 a0_7, .int .i64 a0_8, .int .i64 a0_9, .int .i64 a0_10, .bool a0_11] 42 (0, 0)) (by (with_reducible repeat (first | refine blk_drewN ?_ _ | refine blk_drew ?_ | refine blk_alloc ?_ _)); exact BK328.out) hb); have n1_ := Aside0.mk (below_step (by repeat (first | (with_reducible first | exact HB.out | apply below_alloc | apply pw_below_drewN | apply below_drew1 | refine below_set ?_ GE328.out) | exact HB.out)) hb); have n2_ := Aside0.mk (hbox); have n3_ := Aside0.mk ((by rw [hg]; exact (below_size (by repeat (first | (with_reducible first | exact HB.out | apply below_alloc | apply pw_below_drewN | apply below_drew1 | refine below_set ?_ GE328.out) | exact HB.out))) : w.heap.size ≤ gb329)); have n4_ := Aside0.mk ((by rw [hg]; exact (below_size (by repeat (first | (with_reducible first | exact HB.out | apply below_alloc | apply pw_below_drewN | apply below_drew1 | refine below_set ?_ GE328.out) | exact HB.out))) : w.heap.size ≤ gb329)); have n5_ := Aside0.mk ((by rw [hg]; exact Nat.ne_of_lt (blk_lt (g := gb328) (o := .cells #[.int .i64 a0_0, .int .i64 a0_1, .int .u32 a0_2, .int .i64 a0_3, .int .u32 a0_4, .int .i64 a0_5, .int .i64 a0_6, .int .i64 a0_7, .int .i64 a0_8, .int .i64 a0_9, .int .i64 a0_10, .bool a0_11] 42 (0, 0)) (by (with_reducible repeat (first | refine blk_drewN ?_ _ | refine blk_drew ?_ | refine blk_alloc ?_ _)); exact BK328.out)) : gb328 ≠ gb329)); have n6_ := Aside0.mk ((by rw [hg]; exact Nat.ne_of_gt (blk_lt (g := gb328) (o := .cells #[.int .i64 a0_0, .int .i64 a0_1, .int .u32 a0_2, .int .i64 a0_3, .int .u32 a0_4, .int .i64 a0_5, .int .i64 a0_6, .int .i64 a0_7, .int .i64 a0_8, .int .i64 a0_9, .int .i64 a0_10, .bool a0_11] 42 (0, 0)) (by (with_reducible repeat (first | refine blk_drewN ?_ _ | refine blk_drew ?_ | refine blk_alloc ?_ _)); exact BK328.out)) : gb329 ≠ gb328)); clear BK328; clear HB; have BK328 := n0_; have HB := n1_; have BK329 := n2_; have GW329 := n3_; have GE329 := n4_; have NB328_329 := n5_; have NB329_328 := n6_; clear n0_ n1_ n2_ n3_ n4_ n5_ n6_; clear hb hbox hg) | ((with_reducible refine gate_dst (N := 5) rfl ?_); refine box_event ?hg (N := 5) ?hd (cs := #[.int .i64 a2_0, .int .i64 a2_1, .int .u32 a2_2, .int .u32 a2_3, .int .i64 a2_4, .int .i64 a2_5, .int .i64 a2_6]) (t := 46) ?hr ?_; (case hd => rfl); (case hg => rfl); (case hr => first | (go_simp; done) | (go_simp; rfl)); intro gb330 hg w9 hbox hb; have n0_ := Aside0.mk (blk_below (g := gb328) (o := .cells #[.int .i64 a0_0, .int .i64 a0_1, .int .u32 a0_2, .int .i64 a0_3, .int .u32 a0_4, .int .i64 a0_5, .int .i64 a0_6, .int .i64 a0_7, .int .i64 a0_8, .int .i64 a0_9, .int .i64 a0_10, .bool a0_11] 42 (0, 0)) (by (with_reducible repeat (first | refine blk_drewN ?_ _ | refine blk_drew ?_ | refine blk_alloc ?_ _)); exact BK328.out) hb); have n1_ := Aside0.mk (blk_below (g := gb329) (o := .cells #[.int .i64 a1_0, .int .i64 a1_1, .int .u32 a1_2, .int .i64 a1_3, .int .u32 a1_4, .int .i64 a1_5, .int .i64 a1_6, .int .i64 a1_7, .int .i64 a1_8, .int .i64 a1_9, .int .i64 a1_10, .bool a1_11] 42 (0, 0)) (by (with_reducible repeat (first | refine blk_drewN ?_ _ | refine blk_drew ?_ | refine blk_alloc ?_ _)); exact BK329.out) hb); have n2_ := Aside0.mk (below_step (by repeat (first | (with_reducible first | exact HB.out | apply below_alloc | apply pw_below_drewN | apply below_drew1 | refine below_set ?_ GE328.out | refine below_set ?_ GE329.out) | exact HB.out)) hb); have n3_ := Aside0.mk (hbox); have n4_ := Aside0.mk ((by rw [hg]; exact (below_size (by repeat (first | (with_reducible first | exact HB.out | apply below_alloc | apply pw_below_drewN | apply below_drew1 | refine below_set ?_ GE328.out | refine below_set ?_ GE329.out) | exact HB.out))) : w.heap.size ≤ gb330)); have n5_ := Aside0.mk ((by rw [hg]; exact (below_size (by repeat (first | (with_reducible first | exact HB.out | apply below_alloc | apply pw_below_drewN | apply below_drew1 | refine below_set ?_ GE328.out | refine below_set ?_ GE329.out) | exact HB.out))) : w.heap.size ≤ gb330)); have n6_ := Aside0.mk ((by rw [hg]; exact Nat.ne_of_lt (blk_lt (g := gb328) (o := .cells #[.int .i64 a0_0, .int .i64 a0_1, .int .u32 a0_2, .int .i64 a0_3, .int .u32 a0_4, .int .i64 a0_5, .int .i64 a0_6, .int .i64 a0_7, .int .i64 a0_8, .int .i64 a0_9, .int .i64 a0_10, .bool a0_11] 42 (0, 0)) (by (with_reducible repeat (first | refine blk_drewN ?_ _ | refine blk_drew ?_ | refine blk_alloc ?_ _)); exact BK328.out)) : gb328 ≠ gb330)); have n7_ := Aside0.mk ((by rw [hg]; exact Nat.ne_of_gt (blk_lt (g := gb328) (o := .cells #[.int .i64 a0_0, .int .i64 a0_1, .int .u32 a0_2, .int .i64 a0_3, .int .u32 a0_4, .int .i64 a0_5, .int .i64 a0_6, .int .i64 a0_7, .int .i64 a0_8, .int .i64 a0_9, .int .i64 a0_10, .bool a0_11] 42 (0, 0)) (by (with_reducible repeat (first | refine blk_drewN ?_ _ | refine blk_drew ?_ | refine blk_alloc ?_ _)); exact BK328.out)) : gb330 ≠ gb328)); have n8_ := Aside0.mk ((by rw [hg]; exact Nat.ne_of_lt (blk_lt (g := gb329) (o := .cells #[.int .i64 a1_0, .int .i64 a1_1, .int .u32 a1_2, .int .i64 a1_3, .int .u32 a1_4, .int .i64 a1_5, .int .i64 a1_6, .int .i64 a1_7, .int .i64 a1_8, .int .i64 a1_9, .int .i64 a1_10, .bool a1_11] 42 (0, 0)) (by (with_reducible repeat (first | refine blk_drewN ?_ _ | refine blk_drew ?_ | refine blk_alloc ?_ _)); exact BK329.out)) : gb329 ≠ gb330)); have n9_ := Aside0.mk ((by rw [hg]; exact Nat.ne_of_gt (blk_lt (g := gb329) (o := .cells #[.int .i64 a1_0, .int .i64 a1_1, .int .u32 a1_2, .int .i64 a1_3, .int .u32 a1_4, .int .i64 a1_5, .int .i64 a1_6, .int .i64 a1_7, .int .i64 a1_8, .int .i64 a1_9, .int .i64 a1_10, .bool a1_11] 42 (0, 0)) (by (with_reducible repeat (first | refine blk_drewN ?_ _ | refine blk_drew ?_ | refine blk_alloc ?_ _)); exact BK329.out)) : gb330 ≠ gb329)); clear BK328; clear BK329; clear HB; have BK328 := n0_; have BK329 := n1_; have HB := n2_; have BK330 := n3_; have GW330 := n4_; have GE330 := n5_; have NB328_330 := n6_; have NB330_328 := n7_; have NB329_330 := n8_; have NB330_329 := n9_; clear n0_ n1_ n2_ n3_ n4_ n5_ n6_ n7_ n8_ n9_; clear hb hbox hg))
    have n0_ := Aside0.mk (blk_drew BK328.out)
    have n1_ := Aside0.mk (blk_drew BK329.out)
    have n2_ := Aside0.mk (blk_drew BK330.out)
    have n3_ := Aside0.mk (below_drew1 HB.out)
    clear BK328
    clear BK329
    clear BK330
    clear HB
    have BK328 := n0_
    have BK329 := n1_
    have BK330 := n2_
    have HB := n3_
    clear n0_ n1_ n2_ n3_
    refine start_ (n := 7) (S := fun w' => w'.cell? ⟨gb328, 0, none⟩ = some (.int .i64 a0_0) ∧ w'.cell? ⟨gb328, 1, none⟩ = some (.int .i64 a0_1) ∧ w'.cell? ⟨gb328, 2, none⟩ = some (.int .u32 a0_2) ∧ w'.cell? ⟨gb328, 3, none⟩ = some (.int .i64 a0_3) ∧ w'.cell? ⟨gb328, 4, none⟩ = some (.int .u32 a0_4) ∧ w'.cell? ⟨gb328, 5, none⟩ = some (.int .i64 a0_5) ∧ w'.cell? ⟨gb328, 6, none⟩ = some (.int .i64 a0_6) ∧ w'.cell? ⟨gb328, 7, none⟩ = some (.int .i64 a0_7) ∧ w'.cell? ⟨gb328, 8, none⟩ = some (.int .i64 a0_8) ∧ w'.cell? ⟨gb328, 9, none⟩ = some (.int .i64 a0_9) ∧ w'.cell? ⟨gb328, 10, none⟩ = some (.int .i64 a0_10) ∧ w'.cell? ⟨gb328, 11, none⟩ = some (.bool a0_11) ∧ w'.cell? ⟨gb329, 0, none⟩ = some (.int .i64 a1_0) ∧ w'.cell? ⟨gb329, 1, none⟩ = some (.int .i64 a1_1) ∧ w'.cell? ⟨gb329, 2, none⟩ = some (.int .u32 a1_2) ∧ w'.cell? ⟨gb329, 3, none⟩ = some (.int .i64 a1_3) ∧ w'.cell? ⟨gb329, 4, none⟩ = some (.int .u32 a1_4) ∧ w'.cell? ⟨gb329, 5, none⟩ = some (.int .i64 a1_5) ∧ w'.cell? ⟨gb329, 6, none⟩ = some (.int .i64 a1_6) ∧ w'.cell? ⟨gb329, 7, none⟩ = some (.int .i64 a1_7) ∧ w'.cell? ⟨gb329, 8, none⟩ = some (.int .i64 a1_8) ∧ w'.cell? ⟨gb329, 9, none⟩ = some (.int .i64 a1_9) ∧ w'.cell? ⟨gb329, 10, none⟩ = some (.int .i64 a1_10) ∧ w'.cell? ⟨gb329, 11, none⟩ = some (.bool a1_11)) (ds := []) #[false, false, false, false, false, false, false] (by kernel_rfl) rfl rfl ⟨(blk_cell BK328.out 0).trans rfl, (blk_cell BK328.out 1).trans rfl, (blk_cell BK328.out 2).trans rfl, (blk_cell BK328.out 3).trans rfl, (blk_cell BK328.out 4).trans rfl, (blk_cell BK328.out 5).trans rfl, (blk_cell BK328.out 6).trans rfl, (blk_cell BK328.out 7).trans rfl, (blk_cell BK328.out 8).trans rfl, (blk_cell BK328.out 9).trans rfl, (blk_cell BK328.out 10).trans rfl, (blk_cell BK328.out 11).trans rfl, (blk_cell BK329.out 0).trans rfl, (blk_cell BK329.out 1).trans rfl, (blk_cell BK329.out 2).trans rfl, (blk_cell BK329.out 3).trans rfl, (blk_cell BK329.out 4).trans rfl, (blk_cell BK329.out 5).trans rfl, (blk_cell BK329.out 6).trans rfl, (blk_cell BK329.out 7).trans rfl, (blk_cell BK329.out 8).trans rfl, (blk_cell BK329.out 9).trans rfl, (blk_cell BK329.out 10).trans rfl, (blk_cell BK329.out 11).trans rfl⟩ (fun hHeld => ?_)
    generalize w9.drew = w10 at BK328 BK329 BK330 HB hHeld ⊢
    refine take_ (i := 0) (N := some 7) (v := ?_) (a' := ?_) #[true, false, false, false, false, false, false] rfl rfl (by kernel_rfl) (fun _ _ _ h => h) (Or.inl ⟨by rfl, ?_⟩) hHeld ?_ ?_
    rotate_left
    · rintro w' ⟨s0, s1, s2, s3, s4, s5, s6, s7, s8, s9, s10, s11, s12, s13, s14, s15, s16, s17, s18, s19, s20, s21, s22, s23⟩
      go_simp
      with_reducible rfl
    rotate_left
    · simp only [Act.put, List.setIfInBounds_toArray, List.set_cons_zero, List.set_cons_succ, i64_w, i32_w]
      rfl
    refine take_ (i := 1) (N := some 8) (v := ?_) (a' := ?_) #[true, true, false, false, false, false, false] rfl rfl (by kernel_rfl) (fun _ _ _ h => h) (Or.inl ⟨by rfl, ?_⟩) hHeld ?_ ?_
    rotate_left
    · rintro w' ⟨s0, s1, s2, s3, s4, s5, s6, s7, s8, s9, s10, s11, s12, s13, s14, s15, s16, s17, s18, s19, s20, s21, s22, s23⟩
      go_simp
      with_reducible rfl
    rotate_left
    · simp only [Act.put, List.setIfInBounds_toArray, List.set_cons_zero, List.set_cons_succ, i64_w, i32_w]
      rfl
    refine take_ (i := 3) (N := some 10) (v := ?_) (a' := ?_) #[true, true, false, true, false, false, false] rfl rfl (by kernel_rfl) (fun _ _ _ h => h) (Or.inl ⟨by rfl, ?_⟩) hHeld ?_ ?_
    rotate_left
    · rintro w' ⟨s0, s1, s2, s3, s4, s5, s6, s7, s8, s9, s10, s11, s12, s13, s14, s15, s16, s17, s18, s19, s20, s21, s22, s23⟩
      go_simp
      with_reducible rfl
    rotate_left
    · simp only [Act.put, List.setIfInBounds_toArray, List.set_cons_zero, List.set_cons_succ, i64_w, i32_w]
      rfl
    refine take_ (i := 4) (N := some 11) (v := ?_) (a' := ?_) #[true, true, false, true, true, false, false] rfl rfl (by kernel_rfl) (fun _ _ _ h => h) (Or.inl ⟨by rfl, ?_⟩) hHeld ?_ ?_
    rotate_left
    · rintro w' ⟨s0, s1, s2, s3, s4, s5, s6, s7, s8, s9, s10, s11, s12, s13, s14, s15, s16, s17, s18, s19, s20, s21, s22, s23⟩
      go_simp
      with_reducible rfl
    rotate_left
    · simp only [Act.put, List.setIfInBounds_toArray, List.set_cons_zero, List.set_cons_succ, i64_w, i32_w]
      rfl
    refine one_ (i := 2) (N := some 9) #[true, true, true, true, true, false, false] rfl rfl (by kernel_rfl) (by decide) (fun K hK => ?_)
    refine goes_ Try.func27 (by kernel_rfl) rfl #[.agg #[.int .i64 a0_0, .int .i64 a0_1, .int .u32 a0_2, .int .i64 a0_3, .int .u32 a0_4, .int .i64 a0_5, .int .i64 a0_6, .int .i64 a0_7, .int .i64 a0_8, .int .i64 a0_9, .int .i64 a0_10, .bool a0_11], .agg #[.int .i64 a1_0, .int .i64 a1_1, .int .u32 a1_2, .int .i64 a1_3, .int .u32 a1_4, .int .i64 a1_5, .int .i64 a1_6, .int .i64 a1_7, .int .i64 a1_8, .int .i64 a1_9, .int .i64 a1_10, .bool a1_11]] (by rfl) rfl rfl (by (try simp only [List.map_toArray, List.map_cons, List.map_nil]); first | done | rfl | (simp only [List.length_drop, List.length_take]; rfl)) ?_
    with_reducible refine (rule_Covers.calls k a0_0 a0_1 a0_2 a0_3 a0_4 a0_5 a0_6 a0_7 a0_8 a0_9 a0_10 a0_11 a1_0 a1_1 a1_2 a1_3 a1_4 a1_5 a1_6 a1_7 a1_8 a1_9 a1_10 a1_11 t331 _ A4.out).mono ?_
    rintro e w11 ⟨rfl, hb⟩
    refine ⟨_, rfl, ?_⟩
    have n0_ := Aside0.mk (blk_below (g := gb328) (o := .cells #[.int .i64 a0_0, .int .i64 a0_1, .int .u32 a0_2, .int .i64 a0_3, .int .u32 a0_4, .int .i64 a0_5, .int .i64 a0_6, .int .i64 a0_7, .int .i64 a0_8, .int .i64 a0_9, .int .i64 a0_10, .bool a0_11] 42 (0, 0)) (by (with_reducible repeat (first | refine blk_drewN ?_ _ | refine blk_drew ?_ | refine blk_alloc ?_ _)); exact BK328.out) hb)
    have n1_ := Aside0.mk (blk_below (g := gb329) (o := .cells #[.int .i64 a1_0, .int .i64 a1_1, .int .u32 a1_2, .int .i64 a1_3, .int .u32 a1_4, .int .i64 a1_5, .int .i64 a1_6, .int .i64 a1_7, .int .i64 a1_8, .int .i64 a1_9, .int .i64 a1_10, .bool a1_11] 42 (0, 0)) (by (with_reducible repeat (first | refine blk_drewN ?_ _ | refine blk_drew ?_ | refine blk_alloc ?_ _)); exact BK329.out) hb)
    have n2_ := Aside0.mk (blk_below (g := gb330) (o := .cells #[.int .i64 a2_0, .int .i64 a2_1, .int .u32 a2_2, .int .u32 a2_3, .int .i64 a2_4, .int .i64 a2_5, .int .i64 a2_6] 46 (0, 0)) (by (with_reducible repeat (first | refine blk_drewN ?_ _ | refine blk_drew ?_ | refine blk_alloc ?_ _)); exact BK330.out) hb)
    have n3_ := Aside0.mk (below_step (by repeat (first | (with_reducible first | exact HB.out | apply below_alloc | apply pw_below_drewN | apply below_drew1 | refine below_set ?_ GE328.out | refine below_set ?_ GE329.out | refine below_set ?_ GE330.out) | exact HB.out)) hb)
    clear BK328
    clear BK329
    clear BK330
    clear HB
    have BK328 := n0_
    have BK329 := n1_
    have BK330 := n2_
    have HB := n3_
    clear n0_ n1_ n2_ n3_
    (try clear hb)
    (try clear hb2)
    (try clear hk)
    (try clear hi)
    refine hK.out _ _ ⟨(blk_cell BK328.out 0).trans rfl, (blk_cell BK328.out 1).trans rfl, (blk_cell BK328.out 2).trans rfl, (blk_cell BK328.out 3).trans rfl, (blk_cell BK328.out 4).trans rfl, (blk_cell BK328.out 5).trans rfl, (blk_cell BK328.out 6).trans rfl, (blk_cell BK328.out 7).trans rfl, (blk_cell BK328.out 8).trans rfl, (blk_cell BK328.out 9).trans rfl, (blk_cell BK328.out 10).trans rfl, (blk_cell BK328.out 11).trans rfl, (blk_cell BK329.out 0).trans rfl, (blk_cell BK329.out 1).trans rfl, (blk_cell BK329.out 2).trans rfl, (blk_cell BK329.out 3).trans rfl, (blk_cell BK329.out 4).trans rfl, (blk_cell BK329.out 5).trans rfl, (blk_cell BK329.out 6).trans rfl, (blk_cell BK329.out 7).trans rfl, (blk_cell BK329.out 8).trans rfl, (blk_cell BK329.out 9).trans rfl, (blk_cell BK329.out 10).trans rfl, (blk_cell BK329.out 11).trans rfl⟩ (fun hHeld => ?_)
    clear hK K
    refine norm_ (a' := ?_) ?_ ?_
    rotate_left
    · show Act.put _ (some 9) _ = _
      simp only [Act.put, List.setIfInBounds_toArray, List.set_cons_zero, List.set_cons_succ, i64_w, i32_w]
      rfl
    refine one_ (i := 5) (N := some 12) #[true, true, true, true, true, true, false] rfl rfl (by kernel_rfl) (by decide) (fun K hK => ?_)
    refine goes_ Try.func28 (by kernel_rfl) rfl #[.agg #[.int .i64 a0_0, .int .i64 a0_1, .int .u32 a0_2, .int .i64 a0_3, .int .u32 a0_4, .int .i64 a0_5, .int .i64 a0_6, .int .i64 a0_7, .int .i64 a0_8, .int .i64 a0_9, .int .i64 a0_10, .bool a0_11], .agg #[.int .i64 a1_0, .int .i64 a1_1, .int .u32 a1_2, .int .i64 a1_3, .int .u32 a1_4, .int .i64 a1_5, .int .i64 a1_6, .int .i64 a1_7, .int .i64 a1_8, .int .i64 a1_9, .int .i64 a1_10, .bool a1_11]] (by rfl) rfl rfl (by (try simp only [List.map_toArray, List.map_cons, List.map_nil]); first | done | rfl | (simp only [List.length_drop, List.length_take]; rfl)) ?_
    with_reducible refine (gueriteref15_Covers.calls k a0_0 a0_1 a0_2 a0_3 a0_4 a0_5 a0_6 a0_7 a0_8 a0_9 a0_10 a0_11 a1_0 a1_1 a1_2 a1_3 a1_4 a1_5 a1_6 a1_7 a1_8 a1_9 a1_10 a1_11 t332 _ A5.out).mono ?_
    rintro e w12 ⟨rfl, hb⟩
    refine ⟨_, rfl, ?_⟩
    have n0_ := Aside0.mk (blk_below (g := gb328) (o := .cells #[.int .i64 a0_0, .int .i64 a0_1, .int .u32 a0_2, .int .i64 a0_3, .int .u32 a0_4, .int .i64 a0_5, .int .i64 a0_6, .int .i64 a0_7, .int .i64 a0_8, .int .i64 a0_9, .int .i64 a0_10, .bool a0_11] 42 (0, 0)) (by (with_reducible repeat (first | refine blk_drewN ?_ _ | refine blk_drew ?_ | refine blk_alloc ?_ _)); exact BK328.out) hb)
    have n1_ := Aside0.mk (blk_below (g := gb329) (o := .cells #[.int .i64 a1_0, .int .i64 a1_1, .int .u32 a1_2, .int .i64 a1_3, .int .u32 a1_4, .int .i64 a1_5, .int .i64 a1_6, .int .i64 a1_7, .int .i64 a1_8, .int .i64 a1_9, .int .i64 a1_10, .bool a1_11] 42 (0, 0)) (by (with_reducible repeat (first | refine blk_drewN ?_ _ | refine blk_drew ?_ | refine blk_alloc ?_ _)); exact BK329.out) hb)
    have n2_ := Aside0.mk (blk_below (g := gb330) (o := .cells #[.int .i64 a2_0, .int .i64 a2_1, .int .u32 a2_2, .int .u32 a2_3, .int .i64 a2_4, .int .i64 a2_5, .int .i64 a2_6] 46 (0, 0)) (by (with_reducible repeat (first | refine blk_drewN ?_ _ | refine blk_drew ?_ | refine blk_alloc ?_ _)); exact BK330.out) hb)
    have n3_ := Aside0.mk (below_step (by repeat (first | (with_reducible first | exact HB.out | apply below_alloc | apply pw_below_drewN | apply below_drew1 | refine below_set ?_ GE328.out | refine below_set ?_ GE329.out | refine below_set ?_ GE330.out) | exact HB.out)) hb)
    clear BK328
    clear BK329
    clear BK330
    clear HB
    have BK328 := n0_
    have BK329 := n1_
    have BK330 := n2_
    have HB := n3_
    clear n0_ n1_ n2_ n3_
    (try clear hb)
    (try clear hb2)
    (try clear hk)
    (try clear hi)
    refine hK.out _ _ ⟨(blk_cell BK328.out 0).trans rfl, (blk_cell BK328.out 1).trans rfl, (blk_cell BK328.out 2).trans rfl, (blk_cell BK328.out 3).trans rfl, (blk_cell BK328.out 4).trans rfl, (blk_cell BK328.out 5).trans rfl, (blk_cell BK328.out 6).trans rfl, (blk_cell BK328.out 7).trans rfl, (blk_cell BK328.out 8).trans rfl, (blk_cell BK328.out 9).trans rfl, (blk_cell BK328.out 10).trans rfl, (blk_cell BK328.out 11).trans rfl, (blk_cell BK329.out 0).trans rfl, (blk_cell BK329.out 1).trans rfl, (blk_cell BK329.out 2).trans rfl, (blk_cell BK329.out 3).trans rfl, (blk_cell BK329.out 4).trans rfl, (blk_cell BK329.out 5).trans rfl, (blk_cell BK329.out 6).trans rfl, (blk_cell BK329.out 7).trans rfl, (blk_cell BK329.out 8).trans rfl, (blk_cell BK329.out 9).trans rfl, (blk_cell BK329.out 10).trans rfl, (blk_cell BK329.out 11).trans rfl⟩ (fun hHeld => ?_)
    clear hK K
    refine norm_ (a' := ?_) ?_ ?_
    rotate_left
    · show Act.put _ (some 12) _ = _
      simp only [Act.put, List.setIfInBounds_toArray, List.set_cons_zero, List.set_cons_succ, i64_w, i32_w]
      rfl
    refine pure_ (i := 6) (N := some 13) (v := ?_) (a' := ?_) #[true, true, true, true, true, true, true] rfl rfl (by kernel_rfl) (fun _ _ _ h => h) (Or.inl ⟨by rfl, ?_⟩) ?_ ?_
    rotate_left
    · intro w'
      go_simp
      with_reducible rfl
    rotate_left
    · simp only [Act.put, List.setIfInBounds_toArray, List.set_cons_zero, List.set_cons_succ, i64_w, i32_w]
      rfl
    refine done_ (by kernel_rfl) ?_
    try go_wp2
    go_ret
    exact ⟨by first | rfl | (simp [errW_none, errW_some] <;> rfl) | (simp [*, errW_none, errW_some] <;> rfl), by repeat (first | (with_reducible first | exact HB.out | apply below_alloc | apply pw_below_drewN | apply below_drew1 | refine below_set ?_ GE328.out | refine below_set ?_ GE329.out | refine below_set ?_ GE330.out) | exact HB.out)⟩
  · rw [if_neg c6] at H
    have c6b0 : (t331 != t332) = false := by simpa using c6
    (try (have c6b1 : decide (t331 = t332) = true := by simpa using c6))
    (try (have c6b2 : (t331 == t332) = true := by simpa using c6))
    clear c6
    replace H := Option.bind_eq_some_iff.mp H
    obtain ⟨t333, A130, H⟩ := H
    replace H : (if t333 = true then ((rule_Matches.f k a1_0 a1_1 a1_2 a1_3 a1_4 a1_5 a1_6 a1_7 a1_8 a1_9 a1_10 a1_11 a2_0 a2_1 a2_2 a2_3 a2_4 a2_5 a2_6).bind fun t334 => (if t334 = true then ((rule_Matches.f k a0_0 a0_1 a0_2 a0_3 a0_4 a0_5 a0_6 a0_7 a0_8 a0_9 a0_10 a0_11 a2_0 a2_1 a2_2 a2_3 a2_4 a2_5 a2_6).bind fun t335 => (if t335 = true then ((gueritelaw15_awake.f).bind fun t336 => (some t336)) else (some false))) else ((gueritelaw15_awake.f).bind fun t337 => (some t337)))) else ((gueritelaw15_awake.f).bind fun t338 => (some t338))) = some r := H
    have A13 := Aside0.mk A130
    clear A130
    by_cases c14 : t333 = true
    · subst c14
      have H1 : ((rule_Matches.f k a1_0 a1_1 a1_2 a1_3 a1_4 a1_5 a1_6 a1_7 a1_8 a1_9 a1_10 a1_11 a2_0 a2_1 a2_2 a2_3 a2_4 a2_5 a2_6).bind fun t334 => (if t334 = true then ((rule_Matches.f k a0_0 a0_1 a0_2 a0_3 a0_4 a0_5 a0_6 a0_7 a0_8 a0_9 a0_10 a0_11 a2_0 a2_1 a2_2 a2_3 a2_4 a2_5 a2_6).bind fun t335 => (if t335 = true then ((gueritelaw15_awake.f).bind fun t336 => (some t336)) else (some false))) else ((gueritelaw15_awake.f).bind fun t337 => (some t337)))) = some r := by rw [if_pos rfl] at H; exact H
      clear H
      have H := H1
      clear H1
      replace H := Option.bind_eq_some_iff.mp H
      obtain ⟨t334, A150, H⟩ := H
      replace H : (if t334 = true then ((rule_Matches.f k a0_0 a0_1 a0_2 a0_3 a0_4 a0_5 a0_6 a0_7 a0_8 a0_9 a0_10 a0_11 a2_0 a2_1 a2_2 a2_3 a2_4 a2_5 a2_6).bind fun t335 => (if t335 = true then ((gueritelaw15_awake.f).bind fun t336 => (some t336)) else (some false))) else ((gueritelaw15_awake.f).bind fun t337 => (some t337))) = some r := H
      have A15 := Aside0.mk A150
      clear A150
      by_cases c16 : t334 = true
      · subst c16
        have H1 : ((rule_Matches.f k a0_0 a0_1 a0_2 a0_3 a0_4 a0_5 a0_6 a0_7 a0_8 a0_9 a0_10 a0_11 a2_0 a2_1 a2_2 a2_3 a2_4 a2_5 a2_6).bind fun t335 => (if t335 = true then ((gueritelaw15_awake.f).bind fun t336 => (some t336)) else (some false))) = some r := by rw [if_pos rfl] at H; exact H
        clear H
        have H := H1
        clear H1
        replace H := Option.bind_eq_some_iff.mp H
        obtain ⟨t335, A170, H⟩ := H
        replace H : (if t335 = true then ((gueritelaw15_awake.f).bind fun t336 => (some t336)) else (some false)) = some r := H
        have A17 := Aside0.mk A170
        clear A170
        by_cases c18 : t335 = true
        · subst c18
          have H1 : ((gueritelaw15_awake.f).bind fun t336 => (some t336)) = some r := by rw [if_pos rfl] at H; exact H
          clear H
          have H := H1
          clear H1
          replace H := Option.bind_eq_some_iff.mp H
          obtain ⟨t336, A190, H⟩ := H
          replace H : (some t336) = some r := H
          have A19 := Aside0.mk A190
          clear A190
          obtain rfl := Option.some.inj H
          go_enter Try.func8, Try.ntmps8
          try go_wp2_with (first | ((with_reducible refine gate_dst (N := 3) rfl ?_); refine box_event ?hg (N := 3) ?hd (cs := #[.int .i64 a0_0, .int .i64 a0_1, .int .u32 a0_2, .int .i64 a0_3, .int .u32 a0_4, .int .i64 a0_5, .int .i64 a0_6, .int .i64 a0_7, .int .i64 a0_8, .int .i64 a0_9, .int .i64 a0_10, .bool a0_11]) (t := 42) ?hr ?_; (case hd => rfl); (case hg => rfl); (case hr => first | (go_simp; done) | (go_simp; rfl)); intro gb328 hg w20 hbox hb; have n0_ := Aside0.mk (below_step (by repeat (first | (with_reducible first | exact HB.out | apply below_alloc | apply pw_below_drewN | apply below_drew1) | exact HB.out)) hb); have n1_ := Aside0.mk (hbox); have n2_ := Aside0.mk ((by rw [hg]; exact (below_size (by repeat (first | (with_reducible first | exact HB.out | apply below_alloc | apply pw_below_drewN | apply below_drew1) | exact HB.out))) : w.heap.size ≤ gb328)); have n3_ := Aside0.mk ((by rw [hg]; exact (below_size (by repeat (first | (with_reducible first | exact HB.out | apply below_alloc | apply pw_below_drewN | apply below_drew1) | exact HB.out))) : w.heap.size ≤ gb328)); clear HB; have HB := n0_; have BK328 := n1_; have GW328 := n2_; have GE328 := n3_; clear n0_ n1_ n2_ n3_; clear hb hbox hg) | ((with_reducible refine gate_dst (N := 4) rfl ?_); refine box_event ?hg (N := 4) ?hd (cs := #[.int .i64 a1_0, .int .i64 a1_1, .int .u32 a1_2, .int .i64 a1_3, .int .u32 a1_4, .int .i64 a1_5, .int .i64 a1_6, .int .i64 a1_7, .int .i64 a1_8, .int .i64 a1_9, .int .i64 a1_10, .bool a1_11]) (t := 42) ?hr ?_; (case hd => rfl); (case hg => rfl); (case hr => first | (go_simp; done) | (go_simp; rfl)); intro gb329 hg w21 hbox hb; have n0_ := Aside0.mk (blk_below (g := gb328) (o := .cells #[.int .i64 a0_0, .int .i64 a0_1, .int .u32 a0_2, .int .i64 a0_3, .int .u32 a0_4, .int .i64 a0_5, .int .i64 a0_6, .int .i64 a0_7, .int .i64 a0_8, .int .i64 a0_9, .int .i64 a0_10, .bool a0_11] 42 (0, 0)) (by (with_reducible repeat (first | refine blk_drewN ?_ _ | refine blk_drew ?_ | refine blk_alloc ?_ _)); exact BK328.out) hb); have n1_ := Aside0.mk (below_step (by repeat (first | (with_reducible first | exact HB.out | apply below_alloc | apply pw_below_drewN | apply below_drew1 | refine below_set ?_ GE328.out) | exact HB.out)) hb); have n2_ := Aside0.mk (hbox); have n3_ := Aside0.mk ((by rw [hg]; exact (below_size (by repeat (first | (with_reducible first | exact HB.out | apply below_alloc | apply pw_below_drewN | apply below_drew1 | refine below_set ?_ GE328.out) | exact HB.out))) : w.heap.size ≤ gb329)); have n4_ := Aside0.mk ((by rw [hg]; exact (below_size (by repeat (first | (with_reducible first | exact HB.out | apply below_alloc | apply pw_below_drewN | apply below_drew1 | refine below_set ?_ GE328.out) | exact HB.out))) : w.heap.size ≤ gb329)); have n5_ := Aside0.mk ((by rw [hg]; exact Nat.ne_of_lt (blk_lt (g := gb328) (o := .cells #[.int .i64 a0_0, .int .i64 a0_1, .int .u32 a0_2, .int .i64 a0_3, .int .u32 a0_4, .int .i64 a0_5, .int .i64 a0_6, .int .i64 a0_7, .int .i64 a0_8, .int .i64 a0_9, .int .i64 a0_10, .bool a0_11] 42 (0, 0)) (by (with_reducible repeat (first | refine blk_drewN ?_ _ | refine blk_drew ?_ | refine blk_alloc ?_ _)); exact BK328.out)) : gb328 ≠ gb329)); have n6_ := Aside0.mk ((by rw [hg]; exact Nat.ne_of_gt (blk_lt (g := gb328) (o := .cells #[.int .i64 a0_0, .int .i64 a0_1, .int .u32 a0_2, .int .i64 a0_3, .int .u32 a0_4, .int .i64 a0_5, .int .i64 a0_6, .int .i64 a0_7, .int .i64 a0_8, .int .i64 a0_9, .int .i64 a0_10, .bool a0_11] 42 (0, 0)) (by (with_reducible repeat (first | refine blk_drewN ?_ _ | refine blk_drew ?_ | refine blk_alloc ?_ _)); exact BK328.out)) : gb329 ≠ gb328)); clear BK328; clear HB; have BK328 := n0_; have HB := n1_; have BK329 := n2_; have GW329 := n3_; have GE329 := n4_; have NB328_329 := n5_; have NB329_328 := n6_; clear n0_ n1_ n2_ n3_ n4_ n5_ n6_; clear hb hbox hg) | ((with_reducible refine gate_dst (N := 5) rfl ?_); refine box_event ?hg (N := 5) ?hd (cs := #[.int .i64 a2_0, .int .i64 a2_1, .int .u32 a2_2, .int .u32 a2_3, .int .i64 a2_4, .int .i64 a2_5, .int .i64 a2_6]) (t := 46) ?hr ?_; (case hd => rfl); (case hg => rfl); (case hr => first | (go_simp; done) | (go_simp; rfl)); intro gb330 hg w22 hbox hb; have n0_ := Aside0.mk (blk_below (g := gb328) (o := .cells #[.int .i64 a0_0, .int .i64 a0_1, .int .u32 a0_2, .int .i64 a0_3, .int .u32 a0_4, .int .i64 a0_5, .int .i64 a0_6, .int .i64 a0_7, .int .i64 a0_8, .int .i64 a0_9, .int .i64 a0_10, .bool a0_11] 42 (0, 0)) (by (with_reducible repeat (first | refine blk_drewN ?_ _ | refine blk_drew ?_ | refine blk_alloc ?_ _)); exact BK328.out) hb); have n1_ := Aside0.mk (blk_below (g := gb329) (o := .cells #[.int .i64 a1_0, .int .i64 a1_1, .int .u32 a1_2, .int .i64 a1_3, .int .u32 a1_4, .int .i64 a1_5, .int .i64 a1_6, .int .i64 a1_7, .int .i64 a1_8, .int .i64 a1_9, .int .i64 a1_10, .bool a1_11] 42 (0, 0)) (by (with_reducible repeat (first | refine blk_drewN ?_ _ | refine blk_drew ?_ | refine blk_alloc ?_ _)); exact BK329.out) hb); have n2_ := Aside0.mk (below_step (by repeat (first | (with_reducible first | exact HB.out | apply below_alloc | apply pw_below_drewN | apply below_drew1 | refine below_set ?_ GE328.out | refine below_set ?_ GE329.out) | exact HB.out)) hb); have n3_ := Aside0.mk (hbox); have n4_ := Aside0.mk ((by rw [hg]; exact (below_size (by repeat (first | (with_reducible first | exact HB.out | apply below_alloc | apply pw_below_drewN | apply below_drew1 | refine below_set ?_ GE328.out | refine below_set ?_ GE329.out) | exact HB.out))) : w.heap.size ≤ gb330)); have n5_ := Aside0.mk ((by rw [hg]; exact (below_size (by repeat (first | (with_reducible first | exact HB.out | apply below_alloc | apply pw_below_drewN | apply below_drew1 | refine below_set ?_ GE328.out | refine below_set ?_ GE329.out) | exact HB.out))) : w.heap.size ≤ gb330)); have n6_ := Aside0.mk ((by rw [hg]; exact Nat.ne_of_lt (blk_lt (g := gb328) (o := .cells #[.int .i64 a0_0, .int .i64 a0_1, .int .u32 a0_2, .int .i64 a0_3, .int .u32 a0_4, .int .i64 a0_5, .int .i64 a0_6, .int .i64 a0_7, .int .i64 a0_8, .int .i64 a0_9, .int .i64 a0_10, .bool a0_11] 42 (0, 0)) (by (with_reducible repeat (first | refine blk_drewN ?_ _ | refine blk_drew ?_ | refine blk_alloc ?_ _)); exact BK328.out)) : gb328 ≠ gb330)); have n7_ := Aside0.mk ((by rw [hg]; exact Nat.ne_of_gt (blk_lt (g := gb328) (o := .cells #[.int .i64 a0_0, .int .i64 a0_1, .int .u32 a0_2, .int .i64 a0_3, .int .u32 a0_4, .int .i64 a0_5, .int .i64 a0_6, .int .i64 a0_7, .int .i64 a0_8, .int .i64 a0_9, .int .i64 a0_10, .bool a0_11] 42 (0, 0)) (by (with_reducible repeat (first | refine blk_drewN ?_ _ | refine blk_drew ?_ | refine blk_alloc ?_ _)); exact BK328.out)) : gb330 ≠ gb328)); have n8_ := Aside0.mk ((by rw [hg]; exact Nat.ne_of_lt (blk_lt (g := gb329) (o := .cells #[.int .i64 a1_0, .int .i64 a1_1, .int .u32 a1_2, .int .i64 a1_3, .int .u32 a1_4, .int .i64 a1_5, .int .i64 a1_6, .int .i64 a1_7, .int .i64 a1_8, .int .i64 a1_9, .int .i64 a1_10, .bool a1_11] 42 (0, 0)) (by (with_reducible repeat (first | refine blk_drewN ?_ _ | refine blk_drew ?_ | refine blk_alloc ?_ _)); exact BK329.out)) : gb329 ≠ gb330)); have n9_ := Aside0.mk ((by rw [hg]; exact Nat.ne_of_gt (blk_lt (g := gb329) (o := .cells #[.int .i64 a1_0, .int .i64 a1_1, .int .u32 a1_2, .int .i64 a1_3, .int .u32 a1_4, .int .i64 a1_5, .int .i64 a1_6, .int .i64 a1_7, .int .i64 a1_8, .int .i64 a1_9, .int .i64 a1_10, .bool a1_11] 42 (0, 0)) (by (with_reducible repeat (first | refine blk_drewN ?_ _ | refine blk_drew ?_ | refine blk_alloc ?_ _)); exact BK329.out)) : gb330 ≠ gb329)); clear BK328; clear BK329; clear HB; have BK328 := n0_; have BK329 := n1_; have HB := n2_; have BK330 := n3_; have GW330 := n4_; have GE330 := n5_; have NB328_330 := n6_; have NB330_328 := n7_; have NB329_330 := n8_; have NB330_329 := n9_; clear n0_ n1_ n2_ n3_ n4_ n5_ n6_ n7_ n8_ n9_; clear hb hbox hg))
          have n0_ := Aside0.mk (blk_drew BK328.out)
          have n1_ := Aside0.mk (blk_drew BK329.out)
          have n2_ := Aside0.mk (blk_drew BK330.out)
          have n3_ := Aside0.mk (below_drew1 HB.out)
          clear BK328
          clear BK329
          clear BK330
          clear HB
          have BK328 := n0_
          have BK329 := n1_
          have BK330 := n2_
          have HB := n3_
          clear n0_ n1_ n2_ n3_
          refine start_ (n := 7) (S := fun w' => w'.cell? ⟨gb328, 0, none⟩ = some (.int .i64 a0_0) ∧ w'.cell? ⟨gb328, 1, none⟩ = some (.int .i64 a0_1) ∧ w'.cell? ⟨gb328, 2, none⟩ = some (.int .u32 a0_2) ∧ w'.cell? ⟨gb328, 3, none⟩ = some (.int .i64 a0_3) ∧ w'.cell? ⟨gb328, 4, none⟩ = some (.int .u32 a0_4) ∧ w'.cell? ⟨gb328, 5, none⟩ = some (.int .i64 a0_5) ∧ w'.cell? ⟨gb328, 6, none⟩ = some (.int .i64 a0_6) ∧ w'.cell? ⟨gb328, 7, none⟩ = some (.int .i64 a0_7) ∧ w'.cell? ⟨gb328, 8, none⟩ = some (.int .i64 a0_8) ∧ w'.cell? ⟨gb328, 9, none⟩ = some (.int .i64 a0_9) ∧ w'.cell? ⟨gb328, 10, none⟩ = some (.int .i64 a0_10) ∧ w'.cell? ⟨gb328, 11, none⟩ = some (.bool a0_11) ∧ w'.cell? ⟨gb329, 0, none⟩ = some (.int .i64 a1_0) ∧ w'.cell? ⟨gb329, 1, none⟩ = some (.int .i64 a1_1) ∧ w'.cell? ⟨gb329, 2, none⟩ = some (.int .u32 a1_2) ∧ w'.cell? ⟨gb329, 3, none⟩ = some (.int .i64 a1_3) ∧ w'.cell? ⟨gb329, 4, none⟩ = some (.int .u32 a1_4) ∧ w'.cell? ⟨gb329, 5, none⟩ = some (.int .i64 a1_5) ∧ w'.cell? ⟨gb329, 6, none⟩ = some (.int .i64 a1_6) ∧ w'.cell? ⟨gb329, 7, none⟩ = some (.int .i64 a1_7) ∧ w'.cell? ⟨gb329, 8, none⟩ = some (.int .i64 a1_8) ∧ w'.cell? ⟨gb329, 9, none⟩ = some (.int .i64 a1_9) ∧ w'.cell? ⟨gb329, 10, none⟩ = some (.int .i64 a1_10) ∧ w'.cell? ⟨gb329, 11, none⟩ = some (.bool a1_11)) (ds := []) #[false, false, false, false, false, false, false] (by kernel_rfl) rfl rfl ⟨(blk_cell BK328.out 0).trans rfl, (blk_cell BK328.out 1).trans rfl, (blk_cell BK328.out 2).trans rfl, (blk_cell BK328.out 3).trans rfl, (blk_cell BK328.out 4).trans rfl, (blk_cell BK328.out 5).trans rfl, (blk_cell BK328.out 6).trans rfl, (blk_cell BK328.out 7).trans rfl, (blk_cell BK328.out 8).trans rfl, (blk_cell BK328.out 9).trans rfl, (blk_cell BK328.out 10).trans rfl, (blk_cell BK328.out 11).trans rfl, (blk_cell BK329.out 0).trans rfl, (blk_cell BK329.out 1).trans rfl, (blk_cell BK329.out 2).trans rfl, (blk_cell BK329.out 3).trans rfl, (blk_cell BK329.out 4).trans rfl, (blk_cell BK329.out 5).trans rfl, (blk_cell BK329.out 6).trans rfl, (blk_cell BK329.out 7).trans rfl, (blk_cell BK329.out 8).trans rfl, (blk_cell BK329.out 9).trans rfl, (blk_cell BK329.out 10).trans rfl, (blk_cell BK329.out 11).trans rfl⟩ (fun hHeld => ?_)
          generalize w22.drew = w23 at BK328 BK329 BK330 HB hHeld ⊢
          refine take_ (i := 0) (N := some 7) (v := ?_) (a' := ?_) #[true, false, false, false, false, false, false] rfl rfl (by kernel_rfl) (fun _ _ _ h => h) (Or.inl ⟨by rfl, ?_⟩) hHeld ?_ ?_
          rotate_left
          · rintro w' ⟨s0, s1, s2, s3, s4, s5, s6, s7, s8, s9, s10, s11, s12, s13, s14, s15, s16, s17, s18, s19, s20, s21, s22, s23⟩
            go_simp
            with_reducible rfl
          rotate_left
          · simp only [Act.put, List.setIfInBounds_toArray, List.set_cons_zero, List.set_cons_succ, i64_w, i32_w]
            rfl
          refine take_ (i := 1) (N := some 8) (v := ?_) (a' := ?_) #[true, true, false, false, false, false, false] rfl rfl (by kernel_rfl) (fun _ _ _ h => h) (Or.inl ⟨by rfl, ?_⟩) hHeld ?_ ?_
          rotate_left
          · rintro w' ⟨s0, s1, s2, s3, s4, s5, s6, s7, s8, s9, s10, s11, s12, s13, s14, s15, s16, s17, s18, s19, s20, s21, s22, s23⟩
            go_simp
            with_reducible rfl
          rotate_left
          · simp only [Act.put, List.setIfInBounds_toArray, List.set_cons_zero, List.set_cons_succ, i64_w, i32_w]
            rfl
          refine take_ (i := 3) (N := some 10) (v := ?_) (a' := ?_) #[true, true, false, true, false, false, false] rfl rfl (by kernel_rfl) (fun _ _ _ h => h) (Or.inl ⟨by rfl, ?_⟩) hHeld ?_ ?_
          rotate_left
          · rintro w' ⟨s0, s1, s2, s3, s4, s5, s6, s7, s8, s9, s10, s11, s12, s13, s14, s15, s16, s17, s18, s19, s20, s21, s22, s23⟩
            go_simp
            with_reducible rfl
          rotate_left
          · simp only [Act.put, List.setIfInBounds_toArray, List.set_cons_zero, List.set_cons_succ, i64_w, i32_w]
            rfl
          refine take_ (i := 4) (N := some 11) (v := ?_) (a' := ?_) #[true, true, false, true, true, false, false] rfl rfl (by kernel_rfl) (fun _ _ _ h => h) (Or.inl ⟨by rfl, ?_⟩) hHeld ?_ ?_
          rotate_left
          · rintro w' ⟨s0, s1, s2, s3, s4, s5, s6, s7, s8, s9, s10, s11, s12, s13, s14, s15, s16, s17, s18, s19, s20, s21, s22, s23⟩
            go_simp
            with_reducible rfl
          rotate_left
          · simp only [Act.put, List.setIfInBounds_toArray, List.set_cons_zero, List.set_cons_succ, i64_w, i32_w]
            rfl
          refine one_ (i := 2) (N := some 9) #[true, true, true, true, true, false, false] rfl rfl (by kernel_rfl) (by decide) (fun K hK => ?_)
          refine goes_ Try.func27 (by kernel_rfl) rfl #[.agg #[.int .i64 a0_0, .int .i64 a0_1, .int .u32 a0_2, .int .i64 a0_3, .int .u32 a0_4, .int .i64 a0_5, .int .i64 a0_6, .int .i64 a0_7, .int .i64 a0_8, .int .i64 a0_9, .int .i64 a0_10, .bool a0_11], .agg #[.int .i64 a1_0, .int .i64 a1_1, .int .u32 a1_2, .int .i64 a1_3, .int .u32 a1_4, .int .i64 a1_5, .int .i64 a1_6, .int .i64 a1_7, .int .i64 a1_8, .int .i64 a1_9, .int .i64 a1_10, .bool a1_11]] (by rfl) rfl rfl (by (try simp only [List.map_toArray, List.map_cons, List.map_nil]); first | done | rfl | (simp only [List.length_drop, List.length_take]; rfl)) ?_
          with_reducible refine (rule_Covers.calls k a0_0 a0_1 a0_2 a0_3 a0_4 a0_5 a0_6 a0_7 a0_8 a0_9 a0_10 a0_11 a1_0 a1_1 a1_2 a1_3 a1_4 a1_5 a1_6 a1_7 a1_8 a1_9 a1_10 a1_11 t331 _ A4.out).mono ?_
          rintro e w24 ⟨rfl, hb⟩
          refine ⟨_, rfl, ?_⟩
          have n0_ := Aside0.mk (blk_below (g := gb328) (o := .cells #[.int .i64 a0_0, .int .i64 a0_1, .int .u32 a0_2, .int .i64 a0_3, .int .u32 a0_4, .int .i64 a0_5, .int .i64 a0_6, .int .i64 a0_7, .int .i64 a0_8, .int .i64 a0_9, .int .i64 a0_10, .bool a0_11] 42 (0, 0)) (by (with_reducible repeat (first | refine blk_drewN ?_ _ | refine blk_drew ?_ | refine blk_alloc ?_ _)); exact BK328.out) hb)
          have n1_ := Aside0.mk (blk_below (g := gb329) (o := .cells #[.int .i64 a1_0, .int .i64 a1_1, .int .u32 a1_2, .int .i64 a1_3, .int .u32 a1_4, .int .i64 a1_5, .int .i64 a1_6, .int .i64 a1_7, .int .i64 a1_8, .int .i64 a1_9, .int .i64 a1_10, .bool a1_11] 42 (0, 0)) (by (with_reducible repeat (first | refine blk_drewN ?_ _ | refine blk_drew ?_ | refine blk_alloc ?_ _)); exact BK329.out) hb)
          have n2_ := Aside0.mk (blk_below (g := gb330) (o := .cells #[.int .i64 a2_0, .int .i64 a2_1, .int .u32 a2_2, .int .u32 a2_3, .int .i64 a2_4, .int .i64 a2_5, .int .i64 a2_6] 46 (0, 0)) (by (with_reducible repeat (first | refine blk_drewN ?_ _ | refine blk_drew ?_ | refine blk_alloc ?_ _)); exact BK330.out) hb)
          have n3_ := Aside0.mk (below_step (by repeat (first | (with_reducible first | exact HB.out | apply below_alloc | apply pw_below_drewN | apply below_drew1 | refine below_set ?_ GE328.out | refine below_set ?_ GE329.out | refine below_set ?_ GE330.out) | exact HB.out)) hb)
          clear BK328
          clear BK329
          clear BK330
          clear HB
          have BK328 := n0_
          have BK329 := n1_
          have BK330 := n2_
          have HB := n3_
          clear n0_ n1_ n2_ n3_
          (try clear hb)
          (try clear hb2)
          (try clear hk)
          (try clear hi)
          refine hK.out _ _ ⟨(blk_cell BK328.out 0).trans rfl, (blk_cell BK328.out 1).trans rfl, (blk_cell BK328.out 2).trans rfl, (blk_cell BK328.out 3).trans rfl, (blk_cell BK328.out 4).trans rfl, (blk_cell BK328.out 5).trans rfl, (blk_cell BK328.out 6).trans rfl, (blk_cell BK328.out 7).trans rfl, (blk_cell BK328.out 8).trans rfl, (blk_cell BK328.out 9).trans rfl, (blk_cell BK328.out 10).trans rfl, (blk_cell BK328.out 11).trans rfl, (blk_cell BK329.out 0).trans rfl, (blk_cell BK329.out 1).trans rfl, (blk_cell BK329.out 2).trans rfl, (blk_cell BK329.out 3).trans rfl, (blk_cell BK329.out 4).trans rfl, (blk_cell BK329.out 5).trans rfl, (blk_cell BK329.out 6).trans rfl, (blk_cell BK329.out 7).trans rfl, (blk_cell BK329.out 8).trans rfl, (blk_cell BK329.out 9).trans rfl, (blk_cell BK329.out 10).trans rfl, (blk_cell BK329.out 11).trans rfl⟩ (fun hHeld => ?_)
          clear hK K
          refine norm_ (a' := ?_) ?_ ?_
          rotate_left
          · show Act.put _ (some 9) _ = _
            simp only [Act.put, List.setIfInBounds_toArray, List.set_cons_zero, List.set_cons_succ, i64_w, i32_w]
            rfl
          refine one_ (i := 5) (N := some 12) #[true, true, true, true, true, true, false] rfl rfl (by kernel_rfl) (by decide) (fun K hK => ?_)
          refine goes_ Try.func28 (by kernel_rfl) rfl #[.agg #[.int .i64 a0_0, .int .i64 a0_1, .int .u32 a0_2, .int .i64 a0_3, .int .u32 a0_4, .int .i64 a0_5, .int .i64 a0_6, .int .i64 a0_7, .int .i64 a0_8, .int .i64 a0_9, .int .i64 a0_10, .bool a0_11], .agg #[.int .i64 a1_0, .int .i64 a1_1, .int .u32 a1_2, .int .i64 a1_3, .int .u32 a1_4, .int .i64 a1_5, .int .i64 a1_6, .int .i64 a1_7, .int .i64 a1_8, .int .i64 a1_9, .int .i64 a1_10, .bool a1_11]] (by rfl) rfl rfl (by (try simp only [List.map_toArray, List.map_cons, List.map_nil]); first | done | rfl | (simp only [List.length_drop, List.length_take]; rfl)) ?_
          with_reducible refine (gueriteref15_Covers.calls k a0_0 a0_1 a0_2 a0_3 a0_4 a0_5 a0_6 a0_7 a0_8 a0_9 a0_10 a0_11 a1_0 a1_1 a1_2 a1_3 a1_4 a1_5 a1_6 a1_7 a1_8 a1_9 a1_10 a1_11 t332 _ A5.out).mono ?_
          rintro e w25 ⟨rfl, hb⟩
          refine ⟨_, rfl, ?_⟩
          have n0_ := Aside0.mk (blk_below (g := gb328) (o := .cells #[.int .i64 a0_0, .int .i64 a0_1, .int .u32 a0_2, .int .i64 a0_3, .int .u32 a0_4, .int .i64 a0_5, .int .i64 a0_6, .int .i64 a0_7, .int .i64 a0_8, .int .i64 a0_9, .int .i64 a0_10, .bool a0_11] 42 (0, 0)) (by (with_reducible repeat (first | refine blk_drewN ?_ _ | refine blk_drew ?_ | refine blk_alloc ?_ _)); exact BK328.out) hb)
          have n1_ := Aside0.mk (blk_below (g := gb329) (o := .cells #[.int .i64 a1_0, .int .i64 a1_1, .int .u32 a1_2, .int .i64 a1_3, .int .u32 a1_4, .int .i64 a1_5, .int .i64 a1_6, .int .i64 a1_7, .int .i64 a1_8, .int .i64 a1_9, .int .i64 a1_10, .bool a1_11] 42 (0, 0)) (by (with_reducible repeat (first | refine blk_drewN ?_ _ | refine blk_drew ?_ | refine blk_alloc ?_ _)); exact BK329.out) hb)
          have n2_ := Aside0.mk (blk_below (g := gb330) (o := .cells #[.int .i64 a2_0, .int .i64 a2_1, .int .u32 a2_2, .int .u32 a2_3, .int .i64 a2_4, .int .i64 a2_5, .int .i64 a2_6] 46 (0, 0)) (by (with_reducible repeat (first | refine blk_drewN ?_ _ | refine blk_drew ?_ | refine blk_alloc ?_ _)); exact BK330.out) hb)
          have n3_ := Aside0.mk (below_step (by repeat (first | (with_reducible first | exact HB.out | apply below_alloc | apply pw_below_drewN | apply below_drew1 | refine below_set ?_ GE328.out | refine below_set ?_ GE329.out | refine below_set ?_ GE330.out) | exact HB.out)) hb)
          clear BK328
          clear BK329
          clear BK330
          clear HB
          have BK328 := n0_
          have BK329 := n1_
          have BK330 := n2_
          have HB := n3_
          clear n0_ n1_ n2_ n3_
          (try clear hb)
          (try clear hb2)
          (try clear hk)
          (try clear hi)
          refine hK.out _ _ ⟨(blk_cell BK328.out 0).trans rfl, (blk_cell BK328.out 1).trans rfl, (blk_cell BK328.out 2).trans rfl, (blk_cell BK328.out 3).trans rfl, (blk_cell BK328.out 4).trans rfl, (blk_cell BK328.out 5).trans rfl, (blk_cell BK328.out 6).trans rfl, (blk_cell BK328.out 7).trans rfl, (blk_cell BK328.out 8).trans rfl, (blk_cell BK328.out 9).trans rfl, (blk_cell BK328.out 10).trans rfl, (blk_cell BK328.out 11).trans rfl, (blk_cell BK329.out 0).trans rfl, (blk_cell BK329.out 1).trans rfl, (blk_cell BK329.out 2).trans rfl, (blk_cell BK329.out 3).trans rfl, (blk_cell BK329.out 4).trans rfl, (blk_cell BK329.out 5).trans rfl, (blk_cell BK329.out 6).trans rfl, (blk_cell BK329.out 7).trans rfl, (blk_cell BK329.out 8).trans rfl, (blk_cell BK329.out 9).trans rfl, (blk_cell BK329.out 10).trans rfl, (blk_cell BK329.out 11).trans rfl⟩ (fun hHeld => ?_)
          clear hK K
          refine norm_ (a' := ?_) ?_ ?_
          rotate_left
          · show Act.put _ (some 12) _ = _
            simp only [Act.put, List.setIfInBounds_toArray, List.set_cons_zero, List.set_cons_succ, i64_w, i32_w]
            rfl
          refine pure_ (i := 6) (N := some 13) (v := ?_) (a' := ?_) #[true, true, true, true, true, true, true] rfl rfl (by kernel_rfl) (fun _ _ _ h => h) (Or.inl ⟨by rfl, ?_⟩) ?_ ?_
          rotate_left
          · intro w'
            go_simp
            with_reducible rfl
          rotate_left
          · simp only [Act.put, List.setIfInBounds_toArray, List.set_cons_zero, List.set_cons_succ, i64_w, i32_w]
            rfl
          refine done_ (by kernel_rfl) ?_
          have hnb26 := NB328_329.out
          have hnc26 := NB329_328.out
          have hnb27 := NB328_330.out
          have hnc27 := NB330_328.out
          have hcz28_0 : w25.cell? ⟨gb328, 0, none⟩ = some (.int .i64 a0_0) := (blk_cell BK328.out 0).trans rfl
          have hcz28_1 : w25.cell? ⟨gb328, 1, none⟩ = some (.int .i64 a0_1) := (blk_cell BK328.out 1).trans rfl
          have hcz28_2 : w25.cell? ⟨gb328, 2, none⟩ = some (.int .u32 a0_2) := (blk_cell BK328.out 2).trans rfl
          have hcz28_3 : w25.cell? ⟨gb328, 3, none⟩ = some (.int .i64 a0_3) := (blk_cell BK328.out 3).trans rfl
          have hcz28_4 : w25.cell? ⟨gb328, 4, none⟩ = some (.int .u32 a0_4) := (blk_cell BK328.out 4).trans rfl
          have hcz28_5 : w25.cell? ⟨gb328, 5, none⟩ = some (.int .i64 a0_5) := (blk_cell BK328.out 5).trans rfl
          have hcz28_6 : w25.cell? ⟨gb328, 6, none⟩ = some (.int .i64 a0_6) := (blk_cell BK328.out 6).trans rfl
          have hcz28_7 : w25.cell? ⟨gb328, 7, none⟩ = some (.int .i64 a0_7) := (blk_cell BK328.out 7).trans rfl
          have hcz28_8 : w25.cell? ⟨gb328, 8, none⟩ = some (.int .i64 a0_8) := (blk_cell BK328.out 8).trans rfl
          have hcz28_9 : w25.cell? ⟨gb328, 9, none⟩ = some (.int .i64 a0_9) := (blk_cell BK328.out 9).trans rfl
          have hcz28_10 : w25.cell? ⟨gb328, 10, none⟩ = some (.int .i64 a0_10) := (blk_cell BK328.out 10).trans rfl
          have hcz28_11 : w25.cell? ⟨gb328, 11, none⟩ = some (.bool a0_11) := (blk_cell BK328.out 11).trans rfl
          have hfz28_0 := blk_frozen BK328.out 0
          have hfz28_1 := blk_frozen BK328.out 1
          have hfz28_2 := blk_frozen BK328.out 2
          have hfz28_3 := blk_frozen BK328.out 3
          have hfz28_4 := blk_frozen BK328.out 4
          have hfz28_5 := blk_frozen BK328.out 5
          have hfz28_6 := blk_frozen BK328.out 6
          have hfz28_7 := blk_frozen BK328.out 7
          have hfz28_8 := blk_frozen BK328.out 8
          have hfz28_9 := blk_frozen BK328.out 9
          have hfz28_10 := blk_frozen BK328.out 10
          have hfz28_11 := blk_frozen BK328.out 11
          have hnb29 := NB329_330.out
          have hnc29 := NB330_329.out
          have hcz30_0 : w25.cell? ⟨gb329, 0, none⟩ = some (.int .i64 a1_0) := (blk_cell BK329.out 0).trans rfl
          have hcz30_1 : w25.cell? ⟨gb329, 1, none⟩ = some (.int .i64 a1_1) := (blk_cell BK329.out 1).trans rfl
          have hcz30_2 : w25.cell? ⟨gb329, 2, none⟩ = some (.int .u32 a1_2) := (blk_cell BK329.out 2).trans rfl
          have hcz30_3 : w25.cell? ⟨gb329, 3, none⟩ = some (.int .i64 a1_3) := (blk_cell BK329.out 3).trans rfl
          have hcz30_4 : w25.cell? ⟨gb329, 4, none⟩ = some (.int .u32 a1_4) := (blk_cell BK329.out 4).trans rfl
          have hcz30_5 : w25.cell? ⟨gb329, 5, none⟩ = some (.int .i64 a1_5) := (blk_cell BK329.out 5).trans rfl
          have hcz30_6 : w25.cell? ⟨gb329, 6, none⟩ = some (.int .i64 a1_6) := (blk_cell BK329.out 6).trans rfl
          have hcz30_7 : w25.cell? ⟨gb329, 7, none⟩ = some (.int .i64 a1_7) := (blk_cell BK329.out 7).trans rfl
          have hcz30_8 : w25.cell? ⟨gb329, 8, none⟩ = some (.int .i64 a1_8) := (blk_cell BK329.out 8).trans rfl
          have hcz30_9 : w25.cell? ⟨gb329, 9, none⟩ = some (.int .i64 a1_9) := (blk_cell BK329.out 9).trans rfl
          have hcz30_10 : w25.cell? ⟨gb329, 10, none⟩ = some (.int .i64 a1_10) := (blk_cell BK329.out 10).trans rfl
          have hcz30_11 : w25.cell? ⟨gb329, 11, none⟩ = some (.bool a1_11) := (blk_cell BK329.out 11).trans rfl
          have hfz30_0 := blk_frozen BK329.out 0
          have hfz30_1 := blk_frozen BK329.out 1
          have hfz30_2 := blk_frozen BK329.out 2
          have hfz30_3 := blk_frozen BK329.out 3
          have hfz30_4 := blk_frozen BK329.out 4
          have hfz30_5 := blk_frozen BK329.out 5
          have hfz30_6 := blk_frozen BK329.out 6
          have hfz30_7 := blk_frozen BK329.out 7
          have hfz30_8 := blk_frozen BK329.out 8
          have hfz30_9 := blk_frozen BK329.out 9
          have hfz30_10 := blk_frozen BK329.out 10
          have hfz30_11 := blk_frozen BK329.out 11
          try go_wp2_with (first | ((with_reducible refine gate_callee (f := 27) rfl ?_); refine goesL_ (some 16) rfl rfl Try.func27 (by kernel_rfl) rfl #[.agg #[.int .i64 a0_0, .int .i64 a0_1, .int .u32 a0_2, .int .i64 a0_3, .int .u32 a0_4, .int .i64 a0_5, .int .i64 a0_6, .int .i64 a0_7, .int .i64 a0_8, .int .i64 a0_9, .int .i64 a0_10, .bool a0_11], .agg #[.int .i64 a1_0, .int .i64 a1_1, .int .u32 a1_2, .int .i64 a1_3, .int .u32 a1_4, .int .i64 a1_5, .int .i64 a1_6, .int .i64 a1_7, .int .i64 a1_8, .int .i64 a1_9, .int .i64 a1_10, .bool a1_11]] rfl (by (try simp only [List.map_toArray, List.map_cons, List.map_nil]); first | done | rfl | (simp only [List.length_drop, List.length_take]; rfl)) ?_; (with_reducible refine (rule_Covers.calls k a0_0 a0_1 a0_2 a0_3 a0_4 a0_5 a0_6 a0_7 a0_8 a0_9 a0_10 a0_11 a1_0 a1_1 a1_2 a1_3 a1_4 a1_5 a1_6 a1_7 a1_8 a1_9 a1_10 a1_11 true _ A13.out).mono ?_); rintro e w31 ⟨rfl, hb⟩; refine ⟨_, rfl, ?_⟩; have n0_ := Aside0.mk (blk_below (g := gb328) (o := .cells #[.int .i64 a0_0, .int .i64 a0_1, .int .u32 a0_2, .int .i64 a0_3, .int .u32 a0_4, .int .i64 a0_5, .int .i64 a0_6, .int .i64 a0_7, .int .i64 a0_8, .int .i64 a0_9, .int .i64 a0_10, .bool a0_11] 42 (0, 0)) (by (with_reducible repeat (first | refine blk_drewN ?_ _ | refine blk_drew ?_ | refine blk_alloc ?_ _)); exact BK328.out) hb); have n1_ := Aside0.mk (blk_below (g := gb329) (o := .cells #[.int .i64 a1_0, .int .i64 a1_1, .int .u32 a1_2, .int .i64 a1_3, .int .u32 a1_4, .int .i64 a1_5, .int .i64 a1_6, .int .i64 a1_7, .int .i64 a1_8, .int .i64 a1_9, .int .i64 a1_10, .bool a1_11] 42 (0, 0)) (by (with_reducible repeat (first | refine blk_drewN ?_ _ | refine blk_drew ?_ | refine blk_alloc ?_ _)); exact BK329.out) hb); have n2_ := Aside0.mk (blk_below (g := gb330) (o := .cells #[.int .i64 a2_0, .int .i64 a2_1, .int .u32 a2_2, .int .u32 a2_3, .int .i64 a2_4, .int .i64 a2_5, .int .i64 a2_6] 46 (0, 0)) (by (with_reducible repeat (first | refine blk_drewN ?_ _ | refine blk_drew ?_ | refine blk_alloc ?_ _)); exact BK330.out) hb); have n3_ := Aside0.mk (below_step (by repeat (first | (with_reducible first | exact HB.out | apply below_alloc | apply pw_below_drewN | apply below_drew1 | refine below_set ?_ GE328.out | refine below_set ?_ GE329.out | refine below_set ?_ GE330.out) | exact HB.out)) hb); clear BK328; clear BK329; clear BK330; clear HB; have BK328 := n0_; have BK329 := n1_; have BK330 := n2_; have HB := n3_; clear n0_ n1_ n2_ n3_; (try clear hb); (try clear hb2); (try clear hk); (try clear hi); have hcz32_0 : w31.cell? ⟨gb329, 0, none⟩ = some (.int .i64 a1_0) := (blk_cell BK329.out 0).trans rfl; have hcz32_1 : w31.cell? ⟨gb329, 1, none⟩ = some (.int .i64 a1_1) := (blk_cell BK329.out 1).trans rfl; have hcz32_2 : w31.cell? ⟨gb329, 2, none⟩ = some (.int .u32 a1_2) := (blk_cell BK329.out 2).trans rfl; have hcz32_3 : w31.cell? ⟨gb329, 3, none⟩ = some (.int .i64 a1_3) := (blk_cell BK329.out 3).trans rfl; have hcz32_4 : w31.cell? ⟨gb329, 4, none⟩ = some (.int .u32 a1_4) := (blk_cell BK329.out 4).trans rfl; have hcz32_5 : w31.cell? ⟨gb329, 5, none⟩ = some (.int .i64 a1_5) := (blk_cell BK329.out 5).trans rfl; have hcz32_6 : w31.cell? ⟨gb329, 6, none⟩ = some (.int .i64 a1_6) := (blk_cell BK329.out 6).trans rfl; have hcz32_7 : w31.cell? ⟨gb329, 7, none⟩ = some (.int .i64 a1_7) := (blk_cell BK329.out 7).trans rfl; have hcz32_8 : w31.cell? ⟨gb329, 8, none⟩ = some (.int .i64 a1_8) := (blk_cell BK329.out 8).trans rfl; have hcz32_9 : w31.cell? ⟨gb329, 9, none⟩ = some (.int .i64 a1_9) := (blk_cell BK329.out 9).trans rfl; have hcz32_10 : w31.cell? ⟨gb329, 10, none⟩ = some (.int .i64 a1_10) := (blk_cell BK329.out 10).trans rfl; have hcz32_11 : w31.cell? ⟨gb329, 11, none⟩ = some (.bool a1_11) := (blk_cell BK329.out 11).trans rfl; have hfz32_0 := blk_frozen BK329.out 0; have hfz32_1 := blk_frozen BK329.out 1; have hfz32_2 := blk_frozen BK329.out 2; have hfz32_3 := blk_frozen BK329.out 3; have hfz32_4 := blk_frozen BK329.out 4; have hfz32_5 := blk_frozen BK329.out 5; have hfz32_6 := blk_frozen BK329.out 6; have hfz32_7 := blk_frozen BK329.out 7; have hfz32_8 := blk_frozen BK329.out 8; have hfz32_9 := blk_frozen BK329.out 9; have hfz32_10 := blk_frozen BK329.out 10; have hfz32_11 := blk_frozen BK329.out 11; have hcz33_0 : w31.cell? ⟨gb330, 0, none⟩ = some (.int .i64 a2_0) := (blk_cell BK330.out 0).trans rfl; have hcz33_1 : w31.cell? ⟨gb330, 1, none⟩ = some (.int .i64 a2_1) := (blk_cell BK330.out 1).trans rfl; have hcz33_2 : w31.cell? ⟨gb330, 2, none⟩ = some (.int .u32 a2_2) := (blk_cell BK330.out 2).trans rfl; have hcz33_3 : w31.cell? ⟨gb330, 3, none⟩ = some (.int .u32 a2_3) := (blk_cell BK330.out 3).trans rfl; have hcz33_4 : w31.cell? ⟨gb330, 4, none⟩ = some (.int .i64 a2_4) := (blk_cell BK330.out 4).trans rfl; have hcz33_5 : w31.cell? ⟨gb330, 5, none⟩ = some (.int .i64 a2_5) := (blk_cell BK330.out 5).trans rfl; have hcz33_6 : w31.cell? ⟨gb330, 6, none⟩ = some (.int .i64 a2_6) := (blk_cell BK330.out 6).trans rfl; have hfz33_0 := blk_frozen BK330.out 0; have hfz33_1 := blk_frozen BK330.out 1; have hfz33_2 := blk_frozen BK330.out 2; have hfz33_3 := blk_frozen BK330.out 3; have hfz33_4 := blk_frozen BK330.out 4; have hfz33_5 := blk_frozen BK330.out 5; have hfz33_6 := blk_frozen BK330.out 6) | (go_at_call 21; (with_reducible refine (rule_Matches.calls k a1_0 a1_1 a1_2 a1_3 a1_4 a1_5 a1_6 a1_7 a1_8 a1_9 a1_10 a1_11 a2_0 a2_1 a2_2 a2_3 a2_4 a2_5 a2_6 true _ A15.out).mono ?_); rintro e w34 ⟨rfl, hb⟩; have n0_ := Aside0.mk (blk_below (g := gb328) (o := .cells #[.int .i64 a0_0, .int .i64 a0_1, .int .u32 a0_2, .int .i64 a0_3, .int .u32 a0_4, .int .i64 a0_5, .int .i64 a0_6, .int .i64 a0_7, .int .i64 a0_8, .int .i64 a0_9, .int .i64 a0_10, .bool a0_11] 42 (0, 0)) (by (with_reducible repeat (first | refine blk_drewN ?_ _ | refine blk_drew ?_ | refine blk_alloc ?_ _)); exact BK328.out) hb); have n1_ := Aside0.mk (blk_below (g := gb329) (o := .cells #[.int .i64 a1_0, .int .i64 a1_1, .int .u32 a1_2, .int .i64 a1_3, .int .u32 a1_4, .int .i64 a1_5, .int .i64 a1_6, .int .i64 a1_7, .int .i64 a1_8, .int .i64 a1_9, .int .i64 a1_10, .bool a1_11] 42 (0, 0)) (by (with_reducible repeat (first | refine blk_drewN ?_ _ | refine blk_drew ?_ | refine blk_alloc ?_ _)); exact BK329.out) hb); have n2_ := Aside0.mk (blk_below (g := gb330) (o := .cells #[.int .i64 a2_0, .int .i64 a2_1, .int .u32 a2_2, .int .u32 a2_3, .int .i64 a2_4, .int .i64 a2_5, .int .i64 a2_6] 46 (0, 0)) (by (with_reducible repeat (first | refine blk_drewN ?_ _ | refine blk_drew ?_ | refine blk_alloc ?_ _)); exact BK330.out) hb); have n3_ := Aside0.mk (below_step (by repeat (first | (with_reducible first | exact HB.out | apply below_alloc | apply pw_below_drewN | apply below_drew1 | refine below_set ?_ GE328.out | refine below_set ?_ GE329.out | refine below_set ?_ GE330.out) | exact HB.out)) hb); clear BK328; clear BK329; clear BK330; clear HB; have BK328 := n0_; have BK329 := n1_; have BK330 := n2_; have HB := n3_; clear n0_ n1_ n2_ n3_; (try clear hb); (try clear hb2); (try clear hk); (try clear hi); have hcz35_0 : w34.cell? ⟨gb328, 0, none⟩ = some (.int .i64 a0_0) := (blk_cell BK328.out 0).trans rfl; have hcz35_1 : w34.cell? ⟨gb328, 1, none⟩ = some (.int .i64 a0_1) := (blk_cell BK328.out 1).trans rfl; have hcz35_2 : w34.cell? ⟨gb328, 2, none⟩ = some (.int .u32 a0_2) := (blk_cell BK328.out 2).trans rfl; have hcz35_3 : w34.cell? ⟨gb328, 3, none⟩ = some (.int .i64 a0_3) := (blk_cell BK328.out 3).trans rfl; have hcz35_4 : w34.cell? ⟨gb328, 4, none⟩ = some (.int .u32 a0_4) := (blk_cell BK328.out 4).trans rfl; have hcz35_5 : w34.cell? ⟨gb328, 5, none⟩ = some (.int .i64 a0_5) := (blk_cell BK328.out 5).trans rfl; have hcz35_6 : w34.cell? ⟨gb328, 6, none⟩ = some (.int .i64 a0_6) := (blk_cell BK328.out 6).trans rfl; have hcz35_7 : w34.cell? ⟨gb328, 7, none⟩ = some (.int .i64 a0_7) := (blk_cell BK328.out 7).trans rfl; have hcz35_8 : w34.cell? ⟨gb328, 8, none⟩ = some (.int .i64 a0_8) := (blk_cell BK328.out 8).trans rfl; have hcz35_9 : w34.cell? ⟨gb328, 9, none⟩ = some (.int .i64 a0_9) := (blk_cell BK328.out 9).trans rfl; have hcz35_10 : w34.cell? ⟨gb328, 10, none⟩ = some (.int .i64 a0_10) := (blk_cell BK328.out 10).trans rfl; have hcz35_11 : w34.cell? ⟨gb328, 11, none⟩ = some (.bool a0_11) := (blk_cell BK328.out 11).trans rfl; have hfz35_0 := blk_frozen BK328.out 0; have hfz35_1 := blk_frozen BK328.out 1; have hfz35_2 := blk_frozen BK328.out 2; have hfz35_3 := blk_frozen BK328.out 3; have hfz35_4 := blk_frozen BK328.out 4; have hfz35_5 := blk_frozen BK328.out 5; have hfz35_6 := blk_frozen BK328.out 6; have hfz35_7 := blk_frozen BK328.out 7; have hfz35_8 := blk_frozen BK328.out 8; have hfz35_9 := blk_frozen BK328.out 9; have hfz35_10 := blk_frozen BK328.out 10; have hfz35_11 := blk_frozen BK328.out 11; have hcz36_0 : w34.cell? ⟨gb330, 0, none⟩ = some (.int .i64 a2_0) := (blk_cell BK330.out 0).trans rfl; have hcz36_1 : w34.cell? ⟨gb330, 1, none⟩ = some (.int .i64 a2_1) := (blk_cell BK330.out 1).trans rfl; have hcz36_2 : w34.cell? ⟨gb330, 2, none⟩ = some (.int .u32 a2_2) := (blk_cell BK330.out 2).trans rfl; have hcz36_3 : w34.cell? ⟨gb330, 3, none⟩ = some (.int .u32 a2_3) := (blk_cell BK330.out 3).trans rfl; have hcz36_4 : w34.cell? ⟨gb330, 4, none⟩ = some (.int .i64 a2_4) := (blk_cell BK330.out 4).trans rfl; have hcz36_5 : w34.cell? ⟨gb330, 5, none⟩ = some (.int .i64 a2_5) := (blk_cell BK330.out 5).trans rfl; have hcz36_6 : w34.cell? ⟨gb330, 6, none⟩ = some (.int .i64 a2_6) := (blk_cell BK330.out 6).trans rfl; have hfz36_0 := blk_frozen BK330.out 0; have hfz36_1 := blk_frozen BK330.out 1; have hfz36_2 := blk_frozen BK330.out 2; have hfz36_3 := blk_frozen BK330.out 3; have hfz36_4 := blk_frozen BK330.out 4; have hfz36_5 := blk_frozen BK330.out 5; have hfz36_6 := blk_frozen BK330.out 6) | (go_at_call 21; (with_reducible refine (rule_Matches.calls k a0_0 a0_1 a0_2 a0_3 a0_4 a0_5 a0_6 a0_7 a0_8 a0_9 a0_10 a0_11 a2_0 a2_1 a2_2 a2_3 a2_4 a2_5 a2_6 true _ A17.out).mono ?_); rintro e w37 ⟨rfl, hb⟩; have n0_ := Aside0.mk (blk_below (g := gb328) (o := .cells #[.int .i64 a0_0, .int .i64 a0_1, .int .u32 a0_2, .int .i64 a0_3, .int .u32 a0_4, .int .i64 a0_5, .int .i64 a0_6, .int .i64 a0_7, .int .i64 a0_8, .int .i64 a0_9, .int .i64 a0_10, .bool a0_11] 42 (0, 0)) (by (with_reducible repeat (first | refine blk_drewN ?_ _ | refine blk_drew ?_ | refine blk_alloc ?_ _)); exact BK328.out) hb); have n1_ := Aside0.mk (blk_below (g := gb329) (o := .cells #[.int .i64 a1_0, .int .i64 a1_1, .int .u32 a1_2, .int .i64 a1_3, .int .u32 a1_4, .int .i64 a1_5, .int .i64 a1_6, .int .i64 a1_7, .int .i64 a1_8, .int .i64 a1_9, .int .i64 a1_10, .bool a1_11] 42 (0, 0)) (by (with_reducible repeat (first | refine blk_drewN ?_ _ | refine blk_drew ?_ | refine blk_alloc ?_ _)); exact BK329.out) hb); have n2_ := Aside0.mk (blk_below (g := gb330) (o := .cells #[.int .i64 a2_0, .int .i64 a2_1, .int .u32 a2_2, .int .u32 a2_3, .int .i64 a2_4, .int .i64 a2_5, .int .i64 a2_6] 46 (0, 0)) (by (with_reducible repeat (first | refine blk_drewN ?_ _ | refine blk_drew ?_ | refine blk_alloc ?_ _)); exact BK330.out) hb); have n3_ := Aside0.mk (below_step (by repeat (first | (with_reducible first | exact HB.out | apply below_alloc | apply pw_below_drewN | apply below_drew1 | refine below_set ?_ GE328.out | refine below_set ?_ GE329.out | refine below_set ?_ GE330.out) | exact HB.out)) hb); clear BK328; clear BK329; clear BK330; clear HB; have BK328 := n0_; have BK329 := n1_; have BK330 := n2_; have HB := n3_; clear n0_ n1_ n2_ n3_; (try clear hb); (try clear hb2); (try clear hk); (try clear hi)) | (go_at_call 19; (with_reducible refine (gueritelaw15_awake.calls  t336 _ A19.out).mono ?_); rintro e w38 ⟨rfl, hb⟩; have n0_ := Aside0.mk (blk_below (g := gb328) (o := .cells #[.int .i64 a0_0, .int .i64 a0_1, .int .u32 a0_2, .int .i64 a0_3, .int .u32 a0_4, .int .i64 a0_5, .int .i64 a0_6, .int .i64 a0_7, .int .i64 a0_8, .int .i64 a0_9, .int .i64 a0_10, .bool a0_11] 42 (0, 0)) (by (with_reducible repeat (first | refine blk_drewN ?_ _ | refine blk_drew ?_ | refine blk_alloc ?_ _)); exact BK328.out) hb); have n1_ := Aside0.mk (blk_below (g := gb329) (o := .cells #[.int .i64 a1_0, .int .i64 a1_1, .int .u32 a1_2, .int .i64 a1_3, .int .u32 a1_4, .int .i64 a1_5, .int .i64 a1_6, .int .i64 a1_7, .int .i64 a1_8, .int .i64 a1_9, .int .i64 a1_10, .bool a1_11] 42 (0, 0)) (by (with_reducible repeat (first | refine blk_drewN ?_ _ | refine blk_drew ?_ | refine blk_alloc ?_ _)); exact BK329.out) hb); have n2_ := Aside0.mk (blk_below (g := gb330) (o := .cells #[.int .i64 a2_0, .int .i64 a2_1, .int .u32 a2_2, .int .u32 a2_3, .int .i64 a2_4, .int .i64 a2_5, .int .i64 a2_6] 46 (0, 0)) (by (with_reducible repeat (first | refine blk_drewN ?_ _ | refine blk_drew ?_ | refine blk_alloc ?_ _)); exact BK330.out) hb); have n3_ := Aside0.mk (below_step (by repeat (first | (with_reducible first | exact HB.out | apply below_alloc | apply pw_below_drewN | apply below_drew1 | refine below_set ?_ GE328.out | refine below_set ?_ GE329.out | refine below_set ?_ GE330.out) | exact HB.out)) hb); clear BK328; clear BK329; clear BK330; clear HB; have BK328 := n0_; have BK329 := n1_; have BK330 := n2_; have HB := n3_; clear n0_ n1_ n2_ n3_; (try clear hb); (try clear hb2); (try clear hk); (try clear hi)))
          go_ret
          exact ⟨by first | rfl | (simp [errW_none, errW_some] <;> rfl) | (simp [*, errW_none, errW_some] <;> rfl), by repeat (first | (with_reducible first | exact HB.out | apply below_alloc | apply pw_below_drewN | apply below_drew1 | refine below_set ?_ GE328.out | refine below_set ?_ GE329.out | refine below_set ?_ GE330.out) | exact HB.out)⟩
        · replace c18 := Bool.eq_false_iff.mpr c18
          subst c18
          have H1 : (some false) = some r := by rw [if_neg (show ¬ (false = true) by decide)] at H; exact H
          clear H
          have H := H1
          clear H1
          obtain rfl := Option.some.inj H
          go_enter Try.func8, Try.ntmps8
          try go_wp2_with (first | ((with_reducible refine gate_dst (N := 3) rfl ?_); refine box_event ?hg (N := 3) ?hd (cs := #[.int .i64 a0_0, .int .i64 a0_1, .int .u32 a0_2, .int .i64 a0_3, .int .u32 a0_4, .int .i64 a0_5, .int .i64 a0_6, .int .i64 a0_7, .int .i64 a0_8, .int .i64 a0_9, .int .i64 a0_10, .bool a0_11]) (t := 42) ?hr ?_; (case hd => rfl); (case hg => rfl); (case hr => first | (go_simp; done) | (go_simp; rfl)); intro gb328 hg w39 hbox hb; have n0_ := Aside0.mk (below_step (by repeat (first | (with_reducible first | exact HB.out | apply below_alloc | apply pw_below_drewN | apply below_drew1) | exact HB.out)) hb); have n1_ := Aside0.mk (hbox); have n2_ := Aside0.mk ((by rw [hg]; exact (below_size (by repeat (first | (with_reducible first | exact HB.out | apply below_alloc | apply pw_below_drewN | apply below_drew1) | exact HB.out))) : w.heap.size ≤ gb328)); have n3_ := Aside0.mk ((by rw [hg]; exact (below_size (by repeat (first | (with_reducible first | exact HB.out | apply below_alloc | apply pw_below_drewN | apply below_drew1) | exact HB.out))) : w.heap.size ≤ gb328)); clear HB; have HB := n0_; have BK328 := n1_; have GW328 := n2_; have GE328 := n3_; clear n0_ n1_ n2_ n3_; clear hb hbox hg) | ((with_reducible refine gate_dst (N := 4) rfl ?_); refine box_event ?hg (N := 4) ?hd (cs := #[.int .i64 a1_0, .int .i64 a1_1, .int .u32 a1_2, .int .i64 a1_3, .int .u32 a1_4, .int .i64 a1_5, .int .i64 a1_6, .int .i64 a1_7, .int .i64 a1_8, .int .i64 a1_9, .int .i64 a1_10, .bool a1_11]) (t := 42) ?hr ?_; (case hd => rfl); (case hg => rfl); (case hr => first | (go_simp; done) | (go_simp; rfl)); intro gb329 hg w40 hbox hb; have n0_ := Aside0.mk (blk_below (g := gb328) (o := .cells #[.int .i64 a0_0, .int .i64 a0_1, .int .u32 a0_2, .int .i64 a0_3, .int .u32 a0_4, .int .i64 a0_5, .int .i64 a0_6, .int .i64 a0_7, .int .i64 a0_8, .int .i64 a0_9, .int .i64 a0_10, .bool a0_11] 42 (0, 0)) (by (with_reducible repeat (first | refine blk_drewN ?_ _ | refine blk_drew ?_ | refine blk_alloc ?_ _)); exact BK328.out) hb); have n1_ := Aside0.mk (below_step (by repeat (first | (with_reducible first | exact HB.out | apply below_alloc | apply pw_below_drewN | apply below_drew1 | refine below_set ?_ GE328.out) | exact HB.out)) hb); have n2_ := Aside0.mk (hbox); have n3_ := Aside0.mk ((by rw [hg]; exact (below_size (by repeat (first | (with_reducible first | exact HB.out | apply below_alloc | apply pw_below_drewN | apply below_drew1 | refine below_set ?_ GE328.out) | exact HB.out))) : w.heap.size ≤ gb329)); have n4_ := Aside0.mk ((by rw [hg]; exact (below_size (by repeat (first | (with_reducible first | exact HB.out | apply below_alloc | apply pw_below_drewN | apply below_drew1 | refine below_set ?_ GE328.out) | exact HB.out))) : w.heap.size ≤ gb329)); have n5_ := Aside0.mk ((by rw [hg]; exact Nat.ne_of_lt (blk_lt (g := gb328) (o := .cells #[.int .i64 a0_0, .int .i64 a0_1, .int .u32 a0_2, .int .i64 a0_3, .int .u32 a0_4, .int .i64 a0_5, .int .i64 a0_6, .int .i64 a0_7, .int .i64 a0_8, .int .i64 a0_9, .int .i64 a0_10, .bool a0_11] 42 (0, 0)) (by (with_reducible repeat (first | refine blk_drewN ?_ _ | refine blk_drew ?_ | refine blk_alloc ?_ _)); exact BK328.out)) : gb328 ≠ gb329)); have n6_ := Aside0.mk ((by rw [hg]; exact Nat.ne_of_gt (blk_lt (g := gb328) (o := .cells #[.int .i64 a0_0, .int .i64 a0_1, .int .u32 a0_2, .int .i64 a0_3, .int .u32 a0_4, .int .i64 a0_5, .int .i64 a0_6, .int .i64 a0_7, .int .i64 a0_8, .int .i64 a0_9, .int .i64 a0_10, .bool a0_11] 42 (0, 0)) (by (with_reducible repeat (first | refine blk_drewN ?_ _ | refine blk_drew ?_ | refine blk_alloc ?_ _)); exact BK328.out)) : gb329 ≠ gb328)); clear BK328; clear HB; have BK328 := n0_; have HB := n1_; have BK329 := n2_; have GW329 := n3_; have GE329 := n4_; have NB328_329 := n5_; have NB329_328 := n6_; clear n0_ n1_ n2_ n3_ n4_ n5_ n6_; clear hb hbox hg) | ((with_reducible refine gate_dst (N := 5) rfl ?_); refine box_event ?hg (N := 5) ?hd (cs := #[.int .i64 a2_0, .int .i64 a2_1, .int .u32 a2_2, .int .u32 a2_3, .int .i64 a2_4, .int .i64 a2_5, .int .i64 a2_6]) (t := 46) ?hr ?_; (case hd => rfl); (case hg => rfl); (case hr => first | (go_simp; done) | (go_simp; rfl)); intro gb330 hg w41 hbox hb; have n0_ := Aside0.mk (blk_below (g := gb328) (o := .cells #[.int .i64 a0_0, .int .i64 a0_1, .int .u32 a0_2, .int .i64 a0_3, .int .u32 a0_4, .int .i64 a0_5, .int .i64 a0_6, .int .i64 a0_7, .int .i64 a0_8, .int .i64 a0_9, .int .i64 a0_10, .bool a0_11] 42 (0, 0)) (by (with_reducible repeat (first | refine blk_drewN ?_ _ | refine blk_drew ?_ | refine blk_alloc ?_ _)); exact BK328.out) hb); have n1_ := Aside0.mk (blk_below (g := gb329) (o := .cells #[.int .i64 a1_0, .int .i64 a1_1, .int .u32 a1_2, .int .i64 a1_3, .int .u32 a1_4, .int .i64 a1_5, .int .i64 a1_6, .int .i64 a1_7, .int .i64 a1_8, .int .i64 a1_9, .int .i64 a1_10, .bool a1_11] 42 (0, 0)) (by (with_reducible repeat (first | refine blk_drewN ?_ _ | refine blk_drew ?_ | refine blk_alloc ?_ _)); exact BK329.out) hb); have n2_ := Aside0.mk (below_step (by repeat (first | (with_reducible first | exact HB.out | apply below_alloc | apply pw_below_drewN | apply below_drew1 | refine below_set ?_ GE328.out | refine below_set ?_ GE329.out) | exact HB.out)) hb); have n3_ := Aside0.mk (hbox); have n4_ := Aside0.mk ((by rw [hg]; exact (below_size (by repeat (first | (with_reducible first | exact HB.out | apply below_alloc | apply pw_below_drewN | apply below_drew1 | refine below_set ?_ GE328.out | refine below_set ?_ GE329.out) | exact HB.out))) : w.heap.size ≤ gb330)); have n5_ := Aside0.mk ((by rw [hg]; exact (below_size (by repeat (first | (with_reducible first | exact HB.out | apply below_alloc | apply pw_below_drewN | apply below_drew1 | refine below_set ?_ GE328.out | refine below_set ?_ GE329.out) | exact HB.out))) : w.heap.size ≤ gb330)); have n6_ := Aside0.mk ((by rw [hg]; exact Nat.ne_of_lt (blk_lt (g := gb328) (o := .cells #[.int .i64 a0_0, .int .i64 a0_1, .int .u32 a0_2, .int .i64 a0_3, .int .u32 a0_4, .int .i64 a0_5, .int .i64 a0_6, .int .i64 a0_7, .int .i64 a0_8, .int .i64 a0_9, .int .i64 a0_10, .bool a0_11] 42 (0, 0)) (by (with_reducible repeat (first | refine blk_drewN ?_ _ | refine blk_drew ?_ | refine blk_alloc ?_ _)); exact BK328.out)) : gb328 ≠ gb330)); have n7_ := Aside0.mk ((by rw [hg]; exact Nat.ne_of_gt (blk_lt (g := gb328) (o := .cells #[.int .i64 a0_0, .int .i64 a0_1, .int .u32 a0_2, .int .i64 a0_3, .int .u32 a0_4, .int .i64 a0_5, .int .i64 a0_6, .int .i64 a0_7, .int .i64 a0_8, .int .i64 a0_9, .int .i64 a0_10, .bool a0_11] 42 (0, 0)) (by (with_reducible repeat (first | refine blk_drewN ?_ _ | refine blk_drew ?_ | refine blk_alloc ?_ _)); exact BK328.out)) : gb330 ≠ gb328)); have n8_ := Aside0.mk ((by rw [hg]; exact Nat.ne_of_lt (blk_lt (g := gb329) (o := .cells #[.int .i64 a1_0, .int .i64 a1_1, .int .u32 a1_2, .int .i64 a1_3, .int .u32 a1_4, .int .i64 a1_5, .int .i64 a1_6, .int .i64 a1_7, .int .i64 a1_8, .int .i64 a1_9, .int .i64 a1_10, .bool a1_11] 42 (0, 0)) (by (with_reducible repeat (first | refine blk_drewN ?_ _ | refine blk_drew ?_ | refine blk_alloc ?_ _)); exact BK329.out)) : gb329 ≠ gb330)); have n9_ := Aside0.mk ((by rw [hg]; exact Nat.ne_of_gt (blk_lt (g := gb329) (o := .cells #[.int .i64 a1_0, .int .i64 a1_1, .int .u32 a1_2, .int .i64 a1_3, .int .u32 a1_4, .int .i64 a1_5, .int .i64 a1_6, .int .i64 a1_7, .int .i64 a1_8, .int .i64 a1_9, .int .i64 a1_10, .bool a1_11] 42 (0, 0)) (by (with_reducible repeat (first | refine blk_drewN ?_ _ | refine blk_drew ?_ | refine blk_alloc ?_ _)); exact BK329.out)) : gb330 ≠ gb329)); clear BK328; clear BK329; clear HB; have BK328 := n0_; have BK329 := n1_; have HB := n2_; have BK330 := n3_; have GW330 := n4_; have GE330 := n5_; have NB328_330 := n6_; have NB330_328 := n7_; have NB329_330 := n8_; have NB330_329 := n9_; clear n0_ n1_ n2_ n3_ n4_ n5_ n6_ n7_ n8_ n9_; clear hb hbox hg))
          have n0_ := Aside0.mk (blk_drew BK328.out)
          have n1_ := Aside0.mk (blk_drew BK329.out)
          have n2_ := Aside0.mk (blk_drew BK330.out)
          have n3_ := Aside0.mk (below_drew1 HB.out)
          clear BK328
          clear BK329
          clear BK330
          clear HB
          have BK328 := n0_
          have BK329 := n1_
          have BK330 := n2_
          have HB := n3_
          clear n0_ n1_ n2_ n3_
          refine start_ (n := 7) (S := fun w' => w'.cell? ⟨gb328, 0, none⟩ = some (.int .i64 a0_0) ∧ w'.cell? ⟨gb328, 1, none⟩ = some (.int .i64 a0_1) ∧ w'.cell? ⟨gb328, 2, none⟩ = some (.int .u32 a0_2) ∧ w'.cell? ⟨gb328, 3, none⟩ = some (.int .i64 a0_3) ∧ w'.cell? ⟨gb328, 4, none⟩ = some (.int .u32 a0_4) ∧ w'.cell? ⟨gb328, 5, none⟩ = some (.int .i64 a0_5) ∧ w'.cell? ⟨gb328, 6, none⟩ = some (.int .i64 a0_6) ∧ w'.cell? ⟨gb328, 7, none⟩ = some (.int .i64 a0_7) ∧ w'.cell? ⟨gb328, 8, none⟩ = some (.int .i64 a0_8) ∧ w'.cell? ⟨gb328, 9, none⟩ = some (.int .i64 a0_9) ∧ w'.cell? ⟨gb328, 10, none⟩ = some (.int .i64 a0_10) ∧ w'.cell? ⟨gb328, 11, none⟩ = some (.bool a0_11) ∧ w'.cell? ⟨gb329, 0, none⟩ = some (.int .i64 a1_0) ∧ w'.cell? ⟨gb329, 1, none⟩ = some (.int .i64 a1_1) ∧ w'.cell? ⟨gb329, 2, none⟩ = some (.int .u32 a1_2) ∧ w'.cell? ⟨gb329, 3, none⟩ = some (.int .i64 a1_3) ∧ w'.cell? ⟨gb329, 4, none⟩ = some (.int .u32 a1_4) ∧ w'.cell? ⟨gb329, 5, none⟩ = some (.int .i64 a1_5) ∧ w'.cell? ⟨gb329, 6, none⟩ = some (.int .i64 a1_6) ∧ w'.cell? ⟨gb329, 7, none⟩ = some (.int .i64 a1_7) ∧ w'.cell? ⟨gb329, 8, none⟩ = some (.int .i64 a1_8) ∧ w'.cell? ⟨gb329, 9, none⟩ = some (.int .i64 a1_9) ∧ w'.cell? ⟨gb329, 10, none⟩ = some (.int .i64 a1_10) ∧ w'.cell? ⟨gb329, 11, none⟩ = some (.bool a1_11)) (ds := []) #[false, false, false, false, false, false, false] (by kernel_rfl) rfl rfl ⟨(blk_cell BK328.out 0).trans rfl, (blk_cell BK328.out 1).trans rfl, (blk_cell BK328.out 2).trans rfl, (blk_cell BK328.out 3).trans rfl, (blk_cell BK328.out 4).trans rfl, (blk_cell BK328.out 5).trans rfl, (blk_cell BK328.out 6).trans rfl, (blk_cell BK328.out 7).trans rfl, (blk_cell BK328.out 8).trans rfl, (blk_cell BK328.out 9).trans rfl, (blk_cell BK328.out 10).trans rfl, (blk_cell BK328.out 11).trans rfl, (blk_cell BK329.out 0).trans rfl, (blk_cell BK329.out 1).trans rfl, (blk_cell BK329.out 2).trans rfl, (blk_cell BK329.out 3).trans rfl, (blk_cell BK329.out 4).trans rfl, (blk_cell BK329.out 5).trans rfl, (blk_cell BK329.out 6).trans rfl, (blk_cell BK329.out 7).trans rfl, (blk_cell BK329.out 8).trans rfl, (blk_cell BK329.out 9).trans rfl, (blk_cell BK329.out 10).trans rfl, (blk_cell BK329.out 11).trans rfl⟩ (fun hHeld => ?_)
          generalize w41.drew = w42 at BK328 BK329 BK330 HB hHeld ⊢
          refine take_ (i := 0) (N := some 7) (v := ?_) (a' := ?_) #[true, false, false, false, false, false, false] rfl rfl (by kernel_rfl) (fun _ _ _ h => h) (Or.inl ⟨by rfl, ?_⟩) hHeld ?_ ?_
          rotate_left
          · rintro w' ⟨s0, s1, s2, s3, s4, s5, s6, s7, s8, s9, s10, s11, s12, s13, s14, s15, s16, s17, s18, s19, s20, s21, s22, s23⟩
            go_simp
            with_reducible rfl
          rotate_left
          · simp only [Act.put, List.setIfInBounds_toArray, List.set_cons_zero, List.set_cons_succ, i64_w, i32_w]
            rfl
          refine take_ (i := 1) (N := some 8) (v := ?_) (a' := ?_) #[true, true, false, false, false, false, false] rfl rfl (by kernel_rfl) (fun _ _ _ h => h) (Or.inl ⟨by rfl, ?_⟩) hHeld ?_ ?_
          rotate_left
          · rintro w' ⟨s0, s1, s2, s3, s4, s5, s6, s7, s8, s9, s10, s11, s12, s13, s14, s15, s16, s17, s18, s19, s20, s21, s22, s23⟩
            go_simp
            with_reducible rfl
          rotate_left
          · simp only [Act.put, List.setIfInBounds_toArray, List.set_cons_zero, List.set_cons_succ, i64_w, i32_w]
            rfl
          refine take_ (i := 3) (N := some 10) (v := ?_) (a' := ?_) #[true, true, false, true, false, false, false] rfl rfl (by kernel_rfl) (fun _ _ _ h => h) (Or.inl ⟨by rfl, ?_⟩) hHeld ?_ ?_
          rotate_left
          · rintro w' ⟨s0, s1, s2, s3, s4, s5, s6, s7, s8, s9, s10, s11, s12, s13, s14, s15, s16, s17, s18, s19, s20, s21, s22, s23⟩
            go_simp
            with_reducible rfl
          rotate_left
          · simp only [Act.put, List.setIfInBounds_toArray, List.set_cons_zero, List.set_cons_succ, i64_w, i32_w]
            rfl
          refine take_ (i := 4) (N := some 11) (v := ?_) (a' := ?_) #[true, true, false, true, true, false, false] rfl rfl (by kernel_rfl) (fun _ _ _ h => h) (Or.inl ⟨by rfl, ?_⟩) hHeld ?_ ?_
          rotate_left
          · rintro w' ⟨s0, s1, s2, s3, s4, s5, s6, s7, s8, s9, s10, s11, s12, s13, s14, s15, s16, s17, s18, s19, s20, s21, s22, s23⟩
            go_simp
            with_reducible rfl
          rotate_left
          · simp only [Act.put, List.setIfInBounds_toArray, List.set_cons_zero, List.set_cons_succ, i64_w, i32_w]
            rfl
          refine one_ (i := 2) (N := some 9) #[true, true, true, true, true, false, false] rfl rfl (by kernel_rfl) (by decide) (fun K hK => ?_)
          refine goes_ Try.func27 (by kernel_rfl) rfl #[.agg #[.int .i64 a0_0, .int .i64 a0_1, .int .u32 a0_2, .int .i64 a0_3, .int .u32 a0_4, .int .i64 a0_5, .int .i64 a0_6, .int .i64 a0_7, .int .i64 a0_8, .int .i64 a0_9, .int .i64 a0_10, .bool a0_11], .agg #[.int .i64 a1_0, .int .i64 a1_1, .int .u32 a1_2, .int .i64 a1_3, .int .u32 a1_4, .int .i64 a1_5, .int .i64 a1_6, .int .i64 a1_7, .int .i64 a1_8, .int .i64 a1_9, .int .i64 a1_10, .bool a1_11]] (by rfl) rfl rfl (by (try simp only [List.map_toArray, List.map_cons, List.map_nil]); first | done | rfl | (simp only [List.length_drop, List.length_take]; rfl)) ?_
          with_reducible refine (rule_Covers.calls k a0_0 a0_1 a0_2 a0_3 a0_4 a0_5 a0_6 a0_7 a0_8 a0_9 a0_10 a0_11 a1_0 a1_1 a1_2 a1_3 a1_4 a1_5 a1_6 a1_7 a1_8 a1_9 a1_10 a1_11 t331 _ A4.out).mono ?_
          rintro e w43 ⟨rfl, hb⟩
          refine ⟨_, rfl, ?_⟩
          have n0_ := Aside0.mk (blk_below (g := gb328) (o := .cells #[.int .i64 a0_0, .int .i64 a0_1, .int .u32 a0_2, .int .i64 a0_3, .int .u32 a0_4, .int .i64 a0_5, .int .i64 a0_6, .int .i64 a0_7, .int .i64 a0_8, .int .i64 a0_9, .int .i64 a0_10, .bool a0_11] 42 (0, 0)) (by (with_reducible repeat (first | refine blk_drewN ?_ _ | refine blk_drew ?_ | refine blk_alloc ?_ _)); exact BK328.out) hb)
          have n1_ := Aside0.mk (blk_below (g := gb329) (o := .cells #[.int .i64 a1_0, .int .i64 a1_1, .int .u32 a1_2, .int .i64 a1_3, .int .u32 a1_4, .int .i64 a1_5, .int .i64 a1_6, .int .i64 a1_7, .int .i64 a1_8, .int .i64 a1_9, .int .i64 a1_10, .bool a1_11] 42 (0, 0)) (by (with_reducible repeat (first | refine blk_drewN ?_ _ | refine blk_drew ?_ | refine blk_alloc ?_ _)); exact BK329.out) hb)
          have n2_ := Aside0.mk (blk_below (g := gb330) (o := .cells #[.int .i64 a2_0, .int .i64 a2_1, .int .u32 a2_2, .int .u32 a2_3, .int .i64 a2_4, .int .i64 a2_5, .int .i64 a2_6] 46 (0, 0)) (by (with_reducible repeat (first | refine blk_drewN ?_ _ | refine blk_drew ?_ | refine blk_alloc ?_ _)); exact BK330.out) hb)
          have n3_ := Aside0.mk (below_step (by repeat (first | (with_reducible first | exact HB.out | apply below_alloc | apply pw_below_drewN | apply below_drew1 | refine below_set ?_ GE328.out | refine below_set ?_ GE329.out | refine below_set ?_ GE330.out) | exact HB.out)) hb)
          clear BK328
          clear BK329
          clear BK330
          clear HB
          have BK328 := n0_
          have BK329 := n1_
          have BK330 := n2_
          have HB := n3_
          clear n0_ n1_ n2_ n3_
          (try clear hb)
          (try clear hb2)
          (try clear hk)
          (try clear hi)
          refine hK.out _ _ ⟨(blk_cell BK328.out 0).trans rfl, (blk_cell BK328.out 1).trans rfl, (blk_cell BK328.out 2).trans rfl, (blk_cell BK328.out 3).trans rfl, (blk_cell BK328.out 4).trans rfl, (blk_cell BK328.out 5).trans rfl, (blk_cell BK328.out 6).trans rfl, (blk_cell BK328.out 7).trans rfl, (blk_cell BK328.out 8).trans rfl, (blk_cell BK328.out 9).trans rfl, (blk_cell BK328.out 10).trans rfl, (blk_cell BK328.out 11).trans rfl, (blk_cell BK329.out 0).trans rfl, (blk_cell BK329.out 1).trans rfl, (blk_cell BK329.out 2).trans rfl, (blk_cell BK329.out 3).trans rfl, (blk_cell BK329.out 4).trans rfl, (blk_cell BK329.out 5).trans rfl, (blk_cell BK329.out 6).trans rfl, (blk_cell BK329.out 7).trans rfl, (blk_cell BK329.out 8).trans rfl, (blk_cell BK329.out 9).trans rfl, (blk_cell BK329.out 10).trans rfl, (blk_cell BK329.out 11).trans rfl⟩ (fun hHeld => ?_)
          clear hK K
          refine norm_ (a' := ?_) ?_ ?_
          rotate_left
          · show Act.put _ (some 9) _ = _
            simp only [Act.put, List.setIfInBounds_toArray, List.set_cons_zero, List.set_cons_succ, i64_w, i32_w]
            rfl
          refine one_ (i := 5) (N := some 12) #[true, true, true, true, true, true, false] rfl rfl (by kernel_rfl) (by decide) (fun K hK => ?_)
          refine goes_ Try.func28 (by kernel_rfl) rfl #[.agg #[.int .i64 a0_0, .int .i64 a0_1, .int .u32 a0_2, .int .i64 a0_3, .int .u32 a0_4, .int .i64 a0_5, .int .i64 a0_6, .int .i64 a0_7, .int .i64 a0_8, .int .i64 a0_9, .int .i64 a0_10, .bool a0_11], .agg #[.int .i64 a1_0, .int .i64 a1_1, .int .u32 a1_2, .int .i64 a1_3, .int .u32 a1_4, .int .i64 a1_5, .int .i64 a1_6, .int .i64 a1_7, .int .i64 a1_8, .int .i64 a1_9, .int .i64 a1_10, .bool a1_11]] (by rfl) rfl rfl (by (try simp only [List.map_toArray, List.map_cons, List.map_nil]); first | done | rfl | (simp only [List.length_drop, List.length_take]; rfl)) ?_
          with_reducible refine (gueriteref15_Covers.calls k a0_0 a0_1 a0_2 a0_3 a0_4 a0_5 a0_6 a0_7 a0_8 a0_9 a0_10 a0_11 a1_0 a1_1 a1_2 a1_3 a1_4 a1_5 a1_6 a1_7 a1_8 a1_9 a1_10 a1_11 t332 _ A5.out).mono ?_
          rintro e w44 ⟨rfl, hb⟩
          refine ⟨_, rfl, ?_⟩
          have n0_ := Aside0.mk (blk_below (g := gb328) (o := .cells #[.int .i64 a0_0, .int .i64 a0_1, .int .u32 a0_2, .int .i64 a0_3, .int .u32 a0_4, .int .i64 a0_5, .int .i64 a0_6, .int .i64 a0_7, .int .i64 a0_8, .int .i64 a0_9, .int .i64 a0_10, .bool a0_11] 42 (0, 0)) (by (with_reducible repeat (first | refine blk_drewN ?_ _ | refine blk_drew ?_ | refine blk_alloc ?_ _)); exact BK328.out) hb)
          have n1_ := Aside0.mk (blk_below (g := gb329) (o := .cells #[.int .i64 a1_0, .int .i64 a1_1, .int .u32 a1_2, .int .i64 a1_3, .int .u32 a1_4, .int .i64 a1_5, .int .i64 a1_6, .int .i64 a1_7, .int .i64 a1_8, .int .i64 a1_9, .int .i64 a1_10, .bool a1_11] 42 (0, 0)) (by (with_reducible repeat (first | refine blk_drewN ?_ _ | refine blk_drew ?_ | refine blk_alloc ?_ _)); exact BK329.out) hb)
          have n2_ := Aside0.mk (blk_below (g := gb330) (o := .cells #[.int .i64 a2_0, .int .i64 a2_1, .int .u32 a2_2, .int .u32 a2_3, .int .i64 a2_4, .int .i64 a2_5, .int .i64 a2_6] 46 (0, 0)) (by (with_reducible repeat (first | refine blk_drewN ?_ _ | refine blk_drew ?_ | refine blk_alloc ?_ _)); exact BK330.out) hb)
          have n3_ := Aside0.mk (below_step (by repeat (first | (with_reducible first | exact HB.out | apply below_alloc | apply pw_below_drewN | apply below_drew1 | refine below_set ?_ GE328.out | refine below_set ?_ GE329.out | refine below_set ?_ GE330.out) | exact HB.out)) hb)
          clear BK328
          clear BK329
          clear BK330
          clear HB
          have BK328 := n0_
          have BK329 := n1_
          have BK330 := n2_
          have HB := n3_
          clear n0_ n1_ n2_ n3_
          (try clear hb)
          (try clear hb2)
          (try clear hk)
          (try clear hi)
          refine hK.out _ _ ⟨(blk_cell BK328.out 0).trans rfl, (blk_cell BK328.out 1).trans rfl, (blk_cell BK328.out 2).trans rfl, (blk_cell BK328.out 3).trans rfl, (blk_cell BK328.out 4).trans rfl, (blk_cell BK328.out 5).trans rfl, (blk_cell BK328.out 6).trans rfl, (blk_cell BK328.out 7).trans rfl, (blk_cell BK328.out 8).trans rfl, (blk_cell BK328.out 9).trans rfl, (blk_cell BK328.out 10).trans rfl, (blk_cell BK328.out 11).trans rfl, (blk_cell BK329.out 0).trans rfl, (blk_cell BK329.out 1).trans rfl, (blk_cell BK329.out 2).trans rfl, (blk_cell BK329.out 3).trans rfl, (blk_cell BK329.out 4).trans rfl, (blk_cell BK329.out 5).trans rfl, (blk_cell BK329.out 6).trans rfl, (blk_cell BK329.out 7).trans rfl, (blk_cell BK329.out 8).trans rfl, (blk_cell BK329.out 9).trans rfl, (blk_cell BK329.out 10).trans rfl, (blk_cell BK329.out 11).trans rfl⟩ (fun hHeld => ?_)
          clear hK K
          refine norm_ (a' := ?_) ?_ ?_
          rotate_left
          · show Act.put _ (some 12) _ = _
            simp only [Act.put, List.setIfInBounds_toArray, List.set_cons_zero, List.set_cons_succ, i64_w, i32_w]
            rfl
          refine pure_ (i := 6) (N := some 13) (v := ?_) (a' := ?_) #[true, true, true, true, true, true, true] rfl rfl (by kernel_rfl) (fun _ _ _ h => h) (Or.inl ⟨by rfl, ?_⟩) ?_ ?_
          rotate_left
          · intro w'
            go_simp
            with_reducible rfl
          rotate_left
          · simp only [Act.put, List.setIfInBounds_toArray, List.set_cons_zero, List.set_cons_succ, i64_w, i32_w]
            rfl
          refine done_ (by kernel_rfl) ?_
          have hnb45 := NB328_329.out
          have hnc45 := NB329_328.out
          have hnb46 := NB328_330.out
          have hnc46 := NB330_328.out
          have hcz47_0 : w44.cell? ⟨gb328, 0, none⟩ = some (.int .i64 a0_0) := (blk_cell BK328.out 0).trans rfl
          have hcz47_1 : w44.cell? ⟨gb328, 1, none⟩ = some (.int .i64 a0_1) := (blk_cell BK328.out 1).trans rfl
          have hcz47_2 : w44.cell? ⟨gb328, 2, none⟩ = some (.int .u32 a0_2) := (blk_cell BK328.out 2).trans rfl
          have hcz47_3 : w44.cell? ⟨gb328, 3, none⟩ = some (.int .i64 a0_3) := (blk_cell BK328.out 3).trans rfl
          have hcz47_4 : w44.cell? ⟨gb328, 4, none⟩ = some (.int .u32 a0_4) := (blk_cell BK328.out 4).trans rfl
          have hcz47_5 : w44.cell? ⟨gb328, 5, none⟩ = some (.int .i64 a0_5) := (blk_cell BK328.out 5).trans rfl
          have hcz47_6 : w44.cell? ⟨gb328, 6, none⟩ = some (.int .i64 a0_6) := (blk_cell BK328.out 6).trans rfl
          have hcz47_7 : w44.cell? ⟨gb328, 7, none⟩ = some (.int .i64 a0_7) := (blk_cell BK328.out 7).trans rfl
          have hcz47_8 : w44.cell? ⟨gb328, 8, none⟩ = some (.int .i64 a0_8) := (blk_cell BK328.out 8).trans rfl
          have hcz47_9 : w44.cell? ⟨gb328, 9, none⟩ = some (.int .i64 a0_9) := (blk_cell BK328.out 9).trans rfl
          have hcz47_10 : w44.cell? ⟨gb328, 10, none⟩ = some (.int .i64 a0_10) := (blk_cell BK328.out 10).trans rfl
          have hcz47_11 : w44.cell? ⟨gb328, 11, none⟩ = some (.bool a0_11) := (blk_cell BK328.out 11).trans rfl
          have hfz47_0 := blk_frozen BK328.out 0
          have hfz47_1 := blk_frozen BK328.out 1
          have hfz47_2 := blk_frozen BK328.out 2
          have hfz47_3 := blk_frozen BK328.out 3
          have hfz47_4 := blk_frozen BK328.out 4
          have hfz47_5 := blk_frozen BK328.out 5
          have hfz47_6 := blk_frozen BK328.out 6
          have hfz47_7 := blk_frozen BK328.out 7
          have hfz47_8 := blk_frozen BK328.out 8
          have hfz47_9 := blk_frozen BK328.out 9
          have hfz47_10 := blk_frozen BK328.out 10
          have hfz47_11 := blk_frozen BK328.out 11
          have hnb48 := NB329_330.out
          have hnc48 := NB330_329.out
          have hcz49_0 : w44.cell? ⟨gb329, 0, none⟩ = some (.int .i64 a1_0) := (blk_cell BK329.out 0).trans rfl
          have hcz49_1 : w44.cell? ⟨gb329, 1, none⟩ = some (.int .i64 a1_1) := (blk_cell BK329.out 1).trans rfl
          have hcz49_2 : w44.cell? ⟨gb329, 2, none⟩ = some (.int .u32 a1_2) := (blk_cell BK329.out 2).trans rfl
          have hcz49_3 : w44.cell? ⟨gb329, 3, none⟩ = some (.int .i64 a1_3) := (blk_cell BK329.out 3).trans rfl
          have hcz49_4 : w44.cell? ⟨gb329, 4, none⟩ = some (.int .u32 a1_4) := (blk_cell BK329.out 4).trans rfl
          have hcz49_5 : w44.cell? ⟨gb329, 5, none⟩ = some (.int .i64 a1_5) := (blk_cell BK329.out 5).trans rfl
          have hcz49_6 : w44.cell? ⟨gb329, 6, none⟩ = some (.int .i64 a1_6) := (blk_cell BK329.out 6).trans rfl
          have hcz49_7 : w44.cell? ⟨gb329, 7, none⟩ = some (.int .i64 a1_7) := (blk_cell BK329.out 7).trans rfl
          have hcz49_8 : w44.cell? ⟨gb329, 8, none⟩ = some (.int .i64 a1_8) := (blk_cell BK329.out 8).trans rfl
          have hcz49_9 : w44.cell? ⟨gb329, 9, none⟩ = some (.int .i64 a1_9) := (blk_cell BK329.out 9).trans rfl
          have hcz49_10 : w44.cell? ⟨gb329, 10, none⟩ = some (.int .i64 a1_10) := (blk_cell BK329.out 10).trans rfl
          have hcz49_11 : w44.cell? ⟨gb329, 11, none⟩ = some (.bool a1_11) := (blk_cell BK329.out 11).trans rfl
          have hfz49_0 := blk_frozen BK329.out 0
          have hfz49_1 := blk_frozen BK329.out 1
          have hfz49_2 := blk_frozen BK329.out 2
          have hfz49_3 := blk_frozen BK329.out 3
          have hfz49_4 := blk_frozen BK329.out 4
          have hfz49_5 := blk_frozen BK329.out 5
          have hfz49_6 := blk_frozen BK329.out 6
          have hfz49_7 := blk_frozen BK329.out 7
          have hfz49_8 := blk_frozen BK329.out 8
          have hfz49_9 := blk_frozen BK329.out 9
          have hfz49_10 := blk_frozen BK329.out 10
          have hfz49_11 := blk_frozen BK329.out 11
          try go_wp2_with (first | ((with_reducible refine gate_callee (f := 27) rfl ?_); refine goesL_ (some 16) rfl rfl Try.func27 (by kernel_rfl) rfl #[.agg #[.int .i64 a0_0, .int .i64 a0_1, .int .u32 a0_2, .int .i64 a0_3, .int .u32 a0_4, .int .i64 a0_5, .int .i64 a0_6, .int .i64 a0_7, .int .i64 a0_8, .int .i64 a0_9, .int .i64 a0_10, .bool a0_11], .agg #[.int .i64 a1_0, .int .i64 a1_1, .int .u32 a1_2, .int .i64 a1_3, .int .u32 a1_4, .int .i64 a1_5, .int .i64 a1_6, .int .i64 a1_7, .int .i64 a1_8, .int .i64 a1_9, .int .i64 a1_10, .bool a1_11]] rfl (by (try simp only [List.map_toArray, List.map_cons, List.map_nil]); first | done | rfl | (simp only [List.length_drop, List.length_take]; rfl)) ?_; (with_reducible refine (rule_Covers.calls k a0_0 a0_1 a0_2 a0_3 a0_4 a0_5 a0_6 a0_7 a0_8 a0_9 a0_10 a0_11 a1_0 a1_1 a1_2 a1_3 a1_4 a1_5 a1_6 a1_7 a1_8 a1_9 a1_10 a1_11 true _ A13.out).mono ?_); rintro e w50 ⟨rfl, hb⟩; refine ⟨_, rfl, ?_⟩; have n0_ := Aside0.mk (blk_below (g := gb328) (o := .cells #[.int .i64 a0_0, .int .i64 a0_1, .int .u32 a0_2, .int .i64 a0_3, .int .u32 a0_4, .int .i64 a0_5, .int .i64 a0_6, .int .i64 a0_7, .int .i64 a0_8, .int .i64 a0_9, .int .i64 a0_10, .bool a0_11] 42 (0, 0)) (by (with_reducible repeat (first | refine blk_drewN ?_ _ | refine blk_drew ?_ | refine blk_alloc ?_ _)); exact BK328.out) hb); have n1_ := Aside0.mk (blk_below (g := gb329) (o := .cells #[.int .i64 a1_0, .int .i64 a1_1, .int .u32 a1_2, .int .i64 a1_3, .int .u32 a1_4, .int .i64 a1_5, .int .i64 a1_6, .int .i64 a1_7, .int .i64 a1_8, .int .i64 a1_9, .int .i64 a1_10, .bool a1_11] 42 (0, 0)) (by (with_reducible repeat (first | refine blk_drewN ?_ _ | refine blk_drew ?_ | refine blk_alloc ?_ _)); exact BK329.out) hb); have n2_ := Aside0.mk (blk_below (g := gb330) (o := .cells #[.int .i64 a2_0, .int .i64 a2_1, .int .u32 a2_2, .int .u32 a2_3, .int .i64 a2_4, .int .i64 a2_5, .int .i64 a2_6] 46 (0, 0)) (by (with_reducible repeat (first | refine blk_drewN ?_ _ | refine blk_drew ?_ | refine blk_alloc ?_ _)); exact BK330.out) hb); have n3_ := Aside0.mk (below_step (by repeat (first | (with_reducible first | exact HB.out | apply below_alloc | apply pw_below_drewN | apply below_drew1 | refine below_set ?_ GE328.out | refine below_set ?_ GE329.out | refine below_set ?_ GE330.out) | exact HB.out)) hb); clear BK328; clear BK329; clear BK330; clear HB; have BK328 := n0_; have BK329 := n1_; have BK330 := n2_; have HB := n3_; clear n0_ n1_ n2_ n3_; (try clear hb); (try clear hb2); (try clear hk); (try clear hi); have hcz51_0 : w50.cell? ⟨gb329, 0, none⟩ = some (.int .i64 a1_0) := (blk_cell BK329.out 0).trans rfl; have hcz51_1 : w50.cell? ⟨gb329, 1, none⟩ = some (.int .i64 a1_1) := (blk_cell BK329.out 1).trans rfl; have hcz51_2 : w50.cell? ⟨gb329, 2, none⟩ = some (.int .u32 a1_2) := (blk_cell BK329.out 2).trans rfl; have hcz51_3 : w50.cell? ⟨gb329, 3, none⟩ = some (.int .i64 a1_3) := (blk_cell BK329.out 3).trans rfl; have hcz51_4 : w50.cell? ⟨gb329, 4, none⟩ = some (.int .u32 a1_4) := (blk_cell BK329.out 4).trans rfl; have hcz51_5 : w50.cell? ⟨gb329, 5, none⟩ = some (.int .i64 a1_5) := (blk_cell BK329.out 5).trans rfl; have hcz51_6 : w50.cell? ⟨gb329, 6, none⟩ = some (.int .i64 a1_6) := (blk_cell BK329.out 6).trans rfl; have hcz51_7 : w50.cell? ⟨gb329, 7, none⟩ = some (.int .i64 a1_7) := (blk_cell BK329.out 7).trans rfl; have hcz51_8 : w50.cell? ⟨gb329, 8, none⟩ = some (.int .i64 a1_8) := (blk_cell BK329.out 8).trans rfl; have hcz51_9 : w50.cell? ⟨gb329, 9, none⟩ = some (.int .i64 a1_9) := (blk_cell BK329.out 9).trans rfl; have hcz51_10 : w50.cell? ⟨gb329, 10, none⟩ = some (.int .i64 a1_10) := (blk_cell BK329.out 10).trans rfl; have hcz51_11 : w50.cell? ⟨gb329, 11, none⟩ = some (.bool a1_11) := (blk_cell BK329.out 11).trans rfl; have hfz51_0 := blk_frozen BK329.out 0; have hfz51_1 := blk_frozen BK329.out 1; have hfz51_2 := blk_frozen BK329.out 2; have hfz51_3 := blk_frozen BK329.out 3; have hfz51_4 := blk_frozen BK329.out 4; have hfz51_5 := blk_frozen BK329.out 5; have hfz51_6 := blk_frozen BK329.out 6; have hfz51_7 := blk_frozen BK329.out 7; have hfz51_8 := blk_frozen BK329.out 8; have hfz51_9 := blk_frozen BK329.out 9; have hfz51_10 := blk_frozen BK329.out 10; have hfz51_11 := blk_frozen BK329.out 11; have hcz52_0 : w50.cell? ⟨gb330, 0, none⟩ = some (.int .i64 a2_0) := (blk_cell BK330.out 0).trans rfl; have hcz52_1 : w50.cell? ⟨gb330, 1, none⟩ = some (.int .i64 a2_1) := (blk_cell BK330.out 1).trans rfl; have hcz52_2 : w50.cell? ⟨gb330, 2, none⟩ = some (.int .u32 a2_2) := (blk_cell BK330.out 2).trans rfl; have hcz52_3 : w50.cell? ⟨gb330, 3, none⟩ = some (.int .u32 a2_3) := (blk_cell BK330.out 3).trans rfl; have hcz52_4 : w50.cell? ⟨gb330, 4, none⟩ = some (.int .i64 a2_4) := (blk_cell BK330.out 4).trans rfl; have hcz52_5 : w50.cell? ⟨gb330, 5, none⟩ = some (.int .i64 a2_5) := (blk_cell BK330.out 5).trans rfl; have hcz52_6 : w50.cell? ⟨gb330, 6, none⟩ = some (.int .i64 a2_6) := (blk_cell BK330.out 6).trans rfl; have hfz52_0 := blk_frozen BK330.out 0; have hfz52_1 := blk_frozen BK330.out 1; have hfz52_2 := blk_frozen BK330.out 2; have hfz52_3 := blk_frozen BK330.out 3; have hfz52_4 := blk_frozen BK330.out 4; have hfz52_5 := blk_frozen BK330.out 5; have hfz52_6 := blk_frozen BK330.out 6) | (go_at_call 21; (with_reducible refine (rule_Matches.calls k a1_0 a1_1 a1_2 a1_3 a1_4 a1_5 a1_6 a1_7 a1_8 a1_9 a1_10 a1_11 a2_0 a2_1 a2_2 a2_3 a2_4 a2_5 a2_6 true _ A15.out).mono ?_); rintro e w53 ⟨rfl, hb⟩; have n0_ := Aside0.mk (blk_below (g := gb328) (o := .cells #[.int .i64 a0_0, .int .i64 a0_1, .int .u32 a0_2, .int .i64 a0_3, .int .u32 a0_4, .int .i64 a0_5, .int .i64 a0_6, .int .i64 a0_7, .int .i64 a0_8, .int .i64 a0_9, .int .i64 a0_10, .bool a0_11] 42 (0, 0)) (by (with_reducible repeat (first | refine blk_drewN ?_ _ | refine blk_drew ?_ | refine blk_alloc ?_ _)); exact BK328.out) hb); have n1_ := Aside0.mk (blk_below (g := gb329) (o := .cells #[.int .i64 a1_0, .int .i64 a1_1, .int .u32 a1_2, .int .i64 a1_3, .int .u32 a1_4, .int .i64 a1_5, .int .i64 a1_6, .int .i64 a1_7, .int .i64 a1_8, .int .i64 a1_9, .int .i64 a1_10, .bool a1_11] 42 (0, 0)) (by (with_reducible repeat (first | refine blk_drewN ?_ _ | refine blk_drew ?_ | refine blk_alloc ?_ _)); exact BK329.out) hb); have n2_ := Aside0.mk (blk_below (g := gb330) (o := .cells #[.int .i64 a2_0, .int .i64 a2_1, .int .u32 a2_2, .int .u32 a2_3, .int .i64 a2_4, .int .i64 a2_5, .int .i64 a2_6] 46 (0, 0)) (by (with_reducible repeat (first | refine blk_drewN ?_ _ | refine blk_drew ?_ | refine blk_alloc ?_ _)); exact BK330.out) hb); have n3_ := Aside0.mk (below_step (by repeat (first | (with_reducible first | exact HB.out | apply below_alloc | apply pw_below_drewN | apply below_drew1 | refine below_set ?_ GE328.out | refine below_set ?_ GE329.out | refine below_set ?_ GE330.out) | exact HB.out)) hb); clear BK328; clear BK329; clear BK330; clear HB; have BK328 := n0_; have BK329 := n1_; have BK330 := n2_; have HB := n3_; clear n0_ n1_ n2_ n3_; (try clear hb); (try clear hb2); (try clear hk); (try clear hi); have hcz54_0 : w53.cell? ⟨gb328, 0, none⟩ = some (.int .i64 a0_0) := (blk_cell BK328.out 0).trans rfl; have hcz54_1 : w53.cell? ⟨gb328, 1, none⟩ = some (.int .i64 a0_1) := (blk_cell BK328.out 1).trans rfl; have hcz54_2 : w53.cell? ⟨gb328, 2, none⟩ = some (.int .u32 a0_2) := (blk_cell BK328.out 2).trans rfl; have hcz54_3 : w53.cell? ⟨gb328, 3, none⟩ = some (.int .i64 a0_3) := (blk_cell BK328.out 3).trans rfl; have hcz54_4 : w53.cell? ⟨gb328, 4, none⟩ = some (.int .u32 a0_4) := (blk_cell BK328.out 4).trans rfl; have hcz54_5 : w53.cell? ⟨gb328, 5, none⟩ = some (.int .i64 a0_5) := (blk_cell BK328.out 5).trans rfl; have hcz54_6 : w53.cell? ⟨gb328, 6, none⟩ = some (.int .i64 a0_6) := (blk_cell BK328.out 6).trans rfl; have hcz54_7 : w53.cell? ⟨gb328, 7, none⟩ = some (.int .i64 a0_7) := (blk_cell BK328.out 7).trans rfl; have hcz54_8 : w53.cell? ⟨gb328, 8, none⟩ = some (.int .i64 a0_8) := (blk_cell BK328.out 8).trans rfl; have hcz54_9 : w53.cell? ⟨gb328, 9, none⟩ = some (.int .i64 a0_9) := (blk_cell BK328.out 9).trans rfl; have hcz54_10 : w53.cell? ⟨gb328, 10, none⟩ = some (.int .i64 a0_10) := (blk_cell BK328.out 10).trans rfl; have hcz54_11 : w53.cell? ⟨gb328, 11, none⟩ = some (.bool a0_11) := (blk_cell BK328.out 11).trans rfl; have hfz54_0 := blk_frozen BK328.out 0; have hfz54_1 := blk_frozen BK328.out 1; have hfz54_2 := blk_frozen BK328.out 2; have hfz54_3 := blk_frozen BK328.out 3; have hfz54_4 := blk_frozen BK328.out 4; have hfz54_5 := blk_frozen BK328.out 5; have hfz54_6 := blk_frozen BK328.out 6; have hfz54_7 := blk_frozen BK328.out 7; have hfz54_8 := blk_frozen BK328.out 8; have hfz54_9 := blk_frozen BK328.out 9; have hfz54_10 := blk_frozen BK328.out 10; have hfz54_11 := blk_frozen BK328.out 11; have hcz55_0 : w53.cell? ⟨gb330, 0, none⟩ = some (.int .i64 a2_0) := (blk_cell BK330.out 0).trans rfl; have hcz55_1 : w53.cell? ⟨gb330, 1, none⟩ = some (.int .i64 a2_1) := (blk_cell BK330.out 1).trans rfl; have hcz55_2 : w53.cell? ⟨gb330, 2, none⟩ = some (.int .u32 a2_2) := (blk_cell BK330.out 2).trans rfl; have hcz55_3 : w53.cell? ⟨gb330, 3, none⟩ = some (.int .u32 a2_3) := (blk_cell BK330.out 3).trans rfl; have hcz55_4 : w53.cell? ⟨gb330, 4, none⟩ = some (.int .i64 a2_4) := (blk_cell BK330.out 4).trans rfl; have hcz55_5 : w53.cell? ⟨gb330, 5, none⟩ = some (.int .i64 a2_5) := (blk_cell BK330.out 5).trans rfl; have hcz55_6 : w53.cell? ⟨gb330, 6, none⟩ = some (.int .i64 a2_6) := (blk_cell BK330.out 6).trans rfl; have hfz55_0 := blk_frozen BK330.out 0; have hfz55_1 := blk_frozen BK330.out 1; have hfz55_2 := blk_frozen BK330.out 2; have hfz55_3 := blk_frozen BK330.out 3; have hfz55_4 := blk_frozen BK330.out 4; have hfz55_5 := blk_frozen BK330.out 5; have hfz55_6 := blk_frozen BK330.out 6) | (go_at_call 21; (with_reducible refine (rule_Matches.calls k a0_0 a0_1 a0_2 a0_3 a0_4 a0_5 a0_6 a0_7 a0_8 a0_9 a0_10 a0_11 a2_0 a2_1 a2_2 a2_3 a2_4 a2_5 a2_6 false _ A17.out).mono ?_); rintro e w56 ⟨rfl, hb⟩; have n0_ := Aside0.mk (blk_below (g := gb328) (o := .cells #[.int .i64 a0_0, .int .i64 a0_1, .int .u32 a0_2, .int .i64 a0_3, .int .u32 a0_4, .int .i64 a0_5, .int .i64 a0_6, .int .i64 a0_7, .int .i64 a0_8, .int .i64 a0_9, .int .i64 a0_10, .bool a0_11] 42 (0, 0)) (by (with_reducible repeat (first | refine blk_drewN ?_ _ | refine blk_drew ?_ | refine blk_alloc ?_ _)); exact BK328.out) hb); have n1_ := Aside0.mk (blk_below (g := gb329) (o := .cells #[.int .i64 a1_0, .int .i64 a1_1, .int .u32 a1_2, .int .i64 a1_3, .int .u32 a1_4, .int .i64 a1_5, .int .i64 a1_6, .int .i64 a1_7, .int .i64 a1_8, .int .i64 a1_9, .int .i64 a1_10, .bool a1_11] 42 (0, 0)) (by (with_reducible repeat (first | refine blk_drewN ?_ _ | refine blk_drew ?_ | refine blk_alloc ?_ _)); exact BK329.out) hb); have n2_ := Aside0.mk (blk_below (g := gb330) (o := .cells #[.int .i64 a2_0, .int .i64 a2_1, .int .u32 a2_2, .int .u32 a2_3, .int .i64 a2_4, .int .i64 a2_5, .int .i64 a2_6] 46 (0, 0)) (by (with_reducible repeat (first | refine blk_drewN ?_ _ | refine blk_drew ?_ | refine blk_alloc ?_ _)); exact BK330.out) hb); have n3_ := Aside0.mk (below_step (by repeat (first | (with_reducible first | exact HB.out | apply below_alloc | apply pw_below_drewN | apply below_drew1 | refine below_set ?_ GE328.out | refine below_set ?_ GE329.out | refine below_set ?_ GE330.out) | exact HB.out)) hb); clear BK328; clear BK329; clear BK330; clear HB; have BK328 := n0_; have BK329 := n1_; have BK330 := n2_; have HB := n3_; clear n0_ n1_ n2_ n3_; (try clear hb); (try clear hb2); (try clear hk); (try clear hi)))
          go_ret
          exact ⟨by first | rfl | (simp [errW_none, errW_some] <;> rfl) | (simp [*, errW_none, errW_some] <;> rfl), by repeat (first | (with_reducible first | exact HB.out | apply below_alloc | apply pw_below_drewN | apply below_drew1 | refine below_set ?_ GE328.out | refine below_set ?_ GE329.out | refine below_set ?_ GE330.out) | exact HB.out)⟩
      · replace c16 := Bool.eq_false_iff.mpr c16
        subst c16
        have H1 : ((gueritelaw15_awake.f).bind fun t337 => (some t337)) = some r := by rw [if_neg (show ¬ (false = true) by decide)] at H; exact H
        clear H
        have H := H1
        clear H1
        replace H := Option.bind_eq_some_iff.mp H
        obtain ⟨t337, A570, H⟩ := H
        replace H : (some t337) = some r := H
        have A57 := Aside0.mk A570
        clear A570
        obtain rfl := Option.some.inj H
        go_enter Try.func8, Try.ntmps8
        try go_wp2_with (first | ((with_reducible refine gate_dst (N := 3) rfl ?_); refine box_event ?hg (N := 3) ?hd (cs := #[.int .i64 a0_0, .int .i64 a0_1, .int .u32 a0_2, .int .i64 a0_3, .int .u32 a0_4, .int .i64 a0_5, .int .i64 a0_6, .int .i64 a0_7, .int .i64 a0_8, .int .i64 a0_9, .int .i64 a0_10, .bool a0_11]) (t := 42) ?hr ?_; (case hd => rfl); (case hg => rfl); (case hr => first | (go_simp; done) | (go_simp; rfl)); intro gb328 hg w58 hbox hb; have n0_ := Aside0.mk (below_step (by repeat (first | (with_reducible first | exact HB.out | apply below_alloc | apply pw_below_drewN | apply below_drew1) | exact HB.out)) hb); have n1_ := Aside0.mk (hbox); have n2_ := Aside0.mk ((by rw [hg]; exact (below_size (by repeat (first | (with_reducible first | exact HB.out | apply below_alloc | apply pw_below_drewN | apply below_drew1) | exact HB.out))) : w.heap.size ≤ gb328)); have n3_ := Aside0.mk ((by rw [hg]; exact (below_size (by repeat (first | (with_reducible first | exact HB.out | apply below_alloc | apply pw_below_drewN | apply below_drew1) | exact HB.out))) : w.heap.size ≤ gb328)); clear HB; have HB := n0_; have BK328 := n1_; have GW328 := n2_; have GE328 := n3_; clear n0_ n1_ n2_ n3_; clear hb hbox hg) | ((with_reducible refine gate_dst (N := 4) rfl ?_); refine box_event ?hg (N := 4) ?hd (cs := #[.int .i64 a1_0, .int .i64 a1_1, .int .u32 a1_2, .int .i64 a1_3, .int .u32 a1_4, .int .i64 a1_5, .int .i64 a1_6, .int .i64 a1_7, .int .i64 a1_8, .int .i64 a1_9, .int .i64 a1_10, .bool a1_11]) (t := 42) ?hr ?_; (case hd => rfl); (case hg => rfl); (case hr => first | (go_simp; done) | (go_simp; rfl)); intro gb329 hg w59 hbox hb; have n0_ := Aside0.mk (blk_below (g := gb328) (o := .cells #[.int .i64 a0_0, .int .i64 a0_1, .int .u32 a0_2, .int .i64 a0_3, .int .u32 a0_4, .int .i64 a0_5, .int .i64 a0_6, .int .i64 a0_7, .int .i64 a0_8, .int .i64 a0_9, .int .i64 a0_10, .bool a0_11] 42 (0, 0)) (by (with_reducible repeat (first | refine blk_drewN ?_ _ | refine blk_drew ?_ | refine blk_alloc ?_ _)); exact BK328.out) hb); have n1_ := Aside0.mk (below_step (by repeat (first | (with_reducible first | exact HB.out | apply below_alloc | apply pw_below_drewN | apply below_drew1 | refine below_set ?_ GE328.out) | exact HB.out)) hb); have n2_ := Aside0.mk (hbox); have n3_ := Aside0.mk ((by rw [hg]; exact (below_size (by repeat (first | (with_reducible first | exact HB.out | apply below_alloc | apply pw_below_drewN | apply below_drew1 | refine below_set ?_ GE328.out) | exact HB.out))) : w.heap.size ≤ gb329)); have n4_ := Aside0.mk ((by rw [hg]; exact (below_size (by repeat (first | (with_reducible first | exact HB.out | apply below_alloc | apply pw_below_drewN | apply below_drew1 | refine below_set ?_ GE328.out) | exact HB.out))) : w.heap.size ≤ gb329)); have n5_ := Aside0.mk ((by rw [hg]; exact Nat.ne_of_lt (blk_lt (g := gb328) (o := .cells #[.int .i64 a0_0, .int .i64 a0_1, .int .u32 a0_2, .int .i64 a0_3, .int .u32 a0_4, .int .i64 a0_5, .int .i64 a0_6, .int .i64 a0_7, .int .i64 a0_8, .int .i64 a0_9, .int .i64 a0_10, .bool a0_11] 42 (0, 0)) (by (with_reducible repeat (first | refine blk_drewN ?_ _ | refine blk_drew ?_ | refine blk_alloc ?_ _)); exact BK328.out)) : gb328 ≠ gb329)); have n6_ := Aside0.mk ((by rw [hg]; exact Nat.ne_of_gt (blk_lt (g := gb328) (o := .cells #[.int .i64 a0_0, .int .i64 a0_1, .int .u32 a0_2, .int .i64 a0_3, .int .u32 a0_4, .int .i64 a0_5, .int .i64 a0_6, .int .i64 a0_7, .int .i64 a0_8, .int .i64 a0_9, .int .i64 a0_10, .bool a0_11] 42 (0, 0)) (by (with_reducible repeat (first | refine blk_drewN ?_ _ | refine blk_drew ?_ | refine blk_alloc ?_ _)); exact BK328.out)) : gb329 ≠ gb328)); clear BK328; clear HB; have BK328 := n0_; have HB := n1_; have BK329 := n2_; have GW329 := n3_; have GE329 := n4_; have NB328_329 := n5_; have NB329_328 := n6_; clear n0_ n1_ n2_ n3_ n4_ n5_ n6_; clear hb hbox hg) | ((with_reducible refine gate_dst (N := 5) rfl ?_); refine box_event ?hg (N := 5) ?hd (cs := #[.int .i64 a2_0, .int .i64 a2_1, .int .u32 a2_2, .int .u32 a2_3, .int .i64 a2_4, .int .i64 a2_5, .int .i64 a2_6]) (t := 46) ?hr ?_; (case hd => rfl); (case hg => rfl); (case hr => first | (go_simp; done) | (go_simp; rfl)); intro gb330 hg w60 hbox hb; have n0_ := Aside0.mk (blk_below (g := gb328) (o := .cells #[.int .i64 a0_0, .int .i64 a0_1, .int .u32 a0_2, .int .i64 a0_3, .int .u32 a0_4, .int .i64 a0_5, .int .i64 a0_6, .int .i64 a0_7, .int .i64 a0_8, .int .i64 a0_9, .int .i64 a0_10, .bool a0_11] 42 (0, 0)) (by (with_reducible repeat (first | refine blk_drewN ?_ _ | refine blk_drew ?_ | refine blk_alloc ?_ _)); exact BK328.out) hb); have n1_ := Aside0.mk (blk_below (g := gb329) (o := .cells #[.int .i64 a1_0, .int .i64 a1_1, .int .u32 a1_2, .int .i64 a1_3, .int .u32 a1_4, .int .i64 a1_5, .int .i64 a1_6, .int .i64 a1_7, .int .i64 a1_8, .int .i64 a1_9, .int .i64 a1_10, .bool a1_11] 42 (0, 0)) (by (with_reducible repeat (first | refine blk_drewN ?_ _ | refine blk_drew ?_ | refine blk_alloc ?_ _)); exact BK329.out) hb); have n2_ := Aside0.mk (below_step (by repeat (first | (with_reducible first | exact HB.out | apply below_alloc | apply pw_below_drewN | apply below_drew1 | refine below_set ?_ GE328.out | refine below_set ?_ GE329.out) | exact HB.out)) hb); have n3_ := Aside0.mk (hbox); have n4_ := Aside0.mk ((by rw [hg]; exact (below_size (by repeat (first | (with_reducible first | exact HB.out | apply below_alloc | apply pw_below_drewN | apply below_drew1 | refine below_set ?_ GE328.out | refine below_set ?_ GE329.out) | exact HB.out))) : w.heap.size ≤ gb330)); have n5_ := Aside0.mk ((by rw [hg]; exact (below_size (by repeat (first | (with_reducible first | exact HB.out | apply below_alloc | apply pw_below_drewN | apply below_drew1 | refine below_set ?_ GE328.out | refine below_set ?_ GE329.out) | exact HB.out))) : w.heap.size ≤ gb330)); have n6_ := Aside0.mk ((by rw [hg]; exact Nat.ne_of_lt (blk_lt (g := gb328) (o := .cells #[.int .i64 a0_0, .int .i64 a0_1, .int .u32 a0_2, .int .i64 a0_3, .int .u32 a0_4, .int .i64 a0_5, .int .i64 a0_6, .int .i64 a0_7, .int .i64 a0_8, .int .i64 a0_9, .int .i64 a0_10, .bool a0_11] 42 (0, 0)) (by (with_reducible repeat (first | refine blk_drewN ?_ _ | refine blk_drew ?_ | refine blk_alloc ?_ _)); exact BK328.out)) : gb328 ≠ gb330)); have n7_ := Aside0.mk ((by rw [hg]; exact Nat.ne_of_gt (blk_lt (g := gb328) (o := .cells #[.int .i64 a0_0, .int .i64 a0_1, .int .u32 a0_2, .int .i64 a0_3, .int .u32 a0_4, .int .i64 a0_5, .int .i64 a0_6, .int .i64 a0_7, .int .i64 a0_8, .int .i64 a0_9, .int .i64 a0_10, .bool a0_11] 42 (0, 0)) (by (with_reducible repeat (first | refine blk_drewN ?_ _ | refine blk_drew ?_ | refine blk_alloc ?_ _)); exact BK328.out)) : gb330 ≠ gb328)); have n8_ := Aside0.mk ((by rw [hg]; exact Nat.ne_of_lt (blk_lt (g := gb329) (o := .cells #[.int .i64 a1_0, .int .i64 a1_1, .int .u32 a1_2, .int .i64 a1_3, .int .u32 a1_4, .int .i64 a1_5, .int .i64 a1_6, .int .i64 a1_7, .int .i64 a1_8, .int .i64 a1_9, .int .i64 a1_10, .bool a1_11] 42 (0, 0)) (by (with_reducible repeat (first | refine blk_drewN ?_ _ | refine blk_drew ?_ | refine blk_alloc ?_ _)); exact BK329.out)) : gb329 ≠ gb330)); have n9_ := Aside0.mk ((by rw [hg]; exact Nat.ne_of_gt (blk_lt (g := gb329) (o := .cells #[.int .i64 a1_0, .int .i64 a1_1, .int .u32 a1_2, .int .i64 a1_3, .int .u32 a1_4, .int .i64 a1_5, .int .i64 a1_6, .int .i64 a1_7, .int .i64 a1_8, .int .i64 a1_9, .int .i64 a1_10, .bool a1_11] 42 (0, 0)) (by (with_reducible repeat (first | refine blk_drewN ?_ _ | refine blk_drew ?_ | refine blk_alloc ?_ _)); exact BK329.out)) : gb330 ≠ gb329)); clear BK328; clear BK329; clear HB; have BK328 := n0_; have BK329 := n1_; have HB := n2_; have BK330 := n3_; have GW330 := n4_; have GE330 := n5_; have NB328_330 := n6_; have NB330_328 := n7_; have NB329_330 := n8_; have NB330_329 := n9_; clear n0_ n1_ n2_ n3_ n4_ n5_ n6_ n7_ n8_ n9_; clear hb hbox hg))
        have n0_ := Aside0.mk (blk_drew BK328.out)
        have n1_ := Aside0.mk (blk_drew BK329.out)
        have n2_ := Aside0.mk (blk_drew BK330.out)
        have n3_ := Aside0.mk (below_drew1 HB.out)
        clear BK328
        clear BK329
        clear BK330
        clear HB
        have BK328 := n0_
        have BK329 := n1_
        have BK330 := n2_
        have HB := n3_
        clear n0_ n1_ n2_ n3_
        refine start_ (n := 7) (S := fun w' => w'.cell? ⟨gb328, 0, none⟩ = some (.int .i64 a0_0) ∧ w'.cell? ⟨gb328, 1, none⟩ = some (.int .i64 a0_1) ∧ w'.cell? ⟨gb328, 2, none⟩ = some (.int .u32 a0_2) ∧ w'.cell? ⟨gb328, 3, none⟩ = some (.int .i64 a0_3) ∧ w'.cell? ⟨gb328, 4, none⟩ = some (.int .u32 a0_4) ∧ w'.cell? ⟨gb328, 5, none⟩ = some (.int .i64 a0_5) ∧ w'.cell? ⟨gb328, 6, none⟩ = some (.int .i64 a0_6) ∧ w'.cell? ⟨gb328, 7, none⟩ = some (.int .i64 a0_7) ∧ w'.cell? ⟨gb328, 8, none⟩ = some (.int .i64 a0_8) ∧ w'.cell? ⟨gb328, 9, none⟩ = some (.int .i64 a0_9) ∧ w'.cell? ⟨gb328, 10, none⟩ = some (.int .i64 a0_10) ∧ w'.cell? ⟨gb328, 11, none⟩ = some (.bool a0_11) ∧ w'.cell? ⟨gb329, 0, none⟩ = some (.int .i64 a1_0) ∧ w'.cell? ⟨gb329, 1, none⟩ = some (.int .i64 a1_1) ∧ w'.cell? ⟨gb329, 2, none⟩ = some (.int .u32 a1_2) ∧ w'.cell? ⟨gb329, 3, none⟩ = some (.int .i64 a1_3) ∧ w'.cell? ⟨gb329, 4, none⟩ = some (.int .u32 a1_4) ∧ w'.cell? ⟨gb329, 5, none⟩ = some (.int .i64 a1_5) ∧ w'.cell? ⟨gb329, 6, none⟩ = some (.int .i64 a1_6) ∧ w'.cell? ⟨gb329, 7, none⟩ = some (.int .i64 a1_7) ∧ w'.cell? ⟨gb329, 8, none⟩ = some (.int .i64 a1_8) ∧ w'.cell? ⟨gb329, 9, none⟩ = some (.int .i64 a1_9) ∧ w'.cell? ⟨gb329, 10, none⟩ = some (.int .i64 a1_10) ∧ w'.cell? ⟨gb329, 11, none⟩ = some (.bool a1_11)) (ds := []) #[false, false, false, false, false, false, false] (by kernel_rfl) rfl rfl ⟨(blk_cell BK328.out 0).trans rfl, (blk_cell BK328.out 1).trans rfl, (blk_cell BK328.out 2).trans rfl, (blk_cell BK328.out 3).trans rfl, (blk_cell BK328.out 4).trans rfl, (blk_cell BK328.out 5).trans rfl, (blk_cell BK328.out 6).trans rfl, (blk_cell BK328.out 7).trans rfl, (blk_cell BK328.out 8).trans rfl, (blk_cell BK328.out 9).trans rfl, (blk_cell BK328.out 10).trans rfl, (blk_cell BK328.out 11).trans rfl, (blk_cell BK329.out 0).trans rfl, (blk_cell BK329.out 1).trans rfl, (blk_cell BK329.out 2).trans rfl, (blk_cell BK329.out 3).trans rfl, (blk_cell BK329.out 4).trans rfl, (blk_cell BK329.out 5).trans rfl, (blk_cell BK329.out 6).trans rfl, (blk_cell BK329.out 7).trans rfl, (blk_cell BK329.out 8).trans rfl, (blk_cell BK329.out 9).trans rfl, (blk_cell BK329.out 10).trans rfl, (blk_cell BK329.out 11).trans rfl⟩ (fun hHeld => ?_)
        generalize w60.drew = w61 at BK328 BK329 BK330 HB hHeld ⊢
        refine take_ (i := 0) (N := some 7) (v := ?_) (a' := ?_) #[true, false, false, false, false, false, false] rfl rfl (by kernel_rfl) (fun _ _ _ h => h) (Or.inl ⟨by rfl, ?_⟩) hHeld ?_ ?_
        rotate_left
        · rintro w' ⟨s0, s1, s2, s3, s4, s5, s6, s7, s8, s9, s10, s11, s12, s13, s14, s15, s16, s17, s18, s19, s20, s21, s22, s23⟩
          go_simp
          with_reducible rfl
        rotate_left
        · simp only [Act.put, List.setIfInBounds_toArray, List.set_cons_zero, List.set_cons_succ, i64_w, i32_w]
          rfl
        refine take_ (i := 1) (N := some 8) (v := ?_) (a' := ?_) #[true, true, false, false, false, false, false] rfl rfl (by kernel_rfl) (fun _ _ _ h => h) (Or.inl ⟨by rfl, ?_⟩) hHeld ?_ ?_
        rotate_left
        · rintro w' ⟨s0, s1, s2, s3, s4, s5, s6, s7, s8, s9, s10, s11, s12, s13, s14, s15, s16, s17, s18, s19, s20, s21, s22, s23⟩
          go_simp
          with_reducible rfl
        rotate_left
        · simp only [Act.put, List.setIfInBounds_toArray, List.set_cons_zero, List.set_cons_succ, i64_w, i32_w]
          rfl
        refine take_ (i := 3) (N := some 10) (v := ?_) (a' := ?_) #[true, true, false, true, false, false, false] rfl rfl (by kernel_rfl) (fun _ _ _ h => h) (Or.inl ⟨by rfl, ?_⟩) hHeld ?_ ?_
        rotate_left
        · rintro w' ⟨s0, s1, s2, s3, s4, s5, s6, s7, s8, s9, s10, s11, s12, s13, s14, s15, s16, s17, s18, s19, s20, s21, s22, s23⟩
          go_simp
          with_reducible rfl
        rotate_left
        · simp only [Act.put, List.setIfInBounds_toArray, List.set_cons_zero, List.set_cons_succ, i64_w, i32_w]
          rfl
        refine take_ (i := 4) (N := some 11) (v := ?_) (a' := ?_) #[true, true, false, true, true, false, false] rfl rfl (by kernel_rfl) (fun _ _ _ h => h) (Or.inl ⟨by rfl, ?_⟩) hHeld ?_ ?_
        rotate_left
        · rintro w' ⟨s0, s1, s2, s3, s4, s5, s6, s7, s8, s9, s10, s11, s12, s13, s14, s15, s16, s17, s18, s19, s20, s21, s22, s23⟩
          go_simp
          with_reducible rfl
        rotate_left
        · simp only [Act.put, List.setIfInBounds_toArray, List.set_cons_zero, List.set_cons_succ, i64_w, i32_w]
          rfl
        refine one_ (i := 2) (N := some 9) #[true, true, true, true, true, false, false] rfl rfl (by kernel_rfl) (by decide) (fun K hK => ?_)
        refine goes_ Try.func27 (by kernel_rfl) rfl #[.agg #[.int .i64 a0_0, .int .i64 a0_1, .int .u32 a0_2, .int .i64 a0_3, .int .u32 a0_4, .int .i64 a0_5, .int .i64 a0_6, .int .i64 a0_7, .int .i64 a0_8, .int .i64 a0_9, .int .i64 a0_10, .bool a0_11], .agg #[.int .i64 a1_0, .int .i64 a1_1, .int .u32 a1_2, .int .i64 a1_3, .int .u32 a1_4, .int .i64 a1_5, .int .i64 a1_6, .int .i64 a1_7, .int .i64 a1_8, .int .i64 a1_9, .int .i64 a1_10, .bool a1_11]] (by rfl) rfl rfl (by (try simp only [List.map_toArray, List.map_cons, List.map_nil]); first | done | rfl | (simp only [List.length_drop, List.length_take]; rfl)) ?_
        with_reducible refine (rule_Covers.calls k a0_0 a0_1 a0_2 a0_3 a0_4 a0_5 a0_6 a0_7 a0_8 a0_9 a0_10 a0_11 a1_0 a1_1 a1_2 a1_3 a1_4 a1_5 a1_6 a1_7 a1_8 a1_9 a1_10 a1_11 t331 _ A4.out).mono ?_
        rintro e w62 ⟨rfl, hb⟩
        refine ⟨_, rfl, ?_⟩
        have n0_ := Aside0.mk (blk_below (g := gb328) (o := .cells #[.int .i64 a0_0, .int .i64 a0_1, .int .u32 a0_2, .int .i64 a0_3, .int .u32 a0_4, .int .i64 a0_5, .int .i64 a0_6, .int .i64 a0_7, .int .i64 a0_8, .int .i64 a0_9, .int .i64 a0_10, .bool a0_11] 42 (0, 0)) (by (with_reducible repeat (first | refine blk_drewN ?_ _ | refine blk_drew ?_ | refine blk_alloc ?_ _)); exact BK328.out) hb)
        have n1_ := Aside0.mk (blk_below (g := gb329) (o := .cells #[.int .i64 a1_0, .int .i64 a1_1, .int .u32 a1_2, .int .i64 a1_3, .int .u32 a1_4, .int .i64 a1_5, .int .i64 a1_6, .int .i64 a1_7, .int .i64 a1_8, .int .i64 a1_9, .int .i64 a1_10, .bool a1_11] 42 (0, 0)) (by (with_reducible repeat (first | refine blk_drewN ?_ _ | refine blk_drew ?_ | refine blk_alloc ?_ _)); exact BK329.out) hb)
        have n2_ := Aside0.mk (blk_below (g := gb330) (o := .cells #[.int .i64 a2_0, .int .i64 a2_1, .int .u32 a2_2, .int .u32 a2_3, .int .i64 a2_4, .int .i64 a2_5, .int .i64 a2_6] 46 (0, 0)) (by (with_reducible repeat (first | refine blk_drewN ?_ _ | refine blk_drew ?_ | refine blk_alloc ?_ _)); exact BK330.out) hb)
        have n3_ := Aside0.mk (below_step (by repeat (first | (with_reducible first | exact HB.out | apply below_alloc | apply pw_below_drewN | apply below_drew1 | refine below_set ?_ GE328.out | refine below_set ?_ GE329.out | refine below_set ?_ GE330.out) | exact HB.out)) hb)
        clear BK328
        clear BK329
        clear BK330
        clear HB
        have BK328 := n0_
        have BK329 := n1_
        have BK330 := n2_
        have HB := n3_
        clear n0_ n1_ n2_ n3_
        (try clear hb)
        (try clear hb2)
        (try clear hk)
        (try clear hi)
        refine hK.out _ _ ⟨(blk_cell BK328.out 0).trans rfl, (blk_cell BK328.out 1).trans rfl, (blk_cell BK328.out 2).trans rfl, (blk_cell BK328.out 3).trans rfl, (blk_cell BK328.out 4).trans rfl, (blk_cell BK328.out 5).trans rfl, (blk_cell BK328.out 6).trans rfl, (blk_cell BK328.out 7).trans rfl, (blk_cell BK328.out 8).trans rfl, (blk_cell BK328.out 9).trans rfl, (blk_cell BK328.out 10).trans rfl, (blk_cell BK328.out 11).trans rfl, (blk_cell BK329.out 0).trans rfl, (blk_cell BK329.out 1).trans rfl, (blk_cell BK329.out 2).trans rfl, (blk_cell BK329.out 3).trans rfl, (blk_cell BK329.out 4).trans rfl, (blk_cell BK329.out 5).trans rfl, (blk_cell BK329.out 6).trans rfl, (blk_cell BK329.out 7).trans rfl, (blk_cell BK329.out 8).trans rfl, (blk_cell BK329.out 9).trans rfl, (blk_cell BK329.out 10).trans rfl, (blk_cell BK329.out 11).trans rfl⟩ (fun hHeld => ?_)
        clear hK K
        refine norm_ (a' := ?_) ?_ ?_
        rotate_left
        · show Act.put _ (some 9) _ = _
          simp only [Act.put, List.setIfInBounds_toArray, List.set_cons_zero, List.set_cons_succ, i64_w, i32_w]
          rfl
        refine one_ (i := 5) (N := some 12) #[true, true, true, true, true, true, false] rfl rfl (by kernel_rfl) (by decide) (fun K hK => ?_)
        refine goes_ Try.func28 (by kernel_rfl) rfl #[.agg #[.int .i64 a0_0, .int .i64 a0_1, .int .u32 a0_2, .int .i64 a0_3, .int .u32 a0_4, .int .i64 a0_5, .int .i64 a0_6, .int .i64 a0_7, .int .i64 a0_8, .int .i64 a0_9, .int .i64 a0_10, .bool a0_11], .agg #[.int .i64 a1_0, .int .i64 a1_1, .int .u32 a1_2, .int .i64 a1_3, .int .u32 a1_4, .int .i64 a1_5, .int .i64 a1_6, .int .i64 a1_7, .int .i64 a1_8, .int .i64 a1_9, .int .i64 a1_10, .bool a1_11]] (by rfl) rfl rfl (by (try simp only [List.map_toArray, List.map_cons, List.map_nil]); first | done | rfl | (simp only [List.length_drop, List.length_take]; rfl)) ?_
        with_reducible refine (gueriteref15_Covers.calls k a0_0 a0_1 a0_2 a0_3 a0_4 a0_5 a0_6 a0_7 a0_8 a0_9 a0_10 a0_11 a1_0 a1_1 a1_2 a1_3 a1_4 a1_5 a1_6 a1_7 a1_8 a1_9 a1_10 a1_11 t332 _ A5.out).mono ?_
        rintro e w63 ⟨rfl, hb⟩
        refine ⟨_, rfl, ?_⟩
        have n0_ := Aside0.mk (blk_below (g := gb328) (o := .cells #[.int .i64 a0_0, .int .i64 a0_1, .int .u32 a0_2, .int .i64 a0_3, .int .u32 a0_4, .int .i64 a0_5, .int .i64 a0_6, .int .i64 a0_7, .int .i64 a0_8, .int .i64 a0_9, .int .i64 a0_10, .bool a0_11] 42 (0, 0)) (by (with_reducible repeat (first | refine blk_drewN ?_ _ | refine blk_drew ?_ | refine blk_alloc ?_ _)); exact BK328.out) hb)
        have n1_ := Aside0.mk (blk_below (g := gb329) (o := .cells #[.int .i64 a1_0, .int .i64 a1_1, .int .u32 a1_2, .int .i64 a1_3, .int .u32 a1_4, .int .i64 a1_5, .int .i64 a1_6, .int .i64 a1_7, .int .i64 a1_8, .int .i64 a1_9, .int .i64 a1_10, .bool a1_11] 42 (0, 0)) (by (with_reducible repeat (first | refine blk_drewN ?_ _ | refine blk_drew ?_ | refine blk_alloc ?_ _)); exact BK329.out) hb)
        have n2_ := Aside0.mk (blk_below (g := gb330) (o := .cells #[.int .i64 a2_0, .int .i64 a2_1, .int .u32 a2_2, .int .u32 a2_3, .int .i64 a2_4, .int .i64 a2_5, .int .i64 a2_6] 46 (0, 0)) (by (with_reducible repeat (first | refine blk_drewN ?_ _ | refine blk_drew ?_ | refine blk_alloc ?_ _)); exact BK330.out) hb)
        have n3_ := Aside0.mk (below_step (by repeat (first | (with_reducible first | exact HB.out | apply below_alloc | apply pw_below_drewN | apply below_drew1 | refine below_set ?_ GE328.out | refine below_set ?_ GE329.out | refine below_set ?_ GE330.out) | exact HB.out)) hb)
        clear BK328
        clear BK329
        clear BK330
        clear HB
        have BK328 := n0_
        have BK329 := n1_
        have BK330 := n2_
        have HB := n3_
        clear n0_ n1_ n2_ n3_
        (try clear hb)
        (try clear hb2)
        (try clear hk)
        (try clear hi)
        refine hK.out _ _ ⟨(blk_cell BK328.out 0).trans rfl, (blk_cell BK328.out 1).trans rfl, (blk_cell BK328.out 2).trans rfl, (blk_cell BK328.out 3).trans rfl, (blk_cell BK328.out 4).trans rfl, (blk_cell BK328.out 5).trans rfl, (blk_cell BK328.out 6).trans rfl, (blk_cell BK328.out 7).trans rfl, (blk_cell BK328.out 8).trans rfl, (blk_cell BK328.out 9).trans rfl, (blk_cell BK328.out 10).trans rfl, (blk_cell BK328.out 11).trans rfl, (blk_cell BK329.out 0).trans rfl, (blk_cell BK329.out 1).trans rfl, (blk_cell BK329.out 2).trans rfl, (blk_cell BK329.out 3).trans rfl, (blk_cell BK329.out 4).trans rfl, (blk_cell BK329.out 5).trans rfl, (blk_cell BK329.out 6).trans rfl, (blk_cell BK329.out 7).trans rfl, (blk_cell BK329.out 8).trans rfl, (blk_cell BK329.out 9).trans rfl, (blk_cell BK329.out 10).trans rfl, (blk_cell BK329.out 11).trans rfl⟩ (fun hHeld => ?_)
        clear hK K
        refine norm_ (a' := ?_) ?_ ?_
        rotate_left
        · show Act.put _ (some 12) _ = _
          simp only [Act.put, List.setIfInBounds_toArray, List.set_cons_zero, List.set_cons_succ, i64_w, i32_w]
          rfl
        refine pure_ (i := 6) (N := some 13) (v := ?_) (a' := ?_) #[true, true, true, true, true, true, true] rfl rfl (by kernel_rfl) (fun _ _ _ h => h) (Or.inl ⟨by rfl, ?_⟩) ?_ ?_
        rotate_left
        · intro w'
          go_simp
          with_reducible rfl
        rotate_left
        · simp only [Act.put, List.setIfInBounds_toArray, List.set_cons_zero, List.set_cons_succ, i64_w, i32_w]
          rfl
        refine done_ (by kernel_rfl) ?_
        have hnb64 := NB328_329.out
        have hnc64 := NB329_328.out
        have hnb65 := NB328_330.out
        have hnc65 := NB330_328.out
        have hcz66_0 : w63.cell? ⟨gb328, 0, none⟩ = some (.int .i64 a0_0) := (blk_cell BK328.out 0).trans rfl
        have hcz66_1 : w63.cell? ⟨gb328, 1, none⟩ = some (.int .i64 a0_1) := (blk_cell BK328.out 1).trans rfl
        have hcz66_2 : w63.cell? ⟨gb328, 2, none⟩ = some (.int .u32 a0_2) := (blk_cell BK328.out 2).trans rfl
        have hcz66_3 : w63.cell? ⟨gb328, 3, none⟩ = some (.int .i64 a0_3) := (blk_cell BK328.out 3).trans rfl
        have hcz66_4 : w63.cell? ⟨gb328, 4, none⟩ = some (.int .u32 a0_4) := (blk_cell BK328.out 4).trans rfl
        have hcz66_5 : w63.cell? ⟨gb328, 5, none⟩ = some (.int .i64 a0_5) := (blk_cell BK328.out 5).trans rfl
        have hcz66_6 : w63.cell? ⟨gb328, 6, none⟩ = some (.int .i64 a0_6) := (blk_cell BK328.out 6).trans rfl
        have hcz66_7 : w63.cell? ⟨gb328, 7, none⟩ = some (.int .i64 a0_7) := (blk_cell BK328.out 7).trans rfl
        have hcz66_8 : w63.cell? ⟨gb328, 8, none⟩ = some (.int .i64 a0_8) := (blk_cell BK328.out 8).trans rfl
        have hcz66_9 : w63.cell? ⟨gb328, 9, none⟩ = some (.int .i64 a0_9) := (blk_cell BK328.out 9).trans rfl
        have hcz66_10 : w63.cell? ⟨gb328, 10, none⟩ = some (.int .i64 a0_10) := (blk_cell BK328.out 10).trans rfl
        have hcz66_11 : w63.cell? ⟨gb328, 11, none⟩ = some (.bool a0_11) := (blk_cell BK328.out 11).trans rfl
        have hfz66_0 := blk_frozen BK328.out 0
        have hfz66_1 := blk_frozen BK328.out 1
        have hfz66_2 := blk_frozen BK328.out 2
        have hfz66_3 := blk_frozen BK328.out 3
        have hfz66_4 := blk_frozen BK328.out 4
        have hfz66_5 := blk_frozen BK328.out 5
        have hfz66_6 := blk_frozen BK328.out 6
        have hfz66_7 := blk_frozen BK328.out 7
        have hfz66_8 := blk_frozen BK328.out 8
        have hfz66_9 := blk_frozen BK328.out 9
        have hfz66_10 := blk_frozen BK328.out 10
        have hfz66_11 := blk_frozen BK328.out 11
        have hnb67 := NB329_330.out
        have hnc67 := NB330_329.out
        have hcz68_0 : w63.cell? ⟨gb329, 0, none⟩ = some (.int .i64 a1_0) := (blk_cell BK329.out 0).trans rfl
        have hcz68_1 : w63.cell? ⟨gb329, 1, none⟩ = some (.int .i64 a1_1) := (blk_cell BK329.out 1).trans rfl
        have hcz68_2 : w63.cell? ⟨gb329, 2, none⟩ = some (.int .u32 a1_2) := (blk_cell BK329.out 2).trans rfl
        have hcz68_3 : w63.cell? ⟨gb329, 3, none⟩ = some (.int .i64 a1_3) := (blk_cell BK329.out 3).trans rfl
        have hcz68_4 : w63.cell? ⟨gb329, 4, none⟩ = some (.int .u32 a1_4) := (blk_cell BK329.out 4).trans rfl
        have hcz68_5 : w63.cell? ⟨gb329, 5, none⟩ = some (.int .i64 a1_5) := (blk_cell BK329.out 5).trans rfl
        have hcz68_6 : w63.cell? ⟨gb329, 6, none⟩ = some (.int .i64 a1_6) := (blk_cell BK329.out 6).trans rfl
        have hcz68_7 : w63.cell? ⟨gb329, 7, none⟩ = some (.int .i64 a1_7) := (blk_cell BK329.out 7).trans rfl
        have hcz68_8 : w63.cell? ⟨gb329, 8, none⟩ = some (.int .i64 a1_8) := (blk_cell BK329.out 8).trans rfl
        have hcz68_9 : w63.cell? ⟨gb329, 9, none⟩ = some (.int .i64 a1_9) := (blk_cell BK329.out 9).trans rfl
        have hcz68_10 : w63.cell? ⟨gb329, 10, none⟩ = some (.int .i64 a1_10) := (blk_cell BK329.out 10).trans rfl
        have hcz68_11 : w63.cell? ⟨gb329, 11, none⟩ = some (.bool a1_11) := (blk_cell BK329.out 11).trans rfl
        have hfz68_0 := blk_frozen BK329.out 0
        have hfz68_1 := blk_frozen BK329.out 1
        have hfz68_2 := blk_frozen BK329.out 2
        have hfz68_3 := blk_frozen BK329.out 3
        have hfz68_4 := blk_frozen BK329.out 4
        have hfz68_5 := blk_frozen BK329.out 5
        have hfz68_6 := blk_frozen BK329.out 6
        have hfz68_7 := blk_frozen BK329.out 7
        have hfz68_8 := blk_frozen BK329.out 8
        have hfz68_9 := blk_frozen BK329.out 9
        have hfz68_10 := blk_frozen BK329.out 10
        have hfz68_11 := blk_frozen BK329.out 11
        try go_wp2_with (first | ((with_reducible refine gate_callee (f := 27) rfl ?_); refine goesL_ (some 16) rfl rfl Try.func27 (by kernel_rfl) rfl #[.agg #[.int .i64 a0_0, .int .i64 a0_1, .int .u32 a0_2, .int .i64 a0_3, .int .u32 a0_4, .int .i64 a0_5, .int .i64 a0_6, .int .i64 a0_7, .int .i64 a0_8, .int .i64 a0_9, .int .i64 a0_10, .bool a0_11], .agg #[.int .i64 a1_0, .int .i64 a1_1, .int .u32 a1_2, .int .i64 a1_3, .int .u32 a1_4, .int .i64 a1_5, .int .i64 a1_6, .int .i64 a1_7, .int .i64 a1_8, .int .i64 a1_9, .int .i64 a1_10, .bool a1_11]] rfl (by (try simp only [List.map_toArray, List.map_cons, List.map_nil]); first | done | rfl | (simp only [List.length_drop, List.length_take]; rfl)) ?_; (with_reducible refine (rule_Covers.calls k a0_0 a0_1 a0_2 a0_3 a0_4 a0_5 a0_6 a0_7 a0_8 a0_9 a0_10 a0_11 a1_0 a1_1 a1_2 a1_3 a1_4 a1_5 a1_6 a1_7 a1_8 a1_9 a1_10 a1_11 true _ A13.out).mono ?_); rintro e w69 ⟨rfl, hb⟩; refine ⟨_, rfl, ?_⟩; have n0_ := Aside0.mk (blk_below (g := gb328) (o := .cells #[.int .i64 a0_0, .int .i64 a0_1, .int .u32 a0_2, .int .i64 a0_3, .int .u32 a0_4, .int .i64 a0_5, .int .i64 a0_6, .int .i64 a0_7, .int .i64 a0_8, .int .i64 a0_9, .int .i64 a0_10, .bool a0_11] 42 (0, 0)) (by (with_reducible repeat (first | refine blk_drewN ?_ _ | refine blk_drew ?_ | refine blk_alloc ?_ _)); exact BK328.out) hb); have n1_ := Aside0.mk (blk_below (g := gb329) (o := .cells #[.int .i64 a1_0, .int .i64 a1_1, .int .u32 a1_2, .int .i64 a1_3, .int .u32 a1_4, .int .i64 a1_5, .int .i64 a1_6, .int .i64 a1_7, .int .i64 a1_8, .int .i64 a1_9, .int .i64 a1_10, .bool a1_11] 42 (0, 0)) (by (with_reducible repeat (first | refine blk_drewN ?_ _ | refine blk_drew ?_ | refine blk_alloc ?_ _)); exact BK329.out) hb); have n2_ := Aside0.mk (blk_below (g := gb330) (o := .cells #[.int .i64 a2_0, .int .i64 a2_1, .int .u32 a2_2, .int .u32 a2_3, .int .i64 a2_4, .int .i64 a2_5, .int .i64 a2_6] 46 (0, 0)) (by (with_reducible repeat (first | refine blk_drewN ?_ _ | refine blk_drew ?_ | refine blk_alloc ?_ _)); exact BK330.out) hb); have n3_ := Aside0.mk (below_step (by repeat (first | (with_reducible first | exact HB.out | apply below_alloc | apply pw_below_drewN | apply below_drew1 | refine below_set ?_ GE328.out | refine below_set ?_ GE329.out | refine below_set ?_ GE330.out) | exact HB.out)) hb); clear BK328; clear BK329; clear BK330; clear HB; have BK328 := n0_; have BK329 := n1_; have BK330 := n2_; have HB := n3_; clear n0_ n1_ n2_ n3_; (try clear hb); (try clear hb2); (try clear hk); (try clear hi); have hcz70_0 : w69.cell? ⟨gb329, 0, none⟩ = some (.int .i64 a1_0) := (blk_cell BK329.out 0).trans rfl; have hcz70_1 : w69.cell? ⟨gb329, 1, none⟩ = some (.int .i64 a1_1) := (blk_cell BK329.out 1).trans rfl; have hcz70_2 : w69.cell? ⟨gb329, 2, none⟩ = some (.int .u32 a1_2) := (blk_cell BK329.out 2).trans rfl; have hcz70_3 : w69.cell? ⟨gb329, 3, none⟩ = some (.int .i64 a1_3) := (blk_cell BK329.out 3).trans rfl; have hcz70_4 : w69.cell? ⟨gb329, 4, none⟩ = some (.int .u32 a1_4) := (blk_cell BK329.out 4).trans rfl; have hcz70_5 : w69.cell? ⟨gb329, 5, none⟩ = some (.int .i64 a1_5) := (blk_cell BK329.out 5).trans rfl; have hcz70_6 : w69.cell? ⟨gb329, 6, none⟩ = some (.int .i64 a1_6) := (blk_cell BK329.out 6).trans rfl; have hcz70_7 : w69.cell? ⟨gb329, 7, none⟩ = some (.int .i64 a1_7) := (blk_cell BK329.out 7).trans rfl; have hcz70_8 : w69.cell? ⟨gb329, 8, none⟩ = some (.int .i64 a1_8) := (blk_cell BK329.out 8).trans rfl; have hcz70_9 : w69.cell? ⟨gb329, 9, none⟩ = some (.int .i64 a1_9) := (blk_cell BK329.out 9).trans rfl; have hcz70_10 : w69.cell? ⟨gb329, 10, none⟩ = some (.int .i64 a1_10) := (blk_cell BK329.out 10).trans rfl; have hcz70_11 : w69.cell? ⟨gb329, 11, none⟩ = some (.bool a1_11) := (blk_cell BK329.out 11).trans rfl; have hfz70_0 := blk_frozen BK329.out 0; have hfz70_1 := blk_frozen BK329.out 1; have hfz70_2 := blk_frozen BK329.out 2; have hfz70_3 := blk_frozen BK329.out 3; have hfz70_4 := blk_frozen BK329.out 4; have hfz70_5 := blk_frozen BK329.out 5; have hfz70_6 := blk_frozen BK329.out 6; have hfz70_7 := blk_frozen BK329.out 7; have hfz70_8 := blk_frozen BK329.out 8; have hfz70_9 := blk_frozen BK329.out 9; have hfz70_10 := blk_frozen BK329.out 10; have hfz70_11 := blk_frozen BK329.out 11; have hcz71_0 : w69.cell? ⟨gb330, 0, none⟩ = some (.int .i64 a2_0) := (blk_cell BK330.out 0).trans rfl; have hcz71_1 : w69.cell? ⟨gb330, 1, none⟩ = some (.int .i64 a2_1) := (blk_cell BK330.out 1).trans rfl; have hcz71_2 : w69.cell? ⟨gb330, 2, none⟩ = some (.int .u32 a2_2) := (blk_cell BK330.out 2).trans rfl; have hcz71_3 : w69.cell? ⟨gb330, 3, none⟩ = some (.int .u32 a2_3) := (blk_cell BK330.out 3).trans rfl; have hcz71_4 : w69.cell? ⟨gb330, 4, none⟩ = some (.int .i64 a2_4) := (blk_cell BK330.out 4).trans rfl; have hcz71_5 : w69.cell? ⟨gb330, 5, none⟩ = some (.int .i64 a2_5) := (blk_cell BK330.out 5).trans rfl; have hcz71_6 : w69.cell? ⟨gb330, 6, none⟩ = some (.int .i64 a2_6) := (blk_cell BK330.out 6).trans rfl; have hfz71_0 := blk_frozen BK330.out 0; have hfz71_1 := blk_frozen BK330.out 1; have hfz71_2 := blk_frozen BK330.out 2; have hfz71_3 := blk_frozen BK330.out 3; have hfz71_4 := blk_frozen BK330.out 4; have hfz71_5 := blk_frozen BK330.out 5; have hfz71_6 := blk_frozen BK330.out 6) | (go_at_call 21; (with_reducible refine (rule_Matches.calls k a1_0 a1_1 a1_2 a1_3 a1_4 a1_5 a1_6 a1_7 a1_8 a1_9 a1_10 a1_11 a2_0 a2_1 a2_2 a2_3 a2_4 a2_5 a2_6 false _ A15.out).mono ?_); rintro e w72 ⟨rfl, hb⟩; have n0_ := Aside0.mk (blk_below (g := gb328) (o := .cells #[.int .i64 a0_0, .int .i64 a0_1, .int .u32 a0_2, .int .i64 a0_3, .int .u32 a0_4, .int .i64 a0_5, .int .i64 a0_6, .int .i64 a0_7, .int .i64 a0_8, .int .i64 a0_9, .int .i64 a0_10, .bool a0_11] 42 (0, 0)) (by (with_reducible repeat (first | refine blk_drewN ?_ _ | refine blk_drew ?_ | refine blk_alloc ?_ _)); exact BK328.out) hb); have n1_ := Aside0.mk (blk_below (g := gb329) (o := .cells #[.int .i64 a1_0, .int .i64 a1_1, .int .u32 a1_2, .int .i64 a1_3, .int .u32 a1_4, .int .i64 a1_5, .int .i64 a1_6, .int .i64 a1_7, .int .i64 a1_8, .int .i64 a1_9, .int .i64 a1_10, .bool a1_11] 42 (0, 0)) (by (with_reducible repeat (first | refine blk_drewN ?_ _ | refine blk_drew ?_ | refine blk_alloc ?_ _)); exact BK329.out) hb); have n2_ := Aside0.mk (blk_below (g := gb330) (o := .cells #[.int .i64 a2_0, .int .i64 a2_1, .int .u32 a2_2, .int .u32 a2_3, .int .i64 a2_4, .int .i64 a2_5, .int .i64 a2_6] 46 (0, 0)) (by (with_reducible repeat (first | refine blk_drewN ?_ _ | refine blk_drew ?_ | refine blk_alloc ?_ _)); exact BK330.out) hb); have n3_ := Aside0.mk (below_step (by repeat (first | (with_reducible first | exact HB.out | apply below_alloc | apply pw_below_drewN | apply below_drew1 | refine below_set ?_ GE328.out | refine below_set ?_ GE329.out | refine below_set ?_ GE330.out) | exact HB.out)) hb); clear BK328; clear BK329; clear BK330; clear HB; have BK328 := n0_; have BK329 := n1_; have BK330 := n2_; have HB := n3_; clear n0_ n1_ n2_ n3_; (try clear hb); (try clear hb2); (try clear hk); (try clear hi)) | (go_at_call 19; (with_reducible refine (gueritelaw15_awake.calls  t337 _ A57.out).mono ?_); rintro e w73 ⟨rfl, hb⟩; have n0_ := Aside0.mk (blk_below (g := gb328) (o := .cells #[.int .i64 a0_0, .int .i64 a0_1, .int .u32 a0_2, .int .i64 a0_3, .int .u32 a0_4, .int .i64 a0_5, .int .i64 a0_6, .int .i64 a0_7, .int .i64 a0_8, .int .i64 a0_9, .int .i64 a0_10, .bool a0_11] 42 (0, 0)) (by (with_reducible repeat (first | refine blk_drewN ?_ _ | refine blk_drew ?_ | refine blk_alloc ?_ _)); exact BK328.out) hb); have n1_ := Aside0.mk (blk_below (g := gb329) (o := .cells #[.int .i64 a1_0, .int .i64 a1_1, .int .u32 a1_2, .int .i64 a1_3, .int .u32 a1_4, .int .i64 a1_5, .int .i64 a1_6, .int .i64 a1_7, .int .i64 a1_8, .int .i64 a1_9, .int .i64 a1_10, .bool a1_11] 42 (0, 0)) (by (with_reducible repeat (first | refine blk_drewN ?_ _ | refine blk_drew ?_ | refine blk_alloc ?_ _)); exact BK329.out) hb); have n2_ := Aside0.mk (blk_below (g := gb330) (o := .cells #[.int .i64 a2_0, .int .i64 a2_1, .int .u32 a2_2, .int .u32 a2_3, .int .i64 a2_4, .int .i64 a2_5, .int .i64 a2_6] 46 (0, 0)) (by (with_reducible repeat (first | refine blk_drewN ?_ _ | refine blk_drew ?_ | refine blk_alloc ?_ _)); exact BK330.out) hb); have n3_ := Aside0.mk (below_step (by repeat (first | (with_reducible first | exact HB.out | apply below_alloc | apply pw_below_drewN | apply below_drew1 | refine below_set ?_ GE328.out | refine below_set ?_ GE329.out | refine below_set ?_ GE330.out) | exact HB.out)) hb); clear BK328; clear BK329; clear BK330; clear HB; have BK328 := n0_; have BK329 := n1_; have BK330 := n2_; have HB := n3_; clear n0_ n1_ n2_ n3_; (try clear hb); (try clear hb2); (try clear hk); (try clear hi)))
        go_ret
        exact ⟨by first | rfl | (simp [errW_none, errW_some] <;> rfl) | (simp [*, errW_none, errW_some] <;> rfl), by repeat (first | (with_reducible first | exact HB.out | apply below_alloc | apply pw_below_drewN | apply below_drew1 | refine below_set ?_ GE328.out | refine below_set ?_ GE329.out | refine below_set ?_ GE330.out) | exact HB.out)⟩
    · replace c14 := Bool.eq_false_iff.mpr c14
      subst c14
      have H1 : ((gueritelaw15_awake.f).bind fun t338 => (some t338)) = some r := by rw [if_neg (show ¬ (false = true) by decide)] at H; exact H
      clear H
      have H := H1
      clear H1
      replace H := Option.bind_eq_some_iff.mp H
      obtain ⟨t338, A740, H⟩ := H
      replace H : (some t338) = some r := H
      have A74 := Aside0.mk A740
      clear A740
      obtain rfl := Option.some.inj H
      go_enter Try.func8, Try.ntmps8
      try go_wp2_with (first | ((with_reducible refine gate_dst (N := 3) rfl ?_); refine box_event ?hg (N := 3) ?hd (cs := #[.int .i64 a0_0, .int .i64 a0_1, .int .u32 a0_2, .int .i64 a0_3, .int .u32 a0_4, .int .i64 a0_5, .int .i64 a0_6, .int .i64 a0_7, .int .i64 a0_8, .int .i64 a0_9, .int .i64 a0_10, .bool a0_11]) (t := 42) ?hr ?_; (case hd => rfl); (case hg => rfl); (case hr => first | (go_simp; done) | (go_simp; rfl)); intro gb328 hg w75 hbox hb; have n0_ := Aside0.mk (below_step (by repeat (first | (with_reducible first | exact HB.out | apply below_alloc | apply pw_below_drewN | apply below_drew1) | exact HB.out)) hb); have n1_ := Aside0.mk (hbox); have n2_ := Aside0.mk ((by rw [hg]; exact (below_size (by repeat (first | (with_reducible first | exact HB.out | apply below_alloc | apply pw_below_drewN | apply below_drew1) | exact HB.out))) : w.heap.size ≤ gb328)); have n3_ := Aside0.mk ((by rw [hg]; exact (below_size (by repeat (first | (with_reducible first | exact HB.out | apply below_alloc | apply pw_below_drewN | apply below_drew1) | exact HB.out))) : w.heap.size ≤ gb328)); clear HB; have HB := n0_; have BK328 := n1_; have GW328 := n2_; have GE328 := n3_; clear n0_ n1_ n2_ n3_; clear hb hbox hg) | ((with_reducible refine gate_dst (N := 4) rfl ?_); refine box_event ?hg (N := 4) ?hd (cs := #[.int .i64 a1_0, .int .i64 a1_1, .int .u32 a1_2, .int .i64 a1_3, .int .u32 a1_4, .int .i64 a1_5, .int .i64 a1_6, .int .i64 a1_7, .int .i64 a1_8, .int .i64 a1_9, .int .i64 a1_10, .bool a1_11]) (t := 42) ?hr ?_; (case hd => rfl); (case hg => rfl); (case hr => first | (go_simp; done) | (go_simp; rfl)); intro gb329 hg w76 hbox hb; have n0_ := Aside0.mk (blk_below (g := gb328) (o := .cells #[.int .i64 a0_0, .int .i64 a0_1, .int .u32 a0_2, .int .i64 a0_3, .int .u32 a0_4, .int .i64 a0_5, .int .i64 a0_6, .int .i64 a0_7, .int .i64 a0_8, .int .i64 a0_9, .int .i64 a0_10, .bool a0_11] 42 (0, 0)) (by (with_reducible repeat (first | refine blk_drewN ?_ _ | refine blk_drew ?_ | refine blk_alloc ?_ _)); exact BK328.out) hb); have n1_ := Aside0.mk (below_step (by repeat (first | (with_reducible first | exact HB.out | apply below_alloc | apply pw_below_drewN | apply below_drew1 | refine below_set ?_ GE328.out) | exact HB.out)) hb); have n2_ := Aside0.mk (hbox); have n3_ := Aside0.mk ((by rw [hg]; exact (below_size (by repeat (first | (with_reducible first | exact HB.out | apply below_alloc | apply pw_below_drewN | apply below_drew1 | refine below_set ?_ GE328.out) | exact HB.out))) : w.heap.size ≤ gb329)); have n4_ := Aside0.mk ((by rw [hg]; exact (below_size (by repeat (first | (with_reducible first | exact HB.out | apply below_alloc | apply pw_below_drewN | apply below_drew1 | refine below_set ?_ GE328.out) | exact HB.out))) : w.heap.size ≤ gb329)); have n5_ := Aside0.mk ((by rw [hg]; exact Nat.ne_of_lt (blk_lt (g := gb328) (o := .cells #[.int .i64 a0_0, .int .i64 a0_1, .int .u32 a0_2, .int .i64 a0_3, .int .u32 a0_4, .int .i64 a0_5, .int .i64 a0_6, .int .i64 a0_7, .int .i64 a0_8, .int .i64 a0_9, .int .i64 a0_10, .bool a0_11] 42 (0, 0)) (by (with_reducible repeat (first | refine blk_drewN ?_ _ | refine blk_drew ?_ | refine blk_alloc ?_ _)); exact BK328.out)) : gb328 ≠ gb329)); have n6_ := Aside0.mk ((by rw [hg]; exact Nat.ne_of_gt (blk_lt (g := gb328) (o := .cells #[.int .i64 a0_0, .int .i64 a0_1, .int .u32 a0_2, .int .i64 a0_3, .int .u32 a0_4, .int .i64 a0_5, .int .i64 a0_6, .int .i64 a0_7, .int .i64 a0_8, .int .i64 a0_9, .int .i64 a0_10, .bool a0_11] 42 (0, 0)) (by (with_reducible repeat (first | refine blk_drewN ?_ _ | refine blk_drew ?_ | refine blk_alloc ?_ _)); exact BK328.out)) : gb329 ≠ gb328)); clear BK328; clear HB; have BK328 := n0_; have HB := n1_; have BK329 := n2_; have GW329 := n3_; have GE329 := n4_; have NB328_329 := n5_; have NB329_328 := n6_; clear n0_ n1_ n2_ n3_ n4_ n5_ n6_; clear hb hbox hg) | ((with_reducible refine gate_dst (N := 5) rfl ?_); refine box_event ?hg (N := 5) ?hd (cs := #[.int .i64 a2_0, .int .i64 a2_1, .int .u32 a2_2, .int .u32 a2_3, .int .i64 a2_4, .int .i64 a2_5, .int .i64 a2_6]) (t := 46) ?hr ?_; (case hd => rfl); (case hg => rfl); (case hr => first | (go_simp; done) | (go_simp; rfl)); intro gb330 hg w77 hbox hb; have n0_ := Aside0.mk (blk_below (g := gb328) (o := .cells #[.int .i64 a0_0, .int .i64 a0_1, .int .u32 a0_2, .int .i64 a0_3, .int .u32 a0_4, .int .i64 a0_5, .int .i64 a0_6, .int .i64 a0_7, .int .i64 a0_8, .int .i64 a0_9, .int .i64 a0_10, .bool a0_11] 42 (0, 0)) (by (with_reducible repeat (first | refine blk_drewN ?_ _ | refine blk_drew ?_ | refine blk_alloc ?_ _)); exact BK328.out) hb); have n1_ := Aside0.mk (blk_below (g := gb329) (o := .cells #[.int .i64 a1_0, .int .i64 a1_1, .int .u32 a1_2, .int .i64 a1_3, .int .u32 a1_4, .int .i64 a1_5, .int .i64 a1_6, .int .i64 a1_7, .int .i64 a1_8, .int .i64 a1_9, .int .i64 a1_10, .bool a1_11] 42 (0, 0)) (by (with_reducible repeat (first | refine blk_drewN ?_ _ | refine blk_drew ?_ | refine blk_alloc ?_ _)); exact BK329.out) hb); have n2_ := Aside0.mk (below_step (by repeat (first | (with_reducible first | exact HB.out | apply below_alloc | apply pw_below_drewN | apply below_drew1 | refine below_set ?_ GE328.out | refine below_set ?_ GE329.out) | exact HB.out)) hb); have n3_ := Aside0.mk (hbox); have n4_ := Aside0.mk ((by rw [hg]; exact (below_size (by repeat (first | (with_reducible first | exact HB.out | apply below_alloc | apply pw_below_drewN | apply below_drew1 | refine below_set ?_ GE328.out | refine below_set ?_ GE329.out) | exact HB.out))) : w.heap.size ≤ gb330)); have n5_ := Aside0.mk ((by rw [hg]; exact (below_size (by repeat (first | (with_reducible first | exact HB.out | apply below_alloc | apply pw_below_drewN | apply below_drew1 | refine below_set ?_ GE328.out | refine below_set ?_ GE329.out) | exact HB.out))) : w.heap.size ≤ gb330)); have n6_ := Aside0.mk ((by rw [hg]; exact Nat.ne_of_lt (blk_lt (g := gb328) (o := .cells #[.int .i64 a0_0, .int .i64 a0_1, .int .u32 a0_2, .int .i64 a0_3, .int .u32 a0_4, .int .i64 a0_5, .int .i64 a0_6, .int .i64 a0_7, .int .i64 a0_8, .int .i64 a0_9, .int .i64 a0_10, .bool a0_11] 42 (0, 0)) (by (with_reducible repeat (first | refine blk_drewN ?_ _ | refine blk_drew ?_ | refine blk_alloc ?_ _)); exact BK328.out)) : gb328 ≠ gb330)); have n7_ := Aside0.mk ((by rw [hg]; exact Nat.ne_of_gt (blk_lt (g := gb328) (o := .cells #[.int .i64 a0_0, .int .i64 a0_1, .int .u32 a0_2, .int .i64 a0_3, .int .u32 a0_4, .int .i64 a0_5, .int .i64 a0_6, .int .i64 a0_7, .int .i64 a0_8, .int .i64 a0_9, .int .i64 a0_10, .bool a0_11] 42 (0, 0)) (by (with_reducible repeat (first | refine blk_drewN ?_ _ | refine blk_drew ?_ | refine blk_alloc ?_ _)); exact BK328.out)) : gb330 ≠ gb328)); have n8_ := Aside0.mk ((by rw [hg]; exact Nat.ne_of_lt (blk_lt (g := gb329) (o := .cells #[.int .i64 a1_0, .int .i64 a1_1, .int .u32 a1_2, .int .i64 a1_3, .int .u32 a1_4, .int .i64 a1_5, .int .i64 a1_6, .int .i64 a1_7, .int .i64 a1_8, .int .i64 a1_9, .int .i64 a1_10, .bool a1_11] 42 (0, 0)) (by (with_reducible repeat (first | refine blk_drewN ?_ _ | refine blk_drew ?_ | refine blk_alloc ?_ _)); exact BK329.out)) : gb329 ≠ gb330)); have n9_ := Aside0.mk ((by rw [hg]; exact Nat.ne_of_gt (blk_lt (g := gb329) (o := .cells #[.int .i64 a1_0, .int .i64 a1_1, .int .u32 a1_2, .int .i64 a1_3, .int .u32 a1_4, .int .i64 a1_5, .int .i64 a1_6, .int .i64 a1_7, .int .i64 a1_8, .int .i64 a1_9, .int .i64 a1_10, .bool a1_11] 42 (0, 0)) (by (with_reducible repeat (first | refine blk_drewN ?_ _ | refine blk_drew ?_ | refine blk_alloc ?_ _)); exact BK329.out)) : gb330 ≠ gb329)); clear BK328; clear BK329; clear HB; have BK328 := n0_; have BK329 := n1_; have HB := n2_; have BK330 := n3_; have GW330 := n4_; have GE330 := n5_; have NB328_330 := n6_; have NB330_328 := n7_; have NB329_330 := n8_; have NB330_329 := n9_; clear n0_ n1_ n2_ n3_ n4_ n5_ n6_ n7_ n8_ n9_; clear hb hbox hg))
      have n0_ := Aside0.mk (blk_drew BK328.out)
      have n1_ := Aside0.mk (blk_drew BK329.out)
      have n2_ := Aside0.mk (blk_drew BK330.out)
      have n3_ := Aside0.mk (below_drew1 HB.out)
      clear BK328
      clear BK329
      clear BK330
      clear HB
      have BK328 := n0_
      have BK329 := n1_
      have BK330 := n2_
      have HB := n3_
      clear n0_ n1_ n2_ n3_
      refine start_ (n := 7) (S := fun w' => w'.cell? ⟨gb328, 0, none⟩ = some (.int .i64 a0_0) ∧ w'.cell? ⟨gb328, 1, none⟩ = some (.int .i64 a0_1) ∧ w'.cell? ⟨gb328, 2, none⟩ = some (.int .u32 a0_2) ∧ w'.cell? ⟨gb328, 3, none⟩ = some (.int .i64 a0_3) ∧ w'.cell? ⟨gb328, 4, none⟩ = some (.int .u32 a0_4) ∧ w'.cell? ⟨gb328, 5, none⟩ = some (.int .i64 a0_5) ∧ w'.cell? ⟨gb328, 6, none⟩ = some (.int .i64 a0_6) ∧ w'.cell? ⟨gb328, 7, none⟩ = some (.int .i64 a0_7) ∧ w'.cell? ⟨gb328, 8, none⟩ = some (.int .i64 a0_8) ∧ w'.cell? ⟨gb328, 9, none⟩ = some (.int .i64 a0_9) ∧ w'.cell? ⟨gb328, 10, none⟩ = some (.int .i64 a0_10) ∧ w'.cell? ⟨gb328, 11, none⟩ = some (.bool a0_11) ∧ w'.cell? ⟨gb329, 0, none⟩ = some (.int .i64 a1_0) ∧ w'.cell? ⟨gb329, 1, none⟩ = some (.int .i64 a1_1) ∧ w'.cell? ⟨gb329, 2, none⟩ = some (.int .u32 a1_2) ∧ w'.cell? ⟨gb329, 3, none⟩ = some (.int .i64 a1_3) ∧ w'.cell? ⟨gb329, 4, none⟩ = some (.int .u32 a1_4) ∧ w'.cell? ⟨gb329, 5, none⟩ = some (.int .i64 a1_5) ∧ w'.cell? ⟨gb329, 6, none⟩ = some (.int .i64 a1_6) ∧ w'.cell? ⟨gb329, 7, none⟩ = some (.int .i64 a1_7) ∧ w'.cell? ⟨gb329, 8, none⟩ = some (.int .i64 a1_8) ∧ w'.cell? ⟨gb329, 9, none⟩ = some (.int .i64 a1_9) ∧ w'.cell? ⟨gb329, 10, none⟩ = some (.int .i64 a1_10) ∧ w'.cell? ⟨gb329, 11, none⟩ = some (.bool a1_11)) (ds := []) #[false, false, false, false, false, false, false] (by kernel_rfl) rfl rfl ⟨(blk_cell BK328.out 0).trans rfl, (blk_cell BK328.out 1).trans rfl, (blk_cell BK328.out 2).trans rfl, (blk_cell BK328.out 3).trans rfl, (blk_cell BK328.out 4).trans rfl, (blk_cell BK328.out 5).trans rfl, (blk_cell BK328.out 6).trans rfl, (blk_cell BK328.out 7).trans rfl, (blk_cell BK328.out 8).trans rfl, (blk_cell BK328.out 9).trans rfl, (blk_cell BK328.out 10).trans rfl, (blk_cell BK328.out 11).trans rfl, (blk_cell BK329.out 0).trans rfl, (blk_cell BK329.out 1).trans rfl, (blk_cell BK329.out 2).trans rfl, (blk_cell BK329.out 3).trans rfl, (blk_cell BK329.out 4).trans rfl, (blk_cell BK329.out 5).trans rfl, (blk_cell BK329.out 6).trans rfl, (blk_cell BK329.out 7).trans rfl, (blk_cell BK329.out 8).trans rfl, (blk_cell BK329.out 9).trans rfl, (blk_cell BK329.out 10).trans rfl, (blk_cell BK329.out 11).trans rfl⟩ (fun hHeld => ?_)
      generalize w77.drew = w78 at BK328 BK329 BK330 HB hHeld ⊢
      refine take_ (i := 0) (N := some 7) (v := ?_) (a' := ?_) #[true, false, false, false, false, false, false] rfl rfl (by kernel_rfl) (fun _ _ _ h => h) (Or.inl ⟨by rfl, ?_⟩) hHeld ?_ ?_
      rotate_left
      · rintro w' ⟨s0, s1, s2, s3, s4, s5, s6, s7, s8, s9, s10, s11, s12, s13, s14, s15, s16, s17, s18, s19, s20, s21, s22, s23⟩
        go_simp
        with_reducible rfl
      rotate_left
      · simp only [Act.put, List.setIfInBounds_toArray, List.set_cons_zero, List.set_cons_succ, i64_w, i32_w]
        rfl
      refine take_ (i := 1) (N := some 8) (v := ?_) (a' := ?_) #[true, true, false, false, false, false, false] rfl rfl (by kernel_rfl) (fun _ _ _ h => h) (Or.inl ⟨by rfl, ?_⟩) hHeld ?_ ?_
      rotate_left
      · rintro w' ⟨s0, s1, s2, s3, s4, s5, s6, s7, s8, s9, s10, s11, s12, s13, s14, s15, s16, s17, s18, s19, s20, s21, s22, s23⟩
        go_simp
        with_reducible rfl
      rotate_left
      · simp only [Act.put, List.setIfInBounds_toArray, List.set_cons_zero, List.set_cons_succ, i64_w, i32_w]
        rfl
      refine take_ (i := 3) (N := some 10) (v := ?_) (a' := ?_) #[true, true, false, true, false, false, false] rfl rfl (by kernel_rfl) (fun _ _ _ h => h) (Or.inl ⟨by rfl, ?_⟩) hHeld ?_ ?_
      rotate_left
      · rintro w' ⟨s0, s1, s2, s3, s4, s5, s6, s7, s8, s9, s10, s11, s12, s13, s14, s15, s16, s17, s18, s19, s20, s21, s22, s23⟩
        go_simp
        with_reducible rfl
      rotate_left
      · simp only [Act.put, List.setIfInBounds_toArray, List.set_cons_zero, List.set_cons_succ, i64_w, i32_w]
        rfl
      refine take_ (i := 4) (N := some 11) (v := ?_) (a' := ?_) #[true, true, false, true, true, false, false] rfl rfl (by kernel_rfl) (fun _ _ _ h => h) (Or.inl ⟨by rfl, ?_⟩) hHeld ?_ ?_
      rotate_left
      · rintro w' ⟨s0, s1, s2, s3, s4, s5, s6, s7, s8, s9, s10, s11, s12, s13, s14, s15, s16, s17, s18, s19, s20, s21, s22, s23⟩
        go_simp
        with_reducible rfl
      rotate_left
      · simp only [Act.put, List.setIfInBounds_toArray, List.set_cons_zero, List.set_cons_succ, i64_w, i32_w]
        rfl
      refine one_ (i := 2) (N := some 9) #[true, true, true, true, true, false, false] rfl rfl (by kernel_rfl) (by decide) (fun K hK => ?_)
      refine goes_ Try.func27 (by kernel_rfl) rfl #[.agg #[.int .i64 a0_0, .int .i64 a0_1, .int .u32 a0_2, .int .i64 a0_3, .int .u32 a0_4, .int .i64 a0_5, .int .i64 a0_6, .int .i64 a0_7, .int .i64 a0_8, .int .i64 a0_9, .int .i64 a0_10, .bool a0_11], .agg #[.int .i64 a1_0, .int .i64 a1_1, .int .u32 a1_2, .int .i64 a1_3, .int .u32 a1_4, .int .i64 a1_5, .int .i64 a1_6, .int .i64 a1_7, .int .i64 a1_8, .int .i64 a1_9, .int .i64 a1_10, .bool a1_11]] (by rfl) rfl rfl (by (try simp only [List.map_toArray, List.map_cons, List.map_nil]); first | done | rfl | (simp only [List.length_drop, List.length_take]; rfl)) ?_
      with_reducible refine (rule_Covers.calls k a0_0 a0_1 a0_2 a0_3 a0_4 a0_5 a0_6 a0_7 a0_8 a0_9 a0_10 a0_11 a1_0 a1_1 a1_2 a1_3 a1_4 a1_5 a1_6 a1_7 a1_8 a1_9 a1_10 a1_11 t331 _ A4.out).mono ?_
      rintro e w79 ⟨rfl, hb⟩
      refine ⟨_, rfl, ?_⟩
      have n0_ := Aside0.mk (blk_below (g := gb328) (o := .cells #[.int .i64 a0_0, .int .i64 a0_1, .int .u32 a0_2, .int .i64 a0_3, .int .u32 a0_4, .int .i64 a0_5, .int .i64 a0_6, .int .i64 a0_7, .int .i64 a0_8, .int .i64 a0_9, .int .i64 a0_10, .bool a0_11] 42 (0, 0)) (by (with_reducible repeat (first | refine blk_drewN ?_ _ | refine blk_drew ?_ | refine blk_alloc ?_ _)); exact BK328.out) hb)
      have n1_ := Aside0.mk (blk_below (g := gb329) (o := .cells #[.int .i64 a1_0, .int .i64 a1_1, .int .u32 a1_2, .int .i64 a1_3, .int .u32 a1_4, .int .i64 a1_5, .int .i64 a1_6, .int .i64 a1_7, .int .i64 a1_8, .int .i64 a1_9, .int .i64 a1_10, .bool a1_11] 42 (0, 0)) (by (with_reducible repeat (first | refine blk_drewN ?_ _ | refine blk_drew ?_ | refine blk_alloc ?_ _)); exact BK329.out) hb)
      have n2_ := Aside0.mk (blk_below (g := gb330) (o := .cells #[.int .i64 a2_0, .int .i64 a2_1, .int .u32 a2_2, .int .u32 a2_3, .int .i64 a2_4, .int .i64 a2_5, .int .i64 a2_6] 46 (0, 0)) (by (with_reducible repeat (first | refine blk_drewN ?_ _ | refine blk_drew ?_ | refine blk_alloc ?_ _)); exact BK330.out) hb)
      have n3_ := Aside0.mk (below_step (by repeat (first | (with_reducible first | exact HB.out | apply below_alloc | apply pw_below_drewN | apply below_drew1 | refine below_set ?_ GE328.out | refine below_set ?_ GE329.out | refine below_set ?_ GE330.out) | exact HB.out)) hb)
      clear BK328
      clear BK329
      clear BK330
      clear HB
      have BK328 := n0_
      have BK329 := n1_
      have BK330 := n2_
      have HB := n3_
      clear n0_ n1_ n2_ n3_
      (try clear hb)
      (try clear hb2)
      (try clear hk)
      (try clear hi)
      refine hK.out _ _ ⟨(blk_cell BK328.out 0).trans rfl, (blk_cell BK328.out 1).trans rfl, (blk_cell BK328.out 2).trans rfl, (blk_cell BK328.out 3).trans rfl, (blk_cell BK328.out 4).trans rfl, (blk_cell BK328.out 5).trans rfl, (blk_cell BK328.out 6).trans rfl, (blk_cell BK328.out 7).trans rfl, (blk_cell BK328.out 8).trans rfl, (blk_cell BK328.out 9).trans rfl, (blk_cell BK328.out 10).trans rfl, (blk_cell BK328.out 11).trans rfl, (blk_cell BK329.out 0).trans rfl, (blk_cell BK329.out 1).trans rfl, (blk_cell BK329.out 2).trans rfl, (blk_cell BK329.out 3).trans rfl, (blk_cell BK329.out 4).trans rfl, (blk_cell BK329.out 5).trans rfl, (blk_cell BK329.out 6).trans rfl, (blk_cell BK329.out 7).trans rfl, (blk_cell BK329.out 8).trans rfl, (blk_cell BK329.out 9).trans rfl, (blk_cell BK329.out 10).trans rfl, (blk_cell BK329.out 11).trans rfl⟩ (fun hHeld => ?_)
      clear hK K
      refine norm_ (a' := ?_) ?_ ?_
      rotate_left
      · show Act.put _ (some 9) _ = _
        simp only [Act.put, List.setIfInBounds_toArray, List.set_cons_zero, List.set_cons_succ, i64_w, i32_w]
        rfl
      refine one_ (i := 5) (N := some 12) #[true, true, true, true, true, true, false] rfl rfl (by kernel_rfl) (by decide) (fun K hK => ?_)
      refine goes_ Try.func28 (by kernel_rfl) rfl #[.agg #[.int .i64 a0_0, .int .i64 a0_1, .int .u32 a0_2, .int .i64 a0_3, .int .u32 a0_4, .int .i64 a0_5, .int .i64 a0_6, .int .i64 a0_7, .int .i64 a0_8, .int .i64 a0_9, .int .i64 a0_10, .bool a0_11], .agg #[.int .i64 a1_0, .int .i64 a1_1, .int .u32 a1_2, .int .i64 a1_3, .int .u32 a1_4, .int .i64 a1_5, .int .i64 a1_6, .int .i64 a1_7, .int .i64 a1_8, .int .i64 a1_9, .int .i64 a1_10, .bool a1_11]] (by rfl) rfl rfl (by (try simp only [List.map_toArray, List.map_cons, List.map_nil]); first | done | rfl | (simp only [List.length_drop, List.length_take]; rfl)) ?_
      with_reducible refine (gueriteref15_Covers.calls k a0_0 a0_1 a0_2 a0_3 a0_4 a0_5 a0_6 a0_7 a0_8 a0_9 a0_10 a0_11 a1_0 a1_1 a1_2 a1_3 a1_4 a1_5 a1_6 a1_7 a1_8 a1_9 a1_10 a1_11 t332 _ A5.out).mono ?_
      rintro e w80 ⟨rfl, hb⟩
      refine ⟨_, rfl, ?_⟩
      have n0_ := Aside0.mk (blk_below (g := gb328) (o := .cells #[.int .i64 a0_0, .int .i64 a0_1, .int .u32 a0_2, .int .i64 a0_3, .int .u32 a0_4, .int .i64 a0_5, .int .i64 a0_6, .int .i64 a0_7, .int .i64 a0_8, .int .i64 a0_9, .int .i64 a0_10, .bool a0_11] 42 (0, 0)) (by (with_reducible repeat (first | refine blk_drewN ?_ _ | refine blk_drew ?_ | refine blk_alloc ?_ _)); exact BK328.out) hb)
      have n1_ := Aside0.mk (blk_below (g := gb329) (o := .cells #[.int .i64 a1_0, .int .i64 a1_1, .int .u32 a1_2, .int .i64 a1_3, .int .u32 a1_4, .int .i64 a1_5, .int .i64 a1_6, .int .i64 a1_7, .int .i64 a1_8, .int .i64 a1_9, .int .i64 a1_10, .bool a1_11] 42 (0, 0)) (by (with_reducible repeat (first | refine blk_drewN ?_ _ | refine blk_drew ?_ | refine blk_alloc ?_ _)); exact BK329.out) hb)
      have n2_ := Aside0.mk (blk_below (g := gb330) (o := .cells #[.int .i64 a2_0, .int .i64 a2_1, .int .u32 a2_2, .int .u32 a2_3, .int .i64 a2_4, .int .i64 a2_5, .int .i64 a2_6] 46 (0, 0)) (by (with_reducible repeat (first | refine blk_drewN ?_ _ | refine blk_drew ?_ | refine blk_alloc ?_ _)); exact BK330.out) hb)
      have n3_ := Aside0.mk (below_step (by repeat (first | (with_reducible first | exact HB.out | apply below_alloc | apply pw_below_drewN | apply below_drew1 | refine below_set ?_ GE328.out | refine below_set ?_ GE329.out | refine below_set ?_ GE330.out) | exact HB.out)) hb)
      clear BK328
      clear BK329
      clear BK330
      clear HB
      have BK328 := n0_
      have BK329 := n1_
      have BK330 := n2_
      have HB := n3_
      clear n0_ n1_ n2_ n3_
      (try clear hb)
      (try clear hb2)
      (try clear hk)
      (try clear hi)
      refine hK.out _ _ ⟨(blk_cell BK328.out 0).trans rfl, (blk_cell BK328.out 1).trans rfl, (blk_cell BK328.out 2).trans rfl, (blk_cell BK328.out 3).trans rfl, (blk_cell BK328.out 4).trans rfl, (blk_cell BK328.out 5).trans rfl, (blk_cell BK328.out 6).trans rfl, (blk_cell BK328.out 7).trans rfl, (blk_cell BK328.out 8).trans rfl, (blk_cell BK328.out 9).trans rfl, (blk_cell BK328.out 10).trans rfl, (blk_cell BK328.out 11).trans rfl, (blk_cell BK329.out 0).trans rfl, (blk_cell BK329.out 1).trans rfl, (blk_cell BK329.out 2).trans rfl, (blk_cell BK329.out 3).trans rfl, (blk_cell BK329.out 4).trans rfl, (blk_cell BK329.out 5).trans rfl, (blk_cell BK329.out 6).trans rfl, (blk_cell BK329.out 7).trans rfl, (blk_cell BK329.out 8).trans rfl, (blk_cell BK329.out 9).trans rfl, (blk_cell BK329.out 10).trans rfl, (blk_cell BK329.out 11).trans rfl⟩ (fun hHeld => ?_)
      clear hK K
      refine norm_ (a' := ?_) ?_ ?_
      rotate_left
      · show Act.put _ (some 12) _ = _
        simp only [Act.put, List.setIfInBounds_toArray, List.set_cons_zero, List.set_cons_succ, i64_w, i32_w]
        rfl
      refine pure_ (i := 6) (N := some 13) (v := ?_) (a' := ?_) #[true, true, true, true, true, true, true] rfl rfl (by kernel_rfl) (fun _ _ _ h => h) (Or.inl ⟨by rfl, ?_⟩) ?_ ?_
      rotate_left
      · intro w'
        go_simp
        with_reducible rfl
      rotate_left
      · simp only [Act.put, List.setIfInBounds_toArray, List.set_cons_zero, List.set_cons_succ, i64_w, i32_w]
        rfl
      refine done_ (by kernel_rfl) ?_
      have hnb81 := NB328_329.out
      have hnc81 := NB329_328.out
      have hnb82 := NB328_330.out
      have hnc82 := NB330_328.out
      have hcz83_0 : w80.cell? ⟨gb328, 0, none⟩ = some (.int .i64 a0_0) := (blk_cell BK328.out 0).trans rfl
      have hcz83_1 : w80.cell? ⟨gb328, 1, none⟩ = some (.int .i64 a0_1) := (blk_cell BK328.out 1).trans rfl
      have hcz83_2 : w80.cell? ⟨gb328, 2, none⟩ = some (.int .u32 a0_2) := (blk_cell BK328.out 2).trans rfl
      have hcz83_3 : w80.cell? ⟨gb328, 3, none⟩ = some (.int .i64 a0_3) := (blk_cell BK328.out 3).trans rfl
      have hcz83_4 : w80.cell? ⟨gb328, 4, none⟩ = some (.int .u32 a0_4) := (blk_cell BK328.out 4).trans rfl
      have hcz83_5 : w80.cell? ⟨gb328, 5, none⟩ = some (.int .i64 a0_5) := (blk_cell BK328.out 5).trans rfl
      have hcz83_6 : w80.cell? ⟨gb328, 6, none⟩ = some (.int .i64 a0_6) := (blk_cell BK328.out 6).trans rfl
      have hcz83_7 : w80.cell? ⟨gb328, 7, none⟩ = some (.int .i64 a0_7) := (blk_cell BK328.out 7).trans rfl
      have hcz83_8 : w80.cell? ⟨gb328, 8, none⟩ = some (.int .i64 a0_8) := (blk_cell BK328.out 8).trans rfl
      have hcz83_9 : w80.cell? ⟨gb328, 9, none⟩ = some (.int .i64 a0_9) := (blk_cell BK328.out 9).trans rfl
      have hcz83_10 : w80.cell? ⟨gb328, 10, none⟩ = some (.int .i64 a0_10) := (blk_cell BK328.out 10).trans rfl
      have hcz83_11 : w80.cell? ⟨gb328, 11, none⟩ = some (.bool a0_11) := (blk_cell BK328.out 11).trans rfl
      have hfz83_0 := blk_frozen BK328.out 0
      have hfz83_1 := blk_frozen BK328.out 1
      have hfz83_2 := blk_frozen BK328.out 2
      have hfz83_3 := blk_frozen BK328.out 3
      have hfz83_4 := blk_frozen BK328.out 4
      have hfz83_5 := blk_frozen BK328.out 5
      have hfz83_6 := blk_frozen BK328.out 6
      have hfz83_7 := blk_frozen BK328.out 7
      have hfz83_8 := blk_frozen BK328.out 8
      have hfz83_9 := blk_frozen BK328.out 9
      have hfz83_10 := blk_frozen BK328.out 10
      have hfz83_11 := blk_frozen BK328.out 11
      have hnb84 := NB329_330.out
      have hnc84 := NB330_329.out
      have hcz85_0 : w80.cell? ⟨gb329, 0, none⟩ = some (.int .i64 a1_0) := (blk_cell BK329.out 0).trans rfl
      have hcz85_1 : w80.cell? ⟨gb329, 1, none⟩ = some (.int .i64 a1_1) := (blk_cell BK329.out 1).trans rfl
      have hcz85_2 : w80.cell? ⟨gb329, 2, none⟩ = some (.int .u32 a1_2) := (blk_cell BK329.out 2).trans rfl
      have hcz85_3 : w80.cell? ⟨gb329, 3, none⟩ = some (.int .i64 a1_3) := (blk_cell BK329.out 3).trans rfl
      have hcz85_4 : w80.cell? ⟨gb329, 4, none⟩ = some (.int .u32 a1_4) := (blk_cell BK329.out 4).trans rfl
      have hcz85_5 : w80.cell? ⟨gb329, 5, none⟩ = some (.int .i64 a1_5) := (blk_cell BK329.out 5).trans rfl
      have hcz85_6 : w80.cell? ⟨gb329, 6, none⟩ = some (.int .i64 a1_6) := (blk_cell BK329.out 6).trans rfl
      have hcz85_7 : w80.cell? ⟨gb329, 7, none⟩ = some (.int .i64 a1_7) := (blk_cell BK329.out 7).trans rfl
      have hcz85_8 : w80.cell? ⟨gb329, 8, none⟩ = some (.int .i64 a1_8) := (blk_cell BK329.out 8).trans rfl
      have hcz85_9 : w80.cell? ⟨gb329, 9, none⟩ = some (.int .i64 a1_9) := (blk_cell BK329.out 9).trans rfl
      have hcz85_10 : w80.cell? ⟨gb329, 10, none⟩ = some (.int .i64 a1_10) := (blk_cell BK329.out 10).trans rfl
      have hcz85_11 : w80.cell? ⟨gb329, 11, none⟩ = some (.bool a1_11) := (blk_cell BK329.out 11).trans rfl
      have hfz85_0 := blk_frozen BK329.out 0
      have hfz85_1 := blk_frozen BK329.out 1
      have hfz85_2 := blk_frozen BK329.out 2
      have hfz85_3 := blk_frozen BK329.out 3
      have hfz85_4 := blk_frozen BK329.out 4
      have hfz85_5 := blk_frozen BK329.out 5
      have hfz85_6 := blk_frozen BK329.out 6
      have hfz85_7 := blk_frozen BK329.out 7
      have hfz85_8 := blk_frozen BK329.out 8
      have hfz85_9 := blk_frozen BK329.out 9
      have hfz85_10 := blk_frozen BK329.out 10
      have hfz85_11 := blk_frozen BK329.out 11
      try go_wp2_with (first | ((with_reducible refine gate_callee (f := 27) rfl ?_); refine goesL_ (some 16) rfl rfl Try.func27 (by kernel_rfl) rfl #[.agg #[.int .i64 a0_0, .int .i64 a0_1, .int .u32 a0_2, .int .i64 a0_3, .int .u32 a0_4, .int .i64 a0_5, .int .i64 a0_6, .int .i64 a0_7, .int .i64 a0_8, .int .i64 a0_9, .int .i64 a0_10, .bool a0_11], .agg #[.int .i64 a1_0, .int .i64 a1_1, .int .u32 a1_2, .int .i64 a1_3, .int .u32 a1_4, .int .i64 a1_5, .int .i64 a1_6, .int .i64 a1_7, .int .i64 a1_8, .int .i64 a1_9, .int .i64 a1_10, .bool a1_11]] rfl (by (try simp only [List.map_toArray, List.map_cons, List.map_nil]); first | done | rfl | (simp only [List.length_drop, List.length_take]; rfl)) ?_; (with_reducible refine (rule_Covers.calls k a0_0 a0_1 a0_2 a0_3 a0_4 a0_5 a0_6 a0_7 a0_8 a0_9 a0_10 a0_11 a1_0 a1_1 a1_2 a1_3 a1_4 a1_5 a1_6 a1_7 a1_8 a1_9 a1_10 a1_11 false _ A13.out).mono ?_); rintro e w86 ⟨rfl, hb⟩; refine ⟨_, rfl, ?_⟩; have n0_ := Aside0.mk (blk_below (g := gb328) (o := .cells #[.int .i64 a0_0, .int .i64 a0_1, .int .u32 a0_2, .int .i64 a0_3, .int .u32 a0_4, .int .i64 a0_5, .int .i64 a0_6, .int .i64 a0_7, .int .i64 a0_8, .int .i64 a0_9, .int .i64 a0_10, .bool a0_11] 42 (0, 0)) (by (with_reducible repeat (first | refine blk_drewN ?_ _ | refine blk_drew ?_ | refine blk_alloc ?_ _)); exact BK328.out) hb); have n1_ := Aside0.mk (blk_below (g := gb329) (o := .cells #[.int .i64 a1_0, .int .i64 a1_1, .int .u32 a1_2, .int .i64 a1_3, .int .u32 a1_4, .int .i64 a1_5, .int .i64 a1_6, .int .i64 a1_7, .int .i64 a1_8, .int .i64 a1_9, .int .i64 a1_10, .bool a1_11] 42 (0, 0)) (by (with_reducible repeat (first | refine blk_drewN ?_ _ | refine blk_drew ?_ | refine blk_alloc ?_ _)); exact BK329.out) hb); have n2_ := Aside0.mk (blk_below (g := gb330) (o := .cells #[.int .i64 a2_0, .int .i64 a2_1, .int .u32 a2_2, .int .u32 a2_3, .int .i64 a2_4, .int .i64 a2_5, .int .i64 a2_6] 46 (0, 0)) (by (with_reducible repeat (first | refine blk_drewN ?_ _ | refine blk_drew ?_ | refine blk_alloc ?_ _)); exact BK330.out) hb); have n3_ := Aside0.mk (below_step (by repeat (first | (with_reducible first | exact HB.out | apply below_alloc | apply pw_below_drewN | apply below_drew1 | refine below_set ?_ GE328.out | refine below_set ?_ GE329.out | refine below_set ?_ GE330.out) | exact HB.out)) hb); clear BK328; clear BK329; clear BK330; clear HB; have BK328 := n0_; have BK329 := n1_; have BK330 := n2_; have HB := n3_; clear n0_ n1_ n2_ n3_; (try clear hb); (try clear hb2); (try clear hk); (try clear hi)) | (go_at_call 19; (with_reducible refine (gueritelaw15_awake.calls  t338 _ A74.out).mono ?_); rintro e w87 ⟨rfl, hb⟩; have n0_ := Aside0.mk (blk_below (g := gb328) (o := .cells #[.int .i64 a0_0, .int .i64 a0_1, .int .u32 a0_2, .int .i64 a0_3, .int .u32 a0_4, .int .i64 a0_5, .int .i64 a0_6, .int .i64 a0_7, .int .i64 a0_8, .int .i64 a0_9, .int .i64 a0_10, .bool a0_11] 42 (0, 0)) (by (with_reducible repeat (first | refine blk_drewN ?_ _ | refine blk_drew ?_ | refine blk_alloc ?_ _)); exact BK328.out) hb); have n1_ := Aside0.mk (blk_below (g := gb329) (o := .cells #[.int .i64 a1_0, .int .i64 a1_1, .int .u32 a1_2, .int .i64 a1_3, .int .u32 a1_4, .int .i64 a1_5, .int .i64 a1_6, .int .i64 a1_7, .int .i64 a1_8, .int .i64 a1_9, .int .i64 a1_10, .bool a1_11] 42 (0, 0)) (by (with_reducible repeat (first | refine blk_drewN ?_ _ | refine blk_drew ?_ | refine blk_alloc ?_ _)); exact BK329.out) hb); have n2_ := Aside0.mk (blk_below (g := gb330) (o := .cells #[.int .i64 a2_0, .int .i64 a2_1, .int .u32 a2_2, .int .u32 a2_3, .int .i64 a2_4, .int .i64 a2_5, .int .i64 a2_6] 46 (0, 0)) (by (with_reducible repeat (first | refine blk_drewN ?_ _ | refine blk_drew ?_ | refine blk_alloc ?_ _)); exact BK330.out) hb); have n3_ := Aside0.mk (below_step (by repeat (first | (with_reducible first | exact HB.out | apply below_alloc | apply pw_below_drewN | apply below_drew1 | refine below_set ?_ GE328.out | refine below_set ?_ GE329.out | refine below_set ?_ GE330.out) | exact HB.out)) hb); clear BK328; clear BK329; clear BK330; clear HB; have BK328 := n0_; have BK329 := n1_; have BK330 := n2_; have HB := n3_; clear n0_ n1_ n2_ n3_; (try clear hb); (try clear hb2); (try clear hk); (try clear hi)))
      go_ret
      exact ⟨by first | rfl | (simp [errW_none, errW_some] <;> rfl) | (simp [*, errW_none, errW_some] <;> rfl), by repeat (first | (with_reducible first | exact HB.out | apply below_alloc | apply pw_below_drewN | apply below_drew1 | refine below_set ?_ GE328.out | refine below_set ?_ GE329.out | refine below_set ?_ GE330.out) | exact HB.out)⟩

end Go.Proofs.Ytakfnghakbjncaa.P
