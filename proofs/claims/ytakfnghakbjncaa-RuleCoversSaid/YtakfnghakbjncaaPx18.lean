-- Written by a program of this session (xprint.py), over the kit's print; not trusted: Lean checks it.
import Derived.Test.YtakfnghakbjncaaPx0
import Derived.Test.YtakfnghakbjncaaPx5
namespace Go.Proofs.Ytakfnghakbjncaa.P
open Go.RowKit Go.Proofs.YtakfnghakbjncaaW.PrintWords Go.Proofs.YtakfnghakbjncaaW.PrintLast Go.Proofs.YtakfnghakbjncaaW.PrintMore
attribute [local go_sem] max2_int min2_int max_two min_two max_three min_three max_four min_four   -- for this text's walks alone
set_option linter.unusedVariables false
set_option linter.unusedSimpArgs false

/-! ### gueriteref15_span: function 46 -/
def gueriteref15_span.f (a0 : Int) (a1 : Int) : Option (Bool) := if a0 ≥ 0 then (if a1 ≥ a0 then (some (decide (a1 ≤ 65535))) else (some false)) else (some false)
set_option maxHeartbeats 8000000 in
set_option maxRecDepth 100000 in
theorem gueriteref15_span.calls (a0 : Int) (a1 : Int) (r : Bool) (w : World) (h : gueriteref15_span.f a0 a1 = some r) :
    Calls Try.prog 46 #[.int .i64 a0, .int .i64 a1] w fun e w' => e = .returned (.bool r) ∧ Drawn0 w w' := by
  have H : (if a0 ≥ 0 then (if a1 ≥ a0 then (some (decide (a1 ≤ 65535))) else (some false)) else (some false)) = some r := h
  clear h
  by_cases c3 : a0 ≥ 0
  · rw [if_pos c3] at H
    have c3b0 : decide (0 ≤ a0) = true := decide_eq_true c3
    clear c3
    by_cases c4 : a1 ≥ a0
    · rw [if_pos c4] at H
      have c4b0 : decide (a0 ≤ a1) = true := decide_eq_true c4
      clear c4
      obtain rfl := Option.some.inj H
      go_enter Try.func46, Try.ntmps46
      go_wp2
      go_ret
      exact ⟨by first | rfl | (simp; done) | (simp [*]; done), by repeat (first | exact Drawn0.refl _ | apply Drawn0.step)⟩
    · rw [if_neg c4] at H
      have c4b0 : decide (a0 ≤ a1) = false := decide_eq_false c4
      clear c4
      obtain rfl := Option.some.inj H
      go_enter Try.func46, Try.ntmps46
      go_wp2
      go_ret
      exact ⟨by first | rfl | (simp; done) | (simp [*]; done), by repeat (first | exact Drawn0.refl _ | apply Drawn0.step)⟩
  · rw [if_neg c3] at H
    have c3b0 : decide (0 ≤ a0) = false := decide_eq_false c3
    clear c3
    obtain rfl := Option.some.inj H
    go_enter Try.func46, Try.ntmps46
    go_wp2
    go_ret
    exact ⟨by first | rfl | (simp; done) | (simp [*]; done), by repeat (first | exact Drawn0.refl _ | apply Drawn0.step)⟩

/-! ### gueriteref15_Right: function 23 -/
def gueriteref15_Right.j0 : Nat → Bool → Int → Int → Int → Int → Int → Int → Int → Int → Int → Int → Int → Bool → Option (Bool)
  | 0, _, _, _, _, _, _, _, _, _, _, _, _, _ => none
  | k + 1, x30, x267000, x267001, x267002, x267003, x267004, x267005, x267006, x267007, x267008, x267009, x267010, x267011 => if x30 = true then (some false) else ((gueriteref03_Right.f k x267002 x267003).bind fun t267 => (if t267 = true then ((gueriteref03_Right.f k x267004 x267005).bind fun t268 => (if t268 = true then ((gueriteref15_span.f x267007 x267008).bind fun t269 => (if t269 = true then ((gueriteref15_span.f x267009 x267010).bind fun t270 => (some t270)) else (some false))) else (some false))) else (some false)))
def gueriteref15_Right.f (k : Nat) (a0_0 : Int) (a0_1 : Int) (a0_2 : Int) (a0_3 : Int) (a0_4 : Int) (a0_5 : Int) (a0_6 : Int) (a0_7 : Int) (a0_8 : Int) (a0_9 : Int) (a0_10 : Int) (a0_11 : Bool) : Option (Bool) := if a0_0 < (-1) then (gueriteref15_Right.j0 k true a0_0 a0_1 a0_2 a0_3 a0_4 a0_5 a0_6 a0_7 a0_8 a0_9 a0_10 a0_11) else (if a0_0 > 7 then (gueriteref15_Right.j0 k true a0_0 a0_1 a0_2 a0_3 a0_4 a0_5 a0_6 a0_7 a0_8 a0_9 a0_10 a0_11) else (if a0_1 < (-1) then (gueriteref15_Right.j0 k true a0_0 a0_1 a0_2 a0_3 a0_4 a0_5 a0_6 a0_7 a0_8 a0_9 a0_10 a0_11) else (if a0_1 > 7 then (gueriteref15_Right.j0 k true a0_0 a0_1 a0_2 a0_3 a0_4 a0_5 a0_6 a0_7 a0_8 a0_9 a0_10 a0_11) else (if a0_6 < (-1) then (gueriteref15_Right.j0 k true a0_0 a0_1 a0_2 a0_3 a0_4 a0_5 a0_6 a0_7 a0_8 a0_9 a0_10 a0_11) else (gueriteref15_Right.j0 k (decide (a0_6 > 255)) a0_0 a0_1 a0_2 a0_3 a0_4 a0_5 a0_6 a0_7 a0_8 a0_9 a0_10 a0_11)))))
theorem gueriteref15_Right.mono_l : ∀ k, (∀ y0 y1 y2 y3 y4 y5 y6 y7 y8 y9 y10 y11 y12, LeO (gueriteref15_Right.j0 k y0 y1 y2 y3 y4 y5 y6 y7 y8 y9 y10 y11 y12) (gueriteref15_Right.j0 (k + 1) y0 y1 y2 y3 y4 y5 y6 y7 y8 y9 y10 y11 y12))
  | 0 => fun _ _ _ _ _ _ _ _ _ _ _ _ _ r h => by simp [gueriteref15_Right.j0] at h
  | k + 1 => by
    have ih0 := gueriteref15_Right.mono_l k
    · intro y0 y1 y2 y3 y4 y5 y6 y7 y8 y9 y10 y11 y12
      unfold gueriteref15_Right.j0
      repeat' first
      | (with_reducible exact ih0 _ _ _ _ _ _ _ _ _ _ _ _ _)
      | (with_reducible exact gueriteref03_Right.mono _ _ _)
      | (with_reducible exact LeO.refl _)
      | (with_reducible exact LeO.none _)
      | (with_reducible refine LeO.ite ?_ ?_)
      | (with_reducible refine LeO.bind ?_ (fun _ => ?_))
      | exact ih0 _ _ _ _ _ _ _ _ _ _ _ _ _
      | exact gueriteref03_Right.mono _ _ _
      | exact LeO.none _
      | refine LeO.ite ?_ ?_
      | refine LeO.bind ?_ (fun _ => ?_)
theorem gueriteref15_Right.mono : ∀ a0 a1 a2 a3 a4 a5 a6 a7 a8 a9 a10 a11 k, LeO (gueriteref15_Right.f k a0 a1 a2 a3 a4 a5 a6 a7 a8 a9 a10 a11) (gueriteref15_Right.f (k + 1) a0 a1 a2 a3 a4 a5 a6 a7 a8 a9 a10 a11) := by
  intro a0 a1 a2 a3 a4 a5 a6 a7 a8 a9 a10 a11 k
  have ih0 := gueriteref15_Right.mono_l k
  unfold gueriteref15_Right.f
  repeat' first
      | (with_reducible exact ih0 _ _ _ _ _ _ _ _ _ _ _ _ _)
      | (with_reducible exact gueriteref03_Right.mono _ _ _)
      | (with_reducible exact LeO.refl _)
      | (with_reducible exact LeO.none _)
      | (with_reducible refine LeO.ite ?_ ?_)
      | (with_reducible refine LeO.bind ?_ (fun _ => ?_))
      | exact ih0 _ _ _ _ _ _ _ _ _ _ _ _ _
      | exact gueriteref03_Right.mono _ _ _
      | exact LeO.none _
      | refine LeO.ite ?_ ?_
      | refine LeO.bind ?_ (fun _ => ?_)
set_option maxHeartbeats 8000000 in
set_option maxRecDepth 100000 in
theorem gueriteref15_Right.calls (k : Nat) (a0_0 : Int) (a0_1 : Int) (a0_2 : Int) (a0_3 : Int) (a0_4 : Int) (a0_5 : Int) (a0_6 : Int) (a0_7 : Int) (a0_8 : Int) (a0_9 : Int) (a0_10 : Int) (a0_11 : Bool) (r : Bool) (w : World) (h : gueriteref15_Right.f k a0_0 a0_1 a0_2 a0_3 a0_4 a0_5 a0_6 a0_7 a0_8 a0_9 a0_10 a0_11 = some r) :
    Calls Try.prog 23 #[.agg #[.int .i64 a0_0, .int .i64 a0_1, .int .u32 a0_2, .int .i64 a0_3, .int .u32 a0_4, .int .i64 a0_5, .int .i64 a0_6, .int .i64 a0_7, .int .i64 a0_8, .int .i64 a0_9, .int .i64 a0_10, .bool a0_11]] w fun e w' => e = .returned (.bool r) ∧ Below w.heap.size w w' := by
  have hu42 := Try.underlying42
  have hu29 := Try.underlying29
  have HB := Aside0.mk (Below.refl w.heap.size w)
  have H : (if a0_0 < (-1) then (gueriteref15_Right.j0 k true a0_0 a0_1 a0_2 a0_3 a0_4 a0_5 a0_6 a0_7 a0_8 a0_9 a0_10 a0_11) else (if a0_0 > 7 then (gueriteref15_Right.j0 k true a0_0 a0_1 a0_2 a0_3 a0_4 a0_5 a0_6 a0_7 a0_8 a0_9 a0_10 a0_11) else (if a0_1 < (-1) then (gueriteref15_Right.j0 k true a0_0 a0_1 a0_2 a0_3 a0_4 a0_5 a0_6 a0_7 a0_8 a0_9 a0_10 a0_11) else (if a0_1 > 7 then (gueriteref15_Right.j0 k true a0_0 a0_1 a0_2 a0_3 a0_4 a0_5 a0_6 a0_7 a0_8 a0_9 a0_10 a0_11) else (if a0_6 < (-1) then (gueriteref15_Right.j0 k true a0_0 a0_1 a0_2 a0_3 a0_4 a0_5 a0_6 a0_7 a0_8 a0_9 a0_10 a0_11) else (gueriteref15_Right.j0 k (decide (a0_6 > 255)) a0_0 a0_1 a0_2 a0_3 a0_4 a0_5 a0_6 a0_7 a0_8 a0_9 a0_10 a0_11)))))) = some r := h
  clear h
  have HC2 := Aside0.mk H
  clear H
  go_enter Try.func23, Try.ntmps23
  go_upto_region 1 with (first | ((with_reducible refine gate_dst (N := 1) rfl ?_); refine box_event ?hg (N := 1) ?hd (cs := #[.int .i64 a0_0, .int .i64 a0_1, .int .u32 a0_2, .int .i64 a0_3, .int .u32 a0_4, .int .i64 a0_5, .int .i64 a0_6, .int .i64 a0_7, .int .i64 a0_8, .int .i64 a0_9, .int .i64 a0_10, .bool a0_11]) (t := 42) ?hr ?_; (case hd => rfl); (case hg => rfl); (case hr => first | (go_simp; done) | (go_simp; rfl)); intro gb266 hg w3 hbox hb; have n0_ := Aside0.mk (below_step (by repeat (first | (with_reducible first | exact HB.out | apply below_alloc | apply pw_below_drewN | apply below_drew1) | exact HB.out)) hb); have n1_ := Aside0.mk (hbox); have n2_ := Aside0.mk ((by rw [hg]; exact (below_size (by repeat (first | (with_reducible first | exact HB.out | apply below_alloc | apply pw_below_drewN | apply below_drew1) | exact HB.out))) : w.heap.size ≤ gb266)); have n3_ := Aside0.mk ((by rw [hg]; exact (below_size (by repeat (first | (with_reducible first | exact HB.out | apply below_alloc | apply pw_below_drewN | apply below_drew1) | exact HB.out))) : w.heap.size ≤ gb266)); clear HB; have HB := n0_; have BK266 := n1_; have GW266 := n2_; have GE266 := n3_; clear n0_ n1_ n2_ n3_; clear hb hbox hg))
  (try simp only [Act.put, List.setIfInBounds_toArray, List.set_cons_zero, List.set_cons_succ])
  go_cut [30] (fun v30 wc => ∃ (kq : Nat) (x30_1 : Bool), v30 = .bool x30_1 ∧ Aside0 (gueriteref15_Right.j0 kq x30_1 a0_0 a0_1 a0_2 a0_3 a0_4 a0_5 a0_6 a0_7 a0_8 a0_9 a0_10 a0_11 = some r) ∧ Aside0 (kq ≤ k) ∧ Aside0 (wc.heap[gb266]? = some (.cells #[.int .i64 a0_0, .int .i64 a0_1, .int .u32 a0_2, .int .i64 a0_3, .int .u32 a0_4, .int .i64 a0_5, .int .i64 a0_6, .int .i64 a0_7, .int .i64 a0_8, .int .i64 a0_9, .int .i64 a0_10, .bool a0_11] 42 (0, 0))) ∧ Aside0 (Below w.heap.size w wc))
  case first =>
    have H := HC2.out
    clear HC2
    by_cases c4 : a0_0 < (-1)
    · rw [if_pos c4] at H
      have c4b0 : decide (a0_0 < (-1)) = true := decide_eq_true c4
      clear c4
      (first | rw [c4b0] | (simp only [i64_w, i32_w]; rw [c4b0]) | skip)
      have H' := Aside0.mk H
      clear H
      have hcz5_0 : w3.cell? ⟨gb266, 0, none⟩ = some (.int .i64 a0_0) := (blk_cell BK266.out 0).trans rfl
      have hcz5_1 : w3.cell? ⟨gb266, 1, none⟩ = some (.int .i64 a0_1) := (blk_cell BK266.out 1).trans rfl
      have hcz5_2 : w3.cell? ⟨gb266, 2, none⟩ = some (.int .u32 a0_2) := (blk_cell BK266.out 2).trans rfl
      have hcz5_3 : w3.cell? ⟨gb266, 3, none⟩ = some (.int .i64 a0_3) := (blk_cell BK266.out 3).trans rfl
      have hcz5_4 : w3.cell? ⟨gb266, 4, none⟩ = some (.int .u32 a0_4) := (blk_cell BK266.out 4).trans rfl
      have hcz5_5 : w3.cell? ⟨gb266, 5, none⟩ = some (.int .i64 a0_5) := (blk_cell BK266.out 5).trans rfl
      have hcz5_6 : w3.cell? ⟨gb266, 6, none⟩ = some (.int .i64 a0_6) := (blk_cell BK266.out 6).trans rfl
      have hcz5_7 : w3.cell? ⟨gb266, 7, none⟩ = some (.int .i64 a0_7) := (blk_cell BK266.out 7).trans rfl
      have hcz5_8 : w3.cell? ⟨gb266, 8, none⟩ = some (.int .i64 a0_8) := (blk_cell BK266.out 8).trans rfl
      have hcz5_9 : w3.cell? ⟨gb266, 9, none⟩ = some (.int .i64 a0_9) := (blk_cell BK266.out 9).trans rfl
      have hcz5_10 : w3.cell? ⟨gb266, 10, none⟩ = some (.int .i64 a0_10) := (blk_cell BK266.out 10).trans rfl
      have hcz5_11 : w3.cell? ⟨gb266, 11, none⟩ = some (.bool a0_11) := (blk_cell BK266.out 11).trans rfl
      have hfz5_0 := blk_frozen BK266.out 0
      have hfz5_1 := blk_frozen BK266.out 1
      have hfz5_2 := blk_frozen BK266.out 2
      have hfz5_3 := blk_frozen BK266.out 3
      have hfz5_4 := blk_frozen BK266.out 4
      have hfz5_5 := blk_frozen BK266.out 5
      have hfz5_6 := blk_frozen BK266.out 6
      have hfz5_7 := blk_frozen BK266.out 7
      have hfz5_8 := blk_frozen BK266.out 8
      have hfz5_9 := blk_frozen BK266.out 9
      have hfz5_10 := blk_frozen BK266.out 10
      have hfz5_11 := blk_frozen BK266.out 11
      go_wp2
      go_meet
      case rel => exact ⟨_, (true), (by first | rfl | (simp; done) | (simp [*]; done)), H', ⟨by first | omega | exact Nat.le_refl _⟩, ⟨by (with_reducible repeat (first | refine blk_drewN ?_ _ | refine blk_drew ?_ | refine blk_alloc ?_ _)); exact BK266.out⟩, ⟨by repeat (first | (with_reducible first | exact HB.out | apply below_alloc | apply pw_below_drewN | apply below_drew1 | refine below_set ?_ GE266.out) | exact HB.out)⟩⟩
    · rw [if_neg c4] at H
      have c4b0 : decide (a0_0 < (-1)) = false := decide_eq_false c4
      clear c4
      (first | rw [c4b0] | (simp only [i64_w, i32_w]; rw [c4b0]) | skip)
      by_cases c6 : a0_0 > 7
      · rw [if_pos c6] at H
        have c6b0 : decide (7 < a0_0) = true := decide_eq_true c6
        clear c6
        have H' := Aside0.mk H
        clear H
        have hcz7_0 : w3.cell? ⟨gb266, 0, none⟩ = some (.int .i64 a0_0) := (blk_cell BK266.out 0).trans rfl
        have hcz7_1 : w3.cell? ⟨gb266, 1, none⟩ = some (.int .i64 a0_1) := (blk_cell BK266.out 1).trans rfl
        have hcz7_2 : w3.cell? ⟨gb266, 2, none⟩ = some (.int .u32 a0_2) := (blk_cell BK266.out 2).trans rfl
        have hcz7_3 : w3.cell? ⟨gb266, 3, none⟩ = some (.int .i64 a0_3) := (blk_cell BK266.out 3).trans rfl
        have hcz7_4 : w3.cell? ⟨gb266, 4, none⟩ = some (.int .u32 a0_4) := (blk_cell BK266.out 4).trans rfl
        have hcz7_5 : w3.cell? ⟨gb266, 5, none⟩ = some (.int .i64 a0_5) := (blk_cell BK266.out 5).trans rfl
        have hcz7_6 : w3.cell? ⟨gb266, 6, none⟩ = some (.int .i64 a0_6) := (blk_cell BK266.out 6).trans rfl
        have hcz7_7 : w3.cell? ⟨gb266, 7, none⟩ = some (.int .i64 a0_7) := (blk_cell BK266.out 7).trans rfl
        have hcz7_8 : w3.cell? ⟨gb266, 8, none⟩ = some (.int .i64 a0_8) := (blk_cell BK266.out 8).trans rfl
        have hcz7_9 : w3.cell? ⟨gb266, 9, none⟩ = some (.int .i64 a0_9) := (blk_cell BK266.out 9).trans rfl
        have hcz7_10 : w3.cell? ⟨gb266, 10, none⟩ = some (.int .i64 a0_10) := (blk_cell BK266.out 10).trans rfl
        have hcz7_11 : w3.cell? ⟨gb266, 11, none⟩ = some (.bool a0_11) := (blk_cell BK266.out 11).trans rfl
        have hfz7_0 := blk_frozen BK266.out 0
        have hfz7_1 := blk_frozen BK266.out 1
        have hfz7_2 := blk_frozen BK266.out 2
        have hfz7_3 := blk_frozen BK266.out 3
        have hfz7_4 := blk_frozen BK266.out 4
        have hfz7_5 := blk_frozen BK266.out 5
        have hfz7_6 := blk_frozen BK266.out 6
        have hfz7_7 := blk_frozen BK266.out 7
        have hfz7_8 := blk_frozen BK266.out 8
        have hfz7_9 := blk_frozen BK266.out 9
        have hfz7_10 := blk_frozen BK266.out 10
        have hfz7_11 := blk_frozen BK266.out 11
        go_wp2
        go_meet
        case rel => exact ⟨_, (true), (by first | rfl | (simp; done) | (simp [*]; done)), H', ⟨by first | omega | exact Nat.le_refl _⟩, ⟨by (with_reducible repeat (first | refine blk_drewN ?_ _ | refine blk_drew ?_ | refine blk_alloc ?_ _)); exact BK266.out⟩, ⟨by repeat (first | (with_reducible first | exact HB.out | apply below_alloc | apply pw_below_drewN | apply below_drew1 | refine below_set ?_ GE266.out) | exact HB.out)⟩⟩
      · rw [if_neg c6] at H
        have c6b0 : decide (7 < a0_0) = false := decide_eq_false c6
        clear c6
        by_cases c8 : a0_1 < (-1)
        · rw [if_pos c8] at H
          have c8b0 : decide (a0_1 < (-1)) = true := decide_eq_true c8
          clear c8
          have H' := Aside0.mk H
          clear H
          have hcz9_0 : w3.cell? ⟨gb266, 0, none⟩ = some (.int .i64 a0_0) := (blk_cell BK266.out 0).trans rfl
          have hcz9_1 : w3.cell? ⟨gb266, 1, none⟩ = some (.int .i64 a0_1) := (blk_cell BK266.out 1).trans rfl
          have hcz9_2 : w3.cell? ⟨gb266, 2, none⟩ = some (.int .u32 a0_2) := (blk_cell BK266.out 2).trans rfl
          have hcz9_3 : w3.cell? ⟨gb266, 3, none⟩ = some (.int .i64 a0_3) := (blk_cell BK266.out 3).trans rfl
          have hcz9_4 : w3.cell? ⟨gb266, 4, none⟩ = some (.int .u32 a0_4) := (blk_cell BK266.out 4).trans rfl
          have hcz9_5 : w3.cell? ⟨gb266, 5, none⟩ = some (.int .i64 a0_5) := (blk_cell BK266.out 5).trans rfl
          have hcz9_6 : w3.cell? ⟨gb266, 6, none⟩ = some (.int .i64 a0_6) := (blk_cell BK266.out 6).trans rfl
          have hcz9_7 : w3.cell? ⟨gb266, 7, none⟩ = some (.int .i64 a0_7) := (blk_cell BK266.out 7).trans rfl
          have hcz9_8 : w3.cell? ⟨gb266, 8, none⟩ = some (.int .i64 a0_8) := (blk_cell BK266.out 8).trans rfl
          have hcz9_9 : w3.cell? ⟨gb266, 9, none⟩ = some (.int .i64 a0_9) := (blk_cell BK266.out 9).trans rfl
          have hcz9_10 : w3.cell? ⟨gb266, 10, none⟩ = some (.int .i64 a0_10) := (blk_cell BK266.out 10).trans rfl
          have hcz9_11 : w3.cell? ⟨gb266, 11, none⟩ = some (.bool a0_11) := (blk_cell BK266.out 11).trans rfl
          have hfz9_0 := blk_frozen BK266.out 0
          have hfz9_1 := blk_frozen BK266.out 1
          have hfz9_2 := blk_frozen BK266.out 2
          have hfz9_3 := blk_frozen BK266.out 3
          have hfz9_4 := blk_frozen BK266.out 4
          have hfz9_5 := blk_frozen BK266.out 5
          have hfz9_6 := blk_frozen BK266.out 6
          have hfz9_7 := blk_frozen BK266.out 7
          have hfz9_8 := blk_frozen BK266.out 8
          have hfz9_9 := blk_frozen BK266.out 9
          have hfz9_10 := blk_frozen BK266.out 10
          have hfz9_11 := blk_frozen BK266.out 11
          go_wp2
          go_meet
          case rel => exact ⟨_, (true), (by first | rfl | (simp; done) | (simp [*]; done)), H', ⟨by first | omega | exact Nat.le_refl _⟩, ⟨by (with_reducible repeat (first | refine blk_drewN ?_ _ | refine blk_drew ?_ | refine blk_alloc ?_ _)); exact BK266.out⟩, ⟨by repeat (first | (with_reducible first | exact HB.out | apply below_alloc | apply pw_below_drewN | apply below_drew1 | refine below_set ?_ GE266.out) | exact HB.out)⟩⟩
        · rw [if_neg c8] at H
          have c8b0 : decide (a0_1 < (-1)) = false := decide_eq_false c8
          clear c8
          by_cases c10 : a0_1 > 7
          · rw [if_pos c10] at H
            have c10b0 : decide (7 < a0_1) = true := decide_eq_true c10
            clear c10
            have H' := Aside0.mk H
            clear H
            have hcz11_0 : w3.cell? ⟨gb266, 0, none⟩ = some (.int .i64 a0_0) := (blk_cell BK266.out 0).trans rfl
            have hcz11_1 : w3.cell? ⟨gb266, 1, none⟩ = some (.int .i64 a0_1) := (blk_cell BK266.out 1).trans rfl
            have hcz11_2 : w3.cell? ⟨gb266, 2, none⟩ = some (.int .u32 a0_2) := (blk_cell BK266.out 2).trans rfl
            have hcz11_3 : w3.cell? ⟨gb266, 3, none⟩ = some (.int .i64 a0_3) := (blk_cell BK266.out 3).trans rfl
            have hcz11_4 : w3.cell? ⟨gb266, 4, none⟩ = some (.int .u32 a0_4) := (blk_cell BK266.out 4).trans rfl
            have hcz11_5 : w3.cell? ⟨gb266, 5, none⟩ = some (.int .i64 a0_5) := (blk_cell BK266.out 5).trans rfl
            have hcz11_6 : w3.cell? ⟨gb266, 6, none⟩ = some (.int .i64 a0_6) := (blk_cell BK266.out 6).trans rfl
            have hcz11_7 : w3.cell? ⟨gb266, 7, none⟩ = some (.int .i64 a0_7) := (blk_cell BK266.out 7).trans rfl
            have hcz11_8 : w3.cell? ⟨gb266, 8, none⟩ = some (.int .i64 a0_8) := (blk_cell BK266.out 8).trans rfl
            have hcz11_9 : w3.cell? ⟨gb266, 9, none⟩ = some (.int .i64 a0_9) := (blk_cell BK266.out 9).trans rfl
            have hcz11_10 : w3.cell? ⟨gb266, 10, none⟩ = some (.int .i64 a0_10) := (blk_cell BK266.out 10).trans rfl
            have hcz11_11 : w3.cell? ⟨gb266, 11, none⟩ = some (.bool a0_11) := (blk_cell BK266.out 11).trans rfl
            have hfz11_0 := blk_frozen BK266.out 0
            have hfz11_1 := blk_frozen BK266.out 1
            have hfz11_2 := blk_frozen BK266.out 2
            have hfz11_3 := blk_frozen BK266.out 3
            have hfz11_4 := blk_frozen BK266.out 4
            have hfz11_5 := blk_frozen BK266.out 5
            have hfz11_6 := blk_frozen BK266.out 6
            have hfz11_7 := blk_frozen BK266.out 7
            have hfz11_8 := blk_frozen BK266.out 8
            have hfz11_9 := blk_frozen BK266.out 9
            have hfz11_10 := blk_frozen BK266.out 10
            have hfz11_11 := blk_frozen BK266.out 11
            go_wp2
            go_meet
            case rel => exact ⟨_, (true), (by first | rfl | (simp; done) | (simp [*]; done)), H', ⟨by first | omega | exact Nat.le_refl _⟩, ⟨by (with_reducible repeat (first | refine blk_drewN ?_ _ | refine blk_drew ?_ | refine blk_alloc ?_ _)); exact BK266.out⟩, ⟨by repeat (first | (with_reducible first | exact HB.out | apply below_alloc | apply pw_below_drewN | apply below_drew1 | refine below_set ?_ GE266.out) | exact HB.out)⟩⟩
          · rw [if_neg c10] at H
            have c10b0 : decide (7 < a0_1) = false := decide_eq_false c10
            clear c10
            by_cases c12 : a0_6 < (-1)
            · rw [if_pos c12] at H
              have c12b0 : decide (a0_6 < (-1)) = true := decide_eq_true c12
              clear c12
              have H' := Aside0.mk H
              clear H
              have hcz13_0 : w3.cell? ⟨gb266, 0, none⟩ = some (.int .i64 a0_0) := (blk_cell BK266.out 0).trans rfl
              have hcz13_1 : w3.cell? ⟨gb266, 1, none⟩ = some (.int .i64 a0_1) := (blk_cell BK266.out 1).trans rfl
              have hcz13_2 : w3.cell? ⟨gb266, 2, none⟩ = some (.int .u32 a0_2) := (blk_cell BK266.out 2).trans rfl
              have hcz13_3 : w3.cell? ⟨gb266, 3, none⟩ = some (.int .i64 a0_3) := (blk_cell BK266.out 3).trans rfl
              have hcz13_4 : w3.cell? ⟨gb266, 4, none⟩ = some (.int .u32 a0_4) := (blk_cell BK266.out 4).trans rfl
              have hcz13_5 : w3.cell? ⟨gb266, 5, none⟩ = some (.int .i64 a0_5) := (blk_cell BK266.out 5).trans rfl
              have hcz13_6 : w3.cell? ⟨gb266, 6, none⟩ = some (.int .i64 a0_6) := (blk_cell BK266.out 6).trans rfl
              have hcz13_7 : w3.cell? ⟨gb266, 7, none⟩ = some (.int .i64 a0_7) := (blk_cell BK266.out 7).trans rfl
              have hcz13_8 : w3.cell? ⟨gb266, 8, none⟩ = some (.int .i64 a0_8) := (blk_cell BK266.out 8).trans rfl
              have hcz13_9 : w3.cell? ⟨gb266, 9, none⟩ = some (.int .i64 a0_9) := (blk_cell BK266.out 9).trans rfl
              have hcz13_10 : w3.cell? ⟨gb266, 10, none⟩ = some (.int .i64 a0_10) := (blk_cell BK266.out 10).trans rfl
              have hcz13_11 : w3.cell? ⟨gb266, 11, none⟩ = some (.bool a0_11) := (blk_cell BK266.out 11).trans rfl
              have hfz13_0 := blk_frozen BK266.out 0
              have hfz13_1 := blk_frozen BK266.out 1
              have hfz13_2 := blk_frozen BK266.out 2
              have hfz13_3 := blk_frozen BK266.out 3
              have hfz13_4 := blk_frozen BK266.out 4
              have hfz13_5 := blk_frozen BK266.out 5
              have hfz13_6 := blk_frozen BK266.out 6
              have hfz13_7 := blk_frozen BK266.out 7
              have hfz13_8 := blk_frozen BK266.out 8
              have hfz13_9 := blk_frozen BK266.out 9
              have hfz13_10 := blk_frozen BK266.out 10
              have hfz13_11 := blk_frozen BK266.out 11
              go_wp2
              go_meet
              case rel => exact ⟨_, (true), (by first | rfl | (simp; done) | (simp [*]; done)), H', ⟨by first | omega | exact Nat.le_refl _⟩, ⟨by (with_reducible repeat (first | refine blk_drewN ?_ _ | refine blk_drew ?_ | refine blk_alloc ?_ _)); exact BK266.out⟩, ⟨by repeat (first | (with_reducible first | exact HB.out | apply below_alloc | apply pw_below_drewN | apply below_drew1 | refine below_set ?_ GE266.out) | exact HB.out)⟩⟩
            · rw [if_neg c12] at H
              have c12b0 : decide (a0_6 < (-1)) = false := decide_eq_false c12
              clear c12
              have H' := Aside0.mk H
              clear H
              have hcz14_0 : w3.cell? ⟨gb266, 0, none⟩ = some (.int .i64 a0_0) := (blk_cell BK266.out 0).trans rfl
              have hcz14_1 : w3.cell? ⟨gb266, 1, none⟩ = some (.int .i64 a0_1) := (blk_cell BK266.out 1).trans rfl
              have hcz14_2 : w3.cell? ⟨gb266, 2, none⟩ = some (.int .u32 a0_2) := (blk_cell BK266.out 2).trans rfl
              have hcz14_3 : w3.cell? ⟨gb266, 3, none⟩ = some (.int .i64 a0_3) := (blk_cell BK266.out 3).trans rfl
              have hcz14_4 : w3.cell? ⟨gb266, 4, none⟩ = some (.int .u32 a0_4) := (blk_cell BK266.out 4).trans rfl
              have hcz14_5 : w3.cell? ⟨gb266, 5, none⟩ = some (.int .i64 a0_5) := (blk_cell BK266.out 5).trans rfl
              have hcz14_6 : w3.cell? ⟨gb266, 6, none⟩ = some (.int .i64 a0_6) := (blk_cell BK266.out 6).trans rfl
              have hcz14_7 : w3.cell? ⟨gb266, 7, none⟩ = some (.int .i64 a0_7) := (blk_cell BK266.out 7).trans rfl
              have hcz14_8 : w3.cell? ⟨gb266, 8, none⟩ = some (.int .i64 a0_8) := (blk_cell BK266.out 8).trans rfl
              have hcz14_9 : w3.cell? ⟨gb266, 9, none⟩ = some (.int .i64 a0_9) := (blk_cell BK266.out 9).trans rfl
              have hcz14_10 : w3.cell? ⟨gb266, 10, none⟩ = some (.int .i64 a0_10) := (blk_cell BK266.out 10).trans rfl
              have hcz14_11 : w3.cell? ⟨gb266, 11, none⟩ = some (.bool a0_11) := (blk_cell BK266.out 11).trans rfl
              have hfz14_0 := blk_frozen BK266.out 0
              have hfz14_1 := blk_frozen BK266.out 1
              have hfz14_2 := blk_frozen BK266.out 2
              have hfz14_3 := blk_frozen BK266.out 3
              have hfz14_4 := blk_frozen BK266.out 4
              have hfz14_5 := blk_frozen BK266.out 5
              have hfz14_6 := blk_frozen BK266.out 6
              have hfz14_7 := blk_frozen BK266.out 7
              have hfz14_8 := blk_frozen BK266.out 8
              have hfz14_9 := blk_frozen BK266.out 9
              have hfz14_10 := blk_frozen BK266.out 10
              have hfz14_11 := blk_frozen BK266.out 11
              go_wp2
              go_meet
              case rel => exact ⟨_, (decide (a0_6 > 255)), (by first | rfl | (simp; done) | (simp [*]; done)), H', ⟨by first | omega | exact Nat.le_refl _⟩, ⟨by (with_reducible repeat (first | refine blk_drewN ?_ _ | refine blk_drew ?_ | refine blk_alloc ?_ _)); exact BK266.out⟩, ⟨by repeat (first | (with_reducible first | exact HB.out | apply below_alloc | apply pw_below_drewN | apply below_drew1 | refine below_set ?_ GE266.out) | exact HB.out)⟩⟩
  case rest =>
    clear HC2
    try clear c1
    try clear c2
    try clear p2
    try clear c4
    try clear c4b0
    try clear c6
    try clear c6b0
    try clear c8
    try clear c8b0
    try clear c10
    try clear c10b0
    try clear c12
    try clear c12b0
    try clear hcz11_0
    try clear hcz11_1
    try clear hcz11_10
    try clear hcz11_11
    try clear hcz11_2
    try clear hcz11_3
    try clear hcz11_4
    try clear hcz11_5
    try clear hcz11_6
    try clear hcz11_7
    try clear hcz11_8
    try clear hcz11_9
    try clear hcz13_0
    try clear hcz13_1
    try clear hcz13_10
    try clear hcz13_11
    try clear hcz13_2
    try clear hcz13_3
    try clear hcz13_4
    try clear hcz13_5
    try clear hcz13_6
    try clear hcz13_7
    try clear hcz13_8
    try clear hcz13_9
    try clear hcz14_0
    try clear hcz14_1
    try clear hcz14_10
    try clear hcz14_11
    try clear hcz14_2
    try clear hcz14_3
    try clear hcz14_4
    try clear hcz14_5
    try clear hcz14_6
    try clear hcz14_7
    try clear hcz14_8
    try clear hcz14_9
    try clear hcz5_0
    try clear hcz5_1
    try clear hcz5_10
    try clear hcz5_11
    try clear hcz5_2
    try clear hcz5_3
    try clear hcz5_4
    try clear hcz5_5
    try clear hcz5_6
    try clear hcz5_7
    try clear hcz5_8
    try clear hcz5_9
    try clear hcz7_0
    try clear hcz7_1
    try clear hcz7_10
    try clear hcz7_11
    try clear hcz7_2
    try clear hcz7_3
    try clear hcz7_4
    try clear hcz7_5
    try clear hcz7_6
    try clear hcz7_7
    try clear hcz7_8
    try clear hcz7_9
    try clear hcz9_0
    try clear hcz9_1
    try clear hcz9_10
    try clear hcz9_11
    try clear hcz9_2
    try clear hcz9_3
    try clear hcz9_4
    try clear hcz9_5
    try clear hcz9_6
    try clear hcz9_7
    try clear hcz9_8
    try clear hcz9_9
    try clear hfz11_0
    try clear hfz11_1
    try clear hfz11_10
    try clear hfz11_11
    try clear hfz11_2
    try clear hfz11_3
    try clear hfz11_4
    try clear hfz11_5
    try clear hfz11_6
    try clear hfz11_7
    try clear hfz11_8
    try clear hfz11_9
    try clear hfz13_0
    try clear hfz13_1
    try clear hfz13_10
    try clear hfz13_11
    try clear hfz13_2
    try clear hfz13_3
    try clear hfz13_4
    try clear hfz13_5
    try clear hfz13_6
    try clear hfz13_7
    try clear hfz13_8
    try clear hfz13_9
    try clear hfz14_0
    try clear hfz14_1
    try clear hfz14_10
    try clear hfz14_11
    try clear hfz14_2
    try clear hfz14_3
    try clear hfz14_4
    try clear hfz14_5
    try clear hfz14_6
    try clear hfz14_7
    try clear hfz14_8
    try clear hfz14_9
    try clear hfz5_0
    try clear hfz5_1
    try clear hfz5_10
    try clear hfz5_11
    try clear hfz5_2
    try clear hfz5_3
    try clear hfz5_4
    try clear hfz5_5
    try clear hfz5_6
    try clear hfz5_7
    try clear hfz5_8
    try clear hfz5_9
    try clear hfz7_0
    try clear hfz7_1
    try clear hfz7_10
    try clear hfz7_11
    try clear hfz7_2
    try clear hfz7_3
    try clear hfz7_4
    try clear hfz7_5
    try clear hfz7_6
    try clear hfz7_7
    try clear hfz7_8
    try clear hfz7_9
    try clear hfz9_0
    try clear hfz9_1
    try clear hfz9_10
    try clear hfz9_11
    try clear hfz9_2
    try clear hfz9_3
    try clear hfz9_4
    try clear hfz9_5
    try clear hfz9_6
    try clear hfz9_7
    try clear hfz9_8
    try clear hfz9_9
    obtain ⟨kq, x30_1, rfl, HA, HJ1, BK266, HB⟩ := hcut
    cases kq with
    | zero => exact absurd HA.out (by simp [gueriteref15_Right.j0])
    | succ kj1 =>
      have H := HA.out
      clear HA
      simp only [gueriteref15_Right.j0] at H
      by_cases c15 : x30_1 = true
      · subst c15
        have H1 : (some false) = some r := by rw [if_pos rfl] at H; exact H
        clear H
        have H := H1
        clear H1
        obtain rfl := Option.some.inj H
        go_wp2
        go_ret
        exact ⟨by first | rfl | (simp [errW_none, errW_some] <;> rfl) | (simp [*, errW_none, errW_some] <;> rfl), by repeat (first | (with_reducible first | exact HB.out | apply below_alloc | apply pw_below_drewN | apply below_drew1 | refine below_set ?_ GE266.out) | exact HB.out)⟩
      · replace c15 := Bool.eq_false_iff.mpr c15
        subst c15
        have H1 : ((gueriteref03_Right.f kj1 a0_2 a0_3).bind fun t267 => (if t267 = true then ((gueriteref03_Right.f kj1 a0_4 a0_5).bind fun t268 => (if t268 = true then ((gueriteref15_span.f a0_7 a0_8).bind fun t269 => (if t269 = true then ((gueriteref15_span.f a0_9 a0_10).bind fun t270 => (some t270)) else (some false))) else (some false))) else (some false))) = some r := by rw [if_neg (show ¬ (false = true) by decide)] at H; exact H
        clear H
        have H := H1
        clear H1
        replace H := Option.bind_eq_some_iff.mp H
        obtain ⟨t267, A160, H⟩ := H
        replace H : (if t267 = true then ((gueriteref03_Right.f kj1 a0_4 a0_5).bind fun t268 => (if t268 = true then ((gueriteref15_span.f a0_7 a0_8).bind fun t269 => (if t269 = true then ((gueriteref15_span.f a0_9 a0_10).bind fun t270 => (some t270)) else (some false))) else (some false))) else (some false)) = some r := H
        have A16 := Aside0.mk A160
        clear A160
        by_cases c17 : t267 = true
        · subst c17
          have H1 : ((gueriteref03_Right.f kj1 a0_4 a0_5).bind fun t268 => (if t268 = true then ((gueriteref15_span.f a0_7 a0_8).bind fun t269 => (if t269 = true then ((gueriteref15_span.f a0_9 a0_10).bind fun t270 => (some t270)) else (some false))) else (some false))) = some r := by rw [if_pos rfl] at H; exact H
          clear H
          have H := H1
          clear H1
          replace H := Option.bind_eq_some_iff.mp H
          obtain ⟨t268, A180, H⟩ := H
          replace H : (if t268 = true then ((gueriteref15_span.f a0_7 a0_8).bind fun t269 => (if t269 = true then ((gueriteref15_span.f a0_9 a0_10).bind fun t270 => (some t270)) else (some false))) else (some false)) = some r := H
          have A18 := Aside0.mk A180
          clear A180
          by_cases c19 : t268 = true
          · subst c19
            have H1 : ((gueriteref15_span.f a0_7 a0_8).bind fun t269 => (if t269 = true then ((gueriteref15_span.f a0_9 a0_10).bind fun t270 => (some t270)) else (some false))) = some r := by rw [if_pos rfl] at H; exact H
            clear H
            have H := H1
            clear H1
            replace H := Option.bind_eq_some_iff.mp H
            obtain ⟨t269, A200, H⟩ := H
            replace H : (if t269 = true then ((gueriteref15_span.f a0_9 a0_10).bind fun t270 => (some t270)) else (some false)) = some r := H
            have A20 := Aside0.mk A200
            clear A200
            by_cases c21 : t269 = true
            · subst c21
              have H1 : ((gueriteref15_span.f a0_9 a0_10).bind fun t270 => (some t270)) = some r := by rw [if_pos rfl] at H; exact H
              clear H
              have H := H1
              clear H1
              replace H := Option.bind_eq_some_iff.mp H
              obtain ⟨t270, A220, H⟩ := H
              replace H : (some t270) = some r := H
              have A22 := Aside0.mk A220
              clear A220
              obtain rfl := Option.some.inj H
              have hcz23_0 : wc.cell? ⟨gb266, 0, none⟩ = some (.int .i64 a0_0) := (blk_cell BK266.out 0).trans rfl
              have hcz23_1 : wc.cell? ⟨gb266, 1, none⟩ = some (.int .i64 a0_1) := (blk_cell BK266.out 1).trans rfl
              have hcz23_2 : wc.cell? ⟨gb266, 2, none⟩ = some (.int .u32 a0_2) := (blk_cell BK266.out 2).trans rfl
              have hcz23_3 : wc.cell? ⟨gb266, 3, none⟩ = some (.int .i64 a0_3) := (blk_cell BK266.out 3).trans rfl
              have hcz23_4 : wc.cell? ⟨gb266, 4, none⟩ = some (.int .u32 a0_4) := (blk_cell BK266.out 4).trans rfl
              have hcz23_5 : wc.cell? ⟨gb266, 5, none⟩ = some (.int .i64 a0_5) := (blk_cell BK266.out 5).trans rfl
              have hcz23_6 : wc.cell? ⟨gb266, 6, none⟩ = some (.int .i64 a0_6) := (blk_cell BK266.out 6).trans rfl
              have hcz23_7 : wc.cell? ⟨gb266, 7, none⟩ = some (.int .i64 a0_7) := (blk_cell BK266.out 7).trans rfl
              have hcz23_8 : wc.cell? ⟨gb266, 8, none⟩ = some (.int .i64 a0_8) := (blk_cell BK266.out 8).trans rfl
              have hcz23_9 : wc.cell? ⟨gb266, 9, none⟩ = some (.int .i64 a0_9) := (blk_cell BK266.out 9).trans rfl
              have hcz23_10 : wc.cell? ⟨gb266, 10, none⟩ = some (.int .i64 a0_10) := (blk_cell BK266.out 10).trans rfl
              have hcz23_11 : wc.cell? ⟨gb266, 11, none⟩ = some (.bool a0_11) := (blk_cell BK266.out 11).trans rfl
              have hfz23_0 := blk_frozen BK266.out 0
              have hfz23_1 := blk_frozen BK266.out 1
              have hfz23_2 := blk_frozen BK266.out 2
              have hfz23_3 := blk_frozen BK266.out 3
              have hfz23_4 := blk_frozen BK266.out 4
              have hfz23_5 := blk_frozen BK266.out 5
              have hfz23_6 := blk_frozen BK266.out 6
              have hfz23_7 := blk_frozen BK266.out 7
              have hfz23_8 := blk_frozen BK266.out 8
              have hfz23_9 := blk_frozen BK266.out 9
              have hfz23_10 := blk_frozen BK266.out 10
              have hfz23_11 := blk_frozen BK266.out 11
              go_wp2_with (first | ((with_reducible refine gate_callee (f := 33) rfl ?_); refine goesL_ (some 33) rfl rfl Try.func33 (by kernel_rfl) rfl #[.agg #[.int .u32 a0_2, .int .i64 a0_3]] rfl (by (try simp only [List.map_toArray, List.map_cons, List.map_nil]); first | done | rfl | (simp only [List.length_drop, List.length_take]; rfl)) ?_; (with_reducible refine (gueriteref03_Right.calls kj1 a0_2 a0_3 true _ A16.out).mono ?_); rintro e w24 ⟨rfl, hb⟩; refine ⟨_, rfl, ?_⟩; have n0_ := Aside0.mk (blk_below (g := gb266) (o := .cells #[.int .i64 a0_0, .int .i64 a0_1, .int .u32 a0_2, .int .i64 a0_3, .int .u32 a0_4, .int .i64 a0_5, .int .i64 a0_6, .int .i64 a0_7, .int .i64 a0_8, .int .i64 a0_9, .int .i64 a0_10, .bool a0_11] 42 (0, 0)) (by (with_reducible repeat (first | refine blk_drewN ?_ _ | refine blk_drew ?_ | refine blk_alloc ?_ _)); exact BK266.out) hb); have n1_ := Aside0.mk (below_step (by repeat (first | (with_reducible first | exact HB.out | apply below_alloc | apply pw_below_drewN | apply below_drew1 | refine below_set ?_ GE266.out) | exact HB.out)) hb); clear BK266; clear HB; have BK266 := n0_; have HB := n1_; clear n0_ n1_; (try clear hb); (try clear hb2); (try clear hk); (try clear hi); have hcz25_0 : w24.cell? ⟨gb266, 0, none⟩ = some (.int .i64 a0_0) := (blk_cell BK266.out 0).trans rfl; have hcz25_1 : w24.cell? ⟨gb266, 1, none⟩ = some (.int .i64 a0_1) := (blk_cell BK266.out 1).trans rfl; have hcz25_2 : w24.cell? ⟨gb266, 2, none⟩ = some (.int .u32 a0_2) := (blk_cell BK266.out 2).trans rfl; have hcz25_3 : w24.cell? ⟨gb266, 3, none⟩ = some (.int .i64 a0_3) := (blk_cell BK266.out 3).trans rfl; have hcz25_4 : w24.cell? ⟨gb266, 4, none⟩ = some (.int .u32 a0_4) := (blk_cell BK266.out 4).trans rfl; have hcz25_5 : w24.cell? ⟨gb266, 5, none⟩ = some (.int .i64 a0_5) := (blk_cell BK266.out 5).trans rfl; have hcz25_6 : w24.cell? ⟨gb266, 6, none⟩ = some (.int .i64 a0_6) := (blk_cell BK266.out 6).trans rfl; have hcz25_7 : w24.cell? ⟨gb266, 7, none⟩ = some (.int .i64 a0_7) := (blk_cell BK266.out 7).trans rfl; have hcz25_8 : w24.cell? ⟨gb266, 8, none⟩ = some (.int .i64 a0_8) := (blk_cell BK266.out 8).trans rfl; have hcz25_9 : w24.cell? ⟨gb266, 9, none⟩ = some (.int .i64 a0_9) := (blk_cell BK266.out 9).trans rfl; have hcz25_10 : w24.cell? ⟨gb266, 10, none⟩ = some (.int .i64 a0_10) := (blk_cell BK266.out 10).trans rfl; have hcz25_11 : w24.cell? ⟨gb266, 11, none⟩ = some (.bool a0_11) := (blk_cell BK266.out 11).trans rfl; have hfz25_0 := blk_frozen BK266.out 0; have hfz25_1 := blk_frozen BK266.out 1; have hfz25_2 := blk_frozen BK266.out 2; have hfz25_3 := blk_frozen BK266.out 3; have hfz25_4 := blk_frozen BK266.out 4; have hfz25_5 := blk_frozen BK266.out 5; have hfz25_6 := blk_frozen BK266.out 6; have hfz25_7 := blk_frozen BK266.out 7; have hfz25_8 := blk_frozen BK266.out 8; have hfz25_9 := blk_frozen BK266.out 9; have hfz25_10 := blk_frozen BK266.out 10; have hfz25_11 := blk_frozen BK266.out 11) | (go_at_call 33; (with_reducible refine (gueriteref03_Right.calls kj1 a0_4 a0_5 true _ A18.out).mono ?_); rintro e w26 ⟨rfl, hb⟩; have n0_ := Aside0.mk (blk_below (g := gb266) (o := .cells #[.int .i64 a0_0, .int .i64 a0_1, .int .u32 a0_2, .int .i64 a0_3, .int .u32 a0_4, .int .i64 a0_5, .int .i64 a0_6, .int .i64 a0_7, .int .i64 a0_8, .int .i64 a0_9, .int .i64 a0_10, .bool a0_11] 42 (0, 0)) (by (with_reducible repeat (first | refine blk_drewN ?_ _ | refine blk_drew ?_ | refine blk_alloc ?_ _)); exact BK266.out) hb); have n1_ := Aside0.mk (below_step (by repeat (first | (with_reducible first | exact HB.out | apply below_alloc | apply pw_below_drewN | apply below_drew1 | refine below_set ?_ GE266.out) | exact HB.out)) hb); clear BK266; clear HB; have BK266 := n0_; have HB := n1_; clear n0_ n1_; (try clear hb); (try clear hb2); (try clear hk); (try clear hi); have hcz27_0 : w26.cell? ⟨gb266, 0, none⟩ = some (.int .i64 a0_0) := (blk_cell BK266.out 0).trans rfl; have hcz27_1 : w26.cell? ⟨gb266, 1, none⟩ = some (.int .i64 a0_1) := (blk_cell BK266.out 1).trans rfl; have hcz27_2 : w26.cell? ⟨gb266, 2, none⟩ = some (.int .u32 a0_2) := (blk_cell BK266.out 2).trans rfl; have hcz27_3 : w26.cell? ⟨gb266, 3, none⟩ = some (.int .i64 a0_3) := (blk_cell BK266.out 3).trans rfl; have hcz27_4 : w26.cell? ⟨gb266, 4, none⟩ = some (.int .u32 a0_4) := (blk_cell BK266.out 4).trans rfl; have hcz27_5 : w26.cell? ⟨gb266, 5, none⟩ = some (.int .i64 a0_5) := (blk_cell BK266.out 5).trans rfl; have hcz27_6 : w26.cell? ⟨gb266, 6, none⟩ = some (.int .i64 a0_6) := (blk_cell BK266.out 6).trans rfl; have hcz27_7 : w26.cell? ⟨gb266, 7, none⟩ = some (.int .i64 a0_7) := (blk_cell BK266.out 7).trans rfl; have hcz27_8 : w26.cell? ⟨gb266, 8, none⟩ = some (.int .i64 a0_8) := (blk_cell BK266.out 8).trans rfl; have hcz27_9 : w26.cell? ⟨gb266, 9, none⟩ = some (.int .i64 a0_9) := (blk_cell BK266.out 9).trans rfl; have hcz27_10 : w26.cell? ⟨gb266, 10, none⟩ = some (.int .i64 a0_10) := (blk_cell BK266.out 10).trans rfl; have hcz27_11 : w26.cell? ⟨gb266, 11, none⟩ = some (.bool a0_11) := (blk_cell BK266.out 11).trans rfl; have hfz27_0 := blk_frozen BK266.out 0; have hfz27_1 := blk_frozen BK266.out 1; have hfz27_2 := blk_frozen BK266.out 2; have hfz27_3 := blk_frozen BK266.out 3; have hfz27_4 := blk_frozen BK266.out 4; have hfz27_5 := blk_frozen BK266.out 5; have hfz27_6 := blk_frozen BK266.out 6; have hfz27_7 := blk_frozen BK266.out 7; have hfz27_8 := blk_frozen BK266.out 8; have hfz27_9 := blk_frozen BK266.out 9; have hfz27_10 := blk_frozen BK266.out 10; have hfz27_11 := blk_frozen BK266.out 11) | (go_at_call 46; (with_reducible refine (gueriteref15_span.calls a0_7 a0_8 true _ A20.out).mono ?_); rintro e w' ⟨rfl, ⟨nd, rfl⟩⟩) | (go_at_call 46; (with_reducible refine (gueriteref15_span.calls a0_9 a0_10 t270 _ A22.out).mono ?_); rintro e w' ⟨rfl, ⟨nd, rfl⟩⟩))
              go_ret
              exact ⟨by first | rfl | (simp [errW_none, errW_some] <;> rfl) | (simp [*, errW_none, errW_some] <;> rfl), by repeat (first | (with_reducible first | exact HB.out | apply below_alloc | apply pw_below_drewN | apply below_drew1 | refine below_set ?_ GE266.out) | exact HB.out)⟩
            · replace c21 := Bool.eq_false_iff.mpr c21
              subst c21
              have H1 : (some false) = some r := by rw [if_neg (show ¬ (false = true) by decide)] at H; exact H
              clear H
              have H := H1
              clear H1
              obtain rfl := Option.some.inj H
              have hcz28_0 : wc.cell? ⟨gb266, 0, none⟩ = some (.int .i64 a0_0) := (blk_cell BK266.out 0).trans rfl
              have hcz28_1 : wc.cell? ⟨gb266, 1, none⟩ = some (.int .i64 a0_1) := (blk_cell BK266.out 1).trans rfl
              have hcz28_2 : wc.cell? ⟨gb266, 2, none⟩ = some (.int .u32 a0_2) := (blk_cell BK266.out 2).trans rfl
              have hcz28_3 : wc.cell? ⟨gb266, 3, none⟩ = some (.int .i64 a0_3) := (blk_cell BK266.out 3).trans rfl
              have hcz28_4 : wc.cell? ⟨gb266, 4, none⟩ = some (.int .u32 a0_4) := (blk_cell BK266.out 4).trans rfl
              have hcz28_5 : wc.cell? ⟨gb266, 5, none⟩ = some (.int .i64 a0_5) := (blk_cell BK266.out 5).trans rfl
              have hcz28_6 : wc.cell? ⟨gb266, 6, none⟩ = some (.int .i64 a0_6) := (blk_cell BK266.out 6).trans rfl
              have hcz28_7 : wc.cell? ⟨gb266, 7, none⟩ = some (.int .i64 a0_7) := (blk_cell BK266.out 7).trans rfl
              have hcz28_8 : wc.cell? ⟨gb266, 8, none⟩ = some (.int .i64 a0_8) := (blk_cell BK266.out 8).trans rfl
              have hcz28_9 : wc.cell? ⟨gb266, 9, none⟩ = some (.int .i64 a0_9) := (blk_cell BK266.out 9).trans rfl
              have hcz28_10 : wc.cell? ⟨gb266, 10, none⟩ = some (.int .i64 a0_10) := (blk_cell BK266.out 10).trans rfl
              have hcz28_11 : wc.cell? ⟨gb266, 11, none⟩ = some (.bool a0_11) := (blk_cell BK266.out 11).trans rfl
              have hfz28_0 := blk_frozen BK266.out 0
              have hfz28_1 := blk_frozen BK266.out 1
              have hfz28_2 := blk_frozen BK266.out 2
              have hfz28_3 := blk_frozen BK266.out 3
              have hfz28_4 := blk_frozen BK266.out 4
              have hfz28_5 := blk_frozen BK266.out 5
              have hfz28_6 := blk_frozen BK266.out 6
              have hfz28_7 := blk_frozen BK266.out 7
              have hfz28_8 := blk_frozen BK266.out 8
              have hfz28_9 := blk_frozen BK266.out 9
              have hfz28_10 := blk_frozen BK266.out 10
              have hfz28_11 := blk_frozen BK266.out 11
              go_wp2_with (first | ((with_reducible refine gate_callee (f := 33) rfl ?_); refine goesL_ (some 33) rfl rfl Try.func33 (by kernel_rfl) rfl #[.agg #[.int .u32 a0_2, .int .i64 a0_3]] rfl (by (try simp only [List.map_toArray, List.map_cons, List.map_nil]); first | done | rfl | (simp only [List.length_drop, List.length_take]; rfl)) ?_; (with_reducible refine (gueriteref03_Right.calls kj1 a0_2 a0_3 true _ A16.out).mono ?_); rintro e w29 ⟨rfl, hb⟩; refine ⟨_, rfl, ?_⟩; have n0_ := Aside0.mk (blk_below (g := gb266) (o := .cells #[.int .i64 a0_0, .int .i64 a0_1, .int .u32 a0_2, .int .i64 a0_3, .int .u32 a0_4, .int .i64 a0_5, .int .i64 a0_6, .int .i64 a0_7, .int .i64 a0_8, .int .i64 a0_9, .int .i64 a0_10, .bool a0_11] 42 (0, 0)) (by (with_reducible repeat (first | refine blk_drewN ?_ _ | refine blk_drew ?_ | refine blk_alloc ?_ _)); exact BK266.out) hb); have n1_ := Aside0.mk (below_step (by repeat (first | (with_reducible first | exact HB.out | apply below_alloc | apply pw_below_drewN | apply below_drew1 | refine below_set ?_ GE266.out) | exact HB.out)) hb); clear BK266; clear HB; have BK266 := n0_; have HB := n1_; clear n0_ n1_; (try clear hb); (try clear hb2); (try clear hk); (try clear hi); have hcz30_0 : w29.cell? ⟨gb266, 0, none⟩ = some (.int .i64 a0_0) := (blk_cell BK266.out 0).trans rfl; have hcz30_1 : w29.cell? ⟨gb266, 1, none⟩ = some (.int .i64 a0_1) := (blk_cell BK266.out 1).trans rfl; have hcz30_2 : w29.cell? ⟨gb266, 2, none⟩ = some (.int .u32 a0_2) := (blk_cell BK266.out 2).trans rfl; have hcz30_3 : w29.cell? ⟨gb266, 3, none⟩ = some (.int .i64 a0_3) := (blk_cell BK266.out 3).trans rfl; have hcz30_4 : w29.cell? ⟨gb266, 4, none⟩ = some (.int .u32 a0_4) := (blk_cell BK266.out 4).trans rfl; have hcz30_5 : w29.cell? ⟨gb266, 5, none⟩ = some (.int .i64 a0_5) := (blk_cell BK266.out 5).trans rfl; have hcz30_6 : w29.cell? ⟨gb266, 6, none⟩ = some (.int .i64 a0_6) := (blk_cell BK266.out 6).trans rfl; have hcz30_7 : w29.cell? ⟨gb266, 7, none⟩ = some (.int .i64 a0_7) := (blk_cell BK266.out 7).trans rfl; have hcz30_8 : w29.cell? ⟨gb266, 8, none⟩ = some (.int .i64 a0_8) := (blk_cell BK266.out 8).trans rfl; have hcz30_9 : w29.cell? ⟨gb266, 9, none⟩ = some (.int .i64 a0_9) := (blk_cell BK266.out 9).trans rfl; have hcz30_10 : w29.cell? ⟨gb266, 10, none⟩ = some (.int .i64 a0_10) := (blk_cell BK266.out 10).trans rfl; have hcz30_11 : w29.cell? ⟨gb266, 11, none⟩ = some (.bool a0_11) := (blk_cell BK266.out 11).trans rfl; have hfz30_0 := blk_frozen BK266.out 0; have hfz30_1 := blk_frozen BK266.out 1; have hfz30_2 := blk_frozen BK266.out 2; have hfz30_3 := blk_frozen BK266.out 3; have hfz30_4 := blk_frozen BK266.out 4; have hfz30_5 := blk_frozen BK266.out 5; have hfz30_6 := blk_frozen BK266.out 6; have hfz30_7 := blk_frozen BK266.out 7; have hfz30_8 := blk_frozen BK266.out 8; have hfz30_9 := blk_frozen BK266.out 9; have hfz30_10 := blk_frozen BK266.out 10; have hfz30_11 := blk_frozen BK266.out 11) | (go_at_call 33; (with_reducible refine (gueriteref03_Right.calls kj1 a0_4 a0_5 true _ A18.out).mono ?_); rintro e w31 ⟨rfl, hb⟩; have n0_ := Aside0.mk (blk_below (g := gb266) (o := .cells #[.int .i64 a0_0, .int .i64 a0_1, .int .u32 a0_2, .int .i64 a0_3, .int .u32 a0_4, .int .i64 a0_5, .int .i64 a0_6, .int .i64 a0_7, .int .i64 a0_8, .int .i64 a0_9, .int .i64 a0_10, .bool a0_11] 42 (0, 0)) (by (with_reducible repeat (first | refine blk_drewN ?_ _ | refine blk_drew ?_ | refine blk_alloc ?_ _)); exact BK266.out) hb); have n1_ := Aside0.mk (below_step (by repeat (first | (with_reducible first | exact HB.out | apply below_alloc | apply pw_below_drewN | apply below_drew1 | refine below_set ?_ GE266.out) | exact HB.out)) hb); clear BK266; clear HB; have BK266 := n0_; have HB := n1_; clear n0_ n1_; (try clear hb); (try clear hb2); (try clear hk); (try clear hi); have hcz32_0 : w31.cell? ⟨gb266, 0, none⟩ = some (.int .i64 a0_0) := (blk_cell BK266.out 0).trans rfl; have hcz32_1 : w31.cell? ⟨gb266, 1, none⟩ = some (.int .i64 a0_1) := (blk_cell BK266.out 1).trans rfl; have hcz32_2 : w31.cell? ⟨gb266, 2, none⟩ = some (.int .u32 a0_2) := (blk_cell BK266.out 2).trans rfl; have hcz32_3 : w31.cell? ⟨gb266, 3, none⟩ = some (.int .i64 a0_3) := (blk_cell BK266.out 3).trans rfl; have hcz32_4 : w31.cell? ⟨gb266, 4, none⟩ = some (.int .u32 a0_4) := (blk_cell BK266.out 4).trans rfl; have hcz32_5 : w31.cell? ⟨gb266, 5, none⟩ = some (.int .i64 a0_5) := (blk_cell BK266.out 5).trans rfl; have hcz32_6 : w31.cell? ⟨gb266, 6, none⟩ = some (.int .i64 a0_6) := (blk_cell BK266.out 6).trans rfl; have hcz32_7 : w31.cell? ⟨gb266, 7, none⟩ = some (.int .i64 a0_7) := (blk_cell BK266.out 7).trans rfl; have hcz32_8 : w31.cell? ⟨gb266, 8, none⟩ = some (.int .i64 a0_8) := (blk_cell BK266.out 8).trans rfl; have hcz32_9 : w31.cell? ⟨gb266, 9, none⟩ = some (.int .i64 a0_9) := (blk_cell BK266.out 9).trans rfl; have hcz32_10 : w31.cell? ⟨gb266, 10, none⟩ = some (.int .i64 a0_10) := (blk_cell BK266.out 10).trans rfl; have hcz32_11 : w31.cell? ⟨gb266, 11, none⟩ = some (.bool a0_11) := (blk_cell BK266.out 11).trans rfl; have hfz32_0 := blk_frozen BK266.out 0; have hfz32_1 := blk_frozen BK266.out 1; have hfz32_2 := blk_frozen BK266.out 2; have hfz32_3 := blk_frozen BK266.out 3; have hfz32_4 := blk_frozen BK266.out 4; have hfz32_5 := blk_frozen BK266.out 5; have hfz32_6 := blk_frozen BK266.out 6; have hfz32_7 := blk_frozen BK266.out 7; have hfz32_8 := blk_frozen BK266.out 8; have hfz32_9 := blk_frozen BK266.out 9; have hfz32_10 := blk_frozen BK266.out 10; have hfz32_11 := blk_frozen BK266.out 11) | (go_at_call 46; (with_reducible refine (gueriteref15_span.calls a0_7 a0_8 false _ A20.out).mono ?_); rintro e w' ⟨rfl, ⟨nd, rfl⟩⟩))
              go_ret
              exact ⟨by first | rfl | (simp [errW_none, errW_some] <;> rfl) | (simp [*, errW_none, errW_some] <;> rfl), by repeat (first | (with_reducible first | exact HB.out | apply below_alloc | apply pw_below_drewN | apply below_drew1 | refine below_set ?_ GE266.out) | exact HB.out)⟩
          · replace c19 := Bool.eq_false_iff.mpr c19
            subst c19
            have H1 : (some false) = some r := by rw [if_neg (show ¬ (false = true) by decide)] at H; exact H
            clear H
            have H := H1
            clear H1
            obtain rfl := Option.some.inj H
            have hcz33_0 : wc.cell? ⟨gb266, 0, none⟩ = some (.int .i64 a0_0) := (blk_cell BK266.out 0).trans rfl
            have hcz33_1 : wc.cell? ⟨gb266, 1, none⟩ = some (.int .i64 a0_1) := (blk_cell BK266.out 1).trans rfl
            have hcz33_2 : wc.cell? ⟨gb266, 2, none⟩ = some (.int .u32 a0_2) := (blk_cell BK266.out 2).trans rfl
            have hcz33_3 : wc.cell? ⟨gb266, 3, none⟩ = some (.int .i64 a0_3) := (blk_cell BK266.out 3).trans rfl
            have hcz33_4 : wc.cell? ⟨gb266, 4, none⟩ = some (.int .u32 a0_4) := (blk_cell BK266.out 4).trans rfl
            have hcz33_5 : wc.cell? ⟨gb266, 5, none⟩ = some (.int .i64 a0_5) := (blk_cell BK266.out 5).trans rfl
            have hcz33_6 : wc.cell? ⟨gb266, 6, none⟩ = some (.int .i64 a0_6) := (blk_cell BK266.out 6).trans rfl
            have hcz33_7 : wc.cell? ⟨gb266, 7, none⟩ = some (.int .i64 a0_7) := (blk_cell BK266.out 7).trans rfl
            have hcz33_8 : wc.cell? ⟨gb266, 8, none⟩ = some (.int .i64 a0_8) := (blk_cell BK266.out 8).trans rfl
            have hcz33_9 : wc.cell? ⟨gb266, 9, none⟩ = some (.int .i64 a0_9) := (blk_cell BK266.out 9).trans rfl
            have hcz33_10 : wc.cell? ⟨gb266, 10, none⟩ = some (.int .i64 a0_10) := (blk_cell BK266.out 10).trans rfl
            have hcz33_11 : wc.cell? ⟨gb266, 11, none⟩ = some (.bool a0_11) := (blk_cell BK266.out 11).trans rfl
            have hfz33_0 := blk_frozen BK266.out 0
            have hfz33_1 := blk_frozen BK266.out 1
            have hfz33_2 := blk_frozen BK266.out 2
            have hfz33_3 := blk_frozen BK266.out 3
            have hfz33_4 := blk_frozen BK266.out 4
            have hfz33_5 := blk_frozen BK266.out 5
            have hfz33_6 := blk_frozen BK266.out 6
            have hfz33_7 := blk_frozen BK266.out 7
            have hfz33_8 := blk_frozen BK266.out 8
            have hfz33_9 := blk_frozen BK266.out 9
            have hfz33_10 := blk_frozen BK266.out 10
            have hfz33_11 := blk_frozen BK266.out 11
            go_wp2_with (first | ((with_reducible refine gate_callee (f := 33) rfl ?_); refine goesL_ (some 33) rfl rfl Try.func33 (by kernel_rfl) rfl #[.agg #[.int .u32 a0_2, .int .i64 a0_3]] rfl (by (try simp only [List.map_toArray, List.map_cons, List.map_nil]); first | done | rfl | (simp only [List.length_drop, List.length_take]; rfl)) ?_; (with_reducible refine (gueriteref03_Right.calls kj1 a0_2 a0_3 true _ A16.out).mono ?_); rintro e w34 ⟨rfl, hb⟩; refine ⟨_, rfl, ?_⟩; have n0_ := Aside0.mk (blk_below (g := gb266) (o := .cells #[.int .i64 a0_0, .int .i64 a0_1, .int .u32 a0_2, .int .i64 a0_3, .int .u32 a0_4, .int .i64 a0_5, .int .i64 a0_6, .int .i64 a0_7, .int .i64 a0_8, .int .i64 a0_9, .int .i64 a0_10, .bool a0_11] 42 (0, 0)) (by (with_reducible repeat (first | refine blk_drewN ?_ _ | refine blk_drew ?_ | refine blk_alloc ?_ _)); exact BK266.out) hb); have n1_ := Aside0.mk (below_step (by repeat (first | (with_reducible first | exact HB.out | apply below_alloc | apply pw_below_drewN | apply below_drew1 | refine below_set ?_ GE266.out) | exact HB.out)) hb); clear BK266; clear HB; have BK266 := n0_; have HB := n1_; clear n0_ n1_; (try clear hb); (try clear hb2); (try clear hk); (try clear hi); have hcz35_0 : w34.cell? ⟨gb266, 0, none⟩ = some (.int .i64 a0_0) := (blk_cell BK266.out 0).trans rfl; have hcz35_1 : w34.cell? ⟨gb266, 1, none⟩ = some (.int .i64 a0_1) := (blk_cell BK266.out 1).trans rfl; have hcz35_2 : w34.cell? ⟨gb266, 2, none⟩ = some (.int .u32 a0_2) := (blk_cell BK266.out 2).trans rfl; have hcz35_3 : w34.cell? ⟨gb266, 3, none⟩ = some (.int .i64 a0_3) := (blk_cell BK266.out 3).trans rfl; have hcz35_4 : w34.cell? ⟨gb266, 4, none⟩ = some (.int .u32 a0_4) := (blk_cell BK266.out 4).trans rfl; have hcz35_5 : w34.cell? ⟨gb266, 5, none⟩ = some (.int .i64 a0_5) := (blk_cell BK266.out 5).trans rfl; have hcz35_6 : w34.cell? ⟨gb266, 6, none⟩ = some (.int .i64 a0_6) := (blk_cell BK266.out 6).trans rfl; have hcz35_7 : w34.cell? ⟨gb266, 7, none⟩ = some (.int .i64 a0_7) := (blk_cell BK266.out 7).trans rfl; have hcz35_8 : w34.cell? ⟨gb266, 8, none⟩ = some (.int .i64 a0_8) := (blk_cell BK266.out 8).trans rfl; have hcz35_9 : w34.cell? ⟨gb266, 9, none⟩ = some (.int .i64 a0_9) := (blk_cell BK266.out 9).trans rfl; have hcz35_10 : w34.cell? ⟨gb266, 10, none⟩ = some (.int .i64 a0_10) := (blk_cell BK266.out 10).trans rfl; have hcz35_11 : w34.cell? ⟨gb266, 11, none⟩ = some (.bool a0_11) := (blk_cell BK266.out 11).trans rfl; have hfz35_0 := blk_frozen BK266.out 0; have hfz35_1 := blk_frozen BK266.out 1; have hfz35_2 := blk_frozen BK266.out 2; have hfz35_3 := blk_frozen BK266.out 3; have hfz35_4 := blk_frozen BK266.out 4; have hfz35_5 := blk_frozen BK266.out 5; have hfz35_6 := blk_frozen BK266.out 6; have hfz35_7 := blk_frozen BK266.out 7; have hfz35_8 := blk_frozen BK266.out 8; have hfz35_9 := blk_frozen BK266.out 9; have hfz35_10 := blk_frozen BK266.out 10; have hfz35_11 := blk_frozen BK266.out 11) | (go_at_call 33; (with_reducible refine (gueriteref03_Right.calls kj1 a0_4 a0_5 false _ A18.out).mono ?_); rintro e w36 ⟨rfl, hb⟩; have n0_ := Aside0.mk (blk_below (g := gb266) (o := .cells #[.int .i64 a0_0, .int .i64 a0_1, .int .u32 a0_2, .int .i64 a0_3, .int .u32 a0_4, .int .i64 a0_5, .int .i64 a0_6, .int .i64 a0_7, .int .i64 a0_8, .int .i64 a0_9, .int .i64 a0_10, .bool a0_11] 42 (0, 0)) (by (with_reducible repeat (first | refine blk_drewN ?_ _ | refine blk_drew ?_ | refine blk_alloc ?_ _)); exact BK266.out) hb); have n1_ := Aside0.mk (below_step (by repeat (first | (with_reducible first | exact HB.out | apply below_alloc | apply pw_below_drewN | apply below_drew1 | refine below_set ?_ GE266.out) | exact HB.out)) hb); clear BK266; clear HB; have BK266 := n0_; have HB := n1_; clear n0_ n1_; (try clear hb); (try clear hb2); (try clear hk); (try clear hi)))
            go_ret
            exact ⟨by first | rfl | (simp [errW_none, errW_some] <;> rfl) | (simp [*, errW_none, errW_some] <;> rfl), by repeat (first | (with_reducible first | exact HB.out | apply below_alloc | apply pw_below_drewN | apply below_drew1 | refine below_set ?_ GE266.out) | exact HB.out)⟩
        · replace c17 := Bool.eq_false_iff.mpr c17
          subst c17
          have H1 : (some false) = some r := by rw [if_neg (show ¬ (false = true) by decide)] at H; exact H
          clear H
          have H := H1
          clear H1
          obtain rfl := Option.some.inj H
          have hcz37_0 : wc.cell? ⟨gb266, 0, none⟩ = some (.int .i64 a0_0) := (blk_cell BK266.out 0).trans rfl
          have hcz37_1 : wc.cell? ⟨gb266, 1, none⟩ = some (.int .i64 a0_1) := (blk_cell BK266.out 1).trans rfl
          have hcz37_2 : wc.cell? ⟨gb266, 2, none⟩ = some (.int .u32 a0_2) := (blk_cell BK266.out 2).trans rfl
          have hcz37_3 : wc.cell? ⟨gb266, 3, none⟩ = some (.int .i64 a0_3) := (blk_cell BK266.out 3).trans rfl
          have hcz37_4 : wc.cell? ⟨gb266, 4, none⟩ = some (.int .u32 a0_4) := (blk_cell BK266.out 4).trans rfl
          have hcz37_5 : wc.cell? ⟨gb266, 5, none⟩ = some (.int .i64 a0_5) := (blk_cell BK266.out 5).trans rfl
          have hcz37_6 : wc.cell? ⟨gb266, 6, none⟩ = some (.int .i64 a0_6) := (blk_cell BK266.out 6).trans rfl
          have hcz37_7 : wc.cell? ⟨gb266, 7, none⟩ = some (.int .i64 a0_7) := (blk_cell BK266.out 7).trans rfl
          have hcz37_8 : wc.cell? ⟨gb266, 8, none⟩ = some (.int .i64 a0_8) := (blk_cell BK266.out 8).trans rfl
          have hcz37_9 : wc.cell? ⟨gb266, 9, none⟩ = some (.int .i64 a0_9) := (blk_cell BK266.out 9).trans rfl
          have hcz37_10 : wc.cell? ⟨gb266, 10, none⟩ = some (.int .i64 a0_10) := (blk_cell BK266.out 10).trans rfl
          have hcz37_11 : wc.cell? ⟨gb266, 11, none⟩ = some (.bool a0_11) := (blk_cell BK266.out 11).trans rfl
          have hfz37_0 := blk_frozen BK266.out 0
          have hfz37_1 := blk_frozen BK266.out 1
          have hfz37_2 := blk_frozen BK266.out 2
          have hfz37_3 := blk_frozen BK266.out 3
          have hfz37_4 := blk_frozen BK266.out 4
          have hfz37_5 := blk_frozen BK266.out 5
          have hfz37_6 := blk_frozen BK266.out 6
          have hfz37_7 := blk_frozen BK266.out 7
          have hfz37_8 := blk_frozen BK266.out 8
          have hfz37_9 := blk_frozen BK266.out 9
          have hfz37_10 := blk_frozen BK266.out 10
          have hfz37_11 := blk_frozen BK266.out 11
          go_wp2_with (first | ((with_reducible refine gate_callee (f := 33) rfl ?_); refine goesL_ (some 33) rfl rfl Try.func33 (by kernel_rfl) rfl #[.agg #[.int .u32 a0_2, .int .i64 a0_3]] rfl (by (try simp only [List.map_toArray, List.map_cons, List.map_nil]); first | done | rfl | (simp only [List.length_drop, List.length_take]; rfl)) ?_; (with_reducible refine (gueriteref03_Right.calls kj1 a0_2 a0_3 false _ A16.out).mono ?_); rintro e w38 ⟨rfl, hb⟩; refine ⟨_, rfl, ?_⟩; have n0_ := Aside0.mk (blk_below (g := gb266) (o := .cells #[.int .i64 a0_0, .int .i64 a0_1, .int .u32 a0_2, .int .i64 a0_3, .int .u32 a0_4, .int .i64 a0_5, .int .i64 a0_6, .int .i64 a0_7, .int .i64 a0_8, .int .i64 a0_9, .int .i64 a0_10, .bool a0_11] 42 (0, 0)) (by (with_reducible repeat (first | refine blk_drewN ?_ _ | refine blk_drew ?_ | refine blk_alloc ?_ _)); exact BK266.out) hb); have n1_ := Aside0.mk (below_step (by repeat (first | (with_reducible first | exact HB.out | apply below_alloc | apply pw_below_drewN | apply below_drew1 | refine below_set ?_ GE266.out) | exact HB.out)) hb); clear BK266; clear HB; have BK266 := n0_; have HB := n1_; clear n0_ n1_; (try clear hb); (try clear hb2); (try clear hk); (try clear hi)))
          go_ret
          exact ⟨by first | rfl | (simp [errW_none, errW_some] <;> rfl) | (simp [*, errW_none, errW_some] <;> rfl), by repeat (first | (with_reducible first | exact HB.out | apply below_alloc | apply pw_below_drewN | apply below_drew1 | refine below_set ?_ GE266.out) | exact HB.out)⟩

end Go.Proofs.Ytakfnghakbjncaa.P
