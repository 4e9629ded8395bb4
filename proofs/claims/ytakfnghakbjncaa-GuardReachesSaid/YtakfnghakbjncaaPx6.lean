-- Written by a program of this session (xprint.py), over the kit's print; not trusted: Lean checks it.
import Derived.Test.YtakfnghakbjncaaPx0
import Derived.Test.YtakfnghakbjncaaPx5
namespace Go.Proofs.Ytakfnghakbjncaa.P
open Go.RowKit Go.Proofs.YtakfnghakbjncaaW.PrintWords Go.Proofs.YtakfnghakbjncaaW.PrintLast Go.Proofs.YtakfnghakbjncaaW.PrintMore
attribute [local go_sem] max2_int min2_int max_two min_two max_three min_three max_four min_four   -- for this text's walks alone
set_option linter.unusedVariables false
set_option linter.unusedSimpArgs false

/-! ### gueriteref16_Matches: function 11 -/
def gueriteref16_Matches.j0 : Nat → Int → Int → Bool → Int → Int → Int → Int → Int → Int → Int → Int → Option (Bool)
  | 0, _, _, _, _, _, _, _, _, _, _, _ => none
  | k + 1, x4, x5, x43, x130000, x130001, x130002, x130003, x130004, x130005, x130006, x130007 => if x43 = true then (some false) else ((gueriteref03_Holds.f k x130002 x130003 x4).bind fun t130 => (if t130 = true then ((gueriteref03_Holds.f k x130004 x130005 x5).bind fun t131 => (some t131)) else (some false)))
def gueriteref16_Matches.f (k : Nat) (a0_0 : Int) (a0_1 : Int) (a0_2 : Int) (a0_3 : Int) (a0_4 : Int) (a0_5 : Int) (a0_6 : Int) (a0_7 : Int) (a1 : Int) (a2 : Int) (a3 : Int) (a4 : Int) (a5 : Int) : Option (Bool) := if a0_0 = (-1) then (if a0_1 = (-1) then (if a0_6 = (-1) then (gueriteref16_Matches.j0 k a4 a5 false a0_0 a0_1 a0_2 a0_3 a0_4 a0_5 a0_6 a0_7) else (gueriteref16_Matches.j0 k a4 a5 (a0_6 != a3) a0_0 a0_1 a0_2 a0_3 a0_4 a0_5 a0_6 a0_7)) else (if a0_1 = a2 then (if a0_6 = (-1) then (gueriteref16_Matches.j0 k a4 a5 false a0_0 a0_1 a0_2 a0_3 a0_4 a0_5 a0_6 a0_7) else (gueriteref16_Matches.j0 k a4 a5 (a0_6 != a3) a0_0 a0_1 a0_2 a0_3 a0_4 a0_5 a0_6 a0_7)) else (gueriteref16_Matches.j0 k a4 a5 true a0_0 a0_1 a0_2 a0_3 a0_4 a0_5 a0_6 a0_7))) else (if a0_0 = a1 then (if a0_1 = (-1) then (if a0_6 = (-1) then (gueriteref16_Matches.j0 k a4 a5 false a0_0 a0_1 a0_2 a0_3 a0_4 a0_5 a0_6 a0_7) else (gueriteref16_Matches.j0 k a4 a5 (a0_6 != a3) a0_0 a0_1 a0_2 a0_3 a0_4 a0_5 a0_6 a0_7)) else (if a0_1 = a2 then (if a0_6 = (-1) then (gueriteref16_Matches.j0 k a4 a5 false a0_0 a0_1 a0_2 a0_3 a0_4 a0_5 a0_6 a0_7) else (gueriteref16_Matches.j0 k a4 a5 (a0_6 != a3) a0_0 a0_1 a0_2 a0_3 a0_4 a0_5 a0_6 a0_7)) else (gueriteref16_Matches.j0 k a4 a5 true a0_0 a0_1 a0_2 a0_3 a0_4 a0_5 a0_6 a0_7))) else (gueriteref16_Matches.j0 k a4 a5 true a0_0 a0_1 a0_2 a0_3 a0_4 a0_5 a0_6 a0_7))
theorem gueriteref16_Matches.mono_l : ∀ k, (∀ y0 y1 y2 y3 y4 y5 y6 y7 y8 y9 y10, LeO (gueriteref16_Matches.j0 k y0 y1 y2 y3 y4 y5 y6 y7 y8 y9 y10) (gueriteref16_Matches.j0 (k + 1) y0 y1 y2 y3 y4 y5 y6 y7 y8 y9 y10))
  | 0 => fun _ _ _ _ _ _ _ _ _ _ _ r h => by simp [gueriteref16_Matches.j0] at h
  | k + 1 => by
    have ih0 := gueriteref16_Matches.mono_l k
    · intro y0 y1 y2 y3 y4 y5 y6 y7 y8 y9 y10
      unfold gueriteref16_Matches.j0
      repeat' first
      | (with_reducible exact ih0 _ _ _ _ _ _ _ _ _ _ _)
      | (with_reducible exact gueriteref03_Holds.mono _ _ _ _)
      | (with_reducible exact LeO.refl _)
      | (with_reducible exact LeO.none _)
      | (with_reducible refine LeO.ite ?_ ?_)
      | (with_reducible refine LeO.bind ?_ (fun _ => ?_))
      | exact ih0 _ _ _ _ _ _ _ _ _ _ _
      | exact gueriteref03_Holds.mono _ _ _ _
      | exact LeO.none _
      | refine LeO.ite ?_ ?_
      | refine LeO.bind ?_ (fun _ => ?_)
theorem gueriteref16_Matches.mono : ∀ a0 a1 a2 a3 a4 a5 a6 a7 a8 a9 a10 a11 a12 k, LeO (gueriteref16_Matches.f k a0 a1 a2 a3 a4 a5 a6 a7 a8 a9 a10 a11 a12) (gueriteref16_Matches.f (k + 1) a0 a1 a2 a3 a4 a5 a6 a7 a8 a9 a10 a11 a12) := by
  intro a0 a1 a2 a3 a4 a5 a6 a7 a8 a9 a10 a11 a12 k
  have ih0 := gueriteref16_Matches.mono_l k
  unfold gueriteref16_Matches.f
  repeat' first
      | (with_reducible exact ih0 _ _ _ _ _ _ _ _ _ _ _)
      | (with_reducible exact gueriteref03_Holds.mono _ _ _ _)
      | (with_reducible exact LeO.refl _)
      | (with_reducible exact LeO.none _)
      | (with_reducible refine LeO.ite ?_ ?_)
      | (with_reducible refine LeO.bind ?_ (fun _ => ?_))
      | exact ih0 _ _ _ _ _ _ _ _ _ _ _
      | exact gueriteref03_Holds.mono _ _ _ _
      | exact LeO.none _
      | refine LeO.ite ?_ ?_
      | refine LeO.bind ?_ (fun _ => ?_)
set_option maxHeartbeats 8000000 in
set_option maxRecDepth 100000 in
theorem gueriteref16_Matches.calls (k : Nat) (a0_0 : Int) (a0_1 : Int) (a0_2 : Int) (a0_3 : Int) (a0_4 : Int) (a0_5 : Int) (a0_6 : Int) (a0_7 : Int) (a1 : Int) (a2 : Int) (a3 : Int) (a4 : Int) (a5 : Int) (r : Bool) (w : World) (h : gueriteref16_Matches.f k a0_0 a0_1 a0_2 a0_3 a0_4 a0_5 a0_6 a0_7 a1 a2 a3 a4 a5 = some r) :
    Calls Try.prog 11 #[.agg #[.int .i64 a0_0, .int .i64 a0_1, .int .u32 a0_2, .int .i64 a0_3, .int .u32 a0_4, .int .i64 a0_5, .int .i64 a0_6, .int .i64 a0_7], .int .i64 a1, .int .i64 a2, .int .i64 a3, .int .u32 a4, .int .u32 a5] w fun e w' => e = .returned (.bool r) ∧ Below w.heap.size w w' := by
  have hu31 := Try.underlying31
  have hu29 := Try.underlying29
  have HB := Aside0.mk (Below.refl w.heap.size w)
  have H : (if a0_0 = (-1) then (if a0_1 = (-1) then (if a0_6 = (-1) then (gueriteref16_Matches.j0 k a4 a5 false a0_0 a0_1 a0_2 a0_3 a0_4 a0_5 a0_6 a0_7) else (gueriteref16_Matches.j0 k a4 a5 (a0_6 != a3) a0_0 a0_1 a0_2 a0_3 a0_4 a0_5 a0_6 a0_7)) else (if a0_1 = a2 then (if a0_6 = (-1) then (gueriteref16_Matches.j0 k a4 a5 false a0_0 a0_1 a0_2 a0_3 a0_4 a0_5 a0_6 a0_7) else (gueriteref16_Matches.j0 k a4 a5 (a0_6 != a3) a0_0 a0_1 a0_2 a0_3 a0_4 a0_5 a0_6 a0_7)) else (gueriteref16_Matches.j0 k a4 a5 true a0_0 a0_1 a0_2 a0_3 a0_4 a0_5 a0_6 a0_7))) else (if a0_0 = a1 then (if a0_1 = (-1) then (if a0_6 = (-1) then (gueriteref16_Matches.j0 k a4 a5 false a0_0 a0_1 a0_2 a0_3 a0_4 a0_5 a0_6 a0_7) else (gueriteref16_Matches.j0 k a4 a5 (a0_6 != a3) a0_0 a0_1 a0_2 a0_3 a0_4 a0_5 a0_6 a0_7)) else (if a0_1 = a2 then (if a0_6 = (-1) then (gueriteref16_Matches.j0 k a4 a5 false a0_0 a0_1 a0_2 a0_3 a0_4 a0_5 a0_6 a0_7) else (gueriteref16_Matches.j0 k a4 a5 (a0_6 != a3) a0_0 a0_1 a0_2 a0_3 a0_4 a0_5 a0_6 a0_7)) else (gueriteref16_Matches.j0 k a4 a5 true a0_0 a0_1 a0_2 a0_3 a0_4 a0_5 a0_6 a0_7))) else (gueriteref16_Matches.j0 k a4 a5 true a0_0 a0_1 a0_2 a0_3 a0_4 a0_5 a0_6 a0_7))) = some r := h
  clear h
  have HC7 := Aside0.mk H
  clear H
  go_enter Try.func11, Try.ntmps11
  go_upto_region 1 with (first | ((with_reducible refine gate_dst (N := 6) rfl ?_); refine box_event ?hg (N := 6) ?hd (cs := #[.int .i64 a0_0, .int .i64 a0_1, .int .u32 a0_2, .int .i64 a0_3, .int .u32 a0_4, .int .i64 a0_5, .int .i64 a0_6, .int .i64 a0_7]) (t := 31) ?hr ?_; (case hd => rfl); (case hg => rfl); (case hr => first | (go_simp; done) | (go_simp; rfl)); intro gb129 hg w8 hbox hb; have n0_ := Aside0.mk (below_step (by repeat (first | (with_reducible first | exact HB.out | apply below_alloc | apply pw_below_drewN | apply below_drew1) | exact HB.out)) hb); have n1_ := Aside0.mk (hbox); have n2_ := Aside0.mk ((by rw [hg]; exact (below_size (by repeat (first | (with_reducible first | exact HB.out | apply below_alloc | apply pw_below_drewN | apply below_drew1) | exact HB.out))) : w.heap.size ≤ gb129)); have n3_ := Aside0.mk ((by rw [hg]; exact (below_size (by repeat (first | (with_reducible first | exact HB.out | apply below_alloc | apply pw_below_drewN | apply below_drew1) | exact HB.out))) : w.heap.size ≤ gb129)); clear HB; have HB := n0_; have BK129 := n1_; have GW129 := n2_; have GE129 := n3_; clear n0_ n1_ n2_ n3_; clear hb hbox hg))
  (try simp only [Act.put, List.setIfInBounds_toArray, List.set_cons_zero, List.set_cons_succ])
  go_cut [43] (fun v43 wc => ∃ (kq : Nat) (x43_6 : Bool), v43 = .bool x43_6 ∧ Aside0 (gueriteref16_Matches.j0 kq a4 a5 x43_6 a0_0 a0_1 a0_2 a0_3 a0_4 a0_5 a0_6 a0_7 = some r) ∧ Aside0 (kq ≤ k) ∧ Aside0 (wc.heap[gb129]? = some (.cells #[.int .i64 a0_0, .int .i64 a0_1, .int .u32 a0_2, .int .i64 a0_3, .int .u32 a0_4, .int .i64 a0_5, .int .i64 a0_6, .int .i64 a0_7] 31 (0, 0))) ∧ Aside0 (Below w.heap.size w wc))
  case first =>
    have H := HC7.out
    clear HC7
    by_cases c9 : a0_0 = (-1)
    · rw [if_pos c9] at H
      have c9b0 : (a0_0 == (-1)) = true := beq_iff_eq.mpr c9
      have c9b1 : (a0_0 != (-1)) = false := bne_eq_false_iff_eq.mpr c9
      clear c9
      (first | rw [c9b0] | (simp only [i64_w, i32_w]; rw [c9b0]) | skip)
      by_cases c10 : a0_1 = (-1)
      · rw [if_pos c10] at H
        have c10b0 : (a0_1 == (-1)) = true := beq_iff_eq.mpr c10
        have c10b1 : (a0_1 != (-1)) = false := bne_eq_false_iff_eq.mpr c10
        clear c10
        by_cases c11 : a0_6 = (-1)
        · rw [if_pos c11] at H
          have c11b0 : (a0_6 == (-1)) = true := beq_iff_eq.mpr c11
          have c11b1 : (a0_6 != (-1)) = false := bne_eq_false_iff_eq.mpr c11
          clear c11
          have H' := Aside0.mk H
          clear H
          have hcz12_0 : w8.cell? ⟨gb129, 0, none⟩ = some (.int .i64 a0_0) := (blk_cell BK129.out 0).trans rfl
          have hcz12_1 : w8.cell? ⟨gb129, 1, none⟩ = some (.int .i64 a0_1) := (blk_cell BK129.out 1).trans rfl
          have hcz12_2 : w8.cell? ⟨gb129, 2, none⟩ = some (.int .u32 a0_2) := (blk_cell BK129.out 2).trans rfl
          have hcz12_3 : w8.cell? ⟨gb129, 3, none⟩ = some (.int .i64 a0_3) := (blk_cell BK129.out 3).trans rfl
          have hcz12_4 : w8.cell? ⟨gb129, 4, none⟩ = some (.int .u32 a0_4) := (blk_cell BK129.out 4).trans rfl
          have hcz12_5 : w8.cell? ⟨gb129, 5, none⟩ = some (.int .i64 a0_5) := (blk_cell BK129.out 5).trans rfl
          have hcz12_6 : w8.cell? ⟨gb129, 6, none⟩ = some (.int .i64 a0_6) := (blk_cell BK129.out 6).trans rfl
          have hcz12_7 : w8.cell? ⟨gb129, 7, none⟩ = some (.int .i64 a0_7) := (blk_cell BK129.out 7).trans rfl
          have hfz12_0 := blk_frozen BK129.out 0
          have hfz12_1 := blk_frozen BK129.out 1
          have hfz12_2 := blk_frozen BK129.out 2
          have hfz12_3 := blk_frozen BK129.out 3
          have hfz12_4 := blk_frozen BK129.out 4
          have hfz12_5 := blk_frozen BK129.out 5
          have hfz12_6 := blk_frozen BK129.out 6
          have hfz12_7 := blk_frozen BK129.out 7
          go_wp2
          go_meet
          case rel => exact ⟨_, (false), (by first | rfl | (simp; done) | (simp [*]; done)), H', ⟨by first | omega | exact Nat.le_refl _⟩, ⟨by (with_reducible repeat (first | refine blk_drewN ?_ _ | refine blk_drew ?_ | refine blk_alloc ?_ _)); exact BK129.out⟩, ⟨by repeat (first | (with_reducible first | exact HB.out | apply below_alloc | apply pw_below_drewN | apply below_drew1 | refine below_set ?_ GE129.out) | exact HB.out)⟩⟩
        · rw [if_neg c11] at H
          have c11b0 : (a0_6 == (-1)) = false := beq_eq_false_iff_ne.mpr c11
          have c11b1 : (a0_6 != (-1)) = true := bne_iff_ne.mpr c11
          have H' := Aside0.mk H
          clear H
          have hcz13_0 : w8.cell? ⟨gb129, 0, none⟩ = some (.int .i64 a0_0) := (blk_cell BK129.out 0).trans rfl
          have hcz13_1 : w8.cell? ⟨gb129, 1, none⟩ = some (.int .i64 a0_1) := (blk_cell BK129.out 1).trans rfl
          have hcz13_2 : w8.cell? ⟨gb129, 2, none⟩ = some (.int .u32 a0_2) := (blk_cell BK129.out 2).trans rfl
          have hcz13_3 : w8.cell? ⟨gb129, 3, none⟩ = some (.int .i64 a0_3) := (blk_cell BK129.out 3).trans rfl
          have hcz13_4 : w8.cell? ⟨gb129, 4, none⟩ = some (.int .u32 a0_4) := (blk_cell BK129.out 4).trans rfl
          have hcz13_5 : w8.cell? ⟨gb129, 5, none⟩ = some (.int .i64 a0_5) := (blk_cell BK129.out 5).trans rfl
          have hcz13_6 : w8.cell? ⟨gb129, 6, none⟩ = some (.int .i64 a0_6) := (blk_cell BK129.out 6).trans rfl
          have hcz13_7 : w8.cell? ⟨gb129, 7, none⟩ = some (.int .i64 a0_7) := (blk_cell BK129.out 7).trans rfl
          have hfz13_0 := blk_frozen BK129.out 0
          have hfz13_1 := blk_frozen BK129.out 1
          have hfz13_2 := blk_frozen BK129.out 2
          have hfz13_3 := blk_frozen BK129.out 3
          have hfz13_4 := blk_frozen BK129.out 4
          have hfz13_5 := blk_frozen BK129.out 5
          have hfz13_6 := blk_frozen BK129.out 6
          have hfz13_7 := blk_frozen BK129.out 7
          go_wp2
          go_meet
          case rel => exact ⟨_, ((a0_6 != a3)), (by first | rfl | (simp; done) | (simp [*]; done)), H', ⟨by first | omega | exact Nat.le_refl _⟩, ⟨by (with_reducible repeat (first | refine blk_drewN ?_ _ | refine blk_drew ?_ | refine blk_alloc ?_ _)); exact BK129.out⟩, ⟨by repeat (first | (with_reducible first | exact HB.out | apply below_alloc | apply pw_below_drewN | apply below_drew1 | refine below_set ?_ GE129.out) | exact HB.out)⟩⟩
      · rw [if_neg c10] at H
        have c10b0 : (a0_1 == (-1)) = false := beq_eq_false_iff_ne.mpr c10
        have c10b1 : (a0_1 != (-1)) = true := bne_iff_ne.mpr c10
        by_cases c14 : a0_1 = a2
        · rw [if_pos c14] at H
          have c14b0 : (a0_1 == a2) = true := beq_iff_eq.mpr c14
          have c14b1 : (a0_1 != a2) = false := bne_eq_false_iff_eq.mpr c14
          clear c14
          by_cases c15 : a0_6 = (-1)
          · rw [if_pos c15] at H
            have c15b0 : (a0_6 == (-1)) = true := beq_iff_eq.mpr c15
            have c15b1 : (a0_6 != (-1)) = false := bne_eq_false_iff_eq.mpr c15
            clear c15
            have H' := Aside0.mk H
            clear H
            have hcz16_0 : w8.cell? ⟨gb129, 0, none⟩ = some (.int .i64 a0_0) := (blk_cell BK129.out 0).trans rfl
            have hcz16_1 : w8.cell? ⟨gb129, 1, none⟩ = some (.int .i64 a0_1) := (blk_cell BK129.out 1).trans rfl
            have hcz16_2 : w8.cell? ⟨gb129, 2, none⟩ = some (.int .u32 a0_2) := (blk_cell BK129.out 2).trans rfl
            have hcz16_3 : w8.cell? ⟨gb129, 3, none⟩ = some (.int .i64 a0_3) := (blk_cell BK129.out 3).trans rfl
            have hcz16_4 : w8.cell? ⟨gb129, 4, none⟩ = some (.int .u32 a0_4) := (blk_cell BK129.out 4).trans rfl
            have hcz16_5 : w8.cell? ⟨gb129, 5, none⟩ = some (.int .i64 a0_5) := (blk_cell BK129.out 5).trans rfl
            have hcz16_6 : w8.cell? ⟨gb129, 6, none⟩ = some (.int .i64 a0_6) := (blk_cell BK129.out 6).trans rfl
            have hcz16_7 : w8.cell? ⟨gb129, 7, none⟩ = some (.int .i64 a0_7) := (blk_cell BK129.out 7).trans rfl
            have hfz16_0 := blk_frozen BK129.out 0
            have hfz16_1 := blk_frozen BK129.out 1
            have hfz16_2 := blk_frozen BK129.out 2
            have hfz16_3 := blk_frozen BK129.out 3
            have hfz16_4 := blk_frozen BK129.out 4
            have hfz16_5 := blk_frozen BK129.out 5
            have hfz16_6 := blk_frozen BK129.out 6
            have hfz16_7 := blk_frozen BK129.out 7
            go_wp2
            go_meet
            case rel => exact ⟨_, (false), (by first | rfl | (simp; done) | (simp [*]; done)), H', ⟨by first | omega | exact Nat.le_refl _⟩, ⟨by (with_reducible repeat (first | refine blk_drewN ?_ _ | refine blk_drew ?_ | refine blk_alloc ?_ _)); exact BK129.out⟩, ⟨by repeat (first | (with_reducible first | exact HB.out | apply below_alloc | apply pw_below_drewN | apply below_drew1 | refine below_set ?_ GE129.out) | exact HB.out)⟩⟩
          · rw [if_neg c15] at H
            have c15b0 : (a0_6 == (-1)) = false := beq_eq_false_iff_ne.mpr c15
            have c15b1 : (a0_6 != (-1)) = true := bne_iff_ne.mpr c15
            have H' := Aside0.mk H
            clear H
            have hcz17_0 : w8.cell? ⟨gb129, 0, none⟩ = some (.int .i64 a0_0) := (blk_cell BK129.out 0).trans rfl
            have hcz17_1 : w8.cell? ⟨gb129, 1, none⟩ = some (.int .i64 a0_1) := (blk_cell BK129.out 1).trans rfl
            have hcz17_2 : w8.cell? ⟨gb129, 2, none⟩ = some (.int .u32 a0_2) := (blk_cell BK129.out 2).trans rfl
            have hcz17_3 : w8.cell? ⟨gb129, 3, none⟩ = some (.int .i64 a0_3) := (blk_cell BK129.out 3).trans rfl
            have hcz17_4 : w8.cell? ⟨gb129, 4, none⟩ = some (.int .u32 a0_4) := (blk_cell BK129.out 4).trans rfl
            have hcz17_5 : w8.cell? ⟨gb129, 5, none⟩ = some (.int .i64 a0_5) := (blk_cell BK129.out 5).trans rfl
            have hcz17_6 : w8.cell? ⟨gb129, 6, none⟩ = some (.int .i64 a0_6) := (blk_cell BK129.out 6).trans rfl
            have hcz17_7 : w8.cell? ⟨gb129, 7, none⟩ = some (.int .i64 a0_7) := (blk_cell BK129.out 7).trans rfl
            have hfz17_0 := blk_frozen BK129.out 0
            have hfz17_1 := blk_frozen BK129.out 1
            have hfz17_2 := blk_frozen BK129.out 2
            have hfz17_3 := blk_frozen BK129.out 3
            have hfz17_4 := blk_frozen BK129.out 4
            have hfz17_5 := blk_frozen BK129.out 5
            have hfz17_6 := blk_frozen BK129.out 6
            have hfz17_7 := blk_frozen BK129.out 7
            go_wp2
            go_meet
            case rel => exact ⟨_, ((a0_6 != a3)), (by first | rfl | (simp; done) | (simp [*]; done)), H', ⟨by first | omega | exact Nat.le_refl _⟩, ⟨by (with_reducible repeat (first | refine blk_drewN ?_ _ | refine blk_drew ?_ | refine blk_alloc ?_ _)); exact BK129.out⟩, ⟨by repeat (first | (with_reducible first | exact HB.out | apply below_alloc | apply pw_below_drewN | apply below_drew1 | refine below_set ?_ GE129.out) | exact HB.out)⟩⟩
        · rw [if_neg c14] at H
          have c14b0 : (a0_1 == a2) = false := beq_eq_false_iff_ne.mpr c14
          have c14b1 : (a0_1 != a2) = true := bne_iff_ne.mpr c14
          have H' := Aside0.mk H
          clear H
          have hcz18_0 : w8.cell? ⟨gb129, 0, none⟩ = some (.int .i64 a0_0) := (blk_cell BK129.out 0).trans rfl
          have hcz18_1 : w8.cell? ⟨gb129, 1, none⟩ = some (.int .i64 a0_1) := (blk_cell BK129.out 1).trans rfl
          have hcz18_2 : w8.cell? ⟨gb129, 2, none⟩ = some (.int .u32 a0_2) := (blk_cell BK129.out 2).trans rfl
          have hcz18_3 : w8.cell? ⟨gb129, 3, none⟩ = some (.int .i64 a0_3) := (blk_cell BK129.out 3).trans rfl
          have hcz18_4 : w8.cell? ⟨gb129, 4, none⟩ = some (.int .u32 a0_4) := (blk_cell BK129.out 4).trans rfl
          have hcz18_5 : w8.cell? ⟨gb129, 5, none⟩ = some (.int .i64 a0_5) := (blk_cell BK129.out 5).trans rfl
          have hcz18_6 : w8.cell? ⟨gb129, 6, none⟩ = some (.int .i64 a0_6) := (blk_cell BK129.out 6).trans rfl
          have hcz18_7 : w8.cell? ⟨gb129, 7, none⟩ = some (.int .i64 a0_7) := (blk_cell BK129.out 7).trans rfl
          have hfz18_0 := blk_frozen BK129.out 0
          have hfz18_1 := blk_frozen BK129.out 1
          have hfz18_2 := blk_frozen BK129.out 2
          have hfz18_3 := blk_frozen BK129.out 3
          have hfz18_4 := blk_frozen BK129.out 4
          have hfz18_5 := blk_frozen BK129.out 5
          have hfz18_6 := blk_frozen BK129.out 6
          have hfz18_7 := blk_frozen BK129.out 7
          go_wp2
          go_meet
          case rel => exact ⟨_, (true), (by first | rfl | (simp; done) | (simp [*]; done)), H', ⟨by first | omega | exact Nat.le_refl _⟩, ⟨by (with_reducible repeat (first | refine blk_drewN ?_ _ | refine blk_drew ?_ | refine blk_alloc ?_ _)); exact BK129.out⟩, ⟨by repeat (first | (with_reducible first | exact HB.out | apply below_alloc | apply pw_below_drewN | apply below_drew1 | refine below_set ?_ GE129.out) | exact HB.out)⟩⟩
    · rw [if_neg c9] at H
      have c9b0 : (a0_0 == (-1)) = false := beq_eq_false_iff_ne.mpr c9
      have c9b1 : (a0_0 != (-1)) = true := bne_iff_ne.mpr c9
      (first | rw [c9b0] | (simp only [i64_w, i32_w]; rw [c9b0]) | skip)
      by_cases c19 : a0_0 = a1
      · rw [if_pos c19] at H
        have c19b0 : (a0_0 == a1) = true := beq_iff_eq.mpr c19
        have c19b1 : (a0_0 != a1) = false := bne_eq_false_iff_eq.mpr c19
        clear c19
        by_cases c20 : a0_1 = (-1)
        · rw [if_pos c20] at H
          have c20b0 : (a0_1 == (-1)) = true := beq_iff_eq.mpr c20
          have c20b1 : (a0_1 != (-1)) = false := bne_eq_false_iff_eq.mpr c20
          clear c20
          by_cases c21 : a0_6 = (-1)
          · rw [if_pos c21] at H
            have c21b0 : (a0_6 == (-1)) = true := beq_iff_eq.mpr c21
            have c21b1 : (a0_6 != (-1)) = false := bne_eq_false_iff_eq.mpr c21
            clear c21
            have H' := Aside0.mk H
            clear H
            have hcz22_0 : w8.cell? ⟨gb129, 0, none⟩ = some (.int .i64 a0_0) := (blk_cell BK129.out 0).trans rfl
            have hcz22_1 : w8.cell? ⟨gb129, 1, none⟩ = some (.int .i64 a0_1) := (blk_cell BK129.out 1).trans rfl
            have hcz22_2 : w8.cell? ⟨gb129, 2, none⟩ = some (.int .u32 a0_2) := (blk_cell BK129.out 2).trans rfl
            have hcz22_3 : w8.cell? ⟨gb129, 3, none⟩ = some (.int .i64 a0_3) := (blk_cell BK129.out 3).trans rfl
            have hcz22_4 : w8.cell? ⟨gb129, 4, none⟩ = some (.int .u32 a0_4) := (blk_cell BK129.out 4).trans rfl
            have hcz22_5 : w8.cell? ⟨gb129, 5, none⟩ = some (.int .i64 a0_5) := (blk_cell BK129.out 5).trans rfl
            have hcz22_6 : w8.cell? ⟨gb129, 6, none⟩ = some (.int .i64 a0_6) := (blk_cell BK129.out 6).trans rfl
            have hcz22_7 : w8.cell? ⟨gb129, 7, none⟩ = some (.int .i64 a0_7) := (blk_cell BK129.out 7).trans rfl
            have hfz22_0 := blk_frozen BK129.out 0
            have hfz22_1 := blk_frozen BK129.out 1
            have hfz22_2 := blk_frozen BK129.out 2
            have hfz22_3 := blk_frozen BK129.out 3
            have hfz22_4 := blk_frozen BK129.out 4
            have hfz22_5 := blk_frozen BK129.out 5
            have hfz22_6 := blk_frozen BK129.out 6
            have hfz22_7 := blk_frozen BK129.out 7
            go_wp2
            go_meet
            case rel => exact ⟨_, (false), (by first | rfl | (simp; done) | (simp [*]; done)), H', ⟨by first | omega | exact Nat.le_refl _⟩, ⟨by (with_reducible repeat (first | refine blk_drewN ?_ _ | refine blk_drew ?_ | refine blk_alloc ?_ _)); exact BK129.out⟩, ⟨by repeat (first | (with_reducible first | exact HB.out | apply below_alloc | apply pw_below_drewN | apply below_drew1 | refine below_set ?_ GE129.out) | exact HB.out)⟩⟩
          · rw [if_neg c21] at H
            have c21b0 : (a0_6 == (-1)) = false := beq_eq_false_iff_ne.mpr c21
            have c21b1 : (a0_6 != (-1)) = true := bne_iff_ne.mpr c21
            have H' := Aside0.mk H
            clear H
            have hcz23_0 : w8.cell? ⟨gb129, 0, none⟩ = some (.int .i64 a0_0) := (blk_cell BK129.out 0).trans rfl
            have hcz23_1 : w8.cell? ⟨gb129, 1, none⟩ = some (.int .i64 a0_1) := (blk_cell BK129.out 1).trans rfl
            have hcz23_2 : w8.cell? ⟨gb129, 2, none⟩ = some (.int .u32 a0_2) := (blk_cell BK129.out 2).trans rfl
            have hcz23_3 : w8.cell? ⟨gb129, 3, none⟩ = some (.int .i64 a0_3) := (blk_cell BK129.out 3).trans rfl
            have hcz23_4 : w8.cell? ⟨gb129, 4, none⟩ = some (.int .u32 a0_4) := (blk_cell BK129.out 4).trans rfl
            have hcz23_5 : w8.cell? ⟨gb129, 5, none⟩ = some (.int .i64 a0_5) := (blk_cell BK129.out 5).trans rfl
            have hcz23_6 : w8.cell? ⟨gb129, 6, none⟩ = some (.int .i64 a0_6) := (blk_cell BK129.out 6).trans rfl
            have hcz23_7 : w8.cell? ⟨gb129, 7, none⟩ = some (.int .i64 a0_7) := (blk_cell BK129.out 7).trans rfl
            have hfz23_0 := blk_frozen BK129.out 0
            have hfz23_1 := blk_frozen BK129.out 1
            have hfz23_2 := blk_frozen BK129.out 2
            have hfz23_3 := blk_frozen BK129.out 3
            have hfz23_4 := blk_frozen BK129.out 4
            have hfz23_5 := blk_frozen BK129.out 5
            have hfz23_6 := blk_frozen BK129.out 6
            have hfz23_7 := blk_frozen BK129.out 7
            go_wp2
            go_meet
            case rel => exact ⟨_, ((a0_6 != a3)), (by first | rfl | (simp; done) | (simp [*]; done)), H', ⟨by first | omega | exact Nat.le_refl _⟩, ⟨by (with_reducible repeat (first | refine blk_drewN ?_ _ | refine blk_drew ?_ | refine blk_alloc ?_ _)); exact BK129.out⟩, ⟨by repeat (first | (with_reducible first | exact HB.out | apply below_alloc | apply pw_below_drewN | apply below_drew1 | refine below_set ?_ GE129.out) | exact HB.out)⟩⟩
        · rw [if_neg c20] at H
          have c20b0 : (a0_1 == (-1)) = false := beq_eq_false_iff_ne.mpr c20
          have c20b1 : (a0_1 != (-1)) = true := bne_iff_ne.mpr c20
          by_cases c24 : a0_1 = a2
          · rw [if_pos c24] at H
            have c24b0 : (a0_1 == a2) = true := beq_iff_eq.mpr c24
            have c24b1 : (a0_1 != a2) = false := bne_eq_false_iff_eq.mpr c24
            clear c24
            by_cases c25 : a0_6 = (-1)
            · rw [if_pos c25] at H
              have c25b0 : (a0_6 == (-1)) = true := beq_iff_eq.mpr c25
              have c25b1 : (a0_6 != (-1)) = false := bne_eq_false_iff_eq.mpr c25
              clear c25
              have H' := Aside0.mk H
              clear H
              have hcz26_0 : w8.cell? ⟨gb129, 0, none⟩ = some (.int .i64 a0_0) := (blk_cell BK129.out 0).trans rfl
              have hcz26_1 : w8.cell? ⟨gb129, 1, none⟩ = some (.int .i64 a0_1) := (blk_cell BK129.out 1).trans rfl
              have hcz26_2 : w8.cell? ⟨gb129, 2, none⟩ = some (.int .u32 a0_2) := (blk_cell BK129.out 2).trans rfl
              have hcz26_3 : w8.cell? ⟨gb129, 3, none⟩ = some (.int .i64 a0_3) := (blk_cell BK129.out 3).trans rfl
              have hcz26_4 : w8.cell? ⟨gb129, 4, none⟩ = some (.int .u32 a0_4) := (blk_cell BK129.out 4).trans rfl
              have hcz26_5 : w8.cell? ⟨gb129, 5, none⟩ = some (.int .i64 a0_5) := (blk_cell BK129.out 5).trans rfl
              have hcz26_6 : w8.cell? ⟨gb129, 6, none⟩ = some (.int .i64 a0_6) := (blk_cell BK129.out 6).trans rfl
              have hcz26_7 : w8.cell? ⟨gb129, 7, none⟩ = some (.int .i64 a0_7) := (blk_cell BK129.out 7).trans rfl
              have hfz26_0 := blk_frozen BK129.out 0
              have hfz26_1 := blk_frozen BK129.out 1
              have hfz26_2 := blk_frozen BK129.out 2
              have hfz26_3 := blk_frozen BK129.out 3
              have hfz26_4 := blk_frozen BK129.out 4
              have hfz26_5 := blk_frozen BK129.out 5
              have hfz26_6 := blk_frozen BK129.out 6
              have hfz26_7 := blk_frozen BK129.out 7
              go_wp2
              go_meet
              case rel => exact ⟨_, (false), (by first | rfl | (simp; done) | (simp [*]; done)), H', ⟨by first | omega | exact Nat.le_refl _⟩, ⟨by (with_reducible repeat (first | refine blk_drewN ?_ _ | refine blk_drew ?_ | refine blk_alloc ?_ _)); exact BK129.out⟩, ⟨by repeat (first | (with_reducible first | exact HB.out | apply below_alloc | apply pw_below_drewN | apply below_drew1 | refine below_set ?_ GE129.out) | exact HB.out)⟩⟩
            · rw [if_neg c25] at H
              have c25b0 : (a0_6 == (-1)) = false := beq_eq_false_iff_ne.mpr c25
              have c25b1 : (a0_6 != (-1)) = true := bne_iff_ne.mpr c25
              have H' := Aside0.mk H
              clear H
              have hcz27_0 : w8.cell? ⟨gb129, 0, none⟩ = some (.int .i64 a0_0) := (blk_cell BK129.out 0).trans rfl
              have hcz27_1 : w8.cell? ⟨gb129, 1, none⟩ = some (.int .i64 a0_1) := (blk_cell BK129.out 1).trans rfl
              have hcz27_2 : w8.cell? ⟨gb129, 2, none⟩ = some (.int .u32 a0_2) := (blk_cell BK129.out 2).trans rfl
              have hcz27_3 : w8.cell? ⟨gb129, 3, none⟩ = some (.int .i64 a0_3) := (blk_cell BK129.out 3).trans rfl
              have hcz27_4 : w8.cell? ⟨gb129, 4, none⟩ = some (.int .u32 a0_4) := (blk_cell BK129.out 4).trans rfl
              have hcz27_5 : w8.cell? ⟨gb129, 5, none⟩ = some (.int .i64 a0_5) := (blk_cell BK129.out 5).trans rfl
              have hcz27_6 : w8.cell? ⟨gb129, 6, none⟩ = some (.int .i64 a0_6) := (blk_cell BK129.out 6).trans rfl
              have hcz27_7 : w8.cell? ⟨gb129, 7, none⟩ = some (.int .i64 a0_7) := (blk_cell BK129.out 7).trans rfl
              have hfz27_0 := blk_frozen BK129.out 0
              have hfz27_1 := blk_frozen BK129.out 1
              have hfz27_2 := blk_frozen BK129.out 2
              have hfz27_3 := blk_frozen BK129.out 3
              have hfz27_4 := blk_frozen BK129.out 4
              have hfz27_5 := blk_frozen BK129.out 5
              have hfz27_6 := blk_frozen BK129.out 6
              have hfz27_7 := blk_frozen BK129.out 7
              go_wp2
              go_meet
              case rel => exact ⟨_, ((a0_6 != a3)), (by first | rfl | (simp; done) | (simp [*]; done)), H', ⟨by first | omega | exact Nat.le_refl _⟩, ⟨by (with_reducible repeat (first | refine blk_drewN ?_ _ | refine blk_drew ?_ | refine blk_alloc ?_ _)); exact BK129.out⟩, ⟨by repeat (first | (with_reducible first | exact HB.out | apply below_alloc | apply pw_below_drewN | apply below_drew1 | refine below_set ?_ GE129.out) | exact HB.out)⟩⟩
          · rw [if_neg c24] at H
            have c24b0 : (a0_1 == a2) = false := beq_eq_false_iff_ne.mpr c24
            have c24b1 : (a0_1 != a2) = true := bne_iff_ne.mpr c24
            have H' := Aside0.mk H
            clear H
            have hcz28_0 : w8.cell? ⟨gb129, 0, none⟩ = some (.int .i64 a0_0) := (blk_cell BK129.out 0).trans rfl
            have hcz28_1 : w8.cell? ⟨gb129, 1, none⟩ = some (.int .i64 a0_1) := (blk_cell BK129.out 1).trans rfl
            have hcz28_2 : w8.cell? ⟨gb129, 2, none⟩ = some (.int .u32 a0_2) := (blk_cell BK129.out 2).trans rfl
            have hcz28_3 : w8.cell? ⟨gb129, 3, none⟩ = some (.int .i64 a0_3) := (blk_cell BK129.out 3).trans rfl
            have hcz28_4 : w8.cell? ⟨gb129, 4, none⟩ = some (.int .u32 a0_4) := (blk_cell BK129.out 4).trans rfl
            have hcz28_5 : w8.cell? ⟨gb129, 5, none⟩ = some (.int .i64 a0_5) := (blk_cell BK129.out 5).trans rfl
            have hcz28_6 : w8.cell? ⟨gb129, 6, none⟩ = some (.int .i64 a0_6) := (blk_cell BK129.out 6).trans rfl
            have hcz28_7 : w8.cell? ⟨gb129, 7, none⟩ = some (.int .i64 a0_7) := (blk_cell BK129.out 7).trans rfl
            have hfz28_0 := blk_frozen BK129.out 0
            have hfz28_1 := blk_frozen BK129.out 1
            have hfz28_2 := blk_frozen BK129.out 2
            have hfz28_3 := blk_frozen BK129.out 3
            have hfz28_4 := blk_frozen BK129.out 4
            have hfz28_5 := blk_frozen BK129.out 5
            have hfz28_6 := blk_frozen BK129.out 6
            have hfz28_7 := blk_frozen BK129.out 7
            go_wp2
            go_meet
            case rel => exact ⟨_, (true), (by first | rfl | (simp; done) | (simp [*]; done)), H', ⟨by first | omega | exact Nat.le_refl _⟩, ⟨by (with_reducible repeat (first | refine blk_drewN ?_ _ | refine blk_drew ?_ | refine blk_alloc ?_ _)); exact BK129.out⟩, ⟨by repeat (first | (with_reducible first | exact HB.out | apply below_alloc | apply pw_below_drewN | apply below_drew1 | refine below_set ?_ GE129.out) | exact HB.out)⟩⟩
      · rw [if_neg c19] at H
        have c19b0 : (a0_0 == a1) = false := beq_eq_false_iff_ne.mpr c19
        have c19b1 : (a0_0 != a1) = true := bne_iff_ne.mpr c19
        have H' := Aside0.mk H
        clear H
        have hcz29_0 : w8.cell? ⟨gb129, 0, none⟩ = some (.int .i64 a0_0) := (blk_cell BK129.out 0).trans rfl
        have hcz29_1 : w8.cell? ⟨gb129, 1, none⟩ = some (.int .i64 a0_1) := (blk_cell BK129.out 1).trans rfl
        have hcz29_2 : w8.cell? ⟨gb129, 2, none⟩ = some (.int .u32 a0_2) := (blk_cell BK129.out 2).trans rfl
        have hcz29_3 : w8.cell? ⟨gb129, 3, none⟩ = some (.int .i64 a0_3) := (blk_cell BK129.out 3).trans rfl
        have hcz29_4 : w8.cell? ⟨gb129, 4, none⟩ = some (.int .u32 a0_4) := (blk_cell BK129.out 4).trans rfl
        have hcz29_5 : w8.cell? ⟨gb129, 5, none⟩ = some (.int .i64 a0_5) := (blk_cell BK129.out 5).trans rfl
        have hcz29_6 : w8.cell? ⟨gb129, 6, none⟩ = some (.int .i64 a0_6) := (blk_cell BK129.out 6).trans rfl
        have hcz29_7 : w8.cell? ⟨gb129, 7, none⟩ = some (.int .i64 a0_7) := (blk_cell BK129.out 7).trans rfl
        have hfz29_0 := blk_frozen BK129.out 0
        have hfz29_1 := blk_frozen BK129.out 1
        have hfz29_2 := blk_frozen BK129.out 2
        have hfz29_3 := blk_frozen BK129.out 3
        have hfz29_4 := blk_frozen BK129.out 4
        have hfz29_5 := blk_frozen BK129.out 5
        have hfz29_6 := blk_frozen BK129.out 6
        have hfz29_7 := blk_frozen BK129.out 7
        go_wp2
        go_meet
        case rel => exact ⟨_, (true), (by first | rfl | (simp; done) | (simp [*]; done)), H', ⟨by first | omega | exact Nat.le_refl _⟩, ⟨by (with_reducible repeat (first | refine blk_drewN ?_ _ | refine blk_drew ?_ | refine blk_alloc ?_ _)); exact BK129.out⟩, ⟨by repeat (first | (with_reducible first | exact HB.out | apply below_alloc | apply pw_below_drewN | apply below_drew1 | refine below_set ?_ GE129.out) | exact HB.out)⟩⟩
  case rest =>
    clear HC7
    try clear c1
    try clear c2
    try clear p2
    try clear c9
    try clear c9b0
    try clear c9b1
    try clear c10
    try clear c10b0
    try clear c10b1
    try clear c11
    try clear c11b0
    try clear c11b1
    try clear c14
    try clear c14b0
    try clear c14b1
    try clear c15
    try clear c15b0
    try clear c15b1
    try clear c19
    try clear c19b0
    try clear c19b1
    try clear c20
    try clear c20b0
    try clear c20b1
    try clear c21
    try clear c21b0
    try clear c21b1
    try clear c24
    try clear c24b0
    try clear c24b1
    try clear c25
    try clear c25b0
    try clear c25b1
    try clear hcz12_0
    try clear hcz12_1
    try clear hcz12_2
    try clear hcz12_3
    try clear hcz12_4
    try clear hcz12_5
    try clear hcz12_6
    try clear hcz12_7
    try clear hcz13_0
    try clear hcz13_1
    try clear hcz13_2
    try clear hcz13_3
    try clear hcz13_4
    try clear hcz13_5
    try clear hcz13_6
    try clear hcz13_7
    try clear hcz16_0
    try clear hcz16_1
    try clear hcz16_2
    try clear hcz16_3
    try clear hcz16_4
    try clear hcz16_5
    try clear hcz16_6
    try clear hcz16_7
    try clear hcz17_0
    try clear hcz17_1
    try clear hcz17_2
    try clear hcz17_3
    try clear hcz17_4
    try clear hcz17_5
    try clear hcz17_6
    try clear hcz17_7
    try clear hcz18_0
    try clear hcz18_1
    try clear hcz18_2
    try clear hcz18_3
    try clear hcz18_4
    try clear hcz18_5
    try clear hcz18_6
    try clear hcz18_7
    try clear hcz22_0
    try clear hcz22_1
    try clear hcz22_2
    try clear hcz22_3
    try clear hcz22_4
    try clear hcz22_5
    try clear hcz22_6
    try clear hcz22_7
    try clear hcz23_0
    try clear hcz23_1
    try clear hcz23_2
    try clear hcz23_3
    try clear hcz23_4
    try clear hcz23_5
    try clear hcz23_6
    try clear hcz23_7
    try clear hcz26_0
    try clear hcz26_1
    try clear hcz26_2
    try clear hcz26_3
    try clear hcz26_4
    try clear hcz26_5
    try clear hcz26_6
    try clear hcz26_7
    try clear hcz27_0
    try clear hcz27_1
    try clear hcz27_2
    try clear hcz27_3
    try clear hcz27_4
    try clear hcz27_5
    try clear hcz27_6
    try clear hcz27_7
    try clear hcz28_0
    try clear hcz28_1
    try clear hcz28_2
    try clear hcz28_3
    try clear hcz28_4
    try clear hcz28_5
    try clear hcz28_6
    try clear hcz28_7
    try clear hcz29_0
    try clear hcz29_1
    try clear hcz29_2
    try clear hcz29_3
    try clear hcz29_4
    try clear hcz29_5
    try clear hcz29_6
    try clear hcz29_7
    try clear hfz12_0
    try clear hfz12_1
    try clear hfz12_2
    try clear hfz12_3
    try clear hfz12_4
    try clear hfz12_5
    try clear hfz12_6
    try clear hfz12_7
    try clear hfz13_0
    try clear hfz13_1
    try clear hfz13_2
    try clear hfz13_3
    try clear hfz13_4
    try clear hfz13_5
    try clear hfz13_6
    try clear hfz13_7
    try clear hfz16_0
    try clear hfz16_1
    try clear hfz16_2
    try clear hfz16_3
    try clear hfz16_4
    try clear hfz16_5
    try clear hfz16_6
    try clear hfz16_7
    try clear hfz17_0
    try clear hfz17_1
    try clear hfz17_2
    try clear hfz17_3
    try clear hfz17_4
    try clear hfz17_5
    try clear hfz17_6
    try clear hfz17_7
    try clear hfz18_0
    try clear hfz18_1
    try clear hfz18_2
    try clear hfz18_3
    try clear hfz18_4
    try clear hfz18_5
    try clear hfz18_6
    try clear hfz18_7
    try clear hfz22_0
    try clear hfz22_1
    try clear hfz22_2
    try clear hfz22_3
    try clear hfz22_4
    try clear hfz22_5
    try clear hfz22_6
    try clear hfz22_7
    try clear hfz23_0
    try clear hfz23_1
    try clear hfz23_2
    try clear hfz23_3
    try clear hfz23_4
    try clear hfz23_5
    try clear hfz23_6
    try clear hfz23_7
    try clear hfz26_0
    try clear hfz26_1
    try clear hfz26_2
    try clear hfz26_3
    try clear hfz26_4
    try clear hfz26_5
    try clear hfz26_6
    try clear hfz26_7
    try clear hfz27_0
    try clear hfz27_1
    try clear hfz27_2
    try clear hfz27_3
    try clear hfz27_4
    try clear hfz27_5
    try clear hfz27_6
    try clear hfz27_7
    try clear hfz28_0
    try clear hfz28_1
    try clear hfz28_2
    try clear hfz28_3
    try clear hfz28_4
    try clear hfz28_5
    try clear hfz28_6
    try clear hfz28_7
    try clear hfz29_0
    try clear hfz29_1
    try clear hfz29_2
    try clear hfz29_3
    try clear hfz29_4
    try clear hfz29_5
    try clear hfz29_6
    try clear hfz29_7
    obtain ⟨kq, x43_6, rfl, HA, HJ6, BK129, HB⟩ := hcut
    cases kq with
    | zero => exact absurd HA.out (by simp [gueriteref16_Matches.j0])
    | succ kj6 =>
      have H := HA.out
      clear HA
      simp only [gueriteref16_Matches.j0] at H
      by_cases c30 : x43_6 = true
      · subst c30
        have H1 : (some false) = some r := by rw [if_pos rfl] at H; exact H
        clear H
        have H := H1
        clear H1
        obtain rfl := Option.some.inj H
        go_wp2
        go_ret
        exact ⟨by first | rfl | (simp [errW_none, errW_some] <;> rfl) | (simp [*, errW_none, errW_some] <;> rfl), by repeat (first | (with_reducible first | exact HB.out | apply below_alloc | apply pw_below_drewN | apply below_drew1 | refine below_set ?_ GE129.out) | exact HB.out)⟩
      · replace c30 := Bool.eq_false_iff.mpr c30
        subst c30
        have H1 : ((gueriteref03_Holds.f kj6 a0_2 a0_3 a4).bind fun t130 => (if t130 = true then ((gueriteref03_Holds.f kj6 a0_4 a0_5 a5).bind fun t131 => (some t131)) else (some false))) = some r := by rw [if_neg (show ¬ (false = true) by decide)] at H; exact H
        clear H
        have H := H1
        clear H1
        replace H := Option.bind_eq_some_iff.mp H
        obtain ⟨t130, A310, H⟩ := H
        replace H : (if t130 = true then ((gueriteref03_Holds.f kj6 a0_4 a0_5 a5).bind fun t131 => (some t131)) else (some false)) = some r := H
        have A31 := Aside0.mk A310
        clear A310
        by_cases c32 : t130 = true
        · subst c32
          have H1 : ((gueriteref03_Holds.f kj6 a0_4 a0_5 a5).bind fun t131 => (some t131)) = some r := by rw [if_pos rfl] at H; exact H
          clear H
          have H := H1
          clear H1
          replace H := Option.bind_eq_some_iff.mp H
          obtain ⟨t131, A330, H⟩ := H
          replace H : (some t131) = some r := H
          have A33 := Aside0.mk A330
          clear A330
          obtain rfl := Option.some.inj H
          have hcz34_0 : wc.cell? ⟨gb129, 0, none⟩ = some (.int .i64 a0_0) := (blk_cell BK129.out 0).trans rfl
          have hcz34_1 : wc.cell? ⟨gb129, 1, none⟩ = some (.int .i64 a0_1) := (blk_cell BK129.out 1).trans rfl
          have hcz34_2 : wc.cell? ⟨gb129, 2, none⟩ = some (.int .u32 a0_2) := (blk_cell BK129.out 2).trans rfl
          have hcz34_3 : wc.cell? ⟨gb129, 3, none⟩ = some (.int .i64 a0_3) := (blk_cell BK129.out 3).trans rfl
          have hcz34_4 : wc.cell? ⟨gb129, 4, none⟩ = some (.int .u32 a0_4) := (blk_cell BK129.out 4).trans rfl
          have hcz34_5 : wc.cell? ⟨gb129, 5, none⟩ = some (.int .i64 a0_5) := (blk_cell BK129.out 5).trans rfl
          have hcz34_6 : wc.cell? ⟨gb129, 6, none⟩ = some (.int .i64 a0_6) := (blk_cell BK129.out 6).trans rfl
          have hcz34_7 : wc.cell? ⟨gb129, 7, none⟩ = some (.int .i64 a0_7) := (blk_cell BK129.out 7).trans rfl
          have hfz34_0 := blk_frozen BK129.out 0
          have hfz34_1 := blk_frozen BK129.out 1
          have hfz34_2 := blk_frozen BK129.out 2
          have hfz34_3 := blk_frozen BK129.out 3
          have hfz34_4 := blk_frozen BK129.out 4
          have hfz34_5 := blk_frozen BK129.out 5
          have hfz34_6 := blk_frozen BK129.out 6
          have hfz34_7 := blk_frozen BK129.out 7
          go_wp2_with (first | ((with_reducible refine gate_callee (f := 30) rfl ?_); refine goesL_ (some 47) rfl rfl Try.func30 (by kernel_rfl) rfl #[.agg #[.int .u32 a0_2, .int .i64 a0_3], .int .u32 a4] rfl (by (try simp only [List.map_toArray, List.map_cons, List.map_nil]); first | done | rfl | (simp only [List.length_drop, List.length_take]; rfl)) ?_; (with_reducible refine (gueriteref03_Holds.calls kj6 a0_2 a0_3 a4 true _ A31.out).mono ?_); rintro e w35 ⟨rfl, hb⟩; refine ⟨_, rfl, ?_⟩; have n0_ := Aside0.mk (blk_below (g := gb129) (o := .cells #[.int .i64 a0_0, .int .i64 a0_1, .int .u32 a0_2, .int .i64 a0_3, .int .u32 a0_4, .int .i64 a0_5, .int .i64 a0_6, .int .i64 a0_7] 31 (0, 0)) (by (with_reducible repeat (first | refine blk_drewN ?_ _ | refine blk_drew ?_ | refine blk_alloc ?_ _)); exact BK129.out) hb); have n1_ := Aside0.mk (below_step (by repeat (first | (with_reducible first | exact HB.out | apply below_alloc | apply pw_below_drewN | apply below_drew1 | refine below_set ?_ GE129.out) | exact HB.out)) hb); clear BK129; clear HB; have BK129 := n0_; have HB := n1_; clear n0_ n1_; (try clear hb); (try clear hb2); (try clear hk); (try clear hi); have hcz36_0 : w35.cell? ⟨gb129, 0, none⟩ = some (.int .i64 a0_0) := (blk_cell BK129.out 0).trans rfl; have hcz36_1 : w35.cell? ⟨gb129, 1, none⟩ = some (.int .i64 a0_1) := (blk_cell BK129.out 1).trans rfl; have hcz36_2 : w35.cell? ⟨gb129, 2, none⟩ = some (.int .u32 a0_2) := (blk_cell BK129.out 2).trans rfl; have hcz36_3 : w35.cell? ⟨gb129, 3, none⟩ = some (.int .i64 a0_3) := (blk_cell BK129.out 3).trans rfl; have hcz36_4 : w35.cell? ⟨gb129, 4, none⟩ = some (.int .u32 a0_4) := (blk_cell BK129.out 4).trans rfl; have hcz36_5 : w35.cell? ⟨gb129, 5, none⟩ = some (.int .i64 a0_5) := (blk_cell BK129.out 5).trans rfl; have hcz36_6 : w35.cell? ⟨gb129, 6, none⟩ = some (.int .i64 a0_6) := (blk_cell BK129.out 6).trans rfl; have hcz36_7 : w35.cell? ⟨gb129, 7, none⟩ = some (.int .i64 a0_7) := (blk_cell BK129.out 7).trans rfl; have hfz36_0 := blk_frozen BK129.out 0; have hfz36_1 := blk_frozen BK129.out 1; have hfz36_2 := blk_frozen BK129.out 2; have hfz36_3 := blk_frozen BK129.out 3; have hfz36_4 := blk_frozen BK129.out 4; have hfz36_5 := blk_frozen BK129.out 5; have hfz36_6 := blk_frozen BK129.out 6; have hfz36_7 := blk_frozen BK129.out 7) | (go_at_call 30; (with_reducible refine (gueriteref03_Holds.calls kj6 a0_4 a0_5 a5 t131 _ A33.out).mono ?_); rintro e w37 ⟨rfl, hb⟩; have n0_ := Aside0.mk (blk_below (g := gb129) (o := .cells #[.int .i64 a0_0, .int .i64 a0_1, .int .u32 a0_2, .int .i64 a0_3, .int .u32 a0_4, .int .i64 a0_5, .int .i64 a0_6, .int .i64 a0_7] 31 (0, 0)) (by (with_reducible repeat (first | refine blk_drewN ?_ _ | refine blk_drew ?_ | refine blk_alloc ?_ _)); exact BK129.out) hb); have n1_ := Aside0.mk (below_step (by repeat (first | (with_reducible first | exact HB.out | apply below_alloc | apply pw_below_drewN | apply below_drew1 | refine below_set ?_ GE129.out) | exact HB.out)) hb); clear BK129; clear HB; have BK129 := n0_; have HB := n1_; clear n0_ n1_; (try clear hb); (try clear hb2); (try clear hk); (try clear hi)))
          go_ret
          exact ⟨by first | rfl | (simp [errW_none, errW_some] <;> rfl) | (simp [*, errW_none, errW_some] <;> rfl), by repeat (first | (with_reducible first | exact HB.out | apply below_alloc | apply pw_below_drewN | apply below_drew1 | refine below_set ?_ GE129.out) | exact HB.out)⟩
        · replace c32 := Bool.eq_false_iff.mpr c32
          subst c32
          have H1 : (some false) = some r := by rw [if_neg (show ¬ (false = true) by decide)] at H; exact H
          clear H
          have H := H1
          clear H1
          obtain rfl := Option.some.inj H
          have hcz38_0 : wc.cell? ⟨gb129, 0, none⟩ = some (.int .i64 a0_0) := (blk_cell BK129.out 0).trans rfl
          have hcz38_1 : wc.cell? ⟨gb129, 1, none⟩ = some (.int .i64 a0_1) := (blk_cell BK129.out 1).trans rfl
          have hcz38_2 : wc.cell? ⟨gb129, 2, none⟩ = some (.int .u32 a0_2) := (blk_cell BK129.out 2).trans rfl
          have hcz38_3 : wc.cell? ⟨gb129, 3, none⟩ = some (.int .i64 a0_3) := (blk_cell BK129.out 3).trans rfl
          have hcz38_4 : wc.cell? ⟨gb129, 4, none⟩ = some (.int .u32 a0_4) := (blk_cell BK129.out 4).trans rfl
          have hcz38_5 : wc.cell? ⟨gb129, 5, none⟩ = some (.int .i64 a0_5) := (blk_cell BK129.out 5).trans rfl
          have hcz38_6 : wc.cell? ⟨gb129, 6, none⟩ = some (.int .i64 a0_6) := (blk_cell BK129.out 6).trans rfl
          have hcz38_7 : wc.cell? ⟨gb129, 7, none⟩ = some (.int .i64 a0_7) := (blk_cell BK129.out 7).trans rfl
          have hfz38_0 := blk_frozen BK129.out 0
          have hfz38_1 := blk_frozen BK129.out 1
          have hfz38_2 := blk_frozen BK129.out 2
          have hfz38_3 := blk_frozen BK129.out 3
          have hfz38_4 := blk_frozen BK129.out 4
          have hfz38_5 := blk_frozen BK129.out 5
          have hfz38_6 := blk_frozen BK129.out 6
          have hfz38_7 := blk_frozen BK129.out 7
          go_wp2_with (first | ((with_reducible refine gate_callee (f := 30) rfl ?_); refine goesL_ (some 47) rfl rfl Try.func30 (by kernel_rfl) rfl #[.agg #[.int .u32 a0_2, .int .i64 a0_3], .int .u32 a4] rfl (by (try simp only [List.map_toArray, List.map_cons, List.map_nil]); first | done | rfl | (simp only [List.length_drop, List.length_take]; rfl)) ?_; (with_reducible refine (gueriteref03_Holds.calls kj6 a0_2 a0_3 a4 false _ A31.out).mono ?_); rintro e w39 ⟨rfl, hb⟩; refine ⟨_, rfl, ?_⟩; have n0_ := Aside0.mk (blk_below (g := gb129) (o := .cells #[.int .i64 a0_0, .int .i64 a0_1, .int .u32 a0_2, .int .i64 a0_3, .int .u32 a0_4, .int .i64 a0_5, .int .i64 a0_6, .int .i64 a0_7] 31 (0, 0)) (by (with_reducible repeat (first | refine blk_drewN ?_ _ | refine blk_drew ?_ | refine blk_alloc ?_ _)); exact BK129.out) hb); have n1_ := Aside0.mk (below_step (by repeat (first | (with_reducible first | exact HB.out | apply below_alloc | apply pw_below_drewN | apply below_drew1 | refine below_set ?_ GE129.out) | exact HB.out)) hb); clear BK129; clear HB; have BK129 := n0_; have HB := n1_; clear n0_ n1_; (try clear hb); (try clear hb2); (try clear hk); (try clear hi)))
          go_ret
          exact ⟨by first | rfl | (simp [errW_none, errW_some] <;> rfl) | (simp [*, errW_none, errW_some] <;> rfl), by repeat (first | (with_reducible first | exact HB.out | apply below_alloc | apply pw_below_drewN | apply below_drew1 | refine below_set ?_ GE129.out) | exact HB.out)⟩

/-! ### gueriteref16_Right: function 13 -/
def gueriteref16_Right.f (k : Nat) (a0 : Int) (a1_0 : Int) (a1_1 : Int) (a1_2 : Int) (a1_3 : Int) (a1_4 : Int) (a1_5 : Int) (a1_6 : Int) (a1_7 : Int) : Option (Bool) := if a1_0 ≥ (-1) then (if a1_0 ≤ 7 then (if a1_1 ≥ (-1) then (if a1_1 < a0 then (if a1_6 ≥ (-1) then (if a1_6 ≤ 255 then (if a1_7 ≥ 0 then (if a1_7 < a0 then ((gueriteref03_Right.f k a1_2 a1_3).bind fun t133 => (if t133 = true then ((gueriteref03_Right.f k a1_4 a1_5).bind fun t134 => (some t134)) else (some false))) else (some false)) else (some false)) else (some false)) else (some false)) else (some false)) else (some false)) else (some false)) else (some false)
theorem gueriteref16_Right.mono : ∀ a0 a1 a2 a3 a4 a5 a6 a7 a8 k, LeO (gueriteref16_Right.f k a0 a1 a2 a3 a4 a5 a6 a7 a8) (gueriteref16_Right.f (k + 1) a0 a1 a2 a3 a4 a5 a6 a7 a8) := by
  intro a0 a1 a2 a3 a4 a5 a6 a7 a8 k
  unfold gueriteref16_Right.f
  repeat' first
      | (with_reducible exact gueriteref03_Right.mono _ _ _)
      | (with_reducible exact LeO.refl _)
      | (with_reducible exact LeO.none _)
      | (with_reducible refine LeO.ite ?_ ?_)
      | (with_reducible refine LeO.bind ?_ (fun _ => ?_))
      | exact gueriteref03_Right.mono _ _ _
      | exact LeO.none _
      | refine LeO.ite ?_ ?_
      | refine LeO.bind ?_ (fun _ => ?_)
set_option maxHeartbeats 8000000 in
set_option maxRecDepth 100000 in
theorem gueriteref16_Right.calls (k : Nat) (a0 : Int) (a1_0 : Int) (a1_1 : Int) (a1_2 : Int) (a1_3 : Int) (a1_4 : Int) (a1_5 : Int) (a1_6 : Int) (a1_7 : Int) (r : Bool) (w : World) (h : gueriteref16_Right.f k a0 a1_0 a1_1 a1_2 a1_3 a1_4 a1_5 a1_6 a1_7 = some r) :
    Calls Try.prog 13 #[.int .i64 a0, .agg #[.int .i64 a1_0, .int .i64 a1_1, .int .u32 a1_2, .int .i64 a1_3, .int .u32 a1_4, .int .i64 a1_5, .int .i64 a1_6, .int .i64 a1_7]] w fun e w' => e = .returned (.bool r) ∧ Below w.heap.size w w' := by
  have hu31 := Try.underlying31
  have hu29 := Try.underlying29
  have HB := Aside0.mk (Below.refl w.heap.size w)
  have H : (if a1_0 ≥ (-1) then (if a1_0 ≤ 7 then (if a1_1 ≥ (-1) then (if a1_1 < a0 then (if a1_6 ≥ (-1) then (if a1_6 ≤ 255 then (if a1_7 ≥ 0 then (if a1_7 < a0 then ((gueriteref03_Right.f k a1_2 a1_3).bind fun t133 => (if t133 = true then ((gueriteref03_Right.f k a1_4 a1_5).bind fun t134 => (some t134)) else (some false))) else (some false)) else (some false)) else (some false)) else (some false)) else (some false)) else (some false)) else (some false)) else (some false)) = some r := h
  clear h
  by_cases c3 : a1_0 ≥ (-1)
  · rw [if_pos c3] at H
    have c3b0 : decide ((-1) ≤ a1_0) = true := decide_eq_true c3
    clear c3
    by_cases c4 : a1_0 ≤ 7
    · rw [if_pos c4] at H
      have c4b0 : decide (a1_0 ≤ 7) = true := decide_eq_true c4
      clear c4
      by_cases c5 : a1_1 ≥ (-1)
      · rw [if_pos c5] at H
        have c5b0 : decide ((-1) ≤ a1_1) = true := decide_eq_true c5
        clear c5
        by_cases c6 : a1_1 < a0
        · rw [if_pos c6] at H
          have c6b0 : decide (a1_1 < a0) = true := decide_eq_true c6
          clear c6
          by_cases c7 : a1_6 ≥ (-1)
          · rw [if_pos c7] at H
            have c7b0 : decide ((-1) ≤ a1_6) = true := decide_eq_true c7
            clear c7
            by_cases c8 : a1_6 ≤ 255
            · rw [if_pos c8] at H
              have c8b0 : decide (a1_6 ≤ 255) = true := decide_eq_true c8
              clear c8
              by_cases c9 : a1_7 ≥ 0
              · rw [if_pos c9] at H
                have c9b0 : decide (0 ≤ a1_7) = true := decide_eq_true c9
                clear c9
                by_cases c10 : a1_7 < a0
                · rw [if_pos c10] at H
                  have c10b0 : decide (a1_7 < a0) = true := decide_eq_true c10
                  clear c10
                  replace H := Option.bind_eq_some_iff.mp H
                  obtain ⟨t133, A110, H⟩ := H
                  replace H : (if t133 = true then ((gueriteref03_Right.f k a1_4 a1_5).bind fun t134 => (some t134)) else (some false)) = some r := H
                  have A11 := Aside0.mk A110
                  clear A110
                  by_cases c12 : t133 = true
                  · subst c12
                    have H1 : ((gueriteref03_Right.f k a1_4 a1_5).bind fun t134 => (some t134)) = some r := by rw [if_pos rfl] at H; exact H
                    clear H
                    have H := H1
                    clear H1
                    replace H := Option.bind_eq_some_iff.mp H
                    obtain ⟨t134, A130, H⟩ := H
                    replace H : (some t134) = some r := H
                    have A13 := Aside0.mk A130
                    clear A130
                    obtain rfl := Option.some.inj H
                    go_enter Try.func13, Try.ntmps13
                    go_wp2_with (first | ((with_reducible refine gate_dst (N := 3) rfl ?_); refine box_event ?hg (N := 3) ?hd (cs := #[.int .i64 a1_0, .int .i64 a1_1, .int .u32 a1_2, .int .i64 a1_3, .int .u32 a1_4, .int .i64 a1_5, .int .i64 a1_6, .int .i64 a1_7]) (t := 31) ?hr ?_; (case hd => rfl); (case hg => rfl); (case hr => first | (go_simp; done) | (go_simp; rfl)); intro gb132 hg w14 hbox hb; have n0_ := Aside0.mk (below_step (by repeat (first | (with_reducible first | exact HB.out | apply below_alloc | apply pw_below_drewN | apply below_drew1) | exact HB.out)) hb); have n1_ := Aside0.mk (hbox); have n2_ := Aside0.mk ((by rw [hg]; exact (below_size (by repeat (first | (with_reducible first | exact HB.out | apply below_alloc | apply pw_below_drewN | apply below_drew1) | exact HB.out))) : w.heap.size ≤ gb132)); have n3_ := Aside0.mk ((by rw [hg]; exact (below_size (by repeat (first | (with_reducible first | exact HB.out | apply below_alloc | apply pw_below_drewN | apply below_drew1) | exact HB.out))) : w.heap.size ≤ gb132)); clear HB; have HB := n0_; have BK132 := n1_; have GW132 := n2_; have GE132 := n3_; clear n0_ n1_ n2_ n3_; clear hb hbox hg; have hcz15_0 : w14.cell? ⟨gb132, 0, none⟩ = some (.int .i64 a1_0) := (blk_cell BK132.out 0).trans rfl; have hcz15_1 : w14.cell? ⟨gb132, 1, none⟩ = some (.int .i64 a1_1) := (blk_cell BK132.out 1).trans rfl; have hcz15_2 : w14.cell? ⟨gb132, 2, none⟩ = some (.int .u32 a1_2) := (blk_cell BK132.out 2).trans rfl; have hcz15_3 : w14.cell? ⟨gb132, 3, none⟩ = some (.int .i64 a1_3) := (blk_cell BK132.out 3).trans rfl; have hcz15_4 : w14.cell? ⟨gb132, 4, none⟩ = some (.int .u32 a1_4) := (blk_cell BK132.out 4).trans rfl; have hcz15_5 : w14.cell? ⟨gb132, 5, none⟩ = some (.int .i64 a1_5) := (blk_cell BK132.out 5).trans rfl; have hcz15_6 : w14.cell? ⟨gb132, 6, none⟩ = some (.int .i64 a1_6) := (blk_cell BK132.out 6).trans rfl; have hcz15_7 : w14.cell? ⟨gb132, 7, none⟩ = some (.int .i64 a1_7) := (blk_cell BK132.out 7).trans rfl; have hfz15_0 := blk_frozen BK132.out 0; have hfz15_1 := blk_frozen BK132.out 1; have hfz15_2 := blk_frozen BK132.out 2; have hfz15_3 := blk_frozen BK132.out 3; have hfz15_4 := blk_frozen BK132.out 4; have hfz15_5 := blk_frozen BK132.out 5; have hfz15_6 := blk_frozen BK132.out 6; have hfz15_7 := blk_frozen BK132.out 7) | (go_at_call 33; (with_reducible refine (gueriteref03_Right.calls k a1_2 a1_3 true _ A11.out).mono ?_); rintro e w16 ⟨rfl, hb⟩; have n0_ := Aside0.mk (blk_below (g := gb132) (o := .cells #[.int .i64 a1_0, .int .i64 a1_1, .int .u32 a1_2, .int .i64 a1_3, .int .u32 a1_4, .int .i64 a1_5, .int .i64 a1_6, .int .i64 a1_7] 31 (0, 0)) (by (with_reducible repeat (first | refine blk_drewN ?_ _ | refine blk_drew ?_ | refine blk_alloc ?_ _)); exact BK132.out) hb); have n1_ := Aside0.mk (below_step (by repeat (first | (with_reducible first | exact HB.out | apply below_alloc | apply pw_below_drewN | apply below_drew1 | refine below_set ?_ GE132.out) | exact HB.out)) hb); clear BK132; clear HB; have BK132 := n0_; have HB := n1_; clear n0_ n1_; (try clear hb); (try clear hb2); (try clear hk); (try clear hi); have hcz17_0 : w16.cell? ⟨gb132, 0, none⟩ = some (.int .i64 a1_0) := (blk_cell BK132.out 0).trans rfl; have hcz17_1 : w16.cell? ⟨gb132, 1, none⟩ = some (.int .i64 a1_1) := (blk_cell BK132.out 1).trans rfl; have hcz17_2 : w16.cell? ⟨gb132, 2, none⟩ = some (.int .u32 a1_2) := (blk_cell BK132.out 2).trans rfl; have hcz17_3 : w16.cell? ⟨gb132, 3, none⟩ = some (.int .i64 a1_3) := (blk_cell BK132.out 3).trans rfl; have hcz17_4 : w16.cell? ⟨gb132, 4, none⟩ = some (.int .u32 a1_4) := (blk_cell BK132.out 4).trans rfl; have hcz17_5 : w16.cell? ⟨gb132, 5, none⟩ = some (.int .i64 a1_5) := (blk_cell BK132.out 5).trans rfl; have hcz17_6 : w16.cell? ⟨gb132, 6, none⟩ = some (.int .i64 a1_6) := (blk_cell BK132.out 6).trans rfl; have hcz17_7 : w16.cell? ⟨gb132, 7, none⟩ = some (.int .i64 a1_7) := (blk_cell BK132.out 7).trans rfl; have hfz17_0 := blk_frozen BK132.out 0; have hfz17_1 := blk_frozen BK132.out 1; have hfz17_2 := blk_frozen BK132.out 2; have hfz17_3 := blk_frozen BK132.out 3; have hfz17_4 := blk_frozen BK132.out 4; have hfz17_5 := blk_frozen BK132.out 5; have hfz17_6 := blk_frozen BK132.out 6; have hfz17_7 := blk_frozen BK132.out 7) | (go_at_call 33; (with_reducible refine (gueriteref03_Right.calls k a1_4 a1_5 t134 _ A13.out).mono ?_); rintro e w18 ⟨rfl, hb⟩; have n0_ := Aside0.mk (blk_below (g := gb132) (o := .cells #[.int .i64 a1_0, .int .i64 a1_1, .int .u32 a1_2, .int .i64 a1_3, .int .u32 a1_4, .int .i64 a1_5, .int .i64 a1_6, .int .i64 a1_7] 31 (0, 0)) (by (with_reducible repeat (first | refine blk_drewN ?_ _ | refine blk_drew ?_ | refine blk_alloc ?_ _)); exact BK132.out) hb); have n1_ := Aside0.mk (below_step (by repeat (first | (with_reducible first | exact HB.out | apply below_alloc | apply pw_below_drewN | apply below_drew1 | refine below_set ?_ GE132.out) | exact HB.out)) hb); clear BK132; clear HB; have BK132 := n0_; have HB := n1_; clear n0_ n1_; (try clear hb); (try clear hb2); (try clear hk); (try clear hi)))
                    go_ret
                    exact ⟨by first | rfl | (simp [errW_none, errW_some] <;> rfl) | (simp [*, errW_none, errW_some] <;> rfl), by repeat (first | (with_reducible first | exact HB.out | apply below_alloc | apply pw_below_drewN | apply below_drew1 | refine below_set ?_ GE132.out) | exact HB.out)⟩
                  · replace c12 := Bool.eq_false_iff.mpr c12
                    subst c12
                    have H1 : (some false) = some r := by rw [if_neg (show ¬ (false = true) by decide)] at H; exact H
                    clear H
                    have H := H1
                    clear H1
                    obtain rfl := Option.some.inj H
                    go_enter Try.func13, Try.ntmps13
                    go_wp2_with (first | ((with_reducible refine gate_dst (N := 3) rfl ?_); refine box_event ?hg (N := 3) ?hd (cs := #[.int .i64 a1_0, .int .i64 a1_1, .int .u32 a1_2, .int .i64 a1_3, .int .u32 a1_4, .int .i64 a1_5, .int .i64 a1_6, .int .i64 a1_7]) (t := 31) ?hr ?_; (case hd => rfl); (case hg => rfl); (case hr => first | (go_simp; done) | (go_simp; rfl)); intro gb132 hg w19 hbox hb; have n0_ := Aside0.mk (below_step (by repeat (first | (with_reducible first | exact HB.out | apply below_alloc | apply pw_below_drewN | apply below_drew1) | exact HB.out)) hb); have n1_ := Aside0.mk (hbox); have n2_ := Aside0.mk ((by rw [hg]; exact (below_size (by repeat (first | (with_reducible first | exact HB.out | apply below_alloc | apply pw_below_drewN | apply below_drew1) | exact HB.out))) : w.heap.size ≤ gb132)); have n3_ := Aside0.mk ((by rw [hg]; exact (below_size (by repeat (first | (with_reducible first | exact HB.out | apply below_alloc | apply pw_below_drewN | apply below_drew1) | exact HB.out))) : w.heap.size ≤ gb132)); clear HB; have HB := n0_; have BK132 := n1_; have GW132 := n2_; have GE132 := n3_; clear n0_ n1_ n2_ n3_; clear hb hbox hg; have hcz20_0 : w19.cell? ⟨gb132, 0, none⟩ = some (.int .i64 a1_0) := (blk_cell BK132.out 0).trans rfl; have hcz20_1 : w19.cell? ⟨gb132, 1, none⟩ = some (.int .i64 a1_1) := (blk_cell BK132.out 1).trans rfl; have hcz20_2 : w19.cell? ⟨gb132, 2, none⟩ = some (.int .u32 a1_2) := (blk_cell BK132.out 2).trans rfl; have hcz20_3 : w19.cell? ⟨gb132, 3, none⟩ = some (.int .i64 a1_3) := (blk_cell BK132.out 3).trans rfl; have hcz20_4 : w19.cell? ⟨gb132, 4, none⟩ = some (.int .u32 a1_4) := (blk_cell BK132.out 4).trans rfl; have hcz20_5 : w19.cell? ⟨gb132, 5, none⟩ = some (.int .i64 a1_5) := (blk_cell BK132.out 5).trans rfl; have hcz20_6 : w19.cell? ⟨gb132, 6, none⟩ = some (.int .i64 a1_6) := (blk_cell BK132.out 6).trans rfl; have hcz20_7 : w19.cell? ⟨gb132, 7, none⟩ = some (.int .i64 a1_7) := (blk_cell BK132.out 7).trans rfl; have hfz20_0 := blk_frozen BK132.out 0; have hfz20_1 := blk_frozen BK132.out 1; have hfz20_2 := blk_frozen BK132.out 2; have hfz20_3 := blk_frozen BK132.out 3; have hfz20_4 := blk_frozen BK132.out 4; have hfz20_5 := blk_frozen BK132.out 5; have hfz20_6 := blk_frozen BK132.out 6; have hfz20_7 := blk_frozen BK132.out 7) | (go_at_call 33; (with_reducible refine (gueriteref03_Right.calls k a1_2 a1_3 false _ A11.out).mono ?_); rintro e w21 ⟨rfl, hb⟩; have n0_ := Aside0.mk (blk_below (g := gb132) (o := .cells #[.int .i64 a1_0, .int .i64 a1_1, .int .u32 a1_2, .int .i64 a1_3, .int .u32 a1_4, .int .i64 a1_5, .int .i64 a1_6, .int .i64 a1_7] 31 (0, 0)) (by (with_reducible repeat (first | refine blk_drewN ?_ _ | refine blk_drew ?_ | refine blk_alloc ?_ _)); exact BK132.out) hb); have n1_ := Aside0.mk (below_step (by repeat (first | (with_reducible first | exact HB.out | apply below_alloc | apply pw_below_drewN | apply below_drew1 | refine below_set ?_ GE132.out) | exact HB.out)) hb); clear BK132; clear HB; have BK132 := n0_; have HB := n1_; clear n0_ n1_; (try clear hb); (try clear hb2); (try clear hk); (try clear hi)))
                    go_ret
                    exact ⟨by first | rfl | (simp [errW_none, errW_some] <;> rfl) | (simp [*, errW_none, errW_some] <;> rfl), by repeat (first | (with_reducible first | exact HB.out | apply below_alloc | apply pw_below_drewN | apply below_drew1 | refine below_set ?_ GE132.out) | exact HB.out)⟩
                · rw [if_neg c10] at H
                  have c10b0 : decide (a1_7 < a0) = false := decide_eq_false c10
                  clear c10
                  obtain rfl := Option.some.inj H
                  go_enter Try.func13, Try.ntmps13
                  go_wp2_with (first | ((with_reducible refine gate_dst (N := 3) rfl ?_); refine box_event ?hg (N := 3) ?hd (cs := #[.int .i64 a1_0, .int .i64 a1_1, .int .u32 a1_2, .int .i64 a1_3, .int .u32 a1_4, .int .i64 a1_5, .int .i64 a1_6, .int .i64 a1_7]) (t := 31) ?hr ?_; (case hd => rfl); (case hg => rfl); (case hr => first | (go_simp; done) | (go_simp; rfl)); intro gb132 hg w22 hbox hb; have n0_ := Aside0.mk (below_step (by repeat (first | (with_reducible first | exact HB.out | apply below_alloc | apply pw_below_drewN | apply below_drew1) | exact HB.out)) hb); have n1_ := Aside0.mk (hbox); have n2_ := Aside0.mk ((by rw [hg]; exact (below_size (by repeat (first | (with_reducible first | exact HB.out | apply below_alloc | apply pw_below_drewN | apply below_drew1) | exact HB.out))) : w.heap.size ≤ gb132)); have n3_ := Aside0.mk ((by rw [hg]; exact (below_size (by repeat (first | (with_reducible first | exact HB.out | apply below_alloc | apply pw_below_drewN | apply below_drew1) | exact HB.out))) : w.heap.size ≤ gb132)); clear HB; have HB := n0_; have BK132 := n1_; have GW132 := n2_; have GE132 := n3_; clear n0_ n1_ n2_ n3_; clear hb hbox hg; have hcz23_0 : w22.cell? ⟨gb132, 0, none⟩ = some (.int .i64 a1_0) := (blk_cell BK132.out 0).trans rfl; have hcz23_1 : w22.cell? ⟨gb132, 1, none⟩ = some (.int .i64 a1_1) := (blk_cell BK132.out 1).trans rfl; have hcz23_2 : w22.cell? ⟨gb132, 2, none⟩ = some (.int .u32 a1_2) := (blk_cell BK132.out 2).trans rfl; have hcz23_3 : w22.cell? ⟨gb132, 3, none⟩ = some (.int .i64 a1_3) := (blk_cell BK132.out 3).trans rfl; have hcz23_4 : w22.cell? ⟨gb132, 4, none⟩ = some (.int .u32 a1_4) := (blk_cell BK132.out 4).trans rfl; have hcz23_5 : w22.cell? ⟨gb132, 5, none⟩ = some (.int .i64 a1_5) := (blk_cell BK132.out 5).trans rfl; have hcz23_6 : w22.cell? ⟨gb132, 6, none⟩ = some (.int .i64 a1_6) := (blk_cell BK132.out 6).trans rfl; have hcz23_7 : w22.cell? ⟨gb132, 7, none⟩ = some (.int .i64 a1_7) := (blk_cell BK132.out 7).trans rfl; have hfz23_0 := blk_frozen BK132.out 0; have hfz23_1 := blk_frozen BK132.out 1; have hfz23_2 := blk_frozen BK132.out 2; have hfz23_3 := blk_frozen BK132.out 3; have hfz23_4 := blk_frozen BK132.out 4; have hfz23_5 := blk_frozen BK132.out 5; have hfz23_6 := blk_frozen BK132.out 6; have hfz23_7 := blk_frozen BK132.out 7))
                  go_ret
                  exact ⟨by first | rfl | (simp [errW_none, errW_some] <;> rfl) | (simp [*, errW_none, errW_some] <;> rfl), by repeat (first | (with_reducible first | exact HB.out | apply below_alloc | apply pw_below_drewN | apply below_drew1 | refine below_set ?_ GE132.out) | exact HB.out)⟩
              · rw [if_neg c9] at H
                have c9b0 : decide (0 ≤ a1_7) = false := decide_eq_false c9
                clear c9
                obtain rfl := Option.some.inj H
                go_enter Try.func13, Try.ntmps13
                go_wp2_with (first | ((with_reducible refine gate_dst (N := 3) rfl ?_); refine box_event ?hg (N := 3) ?hd (cs := #[.int .i64 a1_0, .int .i64 a1_1, .int .u32 a1_2, .int .i64 a1_3, .int .u32 a1_4, .int .i64 a1_5, .int .i64 a1_6, .int .i64 a1_7]) (t := 31) ?hr ?_; (case hd => rfl); (case hg => rfl); (case hr => first | (go_simp; done) | (go_simp; rfl)); intro gb132 hg w24 hbox hb; have n0_ := Aside0.mk (below_step (by repeat (first | (with_reducible first | exact HB.out | apply below_alloc | apply pw_below_drewN | apply below_drew1) | exact HB.out)) hb); have n1_ := Aside0.mk (hbox); have n2_ := Aside0.mk ((by rw [hg]; exact (below_size (by repeat (first | (with_reducible first | exact HB.out | apply below_alloc | apply pw_below_drewN | apply below_drew1) | exact HB.out))) : w.heap.size ≤ gb132)); have n3_ := Aside0.mk ((by rw [hg]; exact (below_size (by repeat (first | (with_reducible first | exact HB.out | apply below_alloc | apply pw_below_drewN | apply below_drew1) | exact HB.out))) : w.heap.size ≤ gb132)); clear HB; have HB := n0_; have BK132 := n1_; have GW132 := n2_; have GE132 := n3_; clear n0_ n1_ n2_ n3_; clear hb hbox hg; have hcz25_0 : w24.cell? ⟨gb132, 0, none⟩ = some (.int .i64 a1_0) := (blk_cell BK132.out 0).trans rfl; have hcz25_1 : w24.cell? ⟨gb132, 1, none⟩ = some (.int .i64 a1_1) := (blk_cell BK132.out 1).trans rfl; have hcz25_2 : w24.cell? ⟨gb132, 2, none⟩ = some (.int .u32 a1_2) := (blk_cell BK132.out 2).trans rfl; have hcz25_3 : w24.cell? ⟨gb132, 3, none⟩ = some (.int .i64 a1_3) := (blk_cell BK132.out 3).trans rfl; have hcz25_4 : w24.cell? ⟨gb132, 4, none⟩ = some (.int .u32 a1_4) := (blk_cell BK132.out 4).trans rfl; have hcz25_5 : w24.cell? ⟨gb132, 5, none⟩ = some (.int .i64 a1_5) := (blk_cell BK132.out 5).trans rfl; have hcz25_6 : w24.cell? ⟨gb132, 6, none⟩ = some (.int .i64 a1_6) := (blk_cell BK132.out 6).trans rfl; have hcz25_7 : w24.cell? ⟨gb132, 7, none⟩ = some (.int .i64 a1_7) := (blk_cell BK132.out 7).trans rfl; have hfz25_0 := blk_frozen BK132.out 0; have hfz25_1 := blk_frozen BK132.out 1; have hfz25_2 := blk_frozen BK132.out 2; have hfz25_3 := blk_frozen BK132.out 3; have hfz25_4 := blk_frozen BK132.out 4; have hfz25_5 := blk_frozen BK132.out 5; have hfz25_6 := blk_frozen BK132.out 6; have hfz25_7 := blk_frozen BK132.out 7))
                go_ret
                exact ⟨by first | rfl | (simp [errW_none, errW_some] <;> rfl) | (simp [*, errW_none, errW_some] <;> rfl), by repeat (first | (with_reducible first | exact HB.out | apply below_alloc | apply pw_below_drewN | apply below_drew1 | refine below_set ?_ GE132.out) | exact HB.out)⟩
            · rw [if_neg c8] at H
              have c8b0 : decide (a1_6 ≤ 255) = false := decide_eq_false c8
              clear c8
              obtain rfl := Option.some.inj H
              go_enter Try.func13, Try.ntmps13
              go_wp2_with (first | ((with_reducible refine gate_dst (N := 3) rfl ?_); refine box_event ?hg (N := 3) ?hd (cs := #[.int .i64 a1_0, .int .i64 a1_1, .int .u32 a1_2, .int .i64 a1_3, .int .u32 a1_4, .int .i64 a1_5, .int .i64 a1_6, .int .i64 a1_7]) (t := 31) ?hr ?_; (case hd => rfl); (case hg => rfl); (case hr => first | (go_simp; done) | (go_simp; rfl)); intro gb132 hg w26 hbox hb; have n0_ := Aside0.mk (below_step (by repeat (first | (with_reducible first | exact HB.out | apply below_alloc | apply pw_below_drewN | apply below_drew1) | exact HB.out)) hb); have n1_ := Aside0.mk (hbox); have n2_ := Aside0.mk ((by rw [hg]; exact (below_size (by repeat (first | (with_reducible first | exact HB.out | apply below_alloc | apply pw_below_drewN | apply below_drew1) | exact HB.out))) : w.heap.size ≤ gb132)); have n3_ := Aside0.mk ((by rw [hg]; exact (below_size (by repeat (first | (with_reducible first | exact HB.out | apply below_alloc | apply pw_below_drewN | apply below_drew1) | exact HB.out))) : w.heap.size ≤ gb132)); clear HB; have HB := n0_; have BK132 := n1_; have GW132 := n2_; have GE132 := n3_; clear n0_ n1_ n2_ n3_; clear hb hbox hg; have hcz27_0 : w26.cell? ⟨gb132, 0, none⟩ = some (.int .i64 a1_0) := (blk_cell BK132.out 0).trans rfl; have hcz27_1 : w26.cell? ⟨gb132, 1, none⟩ = some (.int .i64 a1_1) := (blk_cell BK132.out 1).trans rfl; have hcz27_2 : w26.cell? ⟨gb132, 2, none⟩ = some (.int .u32 a1_2) := (blk_cell BK132.out 2).trans rfl; have hcz27_3 : w26.cell? ⟨gb132, 3, none⟩ = some (.int .i64 a1_3) := (blk_cell BK132.out 3).trans rfl; have hcz27_4 : w26.cell? ⟨gb132, 4, none⟩ = some (.int .u32 a1_4) := (blk_cell BK132.out 4).trans rfl; have hcz27_5 : w26.cell? ⟨gb132, 5, none⟩ = some (.int .i64 a1_5) := (blk_cell BK132.out 5).trans rfl; have hcz27_6 : w26.cell? ⟨gb132, 6, none⟩ = some (.int .i64 a1_6) := (blk_cell BK132.out 6).trans rfl; have hcz27_7 : w26.cell? ⟨gb132, 7, none⟩ = some (.int .i64 a1_7) := (blk_cell BK132.out 7).trans rfl; have hfz27_0 := blk_frozen BK132.out 0; have hfz27_1 := blk_frozen BK132.out 1; have hfz27_2 := blk_frozen BK132.out 2; have hfz27_3 := blk_frozen BK132.out 3; have hfz27_4 := blk_frozen BK132.out 4; have hfz27_5 := blk_frozen BK132.out 5; have hfz27_6 := blk_frozen BK132.out 6; have hfz27_7 := blk_frozen BK132.out 7))
              go_ret
              exact ⟨by first | rfl | (simp [errW_none, errW_some] <;> rfl) | (simp [*, errW_none, errW_some] <;> rfl), by repeat (first | (with_reducible first | exact HB.out | apply below_alloc | apply pw_below_drewN | apply below_drew1 | refine below_set ?_ GE132.out) | exact HB.out)⟩
          · rw [if_neg c7] at H
            have c7b0 : decide ((-1) ≤ a1_6) = false := decide_eq_false c7
            clear c7
            obtain rfl := Option.some.inj H
            go_enter Try.func13, Try.ntmps13
            go_wp2_with (first | ((with_reducible refine gate_dst (N := 3) rfl ?_); refine box_event ?hg (N := 3) ?hd (cs := #[.int .i64 a1_0, .int .i64 a1_1, .int .u32 a1_2, .int .i64 a1_3, .int .u32 a1_4, .int .i64 a1_5, .int .i64 a1_6, .int .i64 a1_7]) (t := 31) ?hr ?_; (case hd => rfl); (case hg => rfl); (case hr => first | (go_simp; done) | (go_simp; rfl)); intro gb132 hg w28 hbox hb; have n0_ := Aside0.mk (below_step (by repeat (first | (with_reducible first | exact HB.out | apply below_alloc | apply pw_below_drewN | apply below_drew1) | exact HB.out)) hb); have n1_ := Aside0.mk (hbox); have n2_ := Aside0.mk ((by rw [hg]; exact (below_size (by repeat (first | (with_reducible first | exact HB.out | apply below_alloc | apply pw_below_drewN | apply below_drew1) | exact HB.out))) : w.heap.size ≤ gb132)); have n3_ := Aside0.mk ((by rw [hg]; exact (below_size (by repeat (first | (with_reducible first | exact HB.out | apply below_alloc | apply pw_below_drewN | apply below_drew1) | exact HB.out))) : w.heap.size ≤ gb132)); clear HB; have HB := n0_; have BK132 := n1_; have GW132 := n2_; have GE132 := n3_; clear n0_ n1_ n2_ n3_; clear hb hbox hg; have hcz29_0 : w28.cell? ⟨gb132, 0, none⟩ = some (.int .i64 a1_0) := (blk_cell BK132.out 0).trans rfl; have hcz29_1 : w28.cell? ⟨gb132, 1, none⟩ = some (.int .i64 a1_1) := (blk_cell BK132.out 1).trans rfl; have hcz29_2 : w28.cell? ⟨gb132, 2, none⟩ = some (.int .u32 a1_2) := (blk_cell BK132.out 2).trans rfl; have hcz29_3 : w28.cell? ⟨gb132, 3, none⟩ = some (.int .i64 a1_3) := (blk_cell BK132.out 3).trans rfl; have hcz29_4 : w28.cell? ⟨gb132, 4, none⟩ = some (.int .u32 a1_4) := (blk_cell BK132.out 4).trans rfl; have hcz29_5 : w28.cell? ⟨gb132, 5, none⟩ = some (.int .i64 a1_5) := (blk_cell BK132.out 5).trans rfl; have hcz29_6 : w28.cell? ⟨gb132, 6, none⟩ = some (.int .i64 a1_6) := (blk_cell BK132.out 6).trans rfl; have hcz29_7 : w28.cell? ⟨gb132, 7, none⟩ = some (.int .i64 a1_7) := (blk_cell BK132.out 7).trans rfl; have hfz29_0 := blk_frozen BK132.out 0; have hfz29_1 := blk_frozen BK132.out 1; have hfz29_2 := blk_frozen BK132.out 2; have hfz29_3 := blk_frozen BK132.out 3; have hfz29_4 := blk_frozen BK132.out 4; have hfz29_5 := blk_frozen BK132.out 5; have hfz29_6 := blk_frozen BK132.out 6; have hfz29_7 := blk_frozen BK132.out 7))
            go_ret
            exact ⟨by first | rfl | (simp [errW_none, errW_some] <;> rfl) | (simp [*, errW_none, errW_some] <;> rfl), by repeat (first | (with_reducible first | exact HB.out | apply below_alloc | apply pw_below_drewN | apply below_drew1 | refine below_set ?_ GE132.out) | exact HB.out)⟩
        · rw [if_neg c6] at H
          have c6b0 : decide (a1_1 < a0) = false := decide_eq_false c6
          clear c6
          obtain rfl := Option.some.inj H
          go_enter Try.func13, Try.ntmps13
          go_wp2_with (first | ((with_reducible refine gate_dst (N := 3) rfl ?_); refine box_event ?hg (N := 3) ?hd (cs := #[.int .i64 a1_0, .int .i64 a1_1, .int .u32 a1_2, .int .i64 a1_3, .int .u32 a1_4, .int .i64 a1_5, .int .i64 a1_6, .int .i64 a1_7]) (t := 31) ?hr ?_; (case hd => rfl); (case hg => rfl); (case hr => first | (go_simp; done) | (go_simp; rfl)); intro gb132 hg w30 hbox hb; have n0_ := Aside0.mk (below_step (by repeat (first | (with_reducible first | exact HB.out | apply below_alloc | apply pw_below_drewN | apply below_drew1) | exact HB.out)) hb); have n1_ := Aside0.mk (hbox); have n2_ := Aside0.mk ((by rw [hg]; exact (below_size (by repeat (first | (with_reducible first | exact HB.out | apply below_alloc | apply pw_below_drewN | apply below_drew1) | exact HB.out))) : w.heap.size ≤ gb132)); have n3_ := Aside0.mk ((by rw [hg]; exact (below_size (by repeat (first | (with_reducible first | exact HB.out | apply below_alloc | apply pw_below_drewN | apply below_drew1) | exact HB.out))) : w.heap.size ≤ gb132)); clear HB; have HB := n0_; have BK132 := n1_; have GW132 := n2_; have GE132 := n3_; clear n0_ n1_ n2_ n3_; clear hb hbox hg; have hcz31_0 : w30.cell? ⟨gb132, 0, none⟩ = some (.int .i64 a1_0) := (blk_cell BK132.out 0).trans rfl; have hcz31_1 : w30.cell? ⟨gb132, 1, none⟩ = some (.int .i64 a1_1) := (blk_cell BK132.out 1).trans rfl; have hcz31_2 : w30.cell? ⟨gb132, 2, none⟩ = some (.int .u32 a1_2) := (blk_cell BK132.out 2).trans rfl; have hcz31_3 : w30.cell? ⟨gb132, 3, none⟩ = some (.int .i64 a1_3) := (blk_cell BK132.out 3).trans rfl; have hcz31_4 : w30.cell? ⟨gb132, 4, none⟩ = some (.int .u32 a1_4) := (blk_cell BK132.out 4).trans rfl; have hcz31_5 : w30.cell? ⟨gb132, 5, none⟩ = some (.int .i64 a1_5) := (blk_cell BK132.out 5).trans rfl; have hcz31_6 : w30.cell? ⟨gb132, 6, none⟩ = some (.int .i64 a1_6) := (blk_cell BK132.out 6).trans rfl; have hcz31_7 : w30.cell? ⟨gb132, 7, none⟩ = some (.int .i64 a1_7) := (blk_cell BK132.out 7).trans rfl; have hfz31_0 := blk_frozen BK132.out 0; have hfz31_1 := blk_frozen BK132.out 1; have hfz31_2 := blk_frozen BK132.out 2; have hfz31_3 := blk_frozen BK132.out 3; have hfz31_4 := blk_frozen BK132.out 4; have hfz31_5 := blk_frozen BK132.out 5; have hfz31_6 := blk_frozen BK132.out 6; have hfz31_7 := blk_frozen BK132.out 7))
          go_ret
          exact ⟨by first | rfl | (simp [errW_none, errW_some] <;> rfl) | (simp [*, errW_none, errW_some] <;> rfl), by repeat (first | (with_reducible first | exact HB.out | apply below_alloc | apply pw_below_drewN | apply below_drew1 | refine below_set ?_ GE132.out) | exact HB.out)⟩
      · rw [if_neg c5] at H
        have c5b0 : decide ((-1) ≤ a1_1) = false := decide_eq_false c5
        clear c5
        obtain rfl := Option.some.inj H
        go_enter Try.func13, Try.ntmps13
        go_wp2_with (first | ((with_reducible refine gate_dst (N := 3) rfl ?_); refine box_event ?hg (N := 3) ?hd (cs := #[.int .i64 a1_0, .int .i64 a1_1, .int .u32 a1_2, .int .i64 a1_3, .int .u32 a1_4, .int .i64 a1_5, .int .i64 a1_6, .int .i64 a1_7]) (t := 31) ?hr ?_; (case hd => rfl); (case hg => rfl); (case hr => first | (go_simp; done) | (go_simp; rfl)); intro gb132 hg w32 hbox hb; have n0_ := Aside0.mk (below_step (by repeat (first | (with_reducible first | exact HB.out | apply below_alloc | apply pw_below_drewN | apply below_drew1) | exact HB.out)) hb); have n1_ := Aside0.mk (hbox); have n2_ := Aside0.mk ((by rw [hg]; exact (below_size (by repeat (first | (with_reducible first | exact HB.out | apply below_alloc | apply pw_below_drewN | apply below_drew1) | exact HB.out))) : w.heap.size ≤ gb132)); have n3_ := Aside0.mk ((by rw [hg]; exact (below_size (by repeat (first | (with_reducible first | exact HB.out | apply below_alloc | apply pw_below_drewN | apply below_drew1) | exact HB.out))) : w.heap.size ≤ gb132)); clear HB; have HB := n0_; have BK132 := n1_; have GW132 := n2_; have GE132 := n3_; clear n0_ n1_ n2_ n3_; clear hb hbox hg; have hcz33_0 : w32.cell? ⟨gb132, 0, none⟩ = some (.int .i64 a1_0) := (blk_cell BK132.out 0).trans rfl; have hcz33_1 : w32.cell? ⟨gb132, 1, none⟩ = some (.int .i64 a1_1) := (blk_cell BK132.out 1).trans rfl; have hcz33_2 : w32.cell? ⟨gb132, 2, none⟩ = some (.int .u32 a1_2) := (blk_cell BK132.out 2).trans rfl; have hcz33_3 : w32.cell? ⟨gb132, 3, none⟩ = some (.int .i64 a1_3) := (blk_cell BK132.out 3).trans rfl; have hcz33_4 : w32.cell? ⟨gb132, 4, none⟩ = some (.int .u32 a1_4) := (blk_cell BK132.out 4).trans rfl; have hcz33_5 : w32.cell? ⟨gb132, 5, none⟩ = some (.int .i64 a1_5) := (blk_cell BK132.out 5).trans rfl; have hcz33_6 : w32.cell? ⟨gb132, 6, none⟩ = some (.int .i64 a1_6) := (blk_cell BK132.out 6).trans rfl; have hcz33_7 : w32.cell? ⟨gb132, 7, none⟩ = some (.int .i64 a1_7) := (blk_cell BK132.out 7).trans rfl; have hfz33_0 := blk_frozen BK132.out 0; have hfz33_1 := blk_frozen BK132.out 1; have hfz33_2 := blk_frozen BK132.out 2; have hfz33_3 := blk_frozen BK132.out 3; have hfz33_4 := blk_frozen BK132.out 4; have hfz33_5 := blk_frozen BK132.out 5; have hfz33_6 := blk_frozen BK132.out 6; have hfz33_7 := blk_frozen BK132.out 7))
        go_ret
        exact ⟨by first | rfl | (simp [errW_none, errW_some] <;> rfl) | (simp [*, errW_none, errW_some] <;> rfl), by repeat (first | (with_reducible first | exact HB.out | apply below_alloc | apply pw_below_drewN | apply below_drew1 | refine below_set ?_ GE132.out) | exact HB.out)⟩
    · rw [if_neg c4] at H
      have c4b0 : decide (a1_0 ≤ 7) = false := decide_eq_false c4
      clear c4
      obtain rfl := Option.some.inj H
      go_enter Try.func13, Try.ntmps13
      go_wp2_with (first | ((with_reducible refine gate_dst (N := 3) rfl ?_); refine box_event ?hg (N := 3) ?hd (cs := #[.int .i64 a1_0, .int .i64 a1_1, .int .u32 a1_2, .int .i64 a1_3, .int .u32 a1_4, .int .i64 a1_5, .int .i64 a1_6, .int .i64 a1_7]) (t := 31) ?hr ?_; (case hd => rfl); (case hg => rfl); (case hr => first | (go_simp; done) | (go_simp; rfl)); intro gb132 hg w34 hbox hb; have n0_ := Aside0.mk (below_step (by repeat (first | (with_reducible first | exact HB.out | apply below_alloc | apply pw_below_drewN | apply below_drew1) | exact HB.out)) hb); have n1_ := Aside0.mk (hbox); have n2_ := Aside0.mk ((by rw [hg]; exact (below_size (by repeat (first | (with_reducible first | exact HB.out | apply below_alloc | apply pw_below_drewN | apply below_drew1) | exact HB.out))) : w.heap.size ≤ gb132)); have n3_ := Aside0.mk ((by rw [hg]; exact (below_size (by repeat (first | (with_reducible first | exact HB.out | apply below_alloc | apply pw_below_drewN | apply below_drew1) | exact HB.out))) : w.heap.size ≤ gb132)); clear HB; have HB := n0_; have BK132 := n1_; have GW132 := n2_; have GE132 := n3_; clear n0_ n1_ n2_ n3_; clear hb hbox hg; have hcz35_0 : w34.cell? ⟨gb132, 0, none⟩ = some (.int .i64 a1_0) := (blk_cell BK132.out 0).trans rfl; have hcz35_1 : w34.cell? ⟨gb132, 1, none⟩ = some (.int .i64 a1_1) := (blk_cell BK132.out 1).trans rfl; have hcz35_2 : w34.cell? ⟨gb132, 2, none⟩ = some (.int .u32 a1_2) := (blk_cell BK132.out 2).trans rfl; have hcz35_3 : w34.cell? ⟨gb132, 3, none⟩ = some (.int .i64 a1_3) := (blk_cell BK132.out 3).trans rfl; have hcz35_4 : w34.cell? ⟨gb132, 4, none⟩ = some (.int .u32 a1_4) := (blk_cell BK132.out 4).trans rfl; have hcz35_5 : w34.cell? ⟨gb132, 5, none⟩ = some (.int .i64 a1_5) := (blk_cell BK132.out 5).trans rfl; have hcz35_6 : w34.cell? ⟨gb132, 6, none⟩ = some (.int .i64 a1_6) := (blk_cell BK132.out 6).trans rfl; have hcz35_7 : w34.cell? ⟨gb132, 7, none⟩ = some (.int .i64 a1_7) := (blk_cell BK132.out 7).trans rfl; have hfz35_0 := blk_frozen BK132.out 0; have hfz35_1 := blk_frozen BK132.out 1; have hfz35_2 := blk_frozen BK132.out 2; have hfz35_3 := blk_frozen BK132.out 3; have hfz35_4 := blk_frozen BK132.out 4; have hfz35_5 := blk_frozen BK132.out 5; have hfz35_6 := blk_frozen BK132.out 6; have hfz35_7 := blk_frozen BK132.out 7))
      go_ret
      exact ⟨by first | rfl | (simp [errW_none, errW_some] <;> rfl) | (simp [*, errW_none, errW_some] <;> rfl), by repeat (first | (with_reducible first | exact HB.out | apply below_alloc | apply pw_below_drewN | apply below_drew1 | refine below_set ?_ GE132.out) | exact HB.out)⟩
  · rw [if_neg c3] at H
    have c3b0 : decide ((-1) ≤ a1_0) = false := decide_eq_false c3
    clear c3
    obtain rfl := Option.some.inj H
    go_enter Try.func13, Try.ntmps13
    go_wp2_with (first | ((with_reducible refine gate_dst (N := 3) rfl ?_); refine box_event ?hg (N := 3) ?hd (cs := #[.int .i64 a1_0, .int .i64 a1_1, .int .u32 a1_2, .int .i64 a1_3, .int .u32 a1_4, .int .i64 a1_5, .int .i64 a1_6, .int .i64 a1_7]) (t := 31) ?hr ?_; (case hd => rfl); (case hg => rfl); (case hr => first | (go_simp; done) | (go_simp; rfl)); intro gb132 hg w36 hbox hb; have n0_ := Aside0.mk (below_step (by repeat (first | (with_reducible first | exact HB.out | apply below_alloc | apply pw_below_drewN | apply below_drew1) | exact HB.out)) hb); have n1_ := Aside0.mk (hbox); have n2_ := Aside0.mk ((by rw [hg]; exact (below_size (by repeat (first | (with_reducible first | exact HB.out | apply below_alloc | apply pw_below_drewN | apply below_drew1) | exact HB.out))) : w.heap.size ≤ gb132)); have n3_ := Aside0.mk ((by rw [hg]; exact (below_size (by repeat (first | (with_reducible first | exact HB.out | apply below_alloc | apply pw_below_drewN | apply below_drew1) | exact HB.out))) : w.heap.size ≤ gb132)); clear HB; have HB := n0_; have BK132 := n1_; have GW132 := n2_; have GE132 := n3_; clear n0_ n1_ n2_ n3_; clear hb hbox hg; have hcz37_0 : w36.cell? ⟨gb132, 0, none⟩ = some (.int .i64 a1_0) := (blk_cell BK132.out 0).trans rfl; have hcz37_1 : w36.cell? ⟨gb132, 1, none⟩ = some (.int .i64 a1_1) := (blk_cell BK132.out 1).trans rfl; have hcz37_2 : w36.cell? ⟨gb132, 2, none⟩ = some (.int .u32 a1_2) := (blk_cell BK132.out 2).trans rfl; have hcz37_3 : w36.cell? ⟨gb132, 3, none⟩ = some (.int .i64 a1_3) := (blk_cell BK132.out 3).trans rfl; have hcz37_4 : w36.cell? ⟨gb132, 4, none⟩ = some (.int .u32 a1_4) := (blk_cell BK132.out 4).trans rfl; have hcz37_5 : w36.cell? ⟨gb132, 5, none⟩ = some (.int .i64 a1_5) := (blk_cell BK132.out 5).trans rfl; have hcz37_6 : w36.cell? ⟨gb132, 6, none⟩ = some (.int .i64 a1_6) := (blk_cell BK132.out 6).trans rfl; have hcz37_7 : w36.cell? ⟨gb132, 7, none⟩ = some (.int .i64 a1_7) := (blk_cell BK132.out 7).trans rfl; have hfz37_0 := blk_frozen BK132.out 0; have hfz37_1 := blk_frozen BK132.out 1; have hfz37_2 := blk_frozen BK132.out 2; have hfz37_3 := blk_frozen BK132.out 3; have hfz37_4 := blk_frozen BK132.out 4; have hfz37_5 := blk_frozen BK132.out 5; have hfz37_6 := blk_frozen BK132.out 6; have hfz37_7 := blk_frozen BK132.out 7))
    go_ret
    exact ⟨by first | rfl | (simp [errW_none, errW_some] <;> rfl) | (simp [*, errW_none, errW_some] <;> rfl), by repeat (first | (with_reducible first | exact HB.out | apply below_alloc | apply pw_below_drewN | apply below_drew1 | refine below_set ?_ GE132.out) | exact HB.out)⟩

end Go.Proofs.Ytakfnghakbjncaa.P
