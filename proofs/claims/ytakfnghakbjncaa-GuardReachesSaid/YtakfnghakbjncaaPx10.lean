-- Written by a program of this session (xprint.py), over the kit's print; not trusted: Lean checks it.
import Derived.Test.YtakfnghakbjncaaPx0
import Derived.Test.YtakfnghakbjncaaPx2
import Derived.Test.YtakfnghakbjncaaX
namespace Go.Proofs.Ytakfnghakbjncaa.P
open Go.RowKit Go.Proofs.YtakfnghakbjncaaW.PrintWords Go.Proofs.YtakfnghakbjncaaW.PrintLast Go.Proofs.YtakfnghakbjncaaW.PrintMore
attribute [local go_sem] max2_int min2_int max_two min_two max_three min_three max_four min_four   -- for this text's walks alone
set_option linter.unusedVariables false
set_option linter.unusedSimpArgs false

/-! ### guard_right_1: function 56 -/
def guard_right_1.f (a0 : Int) (a1 : Int) (a2 : Int) : Option (Bool) := if a0 ≥ a1 then (some (decide (a0 < a2))) else (some false)
set_option maxHeartbeats 8000000 in
set_option maxRecDepth 100000 in
theorem guard_right_1.calls (a0 : Int) (a1 : Int) (a2 : Int) (r : Bool) (w : World) (h : guard_right_1.f a0 a1 a2 = some r) :
    Calls Try.prog 56 #[.int .i64 a0, .int .i64 a1, .int .i64 a2] w fun e w' => e = .returned (.bool r) ∧ Drawn0 w w' := by
  have H : (if a0 ≥ a1 then (some (decide (a0 < a2))) else (some false)) = some r := h
  clear h
  by_cases c4 : a0 ≥ a1
  · rw [if_pos c4] at H
    have c4b0 : decide (a1 ≤ a0) = true := decide_eq_true c4
    clear c4
    obtain rfl := Option.some.inj H
    go_enter Try.func56, Try.ntmps56
    go_wp2
    go_ret
    exact ⟨by first | rfl | (simp; done) | (simp [*]; done), by repeat (first | exact Drawn0.refl _ | apply Drawn0.step)⟩
  · rw [if_neg c4] at H
    have c4b0 : decide (a1 ≤ a0) = false := decide_eq_false c4
    clear c4
    obtain rfl := Option.some.inj H
    go_enter Try.func56, Try.ntmps56
    go_wp2
    go_ret
    exact ⟨by first | rfl | (simp; done) | (simp [*]; done), by repeat (first | exact Drawn0.refl _ | apply Drawn0.step)⟩

/-! ### guard_right: function 38 -/
def guard_right.f (a0 : Int) (a1_0 : Int) (a1_1 : Int) (a1_2 : Int) (a1_3 : Int) (a1_4 : Int) (a1_5 : Int) (a1_6 : Int) (a1_7 : Int) : Option (Bool) := (guard_right_1.f a1_0 (-1) 8).bind fun t171 => (if t171 = true then ((guard_right_1.f a1_1 (-1) a0).bind fun t172 => (if t172 = true then ((guard_right_1.f a1_6 (-1) 256).bind fun t173 => (if t173 = true then ((guard_right_1.f a1_7 0 a0).bind fun t174 => (if t174 = true then ((addr_Right.f a1_2 a1_3).bind fun t175 => (if t175 = true then ((addr_Right.f a1_4 a1_5).bind fun t176 => (some t176)) else (some false))) else (some false))) else (some false))) else (some false))) else (some false))
set_option maxHeartbeats 8000000 in
set_option maxRecDepth 100000 in
theorem guard_right.calls (a0 : Int) (a1_0 : Int) (a1_1 : Int) (a1_2 : Int) (a1_3 : Int) (a1_4 : Int) (a1_5 : Int) (a1_6 : Int) (a1_7 : Int) (r : Bool) (w : World) (h : guard_right.f a0 a1_0 a1_1 a1_2 a1_3 a1_4 a1_5 a1_6 a1_7 = some r) :
    Calls Try.prog 38 #[.int .i64 a0, .agg #[.int .i64 a1_0, .int .i64 a1_1, .int .u32 a1_2, .int .i64 a1_3, .int .u32 a1_4, .int .i64 a1_5, .int .i64 a1_6, .int .i64 a1_7]] w fun e w' => e = .returned (.bool r) ∧ Below w.heap.size w w' := by
  have hu31 := Try.underlying31
  have hu29 := Try.underlying29
  have HB := Aside0.mk (Below.refl w.heap.size w)
  have H : ((guard_right_1.f a1_0 (-1) 8).bind fun t171 => (if t171 = true then ((guard_right_1.f a1_1 (-1) a0).bind fun t172 => (if t172 = true then ((guard_right_1.f a1_6 (-1) 256).bind fun t173 => (if t173 = true then ((guard_right_1.f a1_7 0 a0).bind fun t174 => (if t174 = true then ((addr_Right.f a1_2 a1_3).bind fun t175 => (if t175 = true then ((addr_Right.f a1_4 a1_5).bind fun t176 => (some t176)) else (some false))) else (some false))) else (some false))) else (some false))) else (some false))) = some r := h
  clear h
  replace H := Option.bind_eq_some_iff.mp H
  obtain ⟨t171, A30, H⟩ := H
  replace H : (if t171 = true then ((guard_right_1.f a1_1 (-1) a0).bind fun t172 => (if t172 = true then ((guard_right_1.f a1_6 (-1) 256).bind fun t173 => (if t173 = true then ((guard_right_1.f a1_7 0 a0).bind fun t174 => (if t174 = true then ((addr_Right.f a1_2 a1_3).bind fun t175 => (if t175 = true then ((addr_Right.f a1_4 a1_5).bind fun t176 => (some t176)) else (some false))) else (some false))) else (some false))) else (some false))) else (some false)) = some r := H
  have A3 := Aside0.mk A30
  clear A30
  by_cases c4 : t171 = true
  · subst c4
    have H1 : ((guard_right_1.f a1_1 (-1) a0).bind fun t172 => (if t172 = true then ((guard_right_1.f a1_6 (-1) 256).bind fun t173 => (if t173 = true then ((guard_right_1.f a1_7 0 a0).bind fun t174 => (if t174 = true then ((addr_Right.f a1_2 a1_3).bind fun t175 => (if t175 = true then ((addr_Right.f a1_4 a1_5).bind fun t176 => (some t176)) else (some false))) else (some false))) else (some false))) else (some false))) = some r := by rw [if_pos rfl] at H; exact H
    clear H
    have H := H1
    clear H1
    replace H := Option.bind_eq_some_iff.mp H
    obtain ⟨t172, A50, H⟩ := H
    replace H : (if t172 = true then ((guard_right_1.f a1_6 (-1) 256).bind fun t173 => (if t173 = true then ((guard_right_1.f a1_7 0 a0).bind fun t174 => (if t174 = true then ((addr_Right.f a1_2 a1_3).bind fun t175 => (if t175 = true then ((addr_Right.f a1_4 a1_5).bind fun t176 => (some t176)) else (some false))) else (some false))) else (some false))) else (some false)) = some r := H
    have A5 := Aside0.mk A50
    clear A50
    by_cases c6 : t172 = true
    · subst c6
      have H1 : ((guard_right_1.f a1_6 (-1) 256).bind fun t173 => (if t173 = true then ((guard_right_1.f a1_7 0 a0).bind fun t174 => (if t174 = true then ((addr_Right.f a1_2 a1_3).bind fun t175 => (if t175 = true then ((addr_Right.f a1_4 a1_5).bind fun t176 => (some t176)) else (some false))) else (some false))) else (some false))) = some r := by rw [if_pos rfl] at H; exact H
      clear H
      have H := H1
      clear H1
      replace H := Option.bind_eq_some_iff.mp H
      obtain ⟨t173, A70, H⟩ := H
      replace H : (if t173 = true then ((guard_right_1.f a1_7 0 a0).bind fun t174 => (if t174 = true then ((addr_Right.f a1_2 a1_3).bind fun t175 => (if t175 = true then ((addr_Right.f a1_4 a1_5).bind fun t176 => (some t176)) else (some false))) else (some false))) else (some false)) = some r := H
      have A7 := Aside0.mk A70
      clear A70
      by_cases c8 : t173 = true
      · subst c8
        have H1 : ((guard_right_1.f a1_7 0 a0).bind fun t174 => (if t174 = true then ((addr_Right.f a1_2 a1_3).bind fun t175 => (if t175 = true then ((addr_Right.f a1_4 a1_5).bind fun t176 => (some t176)) else (some false))) else (some false))) = some r := by rw [if_pos rfl] at H; exact H
        clear H
        have H := H1
        clear H1
        replace H := Option.bind_eq_some_iff.mp H
        obtain ⟨t174, A90, H⟩ := H
        replace H : (if t174 = true then ((addr_Right.f a1_2 a1_3).bind fun t175 => (if t175 = true then ((addr_Right.f a1_4 a1_5).bind fun t176 => (some t176)) else (some false))) else (some false)) = some r := H
        have A9 := Aside0.mk A90
        clear A90
        by_cases c10 : t174 = true
        · subst c10
          have H1 : ((addr_Right.f a1_2 a1_3).bind fun t175 => (if t175 = true then ((addr_Right.f a1_4 a1_5).bind fun t176 => (some t176)) else (some false))) = some r := by rw [if_pos rfl] at H; exact H
          clear H
          have H := H1
          clear H1
          replace H := Option.bind_eq_some_iff.mp H
          obtain ⟨t175, A110, H⟩ := H
          replace H : (if t175 = true then ((addr_Right.f a1_4 a1_5).bind fun t176 => (some t176)) else (some false)) = some r := H
          have A11 := Aside0.mk A110
          clear A110
          by_cases c12 : t175 = true
          · subst c12
            have H1 : ((addr_Right.f a1_4 a1_5).bind fun t176 => (some t176)) = some r := by rw [if_pos rfl] at H; exact H
            clear H
            have H := H1
            clear H1
            replace H := Option.bind_eq_some_iff.mp H
            obtain ⟨t176, A130, H⟩ := H
            replace H : (some t176) = some r := H
            have A13 := Aside0.mk A130
            clear A130
            obtain rfl := Option.some.inj H
            go_enter Try.func38, Try.ntmps38
            go_wp2_with (first | ((with_reducible refine gate_dst (N := 3) rfl ?_); refine box_event ?hg (N := 3) ?hd (cs := #[.int .i64 a1_0, .int .i64 a1_1, .int .u32 a1_2, .int .i64 a1_3, .int .u32 a1_4, .int .i64 a1_5, .int .i64 a1_6, .int .i64 a1_7]) (t := 31) ?hr ?_; (case hd => rfl); (case hg => rfl); (case hr => first | (go_simp; done) | (go_simp; rfl)); intro gb170 hg w14 hbox hb; have n0_ := Aside0.mk (below_step (by repeat (first | (with_reducible first | exact HB.out | apply below_alloc | apply pw_below_drewN | apply below_drew1) | exact HB.out)) hb); have n1_ := Aside0.mk (hbox); have n2_ := Aside0.mk ((by rw [hg]; exact (below_size (by repeat (first | (with_reducible first | exact HB.out | apply below_alloc | apply pw_below_drewN | apply below_drew1) | exact HB.out))) : w.heap.size ≤ gb170)); have n3_ := Aside0.mk ((by rw [hg]; exact (below_size (by repeat (first | (with_reducible first | exact HB.out | apply below_alloc | apply pw_below_drewN | apply below_drew1) | exact HB.out))) : w.heap.size ≤ gb170)); clear HB; have HB := n0_; have BK170 := n1_; have GW170 := n2_; have GE170 := n3_; clear n0_ n1_ n2_ n3_; clear hb hbox hg; have hcz15_0 : w14.cell? ⟨gb170, 0, none⟩ = some (.int .i64 a1_0) := (blk_cell BK170.out 0).trans rfl; have hcz15_1 : w14.cell? ⟨gb170, 1, none⟩ = some (.int .i64 a1_1) := (blk_cell BK170.out 1).trans rfl; have hcz15_2 : w14.cell? ⟨gb170, 2, none⟩ = some (.int .u32 a1_2) := (blk_cell BK170.out 2).trans rfl; have hcz15_3 : w14.cell? ⟨gb170, 3, none⟩ = some (.int .i64 a1_3) := (blk_cell BK170.out 3).trans rfl; have hcz15_4 : w14.cell? ⟨gb170, 4, none⟩ = some (.int .u32 a1_4) := (blk_cell BK170.out 4).trans rfl; have hcz15_5 : w14.cell? ⟨gb170, 5, none⟩ = some (.int .i64 a1_5) := (blk_cell BK170.out 5).trans rfl; have hcz15_6 : w14.cell? ⟨gb170, 6, none⟩ = some (.int .i64 a1_6) := (blk_cell BK170.out 6).trans rfl; have hcz15_7 : w14.cell? ⟨gb170, 7, none⟩ = some (.int .i64 a1_7) := (blk_cell BK170.out 7).trans rfl; have hfz15_0 := blk_frozen BK170.out 0; have hfz15_1 := blk_frozen BK170.out 1; have hfz15_2 := blk_frozen BK170.out 2; have hfz15_3 := blk_frozen BK170.out 3; have hfz15_4 := blk_frozen BK170.out 4; have hfz15_5 := blk_frozen BK170.out 5; have hfz15_6 := blk_frozen BK170.out 6; have hfz15_7 := blk_frozen BK170.out 7) | ((with_reducible refine gateT_ (f := 56) rfl rfl ?_); refine goesLT_ (some 9) rfl rfl Try.func56 (by kernel_rfl) rfl #[.int .i64 a1_0, .int .i64 (-1), .int .i64 8] rfl (by (try simp only [List.map_toArray, List.map_cons, List.map_nil]); first | done | rfl | (simp only [List.length_drop, List.length_take]; rfl)) ?_; (with_reducible refine (guard_right_1.calls a1_0 (-1) 8 true _ A3.out).mono ?_); rintro e w' ⟨rfl, ⟨nd, rfl⟩⟩; refine ⟨_, rfl, ?_⟩) | (go_at_call 56; (with_reducible refine (guard_right_1.calls a1_1 (-1) a0 true _ A5.out).mono ?_); rintro e w' ⟨rfl, ⟨nd, rfl⟩⟩) | (go_at_call 56; (with_reducible refine (guard_right_1.calls a1_6 (-1) 256 true _ A7.out).mono ?_); rintro e w' ⟨rfl, ⟨nd, rfl⟩⟩) | (go_at_call 56; (with_reducible refine (guard_right_1.calls a1_7 0 a0 true _ A9.out).mono ?_); rintro e w' ⟨rfl, ⟨nd, rfl⟩⟩) | (go_at_call 54; (with_reducible refine (addr_Right.calls a1_2 a1_3 true _ A11.out).mono ?_); rintro e w16 ⟨rfl, hb⟩; have n0_ := Aside0.mk (blk_below (g := gb170) (o := .cells #[.int .i64 a1_0, .int .i64 a1_1, .int .u32 a1_2, .int .i64 a1_3, .int .u32 a1_4, .int .i64 a1_5, .int .i64 a1_6, .int .i64 a1_7] 31 (0, 0)) (by (with_reducible repeat (first | refine blk_drewN ?_ _ | refine blk_drew ?_ | refine blk_alloc ?_ _)); exact BK170.out) hb); have n1_ := Aside0.mk (below_step (by repeat (first | (with_reducible first | exact HB.out | apply below_alloc | apply pw_below_drewN | apply below_drew1 | refine below_set ?_ GE170.out) | exact HB.out)) hb); clear BK170; clear HB; have BK170 := n0_; have HB := n1_; clear n0_ n1_; (try clear hb); (try clear hb2); (try clear hk); (try clear hi); have hcz17_0 : w16.cell? ⟨gb170, 0, none⟩ = some (.int .i64 a1_0) := (blk_cell BK170.out 0).trans rfl; have hcz17_1 : w16.cell? ⟨gb170, 1, none⟩ = some (.int .i64 a1_1) := (blk_cell BK170.out 1).trans rfl; have hcz17_2 : w16.cell? ⟨gb170, 2, none⟩ = some (.int .u32 a1_2) := (blk_cell BK170.out 2).trans rfl; have hcz17_3 : w16.cell? ⟨gb170, 3, none⟩ = some (.int .i64 a1_3) := (blk_cell BK170.out 3).trans rfl; have hcz17_4 : w16.cell? ⟨gb170, 4, none⟩ = some (.int .u32 a1_4) := (blk_cell BK170.out 4).trans rfl; have hcz17_5 : w16.cell? ⟨gb170, 5, none⟩ = some (.int .i64 a1_5) := (blk_cell BK170.out 5).trans rfl; have hcz17_6 : w16.cell? ⟨gb170, 6, none⟩ = some (.int .i64 a1_6) := (blk_cell BK170.out 6).trans rfl; have hcz17_7 : w16.cell? ⟨gb170, 7, none⟩ = some (.int .i64 a1_7) := (blk_cell BK170.out 7).trans rfl; have hfz17_0 := blk_frozen BK170.out 0; have hfz17_1 := blk_frozen BK170.out 1; have hfz17_2 := blk_frozen BK170.out 2; have hfz17_3 := blk_frozen BK170.out 3; have hfz17_4 := blk_frozen BK170.out 4; have hfz17_5 := blk_frozen BK170.out 5; have hfz17_6 := blk_frozen BK170.out 6; have hfz17_7 := blk_frozen BK170.out 7) | (go_at_call 54; (with_reducible refine (addr_Right.calls a1_4 a1_5 t176 _ A13.out).mono ?_); rintro e w18 ⟨rfl, hb⟩; have n0_ := Aside0.mk (blk_below (g := gb170) (o := .cells #[.int .i64 a1_0, .int .i64 a1_1, .int .u32 a1_2, .int .i64 a1_3, .int .u32 a1_4, .int .i64 a1_5, .int .i64 a1_6, .int .i64 a1_7] 31 (0, 0)) (by (with_reducible repeat (first | refine blk_drewN ?_ _ | refine blk_drew ?_ | refine blk_alloc ?_ _)); exact BK170.out) hb); have n1_ := Aside0.mk (below_step (by repeat (first | (with_reducible first | exact HB.out | apply below_alloc | apply pw_below_drewN | apply below_drew1 | refine below_set ?_ GE170.out) | exact HB.out)) hb); clear BK170; clear HB; have BK170 := n0_; have HB := n1_; clear n0_ n1_; (try clear hb); (try clear hb2); (try clear hk); (try clear hi)))
            go_ret
            exact ⟨by first | rfl | (simp [errW_none, errW_some] <;> rfl) | (simp [*, errW_none, errW_some] <;> rfl), by repeat (first | (with_reducible first | exact HB.out | apply below_alloc | apply pw_below_drewN | apply below_drew1 | refine below_set ?_ GE170.out) | exact HB.out)⟩
          · replace c12 := Bool.eq_false_iff.mpr c12
            subst c12
            have H1 : (some false) = some r := by rw [if_neg (show ¬ (false = true) by decide)] at H; exact H
            clear H
            have H := H1
            clear H1
            obtain rfl := Option.some.inj H
            go_enter Try.func38, Try.ntmps38
            go_wp2_with (first | ((with_reducible refine gate_dst (N := 3) rfl ?_); refine box_event ?hg (N := 3) ?hd (cs := #[.int .i64 a1_0, .int .i64 a1_1, .int .u32 a1_2, .int .i64 a1_3, .int .u32 a1_4, .int .i64 a1_5, .int .i64 a1_6, .int .i64 a1_7]) (t := 31) ?hr ?_; (case hd => rfl); (case hg => rfl); (case hr => first | (go_simp; done) | (go_simp; rfl)); intro gb170 hg w19 hbox hb; have n0_ := Aside0.mk (below_step (by repeat (first | (with_reducible first | exact HB.out | apply below_alloc | apply pw_below_drewN | apply below_drew1) | exact HB.out)) hb); have n1_ := Aside0.mk (hbox); have n2_ := Aside0.mk ((by rw [hg]; exact (below_size (by repeat (first | (with_reducible first | exact HB.out | apply below_alloc | apply pw_below_drewN | apply below_drew1) | exact HB.out))) : w.heap.size ≤ gb170)); have n3_ := Aside0.mk ((by rw [hg]; exact (below_size (by repeat (first | (with_reducible first | exact HB.out | apply below_alloc | apply pw_below_drewN | apply below_drew1) | exact HB.out))) : w.heap.size ≤ gb170)); clear HB; have HB := n0_; have BK170 := n1_; have GW170 := n2_; have GE170 := n3_; clear n0_ n1_ n2_ n3_; clear hb hbox hg; have hcz20_0 : w19.cell? ⟨gb170, 0, none⟩ = some (.int .i64 a1_0) := (blk_cell BK170.out 0).trans rfl; have hcz20_1 : w19.cell? ⟨gb170, 1, none⟩ = some (.int .i64 a1_1) := (blk_cell BK170.out 1).trans rfl; have hcz20_2 : w19.cell? ⟨gb170, 2, none⟩ = some (.int .u32 a1_2) := (blk_cell BK170.out 2).trans rfl; have hcz20_3 : w19.cell? ⟨gb170, 3, none⟩ = some (.int .i64 a1_3) := (blk_cell BK170.out 3).trans rfl; have hcz20_4 : w19.cell? ⟨gb170, 4, none⟩ = some (.int .u32 a1_4) := (blk_cell BK170.out 4).trans rfl; have hcz20_5 : w19.cell? ⟨gb170, 5, none⟩ = some (.int .i64 a1_5) := (blk_cell BK170.out 5).trans rfl; have hcz20_6 : w19.cell? ⟨gb170, 6, none⟩ = some (.int .i64 a1_6) := (blk_cell BK170.out 6).trans rfl; have hcz20_7 : w19.cell? ⟨gb170, 7, none⟩ = some (.int .i64 a1_7) := (blk_cell BK170.out 7).trans rfl; have hfz20_0 := blk_frozen BK170.out 0; have hfz20_1 := blk_frozen BK170.out 1; have hfz20_2 := blk_frozen BK170.out 2; have hfz20_3 := blk_frozen BK170.out 3; have hfz20_4 := blk_frozen BK170.out 4; have hfz20_5 := blk_frozen BK170.out 5; have hfz20_6 := blk_frozen BK170.out 6; have hfz20_7 := blk_frozen BK170.out 7) | ((with_reducible refine gateT_ (f := 56) rfl rfl ?_); refine goesLT_ (some 9) rfl rfl Try.func56 (by kernel_rfl) rfl #[.int .i64 a1_0, .int .i64 (-1), .int .i64 8] rfl (by (try simp only [List.map_toArray, List.map_cons, List.map_nil]); first | done | rfl | (simp only [List.length_drop, List.length_take]; rfl)) ?_; (with_reducible refine (guard_right_1.calls a1_0 (-1) 8 true _ A3.out).mono ?_); rintro e w' ⟨rfl, ⟨nd, rfl⟩⟩; refine ⟨_, rfl, ?_⟩) | (go_at_call 56; (with_reducible refine (guard_right_1.calls a1_1 (-1) a0 true _ A5.out).mono ?_); rintro e w' ⟨rfl, ⟨nd, rfl⟩⟩) | (go_at_call 56; (with_reducible refine (guard_right_1.calls a1_6 (-1) 256 true _ A7.out).mono ?_); rintro e w' ⟨rfl, ⟨nd, rfl⟩⟩) | (go_at_call 56; (with_reducible refine (guard_right_1.calls a1_7 0 a0 true _ A9.out).mono ?_); rintro e w' ⟨rfl, ⟨nd, rfl⟩⟩) | (go_at_call 54; (with_reducible refine (addr_Right.calls a1_2 a1_3 false _ A11.out).mono ?_); rintro e w21 ⟨rfl, hb⟩; have n0_ := Aside0.mk (blk_below (g := gb170) (o := .cells #[.int .i64 a1_0, .int .i64 a1_1, .int .u32 a1_2, .int .i64 a1_3, .int .u32 a1_4, .int .i64 a1_5, .int .i64 a1_6, .int .i64 a1_7] 31 (0, 0)) (by (with_reducible repeat (first | refine blk_drewN ?_ _ | refine blk_drew ?_ | refine blk_alloc ?_ _)); exact BK170.out) hb); have n1_ := Aside0.mk (below_step (by repeat (first | (with_reducible first | exact HB.out | apply below_alloc | apply pw_below_drewN | apply below_drew1 | refine below_set ?_ GE170.out) | exact HB.out)) hb); clear BK170; clear HB; have BK170 := n0_; have HB := n1_; clear n0_ n1_; (try clear hb); (try clear hb2); (try clear hk); (try clear hi)))
            go_ret
            exact ⟨by first | rfl | (simp [errW_none, errW_some] <;> rfl) | (simp [*, errW_none, errW_some] <;> rfl), by repeat (first | (with_reducible first | exact HB.out | apply below_alloc | apply pw_below_drewN | apply below_drew1 | refine below_set ?_ GE170.out) | exact HB.out)⟩
        · replace c10 := Bool.eq_false_iff.mpr c10
          subst c10
          have H1 : (some false) = some r := by rw [if_neg (show ¬ (false = true) by decide)] at H; exact H
          clear H
          have H := H1
          clear H1
          obtain rfl := Option.some.inj H
          go_enter Try.func38, Try.ntmps38
          go_wp2_with (first | ((with_reducible refine gate_dst (N := 3) rfl ?_); refine box_event ?hg (N := 3) ?hd (cs := #[.int .i64 a1_0, .int .i64 a1_1, .int .u32 a1_2, .int .i64 a1_3, .int .u32 a1_4, .int .i64 a1_5, .int .i64 a1_6, .int .i64 a1_7]) (t := 31) ?hr ?_; (case hd => rfl); (case hg => rfl); (case hr => first | (go_simp; done) | (go_simp; rfl)); intro gb170 hg w22 hbox hb; have n0_ := Aside0.mk (below_step (by repeat (first | (with_reducible first | exact HB.out | apply below_alloc | apply pw_below_drewN | apply below_drew1) | exact HB.out)) hb); have n1_ := Aside0.mk (hbox); have n2_ := Aside0.mk ((by rw [hg]; exact (below_size (by repeat (first | (with_reducible first | exact HB.out | apply below_alloc | apply pw_below_drewN | apply below_drew1) | exact HB.out))) : w.heap.size ≤ gb170)); have n3_ := Aside0.mk ((by rw [hg]; exact (below_size (by repeat (first | (with_reducible first | exact HB.out | apply below_alloc | apply pw_below_drewN | apply below_drew1) | exact HB.out))) : w.heap.size ≤ gb170)); clear HB; have HB := n0_; have BK170 := n1_; have GW170 := n2_; have GE170 := n3_; clear n0_ n1_ n2_ n3_; clear hb hbox hg; have hcz23_0 : w22.cell? ⟨gb170, 0, none⟩ = some (.int .i64 a1_0) := (blk_cell BK170.out 0).trans rfl; have hcz23_1 : w22.cell? ⟨gb170, 1, none⟩ = some (.int .i64 a1_1) := (blk_cell BK170.out 1).trans rfl; have hcz23_2 : w22.cell? ⟨gb170, 2, none⟩ = some (.int .u32 a1_2) := (blk_cell BK170.out 2).trans rfl; have hcz23_3 : w22.cell? ⟨gb170, 3, none⟩ = some (.int .i64 a1_3) := (blk_cell BK170.out 3).trans rfl; have hcz23_4 : w22.cell? ⟨gb170, 4, none⟩ = some (.int .u32 a1_4) := (blk_cell BK170.out 4).trans rfl; have hcz23_5 : w22.cell? ⟨gb170, 5, none⟩ = some (.int .i64 a1_5) := (blk_cell BK170.out 5).trans rfl; have hcz23_6 : w22.cell? ⟨gb170, 6, none⟩ = some (.int .i64 a1_6) := (blk_cell BK170.out 6).trans rfl; have hcz23_7 : w22.cell? ⟨gb170, 7, none⟩ = some (.int .i64 a1_7) := (blk_cell BK170.out 7).trans rfl; have hfz23_0 := blk_frozen BK170.out 0; have hfz23_1 := blk_frozen BK170.out 1; have hfz23_2 := blk_frozen BK170.out 2; have hfz23_3 := blk_frozen BK170.out 3; have hfz23_4 := blk_frozen BK170.out 4; have hfz23_5 := blk_frozen BK170.out 5; have hfz23_6 := blk_frozen BK170.out 6; have hfz23_7 := blk_frozen BK170.out 7) | ((with_reducible refine gateT_ (f := 56) rfl rfl ?_); refine goesLT_ (some 9) rfl rfl Try.func56 (by kernel_rfl) rfl #[.int .i64 a1_0, .int .i64 (-1), .int .i64 8] rfl (by (try simp only [List.map_toArray, List.map_cons, List.map_nil]); first | done | rfl | (simp only [List.length_drop, List.length_take]; rfl)) ?_; (with_reducible refine (guard_right_1.calls a1_0 (-1) 8 true _ A3.out).mono ?_); rintro e w' ⟨rfl, ⟨nd, rfl⟩⟩; refine ⟨_, rfl, ?_⟩) | (go_at_call 56; (with_reducible refine (guard_right_1.calls a1_1 (-1) a0 true _ A5.out).mono ?_); rintro e w' ⟨rfl, ⟨nd, rfl⟩⟩) | (go_at_call 56; (with_reducible refine (guard_right_1.calls a1_6 (-1) 256 true _ A7.out).mono ?_); rintro e w' ⟨rfl, ⟨nd, rfl⟩⟩) | (go_at_call 56; (with_reducible refine (guard_right_1.calls a1_7 0 a0 false _ A9.out).mono ?_); rintro e w' ⟨rfl, ⟨nd, rfl⟩⟩))
          go_ret
          exact ⟨by first | rfl | (simp [errW_none, errW_some] <;> rfl) | (simp [*, errW_none, errW_some] <;> rfl), by repeat (first | (with_reducible first | exact HB.out | apply below_alloc | apply pw_below_drewN | apply below_drew1 | refine below_set ?_ GE170.out) | exact HB.out)⟩
      · replace c8 := Bool.eq_false_iff.mpr c8
        subst c8
        have H1 : (some false) = some r := by rw [if_neg (show ¬ (false = true) by decide)] at H; exact H
        clear H
        have H := H1
        clear H1
        obtain rfl := Option.some.inj H
        go_enter Try.func38, Try.ntmps38
        go_wp2_with (first | ((with_reducible refine gate_dst (N := 3) rfl ?_); refine box_event ?hg (N := 3) ?hd (cs := #[.int .i64 a1_0, .int .i64 a1_1, .int .u32 a1_2, .int .i64 a1_3, .int .u32 a1_4, .int .i64 a1_5, .int .i64 a1_6, .int .i64 a1_7]) (t := 31) ?hr ?_; (case hd => rfl); (case hg => rfl); (case hr => first | (go_simp; done) | (go_simp; rfl)); intro gb170 hg w24 hbox hb; have n0_ := Aside0.mk (below_step (by repeat (first | (with_reducible first | exact HB.out | apply below_alloc | apply pw_below_drewN | apply below_drew1) | exact HB.out)) hb); have n1_ := Aside0.mk (hbox); have n2_ := Aside0.mk ((by rw [hg]; exact (below_size (by repeat (first | (with_reducible first | exact HB.out | apply below_alloc | apply pw_below_drewN | apply below_drew1) | exact HB.out))) : w.heap.size ≤ gb170)); have n3_ := Aside0.mk ((by rw [hg]; exact (below_size (by repeat (first | (with_reducible first | exact HB.out | apply below_alloc | apply pw_below_drewN | apply below_drew1) | exact HB.out))) : w.heap.size ≤ gb170)); clear HB; have HB := n0_; have BK170 := n1_; have GW170 := n2_; have GE170 := n3_; clear n0_ n1_ n2_ n3_; clear hb hbox hg; have hcz25_0 : w24.cell? ⟨gb170, 0, none⟩ = some (.int .i64 a1_0) := (blk_cell BK170.out 0).trans rfl; have hcz25_1 : w24.cell? ⟨gb170, 1, none⟩ = some (.int .i64 a1_1) := (blk_cell BK170.out 1).trans rfl; have hcz25_2 : w24.cell? ⟨gb170, 2, none⟩ = some (.int .u32 a1_2) := (blk_cell BK170.out 2).trans rfl; have hcz25_3 : w24.cell? ⟨gb170, 3, none⟩ = some (.int .i64 a1_3) := (blk_cell BK170.out 3).trans rfl; have hcz25_4 : w24.cell? ⟨gb170, 4, none⟩ = some (.int .u32 a1_4) := (blk_cell BK170.out 4).trans rfl; have hcz25_5 : w24.cell? ⟨gb170, 5, none⟩ = some (.int .i64 a1_5) := (blk_cell BK170.out 5).trans rfl; have hcz25_6 : w24.cell? ⟨gb170, 6, none⟩ = some (.int .i64 a1_6) := (blk_cell BK170.out 6).trans rfl; have hcz25_7 : w24.cell? ⟨gb170, 7, none⟩ = some (.int .i64 a1_7) := (blk_cell BK170.out 7).trans rfl; have hfz25_0 := blk_frozen BK170.out 0; have hfz25_1 := blk_frozen BK170.out 1; have hfz25_2 := blk_frozen BK170.out 2; have hfz25_3 := blk_frozen BK170.out 3; have hfz25_4 := blk_frozen BK170.out 4; have hfz25_5 := blk_frozen BK170.out 5; have hfz25_6 := blk_frozen BK170.out 6; have hfz25_7 := blk_frozen BK170.out 7) | ((with_reducible refine gateT_ (f := 56) rfl rfl ?_); refine goesLT_ (some 9) rfl rfl Try.func56 (by kernel_rfl) rfl #[.int .i64 a1_0, .int .i64 (-1), .int .i64 8] rfl (by (try simp only [List.map_toArray, List.map_cons, List.map_nil]); first | done | rfl | (simp only [List.length_drop, List.length_take]; rfl)) ?_; (with_reducible refine (guard_right_1.calls a1_0 (-1) 8 true _ A3.out).mono ?_); rintro e w' ⟨rfl, ⟨nd, rfl⟩⟩; refine ⟨_, rfl, ?_⟩) | (go_at_call 56; (with_reducible refine (guard_right_1.calls a1_1 (-1) a0 true _ A5.out).mono ?_); rintro e w' ⟨rfl, ⟨nd, rfl⟩⟩) | (go_at_call 56; (with_reducible refine (guard_right_1.calls a1_6 (-1) 256 false _ A7.out).mono ?_); rintro e w' ⟨rfl, ⟨nd, rfl⟩⟩))
        go_ret
        exact ⟨by first | rfl | (simp [errW_none, errW_some] <;> rfl) | (simp [*, errW_none, errW_some] <;> rfl), by repeat (first | (with_reducible first | exact HB.out | apply below_alloc | apply pw_below_drewN | apply below_drew1 | refine below_set ?_ GE170.out) | exact HB.out)⟩
    · replace c6 := Bool.eq_false_iff.mpr c6
      subst c6
      have H1 : (some false) = some r := by rw [if_neg (show ¬ (false = true) by decide)] at H; exact H
      clear H
      have H := H1
      clear H1
      obtain rfl := Option.some.inj H
      go_enter Try.func38, Try.ntmps38
      go_wp2_with (first | ((with_reducible refine gate_dst (N := 3) rfl ?_); refine box_event ?hg (N := 3) ?hd (cs := #[.int .i64 a1_0, .int .i64 a1_1, .int .u32 a1_2, .int .i64 a1_3, .int .u32 a1_4, .int .i64 a1_5, .int .i64 a1_6, .int .i64 a1_7]) (t := 31) ?hr ?_; (case hd => rfl); (case hg => rfl); (case hr => first | (go_simp; done) | (go_simp; rfl)); intro gb170 hg w26 hbox hb; have n0_ := Aside0.mk (below_step (by repeat (first | (with_reducible first | exact HB.out | apply below_alloc | apply pw_below_drewN | apply below_drew1) | exact HB.out)) hb); have n1_ := Aside0.mk (hbox); have n2_ := Aside0.mk ((by rw [hg]; exact (below_size (by repeat (first | (with_reducible first | exact HB.out | apply below_alloc | apply pw_below_drewN | apply below_drew1) | exact HB.out))) : w.heap.size ≤ gb170)); have n3_ := Aside0.mk ((by rw [hg]; exact (below_size (by repeat (first | (with_reducible first | exact HB.out | apply below_alloc | apply pw_below_drewN | apply below_drew1) | exact HB.out))) : w.heap.size ≤ gb170)); clear HB; have HB := n0_; have BK170 := n1_; have GW170 := n2_; have GE170 := n3_; clear n0_ n1_ n2_ n3_; clear hb hbox hg; have hcz27_0 : w26.cell? ⟨gb170, 0, none⟩ = some (.int .i64 a1_0) := (blk_cell BK170.out 0).trans rfl; have hcz27_1 : w26.cell? ⟨gb170, 1, none⟩ = some (.int .i64 a1_1) := (blk_cell BK170.out 1).trans rfl; have hcz27_2 : w26.cell? ⟨gb170, 2, none⟩ = some (.int .u32 a1_2) := (blk_cell BK170.out 2).trans rfl; have hcz27_3 : w26.cell? ⟨gb170, 3, none⟩ = some (.int .i64 a1_3) := (blk_cell BK170.out 3).trans rfl; have hcz27_4 : w26.cell? ⟨gb170, 4, none⟩ = some (.int .u32 a1_4) := (blk_cell BK170.out 4).trans rfl; have hcz27_5 : w26.cell? ⟨gb170, 5, none⟩ = some (.int .i64 a1_5) := (blk_cell BK170.out 5).trans rfl; have hcz27_6 : w26.cell? ⟨gb170, 6, none⟩ = some (.int .i64 a1_6) := (blk_cell BK170.out 6).trans rfl; have hcz27_7 : w26.cell? ⟨gb170, 7, none⟩ = some (.int .i64 a1_7) := (blk_cell BK170.out 7).trans rfl; have hfz27_0 := blk_frozen BK170.out 0; have hfz27_1 := blk_frozen BK170.out 1; have hfz27_2 := blk_frozen BK170.out 2; have hfz27_3 := blk_frozen BK170.out 3; have hfz27_4 := blk_frozen BK170.out 4; have hfz27_5 := blk_frozen BK170.out 5; have hfz27_6 := blk_frozen BK170.out 6; have hfz27_7 := blk_frozen BK170.out 7) | ((with_reducible refine gateT_ (f := 56) rfl rfl ?_); refine goesLT_ (some 9) rfl rfl Try.func56 (by kernel_rfl) rfl #[.int .i64 a1_0, .int .i64 (-1), .int .i64 8] rfl (by (try simp only [List.map_toArray, List.map_cons, List.map_nil]); first | done | rfl | (simp only [List.length_drop, List.length_take]; rfl)) ?_; (with_reducible refine (guard_right_1.calls a1_0 (-1) 8 true _ A3.out).mono ?_); rintro e w' ⟨rfl, ⟨nd, rfl⟩⟩; refine ⟨_, rfl, ?_⟩) | (go_at_call 56; (with_reducible refine (guard_right_1.calls a1_1 (-1) a0 false _ A5.out).mono ?_); rintro e w' ⟨rfl, ⟨nd, rfl⟩⟩))
      go_ret
      exact ⟨by first | rfl | (simp [errW_none, errW_some] <;> rfl) | (simp [*, errW_none, errW_some] <;> rfl), by repeat (first | (with_reducible first | exact HB.out | apply below_alloc | apply pw_below_drewN | apply below_drew1 | refine below_set ?_ GE170.out) | exact HB.out)⟩
  · replace c4 := Bool.eq_false_iff.mpr c4
    subst c4
    have H1 : (some false) = some r := by rw [if_neg (show ¬ (false = true) by decide)] at H; exact H
    clear H
    have H := H1
    clear H1
    obtain rfl := Option.some.inj H
    go_enter Try.func38, Try.ntmps38
    go_wp2_with (first | ((with_reducible refine gate_dst (N := 3) rfl ?_); refine box_event ?hg (N := 3) ?hd (cs := #[.int .i64 a1_0, .int .i64 a1_1, .int .u32 a1_2, .int .i64 a1_3, .int .u32 a1_4, .int .i64 a1_5, .int .i64 a1_6, .int .i64 a1_7]) (t := 31) ?hr ?_; (case hd => rfl); (case hg => rfl); (case hr => first | (go_simp; done) | (go_simp; rfl)); intro gb170 hg w28 hbox hb; have n0_ := Aside0.mk (below_step (by repeat (first | (with_reducible first | exact HB.out | apply below_alloc | apply pw_below_drewN | apply below_drew1) | exact HB.out)) hb); have n1_ := Aside0.mk (hbox); have n2_ := Aside0.mk ((by rw [hg]; exact (below_size (by repeat (first | (with_reducible first | exact HB.out | apply below_alloc | apply pw_below_drewN | apply below_drew1) | exact HB.out))) : w.heap.size ≤ gb170)); have n3_ := Aside0.mk ((by rw [hg]; exact (below_size (by repeat (first | (with_reducible first | exact HB.out | apply below_alloc | apply pw_below_drewN | apply below_drew1) | exact HB.out))) : w.heap.size ≤ gb170)); clear HB; have HB := n0_; have BK170 := n1_; have GW170 := n2_; have GE170 := n3_; clear n0_ n1_ n2_ n3_; clear hb hbox hg; have hcz29_0 : w28.cell? ⟨gb170, 0, none⟩ = some (.int .i64 a1_0) := (blk_cell BK170.out 0).trans rfl; have hcz29_1 : w28.cell? ⟨gb170, 1, none⟩ = some (.int .i64 a1_1) := (blk_cell BK170.out 1).trans rfl; have hcz29_2 : w28.cell? ⟨gb170, 2, none⟩ = some (.int .u32 a1_2) := (blk_cell BK170.out 2).trans rfl; have hcz29_3 : w28.cell? ⟨gb170, 3, none⟩ = some (.int .i64 a1_3) := (blk_cell BK170.out 3).trans rfl; have hcz29_4 : w28.cell? ⟨gb170, 4, none⟩ = some (.int .u32 a1_4) := (blk_cell BK170.out 4).trans rfl; have hcz29_5 : w28.cell? ⟨gb170, 5, none⟩ = some (.int .i64 a1_5) := (blk_cell BK170.out 5).trans rfl; have hcz29_6 : w28.cell? ⟨gb170, 6, none⟩ = some (.int .i64 a1_6) := (blk_cell BK170.out 6).trans rfl; have hcz29_7 : w28.cell? ⟨gb170, 7, none⟩ = some (.int .i64 a1_7) := (blk_cell BK170.out 7).trans rfl; have hfz29_0 := blk_frozen BK170.out 0; have hfz29_1 := blk_frozen BK170.out 1; have hfz29_2 := blk_frozen BK170.out 2; have hfz29_3 := blk_frozen BK170.out 3; have hfz29_4 := blk_frozen BK170.out 4; have hfz29_5 := blk_frozen BK170.out 5; have hfz29_6 := blk_frozen BK170.out 6; have hfz29_7 := blk_frozen BK170.out 7) | ((with_reducible refine gateT_ (f := 56) rfl rfl ?_); refine goesLT_ (some 9) rfl rfl Try.func56 (by kernel_rfl) rfl #[.int .i64 a1_0, .int .i64 (-1), .int .i64 8] rfl (by (try simp only [List.map_toArray, List.map_cons, List.map_nil]); first | done | rfl | (simp only [List.length_drop, List.length_take]; rfl)) ?_; (with_reducible refine (guard_right_1.calls a1_0 (-1) 8 false _ A3.out).mono ?_); rintro e w' ⟨rfl, ⟨nd, rfl⟩⟩; refine ⟨_, rfl, ?_⟩))
    go_ret
    exact ⟨by first | rfl | (simp [errW_none, errW_some] <;> rfl) | (simp [*, errW_none, errW_some] <;> rfl), by repeat (first | (with_reducible first | exact HB.out | apply below_alloc | apply pw_below_drewN | apply below_drew1 | refine below_set ?_ GE170.out) | exact HB.out)⟩

end Go.Proofs.Ytakfnghakbjncaa.P
