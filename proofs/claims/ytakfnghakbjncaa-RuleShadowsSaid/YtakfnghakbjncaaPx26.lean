-- Written by a program of this session (xprint.py), over the kit's print; not trusted: Lean checks it.
import Derived.Test.YtakfnghakbjncaaPx0
import Derived.Test.YtakfnghakbjncaaPx16
import Derived.Test.YtakfnghakbjncaaPx24
import Derived.Test.YtakfnghakbjncaaG4
import Derived.Test.YtakfnghakbjncaaG5
namespace Go.Proofs.Ytakfnghakbjncaa.P
open Go.RowKit Go.Proofs.YtakfnghakbjncaaW.PrintWords Go.Proofs.YtakfnghakbjncaaW.PrintLast Go.Proofs.YtakfnghakbjncaaW.PrintMore
attribute [local go_sem] max2_int min2_int max_two min_two max_three min_three max_four min_four   -- for this text's walks alone
set_option linter.unusedVariables false
set_option linter.unusedSimpArgs false

-- EXTERN 29 (rule_Shadowed)

/-! ### gueritelaw15_RuleShadows: function 9 -/
mutual
def gueritelaw15_RuleShadows.l0 : Nat → List (S42) → List Int → Int → Int → Int → Option (Bool)
  | 0, _, _, _, _, _ => none
  | k + 1, x0, x5, x6, x7, x8 => if x8 < (x0.length : Int) then (gueritelaw15_RuleShadows.l1 k x0 x5 x6 x7 x8 false 0) else (if x7 = (x5.length : Int) then ((gueritelaw15_awake.f).bind fun t349 => (some t349)) else (some false))
def gueritelaw15_RuleShadows.l1 : Nat → List (S42) → List Int → Int → Int → Int → Bool → Int → Option (Bool)
  | 0, _, _, _, _, _, _, _ => none
  | k + 1, x0, x5, x6, x7, x8, x9, x10 => if x10 < x8 then (if x9 = true then (gueritelaw15_RuleShadows.l1 k x0 x5 x6 x7 x8 true (wrap64 (x10 + 1))) else (if 0 ≤ x10 then (if x10 < (x0.length : Int) then (if 0 ≤ x8 then (if x8 < (x0.length : Int) then ((gueriteref15_Covers.f k ((rd_T42 x0 x10).f0) ((rd_T42 x0 x10).f1) ((rd_T42 x0 x10).f2.f0) ((rd_T42 x0 x10).f2.f1) ((rd_T42 x0 x10).f3.f0) ((rd_T42 x0 x10).f3.f1) ((rd_T42 x0 x10).f4) ((rd_T42 x0 x10).f5) ((rd_T42 x0 x10).f6) ((rd_T42 x0 x10).f7) ((rd_T42 x0 x10).f8) ((rd_T42 x0 x10).f9) ((rd_T42 x0 x8).f0) ((rd_T42 x0 x8).f1) ((rd_T42 x0 x8).f2.f0) ((rd_T42 x0 x8).f2.f1) ((rd_T42 x0 x8).f3.f0) ((rd_T42 x0 x8).f3.f1) ((rd_T42 x0 x8).f4) ((rd_T42 x0 x8).f5) ((rd_T42 x0 x8).f6) ((rd_T42 x0 x8).f7) ((rd_T42 x0 x8).f8) ((rd_T42 x0 x8).f9)).bind fun t347 => (gueritelaw15_RuleShadows.l1 k x0 x5 x6 x7 x8 t347 (wrap64 (x10 + 1)))) else (none)) else (none)) else (none)) else (none))) else (if x9 = true then (if x7 ≥ (x5.length : Int) then (gueritelaw15_RuleShadows.j2 k x0 x5 x6 x7 x8 true) else (if 0 ≤ x7 then (if x7 < (x5.length : Int) then (if (rd x5 x7) = x8 then (gueritelaw15_RuleShadows.j2 k x0 x5 x6 x7 x8 (x6 == x8)) else (gueritelaw15_RuleShadows.j2 k x0 x5 x6 x7 x8 true)) else (none)) else (none))) else (gueritelaw15_RuleShadows.l0 k x0 x5 x6 x7 (wrap64 (x8 + 1))))
def gueritelaw15_RuleShadows.j2 : Nat → List (S42) → List Int → Int → Int → Int → Bool → Option (Bool)
  | 0, _, _, _, _, _, _ => none
  | k + 1, x0, x5, x6, x7, x8, x60 => if x60 = true then (some false) else (gueritelaw15_RuleShadows.l0 k x0 x5 x6 (wrap64 (x7 + 1)) (wrap64 (x8 + 1)))
end
def gueritelaw15_RuleShadows.f (k : Nat) (l0 : List (S42)) (a1_0 : Int) (a1_1 : Int) (a1_2 : Int) (a1_3 : Int) (a1_4 : Int) (a1_5 : Int) (a1_6 : Int) : Option (Bool) := if (l0.length : Int) > 40 then ((gueritelaw15_awake.f).bind fun t340 => (some t340)) else ((rule_Shadowed.f l0).bind fun t341 => ((rule_First.f l0 a1_0 a1_1 a1_2 a1_3 a1_4 a1_5 a1_6).bind fun t344 => (gueritelaw15_RuleShadows.l0 k l0 t341 t344 0 0)))
theorem gueritelaw15_RuleShadows.mono_l : ∀ k, (∀ y0 y1 y2 y3 y4, LeO (gueritelaw15_RuleShadows.l0 k y0 y1 y2 y3 y4) (gueritelaw15_RuleShadows.l0 (k + 1) y0 y1 y2 y3 y4)) ∧ (∀ y0 y1 y2 y3 y4 y5 y6, LeO (gueritelaw15_RuleShadows.l1 k y0 y1 y2 y3 y4 y5 y6) (gueritelaw15_RuleShadows.l1 (k + 1) y0 y1 y2 y3 y4 y5 y6)) ∧ (∀ y0 y1 y2 y3 y4 y5, LeO (gueritelaw15_RuleShadows.j2 k y0 y1 y2 y3 y4 y5) (gueritelaw15_RuleShadows.j2 (k + 1) y0 y1 y2 y3 y4 y5))
  | 0 => ⟨fun _ _ _ _ _ r h => by simp [gueritelaw15_RuleShadows.l0] at h, fun _ _ _ _ _ _ _ r h => by simp [gueritelaw15_RuleShadows.l1] at h, fun _ _ _ _ _ _ r h => by simp [gueritelaw15_RuleShadows.j2] at h⟩
  | k + 1 => by
    obtain ⟨ih0, ih1, ih2⟩ := gueritelaw15_RuleShadows.mono_l k
    refine ⟨?_, ?_, ?_⟩
    · intro y0 y1 y2 y3 y4
      unfold gueritelaw15_RuleShadows.l0
      repeat' first
      | (with_reducible exact ih0 _ _ _ _ _)
      | (with_reducible exact ih1 _ _ _ _ _ _ _)
      | (with_reducible exact ih2 _ _ _ _ _ _)
      | (with_reducible exact gueriteref15_Covers.mono _ _ _ _ _ _ _ _ _ _ _ _ _ _ _ _ _ _ _ _ _ _ _ _ _)
      | (with_reducible exact LeO.refl _)
      | (with_reducible exact LeO.none _)
      | (with_reducible refine LeO.ite ?_ ?_)
      | (with_reducible refine LeO.bind ?_ (fun _ => ?_))
      | exact ih0 _ _ _ _ _
      | exact ih1 _ _ _ _ _ _ _
      | exact ih2 _ _ _ _ _ _
      | exact gueriteref15_Covers.mono _ _ _ _ _ _ _ _ _ _ _ _ _ _ _ _ _ _ _ _ _ _ _ _ _
      | exact LeO.none _
      | refine LeO.ite ?_ ?_
      | refine LeO.bind ?_ (fun _ => ?_)
    · intro y0 y1 y2 y3 y4 y5 y6
      unfold gueritelaw15_RuleShadows.l1
      repeat' first
      | (with_reducible exact ih0 _ _ _ _ _)
      | (with_reducible exact ih1 _ _ _ _ _ _ _)
      | (with_reducible exact ih2 _ _ _ _ _ _)
      | (with_reducible exact gueriteref15_Covers.mono _ _ _ _ _ _ _ _ _ _ _ _ _ _ _ _ _ _ _ _ _ _ _ _ _)
      | (with_reducible exact LeO.refl _)
      | (with_reducible exact LeO.none _)
      | (with_reducible refine LeO.ite ?_ ?_)
      | (with_reducible refine LeO.bind ?_ (fun _ => ?_))
      | exact ih0 _ _ _ _ _
      | exact ih1 _ _ _ _ _ _ _
      | exact ih2 _ _ _ _ _ _
      | exact gueriteref15_Covers.mono _ _ _ _ _ _ _ _ _ _ _ _ _ _ _ _ _ _ _ _ _ _ _ _ _
      | exact LeO.none _
      | refine LeO.ite ?_ ?_
      | refine LeO.bind ?_ (fun _ => ?_)
    · intro y0 y1 y2 y3 y4 y5
      unfold gueritelaw15_RuleShadows.j2
      repeat' first
      | (with_reducible exact ih0 _ _ _ _ _)
      | (with_reducible exact ih1 _ _ _ _ _ _ _)
      | (with_reducible exact ih2 _ _ _ _ _ _)
      | (with_reducible exact gueriteref15_Covers.mono _ _ _ _ _ _ _ _ _ _ _ _ _ _ _ _ _ _ _ _ _ _ _ _ _)
      | (with_reducible exact LeO.refl _)
      | (with_reducible exact LeO.none _)
      | (with_reducible refine LeO.ite ?_ ?_)
      | (with_reducible refine LeO.bind ?_ (fun _ => ?_))
      | exact ih0 _ _ _ _ _
      | exact ih1 _ _ _ _ _ _ _
      | exact ih2 _ _ _ _ _ _
      | exact gueriteref15_Covers.mono _ _ _ _ _ _ _ _ _ _ _ _ _ _ _ _ _ _ _ _ _ _ _ _ _
      | exact LeO.none _
      | refine LeO.ite ?_ ?_
      | refine LeO.bind ?_ (fun _ => ?_)
theorem gueritelaw15_RuleShadows.mono : ∀ a0 a1 a2 a3 a4 a5 a6 a7 k, LeO (gueritelaw15_RuleShadows.f k a0 a1 a2 a3 a4 a5 a6 a7) (gueritelaw15_RuleShadows.f (k + 1) a0 a1 a2 a3 a4 a5 a6 a7) := by
  intro a0 a1 a2 a3 a4 a5 a6 a7 k
  obtain ⟨ih0, ih1, ih2⟩ := gueritelaw15_RuleShadows.mono_l k
  unfold gueritelaw15_RuleShadows.f
  repeat' first
      | (with_reducible exact ih0 _ _ _ _ _)
      | (with_reducible exact ih1 _ _ _ _ _ _ _)
      | (with_reducible exact ih2 _ _ _ _ _ _)
      | (with_reducible exact gueriteref15_Covers.mono _ _ _ _ _ _ _ _ _ _ _ _ _ _ _ _ _ _ _ _ _ _ _ _ _)
      | (with_reducible exact LeO.refl _)
      | (with_reducible exact LeO.none _)
      | (with_reducible refine LeO.ite ?_ ?_)
      | (with_reducible refine LeO.bind ?_ (fun _ => ?_))
      | exact ih0 _ _ _ _ _
      | exact ih1 _ _ _ _ _ _ _
      | exact ih2 _ _ _ _ _ _
      | exact gueriteref15_Covers.mono _ _ _ _ _ _ _ _ _ _ _ _ _ _ _ _ _ _ _ _ _ _ _ _ _
      | exact LeO.none _
      | refine LeO.ite ?_ ?_
      | refine LeO.bind ?_ (fun _ => ?_)
def gueritelaw15_RuleShadows.T13 : Bool × List (List Nat × List Nat) := (true, [([], []), ([0], [0]), ([1], [1]), ([1], [1]), ([2, 3, 1], [1, 2, 3]), ([4, 1], [1, 4]), ([1], [1]), ([1], [1]), ([6, 7, 1], [1, 6, 7]), ([8, 1], [1, 8]), ([5, 9, 1, 1], [1, 5, 9]), ([1, 10], [1, 10]), ([11, 10, 0, 1, 2, 3, 4, 5, 6, 7, 8, 9, 10, 11], [0, 11])])
def gueritelaw15_RuleShadows.B13 : List Nat := [0, 1, 3, 3, 15, 31, 3, 3, 195, 451, 1023, 2047, 4095]
theorem gueritelaw15_RuleShadows.tab13 : rtab .any (opsOf Try.f9 13) = gueritelaw15_RuleShadows.T13 := by kernel_rfl
theorem gueritelaw15_RuleShadows.bits13 : waitsOk gueritelaw15_RuleShadows.T13.2 gueritelaw15_RuleShadows.B13 = true := by kernel_rfl
set_option maxHeartbeats 8000000 in
set_option maxRecDepth 100000 in
theorem gueritelaw15_RuleShadows.calls (k : Nat) (A0 : Option Addr) (c0 : Nat) (l0 : List (S42)) (a1_0 : Int) (a1_1 : Int) (a1_2 : Int) (a1_3 : Int) (a1_4 : Int) (a1_5 : Int) (a1_6 : Int) (r : Bool) (w : World) (hr0 : Kd.C k42 w A0 l0.length l0) (hc0 : l0.length ≤ c0) (h : gueritelaw15_RuleShadows.f k l0 a1_0 a1_1 a1_2 a1_3 a1_4 a1_5 a1_6 = some r) :
    Calls Try.prog 9 #[.slice A0 l0.length c0, .agg #[.int .i64 a1_0, .int .i64 a1_1, .int .u32 a1_2, .int .u32 a1_3, .int .i64 a1_4, .int .i64 a1_5, .int .i64 a1_6]] w fun e w' => e = .returned (.bool r) ∧ Below w.heap.size w w' := by
  have hu46 := Try.underlying46
  have hu42 := Try.underlying42
  have HR0 := Aside0.mk hr0
  have HC0 := Aside0.mk hc0
  clear hr0 hc0
  have HB := Aside0.mk (Below.refl w.heap.size w)
  have H : (if (l0.length : Int) > 40 then ((gueritelaw15_awake.f).bind fun t340 => (some t340)) else ((rule_Shadowed.f l0).bind fun t341 => ((rule_First.f l0 a1_0 a1_1 a1_2 a1_3 a1_4 a1_5 a1_6).bind fun t344 => (gueritelaw15_RuleShadows.l0 k l0 t341 t344 0 0)))) = some r := h
  clear h
  by_cases c3 : (l0.length : Int) > 40
  · rw [if_pos c3] at H
    have c3b0 : decide (40 < (l0.length : Int)) = true := decide_eq_true c3
    have c3b1 : decide (40 < l0.length) = true := decide_eq_true (by omega)
    clear c3
    replace H := Option.bind_eq_some_iff.mp H
    obtain ⟨t340, A40, H⟩ := H
    replace H : (some t340) = some r := H
    have A4 := Aside0.mk A40
    clear A40
    obtain rfl := Option.some.inj H
    go_enter Try.func9, Try.ntmps9
    go_wp2_with (first | ((with_reducible refine gate_dst (N := 3) rfl ?_); refine box_event ?hg (N := 3) ?hd (cs := #[.int .i64 a1_0, .int .i64 a1_1, .int .u32 a1_2, .int .u32 a1_3, .int .i64 a1_4, .int .i64 a1_5, .int .i64 a1_6]) (t := 46) ?hr ?_; (case hd => rfl); (case hg => rfl); (case hr => first | (go_simp; done) | (go_simp; rfl)); intro gb339 hg w5 hbox hb; have n0_ := Aside0.mk (below_step (by repeat (first | (with_reducible first | exact HB.out | apply below_alloc | apply pw_below_drewN | apply below_drew1) | exact HB.out)) hb); have n1_ := Aside0.mk (hbox); have n2_ := Aside0.mk ((by rw [hg]; exact (below_size (by repeat (first | (with_reducible first | exact HB.out | apply below_alloc | apply pw_below_drewN | apply below_drew1) | exact HB.out))) : w.heap.size ≤ gb339)); have n3_ := Aside0.mk ((by rw [hg]; exact (below_size (by repeat (first | (with_reducible first | exact HB.out | apply below_alloc | apply pw_below_drewN | apply below_drew1) | exact HB.out))) : w.heap.size ≤ gb339)); clear HB; have HB := n0_; have BK339 := n1_; have GW339 := n2_; have GE339 := n3_; clear n0_ n1_ n2_ n3_; clear hb hbox hg) | ((with_reducible refine gate_callee (f := 19) rfl ?_); refine goesL_ (some 14) rfl rfl Try.func19 (by kernel_rfl) rfl #[] rfl (by (try simp only [List.map_toArray, List.map_cons, List.map_nil]); first | done | rfl | (simp only [List.length_drop, List.length_take]; rfl)) ?_; (with_reducible refine (gueritelaw15_awake.calls  t340 _ A4.out).mono ?_); rintro e w6 ⟨rfl, hb⟩; refine ⟨_, rfl, ?_⟩; have n0_ := Aside0.mk (blk_below (g := gb339) (o := .cells #[.int .i64 a1_0, .int .i64 a1_1, .int .u32 a1_2, .int .u32 a1_3, .int .i64 a1_4, .int .i64 a1_5, .int .i64 a1_6] 46 (0, 0)) (by (with_reducible repeat (first | refine blk_drewN ?_ _ | refine blk_drew ?_ | refine blk_alloc ?_ _)); exact BK339.out) hb); have n1_ := Aside0.mk (below_step (by repeat (first | (with_reducible first | exact HB.out | apply below_alloc | apply pw_below_drewN | apply below_drew1 | refine below_set ?_ GE339.out) | exact HB.out)) hb); clear BK339; clear HB; have BK339 := n0_; have HB := n1_; clear n0_ n1_; (try clear hb); (try clear hb2); (try clear hk); (try clear hi)))
    go_ret
    exact ⟨by first | rfl | (simp [errW_none, errW_some] <;> rfl) | (simp [*, errW_none, errW_some] <;> rfl), by repeat (first | (with_reducible first | exact HB.out | apply below_alloc | apply pw_below_drewN | apply below_drew1 | refine below_set ?_ GE339.out) | exact HB.out)⟩
  · rw [if_neg c3] at H
    have c3b0 : decide (40 < (l0.length : Int)) = false := decide_eq_false c3
    have c3b1 : decide (40 < l0.length) = false := decide_eq_false (by omega)
    clear c3
    replace H := Option.bind_eq_some_iff.mp H
    obtain ⟨t341, A70, H⟩ := H
    replace H : ((rule_First.f l0 a1_0 a1_1 a1_2 a1_3 a1_4 a1_5 a1_6).bind fun t344 => (gueritelaw15_RuleShadows.l0 k l0 t341 t344 0 0)) = some r := H
    have A7 := Aside0.mk A70
    clear A70
    replace H := Option.bind_eq_some_iff.mp H
    obtain ⟨t344, A80, H⟩ := H
    replace H : (gueritelaw15_RuleShadows.l0 k l0 t341 t344 0 0) = some r := H
    have A8 := Aside0.mk A80
    clear A80
    have H' := Aside0.mk H
    clear H
    go_enter Try.func9, Try.ntmps9
    go_wp2_with (first | ((with_reducible refine gate_dst (N := 3) rfl ?_); refine box_event ?hg (N := 3) ?hd (cs := #[.int .i64 a1_0, .int .i64 a1_1, .int .u32 a1_2, .int .u32 a1_3, .int .i64 a1_4, .int .i64 a1_5, .int .i64 a1_6]) (t := 46) ?hr ?_; (case hd => rfl); (case hg => rfl); (case hr => first | (go_simp; done) | (go_simp; rfl)); intro gb339 hg w9 hbox hb; have n0_ := Aside0.mk (below_step (by repeat (first | (with_reducible first | exact HB.out | apply below_alloc | apply pw_below_drewN | apply below_drew1) | exact HB.out)) hb); have n1_ := Aside0.mk (hbox); have n2_ := Aside0.mk ((by rw [hg]; exact (below_size (by repeat (first | (with_reducible first | exact HB.out | apply below_alloc | apply pw_below_drewN | apply below_drew1) | exact HB.out))) : w.heap.size ≤ gb339)); have n3_ := Aside0.mk ((by rw [hg]; exact (below_size (by repeat (first | (with_reducible first | exact HB.out | apply below_alloc | apply pw_below_drewN | apply below_drew1) | exact HB.out))) : w.heap.size ≤ gb339)); clear HB; have HB := n0_; have BK339 := n1_; have GW339 := n2_; have GE339 := n3_; clear n0_ n1_ n2_ n3_; clear hb hbox hg) | ((with_reducible refine gate_callee (f := 29) rfl ?_); refine goesL_ (some 16) rfl rfl Try.func29 (by kernel_rfl) rfl #[.slice A0 l0.length c0] rfl (by (try simp only [List.map_toArray, List.map_cons, List.map_nil]); first | done | rfl | (simp only [List.length_drop, List.length_take]; rfl)) ?_; (with_reducible refine (rule_Shadowed.calls _ _ l0 t341 _ ?side1 ?side2 A7.out).mono ?_); (case side1 => repeat (first | exact (Kd.C_below HR0.out HB.out) | (with_reducible refine Kd.C_alloc ?_ _) | (with_reducible refine Kd.C_drewN ?_ _) | (with_reducible refine Kd.C_drew ?_))); (case side2 => exact HC0.out); rintro e w10 ⟨v342, rfl, ho0, hb⟩; refine ⟨_, rfl, ?_⟩; have n0_ := Aside0.mk (Kd.R_lower ho0 (below_size (by repeat (first | (with_reducible first | exact HB.out | apply below_alloc | apply pw_below_drewN | apply below_drew1 | refine below_set ?_ GE339.out) | exact HB.out)))); have n1_ := Aside0.mk (blk_below (g := gb339) (o := .cells #[.int .i64 a1_0, .int .i64 a1_1, .int .u32 a1_2, .int .u32 a1_3, .int .i64 a1_4, .int .i64 a1_5, .int .i64 a1_6] 46 (0, 0)) (by (with_reducible repeat (first | refine blk_drewN ?_ _ | refine blk_drew ?_ | refine blk_alloc ?_ _)); exact BK339.out) hb); have n2_ := Aside0.mk (below_step (by repeat (first | (with_reducible first | exact HB.out | apply below_alloc | apply pw_below_drewN | apply below_drew1 | refine below_set ?_ GE339.out) | exact HB.out)) hb); clear BK339; clear HB; have HO343 := n0_; have BK339 := n1_; have HB := n2_; clear n0_ n1_ n2_; (try clear hb); (try clear hb2); (try clear hk); (try clear hi); (try clear ho0); have hcz11_0 : w10.cell? ⟨gb339, 0, none⟩ = some (.int .i64 a1_0) := (blk_cell BK339.out 0).trans rfl; have hcz11_1 : w10.cell? ⟨gb339, 1, none⟩ = some (.int .i64 a1_1) := (blk_cell BK339.out 1).trans rfl; have hcz11_2 : w10.cell? ⟨gb339, 2, none⟩ = some (.int .u32 a1_2) := (blk_cell BK339.out 2).trans rfl; have hcz11_3 : w10.cell? ⟨gb339, 3, none⟩ = some (.int .u32 a1_3) := (blk_cell BK339.out 3).trans rfl; have hcz11_4 : w10.cell? ⟨gb339, 4, none⟩ = some (.int .i64 a1_4) := (blk_cell BK339.out 4).trans rfl; have hcz11_5 : w10.cell? ⟨gb339, 5, none⟩ = some (.int .i64 a1_5) := (blk_cell BK339.out 5).trans rfl; have hcz11_6 : w10.cell? ⟨gb339, 6, none⟩ = some (.int .i64 a1_6) := (blk_cell BK339.out 6).trans rfl; have hfz11_0 := blk_frozen BK339.out 0; have hfz11_1 := blk_frozen BK339.out 1; have hfz11_2 := blk_frozen BK339.out 2; have hfz11_3 := blk_frozen BK339.out 3; have hfz11_4 := blk_frozen BK339.out 4; have hfz11_5 := blk_frozen BK339.out 5; have hfz11_6 := blk_frozen BK339.out 6) | ((with_reducible refine gate_callee (f := 20) rfl ?_); refine goesL_ (some 19) rfl rfl Try.func20 (by kernel_rfl) rfl #[.slice A0 l0.length c0, .agg #[.int .i64 a1_0, .int .i64 a1_1, .int .u32 a1_2, .int .u32 a1_3, .int .i64 a1_4, .int .i64 a1_5, .int .i64 a1_6]] rfl (by (try simp only [List.map_toArray, List.map_cons, List.map_nil]); first | done | rfl | (simp only [List.length_drop, List.length_take]; rfl)) ?_; (with_reducible refine (rule_First.calls _ _ l0 a1_0 a1_1 a1_2 a1_3 a1_4 a1_5 a1_6 t344 _ ?side1 ?side2 A8.out).mono ?_); (case side1 => repeat (first | exact (Kd.C_below HR0.out HB.out) | (with_reducible refine Kd.C_alloc ?_ _) | (with_reducible refine Kd.C_drewN ?_ _) | (with_reducible refine Kd.C_drew ?_))); (case side2 => exact HC0.out); rintro e w12 ⟨rfl, hb⟩; refine ⟨_, rfl, ?_⟩; have n0_ := Aside0.mk (Kd.R_below (by (with_reducible repeat (first | apply Kd.R_alloc | apply Kd.R_drewN | apply Kd.R_drew)); exact HO343.out) hb); have n1_ := Aside0.mk (blk_below (g := gb339) (o := .cells #[.int .i64 a1_0, .int .i64 a1_1, .int .u32 a1_2, .int .u32 a1_3, .int .i64 a1_4, .int .i64 a1_5, .int .i64 a1_6] 46 (0, 0)) (by (with_reducible repeat (first | refine blk_drewN ?_ _ | refine blk_drew ?_ | refine blk_alloc ?_ _)); exact BK339.out) hb); have n2_ := Aside0.mk (below_step (by repeat (first | (with_reducible first | exact HB.out | apply below_alloc | apply pw_below_drewN | apply below_drew1 | refine below_set ?_ GE339.out) | exact HB.out)) hb); clear HO343; clear BK339; clear HB; have HO343 := n0_; have BK339 := n1_; have HB := n2_; clear n0_ n1_ n2_; (try clear hb); (try clear hb2); (try clear hk); (try clear hi)))
    go_loopg [7, 8] k (fun kq v7 v8 w' => ∃ (x7_1 : Int) (x8_1 : Int), v7 = .int .i64 x7_1 ∧ v8 = .int .i64 x8_1 ∧ Aside0 (gueritelaw15_RuleShadows.l0 kq l0 t341 t344 x7_1 x8_1 = some r) ∧ Aside0 (kq ≤ k) ∧ Aside0 (Kd.R (Kd.int .i64) 3 w' w.heap.size (fun _ => True) v342 t341) ∧ Aside0 (w'.heap[gb339]? = some (.cells #[.int .i64 a1_0, .int .i64 a1_1, .int .u32 a1_2, .int .u32 a1_3, .int .i64 a1_4, .int .i64 a1_5, .int .i64 a1_6] 46 (0, 0))) ∧ Aside0 (Below w.heap.size w w'))
    case atStart => exact ⟨(0), (0), (by first | rfl | (simp; done) | (simp [*]; done)), (by first | rfl | (simp; done) | (simp [*]; done)), H', ⟨Nat.le_refl _⟩, ⟨by (with_reducible repeat (first | apply Kd.R_alloc | apply Kd.R_drewN | apply Kd.R_drew)); exact HO343.out⟩, ⟨by (with_reducible repeat (first | refine blk_drewN ?_ _ | refine blk_drew ?_ | refine blk_alloc ?_ _)); exact BK339.out⟩, ⟨by repeat (first | (with_reducible first | exact HB.out | apply below_alloc | apply pw_below_drewN | apply below_drew1 | refine below_set ?_ GE339.out) | exact HB.out)⟩⟩
    case round =>
      clear H'
      try clear c1
      try clear c2
      try clear p2
      try clear c3
      try clear c3b0
      try clear c3b1
      try clear c9
      try clear hcz11_0
      try clear hcz11_1
      try clear hcz11_2
      try clear hcz11_3
      try clear hcz11_4
      try clear hcz11_5
      try clear hcz11_6
      try clear hfz11_0
      try clear hfz11_1
      try clear hfz11_2
      try clear hfz11_3
      try clear hfz11_4
      try clear hfz11_5
      try clear hfz11_6
      obtain ⟨x7_1, x8_1, rfl, rfl, HA, HK1, HO_5, BK339, HB⟩ := hrel
      cases gk with
      | zero => exact absurd HA.out (by simp [gueritelaw15_RuleShadows.l0])
      | succ k1 =>
        have H := HA.out
        clear HA
        simp only [gueritelaw15_RuleShadows.l0] at H
        by_cases c13 : x8_1 < (l0.length : Int)
        · rw [if_pos c13] at H
          have c13b0 : decide (x8_1 < (l0.length : Int)) = true := decide_eq_true c13
          clear c13
          have H' := Aside0.mk H
          clear H
          go_wp2
          go_loopg [9, 10] k1 (fun kq v9 v10 w' => ∃ (x9_2 : Bool) (x10_2 : Int), v9 = .bool x9_2 ∧ v10 = .int .i64 x10_2 ∧ Aside0 (gueritelaw15_RuleShadows.l1 kq l0 t341 t344 x7_1 x8_1 x9_2 x10_2 = some r) ∧ Aside0 (kq ≤ k1) ∧ Aside0 (Kd.R (Kd.int .i64) 3 w' w.heap.size (fun _ => True) v342 t341) ∧ Aside0 (w'.heap[gb339]? = some (.cells #[.int .i64 a1_0, .int .i64 a1_1, .int .u32 a1_2, .int .u32 a1_3, .int .i64 a1_4, .int .i64 a1_5, .int .i64 a1_6] 46 (0, 0))) ∧ Aside0 (Below w.heap.size w w'))
          case atStart => exact ⟨(false), (0), (by first | rfl | (simp; done) | (simp [*]; done)), (by first | rfl | (simp; done) | (simp [*]; done)), H', ⟨Nat.le_refl _⟩, ⟨by (with_reducible repeat (first | apply Kd.R_alloc | apply Kd.R_drewN | apply Kd.R_drew)); exact HO_5.out⟩, ⟨by (with_reducible repeat (first | refine blk_drewN ?_ _ | refine blk_drew ?_ | refine blk_alloc ?_ _)); exact BK339.out⟩, ⟨by repeat (first | (with_reducible first | exact HB.out | apply below_alloc | apply pw_below_drewN | apply below_drew1 | refine below_set ?_ GE339.out) | exact HB.out)⟩⟩
          case round =>
            clear H'
            try clear c1
            try clear c2
            try clear p2
            try clear c3
            try clear c3b0
            try clear c3b1
            try clear c9
            try clear c13
            try clear c13b0
            try clear hcz11_0
            try clear hcz11_1
            try clear hcz11_2
            try clear hcz11_3
            try clear hcz11_4
            try clear hcz11_5
            try clear hcz11_6
            try clear hfz11_0
            try clear hfz11_1
            try clear hfz11_2
            try clear hfz11_3
            try clear hfz11_4
            try clear hfz11_5
            try clear hfz11_6
            try clear p2
            obtain ⟨x9_2, x10_2, rfl, rfl, HA, HK2, HO_5, BK339, HB⟩ := hrel
            cases gk with
            | zero => exact absurd HA.out (by simp [gueritelaw15_RuleShadows.l1])
            | succ k2 =>
              have H := HA.out
              clear HA
              simp only [gueritelaw15_RuleShadows.l1] at H
              by_cases c14 : x10_2 < x8_1
              · rw [if_pos c14] at H
                have c14b0 : decide (x10_2 < x8_1) = true := decide_eq_true c14
                clear c14
                by_cases c15 : x9_2 = true
                · subst c15
                  have H1 : (gueritelaw15_RuleShadows.l1 k2 l0 t341 t344 x7_1 x8_1 true (wrap64 (x10_2 + 1))) = some r := by rw [if_pos rfl] at H; exact H
                  clear H
                  have H := H1
                  clear H1
                  have H' := Aside0.mk H
                  clear H
                  try go_wp2
                  have n0_ := Aside0.mk (Kd.R_drew HO_5.out)
                  have n1_ := Aside0.mk (blk_drew BK339.out)
                  have n2_ := Aside0.mk (below_drew1 HB.out)
                  clear HO_5
                  clear BK339
                  clear HB
                  have HO_5 := n0_
                  have BK339 := n1_
                  have HB := n2_
                  clear n0_ n1_ n2_
                  refine start_ (n := 13) (S := fun w' => True) (ds := []) #[false, false, false, false, false, false, false, false, false, false, false, false, false] (by kernel_rfl) rfl rfl trivial (fun hHeld => ?_); refine with_tabW gueritelaw15_RuleShadows.tab13 gueritelaw15_RuleShadows.bits13 (fun HT_ HW_ => ?_)
                  generalize wr.drew = w16 at HO_5 BK339 HB hHeld ⊢
                  refine pure_ (i := 0) (N := some 31) (v := ?_) (a' := ?_) #[true, false, false, false, false, false, false, false, false, false, false, false, false] rfl rfl (any_of HT_.out (by kernel_rfl)) (fun _ _ _ h => h) (Or.inl ⟨by rfl, ?_⟩) ?_ ?_
                  rotate_left
                  · intro w'
                    go_simp
                    with_reducible rfl
                  rotate_left
                  · simp only [Act.put, List.setIfInBounds_toArray, List.set_cons_zero, List.set_cons_succ, i64_w, i32_w]
                    rfl
                  refine pure_ (i := 1) (N := some 32) (v := ?_) (a' := ?_) #[true, true, false, false, false, false, false, false, false, false, false, false, false] rfl rfl (any_of HT_.out (by kernel_rfl)) (fun _ _ _ h => h) (Or.inl ⟨by rfl, ?_⟩) ?_ ?_
                  rotate_left
                  · intro w'
                    go_simp
                    with_reducible rfl
                  rotate_left
                  · simp only [Act.put, List.setIfInBounds_toArray, List.set_cons_zero, List.set_cons_succ, i64_w, i32_w]
                    rfl
                  refine pure_ (i := 2) (N := some 33) (v := undef) (a' := ?_) #[true, true, true, false, false, false, false, false, false, false, false, false, false] rfl rfl (any_of HT_.out (by kernel_rfl)) (fun _ _ _ h => h) (Or.inr ⟨by rfl, rfl⟩) ?_ ?_
                  rotate_left
                  · simp only [Act.put, List.setIfInBounds_toArray, List.set_cons_zero, List.set_cons_succ, i64_w, i32_w]
                    rfl
                  refine pure_ (i := 3) (N := some 34) (v := undef) (a' := ?_) #[true, true, true, true, false, false, false, false, false, false, false, false, false] rfl rfl (any_of HT_.out (by kernel_rfl)) (fun _ _ _ h => h) (Or.inr ⟨by rfl, rfl⟩) ?_ ?_
                  rotate_left
                  · simp only [Act.put, List.setIfInBounds_toArray, List.set_cons_zero, List.set_cons_succ, i64_w, i32_w]
                    rfl
                  refine pure_ (i := 4) (N := some 35) (v := undef) (a' := ?_) #[true, true, true, true, true, false, false, false, false, false, false, false, false] rfl rfl (any_of HT_.out (by kernel_rfl)) (fun _ _ _ h => h) (Or.inr ⟨by rfl, rfl⟩) ?_ ?_
                  rotate_left
                  · simp only [Act.put, List.setIfInBounds_toArray, List.set_cons_zero, List.set_cons_succ, i64_w, i32_w]
                    rfl
                  refine pure_ (i := 5) (N := some 36) (v := undef) (a' := ?_) #[true, true, true, true, true, true, false, false, false, false, false, false, false] rfl rfl (any_of HT_.out (by kernel_rfl)) (fun _ _ _ h => h) (Or.inr ⟨by rfl, rfl⟩) ?_ ?_
                  rotate_left
                  · simp only [Act.put, List.setIfInBounds_toArray, List.set_cons_zero, List.set_cons_succ, i64_w, i32_w]
                    rfl
                  refine pure_ (i := 6) (N := some 37) (v := undef) (a' := ?_) #[true, true, true, true, true, true, true, false, false, false, false, false, false] rfl rfl (any_of HT_.out (by kernel_rfl)) (fun _ _ _ h => h) (Or.inr ⟨by rfl, rfl⟩) ?_ ?_
                  rotate_left
                  · simp only [Act.put, List.setIfInBounds_toArray, List.set_cons_zero, List.set_cons_succ, i64_w, i32_w]
                    rfl
                  refine pure_ (i := 7) (N := some 38) (v := undef) (a' := ?_) #[true, true, true, true, true, true, true, true, false, false, false, false, false] rfl rfl (any_of HT_.out (by kernel_rfl)) (fun _ _ _ h => h) (Or.inr ⟨by rfl, rfl⟩) ?_ ?_
                  rotate_left
                  · simp only [Act.put, List.setIfInBounds_toArray, List.set_cons_zero, List.set_cons_succ, i64_w, i32_w]
                    rfl
                  refine pure_ (i := 8) (N := some 39) (v := undef) (a' := ?_) #[true, true, true, true, true, true, true, true, true, false, false, false, false] rfl rfl (any_of HT_.out (by kernel_rfl)) (fun _ _ _ h => h) (Or.inr ⟨by rfl, rfl⟩) ?_ ?_
                  rotate_left
                  · simp only [Act.put, List.setIfInBounds_toArray, List.set_cons_zero, List.set_cons_succ, i64_w, i32_w]
                    rfl
                  refine pure_ (i := 9) (N := some 40) (v := undef) (a' := ?_) #[true, true, true, true, true, true, true, true, true, true, false, false, false] rfl rfl (any_of HT_.out (by kernel_rfl)) (fun _ _ _ h => h) (Or.inr ⟨by rfl, rfl⟩) ?_ ?_
                  rotate_left
                  · simp only [Act.put, List.setIfInBounds_toArray, List.set_cons_zero, List.set_cons_succ, i64_w, i32_w]
                    rfl
                  refine pure_ (i := 10) (N := some 41) (v := undef) (a' := ?_) #[true, true, true, true, true, true, true, true, true, true, true, false, false] rfl rfl (any_of HT_.out (by kernel_rfl)) (fun _ _ _ h => h) (Or.inr ⟨by rfl, rfl⟩) ?_ ?_
                  rotate_left
                  · simp only [Act.put, List.setIfInBounds_toArray, List.set_cons_zero, List.set_cons_succ, i64_w, i32_w]
                    rfl
                  refine pure_ (i := 11) (N := some 42) (v := ?_) (a' := ?_) #[true, true, true, true, true, true, true, true, true, true, true, true, false] rfl rfl (any_of HT_.out (by kernel_rfl)) (fun _ _ _ h => h) (Or.inl ⟨by rfl, ?_⟩) ?_ ?_
                  rotate_left
                  · intro w'
                    go_simp
                    with_reducible rfl
                  rotate_left
                  · simp only [Act.put, List.setIfInBounds_toArray, List.set_cons_zero, List.set_cons_succ, i64_w, i32_w]
                    rfl
                  refine pure_ (i := 12) (N := some 9) (v := ?_) (a' := ?_) #[true, true, true, true, true, true, true, true, true, true, true, true, true] rfl rfl (any_of HT_.out (by kernel_rfl)) (fun _ _ _ h => h) (Or.inl ⟨by rfl, ?_⟩) ?_ ?_
                  rotate_left
                  · intro w'
                    go_simp
                    with_reducible rfl
                  rotate_left
                  · simp only [Act.put, List.setIfInBounds_toArray, List.set_cons_zero, List.set_cons_succ, i64_w, i32_w]
                    rfl
                  refine done_ (done_of HT_.out (by kernel_rfl)) ?_
                  try go_wp2
                  go_roundg k2
                  case measure => have := HK1.out; have := HK2.out; omega
                  case rel => exact ⟨(true), (wrap64 (x10_2 + 1)), (by first | rfl | (simp; done) | (simp [*]; done)), (by first | rfl | (simp; done) | (simp [*]; done)), H', ⟨by have := HK1.out; have := HK2.out; omega⟩, ⟨by (with_reducible repeat (first | apply Kd.R_alloc | apply Kd.R_drewN | apply Kd.R_drew)); exact HO_5.out⟩, ⟨by (with_reducible repeat (first | refine blk_drewN ?_ _ | refine blk_drew ?_ | refine blk_alloc ?_ _)); exact BK339.out⟩, ⟨by repeat (first | (with_reducible first | exact HB.out | apply below_alloc | apply pw_below_drewN | apply below_drew1 | refine below_set ?_ GE339.out) | exact HB.out)⟩⟩
                · replace c15 := Bool.eq_false_iff.mpr c15
                  subst c15
                  have H1 : (if 0 ≤ x10_2 then (if x10_2 < (l0.length : Int) then (if 0 ≤ x8_1 then (if x8_1 < (l0.length : Int) then ((gueriteref15_Covers.f k2 ((rd_T42 l0 x10_2).f0) ((rd_T42 l0 x10_2).f1) ((rd_T42 l0 x10_2).f2.f0) ((rd_T42 l0 x10_2).f2.f1) ((rd_T42 l0 x10_2).f3.f0) ((rd_T42 l0 x10_2).f3.f1) ((rd_T42 l0 x10_2).f4) ((rd_T42 l0 x10_2).f5) ((rd_T42 l0 x10_2).f6) ((rd_T42 l0 x10_2).f7) ((rd_T42 l0 x10_2).f8) ((rd_T42 l0 x10_2).f9) ((rd_T42 l0 x8_1).f0) ((rd_T42 l0 x8_1).f1) ((rd_T42 l0 x8_1).f2.f0) ((rd_T42 l0 x8_1).f2.f1) ((rd_T42 l0 x8_1).f3.f0) ((rd_T42 l0 x8_1).f3.f1) ((rd_T42 l0 x8_1).f4) ((rd_T42 l0 x8_1).f5) ((rd_T42 l0 x8_1).f6) ((rd_T42 l0 x8_1).f7) ((rd_T42 l0 x8_1).f8) ((rd_T42 l0 x8_1).f9)).bind fun t347 => (gueritelaw15_RuleShadows.l1 k2 l0 t341 t344 x7_1 x8_1 t347 (wrap64 (x10_2 + 1)))) else (none)) else (none)) else (none)) else (none)) = some r := by rw [if_neg (show ¬ (false = true) by decide)] at H; exact H
                  clear H
                  have H := H1
                  clear H1
                  by_cases c17 : 0 ≤ x10_2
                  · rw [if_pos c17] at H
                    have c17b0 : decide (0 ≤ x10_2) = true := decide_eq_true c17
                    clear c17
                    by_cases c18 : x10_2 < (l0.length : Int)
                    · rw [if_pos c18] at H
                      have c18b0 : decide (x10_2 < (l0.length : Int)) = true := decide_eq_true c18
                      clear c18
                      by_cases c19 : 0 ≤ x8_1
                      · rw [if_pos c19] at H
                        have c19b0 : decide (0 ≤ x8_1) = true := decide_eq_true c19
                        clear c19
                        by_cases c20 : x8_1 < (l0.length : Int)
                        · rw [if_pos c20] at H
                          have c20b0 : decide (x8_1 < (l0.length : Int)) = true := decide_eq_true c20
                          clear c20
                          replace H := Option.bind_eq_some_iff.mp H
                          obtain ⟨t347, A210, H⟩ := H
                          replace H : (gueritelaw15_RuleShadows.l1 k2 l0 t341 t344 x7_1 x8_1 t347 (wrap64 (x10_2 + 1))) = some r := H
                          have A21 := Aside0.mk A210
                          clear A210
                          have H' := Aside0.mk H
                          clear H
                          try go_wp2
                          have n0_ := Aside0.mk (Kd.R_drew HO_5.out)
                          have n1_ := Aside0.mk (blk_drew BK339.out)
                          have n2_ := Aside0.mk (below_drew1 HB.out)
                          clear HO_5
                          clear BK339
                          clear HB
                          have HO_5 := n0_
                          have BK339 := n1_
                          have HB := n2_
                          clear n0_ n1_ n2_
                          have p345 : 0 ≤ (x10_2 : Int) := of_decide_eq_true (by first | (with_reducible assumption) | assumption)
                          have q345 : x10_2 < (l0.length : Int) := of_decide_eq_true (by first | (with_reducible assumption) | assumption)
                          obtain ⟨ad345, e345, hx345_0, hx345_1, hx345_2, hx345_3, hx345_4, hx345_5, hx345_6, hx345_7, hx345_8, hx345_9, hx345_10, hx345_11⟩ := at_T42 HR0.out x10_2 p345 q345
                          have hw345_11 := hx345_11
                          have hw345_10 := hx345_10
                          have hw345_9 := hx345_9
                          have hw345_8 := hx345_8
                          have hw345_7 := hx345_7
                          have hw345_6 := hx345_6
                          have hw345_5 := hx345_5
                          have hw345_4 := hx345_4
                          have hw345_3 := hx345_3
                          have hw345_2 := hx345_2
                          have hw345_1 := hx345_1
                          have hw345_0 := hx345_0
                          cases e345
                          replace hx345_0 := (HB.out.cell (World.block_lt_of_cell? w _ hx345_0)).trans hx345_0
                          replace hx345_1 := (HB.out.cell (World.block_lt_of_cell? w _ hx345_1)).trans hx345_1
                          replace hx345_2 := (HB.out.cell (World.block_lt_of_cell? w _ hx345_2)).trans hx345_2
                          replace hx345_3 := (HB.out.cell (World.block_lt_of_cell? w _ hx345_3)).trans hx345_3
                          replace hx345_4 := (HB.out.cell (World.block_lt_of_cell? w _ hx345_4)).trans hx345_4
                          replace hx345_5 := (HB.out.cell (World.block_lt_of_cell? w _ hx345_5)).trans hx345_5
                          replace hx345_6 := (HB.out.cell (World.block_lt_of_cell? w _ hx345_6)).trans hx345_6
                          replace hx345_7 := (HB.out.cell (World.block_lt_of_cell? w _ hx345_7)).trans hx345_7
                          replace hx345_8 := (HB.out.cell (World.block_lt_of_cell? w _ hx345_8)).trans hx345_8
                          replace hx345_9 := (HB.out.cell (World.block_lt_of_cell? w _ hx345_9)).trans hx345_9
                          replace hx345_10 := (HB.out.cell (World.block_lt_of_cell? w _ hx345_10)).trans hx345_10
                          replace hx345_11 := (HB.out.cell (World.block_lt_of_cell? w _ hx345_11)).trans hx345_11
                          replace p345 := eq_true p345
                          replace q345 := eq_true q345
                          have p346 : 0 ≤ (x8_1 : Int) := of_decide_eq_true (by first | (with_reducible assumption) | assumption)
                          have q346 : x8_1 < (l0.length : Int) := of_decide_eq_true (by first | (with_reducible assumption) | assumption)
                          obtain ⟨ad346, e346, hx346_0, hx346_1, hx346_2, hx346_3, hx346_4, hx346_5, hx346_6, hx346_7, hx346_8, hx346_9, hx346_10, hx346_11⟩ := at_T42 HR0.out x8_1 p346 q346
                          have hw346_11 := hx346_11
                          have hw346_10 := hx346_10
                          have hw346_9 := hx346_9
                          have hw346_8 := hx346_8
                          have hw346_7 := hx346_7
                          have hw346_6 := hx346_6
                          have hw346_5 := hx346_5
                          have hw346_4 := hx346_4
                          have hw346_3 := hx346_3
                          have hw346_2 := hx346_2
                          have hw346_1 := hx346_1
                          have hw346_0 := hx346_0
                          obtain rfl : ad345 = ad346 := (by injection e346)
                          replace hx346_0 := (HB.out.cell (World.block_lt_of_cell? w _ hx346_0)).trans hx346_0
                          replace hx346_1 := (HB.out.cell (World.block_lt_of_cell? w _ hx346_1)).trans hx346_1
                          replace hx346_2 := (HB.out.cell (World.block_lt_of_cell? w _ hx346_2)).trans hx346_2
                          replace hx346_3 := (HB.out.cell (World.block_lt_of_cell? w _ hx346_3)).trans hx346_3
                          replace hx346_4 := (HB.out.cell (World.block_lt_of_cell? w _ hx346_4)).trans hx346_4
                          replace hx346_5 := (HB.out.cell (World.block_lt_of_cell? w _ hx346_5)).trans hx346_5
                          replace hx346_6 := (HB.out.cell (World.block_lt_of_cell? w _ hx346_6)).trans hx346_6
                          replace hx346_7 := (HB.out.cell (World.block_lt_of_cell? w _ hx346_7)).trans hx346_7
                          replace hx346_8 := (HB.out.cell (World.block_lt_of_cell? w _ hx346_8)).trans hx346_8
                          replace hx346_9 := (HB.out.cell (World.block_lt_of_cell? w _ hx346_9)).trans hx346_9
                          replace hx346_10 := (HB.out.cell (World.block_lt_of_cell? w _ hx346_10)).trans hx346_10
                          replace hx346_11 := (HB.out.cell (World.block_lt_of_cell? w _ hx346_11)).trans hx346_11
                          replace p346 := eq_true p346
                          replace q346 := eq_true q346
                          refine start_ (n := 13) (S := fun w' => w'.cell? (ad345.add ((x10_2).toNat * 12)) = some (.int .i64 ((rd_T42 l0 x10_2).f0)) ∧ w'.cell? ⟨(ad345.add ((x10_2).toNat * 12)).block, (ad345.add ((x10_2).toNat * 12)).off + 1, none⟩ = some (.int .i64 ((rd_T42 l0 x10_2).f1)) ∧ w'.cell? ⟨(ad345.add ((x10_2).toNat * 12)).block, (ad345.add ((x10_2).toNat * 12)).off + 2, none⟩ = some (.int .u32 ((rd_T42 l0 x10_2).f2.f0)) ∧ w'.cell? ⟨(ad345.add ((x10_2).toNat * 12)).block, (ad345.add ((x10_2).toNat * 12)).off + 3, none⟩ = some (.int .i64 ((rd_T42 l0 x10_2).f2.f1)) ∧ w'.cell? ⟨(ad345.add ((x10_2).toNat * 12)).block, (ad345.add ((x10_2).toNat * 12)).off + 4, none⟩ = some (.int .u32 ((rd_T42 l0 x10_2).f3.f0)) ∧ w'.cell? ⟨(ad345.add ((x10_2).toNat * 12)).block, (ad345.add ((x10_2).toNat * 12)).off + 5, none⟩ = some (.int .i64 ((rd_T42 l0 x10_2).f3.f1)) ∧ w'.cell? ⟨(ad345.add ((x10_2).toNat * 12)).block, (ad345.add ((x10_2).toNat * 12)).off + 6, none⟩ = some (.int .i64 ((rd_T42 l0 x10_2).f4)) ∧ w'.cell? ⟨(ad345.add ((x10_2).toNat * 12)).block, (ad345.add ((x10_2).toNat * 12)).off + 7, none⟩ = some (.int .i64 ((rd_T42 l0 x10_2).f5)) ∧ w'.cell? ⟨(ad345.add ((x10_2).toNat * 12)).block, (ad345.add ((x10_2).toNat * 12)).off + 8, none⟩ = some (.int .i64 ((rd_T42 l0 x10_2).f6)) ∧ w'.cell? ⟨(ad345.add ((x10_2).toNat * 12)).block, (ad345.add ((x10_2).toNat * 12)).off + 9, none⟩ = some (.int .i64 ((rd_T42 l0 x10_2).f7)) ∧ w'.cell? ⟨(ad345.add ((x10_2).toNat * 12)).block, (ad345.add ((x10_2).toNat * 12)).off + 10, none⟩ = some (.int .i64 ((rd_T42 l0 x10_2).f8)) ∧ w'.cell? ⟨(ad345.add ((x10_2).toNat * 12)).block, (ad345.add ((x10_2).toNat * 12)).off + 11, none⟩ = some (.bool ((rd_T42 l0 x10_2).f9)) ∧ w'.cell? (ad345.add ((x8_1).toNat * 12)) = some (.int .i64 ((rd_T42 l0 x8_1).f0)) ∧ w'.cell? ⟨(ad345.add ((x8_1).toNat * 12)).block, (ad345.add ((x8_1).toNat * 12)).off + 1, none⟩ = some (.int .i64 ((rd_T42 l0 x8_1).f1)) ∧ w'.cell? ⟨(ad345.add ((x8_1).toNat * 12)).block, (ad345.add ((x8_1).toNat * 12)).off + 2, none⟩ = some (.int .u32 ((rd_T42 l0 x8_1).f2.f0)) ∧ w'.cell? ⟨(ad345.add ((x8_1).toNat * 12)).block, (ad345.add ((x8_1).toNat * 12)).off + 3, none⟩ = some (.int .i64 ((rd_T42 l0 x8_1).f2.f1)) ∧ w'.cell? ⟨(ad345.add ((x8_1).toNat * 12)).block, (ad345.add ((x8_1).toNat * 12)).off + 4, none⟩ = some (.int .u32 ((rd_T42 l0 x8_1).f3.f0)) ∧ w'.cell? ⟨(ad345.add ((x8_1).toNat * 12)).block, (ad345.add ((x8_1).toNat * 12)).off + 5, none⟩ = some (.int .i64 ((rd_T42 l0 x8_1).f3.f1)) ∧ w'.cell? ⟨(ad345.add ((x8_1).toNat * 12)).block, (ad345.add ((x8_1).toNat * 12)).off + 6, none⟩ = some (.int .i64 ((rd_T42 l0 x8_1).f4)) ∧ w'.cell? ⟨(ad345.add ((x8_1).toNat * 12)).block, (ad345.add ((x8_1).toNat * 12)).off + 7, none⟩ = some (.int .i64 ((rd_T42 l0 x8_1).f5)) ∧ w'.cell? ⟨(ad345.add ((x8_1).toNat * 12)).block, (ad345.add ((x8_1).toNat * 12)).off + 8, none⟩ = some (.int .i64 ((rd_T42 l0 x8_1).f6)) ∧ w'.cell? ⟨(ad345.add ((x8_1).toNat * 12)).block, (ad345.add ((x8_1).toNat * 12)).off + 9, none⟩ = some (.int .i64 ((rd_T42 l0 x8_1).f7)) ∧ w'.cell? ⟨(ad345.add ((x8_1).toNat * 12)).block, (ad345.add ((x8_1).toNat * 12)).off + 10, none⟩ = some (.int .i64 ((rd_T42 l0 x8_1).f8)) ∧ w'.cell? ⟨(ad345.add ((x8_1).toNat * 12)).block, (ad345.add ((x8_1).toNat * 12)).off + 11, none⟩ = some (.bool ((rd_T42 l0 x8_1).f9))) (ds := []) #[false, false, false, false, false, false, false, false, false, false, false, false, false] (by kernel_rfl) rfl rfl ⟨((HB.out.cell (World.block_lt_of_cell? w _ hw345_0)).trans hw345_0), ((HB.out.cell (World.block_lt_of_cell? w _ hw345_1)).trans hw345_1), ((HB.out.cell (World.block_lt_of_cell? w _ hw345_2)).trans hw345_2), ((HB.out.cell (World.block_lt_of_cell? w _ hw345_3)).trans hw345_3), ((HB.out.cell (World.block_lt_of_cell? w _ hw345_4)).trans hw345_4), ((HB.out.cell (World.block_lt_of_cell? w _ hw345_5)).trans hw345_5), ((HB.out.cell (World.block_lt_of_cell? w _ hw345_6)).trans hw345_6), ((HB.out.cell (World.block_lt_of_cell? w _ hw345_7)).trans hw345_7), ((HB.out.cell (World.block_lt_of_cell? w _ hw345_8)).trans hw345_8), ((HB.out.cell (World.block_lt_of_cell? w _ hw345_9)).trans hw345_9), ((HB.out.cell (World.block_lt_of_cell? w _ hw345_10)).trans hw345_10), ((HB.out.cell (World.block_lt_of_cell? w _ hw345_11)).trans hw345_11), ((HB.out.cell (World.block_lt_of_cell? w _ hw346_0)).trans hw346_0), ((HB.out.cell (World.block_lt_of_cell? w _ hw346_1)).trans hw346_1), ((HB.out.cell (World.block_lt_of_cell? w _ hw346_2)).trans hw346_2), ((HB.out.cell (World.block_lt_of_cell? w _ hw346_3)).trans hw346_3), ((HB.out.cell (World.block_lt_of_cell? w _ hw346_4)).trans hw346_4), ((HB.out.cell (World.block_lt_of_cell? w _ hw346_5)).trans hw346_5), ((HB.out.cell (World.block_lt_of_cell? w _ hw346_6)).trans hw346_6), ((HB.out.cell (World.block_lt_of_cell? w _ hw346_7)).trans hw346_7), ((HB.out.cell (World.block_lt_of_cell? w _ hw346_8)).trans hw346_8), ((HB.out.cell (World.block_lt_of_cell? w _ hw346_9)).trans hw346_9), ((HB.out.cell (World.block_lt_of_cell? w _ hw346_10)).trans hw346_10), ((HB.out.cell (World.block_lt_of_cell? w _ hw346_11)).trans hw346_11)⟩ (fun hHeld => ?_); refine with_tabW gueritelaw15_RuleShadows.tab13 gueritelaw15_RuleShadows.bits13 (fun HT_ HW_ => ?_)
                          generalize wr.drew = w22 at HO_5 BK339 HB hx345_0 hx345_1 hx345_10 hx345_11 hx345_2 hx345_3 hx345_4 hx345_5 hx345_6 hx345_7 hx345_8 hx345_9 hx346_0 hx346_1 hx346_10 hx346_11 hx346_2 hx346_3 hx346_4 hx346_5 hx346_6 hx346_7 hx346_8 hx346_9 hHeld ⊢
                          refine pure_ (i := 0) (N := some 31) (v := ?_) (a' := ?_) #[true, false, false, false, false, false, false, false, false, false, false, false, false] rfl rfl (any_of HT_.out (by kernel_rfl)) (fun _ _ _ h => h) (Or.inl ⟨by rfl, ?_⟩) ?_ ?_
                          rotate_left
                          · intro w'
                            go_simp
                            with_reducible rfl
                          rotate_left
                          · simp only [Act.put, List.setIfInBounds_toArray, List.set_cons_zero, List.set_cons_succ, i64_w, i32_w]
                            rfl
                          refine pure_ (i := 1) (N := some 32) (v := ?_) (a' := ?_) #[true, true, false, false, false, false, false, false, false, false, false, false, false] rfl rfl (any_of HT_.out (by kernel_rfl)) (fun _ _ _ h => h) (Or.inl ⟨by rfl, ?_⟩) ?_ ?_
                          rotate_left
                          · intro w'
                            go_simp
                            with_reducible rfl
                          rotate_left
                          · simp only [Act.put, List.setIfInBounds_toArray, List.set_cons_zero, List.set_cons_succ, i64_w, i32_w]
                            rfl
                          refine pure_ (i := 2) (N := some 33) (v := ?_) (a' := ?_) #[true, true, true, false, false, false, false, false, false, false, false, false, false] rfl rfl (any_of HT_.out (by kernel_rfl)) (fun _ _ _ h => h) (Or.inl ⟨by rfl, ?_⟩) ?_ ?_
                          rotate_left
                          · intro w'
                            go_simp
                            with_reducible rfl
                          rotate_left
                          · simp only [Act.put, List.setIfInBounds_toArray, List.set_cons_zero, List.set_cons_succ, i64_w, i32_w]
                            rfl
                          refine pure_ (i := 3) (N := some 34) (v := ?_) (a' := ?_) #[true, true, true, true, false, false, false, false, false, false, false, false, false] rfl rfl (any_of HT_.out (by kernel_rfl)) (fun _ _ _ h => h) (Or.inl ⟨by rfl, ?_⟩) ?_ ?_
                          rotate_left
                          · intro w'
                            go_simp
                            with_reducible rfl
                          rotate_left
                          · simp only [Act.put, List.setIfInBounds_toArray, List.set_cons_zero, List.set_cons_succ, i64_w, i32_w]
                            rfl
                          refine pure_ (i := 4) (N := some 35) (v := ?_) (a' := ?_) #[true, true, true, true, true, false, false, false, false, false, false, false, false] rfl rfl (any_of HT_.out (by kernel_rfl)) (fun _ _ _ h => h) (Or.inl ⟨by rfl, ?_⟩) ?_ ?_
                          rotate_left
                          · intro w'
                            go_simp
                            with_reducible rfl
                          rotate_left
                          · simp only [Act.put, List.setIfInBounds_toArray, List.set_cons_zero, List.set_cons_succ, i64_w, i32_w]
                            rfl
                          refine pure_ (i := 6) (N := some 37) (v := ?_) (a' := ?_) #[true, true, true, true, true, false, true, false, false, false, false, false, false] rfl rfl (any_of HT_.out (by kernel_rfl)) (fun _ _ _ h => h) (Or.inl ⟨by rfl, ?_⟩) ?_ ?_
                          rotate_left
                          · intro w'
                            go_simp
                            with_reducible rfl
                          rotate_left
                          · simp only [Act.put, List.setIfInBounds_toArray, List.set_cons_zero, List.set_cons_succ, i64_w, i32_w]
                            rfl
                          refine pure_ (i := 7) (N := some 38) (v := ?_) (a' := ?_) #[true, true, true, true, true, false, true, true, false, false, false, false, false] rfl rfl (any_of HT_.out (by kernel_rfl)) (fun _ _ _ h => h) (Or.inl ⟨by rfl, ?_⟩) ?_ ?_
                          rotate_left
                          · intro w'
                            go_simp
                            with_reducible rfl
                          rotate_left
                          · simp only [Act.put, List.setIfInBounds_toArray, List.set_cons_zero, List.set_cons_succ, i64_w, i32_w]
                            rfl
                          refine pure_ (i := 8) (N := some 39) (v := ?_) (a' := ?_) #[true, true, true, true, true, false, true, true, true, false, false, false, false] rfl rfl (any_of HT_.out (by kernel_rfl)) (fun _ _ _ h => h) (Or.inl ⟨by rfl, ?_⟩) ?_ ?_
                          rotate_left
                          · intro w'
                            go_simp
                            with_reducible rfl
                          rotate_left
                          · simp only [Act.put, List.setIfInBounds_toArray, List.set_cons_zero, List.set_cons_succ, i64_w, i32_w]
                            rfl
                          refine take_ (i := 5) (N := some 36) (v := ?_) (a' := ?_) #[true, true, true, true, true, true, true, true, true, false, false, false, false] rfl rfl (take_ofW HT_.out HW_.out (by kernel_rfl)) (fun _ _ _ h => h) (Or.inl ⟨by rfl, ?_⟩) hHeld ?_ ?_
                          rotate_left
                          · rintro w' ⟨s0, s1, s2, s3, s4, s5, s6, s7, s8, s9, s10, s11, s12, s13, s14, s15, s16, s17, s18, s19, s20, s21, s22, s23⟩
                            go_simp
                            with_reducible rfl
                          rotate_left
                          · simp only [Act.put, List.setIfInBounds_toArray, List.set_cons_zero, List.set_cons_succ, i64_w, i32_w]
                            rfl
                          refine take_ (i := 9) (N := some 40) (v := ?_) (a' := ?_) #[true, true, true, true, true, true, true, true, true, true, false, false, false] rfl rfl (take_ofW HT_.out HW_.out (by kernel_rfl)) (fun _ _ _ h => h) (Or.inl ⟨by rfl, ?_⟩) hHeld ?_ ?_
                          rotate_left
                          · rintro w' ⟨s0, s1, s2, s3, s4, s5, s6, s7, s8, s9, s10, s11, s12, s13, s14, s15, s16, s17, s18, s19, s20, s21, s22, s23⟩
                            go_simp
                            with_reducible rfl
                          rotate_left
                          · simp only [Act.put, List.setIfInBounds_toArray, List.set_cons_zero, List.set_cons_succ, i64_w, i32_w]
                            rfl
                          refine one_ (i := 10) (N := some 41) #[true, true, true, true, true, true, true, true, true, true, true, false, false] rfl rfl (one_of HT_.out (by kernel_rfl)) (by decide) (fun K hK => ?_)
                          refine goes_ Try.func28 (by kernel_rfl) rfl #[.agg #[.int .i64 ((rd_T42 l0 x10_2).f0), .int .i64 ((rd_T42 l0 x10_2).f1), .int .u32 ((rd_T42 l0 x10_2).f2.f0), .int .i64 ((rd_T42 l0 x10_2).f2.f1), .int .u32 ((rd_T42 l0 x10_2).f3.f0), .int .i64 ((rd_T42 l0 x10_2).f3.f1), .int .i64 ((rd_T42 l0 x10_2).f4), .int .i64 ((rd_T42 l0 x10_2).f5), .int .i64 ((rd_T42 l0 x10_2).f6), .int .i64 ((rd_T42 l0 x10_2).f7), .int .i64 ((rd_T42 l0 x10_2).f8), .bool ((rd_T42 l0 x10_2).f9)], .agg #[.int .i64 ((rd_T42 l0 x8_1).f0), .int .i64 ((rd_T42 l0 x8_1).f1), .int .u32 ((rd_T42 l0 x8_1).f2.f0), .int .i64 ((rd_T42 l0 x8_1).f2.f1), .int .u32 ((rd_T42 l0 x8_1).f3.f0), .int .i64 ((rd_T42 l0 x8_1).f3.f1), .int .i64 ((rd_T42 l0 x8_1).f4), .int .i64 ((rd_T42 l0 x8_1).f5), .int .i64 ((rd_T42 l0 x8_1).f6), .int .i64 ((rd_T42 l0 x8_1).f7), .int .i64 ((rd_T42 l0 x8_1).f8), .bool ((rd_T42 l0 x8_1).f9)]] (by rfl) rfl rfl (by (try simp only [List.map_toArray, List.map_cons, List.map_nil]); first | done | rfl | (simp only [List.length_drop, List.length_take]; rfl)) ?_
                          with_reducible refine (gueriteref15_Covers.calls k2 ((rd_T42 l0 x10_2).f0) ((rd_T42 l0 x10_2).f1) ((rd_T42 l0 x10_2).f2.f0) ((rd_T42 l0 x10_2).f2.f1) ((rd_T42 l0 x10_2).f3.f0) ((rd_T42 l0 x10_2).f3.f1) ((rd_T42 l0 x10_2).f4) ((rd_T42 l0 x10_2).f5) ((rd_T42 l0 x10_2).f6) ((rd_T42 l0 x10_2).f7) ((rd_T42 l0 x10_2).f8) ((rd_T42 l0 x10_2).f9) ((rd_T42 l0 x8_1).f0) ((rd_T42 l0 x8_1).f1) ((rd_T42 l0 x8_1).f2.f0) ((rd_T42 l0 x8_1).f2.f1) ((rd_T42 l0 x8_1).f3.f0) ((rd_T42 l0 x8_1).f3.f1) ((rd_T42 l0 x8_1).f4) ((rd_T42 l0 x8_1).f5) ((rd_T42 l0 x8_1).f6) ((rd_T42 l0 x8_1).f7) ((rd_T42 l0 x8_1).f8) ((rd_T42 l0 x8_1).f9) t347 _ A21.out).mono ?_
                          rintro e w23 ⟨rfl, hb⟩
                          refine ⟨_, rfl, ?_⟩
                          have n0_ := Aside0.mk (Kd.R_below (by (with_reducible repeat (first | apply Kd.R_alloc | apply Kd.R_drewN | apply Kd.R_drew)); exact HO_5.out) hb)
                          have n1_ := Aside0.mk (blk_below (g := gb339) (o := .cells #[.int .i64 a1_0, .int .i64 a1_1, .int .u32 a1_2, .int .u32 a1_3, .int .i64 a1_4, .int .i64 a1_5, .int .i64 a1_6] 46 (0, 0)) (by (with_reducible repeat (first | refine blk_drewN ?_ _ | refine blk_drew ?_ | refine blk_alloc ?_ _)); exact BK339.out) hb)
                          have n2_ := Aside0.mk (below_step (by repeat (first | (with_reducible first | exact HB.out | apply below_alloc | apply pw_below_drewN | apply below_drew1 | refine below_set ?_ GE339.out) | exact HB.out)) hb)
                          clear HO_5
                          clear BK339
                          clear HB
                          have HO_5 := n0_
                          have BK339 := n1_
                          have HB := n2_
                          clear n0_ n1_ n2_
                          (try clear hb)
                          (try clear hb2)
                          (try clear hk)
                          (try clear hi)
                          refine hK.out _ _ ⟨((HB.out.cell (World.block_lt_of_cell? w _ hw345_0)).trans hw345_0), ((HB.out.cell (World.block_lt_of_cell? w _ hw345_1)).trans hw345_1), ((HB.out.cell (World.block_lt_of_cell? w _ hw345_2)).trans hw345_2), ((HB.out.cell (World.block_lt_of_cell? w _ hw345_3)).trans hw345_3), ((HB.out.cell (World.block_lt_of_cell? w _ hw345_4)).trans hw345_4), ((HB.out.cell (World.block_lt_of_cell? w _ hw345_5)).trans hw345_5), ((HB.out.cell (World.block_lt_of_cell? w _ hw345_6)).trans hw345_6), ((HB.out.cell (World.block_lt_of_cell? w _ hw345_7)).trans hw345_7), ((HB.out.cell (World.block_lt_of_cell? w _ hw345_8)).trans hw345_8), ((HB.out.cell (World.block_lt_of_cell? w _ hw345_9)).trans hw345_9), ((HB.out.cell (World.block_lt_of_cell? w _ hw345_10)).trans hw345_10), ((HB.out.cell (World.block_lt_of_cell? w _ hw345_11)).trans hw345_11), ((HB.out.cell (World.block_lt_of_cell? w _ hw346_0)).trans hw346_0), ((HB.out.cell (World.block_lt_of_cell? w _ hw346_1)).trans hw346_1), ((HB.out.cell (World.block_lt_of_cell? w _ hw346_2)).trans hw346_2), ((HB.out.cell (World.block_lt_of_cell? w _ hw346_3)).trans hw346_3), ((HB.out.cell (World.block_lt_of_cell? w _ hw346_4)).trans hw346_4), ((HB.out.cell (World.block_lt_of_cell? w _ hw346_5)).trans hw346_5), ((HB.out.cell (World.block_lt_of_cell? w _ hw346_6)).trans hw346_6), ((HB.out.cell (World.block_lt_of_cell? w _ hw346_7)).trans hw346_7), ((HB.out.cell (World.block_lt_of_cell? w _ hw346_8)).trans hw346_8), ((HB.out.cell (World.block_lt_of_cell? w _ hw346_9)).trans hw346_9), ((HB.out.cell (World.block_lt_of_cell? w _ hw346_10)).trans hw346_10), ((HB.out.cell (World.block_lt_of_cell? w _ hw346_11)).trans hw346_11)⟩ (fun hHeld => ?_)
                          clear hK K
                          refine norm_ (a' := ?_) ?_ ?_
                          rotate_left
                          · show Act.put _ (some 41) _ = _
                            simp only [Act.put, List.setIfInBounds_toArray, List.set_cons_zero, List.set_cons_succ, i64_w, i32_w]
                            rfl
                          refine pure_ (i := 11) (N := some 42) (v := ?_) (a' := ?_) #[true, true, true, true, true, true, true, true, true, true, true, true, false] rfl rfl (any_of HT_.out (by kernel_rfl)) (fun _ _ _ h => h) (Or.inl ⟨by rfl, ?_⟩) ?_ ?_
                          rotate_left
                          · intro w'
                            go_simp
                            with_reducible rfl
                          rotate_left
                          · simp only [Act.put, List.setIfInBounds_toArray, List.set_cons_zero, List.set_cons_succ, i64_w, i32_w]
                            rfl
                          refine pure_ (i := 12) (N := some 9) (v := ?_) (a' := ?_) #[true, true, true, true, true, true, true, true, true, true, true, true, true] rfl rfl (any_of HT_.out (by kernel_rfl)) (fun _ _ _ h => h) (Or.inl ⟨by rfl, ?_⟩) ?_ ?_
                          rotate_left
                          · intro w'
                            go_simp
                            with_reducible rfl
                          rotate_left
                          · simp only [Act.put, List.setIfInBounds_toArray, List.set_cons_zero, List.set_cons_succ, i64_w, i32_w]
                            rfl
                          refine done_ (done_of HT_.out (by kernel_rfl)) ?_
                          try go_wp2
                          go_roundg k2
                          case measure => have := HK1.out; have := HK2.out; omega
                          case rel => exact ⟨(t347), (wrap64 (x10_2 + 1)), (by first | rfl | (simp; done) | (simp [*]; done)), (by first | rfl | (simp; done) | (simp [*]; done)), H', ⟨by have := HK1.out; have := HK2.out; omega⟩, ⟨by (with_reducible repeat (first | apply Kd.R_alloc | apply Kd.R_drewN | apply Kd.R_drew)); exact HO_5.out⟩, ⟨by (with_reducible repeat (first | refine blk_drewN ?_ _ | refine blk_drew ?_ | refine blk_alloc ?_ _)); exact BK339.out⟩, ⟨by repeat (first | (with_reducible first | exact HB.out | apply below_alloc | apply pw_below_drewN | apply below_drew1 | refine below_set ?_ GE339.out) | exact HB.out)⟩⟩
                        · rw [if_neg c20] at H
                          exact absurd H (by simp)
                      · rw [if_neg c19] at H
                        exact absurd H (by simp)
                    · rw [if_neg c18] at H
                      exact absurd H (by simp)
                  · rw [if_neg c17] at H
                    exact absurd H (by simp)
              · rw [if_neg c14] at H
                have c14b0 : decide (x10_2 < x8_1) = false := decide_eq_false c14
                clear c14
                by_cases c24 : x9_2 = true
                · subst c24
                  have H1 : (if x7_1 ≥ (t341.length : Int) then (gueritelaw15_RuleShadows.j2 k2 l0 t341 t344 x7_1 x8_1 true) else (if 0 ≤ x7_1 then (if x7_1 < (t341.length : Int) then (if (rd t341 x7_1) = x8_1 then (gueritelaw15_RuleShadows.j2 k2 l0 t341 t344 x7_1 x8_1 (t344 == x8_1)) else (gueritelaw15_RuleShadows.j2 k2 l0 t341 t344 x7_1 x8_1 true)) else (none)) else (none))) = some r := by rw [if_pos rfl] at H; exact H
                  clear H
                  have H := H1
                  clear H1
                  have HC25 := Aside0.mk H
                  clear H
                  go_upto_region 15 with (fail)
                  go_cut [60] (fun v60 wc => ∃ (kq : Nat) (x60_24 : Bool), v60 = .bool x60_24 ∧ Aside0 (gueritelaw15_RuleShadows.j2 kq l0 t341 t344 x7_1 x8_1 x60_24 = some r) ∧ Aside0 (kq ≤ k2) ∧ Aside0 (Kd.R (Kd.int .i64) 3 wc w.heap.size (fun _ => True) v342 t341) ∧ Aside0 (wc.heap[gb339]? = some (.cells #[.int .i64 a1_0, .int .i64 a1_1, .int .u32 a1_2, .int .u32 a1_3, .int .i64 a1_4, .int .i64 a1_5, .int .i64 a1_6] 46 (0, 0))) ∧ Aside0 (Below w.heap.size w wc))
                  case first =>
                    have H := HC25.out
                    clear HC25
                    by_cases c26 : x7_1 ≥ (t341.length : Int)
                    · rw [if_pos c26] at H
                      have c26b0 : decide ((t341.length : Int) ≤ x7_1) = true := decide_eq_true c26
                      clear c26
                      (first | rw [c26b0] | (simp only [i64_w, i32_w]; rw [c26b0]) | skip)
                      have H' := Aside0.mk H
                      clear H
                      obtain ⟨Ao27, co27, eo27⟩ := Kd.R_slice HO_5.out
                      subst eo27
                      go_wp2
                      go_meet
                      case rel => exact ⟨_, (true), (by first | rfl | (simp; done) | (simp [*]; done)), H', ⟨by have := HK1.out; have := HK2.out; first | omega | exact Nat.le_refl _⟩, ⟨by (with_reducible repeat (first | apply Kd.R_alloc | apply Kd.R_drewN | apply Kd.R_drew)); exact HO_5.out⟩, ⟨by (with_reducible repeat (first | refine blk_drewN ?_ _ | refine blk_drew ?_ | refine blk_alloc ?_ _)); exact BK339.out⟩, ⟨by repeat (first | (with_reducible first | exact HB.out | apply below_alloc | apply pw_below_drewN | apply below_drew1 | refine below_set ?_ GE339.out) | exact HB.out)⟩⟩
                    · rw [if_neg c26] at H
                      have c26b0 : decide ((t341.length : Int) ≤ x7_1) = false := decide_eq_false c26
                      clear c26
                      (first | rw [c26b0] | (simp only [i64_w, i32_w]; rw [c26b0]) | skip)
                      by_cases c28 : 0 ≤ x7_1
                      · rw [if_pos c28] at H
                        have c28b0 : decide (0 ≤ x7_1) = true := decide_eq_true c28
                        clear c28
                        by_cases c29 : x7_1 < (t341.length : Int)
                        · rw [if_pos c29] at H
                          have c29b0 : decide (x7_1 < (t341.length : Int)) = true := decide_eq_true c29
                          clear c29
                          by_cases c30 : (rd t341 x7_1) = x8_1
                          · rw [if_pos c30] at H
                            have c30b0 : ((rd t341 x7_1) == x8_1) = true := beq_iff_eq.mpr c30
                            have c30b1 : ((rd t341 x7_1) != x8_1) = false := bne_eq_false_iff_eq.mpr c30
                            clear c30
                            have H' := Aside0.mk H
                            clear H
                            obtain ⟨Ao31, co31, eo31⟩ := Kd.R_slice HO_5.out
                            subst eo31
                            have p348 : 0 ≤ (x7_1 : Int) := of_decide_eq_true (by first | (with_reducible assumption) | assumption)
                            have q348 : x7_1 < (t341.length : Int) := of_decide_eq_true (by first | (with_reducible assumption) | assumption)
                            obtain ⟨ad348, e348, hx348_0⟩ := Kd.at_int (Kd.R_reads' HO_5.out).2.2 x7_1 p348 q348
                            cases e348
                            replace p348 := eq_true p348
                            replace q348 := eq_true q348
                            go_wp2
                            go_meet
                            case rel => exact ⟨_, ((t344 == x8_1)), (by first | rfl | (simp; done) | (simp [*]; done)), H', ⟨by have := HK1.out; have := HK2.out; first | omega | exact Nat.le_refl _⟩, ⟨by (with_reducible repeat (first | apply Kd.R_alloc | apply Kd.R_drewN | apply Kd.R_drew)); exact HO_5.out⟩, ⟨by (with_reducible repeat (first | refine blk_drewN ?_ _ | refine blk_drew ?_ | refine blk_alloc ?_ _)); exact BK339.out⟩, ⟨by repeat (first | (with_reducible first | exact HB.out | apply below_alloc | apply pw_below_drewN | apply below_drew1 | refine below_set ?_ GE339.out) | exact HB.out)⟩⟩
                          · rw [if_neg c30] at H
                            have c30b0 : ((rd t341 x7_1) == x8_1) = false := beq_eq_false_iff_ne.mpr c30
                            have c30b1 : ((rd t341 x7_1) != x8_1) = true := bne_iff_ne.mpr c30
                            have H' := Aside0.mk H
                            clear H
                            obtain ⟨Ao32, co32, eo32⟩ := Kd.R_slice HO_5.out
                            subst eo32
                            have p348 : 0 ≤ (x7_1 : Int) := of_decide_eq_true (by first | (with_reducible assumption) | assumption)
                            have q348 : x7_1 < (t341.length : Int) := of_decide_eq_true (by first | (with_reducible assumption) | assumption)
                            obtain ⟨ad348, e348, hx348_0⟩ := Kd.at_int (Kd.R_reads' HO_5.out).2.2 x7_1 p348 q348
                            cases e348
                            replace p348 := eq_true p348
                            replace q348 := eq_true q348
                            go_wp2
                            go_meet
                            case rel => exact ⟨_, (true), (by first | rfl | (simp; done) | (simp [*]; done)), H', ⟨by have := HK1.out; have := HK2.out; first | omega | exact Nat.le_refl _⟩, ⟨by (with_reducible repeat (first | apply Kd.R_alloc | apply Kd.R_drewN | apply Kd.R_drew)); exact HO_5.out⟩, ⟨by (with_reducible repeat (first | refine blk_drewN ?_ _ | refine blk_drew ?_ | refine blk_alloc ?_ _)); exact BK339.out⟩, ⟨by repeat (first | (with_reducible first | exact HB.out | apply below_alloc | apply pw_below_drewN | apply below_drew1 | refine below_set ?_ GE339.out) | exact HB.out)⟩⟩
                        · rw [if_neg c29] at H
                          exact absurd H (by simp)
                      · rw [if_neg c28] at H
                        exact absurd H (by simp)
                  case rest =>
                    clear HC25
                    try clear c1
                    try clear c2
                    try clear p2
                    try clear c3
                    try clear c3b0
                    try clear c3b1
                    try clear p3
                    try clear q3
                    try clear hx3
                    try clear p6
                    try clear c9
                    try clear c13
                    try clear c13b0
                    try clear c14
                    try clear c14b0
                    try clear c15
                    try clear c17
                    try clear c17b0
                    try clear c18
                    try clear c18b0
                    try clear c19
                    try clear c19b0
                    try clear c20
                    try clear c20b0
                    try clear c24
                    try clear c26
                    try clear c26b0
                    try clear c28
                    try clear c28b0
                    try clear c29
                    try clear c29b0
                    try clear c30
                    try clear c30b0
                    try clear c30b1
                    try clear hcz11_0
                    try clear hcz11_1
                    try clear hcz11_2
                    try clear hcz11_3
                    try clear hcz11_4
                    try clear hcz11_5
                    try clear hcz11_6
                    try clear hfz11_0
                    try clear hfz11_1
                    try clear hfz11_2
                    try clear hfz11_3
                    try clear hfz11_4
                    try clear hfz11_5
                    try clear hfz11_6
                    try clear hx345_0
                    try clear hx345_1
                    try clear hx345_10
                    try clear hx345_11
                    try clear hx345_2
                    try clear hx345_3
                    try clear hx345_4
                    try clear hx345_5
                    try clear hx345_6
                    try clear hx345_7
                    try clear hx345_8
                    try clear hx345_9
                    try clear hx346_0
                    try clear hx346_1
                    try clear hx346_10
                    try clear hx346_11
                    try clear hx346_2
                    try clear hx346_3
                    try clear hx346_4
                    try clear hx346_5
                    try clear hx346_6
                    try clear hx346_7
                    try clear hx346_8
                    try clear hx346_9
                    try clear hx348_0
                    try clear p2
                    try clear p345
                    try clear p346
                    try clear p348
                    try clear q345
                    try clear q346
                    try clear q348
                    obtain ⟨kq, x60_24, rfl, HA, HJ24, HO_5, BK339, HB⟩ := hcut
                    cases kq with
                    | zero => exact absurd HA.out (by simp [gueritelaw15_RuleShadows.j2])
                    | succ kj24 =>
                      have H := HA.out
                      clear HA
                      simp only [gueritelaw15_RuleShadows.j2] at H
                      by_cases c33 : x60_24 = true
                      · subst c33
                        have H1 : (some false) = some r := by rw [if_pos rfl] at H; exact H
                        clear H
                        have H := H1
                        clear H1
                        obtain rfl := Option.some.inj H
                        go_wp2
                        go_ret
                        exact ⟨by first | rfl | (simp [errW_none, errW_some] <;> rfl) | (simp [*, errW_none, errW_some] <;> rfl), by repeat (first | (with_reducible first | exact HB.out | apply below_alloc | apply pw_below_drewN | apply below_drew1 | refine below_set ?_ GE339.out) | exact HB.out)⟩
                      · replace c33 := Bool.eq_false_iff.mpr c33
                        subst c33
                        have H1 : (gueritelaw15_RuleShadows.l0 kj24 l0 t341 t344 (wrap64 (x7_1 + 1)) (wrap64 (x8_1 + 1))) = some r := by rw [if_neg (show ¬ (false = true) by decide)] at H; exact H
                        clear H
                        have H := H1
                        clear H1
                        have H' := Aside0.mk H
                        clear H
                        go_wp2
                        go_roundg kj24
                        case measure => have := HK1.out; have := HK2.out; have := HJ24.out; omega
                        case rel => exact ⟨(wrap64 (x7_1 + 1)), (wrap64 (x8_1 + 1)), (by first | rfl | (simp; done) | (simp [*]; done)), (by first | rfl | (simp; done) | (simp [*]; done)), H', ⟨by have := HK1.out; have := HK2.out; have := HJ24.out; omega⟩, ⟨by (with_reducible repeat (first | apply Kd.R_alloc | apply Kd.R_drewN | apply Kd.R_drew)); exact HO_5.out⟩, ⟨by (with_reducible repeat (first | refine blk_drewN ?_ _ | refine blk_drew ?_ | refine blk_alloc ?_ _)); exact BK339.out⟩, ⟨by repeat (first | (with_reducible first | exact HB.out | apply below_alloc | apply pw_below_drewN | apply below_drew1 | refine below_set ?_ GE339.out) | exact HB.out)⟩⟩
                · replace c24 := Bool.eq_false_iff.mpr c24
                  subst c24
                  have H1 : (gueritelaw15_RuleShadows.l0 k2 l0 t341 t344 x7_1 (wrap64 (x8_1 + 1))) = some r := by rw [if_neg (show ¬ (false = true) by decide)] at H; exact H
                  clear H
                  have H := H1
                  clear H1
                  have H' := Aside0.mk H
                  clear H
                  go_wp2
                  go_roundg k2
                  case measure => have := HK1.out; have := HK2.out; omega
                  case rel => exact ⟨(x7_1), (wrap64 (x8_1 + 1)), (by first | rfl | (simp; done) | (simp [*]; done)), (by first | rfl | (simp; done) | (simp [*]; done)), H', ⟨by have := HK1.out; have := HK2.out; omega⟩, ⟨by (with_reducible repeat (first | apply Kd.R_alloc | apply Kd.R_drewN | apply Kd.R_drew)); exact HO_5.out⟩, ⟨by (with_reducible repeat (first | refine blk_drewN ?_ _ | refine blk_drew ?_ | refine blk_alloc ?_ _)); exact BK339.out⟩, ⟨by repeat (first | (with_reducible first | exact HB.out | apply below_alloc | apply pw_below_drewN | apply below_drew1 | refine below_set ?_ GE339.out) | exact HB.out)⟩⟩
        · rw [if_neg c13] at H
          have c13b0 : decide (x8_1 < (l0.length : Int)) = false := decide_eq_false c13
          clear c13
          by_cases c34 : x7_1 = (t341.length : Int)
          · rw [if_pos c34] at H
            have c34b0 : (x7_1 == (t341.length : Int)) = true := beq_iff_eq.mpr c34
            have c34b1 : (x7_1 != (t341.length : Int)) = false := bne_eq_false_iff_eq.mpr c34
            clear c34
            replace H := Option.bind_eq_some_iff.mp H
            obtain ⟨t349, A350, H⟩ := H
            replace H : (some t349) = some r := H
            have A35 := Aside0.mk A350
            clear A350
            obtain rfl := Option.some.inj H
            obtain ⟨Ao36, co36, eo36⟩ := Kd.R_slice HO_5.out
            subst eo36
            go_wp2_with (first | (go_at_call 19; (with_reducible refine (gueritelaw15_awake.calls  t349 _ A35.out).mono ?_); rintro e w37 ⟨rfl, hb⟩; have n0_ := Aside0.mk (Kd.R_below (by (with_reducible repeat (first | apply Kd.R_alloc | apply Kd.R_drewN | apply Kd.R_drew)); exact HO_5.out) hb); have n1_ := Aside0.mk (blk_below (g := gb339) (o := .cells #[.int .i64 a1_0, .int .i64 a1_1, .int .u32 a1_2, .int .u32 a1_3, .int .i64 a1_4, .int .i64 a1_5, .int .i64 a1_6] 46 (0, 0)) (by (with_reducible repeat (first | refine blk_drewN ?_ _ | refine blk_drew ?_ | refine blk_alloc ?_ _)); exact BK339.out) hb); have n2_ := Aside0.mk (below_step (by repeat (first | (with_reducible first | exact HB.out | apply below_alloc | apply pw_below_drewN | apply below_drew1 | refine below_set ?_ GE339.out) | exact HB.out)) hb); clear HO_5; clear BK339; clear HB; have HO_5 := n0_; have BK339 := n1_; have HB := n2_; clear n0_ n1_ n2_; (try clear hb); (try clear hb2); (try clear hk); (try clear hi)))
            go_ret
            exact ⟨by first | rfl | (simp [errW_none, errW_some] <;> rfl) | (simp [*, errW_none, errW_some] <;> rfl), by repeat (first | (with_reducible first | exact HB.out | apply below_alloc | apply pw_below_drewN | apply below_drew1 | refine below_set ?_ GE339.out) | exact HB.out)⟩
          · rw [if_neg c34] at H
            have c34b0 : (x7_1 == (t341.length : Int)) = false := beq_eq_false_iff_ne.mpr c34
            have c34b1 : (x7_1 != (t341.length : Int)) = true := bne_iff_ne.mpr c34
            obtain rfl := Option.some.inj H
            obtain ⟨Ao38, co38, eo38⟩ := Kd.R_slice HO_5.out
            subst eo38
            go_wp2
            go_ret
            exact ⟨by first | rfl | (simp [errW_none, errW_some] <;> rfl) | (simp [*, errW_none, errW_some] <;> rfl), by repeat (first | (with_reducible first | exact HB.out | apply below_alloc | apply pw_below_drewN | apply below_drew1 | refine below_set ?_ GE339.out) | exact HB.out)⟩

end Go.Proofs.Ytakfnghakbjncaa.P
