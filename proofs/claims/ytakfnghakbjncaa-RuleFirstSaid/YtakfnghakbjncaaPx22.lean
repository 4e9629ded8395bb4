-- Written by a program of this session (xprint.py), over the kit's print; not trusted: Lean checks it.
import Derived.Test.YtakfnghakbjncaaPx0
import Derived.Test.YtakfnghakbjncaaPx14
import Derived.Test.YtakfnghakbjncaaPx16
import Derived.Test.YtakfnghakbjncaaPx18
import Derived.Test.YtakfnghakbjncaaPx19
import Derived.Test.YtakfnghakbjncaaPx20
import Derived.Test.YtakfnghakbjncaaG4
namespace Go.Proofs.Ytakfnghakbjncaa.P
open Go.RowKit Go.Proofs.YtakfnghakbjncaaW.PrintWords Go.Proofs.YtakfnghakbjncaaW.PrintLast Go.Proofs.YtakfnghakbjncaaW.PrintMore
attribute [local go_sem] max2_int min2_int max_two min_two max_three min_three max_four min_four   -- for this text's walks alone
set_option linter.unusedVariables false
set_option linter.unusedSimpArgs false

/-! ### gueritelaw15_RuleFirst: function 7 -/
mutual
def gueritelaw15_RuleFirst.l0 : Nat → List (S42) → Int → Bool → Int → Int → Int → Int → Int → Int → Int → Int → Option (Bool)
  | 0, _, _, _, _, _, _, _, _, _, _, _ => none
  | k + 1, x0, x5, x6, x7, x280000, x280001, x280002, x280003, x280004, x280005, x280006 => if x7 < (x0.length : Int) then (if x6 = true then (if 0 ≤ x7 then ((gueriteref15_Right.f k ((rd_T42 x0 x7).f0) ((rd_T42 x0 x7).f1) ((rd_T42 x0 x7).f2.f0) ((rd_T42 x0 x7).f2.f1) ((rd_T42 x0 x7).f3.f0) ((rd_T42 x0 x7).f3.f1) ((rd_T42 x0 x7).f4) ((rd_T42 x0 x7).f5) ((rd_T42 x0 x7).f6) ((rd_T42 x0 x7).f7) ((rd_T42 x0 x7).f8) ((rd_T42 x0 x7).f9)).bind fun t283 => (gueritelaw15_RuleFirst.j1 k x0 x5 t283 x7 x280000 x280001 x280002 x280003 x280004 x280005 x280006)) else (none)) else (gueritelaw15_RuleFirst.j1 k x0 x5 false x7 x280000 x280001 x280002 x280003 x280004 x280005 x280006)) else ((rule_First.f x0 x280000 x280001 x280002 x280003 x280004 x280005 x280006).bind fun t288 => (if t288 = x5 then ((rule_Allows.f x0 x280000 x280001 x280002 x280003 x280004 x280005 x280006).bind fun t289 => (if x5 ≥ 0 then (if 0 ≤ x5 then (if x5 < (x0.length : Int) then (if (t289 == ((rd_T42 x0 x5).f9)) = true then ((rule_Right.f x0).bind fun t291 => (if (t291 == x6) = true then ((gueritelaw15_awake.f).bind fun t292 => (some t292)) else (some false))) else (some false)) else (none)) else (none)) else (if (t289 == false) = true then ((rule_Right.f x0).bind fun t293 => (if (t293 == x6) = true then ((gueritelaw15_awake.f).bind fun t294 => (some t294)) else (some false))) else (some false)))) else (some false)))
def gueritelaw15_RuleFirst.j1 : Nat → List (S42) → Int → Bool → Int → Int → Int → Int → Int → Int → Int → Int → Option (Bool)
  | 0, _, _, _, _, _, _, _, _, _, _, _ => none
  | k + 1, x0, x5, x6, x7, x280000, x280001, x280002, x280003, x280004, x280005, x280006 => if 0 ≤ x7 then (if x7 < (x0.length : Int) then ((rule_Matches.f k ((rd_T42 x0 x7).f0) ((rd_T42 x0 x7).f1) ((rd_T42 x0 x7).f2.f0) ((rd_T42 x0 x7).f2.f1) ((rd_T42 x0 x7).f3.f0) ((rd_T42 x0 x7).f3.f1) ((rd_T42 x0 x7).f4) ((rd_T42 x0 x7).f5) ((rd_T42 x0 x7).f6) ((rd_T42 x0 x7).f7) ((rd_T42 x0 x7).f8) ((rd_T42 x0 x7).f9) x280000 x280001 x280002 x280003 x280004 x280005 x280006).bind fun t285 => ((gueriteref15_Matches.f k ((rd_T42 x0 x7).f0) ((rd_T42 x0 x7).f1) ((rd_T42 x0 x7).f2.f0) ((rd_T42 x0 x7).f2.f1) ((rd_T42 x0 x7).f3.f0) ((rd_T42 x0 x7).f3.f1) ((rd_T42 x0 x7).f4) ((rd_T42 x0 x7).f5) ((rd_T42 x0 x7).f6) ((rd_T42 x0 x7).f7) ((rd_T42 x0 x7).f8) ((rd_T42 x0 x7).f9) x280000 x280001 x280002 x280003 x280004 x280005 x280006).bind fun t287 => (if (t285 != t287) = true then (some false) else (gueritelaw15_RuleFirst.l0 k x0 x5 x6 (wrap64 (x7 + 1)) x280000 x280001 x280002 x280003 x280004 x280005 x280006)))) else (none)) else (none)
end
def gueritelaw15_RuleFirst.f (k : Nat) (l0 : List (S42)) (a1_0 : Int) (a1_1 : Int) (a1_2 : Int) (a1_3 : Int) (a1_4 : Int) (a1_5 : Int) (a1_6 : Int) : Option (Bool) := if (l0.length : Int) > 80 then ((gueritelaw15_awake.f).bind fun t280 => (some t280)) else ((gueriteref15_First.f k l0 a1_0 a1_1 a1_2 a1_3 a1_4 a1_5 a1_6).bind fun t281 => (gueritelaw15_RuleFirst.l0 k l0 t281 true 0 a1_0 a1_1 a1_2 a1_3 a1_4 a1_5 a1_6))
theorem gueritelaw15_RuleFirst.mono_l : ∀ k, (∀ y0 y1 y2 y3 y4 y5 y6 y7 y8 y9 y10, LeO (gueritelaw15_RuleFirst.l0 k y0 y1 y2 y3 y4 y5 y6 y7 y8 y9 y10) (gueritelaw15_RuleFirst.l0 (k + 1) y0 y1 y2 y3 y4 y5 y6 y7 y8 y9 y10)) ∧ (∀ y0 y1 y2 y3 y4 y5 y6 y7 y8 y9 y10, LeO (gueritelaw15_RuleFirst.j1 k y0 y1 y2 y3 y4 y5 y6 y7 y8 y9 y10) (gueritelaw15_RuleFirst.j1 (k + 1) y0 y1 y2 y3 y4 y5 y6 y7 y8 y9 y10))
  | 0 => ⟨fun _ _ _ _ _ _ _ _ _ _ _ r h => by simp [gueritelaw15_RuleFirst.l0] at h, fun _ _ _ _ _ _ _ _ _ _ _ r h => by simp [gueritelaw15_RuleFirst.j1] at h⟩
  | k + 1 => by
    obtain ⟨ih0, ih1⟩ := gueritelaw15_RuleFirst.mono_l k
    refine ⟨?_, ?_⟩
    · intro y0 y1 y2 y3 y4 y5 y6 y7 y8 y9 y10
      unfold gueritelaw15_RuleFirst.l0
      repeat' first
      | (with_reducible exact ih0 _ _ _ _ _ _ _ _ _ _ _)
      | (with_reducible exact ih1 _ _ _ _ _ _ _ _ _ _ _)
      | (with_reducible exact gueriteref15_First.mono _ _ _ _ _ _ _ _ _)
      | (with_reducible exact gueriteref15_Matches.mono _ _ _ _ _ _ _ _ _ _ _ _ _ _ _ _ _ _ _ _)
      | (with_reducible exact gueriteref15_Right.mono _ _ _ _ _ _ _ _ _ _ _ _ _)
      | (with_reducible exact rule_Matches.mono _ _ _ _ _ _ _ _ _ _ _ _ _ _ _ _ _ _ _ _)
      | (with_reducible exact LeO.refl _)
      | (with_reducible exact LeO.none _)
      | (with_reducible refine LeO.ite ?_ ?_)
      | (with_reducible refine LeO.bind ?_ (fun _ => ?_))
      | exact ih0 _ _ _ _ _ _ _ _ _ _ _
      | exact ih1 _ _ _ _ _ _ _ _ _ _ _
      | exact gueriteref15_First.mono _ _ _ _ _ _ _ _ _
      | exact gueriteref15_Matches.mono _ _ _ _ _ _ _ _ _ _ _ _ _ _ _ _ _ _ _ _
      | exact gueriteref15_Right.mono _ _ _ _ _ _ _ _ _ _ _ _ _
      | exact rule_Matches.mono _ _ _ _ _ _ _ _ _ _ _ _ _ _ _ _ _ _ _ _
      | exact LeO.none _
      | refine LeO.ite ?_ ?_
      | refine LeO.bind ?_ (fun _ => ?_)
    · intro y0 y1 y2 y3 y4 y5 y6 y7 y8 y9 y10
      unfold gueritelaw15_RuleFirst.j1
      repeat' first
      | (with_reducible exact ih0 _ _ _ _ _ _ _ _ _ _ _)
      | (with_reducible exact ih1 _ _ _ _ _ _ _ _ _ _ _)
      | (with_reducible exact gueriteref15_First.mono _ _ _ _ _ _ _ _ _)
      | (with_reducible exact gueriteref15_Matches.mono _ _ _ _ _ _ _ _ _ _ _ _ _ _ _ _ _ _ _ _)
      | (with_reducible exact gueriteref15_Right.mono _ _ _ _ _ _ _ _ _ _ _ _ _)
      | (with_reducible exact rule_Matches.mono _ _ _ _ _ _ _ _ _ _ _ _ _ _ _ _ _ _ _ _)
      | (with_reducible exact LeO.refl _)
      | (with_reducible exact LeO.none _)
      | (with_reducible refine LeO.ite ?_ ?_)
      | (with_reducible refine LeO.bind ?_ (fun _ => ?_))
      | exact ih0 _ _ _ _ _ _ _ _ _ _ _
      | exact ih1 _ _ _ _ _ _ _ _ _ _ _
      | exact gueriteref15_First.mono _ _ _ _ _ _ _ _ _
      | exact gueriteref15_Matches.mono _ _ _ _ _ _ _ _ _ _ _ _ _ _ _ _ _ _ _ _
      | exact gueriteref15_Right.mono _ _ _ _ _ _ _ _ _ _ _ _ _
      | exact rule_Matches.mono _ _ _ _ _ _ _ _ _ _ _ _ _ _ _ _ _ _ _ _
      | exact LeO.none _
      | refine LeO.ite ?_ ?_
      | refine LeO.bind ?_ (fun _ => ?_)
theorem gueritelaw15_RuleFirst.mono : ∀ a0 a1 a2 a3 a4 a5 a6 a7 k, LeO (gueritelaw15_RuleFirst.f k a0 a1 a2 a3 a4 a5 a6 a7) (gueritelaw15_RuleFirst.f (k + 1) a0 a1 a2 a3 a4 a5 a6 a7) := by
  intro a0 a1 a2 a3 a4 a5 a6 a7 k
  obtain ⟨ih0, ih1⟩ := gueritelaw15_RuleFirst.mono_l k
  unfold gueritelaw15_RuleFirst.f
  repeat' first
      | (with_reducible exact ih0 _ _ _ _ _ _ _ _ _ _ _)
      | (with_reducible exact ih1 _ _ _ _ _ _ _ _ _ _ _)
      | (with_reducible exact gueriteref15_First.mono _ _ _ _ _ _ _ _ _)
      | (with_reducible exact gueriteref15_Matches.mono _ _ _ _ _ _ _ _ _ _ _ _ _ _ _ _ _ _ _ _)
      | (with_reducible exact gueriteref15_Right.mono _ _ _ _ _ _ _ _ _ _ _ _ _)
      | (with_reducible exact rule_Matches.mono _ _ _ _ _ _ _ _ _ _ _ _ _ _ _ _ _ _ _ _)
      | (with_reducible exact LeO.refl _)
      | (with_reducible exact LeO.none _)
      | (with_reducible refine LeO.ite ?_ ?_)
      | (with_reducible refine LeO.bind ?_ (fun _ => ?_))
      | exact ih0 _ _ _ _ _ _ _ _ _ _ _
      | exact ih1 _ _ _ _ _ _ _ _ _ _ _
      | exact gueriteref15_First.mono _ _ _ _ _ _ _ _ _
      | exact gueriteref15_Matches.mono _ _ _ _ _ _ _ _ _ _ _ _ _ _ _ _ _ _ _ _
      | exact gueriteref15_Right.mono _ _ _ _ _ _ _ _ _ _ _ _ _
      | exact rule_Matches.mono _ _ _ _ _ _ _ _ _ _ _ _ _ _ _ _ _ _ _ _
      | exact LeO.none _
      | refine LeO.ite ?_ ?_
      | refine LeO.bind ?_ (fun _ => ?_)
def gueritelaw15_RuleFirst.T9 : Bool × List (List Nat × List Nat) := (true, [([], []), ([], []), ([0, 1], [0, 1]), ([2], [2]), ([], []), ([3, 4], [3, 4]), ([], []), ([], []), ([6, 7], [6, 7]), ([8], [8]), ([], []), ([10], [10]), ([], []), ([12], [12]), ([], []), ([14], [14]), ([9, 11, 13, 15, 5], [9, 11, 13, 15]), ([5, 16], [5, 16])])
def gueritelaw15_RuleFirst.B9 : List Nat := [0, 0, 3, 7, 0, 31, 0, 0, 192, 448, 0, 1024, 0, 4096, 0, 16384, 65535, 131071]
theorem gueritelaw15_RuleFirst.tab9 : rtab .any (opsOf Try.f7 9) = gueritelaw15_RuleFirst.T9 := by kernel_rfl
theorem gueritelaw15_RuleFirst.bits9 : waitsOk gueritelaw15_RuleFirst.T9.2 gueritelaw15_RuleFirst.B9 = true := by kernel_rfl
set_option maxHeartbeats 8000000 in
set_option maxRecDepth 100000 in
theorem gueritelaw15_RuleFirst.calls (k : Nat) (A0 : Option Addr) (c0 : Nat) (l0 : List (S42)) (a1_0 : Int) (a1_1 : Int) (a1_2 : Int) (a1_3 : Int) (a1_4 : Int) (a1_5 : Int) (a1_6 : Int) (r : Bool) (w : World) (hr0 : Kd.C k42 w A0 l0.length l0) (hc0 : l0.length ≤ c0) (h : gueritelaw15_RuleFirst.f k l0 a1_0 a1_1 a1_2 a1_3 a1_4 a1_5 a1_6 = some r) :
    Calls Try.prog 7 #[.slice A0 l0.length c0, .agg #[.int .i64 a1_0, .int .i64 a1_1, .int .u32 a1_2, .int .u32 a1_3, .int .i64 a1_4, .int .i64 a1_5, .int .i64 a1_6]] w fun e w' => e = .returned (.bool r) ∧ Below w.heap.size w w' := by
  have hu46 := Try.underlying46
  have hu44 := Try.underlying44
  have hu42 := Try.underlying42
  have HR0 := Aside0.mk hr0
  have HC0 := Aside0.mk hc0
  clear hr0 hc0
  have HB := Aside0.mk (Below.refl w.heap.size w)
  have H : (if (l0.length : Int) > 80 then ((gueritelaw15_awake.f).bind fun t280 => (some t280)) else ((gueriteref15_First.f k l0 a1_0 a1_1 a1_2 a1_3 a1_4 a1_5 a1_6).bind fun t281 => (gueritelaw15_RuleFirst.l0 k l0 t281 true 0 a1_0 a1_1 a1_2 a1_3 a1_4 a1_5 a1_6))) = some r := h
  clear h
  by_cases c3 : (l0.length : Int) > 80
  · rw [if_pos c3] at H
    have c3b0 : decide (80 < (l0.length : Int)) = true := decide_eq_true c3
    have c3b1 : decide (80 < l0.length) = true := decide_eq_true (by omega)
    clear c3
    replace H := Option.bind_eq_some_iff.mp H
    obtain ⟨t280, A40, H⟩ := H
    replace H : (some t280) = some r := H
    have A4 := Aside0.mk A40
    clear A40
    obtain rfl := Option.some.inj H
    go_enter Try.func7, Try.ntmps7
    go_wp2_with (first | ((with_reducible refine gate_dst (N := 3) rfl ?_); refine box_event ?hg (N := 3) ?hd (cs := #[.int .i64 a1_0, .int .i64 a1_1, .int .u32 a1_2, .int .u32 a1_3, .int .i64 a1_4, .int .i64 a1_5, .int .i64 a1_6]) (t := 46) ?hr ?_; (case hd => rfl); (case hg => rfl); (case hr => first | (go_simp; done) | (go_simp; rfl)); intro gb279 hg w5 hbox hb; have n0_ := Aside0.mk (below_step (by repeat (first | (with_reducible first | exact HB.out | apply below_alloc | apply pw_below_drewN | apply below_drew1) | exact HB.out)) hb); have n1_ := Aside0.mk (hbox); have n2_ := Aside0.mk ((by rw [hg]; exact (below_size (by repeat (first | (with_reducible first | exact HB.out | apply below_alloc | apply pw_below_drewN | apply below_drew1) | exact HB.out))) : w.heap.size ≤ gb279)); have n3_ := Aside0.mk ((by rw [hg]; exact (below_size (by repeat (first | (with_reducible first | exact HB.out | apply below_alloc | apply pw_below_drewN | apply below_drew1) | exact HB.out))) : w.heap.size ≤ gb279)); clear HB; have HB := n0_; have BK279 := n1_; have GW279 := n2_; have GE279 := n3_; clear n0_ n1_ n2_ n3_; clear hb hbox hg) | ((with_reducible refine gate_callee (f := 19) rfl ?_); refine goesL_ (some 11) rfl rfl Try.func19 (by kernel_rfl) rfl #[] rfl (by (try simp only [List.map_toArray, List.map_cons, List.map_nil]); first | done | rfl | (simp only [List.length_drop, List.length_take]; rfl)) ?_; (with_reducible refine (gueritelaw15_awake.calls  t280 _ A4.out).mono ?_); rintro e w6 ⟨rfl, hb⟩; refine ⟨_, rfl, ?_⟩; have n0_ := Aside0.mk (blk_below (g := gb279) (o := .cells #[.int .i64 a1_0, .int .i64 a1_1, .int .u32 a1_2, .int .u32 a1_3, .int .i64 a1_4, .int .i64 a1_5, .int .i64 a1_6] 46 (0, 0)) (by (with_reducible repeat (first | refine blk_drewN ?_ _ | refine blk_drew ?_ | refine blk_alloc ?_ _)); exact BK279.out) hb); have n1_ := Aside0.mk (below_step (by repeat (first | (with_reducible first | exact HB.out | apply below_alloc | apply pw_below_drewN | apply below_drew1 | refine below_set ?_ GE279.out) | exact HB.out)) hb); clear BK279; clear HB; have BK279 := n0_; have HB := n1_; clear n0_ n1_; (try clear hb); (try clear hb2); (try clear hk); (try clear hi)))
    go_ret
    exact ⟨by first | rfl | (simp [errW_none, errW_some] <;> rfl) | (simp [*, errW_none, errW_some] <;> rfl), by repeat (first | (with_reducible first | exact HB.out | apply below_alloc | apply pw_below_drewN | apply below_drew1 | refine below_set ?_ GE279.out) | exact HB.out)⟩
  · rw [if_neg c3] at H
    have c3b0 : decide (80 < (l0.length : Int)) = false := decide_eq_false c3
    have c3b1 : decide (80 < l0.length) = false := decide_eq_false (by omega)
    clear c3
    replace H := Option.bind_eq_some_iff.mp H
    obtain ⟨t281, A70, H⟩ := H
    replace H : (gueritelaw15_RuleFirst.l0 k l0 t281 true 0 a1_0 a1_1 a1_2 a1_3 a1_4 a1_5 a1_6) = some r := H
    have A7 := Aside0.mk A70
    clear A70
    have H' := Aside0.mk H
    clear H
    go_enter Try.func7, Try.ntmps7
    go_wp2_with (first | ((with_reducible refine gate_dst (N := 3) rfl ?_); refine box_event ?hg (N := 3) ?hd (cs := #[.int .i64 a1_0, .int .i64 a1_1, .int .u32 a1_2, .int .u32 a1_3, .int .i64 a1_4, .int .i64 a1_5, .int .i64 a1_6]) (t := 46) ?hr ?_; (case hd => rfl); (case hg => rfl); (case hr => first | (go_simp; done) | (go_simp; rfl)); intro gb279 hg w8 hbox hb; have n0_ := Aside0.mk (below_step (by repeat (first | (with_reducible first | exact HB.out | apply below_alloc | apply pw_below_drewN | apply below_drew1) | exact HB.out)) hb); have n1_ := Aside0.mk (hbox); have n2_ := Aside0.mk ((by rw [hg]; exact (below_size (by repeat (first | (with_reducible first | exact HB.out | apply below_alloc | apply pw_below_drewN | apply below_drew1) | exact HB.out))) : w.heap.size ≤ gb279)); have n3_ := Aside0.mk ((by rw [hg]; exact (below_size (by repeat (first | (with_reducible first | exact HB.out | apply below_alloc | apply pw_below_drewN | apply below_drew1) | exact HB.out))) : w.heap.size ≤ gb279)); clear HB; have HB := n0_; have BK279 := n1_; have GW279 := n2_; have GE279 := n3_; clear n0_ n1_ n2_ n3_; clear hb hbox hg; have hcz9_0 : w8.cell? ⟨gb279, 0, none⟩ = some (.int .i64 a1_0) := (blk_cell BK279.out 0).trans rfl; have hcz9_1 : w8.cell? ⟨gb279, 1, none⟩ = some (.int .i64 a1_1) := (blk_cell BK279.out 1).trans rfl; have hcz9_2 : w8.cell? ⟨gb279, 2, none⟩ = some (.int .u32 a1_2) := (blk_cell BK279.out 2).trans rfl; have hcz9_3 : w8.cell? ⟨gb279, 3, none⟩ = some (.int .u32 a1_3) := (blk_cell BK279.out 3).trans rfl; have hcz9_4 : w8.cell? ⟨gb279, 4, none⟩ = some (.int .i64 a1_4) := (blk_cell BK279.out 4).trans rfl; have hcz9_5 : w8.cell? ⟨gb279, 5, none⟩ = some (.int .i64 a1_5) := (blk_cell BK279.out 5).trans rfl; have hcz9_6 : w8.cell? ⟨gb279, 6, none⟩ = some (.int .i64 a1_6) := (blk_cell BK279.out 6).trans rfl; have hfz9_0 := blk_frozen BK279.out 0; have hfz9_1 := blk_frozen BK279.out 1; have hfz9_2 := blk_frozen BK279.out 2; have hfz9_3 := blk_frozen BK279.out 3; have hfz9_4 := blk_frozen BK279.out 4; have hfz9_5 := blk_frozen BK279.out 5; have hfz9_6 := blk_frozen BK279.out 6) | ((with_reducible refine gate_callee (f := 22) rfl ?_); refine goesL_ (some 19) rfl rfl Try.func22 (by kernel_rfl) rfl #[.slice A0 l0.length c0, .int .i64 a1_0, .int .i64 a1_1, .agg #[.int .u32 a1_2, .int .u32 a1_3, .int .i64 a1_4, .int .i64 a1_5, .int .i64 a1_6]] rfl (by (try simp only [List.map_toArray, List.map_cons, List.map_nil]); first | done | rfl | (simp only [List.length_drop, List.length_take]; rfl)) ?_; (with_reducible refine (gueriteref15_First.calls k _ _ l0 a1_0 a1_1 a1_2 a1_3 a1_4 a1_5 a1_6 t281 _ ?side1 ?side2 A7.out).mono ?_); (case side1 => repeat (first | exact (Kd.C_below HR0.out HB.out) | (with_reducible refine Kd.C_alloc ?_ _) | (with_reducible refine Kd.C_drewN ?_ _) | (with_reducible refine Kd.C_drew ?_))); (case side2 => exact HC0.out); rintro e w10 ⟨rfl, hb⟩; refine ⟨_, rfl, ?_⟩; have n0_ := Aside0.mk (blk_below (g := gb279) (o := .cells #[.int .i64 a1_0, .int .i64 a1_1, .int .u32 a1_2, .int .u32 a1_3, .int .i64 a1_4, .int .i64 a1_5, .int .i64 a1_6] 46 (0, 0)) (by (with_reducible repeat (first | refine blk_drewN ?_ _ | refine blk_drew ?_ | refine blk_alloc ?_ _)); exact BK279.out) hb); have n1_ := Aside0.mk (below_step (by repeat (first | (with_reducible first | exact HB.out | apply below_alloc | apply pw_below_drewN | apply below_drew1 | refine below_set ?_ GE279.out) | exact HB.out)) hb); clear BK279; clear HB; have BK279 := n0_; have HB := n1_; clear n0_ n1_; (try clear hb); (try clear hb2); (try clear hk); (try clear hi)))
    go_loopg [6, 7] k (fun kq v6 v7 w' => ∃ (x6_1 : Bool) (x7_1 : Int), v6 = .bool x6_1 ∧ v7 = .int .i64 x7_1 ∧ Aside0 (gueritelaw15_RuleFirst.l0 kq l0 t281 x6_1 x7_1 a1_0 a1_1 a1_2 a1_3 a1_4 a1_5 a1_6 = some r) ∧ Aside0 (kq ≤ k) ∧ Aside0 (w'.heap[gb279]? = some (.cells #[.int .i64 a1_0, .int .i64 a1_1, .int .u32 a1_2, .int .u32 a1_3, .int .i64 a1_4, .int .i64 a1_5, .int .i64 a1_6] 46 (0, 0))) ∧ Aside0 (Below w.heap.size w w'))
    case atStart => exact ⟨(true), (0), (by first | rfl | (simp; done) | (simp [*]; done)), (by first | rfl | (simp; done) | (simp [*]; done)), H', ⟨Nat.le_refl _⟩, ⟨by (with_reducible repeat (first | refine blk_drewN ?_ _ | refine blk_drew ?_ | refine blk_alloc ?_ _)); exact BK279.out⟩, ⟨by repeat (first | (with_reducible first | exact HB.out | apply below_alloc | apply pw_below_drewN | apply below_drew1 | refine below_set ?_ GE279.out) | exact HB.out)⟩⟩
    case round =>
      clear H'
      try clear c1
      try clear c2
      try clear p2
      try clear c3
      try clear c3b0
      try clear c3b1
      try clear c7
      try clear hcz9_0
      try clear hcz9_1
      try clear hcz9_2
      try clear hcz9_3
      try clear hcz9_4
      try clear hcz9_5
      try clear hcz9_6
      try clear hfz9_0
      try clear hfz9_1
      try clear hfz9_2
      try clear hfz9_3
      try clear hfz9_4
      try clear hfz9_5
      try clear hfz9_6
      obtain ⟨x6_1, x7_1, rfl, rfl, HA, HK1, BK279, HB⟩ := hrel
      cases gk with
      | zero => exact absurd HA.out (by simp [gueritelaw15_RuleFirst.l0])
      | succ k1 =>
        have H := HA.out
        clear HA
        simp only [gueritelaw15_RuleFirst.l0] at H
        by_cases c11 : x7_1 < (l0.length : Int)
        · rw [if_pos c11] at H
          have c11b0 : decide (x7_1 < (l0.length : Int)) = true := decide_eq_true c11
          clear c11
          have HC12 := Aside0.mk H
          clear H
          go_upto_region 8 with (fail)
          go_cut [6] (fun v6 wc => ∃ (kq : Nat) (x6_11 : Bool), v6 = .bool x6_11 ∧ Aside0 (gueritelaw15_RuleFirst.j1 kq l0 t281 x6_11 x7_1 a1_0 a1_1 a1_2 a1_3 a1_4 a1_5 a1_6 = some r) ∧ Aside0 (kq ≤ k1) ∧ Aside0 (wc.heap[gb279]? = some (.cells #[.int .i64 a1_0, .int .i64 a1_1, .int .u32 a1_2, .int .u32 a1_3, .int .i64 a1_4, .int .i64 a1_5, .int .i64 a1_6] 46 (0, 0))) ∧ Aside0 (Below w.heap.size w wc))
          case first =>
            have H := HC12.out
            clear HC12
            by_cases c13 : x6_1 = true
            · subst c13
              have H1 : (if 0 ≤ x7_1 then ((gueriteref15_Right.f k1 ((rd_T42 l0 x7_1).f0) ((rd_T42 l0 x7_1).f1) ((rd_T42 l0 x7_1).f2.f0) ((rd_T42 l0 x7_1).f2.f1) ((rd_T42 l0 x7_1).f3.f0) ((rd_T42 l0 x7_1).f3.f1) ((rd_T42 l0 x7_1).f4) ((rd_T42 l0 x7_1).f5) ((rd_T42 l0 x7_1).f6) ((rd_T42 l0 x7_1).f7) ((rd_T42 l0 x7_1).f8) ((rd_T42 l0 x7_1).f9)).bind fun t283 => (gueritelaw15_RuleFirst.j1 k1 l0 t281 t283 x7_1 a1_0 a1_1 a1_2 a1_3 a1_4 a1_5 a1_6)) else (none)) = some r := by rw [if_pos rfl] at H; exact H
              clear H
              have H := H1
              clear H1
              by_cases c14 : 0 ≤ x7_1
              · rw [if_pos c14] at H
                have c14b0 : decide (0 ≤ x7_1) = true := decide_eq_true c14
                clear c14
                (first | rw [c14b0] | (simp only [i64_w, i32_w]; rw [c14b0]) | skip)
                replace H := Option.bind_eq_some_iff.mp H
                obtain ⟨t283, A150, H⟩ := H
                replace H : (gueritelaw15_RuleFirst.j1 k1 l0 t281 t283 x7_1 a1_0 a1_1 a1_2 a1_3 a1_4 a1_5 a1_6) = some r := H
                have A15 := Aside0.mk A150
                clear A150
                have H' := Aside0.mk H
                clear H
                have p282 : 0 ≤ (x7_1 : Int) := of_decide_eq_true (by first | (with_reducible assumption) | assumption)
                have q282 : x7_1 < (l0.length : Int) := of_decide_eq_true (by first | (with_reducible assumption) | assumption)
                obtain ⟨ad282, e282, hx282_0, hx282_1, hx282_2, hx282_3, hx282_4, hx282_5, hx282_6, hx282_7, hx282_8, hx282_9, hx282_10, hx282_11⟩ := at_T42 HR0.out x7_1 p282 q282
                cases e282
                replace hx282_0 := (HB.out.cell (World.block_lt_of_cell? w _ hx282_0)).trans hx282_0
                replace hx282_1 := (HB.out.cell (World.block_lt_of_cell? w _ hx282_1)).trans hx282_1
                replace hx282_2 := (HB.out.cell (World.block_lt_of_cell? w _ hx282_2)).trans hx282_2
                replace hx282_3 := (HB.out.cell (World.block_lt_of_cell? w _ hx282_3)).trans hx282_3
                replace hx282_4 := (HB.out.cell (World.block_lt_of_cell? w _ hx282_4)).trans hx282_4
                replace hx282_5 := (HB.out.cell (World.block_lt_of_cell? w _ hx282_5)).trans hx282_5
                replace hx282_6 := (HB.out.cell (World.block_lt_of_cell? w _ hx282_6)).trans hx282_6
                replace hx282_7 := (HB.out.cell (World.block_lt_of_cell? w _ hx282_7)).trans hx282_7
                replace hx282_8 := (HB.out.cell (World.block_lt_of_cell? w _ hx282_8)).trans hx282_8
                replace hx282_9 := (HB.out.cell (World.block_lt_of_cell? w _ hx282_9)).trans hx282_9
                replace hx282_10 := (HB.out.cell (World.block_lt_of_cell? w _ hx282_10)).trans hx282_10
                replace hx282_11 := (HB.out.cell (World.block_lt_of_cell? w _ hx282_11)).trans hx282_11
                replace p282 := eq_true p282
                replace q282 := eq_true q282
                go_wp2_with (first | (go_at_call 23; (with_reducible refine (gueriteref15_Right.calls k1 ((rd_T42 l0 x7_1).f0) ((rd_T42 l0 x7_1).f1) ((rd_T42 l0 x7_1).f2.f0) ((rd_T42 l0 x7_1).f2.f1) ((rd_T42 l0 x7_1).f3.f0) ((rd_T42 l0 x7_1).f3.f1) ((rd_T42 l0 x7_1).f4) ((rd_T42 l0 x7_1).f5) ((rd_T42 l0 x7_1).f6) ((rd_T42 l0 x7_1).f7) ((rd_T42 l0 x7_1).f8) ((rd_T42 l0 x7_1).f9) t283 _ A15.out).mono ?_); rintro e w16 ⟨rfl, hb⟩; have n0_ := Aside0.mk (blk_below (g := gb279) (o := .cells #[.int .i64 a1_0, .int .i64 a1_1, .int .u32 a1_2, .int .u32 a1_3, .int .i64 a1_4, .int .i64 a1_5, .int .i64 a1_6] 46 (0, 0)) (by (with_reducible repeat (first | refine blk_drewN ?_ _ | refine blk_drew ?_ | refine blk_alloc ?_ _)); exact BK279.out) hb); have n1_ := Aside0.mk (below_step (by repeat (first | (with_reducible first | exact HB.out | apply below_alloc | apply pw_below_drewN | apply below_drew1 | refine below_set ?_ GE279.out) | exact HB.out)) hb); clear BK279; clear HB; have BK279 := n0_; have HB := n1_; clear n0_ n1_; (try clear hb); (try clear hb2); (try clear hk); (try clear hi)))
                go_meet
                case rel => exact ⟨_, (t283), (by first | rfl | (simp; done) | (simp [*]; done)), H', ⟨by have := HK1.out; first | omega | exact Nat.le_refl _⟩, ⟨by (with_reducible repeat (first | refine blk_drewN ?_ _ | refine blk_drew ?_ | refine blk_alloc ?_ _)); exact BK279.out⟩, ⟨by repeat (first | (with_reducible first | exact HB.out | apply below_alloc | apply pw_below_drewN | apply below_drew1 | refine below_set ?_ GE279.out) | exact HB.out)⟩⟩
              · rw [if_neg c14] at H
                exact absurd H (by simp)
            · replace c13 := Bool.eq_false_iff.mpr c13
              subst c13
              have H1 : (gueritelaw15_RuleFirst.j1 k1 l0 t281 false x7_1 a1_0 a1_1 a1_2 a1_3 a1_4 a1_5 a1_6) = some r := by rw [if_neg (show ¬ (false = true) by decide)] at H; exact H
              clear H
              have H := H1
              clear H1
              have H' := Aside0.mk H
              clear H
              go_wp2
              go_meet
              case rel => exact ⟨_, (false), (by first | rfl | (simp; done) | (simp [*]; done)), H', ⟨by have := HK1.out; first | omega | exact Nat.le_refl _⟩, ⟨by (with_reducible repeat (first | refine blk_drewN ?_ _ | refine blk_drew ?_ | refine blk_alloc ?_ _)); exact BK279.out⟩, ⟨by repeat (first | (with_reducible first | exact HB.out | apply below_alloc | apply pw_below_drewN | apply below_drew1 | refine below_set ?_ GE279.out) | exact HB.out)⟩⟩
          case rest =>
            clear HC12
            try clear c1
            try clear c2
            try clear p2
            try clear q2
            try clear hx2
            try clear c3
            try clear c3b0
            try clear c3b1
            try clear c7
            try clear c11
            try clear c11b0
            try clear c13
            try clear c14
            try clear c14b0
            try clear hcz9_0
            try clear hcz9_1
            try clear hcz9_2
            try clear hcz9_3
            try clear hcz9_4
            try clear hcz9_5
            try clear hcz9_6
            try clear hfz9_0
            try clear hfz9_1
            try clear hfz9_2
            try clear hfz9_3
            try clear hfz9_4
            try clear hfz9_5
            try clear hfz9_6
            try clear hx282_0
            try clear hx282_1
            try clear hx282_10
            try clear hx282_11
            try clear hx282_2
            try clear hx282_3
            try clear hx282_4
            try clear hx282_5
            try clear hx282_6
            try clear hx282_7
            try clear hx282_8
            try clear hx282_9
            try clear p2
            try clear p282
            try clear q282
            obtain ⟨kq, x6_11, rfl, HA, HJ11, BK279, HB⟩ := hcut
            cases kq with
            | zero => exact absurd HA.out (by simp [gueritelaw15_RuleFirst.j1])
            | succ kj11 =>
              have H := HA.out
              clear HA
              simp only [gueritelaw15_RuleFirst.j1] at H
              by_cases c17 : 0 ≤ x7_1
              · rw [if_pos c17] at H
                have c17b0 : decide (0 ≤ x7_1) = true := decide_eq_true c17
                clear c17
                by_cases c18 : x7_1 < (l0.length : Int)
                · rw [if_pos c18] at H
                  have c18b0 : decide (x7_1 < (l0.length : Int)) = true := decide_eq_true c18
                  clear c18
                  replace H := Option.bind_eq_some_iff.mp H
                  obtain ⟨t285, A190, H⟩ := H
                  replace H : ((gueriteref15_Matches.f kj11 ((rd_T42 l0 x7_1).f0) ((rd_T42 l0 x7_1).f1) ((rd_T42 l0 x7_1).f2.f0) ((rd_T42 l0 x7_1).f2.f1) ((rd_T42 l0 x7_1).f3.f0) ((rd_T42 l0 x7_1).f3.f1) ((rd_T42 l0 x7_1).f4) ((rd_T42 l0 x7_1).f5) ((rd_T42 l0 x7_1).f6) ((rd_T42 l0 x7_1).f7) ((rd_T42 l0 x7_1).f8) ((rd_T42 l0 x7_1).f9) a1_0 a1_1 a1_2 a1_3 a1_4 a1_5 a1_6).bind fun t287 => (if (t285 != t287) = true then (some false) else (gueritelaw15_RuleFirst.l0 kj11 l0 t281 x6_11 (wrap64 (x7_1 + 1)) a1_0 a1_1 a1_2 a1_3 a1_4 a1_5 a1_6))) = some r := H
                  have A19 := Aside0.mk A190
                  clear A190
                  replace H := Option.bind_eq_some_iff.mp H
                  obtain ⟨t287, A200, H⟩ := H
                  replace H : (if (t285 != t287) = true then (some false) else (gueritelaw15_RuleFirst.l0 kj11 l0 t281 x6_11 (wrap64 (x7_1 + 1)) a1_0 a1_1 a1_2 a1_3 a1_4 a1_5 a1_6)) = some r := H
                  have A20 := Aside0.mk A200
                  clear A200
                  by_cases c21 : (t285 != t287) = true
                  · rw [if_pos c21] at H
                    have c21b0 : (t285 != t287) = true := c21
                    (try (have c21b1 : decide (t285 = t287) = false := by simpa using c21))
                    (try (have c21b2 : (t285 == t287) = false := by simpa using c21))
                    (try (have c21b3 : ¬ (t285 = t287) := by simpa using c21))
                    clear c21
                    obtain rfl := Option.some.inj H
                    try go_wp2
                    have n0_ := Aside0.mk (blk_drew BK279.out)
                    have n1_ := Aside0.mk (below_drew1 HB.out)
                    clear BK279
                    clear HB
                    have BK279 := n0_
                    have HB := n1_
                    clear n0_ n1_
                    have p284 : 0 ≤ (x7_1 : Int) := of_decide_eq_true (by first | (with_reducible assumption) | assumption)
                    have q284 : x7_1 < (l0.length : Int) := of_decide_eq_true (by first | (with_reducible assumption) | assumption)
                    obtain ⟨ad284, e284, hx284_0, hx284_1, hx284_2, hx284_3, hx284_4, hx284_5, hx284_6, hx284_7, hx284_8, hx284_9, hx284_10, hx284_11⟩ := at_T42 HR0.out x7_1 p284 q284
                    have hw284_11 := hx284_11
                    have hw284_10 := hx284_10
                    have hw284_9 := hx284_9
                    have hw284_8 := hx284_8
                    have hw284_7 := hx284_7
                    have hw284_6 := hx284_6
                    have hw284_5 := hx284_5
                    have hw284_4 := hx284_4
                    have hw284_3 := hx284_3
                    have hw284_2 := hx284_2
                    have hw284_1 := hx284_1
                    have hw284_0 := hx284_0
                    cases e284
                    replace hx284_0 := (HB.out.cell (World.block_lt_of_cell? w _ hx284_0)).trans hx284_0
                    replace hx284_1 := (HB.out.cell (World.block_lt_of_cell? w _ hx284_1)).trans hx284_1
                    replace hx284_2 := (HB.out.cell (World.block_lt_of_cell? w _ hx284_2)).trans hx284_2
                    replace hx284_3 := (HB.out.cell (World.block_lt_of_cell? w _ hx284_3)).trans hx284_3
                    replace hx284_4 := (HB.out.cell (World.block_lt_of_cell? w _ hx284_4)).trans hx284_4
                    replace hx284_5 := (HB.out.cell (World.block_lt_of_cell? w _ hx284_5)).trans hx284_5
                    replace hx284_6 := (HB.out.cell (World.block_lt_of_cell? w _ hx284_6)).trans hx284_6
                    replace hx284_7 := (HB.out.cell (World.block_lt_of_cell? w _ hx284_7)).trans hx284_7
                    replace hx284_8 := (HB.out.cell (World.block_lt_of_cell? w _ hx284_8)).trans hx284_8
                    replace hx284_9 := (HB.out.cell (World.block_lt_of_cell? w _ hx284_9)).trans hx284_9
                    replace hx284_10 := (HB.out.cell (World.block_lt_of_cell? w _ hx284_10)).trans hx284_10
                    replace hx284_11 := (HB.out.cell (World.block_lt_of_cell? w _ hx284_11)).trans hx284_11
                    replace p284 := eq_true p284
                    replace q284 := eq_true q284
                    have p286 : 0 ≤ (x7_1 : Int) := of_decide_eq_true (by first | (with_reducible assumption) | assumption)
                    have q286 : x7_1 < (l0.length : Int) := of_decide_eq_true (by first | (with_reducible assumption) | assumption)
                    obtain ⟨ad286, e286, hx286_0, hx286_1, hx286_2, hx286_3, hx286_4, hx286_5, hx286_6, hx286_7, hx286_8, hx286_9, hx286_10, hx286_11⟩ := at_T42 HR0.out x7_1 p286 q286
                    have hw286_11 := hx286_11
                    have hw286_10 := hx286_10
                    have hw286_9 := hx286_9
                    have hw286_8 := hx286_8
                    have hw286_7 := hx286_7
                    have hw286_6 := hx286_6
                    have hw286_5 := hx286_5
                    have hw286_4 := hx286_4
                    have hw286_3 := hx286_3
                    have hw286_2 := hx286_2
                    have hw286_1 := hx286_1
                    have hw286_0 := hx286_0
                    obtain rfl : ad284 = ad286 := (by injection e286)
                    replace hx286_0 := (HB.out.cell (World.block_lt_of_cell? w _ hx286_0)).trans hx286_0
                    replace hx286_1 := (HB.out.cell (World.block_lt_of_cell? w _ hx286_1)).trans hx286_1
                    replace hx286_2 := (HB.out.cell (World.block_lt_of_cell? w _ hx286_2)).trans hx286_2
                    replace hx286_3 := (HB.out.cell (World.block_lt_of_cell? w _ hx286_3)).trans hx286_3
                    replace hx286_4 := (HB.out.cell (World.block_lt_of_cell? w _ hx286_4)).trans hx286_4
                    replace hx286_5 := (HB.out.cell (World.block_lt_of_cell? w _ hx286_5)).trans hx286_5
                    replace hx286_6 := (HB.out.cell (World.block_lt_of_cell? w _ hx286_6)).trans hx286_6
                    replace hx286_7 := (HB.out.cell (World.block_lt_of_cell? w _ hx286_7)).trans hx286_7
                    replace hx286_8 := (HB.out.cell (World.block_lt_of_cell? w _ hx286_8)).trans hx286_8
                    replace hx286_9 := (HB.out.cell (World.block_lt_of_cell? w _ hx286_9)).trans hx286_9
                    replace hx286_10 := (HB.out.cell (World.block_lt_of_cell? w _ hx286_10)).trans hx286_10
                    replace hx286_11 := (HB.out.cell (World.block_lt_of_cell? w _ hx286_11)).trans hx286_11
                    replace p286 := eq_true p286
                    replace q286 := eq_true q286
                    refine start_ (n := 18) (S := fun w' => w'.cell? ⟨gb279, 0, none⟩ = some (.int .i64 a1_0) ∧ w'.cell? ⟨gb279, 1, none⟩ = some (.int .i64 a1_1) ∧ w'.cell? ⟨gb279, 2, none⟩ = some (.int .u32 a1_2) ∧ w'.cell? ⟨gb279, 3, none⟩ = some (.int .u32 a1_3) ∧ w'.cell? ⟨gb279, 4, none⟩ = some (.int .i64 a1_4) ∧ w'.cell? ⟨gb279, 5, none⟩ = some (.int .i64 a1_5) ∧ w'.cell? ⟨gb279, 6, none⟩ = some (.int .i64 a1_6) ∧ w'.cell? (ad284.add ((x7_1).toNat * 12)) = some (.int .i64 ((rd_T42 l0 x7_1).f0)) ∧ w'.cell? ⟨(ad284.add ((x7_1).toNat * 12)).block, (ad284.add ((x7_1).toNat * 12)).off + 1, none⟩ = some (.int .i64 ((rd_T42 l0 x7_1).f1)) ∧ w'.cell? ⟨(ad284.add ((x7_1).toNat * 12)).block, (ad284.add ((x7_1).toNat * 12)).off + 2, none⟩ = some (.int .u32 ((rd_T42 l0 x7_1).f2.f0)) ∧ w'.cell? ⟨(ad284.add ((x7_1).toNat * 12)).block, (ad284.add ((x7_1).toNat * 12)).off + 3, none⟩ = some (.int .i64 ((rd_T42 l0 x7_1).f2.f1)) ∧ w'.cell? ⟨(ad284.add ((x7_1).toNat * 12)).block, (ad284.add ((x7_1).toNat * 12)).off + 4, none⟩ = some (.int .u32 ((rd_T42 l0 x7_1).f3.f0)) ∧ w'.cell? ⟨(ad284.add ((x7_1).toNat * 12)).block, (ad284.add ((x7_1).toNat * 12)).off + 5, none⟩ = some (.int .i64 ((rd_T42 l0 x7_1).f3.f1)) ∧ w'.cell? ⟨(ad284.add ((x7_1).toNat * 12)).block, (ad284.add ((x7_1).toNat * 12)).off + 6, none⟩ = some (.int .i64 ((rd_T42 l0 x7_1).f4)) ∧ w'.cell? ⟨(ad284.add ((x7_1).toNat * 12)).block, (ad284.add ((x7_1).toNat * 12)).off + 7, none⟩ = some (.int .i64 ((rd_T42 l0 x7_1).f5)) ∧ w'.cell? ⟨(ad284.add ((x7_1).toNat * 12)).block, (ad284.add ((x7_1).toNat * 12)).off + 8, none⟩ = some (.int .i64 ((rd_T42 l0 x7_1).f6)) ∧ w'.cell? ⟨(ad284.add ((x7_1).toNat * 12)).block, (ad284.add ((x7_1).toNat * 12)).off + 9, none⟩ = some (.int .i64 ((rd_T42 l0 x7_1).f7)) ∧ w'.cell? ⟨(ad284.add ((x7_1).toNat * 12)).block, (ad284.add ((x7_1).toNat * 12)).off + 10, none⟩ = some (.int .i64 ((rd_T42 l0 x7_1).f8)) ∧ w'.cell? ⟨(ad284.add ((x7_1).toNat * 12)).block, (ad284.add ((x7_1).toNat * 12)).off + 11, none⟩ = some (.bool ((rd_T42 l0 x7_1).f9)) ∧ w'.cell? (ad284.add ((x7_1).toNat * 12)) = some (.int .i64 ((rd_T42 l0 x7_1).f0)) ∧ w'.cell? ⟨(ad284.add ((x7_1).toNat * 12)).block, (ad284.add ((x7_1).toNat * 12)).off + 1, none⟩ = some (.int .i64 ((rd_T42 l0 x7_1).f1)) ∧ w'.cell? ⟨(ad284.add ((x7_1).toNat * 12)).block, (ad284.add ((x7_1).toNat * 12)).off + 2, none⟩ = some (.int .u32 ((rd_T42 l0 x7_1).f2.f0)) ∧ w'.cell? ⟨(ad284.add ((x7_1).toNat * 12)).block, (ad284.add ((x7_1).toNat * 12)).off + 3, none⟩ = some (.int .i64 ((rd_T42 l0 x7_1).f2.f1)) ∧ w'.cell? ⟨(ad284.add ((x7_1).toNat * 12)).block, (ad284.add ((x7_1).toNat * 12)).off + 4, none⟩ = some (.int .u32 ((rd_T42 l0 x7_1).f3.f0)) ∧ w'.cell? ⟨(ad284.add ((x7_1).toNat * 12)).block, (ad284.add ((x7_1).toNat * 12)).off + 5, none⟩ = some (.int .i64 ((rd_T42 l0 x7_1).f3.f1)) ∧ w'.cell? ⟨(ad284.add ((x7_1).toNat * 12)).block, (ad284.add ((x7_1).toNat * 12)).off + 6, none⟩ = some (.int .i64 ((rd_T42 l0 x7_1).f4)) ∧ w'.cell? ⟨(ad284.add ((x7_1).toNat * 12)).block, (ad284.add ((x7_1).toNat * 12)).off + 7, none⟩ = some (.int .i64 ((rd_T42 l0 x7_1).f5)) ∧ w'.cell? ⟨(ad284.add ((x7_1).toNat * 12)).block, (ad284.add ((x7_1).toNat * 12)).off + 8, none⟩ = some (.int .i64 ((rd_T42 l0 x7_1).f6)) ∧ w'.cell? ⟨(ad284.add ((x7_1).toNat * 12)).block, (ad284.add ((x7_1).toNat * 12)).off + 9, none⟩ = some (.int .i64 ((rd_T42 l0 x7_1).f7)) ∧ w'.cell? ⟨(ad284.add ((x7_1).toNat * 12)).block, (ad284.add ((x7_1).toNat * 12)).off + 10, none⟩ = some (.int .i64 ((rd_T42 l0 x7_1).f8)) ∧ w'.cell? ⟨(ad284.add ((x7_1).toNat * 12)).block, (ad284.add ((x7_1).toNat * 12)).off + 11, none⟩ = some (.bool ((rd_T42 l0 x7_1).f9))) (ds := []) #[false, false, false, false, false, false, false, false, false, false, false, false, false, false, false, false, false, false] (by kernel_rfl) rfl rfl ⟨(blk_cell BK279.out 0).trans rfl, (blk_cell BK279.out 1).trans rfl, (blk_cell BK279.out 2).trans rfl, (blk_cell BK279.out 3).trans rfl, (blk_cell BK279.out 4).trans rfl, (blk_cell BK279.out 5).trans rfl, (blk_cell BK279.out 6).trans rfl, ((HB.out.cell (World.block_lt_of_cell? w _ hw284_0)).trans hw284_0), ((HB.out.cell (World.block_lt_of_cell? w _ hw284_1)).trans hw284_1), ((HB.out.cell (World.block_lt_of_cell? w _ hw284_2)).trans hw284_2), ((HB.out.cell (World.block_lt_of_cell? w _ hw284_3)).trans hw284_3), ((HB.out.cell (World.block_lt_of_cell? w _ hw284_4)).trans hw284_4), ((HB.out.cell (World.block_lt_of_cell? w _ hw284_5)).trans hw284_5), ((HB.out.cell (World.block_lt_of_cell? w _ hw284_6)).trans hw284_6), ((HB.out.cell (World.block_lt_of_cell? w _ hw284_7)).trans hw284_7), ((HB.out.cell (World.block_lt_of_cell? w _ hw284_8)).trans hw284_8), ((HB.out.cell (World.block_lt_of_cell? w _ hw284_9)).trans hw284_9), ((HB.out.cell (World.block_lt_of_cell? w _ hw284_10)).trans hw284_10), ((HB.out.cell (World.block_lt_of_cell? w _ hw284_11)).trans hw284_11), ((HB.out.cell (World.block_lt_of_cell? w _ hw286_0)).trans hw286_0), ((HB.out.cell (World.block_lt_of_cell? w _ hw286_1)).trans hw286_1), ((HB.out.cell (World.block_lt_of_cell? w _ hw286_2)).trans hw286_2), ((HB.out.cell (World.block_lt_of_cell? w _ hw286_3)).trans hw286_3), ((HB.out.cell (World.block_lt_of_cell? w _ hw286_4)).trans hw286_4), ((HB.out.cell (World.block_lt_of_cell? w _ hw286_5)).trans hw286_5), ((HB.out.cell (World.block_lt_of_cell? w _ hw286_6)).trans hw286_6), ((HB.out.cell (World.block_lt_of_cell? w _ hw286_7)).trans hw286_7), ((HB.out.cell (World.block_lt_of_cell? w _ hw286_8)).trans hw286_8), ((HB.out.cell (World.block_lt_of_cell? w _ hw286_9)).trans hw286_9), ((HB.out.cell (World.block_lt_of_cell? w _ hw286_10)).trans hw286_10), ((HB.out.cell (World.block_lt_of_cell? w _ hw286_11)).trans hw286_11)⟩ (fun hHeld => ?_); refine with_tabW gueritelaw15_RuleFirst.tab9 gueritelaw15_RuleFirst.bits9 (fun HT_ HW_ => ?_)
                    generalize wc.drew = w22 at BK279 HB hx284_0 hx284_1 hx284_10 hx284_11 hx284_2 hx284_3 hx284_4 hx284_5 hx284_6 hx284_7 hx284_8 hx284_9 hx286_0 hx286_1 hx286_10 hx286_11 hx286_2 hx286_3 hx286_4 hx286_5 hx286_6 hx286_7 hx286_8 hx286_9 hHeld ⊢
                    refine pure_ (i := 0) (N := some 34) (v := ?_) (a' := ?_) #[true, false, false, false, false, false, false, false, false, false, false, false, false, false, false, false, false, false] rfl rfl (any_of HT_.out (by kernel_rfl)) (fun _ _ _ h => h) (Or.inl ⟨by rfl, ?_⟩) ?_ ?_
                    rotate_left
                    · intro w'
                      go_simp
                      with_reducible rfl
                    rotate_left
                    · simp only [Act.put, List.setIfInBounds_toArray, List.set_cons_zero, List.set_cons_succ, i64_w, i32_w]
                      rfl
                    refine pure_ (i := 1) (N := some 35) (v := ?_) (a' := ?_) #[true, true, false, false, false, false, false, false, false, false, false, false, false, false, false, false, false, false] rfl rfl (any_of HT_.out (by kernel_rfl)) (fun _ _ _ h => h) (Or.inl ⟨by rfl, ?_⟩) ?_ ?_
                    rotate_left
                    · intro w'
                      go_simp
                      with_reducible rfl
                    rotate_left
                    · simp only [Act.put, List.setIfInBounds_toArray, List.set_cons_zero, List.set_cons_succ, i64_w, i32_w]
                      rfl
                    refine pure_ (i := 2) (N := some 36) (v := ?_) (a' := ?_) #[true, true, true, false, false, false, false, false, false, false, false, false, false, false, false, false, false, false] rfl rfl (any_of HT_.out (by kernel_rfl)) (fun _ _ _ h => h) (Or.inl ⟨by rfl, ?_⟩) ?_ ?_
                    rotate_left
                    · intro w'
                      go_simp
                      with_reducible rfl
                    rotate_left
                    · simp only [Act.put, List.setIfInBounds_toArray, List.set_cons_zero, List.set_cons_succ, i64_w, i32_w]
                      rfl
                    refine pure_ (i := 6) (N := some 40) (v := ?_) (a' := ?_) #[true, true, true, false, false, false, true, false, false, false, false, false, false, false, false, false, false, false] rfl rfl (any_of HT_.out (by kernel_rfl)) (fun _ _ _ h => h) (Or.inl ⟨by rfl, ?_⟩) ?_ ?_
                    rotate_left
                    · intro w'
                      go_simp
                      with_reducible rfl
                    rotate_left
                    · simp only [Act.put, List.setIfInBounds_toArray, List.set_cons_zero, List.set_cons_succ, i64_w, i32_w]
                      rfl
                    refine pure_ (i := 7) (N := some 41) (v := ?_) (a' := ?_) #[true, true, true, false, false, false, true, true, false, false, false, false, false, false, false, false, false, false] rfl rfl (any_of HT_.out (by kernel_rfl)) (fun _ _ _ h => h) (Or.inl ⟨by rfl, ?_⟩) ?_ ?_
                    rotate_left
                    · intro w'
                      go_simp
                      with_reducible rfl
                    rotate_left
                    · simp only [Act.put, List.setIfInBounds_toArray, List.set_cons_zero, List.set_cons_succ, i64_w, i32_w]
                      rfl
                    refine pure_ (i := 8) (N := some 42) (v := ?_) (a' := ?_) #[true, true, true, false, false, false, true, true, true, false, false, false, false, false, false, false, false, false] rfl rfl (any_of HT_.out (by kernel_rfl)) (fun _ _ _ h => h) (Or.inl ⟨by rfl, ?_⟩) ?_ ?_
                    rotate_left
                    · intro w'
                      go_simp
                      with_reducible rfl
                    rotate_left
                    · simp only [Act.put, List.setIfInBounds_toArray, List.set_cons_zero, List.set_cons_succ, i64_w, i32_w]
                      rfl
                    refine pure_ (i := 10) (N := some 44) (v := ?_) (a' := ?_) #[true, true, true, false, false, false, true, true, true, false, true, false, false, false, false, false, false, false] rfl rfl (any_of HT_.out (by kernel_rfl)) (fun _ _ _ h => h) (Or.inl ⟨by rfl, ?_⟩) ?_ ?_
                    rotate_left
                    · intro w'
                      go_simp
                      with_reducible rfl
                    rotate_left
                    · simp only [Act.put, List.setIfInBounds_toArray, List.set_cons_zero, List.set_cons_succ, i64_w, i32_w]
                      rfl
                    refine pure_ (i := 12) (N := some 46) (v := ?_) (a' := ?_) #[true, true, true, false, false, false, true, true, true, false, true, false, true, false, false, false, false, false] rfl rfl (any_of HT_.out (by kernel_rfl)) (fun _ _ _ h => h) (Or.inl ⟨by rfl, ?_⟩) ?_ ?_
                    rotate_left
                    · intro w'
                      go_simp
                      with_reducible rfl
                    rotate_left
                    · simp only [Act.put, List.setIfInBounds_toArray, List.set_cons_zero, List.set_cons_succ, i64_w, i32_w]
                      rfl
                    refine pure_ (i := 14) (N := some 48) (v := ?_) (a' := ?_) #[true, true, true, false, false, false, true, true, true, false, true, false, true, false, true, false, false, false] rfl rfl (any_of HT_.out (by kernel_rfl)) (fun _ _ _ h => h) (Or.inl ⟨by rfl, ?_⟩) ?_ ?_
                    rotate_left
                    · intro w'
                      go_simp
                      with_reducible rfl
                    rotate_left
                    · simp only [Act.put, List.setIfInBounds_toArray, List.set_cons_zero, List.set_cons_succ, i64_w, i32_w]
                      rfl
                    refine take_ (i := 3) (N := some 37) (v := ?_) (a' := ?_) #[true, true, true, true, false, false, true, true, true, false, true, false, true, false, true, false, false, false] rfl rfl (take_ofW HT_.out HW_.out (by kernel_rfl)) (fun _ _ _ h => h) (Or.inl ⟨by rfl, ?_⟩) hHeld ?_ ?_
                    rotate_left
                    · rintro w' ⟨s0, s1, s2, s3, s4, s5, s6, s7, s8, s9, s10, s11, s12, s13, s14, s15, s16, s17, s18, s19, s20, s21, s22, s23, s24, s25, s26, s27, s28, s29, s30⟩
                      go_simp
                      with_reducible rfl
                    rotate_left
                    · simp only [Act.put, List.setIfInBounds_toArray, List.set_cons_zero, List.set_cons_succ, i64_w, i32_w]
                      rfl
                    refine take_ (i := 4) (N := some 38) (v := ?_) (a' := ?_) #[true, true, true, true, true, false, true, true, true, false, true, false, true, false, true, false, false, false] rfl rfl (take_ofW HT_.out HW_.out (by kernel_rfl)) (fun _ _ _ h => h) (Or.inl ⟨by rfl, ?_⟩) hHeld ?_ ?_
                    rotate_left
                    · rintro w' ⟨s0, s1, s2, s3, s4, s5, s6, s7, s8, s9, s10, s11, s12, s13, s14, s15, s16, s17, s18, s19, s20, s21, s22, s23, s24, s25, s26, s27, s28, s29, s30⟩
                      go_simp
                      with_reducible rfl
                    rotate_left
                    · simp only [Act.put, List.setIfInBounds_toArray, List.set_cons_zero, List.set_cons_succ, i64_w, i32_w]
                      rfl
                    refine take_ (i := 9) (N := some 43) (v := ?_) (a' := ?_) #[true, true, true, true, true, false, true, true, true, true, true, false, true, false, true, false, false, false] rfl rfl (take_ofW HT_.out HW_.out (by kernel_rfl)) (fun _ _ _ h => h) (Or.inl ⟨by rfl, ?_⟩) hHeld ?_ ?_
                    rotate_left
                    · rintro w' ⟨s0, s1, s2, s3, s4, s5, s6, s7, s8, s9, s10, s11, s12, s13, s14, s15, s16, s17, s18, s19, s20, s21, s22, s23, s24, s25, s26, s27, s28, s29, s30⟩
                      go_simp
                      with_reducible rfl
                    rotate_left
                    · simp only [Act.put, List.setIfInBounds_toArray, List.set_cons_zero, List.set_cons_succ, i64_w, i32_w]
                      rfl
                    refine take_ (i := 11) (N := some 45) (v := ?_) (a' := ?_) #[true, true, true, true, true, false, true, true, true, true, true, true, true, false, true, false, false, false] rfl rfl (take_ofW HT_.out HW_.out (by kernel_rfl)) (fun _ _ _ h => h) (Or.inl ⟨by rfl, ?_⟩) hHeld ?_ ?_
                    rotate_left
                    · rintro w' ⟨s0, s1, s2, s3, s4, s5, s6, s7, s8, s9, s10, s11, s12, s13, s14, s15, s16, s17, s18, s19, s20, s21, s22, s23, s24, s25, s26, s27, s28, s29, s30⟩
                      go_simp
                      with_reducible rfl
                    rotate_left
                    · simp only [Act.put, List.setIfInBounds_toArray, List.set_cons_zero, List.set_cons_succ, i64_w, i32_w]
                      rfl
                    refine take_ (i := 13) (N := some 47) (v := ?_) (a' := ?_) #[true, true, true, true, true, false, true, true, true, true, true, true, true, true, true, false, false, false] rfl rfl (take_ofW HT_.out HW_.out (by kernel_rfl)) (fun _ _ _ h => h) (Or.inl ⟨by rfl, ?_⟩) hHeld ?_ ?_
                    rotate_left
                    · rintro w' ⟨s0, s1, s2, s3, s4, s5, s6, s7, s8, s9, s10, s11, s12, s13, s14, s15, s16, s17, s18, s19, s20, s21, s22, s23, s24, s25, s26, s27, s28, s29, s30⟩
                      go_simp
                      with_reducible rfl
                    rotate_left
                    · simp only [Act.put, List.setIfInBounds_toArray, List.set_cons_zero, List.set_cons_succ, i64_w, i32_w]
                      rfl
                    refine take_ (i := 15) (N := some 49) (v := ?_) (a' := ?_) #[true, true, true, true, true, false, true, true, true, true, true, true, true, true, true, true, false, false] rfl rfl (take_ofW HT_.out HW_.out (by kernel_rfl)) (fun _ _ _ h => h) (Or.inl ⟨by rfl, ?_⟩) hHeld ?_ ?_
                    rotate_left
                    · rintro w' ⟨s0, s1, s2, s3, s4, s5, s6, s7, s8, s9, s10, s11, s12, s13, s14, s15, s16, s17, s18, s19, s20, s21, s22, s23, s24, s25, s26, s27, s28, s29, s30⟩
                      go_simp
                      with_reducible rfl
                    rotate_left
                    · simp only [Act.put, List.setIfInBounds_toArray, List.set_cons_zero, List.set_cons_succ, i64_w, i32_w]
                      rfl
                    refine one_ (i := 5) (N := some 39) #[true, true, true, true, true, true, true, true, true, true, true, true, true, true, true, true, false, false] rfl rfl (one_of HT_.out (by kernel_rfl)) (by decide) (fun K hK => ?_)
                    refine goes_ Try.func21 (by kernel_rfl) rfl #[.agg #[.int .i64 ((rd_T42 l0 x7_1).f0), .int .i64 ((rd_T42 l0 x7_1).f1), .int .u32 ((rd_T42 l0 x7_1).f2.f0), .int .i64 ((rd_T42 l0 x7_1).f2.f1), .int .u32 ((rd_T42 l0 x7_1).f3.f0), .int .i64 ((rd_T42 l0 x7_1).f3.f1), .int .i64 ((rd_T42 l0 x7_1).f4), .int .i64 ((rd_T42 l0 x7_1).f5), .int .i64 ((rd_T42 l0 x7_1).f6), .int .i64 ((rd_T42 l0 x7_1).f7), .int .i64 ((rd_T42 l0 x7_1).f8), .bool ((rd_T42 l0 x7_1).f9)], .agg #[.int .i64 a1_0, .int .i64 a1_1, .int .u32 a1_2, .int .u32 a1_3, .int .i64 a1_4, .int .i64 a1_5, .int .i64 a1_6]] (by rfl) rfl rfl (by (try simp only [List.map_toArray, List.map_cons, List.map_nil]); first | done | rfl | (simp only [List.length_drop, List.length_take]; rfl)) ?_
                    with_reducible refine (rule_Matches.calls kj11 ((rd_T42 l0 x7_1).f0) ((rd_T42 l0 x7_1).f1) ((rd_T42 l0 x7_1).f2.f0) ((rd_T42 l0 x7_1).f2.f1) ((rd_T42 l0 x7_1).f3.f0) ((rd_T42 l0 x7_1).f3.f1) ((rd_T42 l0 x7_1).f4) ((rd_T42 l0 x7_1).f5) ((rd_T42 l0 x7_1).f6) ((rd_T42 l0 x7_1).f7) ((rd_T42 l0 x7_1).f8) ((rd_T42 l0 x7_1).f9) a1_0 a1_1 a1_2 a1_3 a1_4 a1_5 a1_6 t285 _ A19.out).mono ?_
                    rintro e w23 ⟨rfl, hb⟩
                    refine ⟨_, rfl, ?_⟩
                    have n0_ := Aside0.mk (blk_below (g := gb279) (o := .cells #[.int .i64 a1_0, .int .i64 a1_1, .int .u32 a1_2, .int .u32 a1_3, .int .i64 a1_4, .int .i64 a1_5, .int .i64 a1_6] 46 (0, 0)) (by (with_reducible repeat (first | refine blk_drewN ?_ _ | refine blk_drew ?_ | refine blk_alloc ?_ _)); exact BK279.out) hb)
                    have n1_ := Aside0.mk (below_step (by repeat (first | (with_reducible first | exact HB.out | apply below_alloc | apply pw_below_drewN | apply below_drew1 | refine below_set ?_ GE279.out) | exact HB.out)) hb)
                    clear BK279
                    clear HB
                    have BK279 := n0_
                    have HB := n1_
                    clear n0_ n1_
                    (try clear hb)
                    (try clear hb2)
                    (try clear hk)
                    (try clear hi)
                    refine hK.out _ _ ⟨(blk_cell BK279.out 0).trans rfl, (blk_cell BK279.out 1).trans rfl, (blk_cell BK279.out 2).trans rfl, (blk_cell BK279.out 3).trans rfl, (blk_cell BK279.out 4).trans rfl, (blk_cell BK279.out 5).trans rfl, (blk_cell BK279.out 6).trans rfl, ((HB.out.cell (World.block_lt_of_cell? w _ hw284_0)).trans hw284_0), ((HB.out.cell (World.block_lt_of_cell? w _ hw284_1)).trans hw284_1), ((HB.out.cell (World.block_lt_of_cell? w _ hw284_2)).trans hw284_2), ((HB.out.cell (World.block_lt_of_cell? w _ hw284_3)).trans hw284_3), ((HB.out.cell (World.block_lt_of_cell? w _ hw284_4)).trans hw284_4), ((HB.out.cell (World.block_lt_of_cell? w _ hw284_5)).trans hw284_5), ((HB.out.cell (World.block_lt_of_cell? w _ hw284_6)).trans hw284_6), ((HB.out.cell (World.block_lt_of_cell? w _ hw284_7)).trans hw284_7), ((HB.out.cell (World.block_lt_of_cell? w _ hw284_8)).trans hw284_8), ((HB.out.cell (World.block_lt_of_cell? w _ hw284_9)).trans hw284_9), ((HB.out.cell (World.block_lt_of_cell? w _ hw284_10)).trans hw284_10), ((HB.out.cell (World.block_lt_of_cell? w _ hw284_11)).trans hw284_11), ((HB.out.cell (World.block_lt_of_cell? w _ hw286_0)).trans hw286_0), ((HB.out.cell (World.block_lt_of_cell? w _ hw286_1)).trans hw286_1), ((HB.out.cell (World.block_lt_of_cell? w _ hw286_2)).trans hw286_2), ((HB.out.cell (World.block_lt_of_cell? w _ hw286_3)).trans hw286_3), ((HB.out.cell (World.block_lt_of_cell? w _ hw286_4)).trans hw286_4), ((HB.out.cell (World.block_lt_of_cell? w _ hw286_5)).trans hw286_5), ((HB.out.cell (World.block_lt_of_cell? w _ hw286_6)).trans hw286_6), ((HB.out.cell (World.block_lt_of_cell? w _ hw286_7)).trans hw286_7), ((HB.out.cell (World.block_lt_of_cell? w _ hw286_8)).trans hw286_8), ((HB.out.cell (World.block_lt_of_cell? w _ hw286_9)).trans hw286_9), ((HB.out.cell (World.block_lt_of_cell? w _ hw286_10)).trans hw286_10), ((HB.out.cell (World.block_lt_of_cell? w _ hw286_11)).trans hw286_11)⟩ (fun hHeld => ?_)
                    clear hK K
                    refine norm_ (a' := ?_) ?_ ?_
                    rotate_left
                    · show Act.put _ (some 39) _ = _
                      simp only [Act.put, List.setIfInBounds_toArray, List.set_cons_zero, List.set_cons_succ, i64_w, i32_w]
                      rfl
                    refine one_ (i := 16) (N := some 50) #[true, true, true, true, true, true, true, true, true, true, true, true, true, true, true, true, true, false] rfl rfl (one_of HT_.out (by kernel_rfl)) (by decide) (fun K hK => ?_)
                    refine goes_ Try.func24 (by kernel_rfl) rfl #[.agg #[.int .i64 ((rd_T42 l0 x7_1).f0), .int .i64 ((rd_T42 l0 x7_1).f1), .int .u32 ((rd_T42 l0 x7_1).f2.f0), .int .i64 ((rd_T42 l0 x7_1).f2.f1), .int .u32 ((rd_T42 l0 x7_1).f3.f0), .int .i64 ((rd_T42 l0 x7_1).f3.f1), .int .i64 ((rd_T42 l0 x7_1).f4), .int .i64 ((rd_T42 l0 x7_1).f5), .int .i64 ((rd_T42 l0 x7_1).f6), .int .i64 ((rd_T42 l0 x7_1).f7), .int .i64 ((rd_T42 l0 x7_1).f8), .bool ((rd_T42 l0 x7_1).f9)], .int .i64 a1_0, .int .i64 a1_1, .agg #[.int .u32 a1_2, .int .u32 a1_3, .int .i64 a1_4, .int .i64 a1_5, .int .i64 a1_6]] (by rfl) rfl rfl (by (try simp only [List.map_toArray, List.map_cons, List.map_nil]); first | done | rfl | (simp only [List.length_drop, List.length_take]; rfl)) ?_
                    with_reducible refine (gueriteref15_Matches.calls kj11 ((rd_T42 l0 x7_1).f0) ((rd_T42 l0 x7_1).f1) ((rd_T42 l0 x7_1).f2.f0) ((rd_T42 l0 x7_1).f2.f1) ((rd_T42 l0 x7_1).f3.f0) ((rd_T42 l0 x7_1).f3.f1) ((rd_T42 l0 x7_1).f4) ((rd_T42 l0 x7_1).f5) ((rd_T42 l0 x7_1).f6) ((rd_T42 l0 x7_1).f7) ((rd_T42 l0 x7_1).f8) ((rd_T42 l0 x7_1).f9) a1_0 a1_1 a1_2 a1_3 a1_4 a1_5 a1_6 t287 _ A20.out).mono ?_
                    rintro e w24 ⟨rfl, hb⟩
                    refine ⟨_, rfl, ?_⟩
                    have n0_ := Aside0.mk (blk_below (g := gb279) (o := .cells #[.int .i64 a1_0, .int .i64 a1_1, .int .u32 a1_2, .int .u32 a1_3, .int .i64 a1_4, .int .i64 a1_5, .int .i64 a1_6] 46 (0, 0)) (by (with_reducible repeat (first | refine blk_drewN ?_ _ | refine blk_drew ?_ | refine blk_alloc ?_ _)); exact BK279.out) hb)
                    have n1_ := Aside0.mk (below_step (by repeat (first | (with_reducible first | exact HB.out | apply below_alloc | apply pw_below_drewN | apply below_drew1 | refine below_set ?_ GE279.out) | exact HB.out)) hb)
                    clear BK279
                    clear HB
                    have BK279 := n0_
                    have HB := n1_
                    clear n0_ n1_
                    (try clear hb)
                    (try clear hb2)
                    (try clear hk)
                    (try clear hi)
                    refine hK.out _ _ ⟨(blk_cell BK279.out 0).trans rfl, (blk_cell BK279.out 1).trans rfl, (blk_cell BK279.out 2).trans rfl, (blk_cell BK279.out 3).trans rfl, (blk_cell BK279.out 4).trans rfl, (blk_cell BK279.out 5).trans rfl, (blk_cell BK279.out 6).trans rfl, ((HB.out.cell (World.block_lt_of_cell? w _ hw284_0)).trans hw284_0), ((HB.out.cell (World.block_lt_of_cell? w _ hw284_1)).trans hw284_1), ((HB.out.cell (World.block_lt_of_cell? w _ hw284_2)).trans hw284_2), ((HB.out.cell (World.block_lt_of_cell? w _ hw284_3)).trans hw284_3), ((HB.out.cell (World.block_lt_of_cell? w _ hw284_4)).trans hw284_4), ((HB.out.cell (World.block_lt_of_cell? w _ hw284_5)).trans hw284_5), ((HB.out.cell (World.block_lt_of_cell? w _ hw284_6)).trans hw284_6), ((HB.out.cell (World.block_lt_of_cell? w _ hw284_7)).trans hw284_7), ((HB.out.cell (World.block_lt_of_cell? w _ hw284_8)).trans hw284_8), ((HB.out.cell (World.block_lt_of_cell? w _ hw284_9)).trans hw284_9), ((HB.out.cell (World.block_lt_of_cell? w _ hw284_10)).trans hw284_10), ((HB.out.cell (World.block_lt_of_cell? w _ hw284_11)).trans hw284_11), ((HB.out.cell (World.block_lt_of_cell? w _ hw286_0)).trans hw286_0), ((HB.out.cell (World.block_lt_of_cell? w _ hw286_1)).trans hw286_1), ((HB.out.cell (World.block_lt_of_cell? w _ hw286_2)).trans hw286_2), ((HB.out.cell (World.block_lt_of_cell? w _ hw286_3)).trans hw286_3), ((HB.out.cell (World.block_lt_of_cell? w _ hw286_4)).trans hw286_4), ((HB.out.cell (World.block_lt_of_cell? w _ hw286_5)).trans hw286_5), ((HB.out.cell (World.block_lt_of_cell? w _ hw286_6)).trans hw286_6), ((HB.out.cell (World.block_lt_of_cell? w _ hw286_7)).trans hw286_7), ((HB.out.cell (World.block_lt_of_cell? w _ hw286_8)).trans hw286_8), ((HB.out.cell (World.block_lt_of_cell? w _ hw286_9)).trans hw286_9), ((HB.out.cell (World.block_lt_of_cell? w _ hw286_10)).trans hw286_10), ((HB.out.cell (World.block_lt_of_cell? w _ hw286_11)).trans hw286_11)⟩ (fun hHeld => ?_)
                    clear hK K
                    refine norm_ (a' := ?_) ?_ ?_
                    rotate_left
                    · show Act.put _ (some 50) _ = _
                      simp only [Act.put, List.setIfInBounds_toArray, List.set_cons_zero, List.set_cons_succ, i64_w, i32_w]
                      rfl
                    refine pure_ (i := 17) (N := some 51) (v := ?_) (a' := ?_) #[true, true, true, true, true, true, true, true, true, true, true, true, true, true, true, true, true, true] rfl rfl (any_of HT_.out (by kernel_rfl)) (fun _ _ _ h => h) (Or.inl ⟨by rfl, ?_⟩) ?_ ?_
                    rotate_left
                    · intro w'
                      go_simp
                      with_reducible rfl
                    rotate_left
                    · simp only [Act.put, List.setIfInBounds_toArray, List.set_cons_zero, List.set_cons_succ, i64_w, i32_w]
                      rfl
                    refine done_ (done_of HT_.out (by kernel_rfl)) ?_
                    try go_wp2
                    go_ret
                    exact ⟨by first | rfl | (simp [errW_none, errW_some] <;> rfl) | (simp [*, errW_none, errW_some] <;> rfl), by repeat (first | (with_reducible first | exact HB.out | apply below_alloc | apply pw_below_drewN | apply below_drew1 | refine below_set ?_ GE279.out) | exact HB.out)⟩
                  · rw [if_neg c21] at H
                    have c21b0 : (t285 != t287) = false := by simpa using c21
                    (try (have c21b1 : decide (t285 = t287) = true := by simpa using c21))
                    (try (have c21b2 : (t285 == t287) = true := by simpa using c21))
                    clear c21
                    have H' := Aside0.mk H
                    clear H
                    try go_wp2
                    have n0_ := Aside0.mk (blk_drew BK279.out)
                    have n1_ := Aside0.mk (below_drew1 HB.out)
                    clear BK279
                    clear HB
                    have BK279 := n0_
                    have HB := n1_
                    clear n0_ n1_
                    have p284 : 0 ≤ (x7_1 : Int) := of_decide_eq_true (by first | (with_reducible assumption) | assumption)
                    have q284 : x7_1 < (l0.length : Int) := of_decide_eq_true (by first | (with_reducible assumption) | assumption)
                    obtain ⟨ad284, e284, hx284_0, hx284_1, hx284_2, hx284_3, hx284_4, hx284_5, hx284_6, hx284_7, hx284_8, hx284_9, hx284_10, hx284_11⟩ := at_T42 HR0.out x7_1 p284 q284
                    have hw284_11 := hx284_11
                    have hw284_10 := hx284_10
                    have hw284_9 := hx284_9
                    have hw284_8 := hx284_8
                    have hw284_7 := hx284_7
                    have hw284_6 := hx284_6
                    have hw284_5 := hx284_5
                    have hw284_4 := hx284_4
                    have hw284_3 := hx284_3
                    have hw284_2 := hx284_2
                    have hw284_1 := hx284_1
                    have hw284_0 := hx284_0
                    cases e284
                    replace hx284_0 := (HB.out.cell (World.block_lt_of_cell? w _ hx284_0)).trans hx284_0
                    replace hx284_1 := (HB.out.cell (World.block_lt_of_cell? w _ hx284_1)).trans hx284_1
                    replace hx284_2 := (HB.out.cell (World.block_lt_of_cell? w _ hx284_2)).trans hx284_2
                    replace hx284_3 := (HB.out.cell (World.block_lt_of_cell? w _ hx284_3)).trans hx284_3
                    replace hx284_4 := (HB.out.cell (World.block_lt_of_cell? w _ hx284_4)).trans hx284_4
                    replace hx284_5 := (HB.out.cell (World.block_lt_of_cell? w _ hx284_5)).trans hx284_5
                    replace hx284_6 := (HB.out.cell (World.block_lt_of_cell? w _ hx284_6)).trans hx284_6
                    replace hx284_7 := (HB.out.cell (World.block_lt_of_cell? w _ hx284_7)).trans hx284_7
                    replace hx284_8 := (HB.out.cell (World.block_lt_of_cell? w _ hx284_8)).trans hx284_8
                    replace hx284_9 := (HB.out.cell (World.block_lt_of_cell? w _ hx284_9)).trans hx284_9
                    replace hx284_10 := (HB.out.cell (World.block_lt_of_cell? w _ hx284_10)).trans hx284_10
                    replace hx284_11 := (HB.out.cell (World.block_lt_of_cell? w _ hx284_11)).trans hx284_11
                    replace p284 := eq_true p284
                    replace q284 := eq_true q284
                    have p286 : 0 ≤ (x7_1 : Int) := of_decide_eq_true (by first | (with_reducible assumption) | assumption)
                    have q286 : x7_1 < (l0.length : Int) := of_decide_eq_true (by first | (with_reducible assumption) | assumption)
                    obtain ⟨ad286, e286, hx286_0, hx286_1, hx286_2, hx286_3, hx286_4, hx286_5, hx286_6, hx286_7, hx286_8, hx286_9, hx286_10, hx286_11⟩ := at_T42 HR0.out x7_1 p286 q286
                    have hw286_11 := hx286_11
                    have hw286_10 := hx286_10
                    have hw286_9 := hx286_9
                    have hw286_8 := hx286_8
                    have hw286_7 := hx286_7
                    have hw286_6 := hx286_6
                    have hw286_5 := hx286_5
                    have hw286_4 := hx286_4
                    have hw286_3 := hx286_3
                    have hw286_2 := hx286_2
                    have hw286_1 := hx286_1
                    have hw286_0 := hx286_0
                    obtain rfl : ad284 = ad286 := (by injection e286)
                    replace hx286_0 := (HB.out.cell (World.block_lt_of_cell? w _ hx286_0)).trans hx286_0
                    replace hx286_1 := (HB.out.cell (World.block_lt_of_cell? w _ hx286_1)).trans hx286_1
                    replace hx286_2 := (HB.out.cell (World.block_lt_of_cell? w _ hx286_2)).trans hx286_2
                    replace hx286_3 := (HB.out.cell (World.block_lt_of_cell? w _ hx286_3)).trans hx286_3
                    replace hx286_4 := (HB.out.cell (World.block_lt_of_cell? w _ hx286_4)).trans hx286_4
                    replace hx286_5 := (HB.out.cell (World.block_lt_of_cell? w _ hx286_5)).trans hx286_5
                    replace hx286_6 := (HB.out.cell (World.block_lt_of_cell? w _ hx286_6)).trans hx286_6
                    replace hx286_7 := (HB.out.cell (World.block_lt_of_cell? w _ hx286_7)).trans hx286_7
                    replace hx286_8 := (HB.out.cell (World.block_lt_of_cell? w _ hx286_8)).trans hx286_8
                    replace hx286_9 := (HB.out.cell (World.block_lt_of_cell? w _ hx286_9)).trans hx286_9
                    replace hx286_10 := (HB.out.cell (World.block_lt_of_cell? w _ hx286_10)).trans hx286_10
                    replace hx286_11 := (HB.out.cell (World.block_lt_of_cell? w _ hx286_11)).trans hx286_11
                    replace p286 := eq_true p286
                    replace q286 := eq_true q286
                    refine start_ (n := 18) (S := fun w' => w'.cell? ⟨gb279, 0, none⟩ = some (.int .i64 a1_0) ∧ w'.cell? ⟨gb279, 1, none⟩ = some (.int .i64 a1_1) ∧ w'.cell? ⟨gb279, 2, none⟩ = some (.int .u32 a1_2) ∧ w'.cell? ⟨gb279, 3, none⟩ = some (.int .u32 a1_3) ∧ w'.cell? ⟨gb279, 4, none⟩ = some (.int .i64 a1_4) ∧ w'.cell? ⟨gb279, 5, none⟩ = some (.int .i64 a1_5) ∧ w'.cell? ⟨gb279, 6, none⟩ = some (.int .i64 a1_6) ∧ w'.cell? (ad284.add ((x7_1).toNat * 12)) = some (.int .i64 ((rd_T42 l0 x7_1).f0)) ∧ w'.cell? ⟨(ad284.add ((x7_1).toNat * 12)).block, (ad284.add ((x7_1).toNat * 12)).off + 1, none⟩ = some (.int .i64 ((rd_T42 l0 x7_1).f1)) ∧ w'.cell? ⟨(ad284.add ((x7_1).toNat * 12)).block, (ad284.add ((x7_1).toNat * 12)).off + 2, none⟩ = some (.int .u32 ((rd_T42 l0 x7_1).f2.f0)) ∧ w'.cell? ⟨(ad284.add ((x7_1).toNat * 12)).block, (ad284.add ((x7_1).toNat * 12)).off + 3, none⟩ = some (.int .i64 ((rd_T42 l0 x7_1).f2.f1)) ∧ w'.cell? ⟨(ad284.add ((x7_1).toNat * 12)).block, (ad284.add ((x7_1).toNat * 12)).off + 4, none⟩ = some (.int .u32 ((rd_T42 l0 x7_1).f3.f0)) ∧ w'.cell? ⟨(ad284.add ((x7_1).toNat * 12)).block, (ad284.add ((x7_1).toNat * 12)).off + 5, none⟩ = some (.int .i64 ((rd_T42 l0 x7_1).f3.f1)) ∧ w'.cell? ⟨(ad284.add ((x7_1).toNat * 12)).block, (ad284.add ((x7_1).toNat * 12)).off + 6, none⟩ = some (.int .i64 ((rd_T42 l0 x7_1).f4)) ∧ w'.cell? ⟨(ad284.add ((x7_1).toNat * 12)).block, (ad284.add ((x7_1).toNat * 12)).off + 7, none⟩ = some (.int .i64 ((rd_T42 l0 x7_1).f5)) ∧ w'.cell? ⟨(ad284.add ((x7_1).toNat * 12)).block, (ad284.add ((x7_1).toNat * 12)).off + 8, none⟩ = some (.int .i64 ((rd_T42 l0 x7_1).f6)) ∧ w'.cell? ⟨(ad284.add ((x7_1).toNat * 12)).block, (ad284.add ((x7_1).toNat * 12)).off + 9, none⟩ = some (.int .i64 ((rd_T42 l0 x7_1).f7)) ∧ w'.cell? ⟨(ad284.add ((x7_1).toNat * 12)).block, (ad284.add ((x7_1).toNat * 12)).off + 10, none⟩ = some (.int .i64 ((rd_T42 l0 x7_1).f8)) ∧ w'.cell? ⟨(ad284.add ((x7_1).toNat * 12)).block, (ad284.add ((x7_1).toNat * 12)).off + 11, none⟩ = some (.bool ((rd_T42 l0 x7_1).f9)) ∧ w'.cell? (ad284.add ((x7_1).toNat * 12)) = some (.int .i64 ((rd_T42 l0 x7_1).f0)) ∧ w'.cell? ⟨(ad284.add ((x7_1).toNat * 12)).block, (ad284.add ((x7_1).toNat * 12)).off + 1, none⟩ = some (.int .i64 ((rd_T42 l0 x7_1).f1)) ∧ w'.cell? ⟨(ad284.add ((x7_1).toNat * 12)).block, (ad284.add ((x7_1).toNat * 12)).off + 2, none⟩ = some (.int .u32 ((rd_T42 l0 x7_1).f2.f0)) ∧ w'.cell? ⟨(ad284.add ((x7_1).toNat * 12)).block, (ad284.add ((x7_1).toNat * 12)).off + 3, none⟩ = some (.int .i64 ((rd_T42 l0 x7_1).f2.f1)) ∧ w'.cell? ⟨(ad284.add ((x7_1).toNat * 12)).block, (ad284.add ((x7_1).toNat * 12)).off + 4, none⟩ = some (.int .u32 ((rd_T42 l0 x7_1).f3.f0)) ∧ w'.cell? ⟨(ad284.add ((x7_1).toNat * 12)).block, (ad284.add ((x7_1).toNat * 12)).off + 5, none⟩ = some (.int .i64 ((rd_T42 l0 x7_1).f3.f1)) ∧ w'.cell? ⟨(ad284.add ((x7_1).toNat * 12)).block, (ad284.add ((x7_1).toNat * 12)).off + 6, none⟩ = some (.int .i64 ((rd_T42 l0 x7_1).f4)) ∧ w'.cell? ⟨(ad284.add ((x7_1).toNat * 12)).block, (ad284.add ((x7_1).toNat * 12)).off + 7, none⟩ = some (.int .i64 ((rd_T42 l0 x7_1).f5)) ∧ w'.cell? ⟨(ad284.add ((x7_1).toNat * 12)).block, (ad284.add ((x7_1).toNat * 12)).off + 8, none⟩ = some (.int .i64 ((rd_T42 l0 x7_1).f6)) ∧ w'.cell? ⟨(ad284.add ((x7_1).toNat * 12)).block, (ad284.add ((x7_1).toNat * 12)).off + 9, none⟩ = some (.int .i64 ((rd_T42 l0 x7_1).f7)) ∧ w'.cell? ⟨(ad284.add ((x7_1).toNat * 12)).block, (ad284.add ((x7_1).toNat * 12)).off + 10, none⟩ = some (.int .i64 ((rd_T42 l0 x7_1).f8)) ∧ w'.cell? ⟨(ad284.add ((x7_1).toNat * 12)).block, (ad284.add ((x7_1).toNat * 12)).off + 11, none⟩ = some (.bool ((rd_T42 l0 x7_1).f9))) (ds := []) #[false, false, false, false, false, false, false, false, false, false, false, false, false, false, false, false, false, false] (by kernel_rfl) rfl rfl ⟨(blk_cell BK279.out 0).trans rfl, (blk_cell BK279.out 1).trans rfl, (blk_cell BK279.out 2).trans rfl, (blk_cell BK279.out 3).trans rfl, (blk_cell BK279.out 4).trans rfl, (blk_cell BK279.out 5).trans rfl, (blk_cell BK279.out 6).trans rfl, ((HB.out.cell (World.block_lt_of_cell? w _ hw284_0)).trans hw284_0), ((HB.out.cell (World.block_lt_of_cell? w _ hw284_1)).trans hw284_1), ((HB.out.cell (World.block_lt_of_cell? w _ hw284_2)).trans hw284_2), ((HB.out.cell (World.block_lt_of_cell? w _ hw284_3)).trans hw284_3), ((HB.out.cell (World.block_lt_of_cell? w _ hw284_4)).trans hw284_4), ((HB.out.cell (World.block_lt_of_cell? w _ hw284_5)).trans hw284_5), ((HB.out.cell (World.block_lt_of_cell? w _ hw284_6)).trans hw284_6), ((HB.out.cell (World.block_lt_of_cell? w _ hw284_7)).trans hw284_7), ((HB.out.cell (World.block_lt_of_cell? w _ hw284_8)).trans hw284_8), ((HB.out.cell (World.block_lt_of_cell? w _ hw284_9)).trans hw284_9), ((HB.out.cell (World.block_lt_of_cell? w _ hw284_10)).trans hw284_10), ((HB.out.cell (World.block_lt_of_cell? w _ hw284_11)).trans hw284_11), ((HB.out.cell (World.block_lt_of_cell? w _ hw286_0)).trans hw286_0), ((HB.out.cell (World.block_lt_of_cell? w _ hw286_1)).trans hw286_1), ((HB.out.cell (World.block_lt_of_cell? w _ hw286_2)).trans hw286_2), ((HB.out.cell (World.block_lt_of_cell? w _ hw286_3)).trans hw286_3), ((HB.out.cell (World.block_lt_of_cell? w _ hw286_4)).trans hw286_4), ((HB.out.cell (World.block_lt_of_cell? w _ hw286_5)).trans hw286_5), ((HB.out.cell (World.block_lt_of_cell? w _ hw286_6)).trans hw286_6), ((HB.out.cell (World.block_lt_of_cell? w _ hw286_7)).trans hw286_7), ((HB.out.cell (World.block_lt_of_cell? w _ hw286_8)).trans hw286_8), ((HB.out.cell (World.block_lt_of_cell? w _ hw286_9)).trans hw286_9), ((HB.out.cell (World.block_lt_of_cell? w _ hw286_10)).trans hw286_10), ((HB.out.cell (World.block_lt_of_cell? w _ hw286_11)).trans hw286_11)⟩ (fun hHeld => ?_); refine with_tabW gueritelaw15_RuleFirst.tab9 gueritelaw15_RuleFirst.bits9 (fun HT_ HW_ => ?_)
                    generalize wc.drew = w25 at BK279 HB hx284_0 hx284_1 hx284_10 hx284_11 hx284_2 hx284_3 hx284_4 hx284_5 hx284_6 hx284_7 hx284_8 hx284_9 hx286_0 hx286_1 hx286_10 hx286_11 hx286_2 hx286_3 hx286_4 hx286_5 hx286_6 hx286_7 hx286_8 hx286_9 hHeld ⊢
                    refine pure_ (i := 0) (N := some 34) (v := ?_) (a' := ?_) #[true, false, false, false, false, false, false, false, false, false, false, false, false, false, false, false, false, false] rfl rfl (any_of HT_.out (by kernel_rfl)) (fun _ _ _ h => h) (Or.inl ⟨by rfl, ?_⟩) ?_ ?_
                    rotate_left
                    · intro w'
                      go_simp
                      with_reducible rfl
                    rotate_left
                    · simp only [Act.put, List.setIfInBounds_toArray, List.set_cons_zero, List.set_cons_succ, i64_w, i32_w]
                      rfl
                    refine pure_ (i := 1) (N := some 35) (v := ?_) (a' := ?_) #[true, true, false, false, false, false, false, false, false, false, false, false, false, false, false, false, false, false] rfl rfl (any_of HT_.out (by kernel_rfl)) (fun _ _ _ h => h) (Or.inl ⟨by rfl, ?_⟩) ?_ ?_
                    rotate_left
                    · intro w'
                      go_simp
                      with_reducible rfl
                    rotate_left
                    · simp only [Act.put, List.setIfInBounds_toArray, List.set_cons_zero, List.set_cons_succ, i64_w, i32_w]
                      rfl
                    refine pure_ (i := 2) (N := some 36) (v := ?_) (a' := ?_) #[true, true, true, false, false, false, false, false, false, false, false, false, false, false, false, false, false, false] rfl rfl (any_of HT_.out (by kernel_rfl)) (fun _ _ _ h => h) (Or.inl ⟨by rfl, ?_⟩) ?_ ?_
                    rotate_left
                    · intro w'
                      go_simp
                      with_reducible rfl
                    rotate_left
                    · simp only [Act.put, List.setIfInBounds_toArray, List.set_cons_zero, List.set_cons_succ, i64_w, i32_w]
                      rfl
                    refine pure_ (i := 6) (N := some 40) (v := ?_) (a' := ?_) #[true, true, true, false, false, false, true, false, false, false, false, false, false, false, false, false, false, false] rfl rfl (any_of HT_.out (by kernel_rfl)) (fun _ _ _ h => h) (Or.inl ⟨by rfl, ?_⟩) ?_ ?_
                    rotate_left
                    · intro w'
                      go_simp
                      with_reducible rfl
                    rotate_left
                    · simp only [Act.put, List.setIfInBounds_toArray, List.set_cons_zero, List.set_cons_succ, i64_w, i32_w]
                      rfl
                    refine pure_ (i := 7) (N := some 41) (v := ?_) (a' := ?_) #[true, true, true, false, false, false, true, true, false, false, false, false, false, false, false, false, false, false] rfl rfl (any_of HT_.out (by kernel_rfl)) (fun _ _ _ h => h) (Or.inl ⟨by rfl, ?_⟩) ?_ ?_
                    rotate_left
                    · intro w'
                      go_simp
                      with_reducible rfl
                    rotate_left
                    · simp only [Act.put, List.setIfInBounds_toArray, List.set_cons_zero, List.set_cons_succ, i64_w, i32_w]
                      rfl
                    refine pure_ (i := 8) (N := some 42) (v := ?_) (a' := ?_) #[true, true, true, false, false, false, true, true, true, false, false, false, false, false, false, false, false, false] rfl rfl (any_of HT_.out (by kernel_rfl)) (fun _ _ _ h => h) (Or.inl ⟨by rfl, ?_⟩) ?_ ?_
                    rotate_left
                    · intro w'
                      go_simp
                      with_reducible rfl
                    rotate_left
                    · simp only [Act.put, List.setIfInBounds_toArray, List.set_cons_zero, List.set_cons_succ, i64_w, i32_w]
                      rfl
                    refine pure_ (i := 10) (N := some 44) (v := ?_) (a' := ?_) #[true, true, true, false, false, false, true, true, true, false, true, false, false, false, false, false, false, false] rfl rfl (any_of HT_.out (by kernel_rfl)) (fun _ _ _ h => h) (Or.inl ⟨by rfl, ?_⟩) ?_ ?_
                    rotate_left
                    · intro w'
                      go_simp
                      with_reducible rfl
                    rotate_left
                    · simp only [Act.put, List.setIfInBounds_toArray, List.set_cons_zero, List.set_cons_succ, i64_w, i32_w]
                      rfl
                    refine pure_ (i := 12) (N := some 46) (v := ?_) (a' := ?_) #[true, true, true, false, false, false, true, true, true, false, true, false, true, false, false, false, false, false] rfl rfl (any_of HT_.out (by kernel_rfl)) (fun _ _ _ h => h) (Or.inl ⟨by rfl, ?_⟩) ?_ ?_
                    rotate_left
                    · intro w'
                      go_simp
                      with_reducible rfl
                    rotate_left
                    · simp only [Act.put, List.setIfInBounds_toArray, List.set_cons_zero, List.set_cons_succ, i64_w, i32_w]
                      rfl
                    refine pure_ (i := 14) (N := some 48) (v := ?_) (a' := ?_) #[true, true, true, false, false, false, true, true, true, false, true, false, true, false, true, false, false, false] rfl rfl (any_of HT_.out (by kernel_rfl)) (fun _ _ _ h => h) (Or.inl ⟨by rfl, ?_⟩) ?_ ?_
                    rotate_left
                    · intro w'
                      go_simp
                      with_reducible rfl
                    rotate_left
                    · simp only [Act.put, List.setIfInBounds_toArray, List.set_cons_zero, List.set_cons_succ, i64_w, i32_w]
                      rfl
                    refine take_ (i := 3) (N := some 37) (v := ?_) (a' := ?_) #[true, true, true, true, false, false, true, true, true, false, true, false, true, false, true, false, false, false] rfl rfl (take_ofW HT_.out HW_.out (by kernel_rfl)) (fun _ _ _ h => h) (Or.inl ⟨by rfl, ?_⟩) hHeld ?_ ?_
                    rotate_left
                    · rintro w' ⟨s0, s1, s2, s3, s4, s5, s6, s7, s8, s9, s10, s11, s12, s13, s14, s15, s16, s17, s18, s19, s20, s21, s22, s23, s24, s25, s26, s27, s28, s29, s30⟩
                      go_simp
                      with_reducible rfl
                    rotate_left
                    · simp only [Act.put, List.setIfInBounds_toArray, List.set_cons_zero, List.set_cons_succ, i64_w, i32_w]
                      rfl
                    refine take_ (i := 4) (N := some 38) (v := ?_) (a' := ?_) #[true, true, true, true, true, false, true, true, true, false, true, false, true, false, true, false, false, false] rfl rfl (take_ofW HT_.out HW_.out (by kernel_rfl)) (fun _ _ _ h => h) (Or.inl ⟨by rfl, ?_⟩) hHeld ?_ ?_
                    rotate_left
                    · rintro w' ⟨s0, s1, s2, s3, s4, s5, s6, s7, s8, s9, s10, s11, s12, s13, s14, s15, s16, s17, s18, s19, s20, s21, s22, s23, s24, s25, s26, s27, s28, s29, s30⟩
                      go_simp
                      with_reducible rfl
                    rotate_left
                    · simp only [Act.put, List.setIfInBounds_toArray, List.set_cons_zero, List.set_cons_succ, i64_w, i32_w]
                      rfl
                    refine take_ (i := 9) (N := some 43) (v := ?_) (a' := ?_) #[true, true, true, true, true, false, true, true, true, true, true, false, true, false, true, false, false, false] rfl rfl (take_ofW HT_.out HW_.out (by kernel_rfl)) (fun _ _ _ h => h) (Or.inl ⟨by rfl, ?_⟩) hHeld ?_ ?_
                    rotate_left
                    · rintro w' ⟨s0, s1, s2, s3, s4, s5, s6, s7, s8, s9, s10, s11, s12, s13, s14, s15, s16, s17, s18, s19, s20, s21, s22, s23, s24, s25, s26, s27, s28, s29, s30⟩
                      go_simp
                      with_reducible rfl
                    rotate_left
                    · simp only [Act.put, List.setIfInBounds_toArray, List.set_cons_zero, List.set_cons_succ, i64_w, i32_w]
                      rfl
                    refine take_ (i := 11) (N := some 45) (v := ?_) (a' := ?_) #[true, true, true, true, true, false, true, true, true, true, true, true, true, false, true, false, false, false] rfl rfl (take_ofW HT_.out HW_.out (by kernel_rfl)) (fun _ _ _ h => h) (Or.inl ⟨by rfl, ?_⟩) hHeld ?_ ?_
                    rotate_left
                    · rintro w' ⟨s0, s1, s2, s3, s4, s5, s6, s7, s8, s9, s10, s11, s12, s13, s14, s15, s16, s17, s18, s19, s20, s21, s22, s23, s24, s25, s26, s27, s28, s29, s30⟩
                      go_simp
                      with_reducible rfl
                    rotate_left
                    · simp only [Act.put, List.setIfInBounds_toArray, List.set_cons_zero, List.set_cons_succ, i64_w, i32_w]
                      rfl
                    refine take_ (i := 13) (N := some 47) (v := ?_) (a' := ?_) #[true, true, true, true, true, false, true, true, true, true, true, true, true, true, true, false, false, false] rfl rfl (take_ofW HT_.out HW_.out (by kernel_rfl)) (fun _ _ _ h => h) (Or.inl ⟨by rfl, ?_⟩) hHeld ?_ ?_
                    rotate_left
                    · rintro w' ⟨s0, s1, s2, s3, s4, s5, s6, s7, s8, s9, s10, s11, s12, s13, s14, s15, s16, s17, s18, s19, s20, s21, s22, s23, s24, s25, s26, s27, s28, s29, s30⟩
                      go_simp
                      with_reducible rfl
                    rotate_left
                    · simp only [Act.put, List.setIfInBounds_toArray, List.set_cons_zero, List.set_cons_succ, i64_w, i32_w]
                      rfl
                    refine take_ (i := 15) (N := some 49) (v := ?_) (a' := ?_) #[true, true, true, true, true, false, true, true, true, true, true, true, true, true, true, true, false, false] rfl rfl (take_ofW HT_.out HW_.out (by kernel_rfl)) (fun _ _ _ h => h) (Or.inl ⟨by rfl, ?_⟩) hHeld ?_ ?_
                    rotate_left
                    · rintro w' ⟨s0, s1, s2, s3, s4, s5, s6, s7, s8, s9, s10, s11, s12, s13, s14, s15, s16, s17, s18, s19, s20, s21, s22, s23, s24, s25, s26, s27, s28, s29, s30⟩
                      go_simp
                      with_reducible rfl
                    rotate_left
                    · simp only [Act.put, List.setIfInBounds_toArray, List.set_cons_zero, List.set_cons_succ, i64_w, i32_w]
                      rfl
                    refine one_ (i := 5) (N := some 39) #[true, true, true, true, true, true, true, true, true, true, true, true, true, true, true, true, false, false] rfl rfl (one_of HT_.out (by kernel_rfl)) (by decide) (fun K hK => ?_)
                    refine goes_ Try.func21 (by kernel_rfl) rfl #[.agg #[.int .i64 ((rd_T42 l0 x7_1).f0), .int .i64 ((rd_T42 l0 x7_1).f1), .int .u32 ((rd_T42 l0 x7_1).f2.f0), .int .i64 ((rd_T42 l0 x7_1).f2.f1), .int .u32 ((rd_T42 l0 x7_1).f3.f0), .int .i64 ((rd_T42 l0 x7_1).f3.f1), .int .i64 ((rd_T42 l0 x7_1).f4), .int .i64 ((rd_T42 l0 x7_1).f5), .int .i64 ((rd_T42 l0 x7_1).f6), .int .i64 ((rd_T42 l0 x7_1).f7), .int .i64 ((rd_T42 l0 x7_1).f8), .bool ((rd_T42 l0 x7_1).f9)], .agg #[.int .i64 a1_0, .int .i64 a1_1, .int .u32 a1_2, .int .u32 a1_3, .int .i64 a1_4, .int .i64 a1_5, .int .i64 a1_6]] (by rfl) rfl rfl (by (try simp only [List.map_toArray, List.map_cons, List.map_nil]); first | done | rfl | (simp only [List.length_drop, List.length_take]; rfl)) ?_
                    with_reducible refine (rule_Matches.calls kj11 ((rd_T42 l0 x7_1).f0) ((rd_T42 l0 x7_1).f1) ((rd_T42 l0 x7_1).f2.f0) ((rd_T42 l0 x7_1).f2.f1) ((rd_T42 l0 x7_1).f3.f0) ((rd_T42 l0 x7_1).f3.f1) ((rd_T42 l0 x7_1).f4) ((rd_T42 l0 x7_1).f5) ((rd_T42 l0 x7_1).f6) ((rd_T42 l0 x7_1).f7) ((rd_T42 l0 x7_1).f8) ((rd_T42 l0 x7_1).f9) a1_0 a1_1 a1_2 a1_3 a1_4 a1_5 a1_6 t285 _ A19.out).mono ?_
                    rintro e w26 ⟨rfl, hb⟩
                    refine ⟨_, rfl, ?_⟩
                    have n0_ := Aside0.mk (blk_below (g := gb279) (o := .cells #[.int .i64 a1_0, .int .i64 a1_1, .int .u32 a1_2, .int .u32 a1_3, .int .i64 a1_4, .int .i64 a1_5, .int .i64 a1_6] 46 (0, 0)) (by (with_reducible repeat (first | refine blk_drewN ?_ _ | refine blk_drew ?_ | refine blk_alloc ?_ _)); exact BK279.out) hb)
                    have n1_ := Aside0.mk (below_step (by repeat (first | (with_reducible first | exact HB.out | apply below_alloc | apply pw_below_drewN | apply below_drew1 | refine below_set ?_ GE279.out) | exact HB.out)) hb)
                    clear BK279
                    clear HB
                    have BK279 := n0_
                    have HB := n1_
                    clear n0_ n1_
                    (try clear hb)
                    (try clear hb2)
                    (try clear hk)
                    (try clear hi)
                    refine hK.out _ _ ⟨(blk_cell BK279.out 0).trans rfl, (blk_cell BK279.out 1).trans rfl, (blk_cell BK279.out 2).trans rfl, (blk_cell BK279.out 3).trans rfl, (blk_cell BK279.out 4).trans rfl, (blk_cell BK279.out 5).trans rfl, (blk_cell BK279.out 6).trans rfl, ((HB.out.cell (World.block_lt_of_cell? w _ hw284_0)).trans hw284_0), ((HB.out.cell (World.block_lt_of_cell? w _ hw284_1)).trans hw284_1), ((HB.out.cell (World.block_lt_of_cell? w _ hw284_2)).trans hw284_2), ((HB.out.cell (World.block_lt_of_cell? w _ hw284_3)).trans hw284_3), ((HB.out.cell (World.block_lt_of_cell? w _ hw284_4)).trans hw284_4), ((HB.out.cell (World.block_lt_of_cell? w _ hw284_5)).trans hw284_5), ((HB.out.cell (World.block_lt_of_cell? w _ hw284_6)).trans hw284_6), ((HB.out.cell (World.block_lt_of_cell? w _ hw284_7)).trans hw284_7), ((HB.out.cell (World.block_lt_of_cell? w _ hw284_8)).trans hw284_8), ((HB.out.cell (World.block_lt_of_cell? w _ hw284_9)).trans hw284_9), ((HB.out.cell (World.block_lt_of_cell? w _ hw284_10)).trans hw284_10), ((HB.out.cell (World.block_lt_of_cell? w _ hw284_11)).trans hw284_11), ((HB.out.cell (World.block_lt_of_cell? w _ hw286_0)).trans hw286_0), ((HB.out.cell (World.block_lt_of_cell? w _ hw286_1)).trans hw286_1), ((HB.out.cell (World.block_lt_of_cell? w _ hw286_2)).trans hw286_2), ((HB.out.cell (World.block_lt_of_cell? w _ hw286_3)).trans hw286_3), ((HB.out.cell (World.block_lt_of_cell? w _ hw286_4)).trans hw286_4), ((HB.out.cell (World.block_lt_of_cell? w _ hw286_5)).trans hw286_5), ((HB.out.cell (World.block_lt_of_cell? w _ hw286_6)).trans hw286_6), ((HB.out.cell (World.block_lt_of_cell? w _ hw286_7)).trans hw286_7), ((HB.out.cell (World.block_lt_of_cell? w _ hw286_8)).trans hw286_8), ((HB.out.cell (World.block_lt_of_cell? w _ hw286_9)).trans hw286_9), ((HB.out.cell (World.block_lt_of_cell? w _ hw286_10)).trans hw286_10), ((HB.out.cell (World.block_lt_of_cell? w _ hw286_11)).trans hw286_11)⟩ (fun hHeld => ?_)
                    clear hK K
                    refine norm_ (a' := ?_) ?_ ?_
                    rotate_left
                    · show Act.put _ (some 39) _ = _
                      simp only [Act.put, List.setIfInBounds_toArray, List.set_cons_zero, List.set_cons_succ, i64_w, i32_w]
                      rfl
                    refine one_ (i := 16) (N := some 50) #[true, true, true, true, true, true, true, true, true, true, true, true, true, true, true, true, true, false] rfl rfl (one_of HT_.out (by kernel_rfl)) (by decide) (fun K hK => ?_)
                    refine goes_ Try.func24 (by kernel_rfl) rfl #[.agg #[.int .i64 ((rd_T42 l0 x7_1).f0), .int .i64 ((rd_T42 l0 x7_1).f1), .int .u32 ((rd_T42 l0 x7_1).f2.f0), .int .i64 ((rd_T42 l0 x7_1).f2.f1), .int .u32 ((rd_T42 l0 x7_1).f3.f0), .int .i64 ((rd_T42 l0 x7_1).f3.f1), .int .i64 ((rd_T42 l0 x7_1).f4), .int .i64 ((rd_T42 l0 x7_1).f5), .int .i64 ((rd_T42 l0 x7_1).f6), .int .i64 ((rd_T42 l0 x7_1).f7), .int .i64 ((rd_T42 l0 x7_1).f8), .bool ((rd_T42 l0 x7_1).f9)], .int .i64 a1_0, .int .i64 a1_1, .agg #[.int .u32 a1_2, .int .u32 a1_3, .int .i64 a1_4, .int .i64 a1_5, .int .i64 a1_6]] (by rfl) rfl rfl (by (try simp only [List.map_toArray, List.map_cons, List.map_nil]); first | done | rfl | (simp only [List.length_drop, List.length_take]; rfl)) ?_
                    with_reducible refine (gueriteref15_Matches.calls kj11 ((rd_T42 l0 x7_1).f0) ((rd_T42 l0 x7_1).f1) ((rd_T42 l0 x7_1).f2.f0) ((rd_T42 l0 x7_1).f2.f1) ((rd_T42 l0 x7_1).f3.f0) ((rd_T42 l0 x7_1).f3.f1) ((rd_T42 l0 x7_1).f4) ((rd_T42 l0 x7_1).f5) ((rd_T42 l0 x7_1).f6) ((rd_T42 l0 x7_1).f7) ((rd_T42 l0 x7_1).f8) ((rd_T42 l0 x7_1).f9) a1_0 a1_1 a1_2 a1_3 a1_4 a1_5 a1_6 t287 _ A20.out).mono ?_
                    rintro e w27 ⟨rfl, hb⟩
                    refine ⟨_, rfl, ?_⟩
                    have n0_ := Aside0.mk (blk_below (g := gb279) (o := .cells #[.int .i64 a1_0, .int .i64 a1_1, .int .u32 a1_2, .int .u32 a1_3, .int .i64 a1_4, .int .i64 a1_5, .int .i64 a1_6] 46 (0, 0)) (by (with_reducible repeat (first | refine blk_drewN ?_ _ | refine blk_drew ?_ | refine blk_alloc ?_ _)); exact BK279.out) hb)
                    have n1_ := Aside0.mk (below_step (by repeat (first | (with_reducible first | exact HB.out | apply below_alloc | apply pw_below_drewN | apply below_drew1 | refine below_set ?_ GE279.out) | exact HB.out)) hb)
                    clear BK279
                    clear HB
                    have BK279 := n0_
                    have HB := n1_
                    clear n0_ n1_
                    (try clear hb)
                    (try clear hb2)
                    (try clear hk)
                    (try clear hi)
                    refine hK.out _ _ ⟨(blk_cell BK279.out 0).trans rfl, (blk_cell BK279.out 1).trans rfl, (blk_cell BK279.out 2).trans rfl, (blk_cell BK279.out 3).trans rfl, (blk_cell BK279.out 4).trans rfl, (blk_cell BK279.out 5).trans rfl, (blk_cell BK279.out 6).trans rfl, ((HB.out.cell (World.block_lt_of_cell? w _ hw284_0)).trans hw284_0), ((HB.out.cell (World.block_lt_of_cell? w _ hw284_1)).trans hw284_1), ((HB.out.cell (World.block_lt_of_cell? w _ hw284_2)).trans hw284_2), ((HB.out.cell (World.block_lt_of_cell? w _ hw284_3)).trans hw284_3), ((HB.out.cell (World.block_lt_of_cell? w _ hw284_4)).trans hw284_4), ((HB.out.cell (World.block_lt_of_cell? w _ hw284_5)).trans hw284_5), ((HB.out.cell (World.block_lt_of_cell? w _ hw284_6)).trans hw284_6), ((HB.out.cell (World.block_lt_of_cell? w _ hw284_7)).trans hw284_7), ((HB.out.cell (World.block_lt_of_cell? w _ hw284_8)).trans hw284_8), ((HB.out.cell (World.block_lt_of_cell? w _ hw284_9)).trans hw284_9), ((HB.out.cell (World.block_lt_of_cell? w _ hw284_10)).trans hw284_10), ((HB.out.cell (World.block_lt_of_cell? w _ hw284_11)).trans hw284_11), ((HB.out.cell (World.block_lt_of_cell? w _ hw286_0)).trans hw286_0), ((HB.out.cell (World.block_lt_of_cell? w _ hw286_1)).trans hw286_1), ((HB.out.cell (World.block_lt_of_cell? w _ hw286_2)).trans hw286_2), ((HB.out.cell (World.block_lt_of_cell? w _ hw286_3)).trans hw286_3), ((HB.out.cell (World.block_lt_of_cell? w _ hw286_4)).trans hw286_4), ((HB.out.cell (World.block_lt_of_cell? w _ hw286_5)).trans hw286_5), ((HB.out.cell (World.block_lt_of_cell? w _ hw286_6)).trans hw286_6), ((HB.out.cell (World.block_lt_of_cell? w _ hw286_7)).trans hw286_7), ((HB.out.cell (World.block_lt_of_cell? w _ hw286_8)).trans hw286_8), ((HB.out.cell (World.block_lt_of_cell? w _ hw286_9)).trans hw286_9), ((HB.out.cell (World.block_lt_of_cell? w _ hw286_10)).trans hw286_10), ((HB.out.cell (World.block_lt_of_cell? w _ hw286_11)).trans hw286_11)⟩ (fun hHeld => ?_)
                    clear hK K
                    refine norm_ (a' := ?_) ?_ ?_
                    rotate_left
                    · show Act.put _ (some 50) _ = _
                      simp only [Act.put, List.setIfInBounds_toArray, List.set_cons_zero, List.set_cons_succ, i64_w, i32_w]
                      rfl
                    refine pure_ (i := 17) (N := some 51) (v := ?_) (a' := ?_) #[true, true, true, true, true, true, true, true, true, true, true, true, true, true, true, true, true, true] rfl rfl (any_of HT_.out (by kernel_rfl)) (fun _ _ _ h => h) (Or.inl ⟨by rfl, ?_⟩) ?_ ?_
                    rotate_left
                    · intro w'
                      go_simp
                      with_reducible rfl
                    rotate_left
                    · simp only [Act.put, List.setIfInBounds_toArray, List.set_cons_zero, List.set_cons_succ, i64_w, i32_w]
                      rfl
                    refine done_ (done_of HT_.out (by kernel_rfl)) ?_
                    try go_wp2
                    go_roundg kj11
                    case measure => have := HK1.out; have := HJ11.out; omega
                    case rel => exact ⟨(x6_11), (wrap64 (x7_1 + 1)), (by first | rfl | (simp; done) | (simp [*]; done)), (by first | rfl | (simp; done) | (simp [*]; done)), H', ⟨by have := HK1.out; have := HJ11.out; omega⟩, ⟨by (with_reducible repeat (first | refine blk_drewN ?_ _ | refine blk_drew ?_ | refine blk_alloc ?_ _)); exact BK279.out⟩, ⟨by repeat (first | (with_reducible first | exact HB.out | apply below_alloc | apply pw_below_drewN | apply below_drew1 | refine below_set ?_ GE279.out) | exact HB.out)⟩⟩
                · rw [if_neg c18] at H
                  exact absurd H (by simp)
              · rw [if_neg c17] at H
                exact absurd H (by simp)
        · rw [if_neg c11] at H
          have c11b0 : decide (x7_1 < (l0.length : Int)) = false := decide_eq_false c11
          clear c11
          replace H := Option.bind_eq_some_iff.mp H
          obtain ⟨t288, A280, H⟩ := H
          replace H : (if t288 = t281 then ((rule_Allows.f l0 a1_0 a1_1 a1_2 a1_3 a1_4 a1_5 a1_6).bind fun t289 => (if t281 ≥ 0 then (if 0 ≤ t281 then (if t281 < (l0.length : Int) then (if (t289 == ((rd_T42 l0 t281).f9)) = true then ((rule_Right.f l0).bind fun t291 => (if (t291 == x6_1) = true then ((gueritelaw15_awake.f).bind fun t292 => (some t292)) else (some false))) else (some false)) else (none)) else (none)) else (if (t289 == false) = true then ((rule_Right.f l0).bind fun t293 => (if (t293 == x6_1) = true then ((gueritelaw15_awake.f).bind fun t294 => (some t294)) else (some false))) else (some false)))) else (some false)) = some r := H
          have A28 := Aside0.mk A280
          clear A280
          by_cases c29 : t288 = t281
          · rw [if_pos c29] at H
            have c29b0 : (t288 == t281) = true := beq_iff_eq.mpr c29
            have c29b1 : (t288 != t281) = false := bne_eq_false_iff_eq.mpr c29
            clear c29
            replace H := Option.bind_eq_some_iff.mp H
            obtain ⟨t289, A300, H⟩ := H
            replace H : (if t281 ≥ 0 then (if 0 ≤ t281 then (if t281 < (l0.length : Int) then (if (t289 == ((rd_T42 l0 t281).f9)) = true then ((rule_Right.f l0).bind fun t291 => (if (t291 == x6_1) = true then ((gueritelaw15_awake.f).bind fun t292 => (some t292)) else (some false))) else (some false)) else (none)) else (none)) else (if (t289 == false) = true then ((rule_Right.f l0).bind fun t293 => (if (t293 == x6_1) = true then ((gueritelaw15_awake.f).bind fun t294 => (some t294)) else (some false))) else (some false))) = some r := H
            have A30 := Aside0.mk A300
            clear A300
            by_cases c31 : t281 ≥ 0
            · rw [if_pos c31] at H
              have c31b0 : decide (0 ≤ t281) = true := decide_eq_true c31
              clear c31
              by_cases c32 : 0 ≤ t281
              · rw [if_pos c32] at H
                have c32b0 : decide (0 ≤ t281) = true := decide_eq_true c32
                clear c32
                by_cases c33 : t281 < (l0.length : Int)
                · rw [if_pos c33] at H
                  have c33b0 : decide (t281 < (l0.length : Int)) = true := decide_eq_true c33
                  clear c33
                  by_cases c34 : (t289 == ((rd_T42 l0 t281).f9)) = true
                  · rw [if_pos c34] at H
                    have c34b0 : (t289 == ((rd_T42 l0 t281).f9)) = true := c34
                    (try (have c34b1 : decide (t289 = ((rd_T42 l0 t281).f9)) = true := by simpa using c34))
                    (try (have c34b2 : (t289 == ((rd_T42 l0 t281).f9)) = true := by simpa using c34))
                    clear c34
                    replace H := Option.bind_eq_some_iff.mp H
                    obtain ⟨t291, A350, H⟩ := H
                    replace H : (if (t291 == x6_1) = true then ((gueritelaw15_awake.f).bind fun t292 => (some t292)) else (some false)) = some r := H
                    have A35 := Aside0.mk A350
                    clear A350
                    by_cases c36 : (t291 == x6_1) = true
                    · rw [if_pos c36] at H
                      have c36b0 : (t291 == x6_1) = true := c36
                      (try (have c36b1 : decide (t291 = x6_1) = true := by simpa using c36))
                      (try (have c36b2 : (t291 == x6_1) = true := by simpa using c36))
                      clear c36
                      replace H := Option.bind_eq_some_iff.mp H
                      obtain ⟨t292, A370, H⟩ := H
                      replace H : (some t292) = some r := H
                      have A37 := Aside0.mk A370
                      clear A370
                      obtain rfl := Option.some.inj H
                      have hcz38_0 : wr.cell? ⟨gb279, 0, none⟩ = some (.int .i64 a1_0) := (blk_cell BK279.out 0).trans rfl
                      have hcz38_1 : wr.cell? ⟨gb279, 1, none⟩ = some (.int .i64 a1_1) := (blk_cell BK279.out 1).trans rfl
                      have hcz38_2 : wr.cell? ⟨gb279, 2, none⟩ = some (.int .u32 a1_2) := (blk_cell BK279.out 2).trans rfl
                      have hcz38_3 : wr.cell? ⟨gb279, 3, none⟩ = some (.int .u32 a1_3) := (blk_cell BK279.out 3).trans rfl
                      have hcz38_4 : wr.cell? ⟨gb279, 4, none⟩ = some (.int .i64 a1_4) := (blk_cell BK279.out 4).trans rfl
                      have hcz38_5 : wr.cell? ⟨gb279, 5, none⟩ = some (.int .i64 a1_5) := (blk_cell BK279.out 5).trans rfl
                      have hcz38_6 : wr.cell? ⟨gb279, 6, none⟩ = some (.int .i64 a1_6) := (blk_cell BK279.out 6).trans rfl
                      have hfz38_0 := blk_frozen BK279.out 0
                      have hfz38_1 := blk_frozen BK279.out 1
                      have hfz38_2 := blk_frozen BK279.out 2
                      have hfz38_3 := blk_frozen BK279.out 3
                      have hfz38_4 := blk_frozen BK279.out 4
                      have hfz38_5 := blk_frozen BK279.out 5
                      have hfz38_6 := blk_frozen BK279.out 6
                      go_wp2_with (first | ((with_reducible refine gate_callee (f := 20) rfl ?_); refine goesL_ (some 54) rfl rfl Try.func20 (by kernel_rfl) rfl #[.slice A0 l0.length c0, .agg #[.int .i64 a1_0, .int .i64 a1_1, .int .u32 a1_2, .int .u32 a1_3, .int .i64 a1_4, .int .i64 a1_5, .int .i64 a1_6]] rfl (by (try simp only [List.map_toArray, List.map_cons, List.map_nil]); first | done | rfl | (simp only [List.length_drop, List.length_take]; rfl)) ?_; (with_reducible refine (rule_First.calls _ _ l0 a1_0 a1_1 a1_2 a1_3 a1_4 a1_5 a1_6 t288 _ ?side1 ?side2 A28.out).mono ?_); (case side1 => repeat (first | exact (Kd.C_below HR0.out HB.out) | (with_reducible refine Kd.C_alloc ?_ _) | (with_reducible refine Kd.C_drewN ?_ _) | (with_reducible refine Kd.C_drew ?_))); (case side2 => exact HC0.out); rintro e w39 ⟨rfl, hb⟩; refine ⟨_, rfl, ?_⟩; have n0_ := Aside0.mk (blk_below (g := gb279) (o := .cells #[.int .i64 a1_0, .int .i64 a1_1, .int .u32 a1_2, .int .u32 a1_3, .int .i64 a1_4, .int .i64 a1_5, .int .i64 a1_6] 46 (0, 0)) (by (with_reducible repeat (first | refine blk_drewN ?_ _ | refine blk_drew ?_ | refine blk_alloc ?_ _)); exact BK279.out) hb); have n1_ := Aside0.mk (below_step (by repeat (first | (with_reducible first | exact HB.out | apply below_alloc | apply pw_below_drewN | apply below_drew1 | refine below_set ?_ GE279.out) | exact HB.out)) hb); clear BK279; clear HB; have BK279 := n0_; have HB := n1_; clear n0_ n1_; (try clear hb); (try clear hb2); (try clear hk); (try clear hi); have hcz40_0 : w39.cell? ⟨gb279, 0, none⟩ = some (.int .i64 a1_0) := (blk_cell BK279.out 0).trans rfl; have hcz40_1 : w39.cell? ⟨gb279, 1, none⟩ = some (.int .i64 a1_1) := (blk_cell BK279.out 1).trans rfl; have hcz40_2 : w39.cell? ⟨gb279, 2, none⟩ = some (.int .u32 a1_2) := (blk_cell BK279.out 2).trans rfl; have hcz40_3 : w39.cell? ⟨gb279, 3, none⟩ = some (.int .u32 a1_3) := (blk_cell BK279.out 3).trans rfl; have hcz40_4 : w39.cell? ⟨gb279, 4, none⟩ = some (.int .i64 a1_4) := (blk_cell BK279.out 4).trans rfl; have hcz40_5 : w39.cell? ⟨gb279, 5, none⟩ = some (.int .i64 a1_5) := (blk_cell BK279.out 5).trans rfl; have hcz40_6 : w39.cell? ⟨gb279, 6, none⟩ = some (.int .i64 a1_6) := (blk_cell BK279.out 6).trans rfl; have hfz40_0 := blk_frozen BK279.out 0; have hfz40_1 := blk_frozen BK279.out 1; have hfz40_2 := blk_frozen BK279.out 2; have hfz40_3 := blk_frozen BK279.out 3; have hfz40_4 := blk_frozen BK279.out 4; have hfz40_5 := blk_frozen BK279.out 5; have hfz40_6 := blk_frozen BK279.out 6) | (go_at_call 25; (with_reducible refine (rule_Allows.calls _ _ l0 a1_0 a1_1 a1_2 a1_3 a1_4 a1_5 a1_6 t289 _ ?side1 ?side2 A30.out).mono ?_); (case side1 => repeat (first | exact (Kd.C_below HR0.out HB.out) | (with_reducible refine Kd.C_alloc ?_ _) | (with_reducible refine Kd.C_drewN ?_ _) | (with_reducible refine Kd.C_drew ?_))); (case side2 => exact HC0.out); rintro e w41 ⟨rfl, hb⟩; have n0_ := Aside0.mk (blk_below (g := gb279) (o := .cells #[.int .i64 a1_0, .int .i64 a1_1, .int .u32 a1_2, .int .u32 a1_3, .int .i64 a1_4, .int .i64 a1_5, .int .i64 a1_6] 46 (0, 0)) (by (with_reducible repeat (first | refine blk_drewN ?_ _ | refine blk_drew ?_ | refine blk_alloc ?_ _)); exact BK279.out) hb); have n1_ := Aside0.mk (below_step (by repeat (first | (with_reducible first | exact HB.out | apply below_alloc | apply pw_below_drewN | apply below_drew1 | refine below_set ?_ GE279.out) | exact HB.out)) hb); clear BK279; clear HB; have BK279 := n0_; have HB := n1_; clear n0_ n1_; (try clear hb); (try clear hb2); (try clear hk); (try clear hi); have p290 : 0 ≤ (t281 : Int) := of_decide_eq_true (by first | (with_reducible assumption) | assumption); have q290 : t281 < (l0.length : Int) := of_decide_eq_true (by first | (with_reducible assumption) | assumption); obtain ⟨ad290, e290, hx290_0, hx290_1, hx290_2, hx290_3, hx290_4, hx290_5, hx290_6, hx290_7, hx290_8, hx290_9, hx290_10, hx290_11⟩ := at_T42 HR0.out t281 p290 q290; cases e290; replace hx290_0 := (HB.out.cell (World.block_lt_of_cell? w _ hx290_0)).trans hx290_0; replace hx290_1 := (HB.out.cell (World.block_lt_of_cell? w _ hx290_1)).trans hx290_1; replace hx290_2 := (HB.out.cell (World.block_lt_of_cell? w _ hx290_2)).trans hx290_2; replace hx290_3 := (HB.out.cell (World.block_lt_of_cell? w _ hx290_3)).trans hx290_3; replace hx290_4 := (HB.out.cell (World.block_lt_of_cell? w _ hx290_4)).trans hx290_4; replace hx290_5 := (HB.out.cell (World.block_lt_of_cell? w _ hx290_5)).trans hx290_5; replace hx290_6 := (HB.out.cell (World.block_lt_of_cell? w _ hx290_6)).trans hx290_6; replace hx290_7 := (HB.out.cell (World.block_lt_of_cell? w _ hx290_7)).trans hx290_7; replace hx290_8 := (HB.out.cell (World.block_lt_of_cell? w _ hx290_8)).trans hx290_8; replace hx290_9 := (HB.out.cell (World.block_lt_of_cell? w _ hx290_9)).trans hx290_9; replace hx290_10 := (HB.out.cell (World.block_lt_of_cell? w _ hx290_10)).trans hx290_10; replace hx290_11 := (HB.out.cell (World.block_lt_of_cell? w _ hx290_11)).trans hx290_11; replace p290 := eq_true p290; replace q290 := eq_true q290) | (go_at_call 26; (with_reducible refine (rule_Right.calls _ _ l0 t291 _ ?side1 ?side2 A35.out).mono ?_); (case side1 => repeat (first | exact (Kd.C_below HR0.out HB.out) | (with_reducible refine Kd.C_alloc ?_ _) | (with_reducible refine Kd.C_drewN ?_ _) | (with_reducible refine Kd.C_drew ?_))); (case side2 => exact HC0.out); rintro e w42 ⟨rfl, hb⟩; have n0_ := Aside0.mk (blk_below (g := gb279) (o := .cells #[.int .i64 a1_0, .int .i64 a1_1, .int .u32 a1_2, .int .u32 a1_3, .int .i64 a1_4, .int .i64 a1_5, .int .i64 a1_6] 46 (0, 0)) (by (with_reducible repeat (first | refine blk_drewN ?_ _ | refine blk_drew ?_ | refine blk_alloc ?_ _)); exact BK279.out) hb); have n1_ := Aside0.mk (below_step (by repeat (first | (with_reducible first | exact HB.out | apply below_alloc | apply pw_below_drewN | apply below_drew1 | refine below_set ?_ GE279.out) | exact HB.out)) hb); clear BK279; clear HB; have BK279 := n0_; have HB := n1_; clear n0_ n1_; (try clear hb); (try clear hb2); (try clear hk); (try clear hi)) | (go_at_call 19; (with_reducible refine (gueritelaw15_awake.calls  t292 _ A37.out).mono ?_); rintro e w43 ⟨rfl, hb⟩; have n0_ := Aside0.mk (blk_below (g := gb279) (o := .cells #[.int .i64 a1_0, .int .i64 a1_1, .int .u32 a1_2, .int .u32 a1_3, .int .i64 a1_4, .int .i64 a1_5, .int .i64 a1_6] 46 (0, 0)) (by (with_reducible repeat (first | refine blk_drewN ?_ _ | refine blk_drew ?_ | refine blk_alloc ?_ _)); exact BK279.out) hb); have n1_ := Aside0.mk (below_step (by repeat (first | (with_reducible first | exact HB.out | apply below_alloc | apply pw_below_drewN | apply below_drew1 | refine below_set ?_ GE279.out) | exact HB.out)) hb); clear BK279; clear HB; have BK279 := n0_; have HB := n1_; clear n0_ n1_; (try clear hb); (try clear hb2); (try clear hk); (try clear hi)))
                      go_ret
                      exact ⟨by first | rfl | (simp [errW_none, errW_some] <;> rfl) | (simp [*, errW_none, errW_some] <;> rfl), by repeat (first | (with_reducible first | exact HB.out | apply below_alloc | apply pw_below_drewN | apply below_drew1 | refine below_set ?_ GE279.out) | exact HB.out)⟩
                    · rw [if_neg c36] at H
                      have c36b0 : (t291 == x6_1) = false := by simpa using c36
                      (try (have c36b1 : decide (t291 = x6_1) = false := by simpa using c36))
                      (try (have c36b2 : (t291 == x6_1) = false := by simpa using c36))
                      (try (have c36b3 : ¬ (t291 = x6_1) := by simpa using c36))
                      clear c36
                      obtain rfl := Option.some.inj H
                      have hcz44_0 : wr.cell? ⟨gb279, 0, none⟩ = some (.int .i64 a1_0) := (blk_cell BK279.out 0).trans rfl
                      have hcz44_1 : wr.cell? ⟨gb279, 1, none⟩ = some (.int .i64 a1_1) := (blk_cell BK279.out 1).trans rfl
                      have hcz44_2 : wr.cell? ⟨gb279, 2, none⟩ = some (.int .u32 a1_2) := (blk_cell BK279.out 2).trans rfl
                      have hcz44_3 : wr.cell? ⟨gb279, 3, none⟩ = some (.int .u32 a1_3) := (blk_cell BK279.out 3).trans rfl
                      have hcz44_4 : wr.cell? ⟨gb279, 4, none⟩ = some (.int .i64 a1_4) := (blk_cell BK279.out 4).trans rfl
                      have hcz44_5 : wr.cell? ⟨gb279, 5, none⟩ = some (.int .i64 a1_5) := (blk_cell BK279.out 5).trans rfl
                      have hcz44_6 : wr.cell? ⟨gb279, 6, none⟩ = some (.int .i64 a1_6) := (blk_cell BK279.out 6).trans rfl
                      have hfz44_0 := blk_frozen BK279.out 0
                      have hfz44_1 := blk_frozen BK279.out 1
                      have hfz44_2 := blk_frozen BK279.out 2
                      have hfz44_3 := blk_frozen BK279.out 3
                      have hfz44_4 := blk_frozen BK279.out 4
                      have hfz44_5 := blk_frozen BK279.out 5
                      have hfz44_6 := blk_frozen BK279.out 6
                      go_wp2_with (first | ((with_reducible refine gate_callee (f := 20) rfl ?_); refine goesL_ (some 54) rfl rfl Try.func20 (by kernel_rfl) rfl #[.slice A0 l0.length c0, .agg #[.int .i64 a1_0, .int .i64 a1_1, .int .u32 a1_2, .int .u32 a1_3, .int .i64 a1_4, .int .i64 a1_5, .int .i64 a1_6]] rfl (by (try simp only [List.map_toArray, List.map_cons, List.map_nil]); first | done | rfl | (simp only [List.length_drop, List.length_take]; rfl)) ?_; (with_reducible refine (rule_First.calls _ _ l0 a1_0 a1_1 a1_2 a1_3 a1_4 a1_5 a1_6 t288 _ ?side1 ?side2 A28.out).mono ?_); (case side1 => repeat (first | exact (Kd.C_below HR0.out HB.out) | (with_reducible refine Kd.C_alloc ?_ _) | (with_reducible refine Kd.C_drewN ?_ _) | (with_reducible refine Kd.C_drew ?_))); (case side2 => exact HC0.out); rintro e w45 ⟨rfl, hb⟩; refine ⟨_, rfl, ?_⟩; have n0_ := Aside0.mk (blk_below (g := gb279) (o := .cells #[.int .i64 a1_0, .int .i64 a1_1, .int .u32 a1_2, .int .u32 a1_3, .int .i64 a1_4, .int .i64 a1_5, .int .i64 a1_6] 46 (0, 0)) (by (with_reducible repeat (first | refine blk_drewN ?_ _ | refine blk_drew ?_ | refine blk_alloc ?_ _)); exact BK279.out) hb); have n1_ := Aside0.mk (below_step (by repeat (first | (with_reducible first | exact HB.out | apply below_alloc | apply pw_below_drewN | apply below_drew1 | refine below_set ?_ GE279.out) | exact HB.out)) hb); clear BK279; clear HB; have BK279 := n0_; have HB := n1_; clear n0_ n1_; (try clear hb); (try clear hb2); (try clear hk); (try clear hi); have hcz46_0 : w45.cell? ⟨gb279, 0, none⟩ = some (.int .i64 a1_0) := (blk_cell BK279.out 0).trans rfl; have hcz46_1 : w45.cell? ⟨gb279, 1, none⟩ = some (.int .i64 a1_1) := (blk_cell BK279.out 1).trans rfl; have hcz46_2 : w45.cell? ⟨gb279, 2, none⟩ = some (.int .u32 a1_2) := (blk_cell BK279.out 2).trans rfl; have hcz46_3 : w45.cell? ⟨gb279, 3, none⟩ = some (.int .u32 a1_3) := (blk_cell BK279.out 3).trans rfl; have hcz46_4 : w45.cell? ⟨gb279, 4, none⟩ = some (.int .i64 a1_4) := (blk_cell BK279.out 4).trans rfl; have hcz46_5 : w45.cell? ⟨gb279, 5, none⟩ = some (.int .i64 a1_5) := (blk_cell BK279.out 5).trans rfl; have hcz46_6 : w45.cell? ⟨gb279, 6, none⟩ = some (.int .i64 a1_6) := (blk_cell BK279.out 6).trans rfl; have hfz46_0 := blk_frozen BK279.out 0; have hfz46_1 := blk_frozen BK279.out 1; have hfz46_2 := blk_frozen BK279.out 2; have hfz46_3 := blk_frozen BK279.out 3; have hfz46_4 := blk_frozen BK279.out 4; have hfz46_5 := blk_frozen BK279.out 5; have hfz46_6 := blk_frozen BK279.out 6) | (go_at_call 25; (with_reducible refine (rule_Allows.calls _ _ l0 a1_0 a1_1 a1_2 a1_3 a1_4 a1_5 a1_6 t289 _ ?side1 ?side2 A30.out).mono ?_); (case side1 => repeat (first | exact (Kd.C_below HR0.out HB.out) | (with_reducible refine Kd.C_alloc ?_ _) | (with_reducible refine Kd.C_drewN ?_ _) | (with_reducible refine Kd.C_drew ?_))); (case side2 => exact HC0.out); rintro e w47 ⟨rfl, hb⟩; have n0_ := Aside0.mk (blk_below (g := gb279) (o := .cells #[.int .i64 a1_0, .int .i64 a1_1, .int .u32 a1_2, .int .u32 a1_3, .int .i64 a1_4, .int .i64 a1_5, .int .i64 a1_6] 46 (0, 0)) (by (with_reducible repeat (first | refine blk_drewN ?_ _ | refine blk_drew ?_ | refine blk_alloc ?_ _)); exact BK279.out) hb); have n1_ := Aside0.mk (below_step (by repeat (first | (with_reducible first | exact HB.out | apply below_alloc | apply pw_below_drewN | apply below_drew1 | refine below_set ?_ GE279.out) | exact HB.out)) hb); clear BK279; clear HB; have BK279 := n0_; have HB := n1_; clear n0_ n1_; (try clear hb); (try clear hb2); (try clear hk); (try clear hi); have p290 : 0 ≤ (t281 : Int) := of_decide_eq_true (by first | (with_reducible assumption) | assumption); have q290 : t281 < (l0.length : Int) := of_decide_eq_true (by first | (with_reducible assumption) | assumption); obtain ⟨ad290, e290, hx290_0, hx290_1, hx290_2, hx290_3, hx290_4, hx290_5, hx290_6, hx290_7, hx290_8, hx290_9, hx290_10, hx290_11⟩ := at_T42 HR0.out t281 p290 q290; cases e290; replace hx290_0 := (HB.out.cell (World.block_lt_of_cell? w _ hx290_0)).trans hx290_0; replace hx290_1 := (HB.out.cell (World.block_lt_of_cell? w _ hx290_1)).trans hx290_1; replace hx290_2 := (HB.out.cell (World.block_lt_of_cell? w _ hx290_2)).trans hx290_2; replace hx290_3 := (HB.out.cell (World.block_lt_of_cell? w _ hx290_3)).trans hx290_3; replace hx290_4 := (HB.out.cell (World.block_lt_of_cell? w _ hx290_4)).trans hx290_4; replace hx290_5 := (HB.out.cell (World.block_lt_of_cell? w _ hx290_5)).trans hx290_5; replace hx290_6 := (HB.out.cell (World.block_lt_of_cell? w _ hx290_6)).trans hx290_6; replace hx290_7 := (HB.out.cell (World.block_lt_of_cell? w _ hx290_7)).trans hx290_7; replace hx290_8 := (HB.out.cell (World.block_lt_of_cell? w _ hx290_8)).trans hx290_8; replace hx290_9 := (HB.out.cell (World.block_lt_of_cell? w _ hx290_9)).trans hx290_9; replace hx290_10 := (HB.out.cell (World.block_lt_of_cell? w _ hx290_10)).trans hx290_10; replace hx290_11 := (HB.out.cell (World.block_lt_of_cell? w _ hx290_11)).trans hx290_11; replace p290 := eq_true p290; replace q290 := eq_true q290) | (go_at_call 26; (with_reducible refine (rule_Right.calls _ _ l0 t291 _ ?side1 ?side2 A35.out).mono ?_); (case side1 => repeat (first | exact (Kd.C_below HR0.out HB.out) | (with_reducible refine Kd.C_alloc ?_ _) | (with_reducible refine Kd.C_drewN ?_ _) | (with_reducible refine Kd.C_drew ?_))); (case side2 => exact HC0.out); rintro e w48 ⟨rfl, hb⟩; have n0_ := Aside0.mk (blk_below (g := gb279) (o := .cells #[.int .i64 a1_0, .int .i64 a1_1, .int .u32 a1_2, .int .u32 a1_3, .int .i64 a1_4, .int .i64 a1_5, .int .i64 a1_6] 46 (0, 0)) (by (with_reducible repeat (first | refine blk_drewN ?_ _ | refine blk_drew ?_ | refine blk_alloc ?_ _)); exact BK279.out) hb); have n1_ := Aside0.mk (below_step (by repeat (first | (with_reducible first | exact HB.out | apply below_alloc | apply pw_below_drewN | apply below_drew1 | refine below_set ?_ GE279.out) | exact HB.out)) hb); clear BK279; clear HB; have BK279 := n0_; have HB := n1_; clear n0_ n1_; (try clear hb); (try clear hb2); (try clear hk); (try clear hi)))
                      go_ret
                      exact ⟨by first | rfl | (simp [errW_none, errW_some] <;> rfl) | (simp [*, errW_none, errW_some] <;> rfl), by repeat (first | (with_reducible first | exact HB.out | apply below_alloc | apply pw_below_drewN | apply below_drew1 | refine below_set ?_ GE279.out) | exact HB.out)⟩
                  · rw [if_neg c34] at H
                    have c34b0 : (t289 == ((rd_T42 l0 t281).f9)) = false := by simpa using c34
                    (try (have c34b1 : decide (t289 = ((rd_T42 l0 t281).f9)) = false := by simpa using c34))
                    (try (have c34b2 : (t289 == ((rd_T42 l0 t281).f9)) = false := by simpa using c34))
                    (try (have c34b3 : ¬ (t289 = ((rd_T42 l0 t281).f9)) := by simpa using c34))
                    clear c34
                    obtain rfl := Option.some.inj H
                    have hcz49_0 : wr.cell? ⟨gb279, 0, none⟩ = some (.int .i64 a1_0) := (blk_cell BK279.out 0).trans rfl
                    have hcz49_1 : wr.cell? ⟨gb279, 1, none⟩ = some (.int .i64 a1_1) := (blk_cell BK279.out 1).trans rfl
                    have hcz49_2 : wr.cell? ⟨gb279, 2, none⟩ = some (.int .u32 a1_2) := (blk_cell BK279.out 2).trans rfl
                    have hcz49_3 : wr.cell? ⟨gb279, 3, none⟩ = some (.int .u32 a1_3) := (blk_cell BK279.out 3).trans rfl
                    have hcz49_4 : wr.cell? ⟨gb279, 4, none⟩ = some (.int .i64 a1_4) := (blk_cell BK279.out 4).trans rfl
                    have hcz49_5 : wr.cell? ⟨gb279, 5, none⟩ = some (.int .i64 a1_5) := (blk_cell BK279.out 5).trans rfl
                    have hcz49_6 : wr.cell? ⟨gb279, 6, none⟩ = some (.int .i64 a1_6) := (blk_cell BK279.out 6).trans rfl
                    have hfz49_0 := blk_frozen BK279.out 0
                    have hfz49_1 := blk_frozen BK279.out 1
                    have hfz49_2 := blk_frozen BK279.out 2
                    have hfz49_3 := blk_frozen BK279.out 3
                    have hfz49_4 := blk_frozen BK279.out 4
                    have hfz49_5 := blk_frozen BK279.out 5
                    have hfz49_6 := blk_frozen BK279.out 6
                    go_wp2_with (first | ((with_reducible refine gate_callee (f := 20) rfl ?_); refine goesL_ (some 54) rfl rfl Try.func20 (by kernel_rfl) rfl #[.slice A0 l0.length c0, .agg #[.int .i64 a1_0, .int .i64 a1_1, .int .u32 a1_2, .int .u32 a1_3, .int .i64 a1_4, .int .i64 a1_5, .int .i64 a1_6]] rfl (by (try simp only [List.map_toArray, List.map_cons, List.map_nil]); first | done | rfl | (simp only [List.length_drop, List.length_take]; rfl)) ?_; (with_reducible refine (rule_First.calls _ _ l0 a1_0 a1_1 a1_2 a1_3 a1_4 a1_5 a1_6 t288 _ ?side1 ?side2 A28.out).mono ?_); (case side1 => repeat (first | exact (Kd.C_below HR0.out HB.out) | (with_reducible refine Kd.C_alloc ?_ _) | (with_reducible refine Kd.C_drewN ?_ _) | (with_reducible refine Kd.C_drew ?_))); (case side2 => exact HC0.out); rintro e w50 ⟨rfl, hb⟩; refine ⟨_, rfl, ?_⟩; have n0_ := Aside0.mk (blk_below (g := gb279) (o := .cells #[.int .i64 a1_0, .int .i64 a1_1, .int .u32 a1_2, .int .u32 a1_3, .int .i64 a1_4, .int .i64 a1_5, .int .i64 a1_6] 46 (0, 0)) (by (with_reducible repeat (first | refine blk_drewN ?_ _ | refine blk_drew ?_ | refine blk_alloc ?_ _)); exact BK279.out) hb); have n1_ := Aside0.mk (below_step (by repeat (first | (with_reducible first | exact HB.out | apply below_alloc | apply pw_below_drewN | apply below_drew1 | refine below_set ?_ GE279.out) | exact HB.out)) hb); clear BK279; clear HB; have BK279 := n0_; have HB := n1_; clear n0_ n1_; (try clear hb); (try clear hb2); (try clear hk); (try clear hi); have hcz51_0 : w50.cell? ⟨gb279, 0, none⟩ = some (.int .i64 a1_0) := (blk_cell BK279.out 0).trans rfl; have hcz51_1 : w50.cell? ⟨gb279, 1, none⟩ = some (.int .i64 a1_1) := (blk_cell BK279.out 1).trans rfl; have hcz51_2 : w50.cell? ⟨gb279, 2, none⟩ = some (.int .u32 a1_2) := (blk_cell BK279.out 2).trans rfl; have hcz51_3 : w50.cell? ⟨gb279, 3, none⟩ = some (.int .u32 a1_3) := (blk_cell BK279.out 3).trans rfl; have hcz51_4 : w50.cell? ⟨gb279, 4, none⟩ = some (.int .i64 a1_4) := (blk_cell BK279.out 4).trans rfl; have hcz51_5 : w50.cell? ⟨gb279, 5, none⟩ = some (.int .i64 a1_5) := (blk_cell BK279.out 5).trans rfl; have hcz51_6 : w50.cell? ⟨gb279, 6, none⟩ = some (.int .i64 a1_6) := (blk_cell BK279.out 6).trans rfl; have hfz51_0 := blk_frozen BK279.out 0; have hfz51_1 := blk_frozen BK279.out 1; have hfz51_2 := blk_frozen BK279.out 2; have hfz51_3 := blk_frozen BK279.out 3; have hfz51_4 := blk_frozen BK279.out 4; have hfz51_5 := blk_frozen BK279.out 5; have hfz51_6 := blk_frozen BK279.out 6) | (go_at_call 25; (with_reducible refine (rule_Allows.calls _ _ l0 a1_0 a1_1 a1_2 a1_3 a1_4 a1_5 a1_6 t289 _ ?side1 ?side2 A30.out).mono ?_); (case side1 => repeat (first | exact (Kd.C_below HR0.out HB.out) | (with_reducible refine Kd.C_alloc ?_ _) | (with_reducible refine Kd.C_drewN ?_ _) | (with_reducible refine Kd.C_drew ?_))); (case side2 => exact HC0.out); rintro e w52 ⟨rfl, hb⟩; have n0_ := Aside0.mk (blk_below (g := gb279) (o := .cells #[.int .i64 a1_0, .int .i64 a1_1, .int .u32 a1_2, .int .u32 a1_3, .int .i64 a1_4, .int .i64 a1_5, .int .i64 a1_6] 46 (0, 0)) (by (with_reducible repeat (first | refine blk_drewN ?_ _ | refine blk_drew ?_ | refine blk_alloc ?_ _)); exact BK279.out) hb); have n1_ := Aside0.mk (below_step (by repeat (first | (with_reducible first | exact HB.out | apply below_alloc | apply pw_below_drewN | apply below_drew1 | refine below_set ?_ GE279.out) | exact HB.out)) hb); clear BK279; clear HB; have BK279 := n0_; have HB := n1_; clear n0_ n1_; (try clear hb); (try clear hb2); (try clear hk); (try clear hi); have p290 : 0 ≤ (t281 : Int) := of_decide_eq_true (by first | (with_reducible assumption) | assumption); have q290 : t281 < (l0.length : Int) := of_decide_eq_true (by first | (with_reducible assumption) | assumption); obtain ⟨ad290, e290, hx290_0, hx290_1, hx290_2, hx290_3, hx290_4, hx290_5, hx290_6, hx290_7, hx290_8, hx290_9, hx290_10, hx290_11⟩ := at_T42 HR0.out t281 p290 q290; cases e290; replace hx290_0 := (HB.out.cell (World.block_lt_of_cell? w _ hx290_0)).trans hx290_0; replace hx290_1 := (HB.out.cell (World.block_lt_of_cell? w _ hx290_1)).trans hx290_1; replace hx290_2 := (HB.out.cell (World.block_lt_of_cell? w _ hx290_2)).trans hx290_2; replace hx290_3 := (HB.out.cell (World.block_lt_of_cell? w _ hx290_3)).trans hx290_3; replace hx290_4 := (HB.out.cell (World.block_lt_of_cell? w _ hx290_4)).trans hx290_4; replace hx290_5 := (HB.out.cell (World.block_lt_of_cell? w _ hx290_5)).trans hx290_5; replace hx290_6 := (HB.out.cell (World.block_lt_of_cell? w _ hx290_6)).trans hx290_6; replace hx290_7 := (HB.out.cell (World.block_lt_of_cell? w _ hx290_7)).trans hx290_7; replace hx290_8 := (HB.out.cell (World.block_lt_of_cell? w _ hx290_8)).trans hx290_8; replace hx290_9 := (HB.out.cell (World.block_lt_of_cell? w _ hx290_9)).trans hx290_9; replace hx290_10 := (HB.out.cell (World.block_lt_of_cell? w _ hx290_10)).trans hx290_10; replace hx290_11 := (HB.out.cell (World.block_lt_of_cell? w _ hx290_11)).trans hx290_11; replace p290 := eq_true p290; replace q290 := eq_true q290))
                    go_ret
                    exact ⟨by first | rfl | (simp [errW_none, errW_some] <;> rfl) | (simp [*, errW_none, errW_some] <;> rfl), by repeat (first | (with_reducible first | exact HB.out | apply below_alloc | apply pw_below_drewN | apply below_drew1 | refine below_set ?_ GE279.out) | exact HB.out)⟩
                · rw [if_neg c33] at H
                  exact absurd H (by simp)
              · rw [if_neg c32] at H
                exact absurd H (by simp)
            · rw [if_neg c31] at H
              have c31b0 : decide (0 ≤ t281) = false := decide_eq_false c31
              clear c31
              by_cases c53 : (t289 == false) = true
              · rw [if_pos c53] at H
                have c53b0 : (t289 == false) = true := c53
                (try (have c53b1 : decide (t289 = false) = true := by simpa using c53))
                (try (have c53b2 : (t289 == false) = true := by simpa using c53))
                clear c53
                replace H := Option.bind_eq_some_iff.mp H
                obtain ⟨t293, A540, H⟩ := H
                replace H : (if (t293 == x6_1) = true then ((gueritelaw15_awake.f).bind fun t294 => (some t294)) else (some false)) = some r := H
                have A54 := Aside0.mk A540
                clear A540
                by_cases c55 : (t293 == x6_1) = true
                · rw [if_pos c55] at H
                  have c55b0 : (t293 == x6_1) = true := c55
                  (try (have c55b1 : decide (t293 = x6_1) = true := by simpa using c55))
                  (try (have c55b2 : (t293 == x6_1) = true := by simpa using c55))
                  clear c55
                  replace H := Option.bind_eq_some_iff.mp H
                  obtain ⟨t294, A560, H⟩ := H
                  replace H : (some t294) = some r := H
                  have A56 := Aside0.mk A560
                  clear A560
                  obtain rfl := Option.some.inj H
                  have hcz57_0 : wr.cell? ⟨gb279, 0, none⟩ = some (.int .i64 a1_0) := (blk_cell BK279.out 0).trans rfl
                  have hcz57_1 : wr.cell? ⟨gb279, 1, none⟩ = some (.int .i64 a1_1) := (blk_cell BK279.out 1).trans rfl
                  have hcz57_2 : wr.cell? ⟨gb279, 2, none⟩ = some (.int .u32 a1_2) := (blk_cell BK279.out 2).trans rfl
                  have hcz57_3 : wr.cell? ⟨gb279, 3, none⟩ = some (.int .u32 a1_3) := (blk_cell BK279.out 3).trans rfl
                  have hcz57_4 : wr.cell? ⟨gb279, 4, none⟩ = some (.int .i64 a1_4) := (blk_cell BK279.out 4).trans rfl
                  have hcz57_5 : wr.cell? ⟨gb279, 5, none⟩ = some (.int .i64 a1_5) := (blk_cell BK279.out 5).trans rfl
                  have hcz57_6 : wr.cell? ⟨gb279, 6, none⟩ = some (.int .i64 a1_6) := (blk_cell BK279.out 6).trans rfl
                  have hfz57_0 := blk_frozen BK279.out 0
                  have hfz57_1 := blk_frozen BK279.out 1
                  have hfz57_2 := blk_frozen BK279.out 2
                  have hfz57_3 := blk_frozen BK279.out 3
                  have hfz57_4 := blk_frozen BK279.out 4
                  have hfz57_5 := blk_frozen BK279.out 5
                  have hfz57_6 := blk_frozen BK279.out 6
                  go_wp2_with (first | ((with_reducible refine gate_callee (f := 20) rfl ?_); refine goesL_ (some 54) rfl rfl Try.func20 (by kernel_rfl) rfl #[.slice A0 l0.length c0, .agg #[.int .i64 a1_0, .int .i64 a1_1, .int .u32 a1_2, .int .u32 a1_3, .int .i64 a1_4, .int .i64 a1_5, .int .i64 a1_6]] rfl (by (try simp only [List.map_toArray, List.map_cons, List.map_nil]); first | done | rfl | (simp only [List.length_drop, List.length_take]; rfl)) ?_; (with_reducible refine (rule_First.calls _ _ l0 a1_0 a1_1 a1_2 a1_3 a1_4 a1_5 a1_6 t288 _ ?side1 ?side2 A28.out).mono ?_); (case side1 => repeat (first | exact (Kd.C_below HR0.out HB.out) | (with_reducible refine Kd.C_alloc ?_ _) | (with_reducible refine Kd.C_drewN ?_ _) | (with_reducible refine Kd.C_drew ?_))); (case side2 => exact HC0.out); rintro e w58 ⟨rfl, hb⟩; refine ⟨_, rfl, ?_⟩; have n0_ := Aside0.mk (blk_below (g := gb279) (o := .cells #[.int .i64 a1_0, .int .i64 a1_1, .int .u32 a1_2, .int .u32 a1_3, .int .i64 a1_4, .int .i64 a1_5, .int .i64 a1_6] 46 (0, 0)) (by (with_reducible repeat (first | refine blk_drewN ?_ _ | refine blk_drew ?_ | refine blk_alloc ?_ _)); exact BK279.out) hb); have n1_ := Aside0.mk (below_step (by repeat (first | (with_reducible first | exact HB.out | apply below_alloc | apply pw_below_drewN | apply below_drew1 | refine below_set ?_ GE279.out) | exact HB.out)) hb); clear BK279; clear HB; have BK279 := n0_; have HB := n1_; clear n0_ n1_; (try clear hb); (try clear hb2); (try clear hk); (try clear hi); have hcz59_0 : w58.cell? ⟨gb279, 0, none⟩ = some (.int .i64 a1_0) := (blk_cell BK279.out 0).trans rfl; have hcz59_1 : w58.cell? ⟨gb279, 1, none⟩ = some (.int .i64 a1_1) := (blk_cell BK279.out 1).trans rfl; have hcz59_2 : w58.cell? ⟨gb279, 2, none⟩ = some (.int .u32 a1_2) := (blk_cell BK279.out 2).trans rfl; have hcz59_3 : w58.cell? ⟨gb279, 3, none⟩ = some (.int .u32 a1_3) := (blk_cell BK279.out 3).trans rfl; have hcz59_4 : w58.cell? ⟨gb279, 4, none⟩ = some (.int .i64 a1_4) := (blk_cell BK279.out 4).trans rfl; have hcz59_5 : w58.cell? ⟨gb279, 5, none⟩ = some (.int .i64 a1_5) := (blk_cell BK279.out 5).trans rfl; have hcz59_6 : w58.cell? ⟨gb279, 6, none⟩ = some (.int .i64 a1_6) := (blk_cell BK279.out 6).trans rfl; have hfz59_0 := blk_frozen BK279.out 0; have hfz59_1 := blk_frozen BK279.out 1; have hfz59_2 := blk_frozen BK279.out 2; have hfz59_3 := blk_frozen BK279.out 3; have hfz59_4 := blk_frozen BK279.out 4; have hfz59_5 := blk_frozen BK279.out 5; have hfz59_6 := blk_frozen BK279.out 6) | (go_at_call 25; (with_reducible refine (rule_Allows.calls _ _ l0 a1_0 a1_1 a1_2 a1_3 a1_4 a1_5 a1_6 t289 _ ?side1 ?side2 A30.out).mono ?_); (case side1 => repeat (first | exact (Kd.C_below HR0.out HB.out) | (with_reducible refine Kd.C_alloc ?_ _) | (with_reducible refine Kd.C_drewN ?_ _) | (with_reducible refine Kd.C_drew ?_))); (case side2 => exact HC0.out); rintro e w60 ⟨rfl, hb⟩; have n0_ := Aside0.mk (blk_below (g := gb279) (o := .cells #[.int .i64 a1_0, .int .i64 a1_1, .int .u32 a1_2, .int .u32 a1_3, .int .i64 a1_4, .int .i64 a1_5, .int .i64 a1_6] 46 (0, 0)) (by (with_reducible repeat (first | refine blk_drewN ?_ _ | refine blk_drew ?_ | refine blk_alloc ?_ _)); exact BK279.out) hb); have n1_ := Aside0.mk (below_step (by repeat (first | (with_reducible first | exact HB.out | apply below_alloc | apply pw_below_drewN | apply below_drew1 | refine below_set ?_ GE279.out) | exact HB.out)) hb); clear BK279; clear HB; have BK279 := n0_; have HB := n1_; clear n0_ n1_; (try clear hb); (try clear hb2); (try clear hk); (try clear hi)) | (go_at_call 26; (with_reducible refine (rule_Right.calls _ _ l0 t293 _ ?side1 ?side2 A54.out).mono ?_); (case side1 => repeat (first | exact (Kd.C_below HR0.out HB.out) | (with_reducible refine Kd.C_alloc ?_ _) | (with_reducible refine Kd.C_drewN ?_ _) | (with_reducible refine Kd.C_drew ?_))); (case side2 => exact HC0.out); rintro e w61 ⟨rfl, hb⟩; have n0_ := Aside0.mk (blk_below (g := gb279) (o := .cells #[.int .i64 a1_0, .int .i64 a1_1, .int .u32 a1_2, .int .u32 a1_3, .int .i64 a1_4, .int .i64 a1_5, .int .i64 a1_6] 46 (0, 0)) (by (with_reducible repeat (first | refine blk_drewN ?_ _ | refine blk_drew ?_ | refine blk_alloc ?_ _)); exact BK279.out) hb); have n1_ := Aside0.mk (below_step (by repeat (first | (with_reducible first | exact HB.out | apply below_alloc | apply pw_below_drewN | apply below_drew1 | refine below_set ?_ GE279.out) | exact HB.out)) hb); clear BK279; clear HB; have BK279 := n0_; have HB := n1_; clear n0_ n1_; (try clear hb); (try clear hb2); (try clear hk); (try clear hi)) | (go_at_call 19; (with_reducible refine (gueritelaw15_awake.calls  t294 _ A56.out).mono ?_); rintro e w62 ⟨rfl, hb⟩; have n0_ := Aside0.mk (blk_below (g := gb279) (o := .cells #[.int .i64 a1_0, .int .i64 a1_1, .int .u32 a1_2, .int .u32 a1_3, .int .i64 a1_4, .int .i64 a1_5, .int .i64 a1_6] 46 (0, 0)) (by (with_reducible repeat (first | refine blk_drewN ?_ _ | refine blk_drew ?_ | refine blk_alloc ?_ _)); exact BK279.out) hb); have n1_ := Aside0.mk (below_step (by repeat (first | (with_reducible first | exact HB.out | apply below_alloc | apply pw_below_drewN | apply below_drew1 | refine below_set ?_ GE279.out) | exact HB.out)) hb); clear BK279; clear HB; have BK279 := n0_; have HB := n1_; clear n0_ n1_; (try clear hb); (try clear hb2); (try clear hk); (try clear hi)))
                  go_ret
                  exact ⟨by first | rfl | (simp [errW_none, errW_some] <;> rfl) | (simp [*, errW_none, errW_some] <;> rfl), by repeat (first | (with_reducible first | exact HB.out | apply below_alloc | apply pw_below_drewN | apply below_drew1 | refine below_set ?_ GE279.out) | exact HB.out)⟩
                · rw [if_neg c55] at H
                  have c55b0 : (t293 == x6_1) = false := by simpa using c55
                  (try (have c55b1 : decide (t293 = x6_1) = false := by simpa using c55))
                  (try (have c55b2 : (t293 == x6_1) = false := by simpa using c55))
                  (try (have c55b3 : ¬ (t293 = x6_1) := by simpa using c55))
                  clear c55
                  obtain rfl := Option.some.inj H
                  have hcz63_0 : wr.cell? ⟨gb279, 0, none⟩ = some (.int .i64 a1_0) := (blk_cell BK279.out 0).trans rfl
                  have hcz63_1 : wr.cell? ⟨gb279, 1, none⟩ = some (.int .i64 a1_1) := (blk_cell BK279.out 1).trans rfl
                  have hcz63_2 : wr.cell? ⟨gb279, 2, none⟩ = some (.int .u32 a1_2) := (blk_cell BK279.out 2).trans rfl
                  have hcz63_3 : wr.cell? ⟨gb279, 3, none⟩ = some (.int .u32 a1_3) := (blk_cell BK279.out 3).trans rfl
                  have hcz63_4 : wr.cell? ⟨gb279, 4, none⟩ = some (.int .i64 a1_4) := (blk_cell BK279.out 4).trans rfl
                  have hcz63_5 : wr.cell? ⟨gb279, 5, none⟩ = some (.int .i64 a1_5) := (blk_cell BK279.out 5).trans rfl
                  have hcz63_6 : wr.cell? ⟨gb279, 6, none⟩ = some (.int .i64 a1_6) := (blk_cell BK279.out 6).trans rfl
                  have hfz63_0 := blk_frozen BK279.out 0
                  have hfz63_1 := blk_frozen BK279.out 1
                  have hfz63_2 := blk_frozen BK279.out 2
                  have hfz63_3 := blk_frozen BK279.out 3
                  have hfz63_4 := blk_frozen BK279.out 4
                  have hfz63_5 := blk_frozen BK279.out 5
                  have hfz63_6 := blk_frozen BK279.out 6
                  go_wp2_with (first | ((with_reducible refine gate_callee (f := 20) rfl ?_); refine goesL_ (some 54) rfl rfl Try.func20 (by kernel_rfl) rfl #[.slice A0 l0.length c0, .agg #[.int .i64 a1_0, .int .i64 a1_1, .int .u32 a1_2, .int .u32 a1_3, .int .i64 a1_4, .int .i64 a1_5, .int .i64 a1_6]] rfl (by (try simp only [List.map_toArray, List.map_cons, List.map_nil]); first | done | rfl | (simp only [List.length_drop, List.length_take]; rfl)) ?_; (with_reducible refine (rule_First.calls _ _ l0 a1_0 a1_1 a1_2 a1_3 a1_4 a1_5 a1_6 t288 _ ?side1 ?side2 A28.out).mono ?_); (case side1 => repeat (first | exact (Kd.C_below HR0.out HB.out) | (with_reducible refine Kd.C_alloc ?_ _) | (with_reducible refine Kd.C_drewN ?_ _) | (with_reducible refine Kd.C_drew ?_))); (case side2 => exact HC0.out); rintro e w64 ⟨rfl, hb⟩; refine ⟨_, rfl, ?_⟩; have n0_ := Aside0.mk (blk_below (g := gb279) (o := .cells #[.int .i64 a1_0, .int .i64 a1_1, .int .u32 a1_2, .int .u32 a1_3, .int .i64 a1_4, .int .i64 a1_5, .int .i64 a1_6] 46 (0, 0)) (by (with_reducible repeat (first | refine blk_drewN ?_ _ | refine blk_drew ?_ | refine blk_alloc ?_ _)); exact BK279.out) hb); have n1_ := Aside0.mk (below_step (by repeat (first | (with_reducible first | exact HB.out | apply below_alloc | apply pw_below_drewN | apply below_drew1 | refine below_set ?_ GE279.out) | exact HB.out)) hb); clear BK279; clear HB; have BK279 := n0_; have HB := n1_; clear n0_ n1_; (try clear hb); (try clear hb2); (try clear hk); (try clear hi); have hcz65_0 : w64.cell? ⟨gb279, 0, none⟩ = some (.int .i64 a1_0) := (blk_cell BK279.out 0).trans rfl; have hcz65_1 : w64.cell? ⟨gb279, 1, none⟩ = some (.int .i64 a1_1) := (blk_cell BK279.out 1).trans rfl; have hcz65_2 : w64.cell? ⟨gb279, 2, none⟩ = some (.int .u32 a1_2) := (blk_cell BK279.out 2).trans rfl; have hcz65_3 : w64.cell? ⟨gb279, 3, none⟩ = some (.int .u32 a1_3) := (blk_cell BK279.out 3).trans rfl; have hcz65_4 : w64.cell? ⟨gb279, 4, none⟩ = some (.int .i64 a1_4) := (blk_cell BK279.out 4).trans rfl; have hcz65_5 : w64.cell? ⟨gb279, 5, none⟩ = some (.int .i64 a1_5) := (blk_cell BK279.out 5).trans rfl; have hcz65_6 : w64.cell? ⟨gb279, 6, none⟩ = some (.int .i64 a1_6) := (blk_cell BK279.out 6).trans rfl; have hfz65_0 := blk_frozen BK279.out 0; have hfz65_1 := blk_frozen BK279.out 1; have hfz65_2 := blk_frozen BK279.out 2; have hfz65_3 := blk_frozen BK279.out 3; have hfz65_4 := blk_frozen BK279.out 4; have hfz65_5 := blk_frozen BK279.out 5; have hfz65_6 := blk_frozen BK279.out 6) | (go_at_call 25; (with_reducible refine (rule_Allows.calls _ _ l0 a1_0 a1_1 a1_2 a1_3 a1_4 a1_5 a1_6 t289 _ ?side1 ?side2 A30.out).mono ?_); (case side1 => repeat (first | exact (Kd.C_below HR0.out HB.out) | (with_reducible refine Kd.C_alloc ?_ _) | (with_reducible refine Kd.C_drewN ?_ _) | (with_reducible refine Kd.C_drew ?_))); (case side2 => exact HC0.out); rintro e w66 ⟨rfl, hb⟩; have n0_ := Aside0.mk (blk_below (g := gb279) (o := .cells #[.int .i64 a1_0, .int .i64 a1_1, .int .u32 a1_2, .int .u32 a1_3, .int .i64 a1_4, .int .i64 a1_5, .int .i64 a1_6] 46 (0, 0)) (by (with_reducible repeat (first | refine blk_drewN ?_ _ | refine blk_drew ?_ | refine blk_alloc ?_ _)); exact BK279.out) hb); have n1_ := Aside0.mk (below_step (by repeat (first | (with_reducible first | exact HB.out | apply below_alloc | apply pw_below_drewN | apply below_drew1 | refine below_set ?_ GE279.out) | exact HB.out)) hb); clear BK279; clear HB; have BK279 := n0_; have HB := n1_; clear n0_ n1_; (try clear hb); (try clear hb2); (try clear hk); (try clear hi)) | (go_at_call 26; (with_reducible refine (rule_Right.calls _ _ l0 t293 _ ?side1 ?side2 A54.out).mono ?_); (case side1 => repeat (first | exact (Kd.C_below HR0.out HB.out) | (with_reducible refine Kd.C_alloc ?_ _) | (with_reducible refine Kd.C_drewN ?_ _) | (with_reducible refine Kd.C_drew ?_))); (case side2 => exact HC0.out); rintro e w67 ⟨rfl, hb⟩; have n0_ := Aside0.mk (blk_below (g := gb279) (o := .cells #[.int .i64 a1_0, .int .i64 a1_1, .int .u32 a1_2, .int .u32 a1_3, .int .i64 a1_4, .int .i64 a1_5, .int .i64 a1_6] 46 (0, 0)) (by (with_reducible repeat (first | refine blk_drewN ?_ _ | refine blk_drew ?_ | refine blk_alloc ?_ _)); exact BK279.out) hb); have n1_ := Aside0.mk (below_step (by repeat (first | (with_reducible first | exact HB.out | apply below_alloc | apply pw_below_drewN | apply below_drew1 | refine below_set ?_ GE279.out) | exact HB.out)) hb); clear BK279; clear HB; have BK279 := n0_; have HB := n1_; clear n0_ n1_; (try clear hb); (try clear hb2); (try clear hk); (try clear hi)))
                  go_ret
                  exact ⟨by first | rfl | (simp [errW_none, errW_some] <;> rfl) | (simp [*, errW_none, errW_some] <;> rfl), by repeat (first | (with_reducible first | exact HB.out | apply below_alloc | apply pw_below_drewN | apply below_drew1 | refine below_set ?_ GE279.out) | exact HB.out)⟩
              · rw [if_neg c53] at H
                have c53b0 : (t289 == false) = false := by simpa using c53
                (try (have c53b1 : decide (t289 = false) = false := by simpa using c53))
                (try (have c53b2 : (t289 == false) = false := by simpa using c53))
                (try (have c53b3 : ¬ (t289 = false) := by simpa using c53))
                clear c53
                obtain rfl := Option.some.inj H
                have hcz68_0 : wr.cell? ⟨gb279, 0, none⟩ = some (.int .i64 a1_0) := (blk_cell BK279.out 0).trans rfl
                have hcz68_1 : wr.cell? ⟨gb279, 1, none⟩ = some (.int .i64 a1_1) := (blk_cell BK279.out 1).trans rfl
                have hcz68_2 : wr.cell? ⟨gb279, 2, none⟩ = some (.int .u32 a1_2) := (blk_cell BK279.out 2).trans rfl
                have hcz68_3 : wr.cell? ⟨gb279, 3, none⟩ = some (.int .u32 a1_3) := (blk_cell BK279.out 3).trans rfl
                have hcz68_4 : wr.cell? ⟨gb279, 4, none⟩ = some (.int .i64 a1_4) := (blk_cell BK279.out 4).trans rfl
                have hcz68_5 : wr.cell? ⟨gb279, 5, none⟩ = some (.int .i64 a1_5) := (blk_cell BK279.out 5).trans rfl
                have hcz68_6 : wr.cell? ⟨gb279, 6, none⟩ = some (.int .i64 a1_6) := (blk_cell BK279.out 6).trans rfl
                have hfz68_0 := blk_frozen BK279.out 0
                have hfz68_1 := blk_frozen BK279.out 1
                have hfz68_2 := blk_frozen BK279.out 2
                have hfz68_3 := blk_frozen BK279.out 3
                have hfz68_4 := blk_frozen BK279.out 4
                have hfz68_5 := blk_frozen BK279.out 5
                have hfz68_6 := blk_frozen BK279.out 6
                go_wp2_with (first | ((with_reducible refine gate_callee (f := 20) rfl ?_); refine goesL_ (some 54) rfl rfl Try.func20 (by kernel_rfl) rfl #[.slice A0 l0.length c0, .agg #[.int .i64 a1_0, .int .i64 a1_1, .int .u32 a1_2, .int .u32 a1_3, .int .i64 a1_4, .int .i64 a1_5, .int .i64 a1_6]] rfl (by (try simp only [List.map_toArray, List.map_cons, List.map_nil]); first | done | rfl | (simp only [List.length_drop, List.length_take]; rfl)) ?_; (with_reducible refine (rule_First.calls _ _ l0 a1_0 a1_1 a1_2 a1_3 a1_4 a1_5 a1_6 t288 _ ?side1 ?side2 A28.out).mono ?_); (case side1 => repeat (first | exact (Kd.C_below HR0.out HB.out) | (with_reducible refine Kd.C_alloc ?_ _) | (with_reducible refine Kd.C_drewN ?_ _) | (with_reducible refine Kd.C_drew ?_))); (case side2 => exact HC0.out); rintro e w69 ⟨rfl, hb⟩; refine ⟨_, rfl, ?_⟩; have n0_ := Aside0.mk (blk_below (g := gb279) (o := .cells #[.int .i64 a1_0, .int .i64 a1_1, .int .u32 a1_2, .int .u32 a1_3, .int .i64 a1_4, .int .i64 a1_5, .int .i64 a1_6] 46 (0, 0)) (by (with_reducible repeat (first | refine blk_drewN ?_ _ | refine blk_drew ?_ | refine blk_alloc ?_ _)); exact BK279.out) hb); have n1_ := Aside0.mk (below_step (by repeat (first | (with_reducible first | exact HB.out | apply below_alloc | apply pw_below_drewN | apply below_drew1 | refine below_set ?_ GE279.out) | exact HB.out)) hb); clear BK279; clear HB; have BK279 := n0_; have HB := n1_; clear n0_ n1_; (try clear hb); (try clear hb2); (try clear hk); (try clear hi); have hcz70_0 : w69.cell? ⟨gb279, 0, none⟩ = some (.int .i64 a1_0) := (blk_cell BK279.out 0).trans rfl; have hcz70_1 : w69.cell? ⟨gb279, 1, none⟩ = some (.int .i64 a1_1) := (blk_cell BK279.out 1).trans rfl; have hcz70_2 : w69.cell? ⟨gb279, 2, none⟩ = some (.int .u32 a1_2) := (blk_cell BK279.out 2).trans rfl; have hcz70_3 : w69.cell? ⟨gb279, 3, none⟩ = some (.int .u32 a1_3) := (blk_cell BK279.out 3).trans rfl; have hcz70_4 : w69.cell? ⟨gb279, 4, none⟩ = some (.int .i64 a1_4) := (blk_cell BK279.out 4).trans rfl; have hcz70_5 : w69.cell? ⟨gb279, 5, none⟩ = some (.int .i64 a1_5) := (blk_cell BK279.out 5).trans rfl; have hcz70_6 : w69.cell? ⟨gb279, 6, none⟩ = some (.int .i64 a1_6) := (blk_cell BK279.out 6).trans rfl; have hfz70_0 := blk_frozen BK279.out 0; have hfz70_1 := blk_frozen BK279.out 1; have hfz70_2 := blk_frozen BK279.out 2; have hfz70_3 := blk_frozen BK279.out 3; have hfz70_4 := blk_frozen BK279.out 4; have hfz70_5 := blk_frozen BK279.out 5; have hfz70_6 := blk_frozen BK279.out 6) | (go_at_call 25; (with_reducible refine (rule_Allows.calls _ _ l0 a1_0 a1_1 a1_2 a1_3 a1_4 a1_5 a1_6 t289 _ ?side1 ?side2 A30.out).mono ?_); (case side1 => repeat (first | exact (Kd.C_below HR0.out HB.out) | (with_reducible refine Kd.C_alloc ?_ _) | (with_reducible refine Kd.C_drewN ?_ _) | (with_reducible refine Kd.C_drew ?_))); (case side2 => exact HC0.out); rintro e w71 ⟨rfl, hb⟩; have n0_ := Aside0.mk (blk_below (g := gb279) (o := .cells #[.int .i64 a1_0, .int .i64 a1_1, .int .u32 a1_2, .int .u32 a1_3, .int .i64 a1_4, .int .i64 a1_5, .int .i64 a1_6] 46 (0, 0)) (by (with_reducible repeat (first | refine blk_drewN ?_ _ | refine blk_drew ?_ | refine blk_alloc ?_ _)); exact BK279.out) hb); have n1_ := Aside0.mk (below_step (by repeat (first | (with_reducible first | exact HB.out | apply below_alloc | apply pw_below_drewN | apply below_drew1 | refine below_set ?_ GE279.out) | exact HB.out)) hb); clear BK279; clear HB; have BK279 := n0_; have HB := n1_; clear n0_ n1_; (try clear hb); (try clear hb2); (try clear hk); (try clear hi)))
                go_ret
                exact ⟨by first | rfl | (simp [errW_none, errW_some] <;> rfl) | (simp [*, errW_none, errW_some] <;> rfl), by repeat (first | (with_reducible first | exact HB.out | apply below_alloc | apply pw_below_drewN | apply below_drew1 | refine below_set ?_ GE279.out) | exact HB.out)⟩
          · rw [if_neg c29] at H
            have c29b0 : (t288 == t281) = false := beq_eq_false_iff_ne.mpr c29
            have c29b1 : (t288 != t281) = true := bne_iff_ne.mpr c29
            obtain rfl := Option.some.inj H
            have hcz72_0 : wr.cell? ⟨gb279, 0, none⟩ = some (.int .i64 a1_0) := (blk_cell BK279.out 0).trans rfl
            have hcz72_1 : wr.cell? ⟨gb279, 1, none⟩ = some (.int .i64 a1_1) := (blk_cell BK279.out 1).trans rfl
            have hcz72_2 : wr.cell? ⟨gb279, 2, none⟩ = some (.int .u32 a1_2) := (blk_cell BK279.out 2).trans rfl
            have hcz72_3 : wr.cell? ⟨gb279, 3, none⟩ = some (.int .u32 a1_3) := (blk_cell BK279.out 3).trans rfl
            have hcz72_4 : wr.cell? ⟨gb279, 4, none⟩ = some (.int .i64 a1_4) := (blk_cell BK279.out 4).trans rfl
            have hcz72_5 : wr.cell? ⟨gb279, 5, none⟩ = some (.int .i64 a1_5) := (blk_cell BK279.out 5).trans rfl
            have hcz72_6 : wr.cell? ⟨gb279, 6, none⟩ = some (.int .i64 a1_6) := (blk_cell BK279.out 6).trans rfl
            have hfz72_0 := blk_frozen BK279.out 0
            have hfz72_1 := blk_frozen BK279.out 1
            have hfz72_2 := blk_frozen BK279.out 2
            have hfz72_3 := blk_frozen BK279.out 3
            have hfz72_4 := blk_frozen BK279.out 4
            have hfz72_5 := blk_frozen BK279.out 5
            have hfz72_6 := blk_frozen BK279.out 6
            go_wp2_with (first | ((with_reducible refine gate_callee (f := 20) rfl ?_); refine goesL_ (some 54) rfl rfl Try.func20 (by kernel_rfl) rfl #[.slice A0 l0.length c0, .agg #[.int .i64 a1_0, .int .i64 a1_1, .int .u32 a1_2, .int .u32 a1_3, .int .i64 a1_4, .int .i64 a1_5, .int .i64 a1_6]] rfl (by (try simp only [List.map_toArray, List.map_cons, List.map_nil]); first | done | rfl | (simp only [List.length_drop, List.length_take]; rfl)) ?_; (with_reducible refine (rule_First.calls _ _ l0 a1_0 a1_1 a1_2 a1_3 a1_4 a1_5 a1_6 t288 _ ?side1 ?side2 A28.out).mono ?_); (case side1 => repeat (first | exact (Kd.C_below HR0.out HB.out) | (with_reducible refine Kd.C_alloc ?_ _) | (with_reducible refine Kd.C_drewN ?_ _) | (with_reducible refine Kd.C_drew ?_))); (case side2 => exact HC0.out); rintro e w73 ⟨rfl, hb⟩; refine ⟨_, rfl, ?_⟩; have n0_ := Aside0.mk (blk_below (g := gb279) (o := .cells #[.int .i64 a1_0, .int .i64 a1_1, .int .u32 a1_2, .int .u32 a1_3, .int .i64 a1_4, .int .i64 a1_5, .int .i64 a1_6] 46 (0, 0)) (by (with_reducible repeat (first | refine blk_drewN ?_ _ | refine blk_drew ?_ | refine blk_alloc ?_ _)); exact BK279.out) hb); have n1_ := Aside0.mk (below_step (by repeat (first | (with_reducible first | exact HB.out | apply below_alloc | apply pw_below_drewN | apply below_drew1 | refine below_set ?_ GE279.out) | exact HB.out)) hb); clear BK279; clear HB; have BK279 := n0_; have HB := n1_; clear n0_ n1_; (try clear hb); (try clear hb2); (try clear hk); (try clear hi)))
            go_ret
            exact ⟨by first | rfl | (simp [errW_none, errW_some] <;> rfl) | (simp [*, errW_none, errW_some] <;> rfl), by repeat (first | (with_reducible first | exact HB.out | apply below_alloc | apply pw_below_drewN | apply below_drew1 | refine below_set ?_ GE279.out) | exact HB.out)⟩

end Go.Proofs.Ytakfnghakbjncaa.P
