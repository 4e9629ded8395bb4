-- Written by a program of this session (xprint.py), over the kit's print; not trusted: Lean checks it.
import Derived.Test.YtakfnghakbjncaaPx0
import Derived.Test.YtakfnghakbjncaaPx4
import Derived.Test.YtakfnghakbjncaaPx5
import Derived.Test.YtakfnghakbjncaaPx6
import Derived.Test.YtakfnghakbjncaaPx11
import Derived.Test.YtakfnghakbjncaaG1
namespace Go.Proofs.Ytakfnghakbjncaa.P
open Go.RowKit Go.Proofs.YtakfnghakbjncaaW.PrintWords Go.Proofs.YtakfnghakbjncaaW.PrintLast Go.Proofs.YtakfnghakbjncaaW.PrintMore
attribute [local go_sem] max2_int min2_int max_two min_two max_three min_three max_four min_four   -- for this text's walks alone
set_option linter.unusedVariables false
set_option linter.unusedSimpArgs false

/-! ### gueritelaw16_GuardReaches: function 5 -/
mutual
def gueritelaw16_GuardReaches.l0 : Nat → List (S31) → List (List Bool) → Int → Int → Int → Int → Int → Int → Int → Option (Bool)
  | 0, _, _, _, _, _, _, _, _, _ => none
  | k + 1, x0, x7, x8, x9, x198000, x198001, x198002, x198003, x198004 => if x9 < x8 then (if 0 ≤ x9 then (if x9 < (x7.length : Int) then (if ((rd_L6 x7 x9).length : Int) = x8 then (gueritelaw16_GuardReaches.l1 k x0 x7 x8 x9 0 x198000 x198001 x198002 x198003 x198004) else (some false)) else (none)) else (none)) else (if x198001 < 0 then (gueritelaw16_GuardReaches.j3 k x0 x7 x8 true x198000 x198001 x198002 x198003 x198004) else (if x198001 ≥ x8 then (gueritelaw16_GuardReaches.j3 k x0 x7 x8 true x198000 x198001 x198002 x198003 x198004) else ((guard_Right.f x8 x0).bind fun t211 => (gueritelaw16_GuardReaches.j3 k x0 x7 x8 (!t211) x198000 x198001 x198002 x198003 x198004))))
def gueritelaw16_GuardReaches.l1 : Nat → List (S31) → List (List Bool) → Int → Int → Int → Int → Int → Int → Int → Int → Option (Bool)
  | 0, _, _, _, _, _, _, _, _, _, _ => none
  | k + 1, x0, x7, x8, x9, x10, x198000, x198001, x198002, x198003, x198004 => if x10 < x8 then (gueritelaw16_GuardReaches.l2 k x0 x7 x8 x9 x10 (x9 == x10) 0 x198000 x198001 x198002 x198003 x198004) else (gueritelaw16_GuardReaches.l0 k x0 x7 x8 (wrap64 (x9 + 1)) x198000 x198001 x198002 x198003 x198004)
def gueritelaw16_GuardReaches.l2 : Nat → List (S31) → List (List Bool) → Int → Int → Int → Bool → Int → Int → Int → Int → Int → Int → Option (Bool)
  | 0, _, _, _, _, _, _, _, _, _, _, _, _ => none
  | k + 1, x0, x7, x8, x9, x10, x11, x12, x198000, x198001, x198002, x198003, x198004 => if x12 < (x0.length : Int) then (if x11 = true then (gueritelaw16_GuardReaches.l2 k x0 x7 x8 x9 x10 true (wrap64 (x12 + 1)) x198000 x198001 x198002 x198003 x198004) else (if 0 ≤ x12 then ((gueriteref16_Right.f k x8 ((rd_T31 x0 x12).f0) ((rd_T31 x0 x12).f1) ((rd_T31 x0 x12).f2.f0) ((rd_T31 x0 x12).f2.f1) ((rd_T31 x0 x12).f3.f0) ((rd_T31 x0 x12).f3.f1) ((rd_T31 x0 x12).f4) ((rd_T31 x0 x12).f5)).bind fun t204 => (if t204 = true then (if ((rd_T31 x0 x12).f1) = (-1) then (gueritelaw16_GuardReaches.l2 k x0 x7 x8 x9 x10 (((rd_T31 x0 x12).f5) == x10) (wrap64 (x12 + 1)) x198000 x198001 x198002 x198003 x198004) else (if ((rd_T31 x0 x12).f1) = x9 then (gueritelaw16_GuardReaches.l2 k x0 x7 x8 x9 x10 (((rd_T31 x0 x12).f5) == x10) (wrap64 (x12 + 1)) x198000 x198001 x198002 x198003 x198004) else (gueritelaw16_GuardReaches.l2 k x0 x7 x8 x9 x10 false (wrap64 (x12 + 1)) x198000 x198001 x198002 x198003 x198004))) else (gueritelaw16_GuardReaches.l2 k x0 x7 x8 x9 x10 false (wrap64 (x12 + 1)) x198000 x198001 x198002 x198003 x198004))) else (none))) else (if 0 ≤ x9 then (if x9 < (x7.length : Int) then (if 0 ≤ x10 then (if x10 < ((rd_L6 x7 x9).length : Int) then (if ((rdOf false (rd_L6 x7 x9) x10) != x11) = true then (some false) else (gueritelaw16_GuardReaches.l1 k x0 x7 x8 x9 (wrap64 (x10 + 1)) x198000 x198001 x198002 x198003 x198004)) else (none)) else (none)) else (none)) else (none))
def gueritelaw16_GuardReaches.j3 : Nat → List (S31) → List (List Bool) → Int → Bool → Int → Int → Int → Int → Int → Option (Bool)
  | 0, _, _, _, _, _, _, _, _, _ => none
  | k + 1, x0, x7, x8, x112, x198000, x198001, x198002, x198003, x198004 => if x112 = true then ((gueritelaw16_awake.f).bind fun t212 => (some t212)) else ((guard_To.f x0 x198000 x198001 x198002 x198003 x198004).bind fun t213 => (if t213 ≥ 0 then (if t213 < x8 then (if 0 ≤ x198001 then (if x198001 < (x7.length : Int) then (if 0 ≤ t213 then (if t213 < ((rd_L6 x7 x198001).length : Int) then (if rdOf false (rd_L6 x7 x198001) t213 = true then ((gueritelaw16_awake.f).bind fun t216 => (some t216)) else (some false)) else (none)) else (none)) else (none)) else (none)) else (some false)) else (some false)))
end
def gueritelaw16_GuardReaches.f (k : Nat) (l0 : List (S31)) (a1 : Int) (a2_0 : Int) (a2_1 : Int) (a2_2 : Int) (a2_3 : Int) (a2_4 : Int) : Option (Bool) := if (l0.length : Int) > 40 then ((gueritelaw16_awake.f).bind fun t198 => (some t198)) else ((guard_Reach.f k l0 a1).bind fun t199 => (if (t199.length : Int) = (mn (mx a1 0) 16) then (gueritelaw16_GuardReaches.l0 k l0 t199 (mn (mx a1 0) 16) 0 a2_0 a2_1 a2_2 a2_3 a2_4) else (some false)))
theorem gueritelaw16_GuardReaches.mono_l : ∀ k, (∀ y0 y1 y2 y3 y4 y5 y6 y7 y8, LeO (gueritelaw16_GuardReaches.l0 k y0 y1 y2 y3 y4 y5 y6 y7 y8) (gueritelaw16_GuardReaches.l0 (k + 1) y0 y1 y2 y3 y4 y5 y6 y7 y8)) ∧ (∀ y0 y1 y2 y3 y4 y5 y6 y7 y8 y9, LeO (gueritelaw16_GuardReaches.l1 k y0 y1 y2 y3 y4 y5 y6 y7 y8 y9) (gueritelaw16_GuardReaches.l1 (k + 1) y0 y1 y2 y3 y4 y5 y6 y7 y8 y9)) ∧ (∀ y0 y1 y2 y3 y4 y5 y6 y7 y8 y9 y10 y11, LeO (gueritelaw16_GuardReaches.l2 k y0 y1 y2 y3 y4 y5 y6 y7 y8 y9 y10 y11) (gueritelaw16_GuardReaches.l2 (k + 1) y0 y1 y2 y3 y4 y5 y6 y7 y8 y9 y10 y11)) ∧ (∀ y0 y1 y2 y3 y4 y5 y6 y7 y8, LeO (gueritelaw16_GuardReaches.j3 k y0 y1 y2 y3 y4 y5 y6 y7 y8) (gueritelaw16_GuardReaches.j3 (k + 1) y0 y1 y2 y3 y4 y5 y6 y7 y8))
  | 0 => ⟨fun _ _ _ _ _ _ _ _ _ r h => by simp [gueritelaw16_GuardReaches.l0] at h, fun _ _ _ _ _ _ _ _ _ _ r h => by simp [gueritelaw16_GuardReaches.l1] at h, fun _ _ _ _ _ _ _ _ _ _ _ _ r h => by simp [gueritelaw16_GuardReaches.l2] at h, fun _ _ _ _ _ _ _ _ _ r h => by simp [gueritelaw16_GuardReaches.j3] at h⟩
  | k + 1 => by
    obtain ⟨ih0, ih1, ih2, ih3⟩ := gueritelaw16_GuardReaches.mono_l k
    refine ⟨?_, ?_, ?_, ?_⟩
    · intro y0 y1 y2 y3 y4 y5 y6 y7 y8
      unfold gueritelaw16_GuardReaches.l0
      repeat' first
      | (with_reducible exact ih0 _ _ _ _ _ _ _ _ _)
      | (with_reducible exact ih1 _ _ _ _ _ _ _ _ _ _)
      | (with_reducible exact ih2 _ _ _ _ _ _ _ _ _ _ _ _)
      | (with_reducible exact ih3 _ _ _ _ _ _ _ _ _)
      | (with_reducible exact guard_Reach.mono _ _ _)
      | (with_reducible exact gueriteref16_Right.mono _ _ _ _ _ _ _ _ _ _)
      | (with_reducible exact LeO.refl _)
      | (with_reducible exact LeO.none _)
      | (with_reducible refine LeO.ite ?_ ?_)
      | (with_reducible refine LeO.bind ?_ (fun _ => ?_))
      | exact ih0 _ _ _ _ _ _ _ _ _
      | exact ih1 _ _ _ _ _ _ _ _ _ _
      | exact ih2 _ _ _ _ _ _ _ _ _ _ _ _
      | exact ih3 _ _ _ _ _ _ _ _ _
      | exact guard_Reach.mono _ _ _
      | exact gueriteref16_Right.mono _ _ _ _ _ _ _ _ _ _
      | exact LeO.none _
      | refine LeO.ite ?_ ?_
      | refine LeO.bind ?_ (fun _ => ?_)
    · intro y0 y1 y2 y3 y4 y5 y6 y7 y8 y9
      unfold gueritelaw16_GuardReaches.l1
      repeat' first
      | (with_reducible exact ih0 _ _ _ _ _ _ _ _ _)
      | (with_reducible exact ih1 _ _ _ _ _ _ _ _ _ _)
      | (with_reducible exact ih2 _ _ _ _ _ _ _ _ _ _ _ _)
      | (with_reducible exact ih3 _ _ _ _ _ _ _ _ _)
      | (with_reducible exact guard_Reach.mono _ _ _)
      | (with_reducible exact gueriteref16_Right.mono _ _ _ _ _ _ _ _ _ _)
      | (with_reducible exact LeO.refl _)
      | (with_reducible exact LeO.none _)
      | (with_reducible refine LeO.ite ?_ ?_)
      | (with_reducible refine LeO.bind ?_ (fun _ => ?_))
      | exact ih0 _ _ _ _ _ _ _ _ _
      | exact ih1 _ _ _ _ _ _ _ _ _ _
      | exact ih2 _ _ _ _ _ _ _ _ _ _ _ _
      | exact ih3 _ _ _ _ _ _ _ _ _
      | exact guard_Reach.mono _ _ _
      | exact gueriteref16_Right.mono _ _ _ _ _ _ _ _ _ _
      | exact LeO.none _
      | refine LeO.ite ?_ ?_
      | refine LeO.bind ?_ (fun _ => ?_)
    · intro y0 y1 y2 y3 y4 y5 y6 y7 y8 y9 y10 y11
      unfold gueritelaw16_GuardReaches.l2
      repeat' first
      | (with_reducible exact ih0 _ _ _ _ _ _ _ _ _)
      | (with_reducible exact ih1 _ _ _ _ _ _ _ _ _ _)
      | (with_reducible exact ih2 _ _ _ _ _ _ _ _ _ _ _ _)
      | (with_reducible exact ih3 _ _ _ _ _ _ _ _ _)
      | (with_reducible exact guard_Reach.mono _ _ _)
      | (with_reducible exact gueriteref16_Right.mono _ _ _ _ _ _ _ _ _ _)
      | (with_reducible exact LeO.refl _)
      | (with_reducible exact LeO.none _)
      | (with_reducible refine LeO.ite ?_ ?_)
      | (with_reducible refine LeO.bind ?_ (fun _ => ?_))
      | exact ih0 _ _ _ _ _ _ _ _ _
      | exact ih1 _ _ _ _ _ _ _ _ _ _
      | exact ih2 _ _ _ _ _ _ _ _ _ _ _ _
      | exact ih3 _ _ _ _ _ _ _ _ _
      | exact guard_Reach.mono _ _ _
      | exact gueriteref16_Right.mono _ _ _ _ _ _ _ _ _ _
      | exact LeO.none _
      | refine LeO.ite ?_ ?_
      | refine LeO.bind ?_ (fun _ => ?_)
    · intro y0 y1 y2 y3 y4 y5 y6 y7 y8
      unfold gueritelaw16_GuardReaches.j3
      repeat' first
      | (with_reducible exact ih0 _ _ _ _ _ _ _ _ _)
      | (with_reducible exact ih1 _ _ _ _ _ _ _ _ _ _)
      | (with_reducible exact ih2 _ _ _ _ _ _ _ _ _ _ _ _)
      | (with_reducible exact ih3 _ _ _ _ _ _ _ _ _)
      | (with_reducible exact guard_Reach.mono _ _ _)
      | (with_reducible exact gueriteref16_Right.mono _ _ _ _ _ _ _ _ _ _)
      | (with_reducible exact LeO.refl _)
      | (with_reducible exact LeO.none _)
      | (with_reducible refine LeO.ite ?_ ?_)
      | (with_reducible refine LeO.bind ?_ (fun _ => ?_))
      | exact ih0 _ _ _ _ _ _ _ _ _
      | exact ih1 _ _ _ _ _ _ _ _ _ _
      | exact ih2 _ _ _ _ _ _ _ _ _ _ _ _
      | exact ih3 _ _ _ _ _ _ _ _ _
      | exact guard_Reach.mono _ _ _
      | exact gueriteref16_Right.mono _ _ _ _ _ _ _ _ _ _
      | exact LeO.none _
      | refine LeO.ite ?_ ?_
      | refine LeO.bind ?_ (fun _ => ?_)
theorem gueritelaw16_GuardReaches.mono : ∀ a0 a1 a2 a3 a4 a5 a6 k, LeO (gueritelaw16_GuardReaches.f k a0 a1 a2 a3 a4 a5 a6) (gueritelaw16_GuardReaches.f (k + 1) a0 a1 a2 a3 a4 a5 a6) := by
  intro a0 a1 a2 a3 a4 a5 a6 k
  obtain ⟨ih0, ih1, ih2, ih3⟩ := gueritelaw16_GuardReaches.mono_l k
  unfold gueritelaw16_GuardReaches.f
  repeat' first
      | (with_reducible exact ih0 _ _ _ _ _ _ _ _ _)
      | (with_reducible exact ih1 _ _ _ _ _ _ _ _ _ _)
      | (with_reducible exact ih2 _ _ _ _ _ _ _ _ _ _ _ _)
      | (with_reducible exact ih3 _ _ _ _ _ _ _ _ _)
      | (with_reducible exact guard_Reach.mono _ _ _)
      | (with_reducible exact gueriteref16_Right.mono _ _ _ _ _ _ _ _ _ _)
      | (with_reducible exact LeO.refl _)
      | (with_reducible exact LeO.none _)
      | (with_reducible refine LeO.ite ?_ ?_)
      | (with_reducible refine LeO.bind ?_ (fun _ => ?_))
      | exact ih0 _ _ _ _ _ _ _ _ _
      | exact ih1 _ _ _ _ _ _ _ _ _ _
      | exact ih2 _ _ _ _ _ _ _ _ _ _ _ _
      | exact ih3 _ _ _ _ _ _ _ _ _
      | exact guard_Reach.mono _ _ _
      | exact gueriteref16_Right.mono _ _ _ _ _ _ _ _ _ _
      | exact LeO.none _
      | refine LeO.ite ?_ ?_
      | refine LeO.bind ?_ (fun _ => ?_)
set_option maxHeartbeats 8000000 in
set_option maxRecDepth 100000 in
theorem gueritelaw16_GuardReaches.calls (k : Nat) (A0 : Option Addr) (c0 : Nat) (l0 : List (S31)) (a1 : Int) (a2_0 : Int) (a2_1 : Int) (a2_2 : Int) (a2_3 : Int) (a2_4 : Int) (r : Bool) (w : World) (hr0 : Kd.C k31 w A0 l0.length l0) (hc0 : l0.length ≤ c0) (h : gueritelaw16_GuardReaches.f k l0 a1 a2_0 a2_1 a2_2 a2_3 a2_4 = some r) :
    Calls Try.prog 5 #[.slice A0 l0.length c0, .int .i64 a1, .agg #[.int .i64 a2_0, .int .i64 a2_1, .int .i64 a2_2, .int .u32 a2_3, .int .u32 a2_4]] w fun e w' => e = .returned (.bool r) ∧ Below w.heap.size w w' := by
  have hu25 := Try.underlying25
  have hu31 := Try.underlying31
  have HR0 := Aside0.mk hr0
  have HC0 := Aside0.mk hc0
  clear hr0 hc0
  have HB := Aside0.mk (Below.refl w.heap.size w)
  have H : (if (l0.length : Int) > 40 then ((gueritelaw16_awake.f).bind fun t198 => (some t198)) else ((guard_Reach.f k l0 a1).bind fun t199 => (if (t199.length : Int) = (mn (mx a1 0) 16) then (gueritelaw16_GuardReaches.l0 k l0 t199 (mn (mx a1 0) 16) 0 a2_0 a2_1 a2_2 a2_3 a2_4) else (some false)))) = some r := h
  clear h
  by_cases c4 : (l0.length : Int) > 40
  · rw [if_pos c4] at H
    have c4b0 : decide (40 < (l0.length : Int)) = true := decide_eq_true c4
    have c4b1 : decide (40 < l0.length) = true := decide_eq_true (by omega)
    clear c4
    replace H := Option.bind_eq_some_iff.mp H
    obtain ⟨t198, A50, H⟩ := H
    replace H : (some t198) = some r := H
    have A5 := Aside0.mk A50
    clear A50
    obtain rfl := Option.some.inj H
    go_enter Try.func5, Try.ntmps5
    go_wp2_with (first | ((with_reducible refine gate_dst (N := 5) rfl ?_); refine box_event ?hg (N := 5) ?hd (cs := #[.int .i64 a2_0, .int .i64 a2_1, .int .i64 a2_2, .int .u32 a2_3, .int .u32 a2_4]) (t := 25) ?hr ?_; (case hd => rfl); (case hg => rfl); (case hr => first | (go_simp; done) | (go_simp; rfl)); intro gb197 hg w6 hbox hb; have n0_ := Aside0.mk (below_step (by repeat (first | (with_reducible first | exact HB.out | apply below_alloc | apply pw_below_drewN | apply below_drew1) | exact HB.out)) hb); have n1_ := Aside0.mk (hbox); have n2_ := Aside0.mk ((by rw [hg]; exact (below_size (by repeat (first | (with_reducible first | exact HB.out | apply below_alloc | apply pw_below_drewN | apply below_drew1) | exact HB.out))) : w.heap.size ≤ gb197)); have n3_ := Aside0.mk ((by rw [hg]; exact (below_size (by repeat (first | (with_reducible first | exact HB.out | apply below_alloc | apply pw_below_drewN | apply below_drew1) | exact HB.out))) : w.heap.size ≤ gb197)); clear HB; have HB := n0_; have BK197 := n1_; have GW197 := n2_; have GE197 := n3_; clear n0_ n1_ n2_ n3_; clear hb hbox hg) | ((with_reducible refine gate_callee (f := 10) rfl ?_); refine goesL_ (some 17) rfl rfl Try.func10 (by kernel_rfl) rfl #[] rfl (by (try simp only [List.map_toArray, List.map_cons, List.map_nil]); first | done | rfl | (simp only [List.length_drop, List.length_take]; rfl)) ?_; (with_reducible refine (gueritelaw16_awake.calls  t198 _ A5.out).mono ?_); rintro e w7 ⟨rfl, hb⟩; refine ⟨_, rfl, ?_⟩; have n0_ := Aside0.mk (blk_below (g := gb197) (o := .cells #[.int .i64 a2_0, .int .i64 a2_1, .int .i64 a2_2, .int .u32 a2_3, .int .u32 a2_4] 25 (0, 0)) (by (with_reducible repeat (first | refine blk_drewN ?_ _ | refine blk_drew ?_ | refine blk_alloc ?_ _)); exact BK197.out) hb); have n1_ := Aside0.mk (below_step (by repeat (first | (with_reducible first | exact HB.out | apply below_alloc | apply pw_below_drewN | apply below_drew1 | refine below_set ?_ GE197.out) | exact HB.out)) hb); clear BK197; clear HB; have BK197 := n0_; have HB := n1_; clear n0_ n1_; (try clear hb); (try clear hb2); (try clear hk); (try clear hi)))
    go_ret
    exact ⟨by first | rfl | (simp [errW_none, errW_some] <;> rfl) | (simp [*, errW_none, errW_some] <;> rfl), by repeat (first | (with_reducible first | exact HB.out | apply below_alloc | apply pw_below_drewN | apply below_drew1 | refine below_set ?_ GE197.out) | exact HB.out)⟩
  · rw [if_neg c4] at H
    have c4b0 : decide (40 < (l0.length : Int)) = false := decide_eq_false c4
    have c4b1 : decide (40 < l0.length) = false := decide_eq_false (by omega)
    clear c4
    replace H := Option.bind_eq_some_iff.mp H
    obtain ⟨t199, A80, H⟩ := H
    replace H : (if (t199.length : Int) = (mn (mx a1 0) 16) then (gueritelaw16_GuardReaches.l0 k l0 t199 (mn (mx a1 0) 16) 0 a2_0 a2_1 a2_2 a2_3 a2_4) else (some false)) = some r := H
    have A8 := Aside0.mk A80
    clear A80
    obtain ⟨ji9, hji9⟩ : ∃ j_ : Int, (mx a1 0) = j_ := ⟨_, rfl⟩
    replace H : (if (t199.length : Int) = (mn (ji9) 16) then (gueritelaw16_GuardReaches.l0 k l0 t199 (mn (ji9) 16) 0 a2_0 a2_1 a2_2 a2_3 a2_4) else (some false)) = some r := by first | (rw [hji9] at H; exact H) | (simp only [hji9] at H ⊢; exact H)
    (try rw [hji9] at A8)
    (try (have hji9l : 0 ≤ ji9 := by (rw [← hji9]; unfold mx; (repeat' split) <;> omega)))
    (try (have hji9m : 0 ≤ ji9 := by omega))
    have hji9_ : (if a1 < 0 then 0 else a1) = ji9 := hji9
    obtain ⟨ji10, hji10⟩ : ∃ j_ : Int, (mn (ji9) 16) = j_ := ⟨_, rfl⟩
    replace H : (if (t199.length : Int) = (ji10) then (gueritelaw16_GuardReaches.l0 k l0 t199 ji10 0 a2_0 a2_1 a2_2 a2_3 a2_4) else (some false)) = some r := by first | (rw [hji10] at H; exact H) | (simp only [hji10] at H ⊢; exact H)
    (try rw [hji10] at A8)
    have hji10_ : (if 16 < (ji9) then 16 else (ji9)) = ji10 := hji10
    by_cases c11 : (t199.length : Int) = (ji10)
    · rw [if_pos c11] at H
      have c11b0 : ((t199.length : Int) == (ji10)) = true := beq_iff_eq.mpr c11
      have c11b1 : ((t199.length : Int) != (ji10)) = false := bne_eq_false_iff_eq.mpr c11
      clear c11
      have H' := Aside0.mk H
      clear H
      go_enter Try.func5, Try.ntmps5
      go_wp2_with (first | ((with_reducible refine gate_dst (N := 5) rfl ?_); refine box_event ?hg (N := 5) ?hd (cs := #[.int .i64 a2_0, .int .i64 a2_1, .int .i64 a2_2, .int .u32 a2_3, .int .u32 a2_4]) (t := 25) ?hr ?_; (case hd => rfl); (case hg => rfl); (case hr => first | (go_simp; done) | (go_simp; rfl)); intro gb197 hg w12 hbox hb; have n0_ := Aside0.mk (below_step (by repeat (first | (with_reducible first | exact HB.out | apply below_alloc | apply pw_below_drewN | apply below_drew1) | exact HB.out)) hb); have n1_ := Aside0.mk (hbox); have n2_ := Aside0.mk ((by rw [hg]; exact (below_size (by repeat (first | (with_reducible first | exact HB.out | apply below_alloc | apply pw_below_drewN | apply below_drew1) | exact HB.out))) : w.heap.size ≤ gb197)); have n3_ := Aside0.mk ((by rw [hg]; exact (below_size (by repeat (first | (with_reducible first | exact HB.out | apply below_alloc | apply pw_below_drewN | apply below_drew1) | exact HB.out))) : w.heap.size ≤ gb197)); clear HB; have HB := n0_; have BK197 := n1_; have GW197 := n2_; have GE197 := n3_; clear n0_ n1_ n2_ n3_; clear hb hbox hg) | ((with_reducible refine gate_callee (f := 18) rfl ?_); refine goesL_ (some 20) rfl rfl Try.func18 (by kernel_rfl) rfl #[.slice A0 l0.length c0, .int .i64 a1] rfl (by (try simp only [List.map_toArray, List.map_cons, List.map_nil]); first | done | rfl | (simp only [List.length_drop, List.length_take]; rfl)) ?_; (with_reducible refine (guard_Reach.calls k _ _ l0 a1 t199 _ ?side1 ?side2 A8.out).mono ?_); (case side1 => repeat (first | exact (Kd.C_below HR0.out HB.out) | (with_reducible refine Kd.C_alloc ?_ _) | (with_reducible refine Kd.C_drewN ?_ _) | (with_reducible refine Kd.C_drew ?_))); (case side2 => exact HC0.out); rintro e w13 ⟨v200, rfl, ho0, hb⟩; refine ⟨_, rfl, ?_⟩; have n0_ := Aside0.mk (Kd.S_lower ho0 (below_size (by repeat (first | (with_reducible first | exact HB.out | apply below_alloc | apply pw_below_drewN | apply below_drew1 | refine below_set ?_ GE197.out) | exact HB.out)))); have n1_ := Aside0.mk (blk_below (g := gb197) (o := .cells #[.int .i64 a2_0, .int .i64 a2_1, .int .i64 a2_2, .int .u32 a2_3, .int .u32 a2_4] 25 (0, 0)) (by (with_reducible repeat (first | refine blk_drewN ?_ _ | refine blk_drew ?_ | refine blk_alloc ?_ _)); exact BK197.out) hb); have n2_ := Aside0.mk (below_step (by repeat (first | (with_reducible first | exact HB.out | apply below_alloc | apply pw_below_drewN | apply below_drew1 | refine below_set ?_ GE197.out) | exact HB.out)) hb); clear BK197; clear HB; have HO201 := n0_; have BK197 := n1_; have HB := n2_; clear n0_ n1_ n2_; (try clear hb); (try clear hb2); (try clear hk); (try clear hi); (try clear ho0); obtain ⟨Ao14, co14, eo14⟩ := Kd.S_slice HO201.out; subst eo14))
      go_loopg [9] k (fun kq v9 w' => ∃ (x9_1 : Int), v9 = .int .i64 x9_1 ∧ Aside0 (gueritelaw16_GuardReaches.l0 kq l0 t199 ji10 x9_1 a2_0 a2_1 a2_2 a2_3 a2_4 = some r) ∧ Aside0 (kq ≤ k) ∧ Aside0 (Kd.S (Kd.slice 4 Kd.bool) 38 w' w.heap.size (fun _ => True) (.slice Ao14 t199.length co14) t199) ∧ Aside0 (w'.heap[gb197]? = some (.cells #[.int .i64 a2_0, .int .i64 a2_1, .int .i64 a2_2, .int .u32 a2_3, .int .u32 a2_4] 25 (0, 0))) ∧ Aside0 (Below w.heap.size w w'))
      case atStart => exact ⟨(0), (by first | rfl | (simp; done) | (simp [*]; done)), H', ⟨Nat.le_refl _⟩, ⟨by (with_reducible repeat (first | apply Kd.S_alloc | apply Kd.S_drewN | apply Kd.S_drew)); exact HO201.out⟩, ⟨by (with_reducible repeat (first | refine blk_drewN ?_ _ | refine blk_drew ?_ | refine blk_alloc ?_ _)); exact BK197.out⟩, ⟨by repeat (first | (with_reducible first | exact HB.out | apply below_alloc | apply pw_below_drewN | apply below_drew1 | refine below_set ?_ GE197.out) | exact HB.out)⟩⟩
      case round =>
        clear H'
        try clear c1
        try clear p2
        try clear c4
        try clear c4b0
        try clear c4b1
        try clear c5
        try clear c10
        try clear c11
        try clear c11b0
        try clear c11b1
        obtain ⟨x9_1, rfl, HA, HK1, HO_7, BK197, HB⟩ := hrel
        cases gk with
        | zero => exact absurd HA.out (by simp [gueritelaw16_GuardReaches.l0])
        | succ k1 =>
          have H := HA.out
          clear HA
          simp only [gueritelaw16_GuardReaches.l0] at H
          by_cases c15 : x9_1 < ji10
          · rw [if_pos c15] at H
            have c15b0 : decide (x9_1 < ji10) = true := decide_eq_true c15
            clear c15
            by_cases c16 : 0 ≤ x9_1
            · rw [if_pos c16] at H
              have c16b0 : decide (0 ≤ x9_1) = true := decide_eq_true c16
              clear c16
              by_cases c17 : x9_1 < (t199.length : Int)
              · rw [if_pos c17] at H
                have c17b0 : decide (x9_1 < (t199.length : Int)) = true := decide_eq_true c17
                clear c17
                by_cases c18 : ((rd_L6 t199 x9_1).length : Int) = ji10
                · rw [if_pos c18] at H
                  have c18b0 : (((rd_L6 t199 x9_1).length : Int) == ji10) = true := beq_iff_eq.mpr c18
                  have c18b1 : (((rd_L6 t199 x9_1).length : Int) != ji10) = false := bne_eq_false_iff_eq.mpr c18
                  clear c18
                  have H' := Aside0.mk H
                  clear H
                  have p202 : 0 ≤ (x9_1 : Int) := of_decide_eq_true (by first | (with_reducible assumption) | assumption)
                  have q202 : x9_1 < (t199.length : Int) := of_decide_eq_true (by first | (with_reducible assumption) | assumption)
                  obtain ⟨ad202, A202_0, c202_0, e202, hx202_0, hl202_0, hi202_0⟩ := at_L6 (Kd.S_reads' HO_7.out).2.2 x9_1 p202 q202
                  cases e202
                  obtain ⟨ce202, hce202, hMe202, hcc202⟩ := Kd.S_get HO_7.out [] x9_1 p202 (by first | exact q202 | exact of_decide_eq_true (by first | (with_reducible assumption) | assumption) | (have e_ := (Kd.S_reads' HO_7.out).1; omega))
                  obtain ⟨ve202_0, rfl, ge202_0⟩ := hMe202
                  have hv202_0 := hcc202 0 _ rfl
                  rw [Nat.add_zero, show ((Kd.slice 4 Kd.bool)).sz = 1 from rfl, Nat.mul_one] at hv202_0
                  replace hv202_0 := Option.some.inj (hv202_0.symm.trans hx202_0)
                  rw [hv202_0] at ge202_0
                  have HL202_0 := Aside0.mk (show Kd.R Kd.bool 4 _ _ _ _ (rd_L6 t199 x9_1) from ge202_0)
                  clear hv202_0 ge202_0
                  clear hcc202 hce202
                  have HR202_0 := Aside0.mk hi202_0
                  have HC202_0 := Aside0.mk hl202_0
                  clear hi202_0 hl202_0
                  replace p202 := eq_true p202
                  replace q202 := eq_true q202
                  go_wp2
                  go_loopg [10] k1 (fun kq v10 w' => ∃ (x10_2 : Int), v10 = .int .i64 x10_2 ∧ Aside0 (gueritelaw16_GuardReaches.l1 kq l0 t199 ji10 x9_1 x10_2 a2_0 a2_1 a2_2 a2_3 a2_4 = some r) ∧ Aside0 (kq ≤ k1) ∧ Aside0 (Kd.S (Kd.slice 4 Kd.bool) 38 w' w.heap.size (fun _ => True) (.slice (some ad202) t199.length co14) t199) ∧ Aside0 (w'.heap[gb197]? = some (.cells #[.int .i64 a2_0, .int .i64 a2_1, .int .i64 a2_2, .int .u32 a2_3, .int .u32 a2_4] 25 (0, 0))) ∧ Aside0 (Kd.C Kd.bool w' A202_0 (rd_L6 t199 x9_1).length (rd_L6 t199 x9_1)) ∧ Aside0 (Below w.heap.size w w'))
                  case atStart => exact ⟨(0), (by first | rfl | (simp; done) | (simp [*]; done)), H', ⟨Nat.le_refl _⟩, ⟨by (with_reducible repeat (first | apply Kd.S_alloc | apply Kd.S_drewN | apply Kd.S_drew)); exact HO_7.out⟩, ⟨by (with_reducible repeat (first | refine blk_drewN ?_ _ | refine blk_drew ?_ | refine blk_alloc ?_ _)); exact BK197.out⟩, ⟨by repeat (first | (with_reducible exact HR202_0.out) | (with_reducible refine Kd.C_alloc ?_ _) | (with_reducible refine Kd.C_drewN ?_ _) | (with_reducible refine Kd.C_drew ?_) | exact HR202_0.out)⟩, ⟨by repeat (first | (with_reducible first | exact HB.out | apply below_alloc | apply pw_below_drewN | apply below_drew1 | refine below_set ?_ GE197.out) | exact HB.out)⟩⟩
                  case round =>
                    clear H'
                    try clear c1
                    try clear c2
                    try clear p2
                    try clear q2
                    try clear hx2
                    try clear c4
                    try clear c4b0
                    try clear c4b1
                    try clear c5
                    try clear c10
                    try clear c11
                    try clear c11b0
                    try clear c11b1
                    try clear c15
                    try clear c15b0
                    try clear c16
                    try clear c16b0
                    try clear c17
                    try clear c17b0
                    try clear c18
                    try clear c18b0
                    try clear c18b1
                    try clear hx202_0
                    try clear p2
                    try clear p202
                    try clear q202
                    obtain ⟨x10_2, rfl, HA, HK2, HO_7, BK197, HR202_0, HB⟩ := hrel
                    cases gk with
                    | zero => exact absurd HA.out (by simp [gueritelaw16_GuardReaches.l1])
                    | succ k2 =>
                      have H := HA.out
                      clear HA
                      simp only [gueritelaw16_GuardReaches.l1] at H
                      by_cases c19 : x10_2 < ji10
                      · rw [if_pos c19] at H
                        have c19b0 : decide (x10_2 < ji10) = true := decide_eq_true c19
                        clear c19
                        have H' := Aside0.mk H
                        clear H
                        go_wp2
                        go_loopg [11, 12] k2 (fun kq v11 v12 w' => ∃ (x11_3 : Bool) (x12_3 : Int), v11 = .bool x11_3 ∧ v12 = .int .i64 x12_3 ∧ Aside0 (gueritelaw16_GuardReaches.l2 kq l0 t199 ji10 x9_1 x10_2 x11_3 x12_3 a2_0 a2_1 a2_2 a2_3 a2_4 = some r) ∧ Aside0 (kq ≤ k2) ∧ Aside0 (Kd.S (Kd.slice 4 Kd.bool) 38 w' w.heap.size (fun _ => True) (.slice (some ad202) t199.length co14) t199) ∧ Aside0 (w'.heap[gb197]? = some (.cells #[.int .i64 a2_0, .int .i64 a2_1, .int .i64 a2_2, .int .u32 a2_3, .int .u32 a2_4] 25 (0, 0))) ∧ Aside0 (Kd.C Kd.bool w' A202_0 (rd_L6 t199 x9_1).length (rd_L6 t199 x9_1)) ∧ Aside0 (Below w.heap.size w w'))
                        case atStart => exact ⟨((x9_1 == x10_2)), (0), (by first | rfl | (simp; done) | (simp [*]; done)), (by first | rfl | (simp; done) | (simp [*]; done)), H', ⟨Nat.le_refl _⟩, ⟨by (with_reducible repeat (first | apply Kd.S_alloc | apply Kd.S_drewN | apply Kd.S_drew)); exact HO_7.out⟩, ⟨by (with_reducible repeat (first | refine blk_drewN ?_ _ | refine blk_drew ?_ | refine blk_alloc ?_ _)); exact BK197.out⟩, ⟨by repeat (first | (with_reducible exact HR202_0.out) | (with_reducible refine Kd.C_alloc ?_ _) | (with_reducible refine Kd.C_drewN ?_ _) | (with_reducible refine Kd.C_drew ?_) | exact HR202_0.out)⟩, ⟨by repeat (first | (with_reducible first | exact HB.out | apply below_alloc | apply pw_below_drewN | apply below_drew1 | refine below_set ?_ GE197.out) | exact HB.out)⟩⟩
                        case round =>
                          clear H'
                          try clear c1
                          try clear c2
                          try clear p2
                          try clear q2
                          try clear hx2
                          try clear c4
                          try clear c4b0
                          try clear c4b1
                          try clear c5
                          try clear c10
                          try clear c11
                          try clear c11b0
                          try clear c11b1
                          try clear c15
                          try clear c15b0
                          try clear c16
                          try clear c16b0
                          try clear c17
                          try clear c17b0
                          try clear c18
                          try clear c18b0
                          try clear c18b1
                          try clear c19
                          try clear c19b0
                          try clear hx202_0
                          try clear p2
                          try clear p202
                          try clear q2
                          try clear q202
                          obtain ⟨x11_3, x12_3, rfl, rfl, HA, HK3, HO_7, BK197, HR202_0, HB⟩ := hrel
                          cases gk with
                          | zero => exact absurd HA.out (by simp [gueritelaw16_GuardReaches.l2])
                          | succ k3 =>
                            have H := HA.out
                            clear HA
                            simp only [gueritelaw16_GuardReaches.l2] at H
                            by_cases c20 : x12_3 < (l0.length : Int)
                            · rw [if_pos c20] at H
                              have c20b0 : decide (x12_3 < (l0.length : Int)) = true := decide_eq_true c20
                              clear c20
                              by_cases c21 : x11_3 = true
                              · subst c21
                                have H1 : (gueritelaw16_GuardReaches.l2 k3 l0 t199 ji10 x9_1 x10_2 true (wrap64 (x12_3 + 1)) a2_0 a2_1 a2_2 a2_3 a2_4) = some r := by rw [if_pos rfl] at H; exact H
                                clear H
                                have H := H1
                                clear H1
                                have H' := Aside0.mk H
                                clear H
                                go_wp2
                                go_roundg k3
                                case measure => have := HK1.out; have := HK2.out; have := HK3.out; omega
                                case rel => exact ⟨(true), (wrap64 (x12_3 + 1)), (by first | rfl | (simp; done) | (simp [*]; done)), (by first | rfl | (simp; done) | (simp [*]; done)), H', ⟨by have := HK1.out; have := HK2.out; have := HK3.out; omega⟩, ⟨by (with_reducible repeat (first | apply Kd.S_alloc | apply Kd.S_drewN | apply Kd.S_drew)); exact HO_7.out⟩, ⟨by (with_reducible repeat (first | refine blk_drewN ?_ _ | refine blk_drew ?_ | refine blk_alloc ?_ _)); exact BK197.out⟩, ⟨by repeat (first | (with_reducible exact HR202_0.out) | (with_reducible refine Kd.C_alloc ?_ _) | (with_reducible refine Kd.C_drewN ?_ _) | (with_reducible refine Kd.C_drew ?_) | exact HR202_0.out)⟩, ⟨by repeat (first | (with_reducible first | exact HB.out | apply below_alloc | apply pw_below_drewN | apply below_drew1 | refine below_set ?_ GE197.out) | exact HB.out)⟩⟩
                              · replace c21 := Bool.eq_false_iff.mpr c21
                                subst c21
                                have H1 : (if 0 ≤ x12_3 then ((gueriteref16_Right.f k3 ji10 ((rd_T31 l0 x12_3).f0) ((rd_T31 l0 x12_3).f1) ((rd_T31 l0 x12_3).f2.f0) ((rd_T31 l0 x12_3).f2.f1) ((rd_T31 l0 x12_3).f3.f0) ((rd_T31 l0 x12_3).f3.f1) ((rd_T31 l0 x12_3).f4) ((rd_T31 l0 x12_3).f5)).bind fun t204 => (if t204 = true then (if ((rd_T31 l0 x12_3).f1) = (-1) then (gueritelaw16_GuardReaches.l2 k3 l0 t199 ji10 x9_1 x10_2 (((rd_T31 l0 x12_3).f5) == x10_2) (wrap64 (x12_3 + 1)) a2_0 a2_1 a2_2 a2_3 a2_4) else (if ((rd_T31 l0 x12_3).f1) = x9_1 then (gueritelaw16_GuardReaches.l2 k3 l0 t199 ji10 x9_1 x10_2 (((rd_T31 l0 x12_3).f5) == x10_2) (wrap64 (x12_3 + 1)) a2_0 a2_1 a2_2 a2_3 a2_4) else (gueritelaw16_GuardReaches.l2 k3 l0 t199 ji10 x9_1 x10_2 false (wrap64 (x12_3 + 1)) a2_0 a2_1 a2_2 a2_3 a2_4))) else (gueritelaw16_GuardReaches.l2 k3 l0 t199 ji10 x9_1 x10_2 false (wrap64 (x12_3 + 1)) a2_0 a2_1 a2_2 a2_3 a2_4))) else (none)) = some r := by rw [if_neg (show ¬ (false = true) by decide)] at H; exact H
                                clear H
                                have H := H1
                                clear H1
                                by_cases c22 : 0 ≤ x12_3
                                · rw [if_pos c22] at H
                                  have c22b0 : decide (0 ≤ x12_3) = true := decide_eq_true c22
                                  clear c22
                                  replace H := Option.bind_eq_some_iff.mp H
                                  obtain ⟨t204, A230, H⟩ := H
                                  replace H : (if t204 = true then (if ((rd_T31 l0 x12_3).f1) = (-1) then (gueritelaw16_GuardReaches.l2 k3 l0 t199 ji10 x9_1 x10_2 (((rd_T31 l0 x12_3).f5) == x10_2) (wrap64 (x12_3 + 1)) a2_0 a2_1 a2_2 a2_3 a2_4) else (if ((rd_T31 l0 x12_3).f1) = x9_1 then (gueritelaw16_GuardReaches.l2 k3 l0 t199 ji10 x9_1 x10_2 (((rd_T31 l0 x12_3).f5) == x10_2) (wrap64 (x12_3 + 1)) a2_0 a2_1 a2_2 a2_3 a2_4) else (gueritelaw16_GuardReaches.l2 k3 l0 t199 ji10 x9_1 x10_2 false (wrap64 (x12_3 + 1)) a2_0 a2_1 a2_2 a2_3 a2_4))) else (gueritelaw16_GuardReaches.l2 k3 l0 t199 ji10 x9_1 x10_2 false (wrap64 (x12_3 + 1)) a2_0 a2_1 a2_2 a2_3 a2_4)) = some r := H
                                  have A23 := Aside0.mk A230
                                  clear A230
                                  by_cases c24 : t204 = true
                                  · subst c24
                                    have H1 : (if ((rd_T31 l0 x12_3).f1) = (-1) then (gueritelaw16_GuardReaches.l2 k3 l0 t199 ji10 x9_1 x10_2 (((rd_T31 l0 x12_3).f5) == x10_2) (wrap64 (x12_3 + 1)) a2_0 a2_1 a2_2 a2_3 a2_4) else (if ((rd_T31 l0 x12_3).f1) = x9_1 then (gueritelaw16_GuardReaches.l2 k3 l0 t199 ji10 x9_1 x10_2 (((rd_T31 l0 x12_3).f5) == x10_2) (wrap64 (x12_3 + 1)) a2_0 a2_1 a2_2 a2_3 a2_4) else (gueritelaw16_GuardReaches.l2 k3 l0 t199 ji10 x9_1 x10_2 false (wrap64 (x12_3 + 1)) a2_0 a2_1 a2_2 a2_3 a2_4))) = some r := by rw [if_pos rfl] at H; exact H
                                    clear H
                                    have H := H1
                                    clear H1
                                    by_cases c25 : ((rd_T31 l0 x12_3).f1) = (-1)
                                    · rw [if_pos c25] at H
                                      have c25b0 : (((rd_T31 l0 x12_3).f1) == (-1)) = true := beq_iff_eq.mpr c25
                                      have c25b1 : (((rd_T31 l0 x12_3).f1) != (-1)) = false := bne_eq_false_iff_eq.mpr c25
                                      clear c25
                                      have H' := Aside0.mk H
                                      clear H
                                      have p203 : 0 ≤ (x12_3 : Int) := of_decide_eq_true (by first | (with_reducible assumption) | assumption)
                                      have q203 : x12_3 < (l0.length : Int) := of_decide_eq_true (by first | (with_reducible assumption) | assumption)
                                      obtain ⟨ad203, e203, hx203_0, hx203_1, hx203_2, hx203_3, hx203_4, hx203_5, hx203_6, hx203_7⟩ := at_T31 HR0.out x12_3 p203 q203
                                      cases e203
                                      replace hx203_0 := (HB.out.cell (World.block_lt_of_cell? w _ hx203_0)).trans hx203_0
                                      replace hx203_1 := (HB.out.cell (World.block_lt_of_cell? w _ hx203_1)).trans hx203_1
                                      replace hx203_2 := (HB.out.cell (World.block_lt_of_cell? w _ hx203_2)).trans hx203_2
                                      replace hx203_3 := (HB.out.cell (World.block_lt_of_cell? w _ hx203_3)).trans hx203_3
                                      replace hx203_4 := (HB.out.cell (World.block_lt_of_cell? w _ hx203_4)).trans hx203_4
                                      replace hx203_5 := (HB.out.cell (World.block_lt_of_cell? w _ hx203_5)).trans hx203_5
                                      replace hx203_6 := (HB.out.cell (World.block_lt_of_cell? w _ hx203_6)).trans hx203_6
                                      replace hx203_7 := (HB.out.cell (World.block_lt_of_cell? w _ hx203_7)).trans hx203_7
                                      replace p203 := eq_true p203
                                      replace q203 := eq_true q203
                                      go_wp2_with (first | (go_at_call 13; (with_reducible refine (gueriteref16_Right.calls k3 ji10 ((rd_T31 l0 x12_3).f0) ((rd_T31 l0 x12_3).f1) ((rd_T31 l0 x12_3).f2.f0) ((rd_T31 l0 x12_3).f2.f1) ((rd_T31 l0 x12_3).f3.f0) ((rd_T31 l0 x12_3).f3.f1) ((rd_T31 l0 x12_3).f4) ((rd_T31 l0 x12_3).f5) true _ A23.out).mono ?_); rintro e w26 ⟨rfl, hb⟩; have n0_ := Aside0.mk (Kd.S_below (by (with_reducible repeat (first | apply Kd.S_alloc | apply Kd.S_drewN | apply Kd.S_drew)); exact HO_7.out) hb); have n1_ := Aside0.mk (blk_below (g := gb197) (o := .cells #[.int .i64 a2_0, .int .i64 a2_1, .int .i64 a2_2, .int .u32 a2_3, .int .u32 a2_4] 25 (0, 0)) (by (with_reducible repeat (first | refine blk_drewN ?_ _ | refine blk_drew ?_ | refine blk_alloc ?_ _)); exact BK197.out) hb); have n2_ := Aside0.mk (Kd.C_below (by repeat (first | (with_reducible exact HR202_0.out) | (with_reducible refine Kd.C_alloc ?_ _) | (with_reducible refine Kd.C_drewN ?_ _) | (with_reducible refine Kd.C_drew ?_) | exact HR202_0.out)) hb); have n3_ := Aside0.mk (below_step (by repeat (first | (with_reducible first | exact HB.out | apply below_alloc | apply pw_below_drewN | apply below_drew1 | refine below_set ?_ GE197.out) | exact HB.out)) hb); clear HO_7; clear BK197; clear HR202_0; clear HB; have HO_7 := n0_; have BK197 := n1_; have HR202_0 := n2_; have HB := n3_; clear n0_ n1_ n2_ n3_; (try clear hb); (try clear hb2); (try clear hk); (try clear hi); have p205 : 0 ≤ (x12_3 : Int) := of_decide_eq_true (by first | (with_reducible assumption) | assumption); have q205 : x12_3 < (l0.length : Int) := of_decide_eq_true (by first | (with_reducible assumption) | assumption); obtain ⟨ad205, e205, hx205_0, hx205_1, hx205_2, hx205_3, hx205_4, hx205_5, hx205_6, hx205_7⟩ := at_T31 HR0.out x12_3 p205 q205; obtain rfl : ad203 = ad205 := (by injection e205); replace hx205_0 := (HB.out.cell (World.block_lt_of_cell? w _ hx205_0)).trans hx205_0; replace hx205_1 := (HB.out.cell (World.block_lt_of_cell? w _ hx205_1)).trans hx205_1; replace hx205_2 := (HB.out.cell (World.block_lt_of_cell? w _ hx205_2)).trans hx205_2; replace hx205_3 := (HB.out.cell (World.block_lt_of_cell? w _ hx205_3)).trans hx205_3; replace hx205_4 := (HB.out.cell (World.block_lt_of_cell? w _ hx205_4)).trans hx205_4; replace hx205_5 := (HB.out.cell (World.block_lt_of_cell? w _ hx205_5)).trans hx205_5; replace hx205_6 := (HB.out.cell (World.block_lt_of_cell? w _ hx205_6)).trans hx205_6; replace hx205_7 := (HB.out.cell (World.block_lt_of_cell? w _ hx205_7)).trans hx205_7; replace p205 := eq_true p205; replace q205 := eq_true q205; have p206 : 0 ≤ (x12_3 : Int) := of_decide_eq_true (by first | (with_reducible assumption) | assumption); have q206 : x12_3 < (l0.length : Int) := of_decide_eq_true (by first | (with_reducible assumption) | assumption); obtain ⟨ad206, e206, hx206_0, hx206_1, hx206_2, hx206_3, hx206_4, hx206_5, hx206_6, hx206_7⟩ := at_T31 HR0.out x12_3 p206 q206; obtain rfl : ad203 = ad206 := (by injection e206); replace hx206_0 := (HB.out.cell (World.block_lt_of_cell? w _ hx206_0)).trans hx206_0; replace hx206_1 := (HB.out.cell (World.block_lt_of_cell? w _ hx206_1)).trans hx206_1; replace hx206_2 := (HB.out.cell (World.block_lt_of_cell? w _ hx206_2)).trans hx206_2; replace hx206_3 := (HB.out.cell (World.block_lt_of_cell? w _ hx206_3)).trans hx206_3; replace hx206_4 := (HB.out.cell (World.block_lt_of_cell? w _ hx206_4)).trans hx206_4; replace hx206_5 := (HB.out.cell (World.block_lt_of_cell? w _ hx206_5)).trans hx206_5; replace hx206_6 := (HB.out.cell (World.block_lt_of_cell? w _ hx206_6)).trans hx206_6; replace hx206_7 := (HB.out.cell (World.block_lt_of_cell? w _ hx206_7)).trans hx206_7; replace p206 := eq_true p206; replace q206 := eq_true q206))
                                      go_roundg k3
                                      case measure => have := HK1.out; have := HK2.out; have := HK3.out; omega
                                      case rel => exact ⟨((((rd_T31 l0 x12_3).f5) == x10_2)), (wrap64 (x12_3 + 1)), (by first | rfl | (simp; done) | (simp [*]; done)), (by first | rfl | (simp; done) | (simp [*]; done)), H', ⟨by have := HK1.out; have := HK2.out; have := HK3.out; omega⟩, ⟨by (with_reducible repeat (first | apply Kd.S_alloc | apply Kd.S_drewN | apply Kd.S_drew)); exact HO_7.out⟩, ⟨by (with_reducible repeat (first | refine blk_drewN ?_ _ | refine blk_drew ?_ | refine blk_alloc ?_ _)); exact BK197.out⟩, ⟨by repeat (first | (with_reducible exact HR202_0.out) | (with_reducible refine Kd.C_alloc ?_ _) | (with_reducible refine Kd.C_drewN ?_ _) | (with_reducible refine Kd.C_drew ?_) | exact HR202_0.out)⟩, ⟨by repeat (first | (with_reducible first | exact HB.out | apply below_alloc | apply pw_below_drewN | apply below_drew1 | refine below_set ?_ GE197.out) | exact HB.out)⟩⟩
                                    · rw [if_neg c25] at H
                                      have c25b0 : (((rd_T31 l0 x12_3).f1) == (-1)) = false := beq_eq_false_iff_ne.mpr c25
                                      have c25b1 : (((rd_T31 l0 x12_3).f1) != (-1)) = true := bne_iff_ne.mpr c25
                                      by_cases c27 : ((rd_T31 l0 x12_3).f1) = x9_1
                                      · rw [if_pos c27] at H
                                        have c27b0 : (((rd_T31 l0 x12_3).f1) == x9_1) = true := beq_iff_eq.mpr c27
                                        have c27b1 : (((rd_T31 l0 x12_3).f1) != x9_1) = false := bne_eq_false_iff_eq.mpr c27
                                        clear c27
                                        have H' := Aside0.mk H
                                        clear H
                                        have p203 : 0 ≤ (x12_3 : Int) := of_decide_eq_true (by first | (with_reducible assumption) | assumption)
                                        have q203 : x12_3 < (l0.length : Int) := of_decide_eq_true (by first | (with_reducible assumption) | assumption)
                                        obtain ⟨ad203, e203, hx203_0, hx203_1, hx203_2, hx203_3, hx203_4, hx203_5, hx203_6, hx203_7⟩ := at_T31 HR0.out x12_3 p203 q203
                                        cases e203
                                        replace hx203_0 := (HB.out.cell (World.block_lt_of_cell? w _ hx203_0)).trans hx203_0
                                        replace hx203_1 := (HB.out.cell (World.block_lt_of_cell? w _ hx203_1)).trans hx203_1
                                        replace hx203_2 := (HB.out.cell (World.block_lt_of_cell? w _ hx203_2)).trans hx203_2
                                        replace hx203_3 := (HB.out.cell (World.block_lt_of_cell? w _ hx203_3)).trans hx203_3
                                        replace hx203_4 := (HB.out.cell (World.block_lt_of_cell? w _ hx203_4)).trans hx203_4
                                        replace hx203_5 := (HB.out.cell (World.block_lt_of_cell? w _ hx203_5)).trans hx203_5
                                        replace hx203_6 := (HB.out.cell (World.block_lt_of_cell? w _ hx203_6)).trans hx203_6
                                        replace hx203_7 := (HB.out.cell (World.block_lt_of_cell? w _ hx203_7)).trans hx203_7
                                        replace p203 := eq_true p203
                                        replace q203 := eq_true q203
                                        go_wp2_with (first | (go_at_call 13; (with_reducible refine (gueriteref16_Right.calls k3 ji10 ((rd_T31 l0 x12_3).f0) ((rd_T31 l0 x12_3).f1) ((rd_T31 l0 x12_3).f2.f0) ((rd_T31 l0 x12_3).f2.f1) ((rd_T31 l0 x12_3).f3.f0) ((rd_T31 l0 x12_3).f3.f1) ((rd_T31 l0 x12_3).f4) ((rd_T31 l0 x12_3).f5) true _ A23.out).mono ?_); rintro e w28 ⟨rfl, hb⟩; have n0_ := Aside0.mk (Kd.S_below (by (with_reducible repeat (first | apply Kd.S_alloc | apply Kd.S_drewN | apply Kd.S_drew)); exact HO_7.out) hb); have n1_ := Aside0.mk (blk_below (g := gb197) (o := .cells #[.int .i64 a2_0, .int .i64 a2_1, .int .i64 a2_2, .int .u32 a2_3, .int .u32 a2_4] 25 (0, 0)) (by (with_reducible repeat (first | refine blk_drewN ?_ _ | refine blk_drew ?_ | refine blk_alloc ?_ _)); exact BK197.out) hb); have n2_ := Aside0.mk (Kd.C_below (by repeat (first | (with_reducible exact HR202_0.out) | (with_reducible refine Kd.C_alloc ?_ _) | (with_reducible refine Kd.C_drewN ?_ _) | (with_reducible refine Kd.C_drew ?_) | exact HR202_0.out)) hb); have n3_ := Aside0.mk (below_step (by repeat (first | (with_reducible first | exact HB.out | apply below_alloc | apply pw_below_drewN | apply below_drew1 | refine below_set ?_ GE197.out) | exact HB.out)) hb); clear HO_7; clear BK197; clear HR202_0; clear HB; have HO_7 := n0_; have BK197 := n1_; have HR202_0 := n2_; have HB := n3_; clear n0_ n1_ n2_ n3_; (try clear hb); (try clear hb2); (try clear hk); (try clear hi); have p205 : 0 ≤ (x12_3 : Int) := of_decide_eq_true (by first | (with_reducible assumption) | assumption); have q205 : x12_3 < (l0.length : Int) := of_decide_eq_true (by first | (with_reducible assumption) | assumption); obtain ⟨ad205, e205, hx205_0, hx205_1, hx205_2, hx205_3, hx205_4, hx205_5, hx205_6, hx205_7⟩ := at_T31 HR0.out x12_3 p205 q205; obtain rfl : ad203 = ad205 := (by injection e205); replace hx205_0 := (HB.out.cell (World.block_lt_of_cell? w _ hx205_0)).trans hx205_0; replace hx205_1 := (HB.out.cell (World.block_lt_of_cell? w _ hx205_1)).trans hx205_1; replace hx205_2 := (HB.out.cell (World.block_lt_of_cell? w _ hx205_2)).trans hx205_2; replace hx205_3 := (HB.out.cell (World.block_lt_of_cell? w _ hx205_3)).trans hx205_3; replace hx205_4 := (HB.out.cell (World.block_lt_of_cell? w _ hx205_4)).trans hx205_4; replace hx205_5 := (HB.out.cell (World.block_lt_of_cell? w _ hx205_5)).trans hx205_5; replace hx205_6 := (HB.out.cell (World.block_lt_of_cell? w _ hx205_6)).trans hx205_6; replace hx205_7 := (HB.out.cell (World.block_lt_of_cell? w _ hx205_7)).trans hx205_7; replace p205 := eq_true p205; replace q205 := eq_true q205; have p207 : 0 ≤ (x12_3 : Int) := of_decide_eq_true (by first | (with_reducible assumption) | assumption); have q207 : x12_3 < (l0.length : Int) := of_decide_eq_true (by first | (with_reducible assumption) | assumption); obtain ⟨ad207, e207, hx207_0, hx207_1, hx207_2, hx207_3, hx207_4, hx207_5, hx207_6, hx207_7⟩ := at_T31 HR0.out x12_3 p207 q207; obtain rfl : ad203 = ad207 := (by injection e207); replace hx207_0 := (HB.out.cell (World.block_lt_of_cell? w _ hx207_0)).trans hx207_0; replace hx207_1 := (HB.out.cell (World.block_lt_of_cell? w _ hx207_1)).trans hx207_1; replace hx207_2 := (HB.out.cell (World.block_lt_of_cell? w _ hx207_2)).trans hx207_2; replace hx207_3 := (HB.out.cell (World.block_lt_of_cell? w _ hx207_3)).trans hx207_3; replace hx207_4 := (HB.out.cell (World.block_lt_of_cell? w _ hx207_4)).trans hx207_4; replace hx207_5 := (HB.out.cell (World.block_lt_of_cell? w _ hx207_5)).trans hx207_5; replace hx207_6 := (HB.out.cell (World.block_lt_of_cell? w _ hx207_6)).trans hx207_6; replace hx207_7 := (HB.out.cell (World.block_lt_of_cell? w _ hx207_7)).trans hx207_7; replace p207 := eq_true p207; replace q207 := eq_true q207; have p208 : 0 ≤ (x12_3 : Int) := of_decide_eq_true (by first | (with_reducible assumption) | assumption); have q208 : x12_3 < (l0.length : Int) := of_decide_eq_true (by first | (with_reducible assumption) | assumption); obtain ⟨ad208, e208, hx208_0, hx208_1, hx208_2, hx208_3, hx208_4, hx208_5, hx208_6, hx208_7⟩ := at_T31 HR0.out x12_3 p208 q208; obtain rfl : ad203 = ad208 := (by injection e208); replace hx208_0 := (HB.out.cell (World.block_lt_of_cell? w _ hx208_0)).trans hx208_0; replace hx208_1 := (HB.out.cell (World.block_lt_of_cell? w _ hx208_1)).trans hx208_1; replace hx208_2 := (HB.out.cell (World.block_lt_of_cell? w _ hx208_2)).trans hx208_2; replace hx208_3 := (HB.out.cell (World.block_lt_of_cell? w _ hx208_3)).trans hx208_3; replace hx208_4 := (HB.out.cell (World.block_lt_of_cell? w _ hx208_4)).trans hx208_4; replace hx208_5 := (HB.out.cell (World.block_lt_of_cell? w _ hx208_5)).trans hx208_5; replace hx208_6 := (HB.out.cell (World.block_lt_of_cell? w _ hx208_6)).trans hx208_6; replace hx208_7 := (HB.out.cell (World.block_lt_of_cell? w _ hx208_7)).trans hx208_7; replace p208 := eq_true p208; replace q208 := eq_true q208))
                                        go_roundg k3
                                        case measure => have := HK1.out; have := HK2.out; have := HK3.out; omega
                                        case rel => exact ⟨((((rd_T31 l0 x12_3).f5) == x10_2)), (wrap64 (x12_3 + 1)), (by first | rfl | (simp; done) | (simp [*]; done)), (by first | rfl | (simp; done) | (simp [*]; done)), H', ⟨by have := HK1.out; have := HK2.out; have := HK3.out; omega⟩, ⟨by (with_reducible repeat (first | apply Kd.S_alloc | apply Kd.S_drewN | apply Kd.S_drew)); exact HO_7.out⟩, ⟨by (with_reducible repeat (first | refine blk_drewN ?_ _ | refine blk_drew ?_ | refine blk_alloc ?_ _)); exact BK197.out⟩, ⟨by repeat (first | (with_reducible exact HR202_0.out) | (with_reducible refine Kd.C_alloc ?_ _) | (with_reducible refine Kd.C_drewN ?_ _) | (with_reducible refine Kd.C_drew ?_) | exact HR202_0.out)⟩, ⟨by repeat (first | (with_reducible first | exact HB.out | apply below_alloc | apply pw_below_drewN | apply below_drew1 | refine below_set ?_ GE197.out) | exact HB.out)⟩⟩
                                      · rw [if_neg c27] at H
                                        have c27b0 : (((rd_T31 l0 x12_3).f1) == x9_1) = false := beq_eq_false_iff_ne.mpr c27
                                        have c27b1 : (((rd_T31 l0 x12_3).f1) != x9_1) = true := bne_iff_ne.mpr c27
                                        have H' := Aside0.mk H
                                        clear H
                                        have p203 : 0 ≤ (x12_3 : Int) := of_decide_eq_true (by first | (with_reducible assumption) | assumption)
                                        have q203 : x12_3 < (l0.length : Int) := of_decide_eq_true (by first | (with_reducible assumption) | assumption)
                                        obtain ⟨ad203, e203, hx203_0, hx203_1, hx203_2, hx203_3, hx203_4, hx203_5, hx203_6, hx203_7⟩ := at_T31 HR0.out x12_3 p203 q203
                                        cases e203
                                        replace hx203_0 := (HB.out.cell (World.block_lt_of_cell? w _ hx203_0)).trans hx203_0
                                        replace hx203_1 := (HB.out.cell (World.block_lt_of_cell? w _ hx203_1)).trans hx203_1
                                        replace hx203_2 := (HB.out.cell (World.block_lt_of_cell? w _ hx203_2)).trans hx203_2
                                        replace hx203_3 := (HB.out.cell (World.block_lt_of_cell? w _ hx203_3)).trans hx203_3
                                        replace hx203_4 := (HB.out.cell (World.block_lt_of_cell? w _ hx203_4)).trans hx203_4
                                        replace hx203_5 := (HB.out.cell (World.block_lt_of_cell? w _ hx203_5)).trans hx203_5
                                        replace hx203_6 := (HB.out.cell (World.block_lt_of_cell? w _ hx203_6)).trans hx203_6
                                        replace hx203_7 := (HB.out.cell (World.block_lt_of_cell? w _ hx203_7)).trans hx203_7
                                        replace p203 := eq_true p203
                                        replace q203 := eq_true q203
                                        go_wp2_with (first | (go_at_call 13; (with_reducible refine (gueriteref16_Right.calls k3 ji10 ((rd_T31 l0 x12_3).f0) ((rd_T31 l0 x12_3).f1) ((rd_T31 l0 x12_3).f2.f0) ((rd_T31 l0 x12_3).f2.f1) ((rd_T31 l0 x12_3).f3.f0) ((rd_T31 l0 x12_3).f3.f1) ((rd_T31 l0 x12_3).f4) ((rd_T31 l0 x12_3).f5) true _ A23.out).mono ?_); rintro e w29 ⟨rfl, hb⟩; have n0_ := Aside0.mk (Kd.S_below (by (with_reducible repeat (first | apply Kd.S_alloc | apply Kd.S_drewN | apply Kd.S_drew)); exact HO_7.out) hb); have n1_ := Aside0.mk (blk_below (g := gb197) (o := .cells #[.int .i64 a2_0, .int .i64 a2_1, .int .i64 a2_2, .int .u32 a2_3, .int .u32 a2_4] 25 (0, 0)) (by (with_reducible repeat (first | refine blk_drewN ?_ _ | refine blk_drew ?_ | refine blk_alloc ?_ _)); exact BK197.out) hb); have n2_ := Aside0.mk (Kd.C_below (by repeat (first | (with_reducible exact HR202_0.out) | (with_reducible refine Kd.C_alloc ?_ _) | (with_reducible refine Kd.C_drewN ?_ _) | (with_reducible refine Kd.C_drew ?_) | exact HR202_0.out)) hb); have n3_ := Aside0.mk (below_step (by repeat (first | (with_reducible first | exact HB.out | apply below_alloc | apply pw_below_drewN | apply below_drew1 | refine below_set ?_ GE197.out) | exact HB.out)) hb); clear HO_7; clear BK197; clear HR202_0; clear HB; have HO_7 := n0_; have BK197 := n1_; have HR202_0 := n2_; have HB := n3_; clear n0_ n1_ n2_ n3_; (try clear hb); (try clear hb2); (try clear hk); (try clear hi); have p205 : 0 ≤ (x12_3 : Int) := of_decide_eq_true (by first | (with_reducible assumption) | assumption); have q205 : x12_3 < (l0.length : Int) := of_decide_eq_true (by first | (with_reducible assumption) | assumption); obtain ⟨ad205, e205, hx205_0, hx205_1, hx205_2, hx205_3, hx205_4, hx205_5, hx205_6, hx205_7⟩ := at_T31 HR0.out x12_3 p205 q205; obtain rfl : ad203 = ad205 := (by injection e205); replace hx205_0 := (HB.out.cell (World.block_lt_of_cell? w _ hx205_0)).trans hx205_0; replace hx205_1 := (HB.out.cell (World.block_lt_of_cell? w _ hx205_1)).trans hx205_1; replace hx205_2 := (HB.out.cell (World.block_lt_of_cell? w _ hx205_2)).trans hx205_2; replace hx205_3 := (HB.out.cell (World.block_lt_of_cell? w _ hx205_3)).trans hx205_3; replace hx205_4 := (HB.out.cell (World.block_lt_of_cell? w _ hx205_4)).trans hx205_4; replace hx205_5 := (HB.out.cell (World.block_lt_of_cell? w _ hx205_5)).trans hx205_5; replace hx205_6 := (HB.out.cell (World.block_lt_of_cell? w _ hx205_6)).trans hx205_6; replace hx205_7 := (HB.out.cell (World.block_lt_of_cell? w _ hx205_7)).trans hx205_7; replace p205 := eq_true p205; replace q205 := eq_true q205; have p207 : 0 ≤ (x12_3 : Int) := of_decide_eq_true (by first | (with_reducible assumption) | assumption); have q207 : x12_3 < (l0.length : Int) := of_decide_eq_true (by first | (with_reducible assumption) | assumption); obtain ⟨ad207, e207, hx207_0, hx207_1, hx207_2, hx207_3, hx207_4, hx207_5, hx207_6, hx207_7⟩ := at_T31 HR0.out x12_3 p207 q207; obtain rfl : ad203 = ad207 := (by injection e207); replace hx207_0 := (HB.out.cell (World.block_lt_of_cell? w _ hx207_0)).trans hx207_0; replace hx207_1 := (HB.out.cell (World.block_lt_of_cell? w _ hx207_1)).trans hx207_1; replace hx207_2 := (HB.out.cell (World.block_lt_of_cell? w _ hx207_2)).trans hx207_2; replace hx207_3 := (HB.out.cell (World.block_lt_of_cell? w _ hx207_3)).trans hx207_3; replace hx207_4 := (HB.out.cell (World.block_lt_of_cell? w _ hx207_4)).trans hx207_4; replace hx207_5 := (HB.out.cell (World.block_lt_of_cell? w _ hx207_5)).trans hx207_5; replace hx207_6 := (HB.out.cell (World.block_lt_of_cell? w _ hx207_6)).trans hx207_6; replace hx207_7 := (HB.out.cell (World.block_lt_of_cell? w _ hx207_7)).trans hx207_7; replace p207 := eq_true p207; replace q207 := eq_true q207))
                                        go_roundg k3
                                        case measure => have := HK1.out; have := HK2.out; have := HK3.out; omega
                                        case rel => exact ⟨(false), (wrap64 (x12_3 + 1)), (by first | rfl | (simp; done) | (simp [*]; done)), (by first | rfl | (simp; done) | (simp [*]; done)), H', ⟨by have := HK1.out; have := HK2.out; have := HK3.out; omega⟩, ⟨by (with_reducible repeat (first | apply Kd.S_alloc | apply Kd.S_drewN | apply Kd.S_drew)); exact HO_7.out⟩, ⟨by (with_reducible repeat (first | refine blk_drewN ?_ _ | refine blk_drew ?_ | refine blk_alloc ?_ _)); exact BK197.out⟩, ⟨by repeat (first | (with_reducible exact HR202_0.out) | (with_reducible refine Kd.C_alloc ?_ _) | (with_reducible refine Kd.C_drewN ?_ _) | (with_reducible refine Kd.C_drew ?_) | exact HR202_0.out)⟩, ⟨by repeat (first | (with_reducible first | exact HB.out | apply below_alloc | apply pw_below_drewN | apply below_drew1 | refine below_set ?_ GE197.out) | exact HB.out)⟩⟩
                                  · replace c24 := Bool.eq_false_iff.mpr c24
                                    subst c24
                                    have H1 : (gueritelaw16_GuardReaches.l2 k3 l0 t199 ji10 x9_1 x10_2 false (wrap64 (x12_3 + 1)) a2_0 a2_1 a2_2 a2_3 a2_4) = some r := by rw [if_neg (show ¬ (false = true) by decide)] at H; exact H
                                    clear H
                                    have H := H1
                                    clear H1
                                    have H' := Aside0.mk H
                                    clear H
                                    have p203 : 0 ≤ (x12_3 : Int) := of_decide_eq_true (by first | (with_reducible assumption) | assumption)
                                    have q203 : x12_3 < (l0.length : Int) := of_decide_eq_true (by first | (with_reducible assumption) | assumption)
                                    obtain ⟨ad203, e203, hx203_0, hx203_1, hx203_2, hx203_3, hx203_4, hx203_5, hx203_6, hx203_7⟩ := at_T31 HR0.out x12_3 p203 q203
                                    cases e203
                                    replace hx203_0 := (HB.out.cell (World.block_lt_of_cell? w _ hx203_0)).trans hx203_0
                                    replace hx203_1 := (HB.out.cell (World.block_lt_of_cell? w _ hx203_1)).trans hx203_1
                                    replace hx203_2 := (HB.out.cell (World.block_lt_of_cell? w _ hx203_2)).trans hx203_2
                                    replace hx203_3 := (HB.out.cell (World.block_lt_of_cell? w _ hx203_3)).trans hx203_3
                                    replace hx203_4 := (HB.out.cell (World.block_lt_of_cell? w _ hx203_4)).trans hx203_4
                                    replace hx203_5 := (HB.out.cell (World.block_lt_of_cell? w _ hx203_5)).trans hx203_5
                                    replace hx203_6 := (HB.out.cell (World.block_lt_of_cell? w _ hx203_6)).trans hx203_6
                                    replace hx203_7 := (HB.out.cell (World.block_lt_of_cell? w _ hx203_7)).trans hx203_7
                                    replace p203 := eq_true p203
                                    replace q203 := eq_true q203
                                    go_wp2_with (first | (go_at_call 13; (with_reducible refine (gueriteref16_Right.calls k3 ji10 ((rd_T31 l0 x12_3).f0) ((rd_T31 l0 x12_3).f1) ((rd_T31 l0 x12_3).f2.f0) ((rd_T31 l0 x12_3).f2.f1) ((rd_T31 l0 x12_3).f3.f0) ((rd_T31 l0 x12_3).f3.f1) ((rd_T31 l0 x12_3).f4) ((rd_T31 l0 x12_3).f5) false _ A23.out).mono ?_); rintro e w30 ⟨rfl, hb⟩; have n0_ := Aside0.mk (Kd.S_below (by (with_reducible repeat (first | apply Kd.S_alloc | apply Kd.S_drewN | apply Kd.S_drew)); exact HO_7.out) hb); have n1_ := Aside0.mk (blk_below (g := gb197) (o := .cells #[.int .i64 a2_0, .int .i64 a2_1, .int .i64 a2_2, .int .u32 a2_3, .int .u32 a2_4] 25 (0, 0)) (by (with_reducible repeat (first | refine blk_drewN ?_ _ | refine blk_drew ?_ | refine blk_alloc ?_ _)); exact BK197.out) hb); have n2_ := Aside0.mk (Kd.C_below (by repeat (first | (with_reducible exact HR202_0.out) | (with_reducible refine Kd.C_alloc ?_ _) | (with_reducible refine Kd.C_drewN ?_ _) | (with_reducible refine Kd.C_drew ?_) | exact HR202_0.out)) hb); have n3_ := Aside0.mk (below_step (by repeat (first | (with_reducible first | exact HB.out | apply below_alloc | apply pw_below_drewN | apply below_drew1 | refine below_set ?_ GE197.out) | exact HB.out)) hb); clear HO_7; clear BK197; clear HR202_0; clear HB; have HO_7 := n0_; have BK197 := n1_; have HR202_0 := n2_; have HB := n3_; clear n0_ n1_ n2_ n3_; (try clear hb); (try clear hb2); (try clear hk); (try clear hi)))
                                    go_roundg k3
                                    case measure => have := HK1.out; have := HK2.out; have := HK3.out; omega
                                    case rel => exact ⟨(false), (wrap64 (x12_3 + 1)), (by first | rfl | (simp; done) | (simp [*]; done)), (by first | rfl | (simp; done) | (simp [*]; done)), H', ⟨by have := HK1.out; have := HK2.out; have := HK3.out; omega⟩, ⟨by (with_reducible repeat (first | apply Kd.S_alloc | apply Kd.S_drewN | apply Kd.S_drew)); exact HO_7.out⟩, ⟨by (with_reducible repeat (first | refine blk_drewN ?_ _ | refine blk_drew ?_ | refine blk_alloc ?_ _)); exact BK197.out⟩, ⟨by repeat (first | (with_reducible exact HR202_0.out) | (with_reducible refine Kd.C_alloc ?_ _) | (with_reducible refine Kd.C_drewN ?_ _) | (with_reducible refine Kd.C_drew ?_) | exact HR202_0.out)⟩, ⟨by repeat (first | (with_reducible first | exact HB.out | apply below_alloc | apply pw_below_drewN | apply below_drew1 | refine below_set ?_ GE197.out) | exact HB.out)⟩⟩
                                · rw [if_neg c22] at H
                                  exact absurd H (by simp)
                            · rw [if_neg c20] at H
                              have c20b0 : decide (x12_3 < (l0.length : Int)) = false := decide_eq_false c20
                              clear c20
                              by_cases c31 : 0 ≤ x9_1
                              · rw [if_pos c31] at H
                                have c31b0 : decide (0 ≤ x9_1) = true := decide_eq_true c31
                                clear c31
                                by_cases c32 : x9_1 < (t199.length : Int)
                                · rw [if_pos c32] at H
                                  have c32b0 : decide (x9_1 < (t199.length : Int)) = true := decide_eq_true c32
                                  clear c32
                                  by_cases c33 : 0 ≤ x10_2
                                  · rw [if_pos c33] at H
                                    have c33b0 : decide (0 ≤ x10_2) = true := decide_eq_true c33
                                    clear c33
                                    by_cases c34 : x10_2 < ((rd_L6 t199 x9_1).length : Int)
                                    · rw [if_pos c34] at H
                                      have c34b0 : decide (x10_2 < ((rd_L6 t199 x9_1).length : Int)) = true := decide_eq_true c34
                                      clear c34
                                      by_cases c35 : ((rdOf false (rd_L6 t199 x9_1) x10_2) != x11_3) = true
                                      · rw [if_pos c35] at H
                                        have c35b0 : ((rdOf false (rd_L6 t199 x9_1) x10_2) != x11_3) = true := c35
                                        (try (have c35b1 : decide ((rdOf false (rd_L6 t199 x9_1) x10_2) = x11_3) = false := by simpa using c35))
                                        (try (have c35b2 : ((rdOf false (rd_L6 t199 x9_1) x10_2) == x11_3) = false := by simpa using c35))
                                        (try (have c35b3 : ¬ ((rdOf false (rd_L6 t199 x9_1) x10_2) = x11_3) := by simpa using c35))
                                        clear c35
                                        obtain rfl := Option.some.inj H
                                        have p209 : 0 ≤ (x9_1 : Int) := of_decide_eq_true (by first | (with_reducible assumption) | assumption)
                                        have q209 : x9_1 < (t199.length : Int) := of_decide_eq_true (by first | (with_reducible assumption) | assumption)
                                        obtain ⟨ad209, A209_0, c209_0, e209, hx209_0, hl209_0, hi209_0⟩ := at_L6 (Kd.S_reads' HO_7.out).2.2 x9_1 p209 q209
                                        obtain rfl : ad202 = ad209 := (by injection e209)
                                        obtain ⟨ce209, hce209, hMe209, hcc209⟩ := Kd.S_get HO_7.out [] x9_1 p209 (by first | exact q209 | exact of_decide_eq_true (by first | (with_reducible assumption) | assumption) | (have e_ := (Kd.S_reads' HO_7.out).1; omega))
                                        obtain ⟨ve209_0, rfl, ge209_0⟩ := hMe209
                                        have hv209_0 := hcc209 0 _ rfl
                                        rw [Nat.add_zero, show ((Kd.slice 4 Kd.bool)).sz = 1 from rfl, Nat.mul_one] at hv209_0
                                        replace hv209_0 := Option.some.inj (hv209_0.symm.trans hx209_0)
                                        rw [hv209_0] at ge209_0
                                        have HL209_0 := Aside0.mk (show Kd.R Kd.bool 4 _ _ _ _ (rd_L6 t199 x9_1) from ge209_0)
                                        clear hv209_0 ge209_0
                                        clear hcc209 hce209
                                        have HR209_0 := Aside0.mk hi209_0
                                        have HC209_0 := Aside0.mk hl209_0
                                        clear hi209_0 hl209_0
                                        replace p209 := eq_true p209
                                        replace q209 := eq_true q209
                                        have p210 : 0 ≤ (x10_2 : Int) := of_decide_eq_true (by first | (with_reducible assumption) | assumption)
                                        have q210 : x10_2 < ((rd_L6 t199 x9_1).length : Int) := of_decide_eq_true (by first | (with_reducible assumption) | assumption)
                                        obtain ⟨ad210, e210, hx210_0⟩ := Kd.at_bool (by repeat (first | (with_reducible exact HR209_0.out) | (with_reducible refine Kd.C_alloc ?_ _) | (with_reducible refine Kd.C_drewN ?_ _) | (with_reducible refine Kd.C_drew ?_) | exact HR209_0.out)) x10_2 p210 q210
                                        cases e210
                                        replace p210 := eq_true p210
                                        replace q210 := eq_true q210
                                        go_wp2
                                        go_ret
                                        exact ⟨by first | rfl | (simp [errW_none, errW_some] <;> rfl) | (simp only [← hji9, ← hji10]; first | rfl | (simp [errW_none, errW_some] <;> rfl)) | (simp [*, errW_none, errW_some] <;> rfl), by repeat (first | (with_reducible first | exact HB.out | apply below_alloc | apply pw_below_drewN | apply below_drew1 | refine below_set ?_ GE197.out) | exact HB.out)⟩
                                      · rw [if_neg c35] at H
                                        have c35b0 : ((rdOf false (rd_L6 t199 x9_1) x10_2) != x11_3) = false := by simpa using c35
                                        (try (have c35b1 : decide ((rdOf false (rd_L6 t199 x9_1) x10_2) = x11_3) = true := by simpa using c35))
                                        (try (have c35b2 : ((rdOf false (rd_L6 t199 x9_1) x10_2) == x11_3) = true := by simpa using c35))
                                        clear c35
                                        have H' := Aside0.mk H
                                        clear H
                                        have p209 : 0 ≤ (x9_1 : Int) := of_decide_eq_true (by first | (with_reducible assumption) | assumption)
                                        have q209 : x9_1 < (t199.length : Int) := of_decide_eq_true (by first | (with_reducible assumption) | assumption)
                                        obtain ⟨ad209, A209_0, c209_0, e209, hx209_0, hl209_0, hi209_0⟩ := at_L6 (Kd.S_reads' HO_7.out).2.2 x9_1 p209 q209
                                        obtain rfl : ad202 = ad209 := (by injection e209)
                                        obtain ⟨ce209, hce209, hMe209, hcc209⟩ := Kd.S_get HO_7.out [] x9_1 p209 (by first | exact q209 | exact of_decide_eq_true (by first | (with_reducible assumption) | assumption) | (have e_ := (Kd.S_reads' HO_7.out).1; omega))
                                        obtain ⟨ve209_0, rfl, ge209_0⟩ := hMe209
                                        have hv209_0 := hcc209 0 _ rfl
                                        rw [Nat.add_zero, show ((Kd.slice 4 Kd.bool)).sz = 1 from rfl, Nat.mul_one] at hv209_0
                                        replace hv209_0 := Option.some.inj (hv209_0.symm.trans hx209_0)
                                        rw [hv209_0] at ge209_0
                                        have HL209_0 := Aside0.mk (show Kd.R Kd.bool 4 _ _ _ _ (rd_L6 t199 x9_1) from ge209_0)
                                        clear hv209_0 ge209_0
                                        clear hcc209 hce209
                                        have HR209_0 := Aside0.mk hi209_0
                                        have HC209_0 := Aside0.mk hl209_0
                                        clear hi209_0 hl209_0
                                        replace p209 := eq_true p209
                                        replace q209 := eq_true q209
                                        have p210 : 0 ≤ (x10_2 : Int) := of_decide_eq_true (by first | (with_reducible assumption) | assumption)
                                        have q210 : x10_2 < ((rd_L6 t199 x9_1).length : Int) := of_decide_eq_true (by first | (with_reducible assumption) | assumption)
                                        obtain ⟨ad210, e210, hx210_0⟩ := Kd.at_bool (by repeat (first | (with_reducible exact HR209_0.out) | (with_reducible refine Kd.C_alloc ?_ _) | (with_reducible refine Kd.C_drewN ?_ _) | (with_reducible refine Kd.C_drew ?_) | exact HR209_0.out)) x10_2 p210 q210
                                        cases e210
                                        replace p210 := eq_true p210
                                        replace q210 := eq_true q210
                                        go_wp2
                                        go_roundg k3
                                        case measure => have := HK1.out; have := HK2.out; have := HK3.out; omega
                                        case rel => exact ⟨(wrap64 (x10_2 + 1)), (by first | rfl | (simp; done) | (simp [*]; done)), H', ⟨by have := HK1.out; have := HK2.out; have := HK3.out; omega⟩, ⟨by (with_reducible repeat (first | apply Kd.S_alloc | apply Kd.S_drewN | apply Kd.S_drew)); exact HO_7.out⟩, ⟨by (with_reducible repeat (first | refine blk_drewN ?_ _ | refine blk_drew ?_ | refine blk_alloc ?_ _)); exact BK197.out⟩, ⟨by repeat (first | (with_reducible exact HR202_0.out) | (with_reducible refine Kd.C_alloc ?_ _) | (with_reducible refine Kd.C_drewN ?_ _) | (with_reducible refine Kd.C_drew ?_) | exact HR202_0.out)⟩, ⟨by repeat (first | (with_reducible first | exact HB.out | apply below_alloc | apply pw_below_drewN | apply below_drew1 | refine below_set ?_ GE197.out) | exact HB.out)⟩⟩
                                    · rw [if_neg c34] at H
                                      exact absurd H (by simp)
                                  · rw [if_neg c33] at H
                                    exact absurd H (by simp)
                                · rw [if_neg c32] at H
                                  exact absurd H (by simp)
                              · rw [if_neg c31] at H
                                exact absurd H (by simp)
                      · rw [if_neg c19] at H
                        have c19b0 : decide (x10_2 < ji10) = false := decide_eq_false c19
                        clear c19
                        have H' := Aside0.mk H
                        clear H
                        go_wp2
                        go_roundg k2
                        case measure => have := HK1.out; have := HK2.out; omega
                        case rel => exact ⟨(wrap64 (x9_1 + 1)), (by first | rfl | (simp; done) | (simp [*]; done)), H', ⟨by have := HK1.out; have := HK2.out; omega⟩, ⟨by (with_reducible repeat (first | apply Kd.S_alloc | apply Kd.S_drewN | apply Kd.S_drew)); exact HO_7.out⟩, ⟨by (with_reducible repeat (first | refine blk_drewN ?_ _ | refine blk_drew ?_ | refine blk_alloc ?_ _)); exact BK197.out⟩, ⟨by repeat (first | (with_reducible first | exact HB.out | apply below_alloc | apply pw_below_drewN | apply below_drew1 | refine below_set ?_ GE197.out) | exact HB.out)⟩⟩
                · rw [if_neg c18] at H
                  have c18b0 : (((rd_L6 t199 x9_1).length : Int) == ji10) = false := beq_eq_false_iff_ne.mpr c18
                  have c18b1 : (((rd_L6 t199 x9_1).length : Int) != ji10) = true := bne_iff_ne.mpr c18
                  obtain rfl := Option.some.inj H
                  have p202 : 0 ≤ (x9_1 : Int) := of_decide_eq_true (by first | (with_reducible assumption) | assumption)
                  have q202 : x9_1 < (t199.length : Int) := of_decide_eq_true (by first | (with_reducible assumption) | assumption)
                  obtain ⟨ad202, A202_0, c202_0, e202, hx202_0, hl202_0, hi202_0⟩ := at_L6 (Kd.S_reads' HO_7.out).2.2 x9_1 p202 q202
                  cases e202
                  obtain ⟨ce202, hce202, hMe202, hcc202⟩ := Kd.S_get HO_7.out [] x9_1 p202 (by first | exact q202 | exact of_decide_eq_true (by first | (with_reducible assumption) | assumption) | (have e_ := (Kd.S_reads' HO_7.out).1; omega))
                  obtain ⟨ve202_0, rfl, ge202_0⟩ := hMe202
                  have hv202_0 := hcc202 0 _ rfl
                  rw [Nat.add_zero, show ((Kd.slice 4 Kd.bool)).sz = 1 from rfl, Nat.mul_one] at hv202_0
                  replace hv202_0 := Option.some.inj (hv202_0.symm.trans hx202_0)
                  rw [hv202_0] at ge202_0
                  have HL202_0 := Aside0.mk (show Kd.R Kd.bool 4 _ _ _ _ (rd_L6 t199 x9_1) from ge202_0)
                  clear hv202_0 ge202_0
                  clear hcc202 hce202
                  have HR202_0 := Aside0.mk hi202_0
                  have HC202_0 := Aside0.mk hl202_0
                  clear hi202_0 hl202_0
                  replace p202 := eq_true p202
                  replace q202 := eq_true q202
                  go_wp2
                  go_ret
                  exact ⟨by first | rfl | (simp [errW_none, errW_some] <;> rfl) | (simp only [← hji9, ← hji10]; first | rfl | (simp [errW_none, errW_some] <;> rfl)) | (simp [*, errW_none, errW_some] <;> rfl), by repeat (first | (with_reducible first | exact HB.out | apply below_alloc | apply pw_below_drewN | apply below_drew1 | refine below_set ?_ GE197.out) | exact HB.out)⟩
              · rw [if_neg c17] at H
                exact absurd H (by simp)
            · rw [if_neg c16] at H
              exact absurd H (by simp)
          · rw [if_neg c15] at H
            have c15b0 : decide (x9_1 < ji10) = false := decide_eq_false c15
            clear c15
            have HC36 := Aside0.mk H
            clear H
            go_upto_region 22 with (fail)
            go_cut [112] (fun v112 wc => ∃ (kq : Nat) (x112_35 : Bool), v112 = .bool x112_35 ∧ Aside0 (gueritelaw16_GuardReaches.j3 kq l0 t199 ji10 x112_35 a2_0 a2_1 a2_2 a2_3 a2_4 = some r) ∧ Aside0 (kq ≤ k1) ∧ Aside0 (Kd.S (Kd.slice 4 Kd.bool) 38 wc w.heap.size (fun _ => True) (.slice Ao14 t199.length co14) t199) ∧ Aside0 (wc.heap[gb197]? = some (.cells #[.int .i64 a2_0, .int .i64 a2_1, .int .i64 a2_2, .int .u32 a2_3, .int .u32 a2_4] 25 (0, 0))) ∧ Aside0 (Below w.heap.size w wc))
            case first =>
              have H := HC36.out
              clear HC36
              by_cases c37 : a2_1 < 0
              · rw [if_pos c37] at H
                have c37b0 : decide (a2_1 < 0) = true := decide_eq_true c37
                clear c37
                (first | rw [c37b0] | (simp only [i64_w, i32_w]; rw [c37b0]) | skip)
                have H' := Aside0.mk H
                clear H
                have hcz38_0 : wr.cell? ⟨gb197, 0, none⟩ = some (.int .i64 a2_0) := (blk_cell BK197.out 0).trans rfl
                have hcz38_1 : wr.cell? ⟨gb197, 1, none⟩ = some (.int .i64 a2_1) := (blk_cell BK197.out 1).trans rfl
                have hcz38_2 : wr.cell? ⟨gb197, 2, none⟩ = some (.int .i64 a2_2) := (blk_cell BK197.out 2).trans rfl
                have hcz38_3 : wr.cell? ⟨gb197, 3, none⟩ = some (.int .u32 a2_3) := (blk_cell BK197.out 3).trans rfl
                have hcz38_4 : wr.cell? ⟨gb197, 4, none⟩ = some (.int .u32 a2_4) := (blk_cell BK197.out 4).trans rfl
                have hfz38_0 := blk_frozen BK197.out 0
                have hfz38_1 := blk_frozen BK197.out 1
                have hfz38_2 := blk_frozen BK197.out 2
                have hfz38_3 := blk_frozen BK197.out 3
                have hfz38_4 := blk_frozen BK197.out 4
                go_wp2
                go_meet
                case rel => exact ⟨_, (true), (by first | rfl | (simp; done) | (simp [*]; done)), H', ⟨by have := HK1.out; first | omega | exact Nat.le_refl _⟩, ⟨by (with_reducible repeat (first | apply Kd.S_alloc | apply Kd.S_drewN | apply Kd.S_drew)); exact HO_7.out⟩, ⟨by (with_reducible repeat (first | refine blk_drewN ?_ _ | refine blk_drew ?_ | refine blk_alloc ?_ _)); exact BK197.out⟩, ⟨by repeat (first | (with_reducible first | exact HB.out | apply below_alloc | apply pw_below_drewN | apply below_drew1 | refine below_set ?_ GE197.out) | exact HB.out)⟩⟩
              · rw [if_neg c37] at H
                have c37b0 : decide (a2_1 < 0) = false := decide_eq_false c37
                clear c37
                (first | rw [c37b0] | (simp only [i64_w, i32_w]; rw [c37b0]) | skip)
                by_cases c39 : a2_1 ≥ ji10
                · rw [if_pos c39] at H
                  have c39b0 : decide (ji10 ≤ a2_1) = true := decide_eq_true c39
                  clear c39
                  have H' := Aside0.mk H
                  clear H
                  have hcz40_0 : wr.cell? ⟨gb197, 0, none⟩ = some (.int .i64 a2_0) := (blk_cell BK197.out 0).trans rfl
                  have hcz40_1 : wr.cell? ⟨gb197, 1, none⟩ = some (.int .i64 a2_1) := (blk_cell BK197.out 1).trans rfl
                  have hcz40_2 : wr.cell? ⟨gb197, 2, none⟩ = some (.int .i64 a2_2) := (blk_cell BK197.out 2).trans rfl
                  have hcz40_3 : wr.cell? ⟨gb197, 3, none⟩ = some (.int .u32 a2_3) := (blk_cell BK197.out 3).trans rfl
                  have hcz40_4 : wr.cell? ⟨gb197, 4, none⟩ = some (.int .u32 a2_4) := (blk_cell BK197.out 4).trans rfl
                  have hfz40_0 := blk_frozen BK197.out 0
                  have hfz40_1 := blk_frozen BK197.out 1
                  have hfz40_2 := blk_frozen BK197.out 2
                  have hfz40_3 := blk_frozen BK197.out 3
                  have hfz40_4 := blk_frozen BK197.out 4
                  go_wp2
                  go_meet
                  case rel => exact ⟨_, (true), (by first | rfl | (simp; done) | (simp [*]; done)), H', ⟨by have := HK1.out; first | omega | exact Nat.le_refl _⟩, ⟨by (with_reducible repeat (first | apply Kd.S_alloc | apply Kd.S_drewN | apply Kd.S_drew)); exact HO_7.out⟩, ⟨by (with_reducible repeat (first | refine blk_drewN ?_ _ | refine blk_drew ?_ | refine blk_alloc ?_ _)); exact BK197.out⟩, ⟨by repeat (first | (with_reducible first | exact HB.out | apply below_alloc | apply pw_below_drewN | apply below_drew1 | refine below_set ?_ GE197.out) | exact HB.out)⟩⟩
                · rw [if_neg c39] at H
                  have c39b0 : decide (ji10 ≤ a2_1) = false := decide_eq_false c39
                  clear c39
                  replace H := Option.bind_eq_some_iff.mp H
                  obtain ⟨t211, A410, H⟩ := H
                  replace H : (gueritelaw16_GuardReaches.j3 k1 l0 t199 ji10 (!t211) a2_0 a2_1 a2_2 a2_3 a2_4) = some r := H
                  have A41 := Aside0.mk A410
                  clear A410
                  have H' := Aside0.mk H
                  clear H
                  have hcz42_0 : wr.cell? ⟨gb197, 0, none⟩ = some (.int .i64 a2_0) := (blk_cell BK197.out 0).trans rfl
                  have hcz42_1 : wr.cell? ⟨gb197, 1, none⟩ = some (.int .i64 a2_1) := (blk_cell BK197.out 1).trans rfl
                  have hcz42_2 : wr.cell? ⟨gb197, 2, none⟩ = some (.int .i64 a2_2) := (blk_cell BK197.out 2).trans rfl
                  have hcz42_3 : wr.cell? ⟨gb197, 3, none⟩ = some (.int .u32 a2_3) := (blk_cell BK197.out 3).trans rfl
                  have hcz42_4 : wr.cell? ⟨gb197, 4, none⟩ = some (.int .u32 a2_4) := (blk_cell BK197.out 4).trans rfl
                  have hfz42_0 := blk_frozen BK197.out 0
                  have hfz42_1 := blk_frozen BK197.out 1
                  have hfz42_2 := blk_frozen BK197.out 2
                  have hfz42_3 := blk_frozen BK197.out 3
                  have hfz42_4 := blk_frozen BK197.out 4
                  go_wp2_with (first | (go_at_call 17; (with_reducible refine (guard_Right.calls ji10 _ _ l0 t211 _ ?side1 ?side2 A41.out).mono ?_); (case side1 => repeat (first | exact (Kd.C_below HR0.out HB.out) | (with_reducible refine Kd.C_alloc ?_ _) | (with_reducible refine Kd.C_drewN ?_ _) | (with_reducible refine Kd.C_drew ?_))); (case side2 => exact HC0.out); rintro e w43 ⟨rfl, hb⟩; have n0_ := Aside0.mk (Kd.S_below (by (with_reducible repeat (first | apply Kd.S_alloc | apply Kd.S_drewN | apply Kd.S_drew)); exact HO_7.out) hb); have n1_ := Aside0.mk (blk_below (g := gb197) (o := .cells #[.int .i64 a2_0, .int .i64 a2_1, .int .i64 a2_2, .int .u32 a2_3, .int .u32 a2_4] 25 (0, 0)) (by (with_reducible repeat (first | refine blk_drewN ?_ _ | refine blk_drew ?_ | refine blk_alloc ?_ _)); exact BK197.out) hb); have n2_ := Aside0.mk (below_step (by repeat (first | (with_reducible first | exact HB.out | apply below_alloc | apply pw_below_drewN | apply below_drew1 | refine below_set ?_ GE197.out) | exact HB.out)) hb); clear HO_7; clear BK197; clear HB; have HO_7 := n0_; have BK197 := n1_; have HB := n2_; clear n0_ n1_ n2_; (try clear hb); (try clear hb2); (try clear hk); (try clear hi)))
                  go_meet
                  case rel => exact ⟨_, (!t211), (by first | rfl | (simp; done) | (simp [*]; done)), H', ⟨by have := HK1.out; first | omega | exact Nat.le_refl _⟩, ⟨by (with_reducible repeat (first | apply Kd.S_alloc | apply Kd.S_drewN | apply Kd.S_drew)); exact HO_7.out⟩, ⟨by (with_reducible repeat (first | refine blk_drewN ?_ _ | refine blk_drew ?_ | refine blk_alloc ?_ _)); exact BK197.out⟩, ⟨by repeat (first | (with_reducible first | exact HB.out | apply below_alloc | apply pw_below_drewN | apply below_drew1 | refine below_set ?_ GE197.out) | exact HB.out)⟩⟩
            case rest =>
              clear HC36
              try clear c1
              try clear c2
              try clear p2
              try clear q2
              try clear hx2
              try clear c3
              try clear c4
              try clear c4b0
              try clear c4b1
              try clear c5
              try clear p6
              try clear c10
              try clear c11
              try clear c11b0
              try clear c11b1
              try clear c15
              try clear c15b0
              try clear c16
              try clear c16b0
              try clear c17
              try clear c17b0
              try clear c18
              try clear c18b0
              try clear c18b1
              try clear c19
              try clear c19b0
              try clear c20
              try clear c20b0
              try clear p20
              try clear q20
              try clear hx20
              try clear c21
              try clear p21
              try clear q21
              try clear hx21
              try clear c22
              try clear c22b0
              try clear c24
              try clear c25
              try clear c25b0
              try clear c25b1
              try clear c27
              try clear c27b0
              try clear c27b1
              try clear c31
              try clear c31b0
              try clear c32
              try clear c32b0
              try clear c33
              try clear c33b0
              try clear c34
              try clear c34b0
              try clear c35
              try clear c35b0
              try clear c35b1
              try clear c35b2
              try clear c37
              try clear c37b0
              try clear c39
              try clear c39b0
              try clear hcz38_0
              try clear hcz38_1
              try clear hcz38_2
              try clear hcz38_3
              try clear hcz38_4
              try clear hcz40_0
              try clear hcz40_1
              try clear hcz40_2
              try clear hcz40_3
              try clear hcz40_4
              try clear hcz42_0
              try clear hcz42_1
              try clear hcz42_2
              try clear hcz42_3
              try clear hcz42_4
              try clear hfz38_0
              try clear hfz38_1
              try clear hfz38_2
              try clear hfz38_3
              try clear hfz38_4
              try clear hfz40_0
              try clear hfz40_1
              try clear hfz40_2
              try clear hfz40_3
              try clear hfz40_4
              try clear hfz42_0
              try clear hfz42_1
              try clear hfz42_2
              try clear hfz42_3
              try clear hfz42_4
              try clear hx202_0
              try clear hx203_0
              try clear hx203_1
              try clear hx203_2
              try clear hx203_3
              try clear hx203_4
              try clear hx203_5
              try clear hx203_6
              try clear hx203_7
              try clear hx205_0
              try clear hx205_1
              try clear hx205_2
              try clear hx205_3
              try clear hx205_4
              try clear hx205_5
              try clear hx205_6
              try clear hx205_7
              try clear hx206_0
              try clear hx206_1
              try clear hx206_2
              try clear hx206_3
              try clear hx206_4
              try clear hx206_5
              try clear hx206_6
              try clear hx206_7
              try clear hx207_0
              try clear hx207_1
              try clear hx207_2
              try clear hx207_3
              try clear hx207_4
              try clear hx207_5
              try clear hx207_6
              try clear hx207_7
              try clear hx208_0
              try clear hx208_1
              try clear hx208_2
              try clear hx208_3
              try clear hx208_4
              try clear hx208_5
              try clear hx208_6
              try clear hx208_7
              try clear hx209_0
              try clear hx210_0
              try clear p2
              try clear p202
              try clear p203
              try clear p205
              try clear p206
              try clear p207
              try clear p208
              try clear p209
              try clear p210
              try clear q2
              try clear q202
              try clear q203
              try clear q205
              try clear q206
              try clear q207
              try clear q208
              try clear q209
              try clear q210
              obtain ⟨kq, x112_35, rfl, HA, HJ35, HO_7, BK197, HB⟩ := hcut
              cases kq with
              | zero => exact absurd HA.out (by simp [gueritelaw16_GuardReaches.j3])
              | succ kj35 =>
                have H := HA.out
                clear HA
                simp only [gueritelaw16_GuardReaches.j3] at H
                by_cases c44 : x112_35 = true
                · subst c44
                  have H1 : ((gueritelaw16_awake.f).bind fun t212 => (some t212)) = some r := by rw [if_pos rfl] at H; exact H
                  clear H
                  have H := H1
                  clear H1
                  replace H := Option.bind_eq_some_iff.mp H
                  obtain ⟨t212, A450, H⟩ := H
                  replace H : (some t212) = some r := H
                  have A45 := Aside0.mk A450
                  clear A450
                  obtain rfl := Option.some.inj H
                  go_wp2_with (first | ((with_reducible refine gate_callee (f := 10) rfl ?_); refine goesL_ (some 113) rfl rfl Try.func10 (by kernel_rfl) rfl #[] rfl (by (try simp only [List.map_toArray, List.map_cons, List.map_nil]); first | done | rfl | (simp only [List.length_drop, List.length_take]; rfl)) ?_; (with_reducible refine (gueritelaw16_awake.calls  t212 _ A45.out).mono ?_); rintro e w46 ⟨rfl, hb⟩; refine ⟨_, rfl, ?_⟩; have n0_ := Aside0.mk (Kd.S_below (by (with_reducible repeat (first | apply Kd.S_alloc | apply Kd.S_drewN | apply Kd.S_drew)); exact HO_7.out) hb); have n1_ := Aside0.mk (blk_below (g := gb197) (o := .cells #[.int .i64 a2_0, .int .i64 a2_1, .int .i64 a2_2, .int .u32 a2_3, .int .u32 a2_4] 25 (0, 0)) (by (with_reducible repeat (first | refine blk_drewN ?_ _ | refine blk_drew ?_ | refine blk_alloc ?_ _)); exact BK197.out) hb); have n2_ := Aside0.mk (below_step (by repeat (first | (with_reducible first | exact HB.out | apply below_alloc | apply pw_below_drewN | apply below_drew1 | refine below_set ?_ GE197.out) | exact HB.out)) hb); clear HO_7; clear BK197; clear HB; have HO_7 := n0_; have BK197 := n1_; have HB := n2_; clear n0_ n1_ n2_; (try clear hb); (try clear hb2); (try clear hk); (try clear hi)))
                  go_ret
                  exact ⟨by first | rfl | (simp [errW_none, errW_some] <;> rfl) | (simp only [← hji9, ← hji10]; first | rfl | (simp [errW_none, errW_some] <;> rfl)) | (simp [*, errW_none, errW_some] <;> rfl), by repeat (first | (with_reducible first | exact HB.out | apply below_alloc | apply pw_below_drewN | apply below_drew1 | refine below_set ?_ GE197.out) | exact HB.out)⟩
                · replace c44 := Bool.eq_false_iff.mpr c44
                  subst c44
                  have H1 : ((guard_To.f l0 a2_0 a2_1 a2_2 a2_3 a2_4).bind fun t213 => (if t213 ≥ 0 then (if t213 < ji10 then (if 0 ≤ a2_1 then (if a2_1 < (t199.length : Int) then (if 0 ≤ t213 then (if t213 < ((rd_L6 t199 a2_1).length : Int) then (if rdOf false (rd_L6 t199 a2_1) t213 = true then ((gueritelaw16_awake.f).bind fun t216 => (some t216)) else (some false)) else (none)) else (none)) else (none)) else (none)) else (some false)) else (some false))) = some r := by rw [if_neg (show ¬ (false = true) by decide)] at H; exact H
                  clear H
                  have H := H1
                  clear H1
                  replace H := Option.bind_eq_some_iff.mp H
                  obtain ⟨t213, A470, H⟩ := H
                  replace H : (if t213 ≥ 0 then (if t213 < ji10 then (if 0 ≤ a2_1 then (if a2_1 < (t199.length : Int) then (if 0 ≤ t213 then (if t213 < ((rd_L6 t199 a2_1).length : Int) then (if rdOf false (rd_L6 t199 a2_1) t213 = true then ((gueritelaw16_awake.f).bind fun t216 => (some t216)) else (some false)) else (none)) else (none)) else (none)) else (none)) else (some false)) else (some false)) = some r := H
                  have A47 := Aside0.mk A470
                  clear A470
                  by_cases c48 : t213 ≥ 0
                  · rw [if_pos c48] at H
                    have c48b0 : decide (0 ≤ t213) = true := decide_eq_true c48
                    clear c48
                    by_cases c49 : t213 < ji10
                    · rw [if_pos c49] at H
                      have c49b0 : decide (t213 < ji10) = true := decide_eq_true c49
                      clear c49
                      by_cases c50 : 0 ≤ a2_1
                      · rw [if_pos c50] at H
                        have c50b0 : decide (0 ≤ a2_1) = true := decide_eq_true c50
                        clear c50
                        by_cases c51 : a2_1 < (t199.length : Int)
                        · rw [if_pos c51] at H
                          have c51b0 : decide (a2_1 < (t199.length : Int)) = true := decide_eq_true c51
                          clear c51
                          by_cases c52 : 0 ≤ t213
                          · rw [if_pos c52] at H
                            have c52b0 : decide (0 ≤ t213) = true := decide_eq_true c52
                            clear c52
                            by_cases c53 : t213 < ((rd_L6 t199 a2_1).length : Int)
                            · rw [if_pos c53] at H
                              have c53b0 : decide (t213 < ((rd_L6 t199 a2_1).length : Int)) = true := decide_eq_true c53
                              clear c53
                              obtain ⟨bq54, hbq54⟩ : ∃ b_ : Bool, b_ = (rdOf false (rd_L6 t199 a2_1) t213) := ⟨_, rfl⟩
                              replace H : (if bq54 = true then ((gueritelaw16_awake.f).bind fun t216 => (some t216)) else (some false)) = some r := by rw [← hbq54] at H; exact H
                              have Nbq54 := Aside0.mk hbq54
                              clear hbq54
                              by_cases c55 : bq54 = true
                              · subst c55
                                have H1 : ((gueritelaw16_awake.f).bind fun t216 => (some t216)) = some r := by rw [if_pos rfl] at H; exact H
                                clear H
                                have H := H1
                                clear H1
                                replace H := Option.bind_eq_some_iff.mp H
                                obtain ⟨t216, A560, H⟩ := H
                                replace H : (some t216) = some r := H
                                have A56 := Aside0.mk A560
                                clear A560
                                obtain rfl := Option.some.inj H
                                have hcz57_0 : wc.cell? ⟨gb197, 0, none⟩ = some (.int .i64 a2_0) := (blk_cell BK197.out 0).trans rfl
                                have hcz57_1 : wc.cell? ⟨gb197, 1, none⟩ = some (.int .i64 a2_1) := (blk_cell BK197.out 1).trans rfl
                                have hcz57_2 : wc.cell? ⟨gb197, 2, none⟩ = some (.int .i64 a2_2) := (blk_cell BK197.out 2).trans rfl
                                have hcz57_3 : wc.cell? ⟨gb197, 3, none⟩ = some (.int .u32 a2_3) := (blk_cell BK197.out 3).trans rfl
                                have hcz57_4 : wc.cell? ⟨gb197, 4, none⟩ = some (.int .u32 a2_4) := (blk_cell BK197.out 4).trans rfl
                                have hfz57_0 := blk_frozen BK197.out 0
                                have hfz57_1 := blk_frozen BK197.out 1
                                have hfz57_2 := blk_frozen BK197.out 2
                                have hfz57_3 := blk_frozen BK197.out 3
                                have hfz57_4 := blk_frozen BK197.out 4
                                go_wp2_with (first | ((with_reducible refine gate_callee (f := 15) rfl ?_); refine goesL_ (some 125) rfl rfl Try.func15 (by kernel_rfl) rfl #[.slice A0 l0.length c0, .int .i64 a2_0, .int .i64 a2_1, .int .i64 a2_2, .int .u32 a2_3, .int .u32 a2_4] rfl (by (try simp only [List.map_toArray, List.map_cons, List.map_nil]); first | done | rfl | (simp only [List.length_drop, List.length_take]; rfl)) ?_; (with_reducible refine (guard_To.calls _ _ l0 a2_0 a2_1 a2_2 a2_3 a2_4 t213 _ ?side1 ?side2 A47.out).mono ?_); (case side1 => repeat (first | exact (Kd.C_below HR0.out HB.out) | (with_reducible refine Kd.C_alloc ?_ _) | (with_reducible refine Kd.C_drewN ?_ _) | (with_reducible refine Kd.C_drew ?_))); (case side2 => exact HC0.out); rintro e w58 ⟨rfl, hb⟩; refine ⟨_, rfl, ?_⟩; have n0_ := Aside0.mk (Kd.S_below (by (with_reducible repeat (first | apply Kd.S_alloc | apply Kd.S_drewN | apply Kd.S_drew)); exact HO_7.out) hb); have n1_ := Aside0.mk (blk_below (g := gb197) (o := .cells #[.int .i64 a2_0, .int .i64 a2_1, .int .i64 a2_2, .int .u32 a2_3, .int .u32 a2_4] 25 (0, 0)) (by (with_reducible repeat (first | refine blk_drewN ?_ _ | refine blk_drew ?_ | refine blk_alloc ?_ _)); exact BK197.out) hb); have n2_ := Aside0.mk (below_step (by repeat (first | (with_reducible first | exact HB.out | apply below_alloc | apply pw_below_drewN | apply below_drew1 | refine below_set ?_ GE197.out) | exact HB.out)) hb); clear HO_7; clear BK197; clear HB; have HO_7 := n0_; have BK197 := n1_; have HB := n2_; clear n0_ n1_ n2_; (try clear hb); (try clear hb2); (try clear hk); (try clear hi); have hcz59_0 : w58.cell? ⟨gb197, 0, none⟩ = some (.int .i64 a2_0) := (blk_cell BK197.out 0).trans rfl; have hcz59_1 : w58.cell? ⟨gb197, 1, none⟩ = some (.int .i64 a2_1) := (blk_cell BK197.out 1).trans rfl; have hcz59_2 : w58.cell? ⟨gb197, 2, none⟩ = some (.int .i64 a2_2) := (blk_cell BK197.out 2).trans rfl; have hcz59_3 : w58.cell? ⟨gb197, 3, none⟩ = some (.int .u32 a2_3) := (blk_cell BK197.out 3).trans rfl; have hcz59_4 : w58.cell? ⟨gb197, 4, none⟩ = some (.int .u32 a2_4) := (blk_cell BK197.out 4).trans rfl; have hfz59_0 := blk_frozen BK197.out 0; have hfz59_1 := blk_frozen BK197.out 1; have hfz59_2 := blk_frozen BK197.out 2; have hfz59_3 := blk_frozen BK197.out 3; have hfz59_4 := blk_frozen BK197.out 4; have p214 : 0 ≤ (a2_1 : Int) := of_decide_eq_true (by first | (with_reducible assumption) | assumption); have q214 : a2_1 < (t199.length : Int) := of_decide_eq_true (by first | (with_reducible assumption) | assumption); obtain ⟨ad214, A214_0, c214_0, e214, hx214_0, hl214_0, hi214_0⟩ := at_L6 (Kd.S_reads' HO_7.out).2.2 a2_1 p214 q214; cases e214; obtain ⟨ce214, hce214, hMe214, hcc214⟩ := Kd.S_get HO_7.out [] a2_1 p214 (by first | exact q214 | exact of_decide_eq_true (by first | (with_reducible assumption) | assumption) | (have e_ := (Kd.S_reads' HO_7.out).1; omega)); obtain ⟨ve214_0, rfl, ge214_0⟩ := hMe214; have hv214_0 := hcc214 0 _ rfl; rw [Nat.add_zero, show ((Kd.slice 4 Kd.bool)).sz = 1 from rfl, Nat.mul_one] at hv214_0; replace hv214_0 := Option.some.inj (hv214_0.symm.trans hx214_0); rw [hv214_0] at ge214_0; have HL214_0 := Aside0.mk (show Kd.R Kd.bool 4 _ _ _ _ (rd_L6 t199 a2_1) from ge214_0); clear hv214_0 ge214_0; clear hcc214 hce214; have HR214_0 := Aside0.mk hi214_0; have HC214_0 := Aside0.mk hl214_0; clear hi214_0 hl214_0; replace p214 := eq_true p214; replace q214 := eq_true q214; have p215 : 0 ≤ (t213 : Int) := of_decide_eq_true (by first | (with_reducible assumption) | assumption); have q215 : t213 < ((rd_L6 t199 a2_1).length : Int) := of_decide_eq_true (by first | (with_reducible assumption) | assumption); obtain ⟨ad215, e215, hx215_0⟩ := Kd.at_bool (by repeat (first | (with_reducible exact HR214_0.out) | (with_reducible refine Kd.C_alloc ?_ _) | (with_reducible refine Kd.C_drewN ?_ _) | (with_reducible refine Kd.C_drew ?_) | exact HR214_0.out)) t213 p215 q215; (try rw [← Nbq54.out] at hx215_0); cases e215; replace p215 := eq_true p215; replace q215 := eq_true q215) | (go_at_call 10; (with_reducible refine (gueritelaw16_awake.calls  t216 _ A56.out).mono ?_); rintro e w60 ⟨rfl, hb⟩; have n0_ := Aside0.mk (Kd.S_below (by (with_reducible repeat (first | apply Kd.S_alloc | apply Kd.S_drewN | apply Kd.S_drew)); exact HO_7.out) hb); have n1_ := Aside0.mk (Kd.R_below (by (with_reducible repeat (first | apply Kd.R_alloc | apply Kd.R_drewN | apply Kd.R_drew)); exact HL214_0.out) hb); have n2_ := Aside0.mk (blk_below (g := gb197) (o := .cells #[.int .i64 a2_0, .int .i64 a2_1, .int .i64 a2_2, .int .u32 a2_3, .int .u32 a2_4] 25 (0, 0)) (by (with_reducible repeat (first | refine blk_drewN ?_ _ | refine blk_drew ?_ | refine blk_alloc ?_ _)); exact BK197.out) hb); have n3_ := Aside0.mk (Kd.C_below (by repeat (first | (with_reducible exact HR214_0.out) | (with_reducible refine Kd.C_alloc ?_ _) | (with_reducible refine Kd.C_drewN ?_ _) | (with_reducible refine Kd.C_drew ?_) | exact HR214_0.out)) hb); have n4_ := Aside0.mk (below_step (by repeat (first | (with_reducible first | exact HB.out | apply below_alloc | apply pw_below_drewN | apply below_drew1 | refine below_set ?_ GE197.out) | exact HB.out)) hb); clear HO_7; clear HL214_0; clear BK197; clear HR214_0; clear HB; have HO_7 := n0_; have HL214_0 := n1_; have BK197 := n2_; have HR214_0 := n3_; have HB := n4_; clear n0_ n1_ n2_ n3_ n4_; (try clear hb); (try clear hb2); (try clear hk); (try clear hi)))
                                go_ret
                                exact ⟨by first | rfl | (simp [errW_none, errW_some] <;> rfl) | (simp only [← hji9, ← hji10]; first | rfl | (simp [errW_none, errW_some] <;> rfl)) | (simp [*, errW_none, errW_some] <;> rfl), by repeat (first | (with_reducible first | exact HB.out | apply below_alloc | apply pw_below_drewN | apply below_drew1 | refine below_set ?_ GE197.out) | exact HB.out)⟩
                              · replace c55 := Bool.eq_false_iff.mpr c55
                                subst c55
                                have H1 : (some false) = some r := by rw [if_neg (show ¬ (false = true) by decide)] at H; exact H
                                clear H
                                have H := H1
                                clear H1
                                obtain rfl := Option.some.inj H
                                have hcz61_0 : wc.cell? ⟨gb197, 0, none⟩ = some (.int .i64 a2_0) := (blk_cell BK197.out 0).trans rfl
                                have hcz61_1 : wc.cell? ⟨gb197, 1, none⟩ = some (.int .i64 a2_1) := (blk_cell BK197.out 1).trans rfl
                                have hcz61_2 : wc.cell? ⟨gb197, 2, none⟩ = some (.int .i64 a2_2) := (blk_cell BK197.out 2).trans rfl
                                have hcz61_3 : wc.cell? ⟨gb197, 3, none⟩ = some (.int .u32 a2_3) := (blk_cell BK197.out 3).trans rfl
                                have hcz61_4 : wc.cell? ⟨gb197, 4, none⟩ = some (.int .u32 a2_4) := (blk_cell BK197.out 4).trans rfl
                                have hfz61_0 := blk_frozen BK197.out 0
                                have hfz61_1 := blk_frozen BK197.out 1
                                have hfz61_2 := blk_frozen BK197.out 2
                                have hfz61_3 := blk_frozen BK197.out 3
                                have hfz61_4 := blk_frozen BK197.out 4
                                go_wp2_with (first | ((with_reducible refine gate_callee (f := 15) rfl ?_); refine goesL_ (some 125) rfl rfl Try.func15 (by kernel_rfl) rfl #[.slice A0 l0.length c0, .int .i64 a2_0, .int .i64 a2_1, .int .i64 a2_2, .int .u32 a2_3, .int .u32 a2_4] rfl (by (try simp only [List.map_toArray, List.map_cons, List.map_nil]); first | done | rfl | (simp only [List.length_drop, List.length_take]; rfl)) ?_; (with_reducible refine (guard_To.calls _ _ l0 a2_0 a2_1 a2_2 a2_3 a2_4 t213 _ ?side1 ?side2 A47.out).mono ?_); (case side1 => repeat (first | exact (Kd.C_below HR0.out HB.out) | (with_reducible refine Kd.C_alloc ?_ _) | (with_reducible refine Kd.C_drewN ?_ _) | (with_reducible refine Kd.C_drew ?_))); (case side2 => exact HC0.out); rintro e w62 ⟨rfl, hb⟩; refine ⟨_, rfl, ?_⟩; have n0_ := Aside0.mk (Kd.S_below (by (with_reducible repeat (first | apply Kd.S_alloc | apply Kd.S_drewN | apply Kd.S_drew)); exact HO_7.out) hb); have n1_ := Aside0.mk (blk_below (g := gb197) (o := .cells #[.int .i64 a2_0, .int .i64 a2_1, .int .i64 a2_2, .int .u32 a2_3, .int .u32 a2_4] 25 (0, 0)) (by (with_reducible repeat (first | refine blk_drewN ?_ _ | refine blk_drew ?_ | refine blk_alloc ?_ _)); exact BK197.out) hb); have n2_ := Aside0.mk (below_step (by repeat (first | (with_reducible first | exact HB.out | apply below_alloc | apply pw_below_drewN | apply below_drew1 | refine below_set ?_ GE197.out) | exact HB.out)) hb); clear HO_7; clear BK197; clear HB; have HO_7 := n0_; have BK197 := n1_; have HB := n2_; clear n0_ n1_ n2_; (try clear hb); (try clear hb2); (try clear hk); (try clear hi); have hcz63_0 : w62.cell? ⟨gb197, 0, none⟩ = some (.int .i64 a2_0) := (blk_cell BK197.out 0).trans rfl; have hcz63_1 : w62.cell? ⟨gb197, 1, none⟩ = some (.int .i64 a2_1) := (blk_cell BK197.out 1).trans rfl; have hcz63_2 : w62.cell? ⟨gb197, 2, none⟩ = some (.int .i64 a2_2) := (blk_cell BK197.out 2).trans rfl; have hcz63_3 : w62.cell? ⟨gb197, 3, none⟩ = some (.int .u32 a2_3) := (blk_cell BK197.out 3).trans rfl; have hcz63_4 : w62.cell? ⟨gb197, 4, none⟩ = some (.int .u32 a2_4) := (blk_cell BK197.out 4).trans rfl; have hfz63_0 := blk_frozen BK197.out 0; have hfz63_1 := blk_frozen BK197.out 1; have hfz63_2 := blk_frozen BK197.out 2; have hfz63_3 := blk_frozen BK197.out 3; have hfz63_4 := blk_frozen BK197.out 4; have p214 : 0 ≤ (a2_1 : Int) := of_decide_eq_true (by first | (with_reducible assumption) | assumption); have q214 : a2_1 < (t199.length : Int) := of_decide_eq_true (by first | (with_reducible assumption) | assumption); obtain ⟨ad214, A214_0, c214_0, e214, hx214_0, hl214_0, hi214_0⟩ := at_L6 (Kd.S_reads' HO_7.out).2.2 a2_1 p214 q214; cases e214; obtain ⟨ce214, hce214, hMe214, hcc214⟩ := Kd.S_get HO_7.out [] a2_1 p214 (by first | exact q214 | exact of_decide_eq_true (by first | (with_reducible assumption) | assumption) | (have e_ := (Kd.S_reads' HO_7.out).1; omega)); obtain ⟨ve214_0, rfl, ge214_0⟩ := hMe214; have hv214_0 := hcc214 0 _ rfl; rw [Nat.add_zero, show ((Kd.slice 4 Kd.bool)).sz = 1 from rfl, Nat.mul_one] at hv214_0; replace hv214_0 := Option.some.inj (hv214_0.symm.trans hx214_0); rw [hv214_0] at ge214_0; have HL214_0 := Aside0.mk (show Kd.R Kd.bool 4 _ _ _ _ (rd_L6 t199 a2_1) from ge214_0); clear hv214_0 ge214_0; clear hcc214 hce214; have HR214_0 := Aside0.mk hi214_0; have HC214_0 := Aside0.mk hl214_0; clear hi214_0 hl214_0; replace p214 := eq_true p214; replace q214 := eq_true q214; have p215 : 0 ≤ (t213 : Int) := of_decide_eq_true (by first | (with_reducible assumption) | assumption); have q215 : t213 < ((rd_L6 t199 a2_1).length : Int) := of_decide_eq_true (by first | (with_reducible assumption) | assumption); obtain ⟨ad215, e215, hx215_0⟩ := Kd.at_bool (by repeat (first | (with_reducible exact HR214_0.out) | (with_reducible refine Kd.C_alloc ?_ _) | (with_reducible refine Kd.C_drewN ?_ _) | (with_reducible refine Kd.C_drew ?_) | exact HR214_0.out)) t213 p215 q215; (try rw [← Nbq54.out] at hx215_0); cases e215; replace p215 := eq_true p215; replace q215 := eq_true q215))
                                go_ret
                                exact ⟨by first | rfl | (simp [errW_none, errW_some] <;> rfl) | (simp only [← hji9, ← hji10]; first | rfl | (simp [errW_none, errW_some] <;> rfl)) | (simp [*, errW_none, errW_some] <;> rfl), by repeat (first | (with_reducible first | exact HB.out | apply below_alloc | apply pw_below_drewN | apply below_drew1 | refine below_set ?_ GE197.out) | exact HB.out)⟩
                            · rw [if_neg c53] at H
                              exact absurd H (by simp)
                          · rw [if_neg c52] at H
                            exact absurd H (by simp)
                        · rw [if_neg c51] at H
                          exact absurd H (by simp)
                      · rw [if_neg c50] at H
                        exact absurd H (by simp)
                    · rw [if_neg c49] at H
                      have c49b0 : decide (t213 < ji10) = false := decide_eq_false c49
                      clear c49
                      obtain rfl := Option.some.inj H
                      have hcz64_0 : wc.cell? ⟨gb197, 0, none⟩ = some (.int .i64 a2_0) := (blk_cell BK197.out 0).trans rfl
                      have hcz64_1 : wc.cell? ⟨gb197, 1, none⟩ = some (.int .i64 a2_1) := (blk_cell BK197.out 1).trans rfl
                      have hcz64_2 : wc.cell? ⟨gb197, 2, none⟩ = some (.int .i64 a2_2) := (blk_cell BK197.out 2).trans rfl
                      have hcz64_3 : wc.cell? ⟨gb197, 3, none⟩ = some (.int .u32 a2_3) := (blk_cell BK197.out 3).trans rfl
                      have hcz64_4 : wc.cell? ⟨gb197, 4, none⟩ = some (.int .u32 a2_4) := (blk_cell BK197.out 4).trans rfl
                      have hfz64_0 := blk_frozen BK197.out 0
                      have hfz64_1 := blk_frozen BK197.out 1
                      have hfz64_2 := blk_frozen BK197.out 2
                      have hfz64_3 := blk_frozen BK197.out 3
                      have hfz64_4 := blk_frozen BK197.out 4
                      go_wp2_with (first | ((with_reducible refine gate_callee (f := 15) rfl ?_); refine goesL_ (some 125) rfl rfl Try.func15 (by kernel_rfl) rfl #[.slice A0 l0.length c0, .int .i64 a2_0, .int .i64 a2_1, .int .i64 a2_2, .int .u32 a2_3, .int .u32 a2_4] rfl (by (try simp only [List.map_toArray, List.map_cons, List.map_nil]); first | done | rfl | (simp only [List.length_drop, List.length_take]; rfl)) ?_; (with_reducible refine (guard_To.calls _ _ l0 a2_0 a2_1 a2_2 a2_3 a2_4 t213 _ ?side1 ?side2 A47.out).mono ?_); (case side1 => repeat (first | exact (Kd.C_below HR0.out HB.out) | (with_reducible refine Kd.C_alloc ?_ _) | (with_reducible refine Kd.C_drewN ?_ _) | (with_reducible refine Kd.C_drew ?_))); (case side2 => exact HC0.out); rintro e w65 ⟨rfl, hb⟩; refine ⟨_, rfl, ?_⟩; have n0_ := Aside0.mk (Kd.S_below (by (with_reducible repeat (first | apply Kd.S_alloc | apply Kd.S_drewN | apply Kd.S_drew)); exact HO_7.out) hb); have n1_ := Aside0.mk (blk_below (g := gb197) (o := .cells #[.int .i64 a2_0, .int .i64 a2_1, .int .i64 a2_2, .int .u32 a2_3, .int .u32 a2_4] 25 (0, 0)) (by (with_reducible repeat (first | refine blk_drewN ?_ _ | refine blk_drew ?_ | refine blk_alloc ?_ _)); exact BK197.out) hb); have n2_ := Aside0.mk (below_step (by repeat (first | (with_reducible first | exact HB.out | apply below_alloc | apply pw_below_drewN | apply below_drew1 | refine below_set ?_ GE197.out) | exact HB.out)) hb); clear HO_7; clear BK197; clear HB; have HO_7 := n0_; have BK197 := n1_; have HB := n2_; clear n0_ n1_ n2_; (try clear hb); (try clear hb2); (try clear hk); (try clear hi)))
                      go_ret
                      exact ⟨by first | rfl | (simp [errW_none, errW_some] <;> rfl) | (simp only [← hji9, ← hji10]; first | rfl | (simp [errW_none, errW_some] <;> rfl)) | (simp [*, errW_none, errW_some] <;> rfl), by repeat (first | (with_reducible first | exact HB.out | apply below_alloc | apply pw_below_drewN | apply below_drew1 | refine below_set ?_ GE197.out) | exact HB.out)⟩
                  · rw [if_neg c48] at H
                    have c48b0 : decide (0 ≤ t213) = false := decide_eq_false c48
                    clear c48
                    obtain rfl := Option.some.inj H
                    have hcz66_0 : wc.cell? ⟨gb197, 0, none⟩ = some (.int .i64 a2_0) := (blk_cell BK197.out 0).trans rfl
                    have hcz66_1 : wc.cell? ⟨gb197, 1, none⟩ = some (.int .i64 a2_1) := (blk_cell BK197.out 1).trans rfl
                    have hcz66_2 : wc.cell? ⟨gb197, 2, none⟩ = some (.int .i64 a2_2) := (blk_cell BK197.out 2).trans rfl
                    have hcz66_3 : wc.cell? ⟨gb197, 3, none⟩ = some (.int .u32 a2_3) := (blk_cell BK197.out 3).trans rfl
                    have hcz66_4 : wc.cell? ⟨gb197, 4, none⟩ = some (.int .u32 a2_4) := (blk_cell BK197.out 4).trans rfl
                    have hfz66_0 := blk_frozen BK197.out 0
                    have hfz66_1 := blk_frozen BK197.out 1
                    have hfz66_2 := blk_frozen BK197.out 2
                    have hfz66_3 := blk_frozen BK197.out 3
                    have hfz66_4 := blk_frozen BK197.out 4
                    go_wp2_with (first | ((with_reducible refine gate_callee (f := 15) rfl ?_); refine goesL_ (some 125) rfl rfl Try.func15 (by kernel_rfl) rfl #[.slice A0 l0.length c0, .int .i64 a2_0, .int .i64 a2_1, .int .i64 a2_2, .int .u32 a2_3, .int .u32 a2_4] rfl (by (try simp only [List.map_toArray, List.map_cons, List.map_nil]); first | done | rfl | (simp only [List.length_drop, List.length_take]; rfl)) ?_; (with_reducible refine (guard_To.calls _ _ l0 a2_0 a2_1 a2_2 a2_3 a2_4 t213 _ ?side1 ?side2 A47.out).mono ?_); (case side1 => repeat (first | exact (Kd.C_below HR0.out HB.out) | (with_reducible refine Kd.C_alloc ?_ _) | (with_reducible refine Kd.C_drewN ?_ _) | (with_reducible refine Kd.C_drew ?_))); (case side2 => exact HC0.out); rintro e w67 ⟨rfl, hb⟩; refine ⟨_, rfl, ?_⟩; have n0_ := Aside0.mk (Kd.S_below (by (with_reducible repeat (first | apply Kd.S_alloc | apply Kd.S_drewN | apply Kd.S_drew)); exact HO_7.out) hb); have n1_ := Aside0.mk (blk_below (g := gb197) (o := .cells #[.int .i64 a2_0, .int .i64 a2_1, .int .i64 a2_2, .int .u32 a2_3, .int .u32 a2_4] 25 (0, 0)) (by (with_reducible repeat (first | refine blk_drewN ?_ _ | refine blk_drew ?_ | refine blk_alloc ?_ _)); exact BK197.out) hb); have n2_ := Aside0.mk (below_step (by repeat (first | (with_reducible first | exact HB.out | apply below_alloc | apply pw_below_drewN | apply below_drew1 | refine below_set ?_ GE197.out) | exact HB.out)) hb); clear HO_7; clear BK197; clear HB; have HO_7 := n0_; have BK197 := n1_; have HB := n2_; clear n0_ n1_ n2_; (try clear hb); (try clear hb2); (try clear hk); (try clear hi)))
                    go_ret
                    exact ⟨by first | rfl | (simp [errW_none, errW_some] <;> rfl) | (simp only [← hji9, ← hji10]; first | rfl | (simp [errW_none, errW_some] <;> rfl)) | (simp [*, errW_none, errW_some] <;> rfl), by repeat (first | (with_reducible first | exact HB.out | apply below_alloc | apply pw_below_drewN | apply below_drew1 | refine below_set ?_ GE197.out) | exact HB.out)⟩
    · rw [if_neg c11] at H
      have c11b0 : ((t199.length : Int) == (ji10)) = false := beq_eq_false_iff_ne.mpr c11
      have c11b1 : ((t199.length : Int) != (ji10)) = true := bne_iff_ne.mpr c11
      obtain rfl := Option.some.inj H
      go_enter Try.func5, Try.ntmps5
      go_wp2_with (first | ((with_reducible refine gate_dst (N := 5) rfl ?_); refine box_event ?hg (N := 5) ?hd (cs := #[.int .i64 a2_0, .int .i64 a2_1, .int .i64 a2_2, .int .u32 a2_3, .int .u32 a2_4]) (t := 25) ?hr ?_; (case hd => rfl); (case hg => rfl); (case hr => first | (go_simp; done) | (go_simp; rfl)); intro gb197 hg w68 hbox hb; have n0_ := Aside0.mk (below_step (by repeat (first | (with_reducible first | exact HB.out | apply below_alloc | apply pw_below_drewN | apply below_drew1) | exact HB.out)) hb); have n1_ := Aside0.mk (hbox); have n2_ := Aside0.mk ((by rw [hg]; exact (below_size (by repeat (first | (with_reducible first | exact HB.out | apply below_alloc | apply pw_below_drewN | apply below_drew1) | exact HB.out))) : w.heap.size ≤ gb197)); have n3_ := Aside0.mk ((by rw [hg]; exact (below_size (by repeat (first | (with_reducible first | exact HB.out | apply below_alloc | apply pw_below_drewN | apply below_drew1) | exact HB.out))) : w.heap.size ≤ gb197)); clear HB; have HB := n0_; have BK197 := n1_; have GW197 := n2_; have GE197 := n3_; clear n0_ n1_ n2_ n3_; clear hb hbox hg) | ((with_reducible refine gate_callee (f := 18) rfl ?_); refine goesL_ (some 20) rfl rfl Try.func18 (by kernel_rfl) rfl #[.slice A0 l0.length c0, .int .i64 a1] rfl (by (try simp only [List.map_toArray, List.map_cons, List.map_nil]); first | done | rfl | (simp only [List.length_drop, List.length_take]; rfl)) ?_; (with_reducible refine (guard_Reach.calls k _ _ l0 a1 t199 _ ?side1 ?side2 A8.out).mono ?_); (case side1 => repeat (first | exact (Kd.C_below HR0.out HB.out) | (with_reducible refine Kd.C_alloc ?_ _) | (with_reducible refine Kd.C_drewN ?_ _) | (with_reducible refine Kd.C_drew ?_))); (case side2 => exact HC0.out); rintro e w69 ⟨v200, rfl, ho0, hb⟩; refine ⟨_, rfl, ?_⟩; have n0_ := Aside0.mk (Kd.S_lower ho0 (below_size (by repeat (first | (with_reducible first | exact HB.out | apply below_alloc | apply pw_below_drewN | apply below_drew1 | refine below_set ?_ GE197.out) | exact HB.out)))); have n1_ := Aside0.mk (blk_below (g := gb197) (o := .cells #[.int .i64 a2_0, .int .i64 a2_1, .int .i64 a2_2, .int .u32 a2_3, .int .u32 a2_4] 25 (0, 0)) (by (with_reducible repeat (first | refine blk_drewN ?_ _ | refine blk_drew ?_ | refine blk_alloc ?_ _)); exact BK197.out) hb); have n2_ := Aside0.mk (below_step (by repeat (first | (with_reducible first | exact HB.out | apply below_alloc | apply pw_below_drewN | apply below_drew1 | refine below_set ?_ GE197.out) | exact HB.out)) hb); clear BK197; clear HB; have HO201 := n0_; have BK197 := n1_; have HB := n2_; clear n0_ n1_ n2_; (try clear hb); (try clear hb2); (try clear hk); (try clear hi); (try clear ho0); obtain ⟨Ao70, co70, eo70⟩ := Kd.S_slice HO201.out; subst eo70))
      go_ret
      exact ⟨by first | rfl | (simp [errW_none, errW_some] <;> rfl) | (simp only [← hji9, ← hji10]; first | rfl | (simp [errW_none, errW_some] <;> rfl)) | (simp [*, errW_none, errW_some] <;> rfl), by repeat (first | (with_reducible first | exact HB.out | apply below_alloc | apply pw_below_drewN | apply below_drew1 | refine below_set ?_ GE197.out) | exact HB.out)⟩

end Go.Proofs.Ytakfnghakbjncaa.P
