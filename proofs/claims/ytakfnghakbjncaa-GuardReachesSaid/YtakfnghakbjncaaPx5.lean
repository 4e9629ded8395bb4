-- Written by a program of this session (xprint.py), over the kit's print; not trusted: Lean checks it.
import Derived.Test.YtakfnghakbjncaaPx0
import Derived.Test.YtakfnghakbjncaaPx4
import Derived.Test.YtakfnghakbjncaaG1
namespace Go.Proofs.Ytakfnghakbjncaa.P
open Go.RowKit Go.Proofs.YtakfnghakbjncaaW.PrintWords Go.Proofs.YtakfnghakbjncaaW.PrintLast Go.Proofs.YtakfnghakbjncaaW.PrintMore
attribute [local go_sem] max2_int min2_int max_two min_two max_three min_three max_four min_four   -- for this text's walks alone
set_option linter.unusedVariables false
set_option linter.unusedSimpArgs false

-- EXTERN 17 (guard_Right)

/-! ### gueritelaw16_awake: function 10 -/
def gueritelaw16_awake.f  : Option (Bool) := (some (([(⟨0, 1, (⟨0, 0⟩ : S29), (⟨167772160, 8⟩ : S29), (-1), 0⟩ : S31)] : List (S31)) : List (S31))).bind fun y117 => ((guard_To.f y117 0 1 6 1 167772161).bind fun t120 => (if t120 = 0 then ((guard_To.f y117 1 1 6 1 167772161).bind fun t121 => (if t121 = 1 then ((guard_Right.f 2 y117).bind fun t122 => (some t122)) else (some false))) else (some false)))
set_option maxHeartbeats 8000000 in
set_option maxRecDepth 100000 in
theorem gueritelaw16_awake.calls  (r : Bool) (w : World) (h : gueritelaw16_awake.f  = some r) :
    Calls Try.prog 10 #[] w fun e w' => e = .returned (.bool r) ∧ Below w.heap.size w w' := by
  have hu29 := Try.underlying29
  have hu31 := Try.underlying31
  have HB := Aside0.mk (Below.refl w.heap.size w)
  have H : ((some (([(⟨0, 1, (⟨0, 0⟩ : S29), (⟨167772160, 8⟩ : S29), (-1), 0⟩ : S31)] : List (S31)) : List (S31))).bind fun y117 => ((guard_To.f y117 0 1 6 1 167772161).bind fun t120 => (if t120 = 0 then ((guard_To.f y117 1 1 6 1 167772161).bind fun t121 => (if t121 = 1 then ((guard_Right.f 2 y117).bind fun t122 => (some t122)) else (some false))) else (some false)))) = some r := h
  clear h
  obtain ⟨y117, hy117⟩ : ∃ y_ : List (S31), y_ = (([(⟨0, 1, (⟨0, 0⟩ : S29), (⟨167772160, 8⟩ : S29), (-1), 0⟩ : S31)] : List (S31))) := ⟨_, rfl⟩
  replace H : ((guard_To.f y117 0 1 6 1 167772161).bind fun t120 => (if t120 = 0 then ((guard_To.f y117 1 1 6 1 167772161).bind fun t121 => (if t121 = 1 then ((guard_Right.f 2 y117).bind fun t122 => (some t122)) else (some false))) else (some false))) = some r := by first | (rw [hy117]; with_reducible exact H) | (have H2_ := (Option.bind_some _ _).symm.trans H; rw [hy117]; with_reducible exact H2_) | (have H2_ := (Option.bind_some _ _).symm.trans H; with_reducible exact H2_) | with_reducible exact H | (rw [hy117]; exact H) | exact H
  have Ny117 := Aside0.mk hy117
  clear hy117
  replace H := Option.bind_eq_some_iff.mp H
  obtain ⟨t120, A10, H⟩ := H
  replace H : (if t120 = 0 then ((guard_To.f y117 1 1 6 1 167772161).bind fun t121 => (if t121 = 1 then ((guard_Right.f 2 y117).bind fun t122 => (some t122)) else (some false))) else (some false)) = some r := H
  have A1 := Aside0.mk A10
  clear A10
  by_cases c2 : t120 = 0
  · rw [if_pos c2] at H
    have c2b0 : (t120 == 0) = true := beq_iff_eq.mpr c2
    have c2b1 : (t120 != 0) = false := bne_eq_false_iff_eq.mpr c2
    clear c2
    replace H := Option.bind_eq_some_iff.mp H
    obtain ⟨t121, A30, H⟩ := H
    replace H : (if t121 = 1 then ((guard_Right.f 2 y117).bind fun t122 => (some t122)) else (some false)) = some r := H
    have A3 := Aside0.mk A30
    clear A30
    by_cases c4 : t121 = 1
    · rw [if_pos c4] at H
      have c4b0 : (t121 == 1) = true := beq_iff_eq.mpr c4
      have c4b1 : (t121 != 1) = false := bne_eq_false_iff_eq.mpr c4
      clear c4
      replace H := Option.bind_eq_some_iff.mp H
      obtain ⟨t122, A50, H⟩ := H
      replace H : (some t122) = some r := H
      have A5 := Aside0.mk A50
      clear A50
      obtain rfl := Option.some.inj H
      go_enter Try.func10, Try.ntmps10
      go_wp2_with (first | ((with_reducible refine gate_dst (N := 4) rfl ?_); refine Kd.R_lit k31 _ 31 ?hg (N := 4) ?hd (xs := ([(⟨0, 1, (⟨0, 0⟩ : S29), (⟨167772160, 8⟩ : S29), (-1), 0⟩ : S31)] : List (S31))) (inner := [.int .i64 0, .int .i64 1, .int .u32 0, .int .i64 0, .int .u32 167772160, .int .i64 8, .int .i64 (-1), .int .i64 0]) (ok := fun _ => True) (okp := fun _ => True) ?hr ?hp (fun _ hk => hk) trivial (Below.refl _ _) (Nat.le_refl _) (by simp) ?_; (case hd => rfl); (case hg => rfl); (case hr => first | (go_simp; done) | (go_simp; rfl)); (case hp => exact (Reps.c8 (show Kd.M k31 _ _ _ (⟨0, 1, (⟨0, 0⟩ : S29), (⟨167772160, 8⟩ : S29), (-1), 0⟩ : S31) [.int .i64 0, .int .i64 1, .int .u32 0, .int .i64 0, .int .u32 167772160, .int .i64 8, .int .i64 (-1), .int .i64 0] from (k31_mkM _ _ _ (⟨0, 1, (⟨0, 0⟩ : S29), (⟨167772160, 8⟩ : S29), (-1), 0⟩ : S31) )) (Reps.none _ _))); intro v118 w6 ho7 hb hg_ hnew_; clear hg_ hnew_; (first | rw [← Ny117.out] at ho7 | (simp only [Int.reduceToNat] at ho7; rw [← Ny117.out] at ho7)); have n0_ := Aside0.mk (Kd.R_lower ho7 (below_size (by repeat (first | (with_reducible first | exact HB.out | apply below_alloc | apply pw_below_drewN | apply below_drew1) | exact HB.out)))); have n1_ := Aside0.mk (below_step (by repeat (first | (with_reducible first | exact HB.out | apply below_alloc | apply pw_below_drewN | apply below_drew1) | exact HB.out)) hb); clear HB; have HO119 := n0_; have HB := n1_; clear n0_ n1_; clear hb ho7; obtain ⟨Ao8, co8, eo8⟩ := Kd.R_slice HO119.out; subst eo8) | ((with_reducible refine gate_callee (f := 15) rfl ?_); refine goesL_ (some 6) rfl rfl Try.func15 (by kernel_rfl) rfl #[.slice Ao8 y117.length co8, .int .i64 0, .int .i64 1, .int .i64 6, .int .u32 1, .int .u32 167772161] rfl (by (try simp only [List.map_toArray, List.map_cons, List.map_nil]); first | done | rfl | (simp only [List.length_drop, List.length_take]; rfl)) ?_; (with_reducible refine (guard_To.calls _ _ y117 0 1 6 1 167772161 t120 _ ?side1 ?side2 A1.out).mono ?_); (case side1 => repeat (first | exact (Kd.R_reads' HO119.out).2.2 | (with_reducible refine Kd.C_alloc ?_ _) | (with_reducible refine Kd.C_drewN ?_ _) | (with_reducible refine Kd.C_drew ?_))); (case side2 => exact (Kd.R_reads' HO119.out).2.1); rintro e w9 ⟨rfl, hb⟩; refine ⟨_, rfl, ?_⟩; have n0_ := Aside0.mk (Kd.R_below (by (with_reducible repeat (first | apply Kd.R_alloc | apply Kd.R_drewN | apply Kd.R_drew)); exact HO119.out) hb); have n1_ := Aside0.mk (below_step (by repeat (first | (with_reducible first | exact HB.out | apply below_alloc | apply pw_below_drewN | apply below_drew1) | exact HB.out)) hb); clear HO119; clear HB; have HO119 := n0_; have HB := n1_; clear n0_ n1_; (try clear hb); (try clear hb2); (try clear hk); (try clear hi)) | (go_at_call 15; (with_reducible refine (guard_To.calls _ _ y117 1 1 6 1 167772161 t121 _ ?side1 ?side2 A3.out).mono ?_); (case side1 => repeat (first | exact (Kd.R_reads' HO119.out).2.2 | (with_reducible refine Kd.C_alloc ?_ _) | (with_reducible refine Kd.C_drewN ?_ _) | (with_reducible refine Kd.C_drew ?_))); (case side2 => exact (Kd.R_reads' HO119.out).2.1); rintro e w10 ⟨rfl, hb⟩; have n0_ := Aside0.mk (Kd.R_below (by (with_reducible repeat (first | apply Kd.R_alloc | apply Kd.R_drewN | apply Kd.R_drew)); exact HO119.out) hb); have n1_ := Aside0.mk (below_step (by repeat (first | (with_reducible first | exact HB.out | apply below_alloc | apply pw_below_drewN | apply below_drew1) | exact HB.out)) hb); clear HO119; clear HB; have HO119 := n0_; have HB := n1_; clear n0_ n1_; (try clear hb); (try clear hb2); (try clear hk); (try clear hi)) | (go_at_call 17; (with_reducible refine (guard_Right.calls 2 _ _ y117 t122 _ ?side1 ?side2 A5.out).mono ?_); (case side1 => repeat (first | exact (Kd.R_reads' HO119.out).2.2 | (with_reducible refine Kd.C_alloc ?_ _) | (with_reducible refine Kd.C_drewN ?_ _) | (with_reducible refine Kd.C_drew ?_))); (case side2 => exact (Kd.R_reads' HO119.out).2.1); rintro e w11 ⟨rfl, hb⟩; have n0_ := Aside0.mk (Kd.R_below (by (with_reducible repeat (first | apply Kd.R_alloc | apply Kd.R_drewN | apply Kd.R_drew)); exact HO119.out) hb); have n1_ := Aside0.mk (below_step (by repeat (first | (with_reducible first | exact HB.out | apply below_alloc | apply pw_below_drewN | apply below_drew1) | exact HB.out)) hb); clear HO119; clear HB; have HO119 := n0_; have HB := n1_; clear n0_ n1_; (try clear hb); (try clear hb2); (try clear hk); (try clear hi)))
      go_ret
      exact ⟨by first | rfl | (simp [errW_none, errW_some] <;> rfl) | (simp [*, errW_none, errW_some] <;> rfl), by repeat (first | (with_reducible first | exact HB.out | apply below_alloc | apply pw_below_drewN | apply below_drew1) | exact HB.out)⟩
    · rw [if_neg c4] at H
      have c4b0 : (t121 == 1) = false := beq_eq_false_iff_ne.mpr c4
      have c4b1 : (t121 != 1) = true := bne_iff_ne.mpr c4
      obtain rfl := Option.some.inj H
      go_enter Try.func10, Try.ntmps10
      go_wp2_with (first | ((with_reducible refine gate_dst (N := 4) rfl ?_); refine Kd.R_lit k31 _ 31 ?hg (N := 4) ?hd (xs := ([(⟨0, 1, (⟨0, 0⟩ : S29), (⟨167772160, 8⟩ : S29), (-1), 0⟩ : S31)] : List (S31))) (inner := [.int .i64 0, .int .i64 1, .int .u32 0, .int .i64 0, .int .u32 167772160, .int .i64 8, .int .i64 (-1), .int .i64 0]) (ok := fun _ => True) (okp := fun _ => True) ?hr ?hp (fun _ hk => hk) trivial (Below.refl _ _) (Nat.le_refl _) (by simp) ?_; (case hd => rfl); (case hg => rfl); (case hr => first | (go_simp; done) | (go_simp; rfl)); (case hp => exact (Reps.c8 (show Kd.M k31 _ _ _ (⟨0, 1, (⟨0, 0⟩ : S29), (⟨167772160, 8⟩ : S29), (-1), 0⟩ : S31) [.int .i64 0, .int .i64 1, .int .u32 0, .int .i64 0, .int .u32 167772160, .int .i64 8, .int .i64 (-1), .int .i64 0] from (k31_mkM _ _ _ (⟨0, 1, (⟨0, 0⟩ : S29), (⟨167772160, 8⟩ : S29), (-1), 0⟩ : S31) )) (Reps.none _ _))); intro v118 w12 ho13 hb hg_ hnew_; clear hg_ hnew_; (first | rw [← Ny117.out] at ho13 | (simp only [Int.reduceToNat] at ho13; rw [← Ny117.out] at ho13)); have n0_ := Aside0.mk (Kd.R_lower ho13 (below_size (by repeat (first | (with_reducible first | exact HB.out | apply below_alloc | apply pw_below_drewN | apply below_drew1) | exact HB.out)))); have n1_ := Aside0.mk (below_step (by repeat (first | (with_reducible first | exact HB.out | apply below_alloc | apply pw_below_drewN | apply below_drew1) | exact HB.out)) hb); clear HB; have HO119 := n0_; have HB := n1_; clear n0_ n1_; clear hb ho13; obtain ⟨Ao14, co14, eo14⟩ := Kd.R_slice HO119.out; subst eo14) | ((with_reducible refine gate_callee (f := 15) rfl ?_); refine goesL_ (some 6) rfl rfl Try.func15 (by kernel_rfl) rfl #[.slice Ao14 y117.length co14, .int .i64 0, .int .i64 1, .int .i64 6, .int .u32 1, .int .u32 167772161] rfl (by (try simp only [List.map_toArray, List.map_cons, List.map_nil]); first | done | rfl | (simp only [List.length_drop, List.length_take]; rfl)) ?_; (with_reducible refine (guard_To.calls _ _ y117 0 1 6 1 167772161 t120 _ ?side1 ?side2 A1.out).mono ?_); (case side1 => repeat (first | exact (Kd.R_reads' HO119.out).2.2 | (with_reducible refine Kd.C_alloc ?_ _) | (with_reducible refine Kd.C_drewN ?_ _) | (with_reducible refine Kd.C_drew ?_))); (case side2 => exact (Kd.R_reads' HO119.out).2.1); rintro e w15 ⟨rfl, hb⟩; refine ⟨_, rfl, ?_⟩; have n0_ := Aside0.mk (Kd.R_below (by (with_reducible repeat (first | apply Kd.R_alloc | apply Kd.R_drewN | apply Kd.R_drew)); exact HO119.out) hb); have n1_ := Aside0.mk (below_step (by repeat (first | (with_reducible first | exact HB.out | apply below_alloc | apply pw_below_drewN | apply below_drew1) | exact HB.out)) hb); clear HO119; clear HB; have HO119 := n0_; have HB := n1_; clear n0_ n1_; (try clear hb); (try clear hb2); (try clear hk); (try clear hi)) | (go_at_call 15; (with_reducible refine (guard_To.calls _ _ y117 1 1 6 1 167772161 t121 _ ?side1 ?side2 A3.out).mono ?_); (case side1 => repeat (first | exact (Kd.R_reads' HO119.out).2.2 | (with_reducible refine Kd.C_alloc ?_ _) | (with_reducible refine Kd.C_drewN ?_ _) | (with_reducible refine Kd.C_drew ?_))); (case side2 => exact (Kd.R_reads' HO119.out).2.1); rintro e w16 ⟨rfl, hb⟩; have n0_ := Aside0.mk (Kd.R_below (by (with_reducible repeat (first | apply Kd.R_alloc | apply Kd.R_drewN | apply Kd.R_drew)); exact HO119.out) hb); have n1_ := Aside0.mk (below_step (by repeat (first | (with_reducible first | exact HB.out | apply below_alloc | apply pw_below_drewN | apply below_drew1) | exact HB.out)) hb); clear HO119; clear HB; have HO119 := n0_; have HB := n1_; clear n0_ n1_; (try clear hb); (try clear hb2); (try clear hk); (try clear hi)))
      go_ret
      exact ⟨by first | rfl | (simp [errW_none, errW_some] <;> rfl) | (simp [*, errW_none, errW_some] <;> rfl), by repeat (first | (with_reducible first | exact HB.out | apply below_alloc | apply pw_below_drewN | apply below_drew1) | exact HB.out)⟩
  · rw [if_neg c2] at H
    have c2b0 : (t120 == 0) = false := beq_eq_false_iff_ne.mpr c2
    have c2b1 : (t120 != 0) = true := bne_iff_ne.mpr c2
    obtain rfl := Option.some.inj H
    go_enter Try.func10, Try.ntmps10
    go_wp2_with (first | ((with_reducible refine gate_dst (N := 4) rfl ?_); refine Kd.R_lit k31 _ 31 ?hg (N := 4) ?hd (xs := ([(⟨0, 1, (⟨0, 0⟩ : S29), (⟨167772160, 8⟩ : S29), (-1), 0⟩ : S31)] : List (S31))) (inner := [.int .i64 0, .int .i64 1, .int .u32 0, .int .i64 0, .int .u32 167772160, .int .i64 8, .int .i64 (-1), .int .i64 0]) (ok := fun _ => True) (okp := fun _ => True) ?hr ?hp (fun _ hk => hk) trivial (Below.refl _ _) (Nat.le_refl _) (by simp) ?_; (case hd => rfl); (case hg => rfl); (case hr => first | (go_simp; done) | (go_simp; rfl)); (case hp => exact (Reps.c8 (show Kd.M k31 _ _ _ (⟨0, 1, (⟨0, 0⟩ : S29), (⟨167772160, 8⟩ : S29), (-1), 0⟩ : S31) [.int .i64 0, .int .i64 1, .int .u32 0, .int .i64 0, .int .u32 167772160, .int .i64 8, .int .i64 (-1), .int .i64 0] from (k31_mkM _ _ _ (⟨0, 1, (⟨0, 0⟩ : S29), (⟨167772160, 8⟩ : S29), (-1), 0⟩ : S31) )) (Reps.none _ _))); intro v118 w17 ho18 hb hg_ hnew_; clear hg_ hnew_; (first | rw [← Ny117.out] at ho18 | (simp only [Int.reduceToNat] at ho18; rw [← Ny117.out] at ho18)); have n0_ := Aside0.mk (Kd.R_lower ho18 (below_size (by repeat (first | (with_reducible first | exact HB.out | apply below_alloc | apply pw_below_drewN | apply below_drew1) | exact HB.out)))); have n1_ := Aside0.mk (below_step (by repeat (first | (with_reducible first | exact HB.out | apply below_alloc | apply pw_below_drewN | apply below_drew1) | exact HB.out)) hb); clear HB; have HO119 := n0_; have HB := n1_; clear n0_ n1_; clear hb ho18; obtain ⟨Ao19, co19, eo19⟩ := Kd.R_slice HO119.out; subst eo19) | ((with_reducible refine gate_callee (f := 15) rfl ?_); refine goesL_ (some 6) rfl rfl Try.func15 (by kernel_rfl) rfl #[.slice Ao19 y117.length co19, .int .i64 0, .int .i64 1, .int .i64 6, .int .u32 1, .int .u32 167772161] rfl (by (try simp only [List.map_toArray, List.map_cons, List.map_nil]); first | done | rfl | (simp only [List.length_drop, List.length_take]; rfl)) ?_; (with_reducible refine (guard_To.calls _ _ y117 0 1 6 1 167772161 t120 _ ?side1 ?side2 A1.out).mono ?_); (case side1 => repeat (first | exact (Kd.R_reads' HO119.out).2.2 | (with_reducible refine Kd.C_alloc ?_ _) | (with_reducible refine Kd.C_drewN ?_ _) | (with_reducible refine Kd.C_drew ?_))); (case side2 => exact (Kd.R_reads' HO119.out).2.1); rintro e w20 ⟨rfl, hb⟩; refine ⟨_, rfl, ?_⟩; have n0_ := Aside0.mk (Kd.R_below (by (with_reducible repeat (first | apply Kd.R_alloc | apply Kd.R_drewN | apply Kd.R_drew)); exact HO119.out) hb); have n1_ := Aside0.mk (below_step (by repeat (first | (with_reducible first | exact HB.out | apply below_alloc | apply pw_below_drewN | apply below_drew1) | exact HB.out)) hb); clear HO119; clear HB; have HO119 := n0_; have HB := n1_; clear n0_ n1_; (try clear hb); (try clear hb2); (try clear hk); (try clear hi)))
    go_ret
    exact ⟨by first | rfl | (simp [errW_none, errW_some] <;> rfl) | (simp [*, errW_none, errW_some] <;> rfl), by repeat (first | (with_reducible first | exact HB.out | apply below_alloc | apply pw_below_drewN | apply below_drew1) | exact HB.out)⟩

/-! ### gueriteref03_bit: function 53 -/
def gueriteref03_bit.f (a0 : Int) (a1 : Int) : Option (Int) := if 0 ≤ (wrap64 (31 - a1)) then (some (wrap64 (Go.bits .and .u32 (shr .u32 a0 (wrap64 (31 - a1))) 1))) else (none)
set_option maxHeartbeats 8000000 in
set_option maxRecDepth 100000 in
theorem gueriteref03_bit.calls (a0 : Int) (a1 : Int) (r : Int) (w : World) (h : gueriteref03_bit.f a0 a1 = some r) :
    Calls Try.prog 53 #[.int .u32 a0, .int .i64 a1] w fun e w' => e = .returned (.int .i64 r) ∧ Drawn0 w w' := by
  have H : (if 0 ≤ (wrap64 (31 - a1)) then (some (wrap64 (Go.bits .and .u32 (shr .u32 a0 (wrap64 (31 - a1))) 1))) else (none)) = some r := h
  clear h
  obtain ⟨ji3, hji3⟩ : ∃ j_ : Int, (wrap64 (31 - a1)) = j_ := ⟨_, rfl⟩
  replace H : (if 0 ≤ (ji3) then (some (wrap64 (Go.bits .and .u32 (shr .u32 a0 (ji3)) 1))) else (none)) = some r := by first | (rw [hji3] at H; exact H) | (simp only [hji3] at H ⊢; exact H)
  have hji3w : (IntKind.i64.wrap (31 - a1)) = ji3 := (i64_w _).trans hji3
  by_cases c4 : 0 ≤ (ji3)
  · rw [if_pos c4] at H
    have c4b0 := eq_true c4
    have c4b1 : decide (0 ≤ (ji3)) = true := decide_eq_true c4
    clear c4
    obtain ⟨ji5, hji5⟩ : ∃ j_ : Int, (shr .u32 a0 (ji3)) = j_ := ⟨_, rfl⟩
    replace H : (some (wrap64 (Go.bits .and .u32 (ji5) 1))) = some r := by first | (rw [hji5] at H; exact H) | (simp only [hji5] at H ⊢; exact H)
    have hji5_ : (a0 / 2 ^ min (ji3).toNat 32) = ji5 := hji5
    have hji5z : (ji3) ≤ 32 → (a0 / 2 ^ (ji3).toNat) = ji5 := shr_small hji5
    obtain rfl := Option.some.inj H
    go_enter Try.func53, Try.ntmps53
    go_wp2
    go_ret
    exact ⟨by first | rfl | (simp; done) | (simp only [← hji3, ← hji5] <;> (first | rfl | simp)) | (simp [*]; done), by repeat (first | exact Drawn0.refl _ | apply Drawn0.step)⟩
  · rw [if_neg c4] at H
    exact absurd H (by simp)

/-! ### gueriteref03_Right: function 33 -/
mutual
def gueriteref03_Right.j0 : Nat → Bool → Int → Int → Option (Bool)
  | 0, _, _, _ => none
  | k + 1, x11, x124000, x124001 => if x11 = true then (some false) else (gueriteref03_Right.l0 k x124001 x124000 x124001)
def gueriteref03_Right.l0 : Nat → Int → Int → Int → Option (Bool)
  | 0, _, _, _ => none
  | k + 1, x3, x124000, x124001 => if x3 < 32 then ((gueriteref03_bit.f x124000 x3).bind fun t124 => (if t124 = 1 then (some false) else (gueriteref03_Right.l0 k (wrap64 (x3 + 1)) x124000 x124001))) else (some true)
end
def gueriteref03_Right.f (k : Nat) (a0_0 : Int) (a0_1 : Int) : Option (Bool) := if a0_1 < 0 then (gueriteref03_Right.j0 k true a0_0 a0_1) else (gueriteref03_Right.j0 k (decide (a0_1 > 32)) a0_0 a0_1)
theorem gueriteref03_Right.mono_l : ∀ k, (∀ y0 y1 y2, LeO (gueriteref03_Right.j0 k y0 y1 y2) (gueriteref03_Right.j0 (k + 1) y0 y1 y2)) ∧ (∀ y0 y1 y2, LeO (gueriteref03_Right.l0 k y0 y1 y2) (gueriteref03_Right.l0 (k + 1) y0 y1 y2))
  | 0 => ⟨fun _ _ _ r h => by simp [gueriteref03_Right.j0] at h, fun _ _ _ r h => by simp [gueriteref03_Right.l0] at h⟩
  | k + 1 => by
    obtain ⟨ih0, ih1⟩ := gueriteref03_Right.mono_l k
    refine ⟨?_, ?_⟩
    · intro y0 y1 y2
      unfold gueriteref03_Right.j0
      repeat' first
      | (with_reducible exact ih0 _ _ _)
      | (with_reducible exact ih1 _ _ _)
      | (with_reducible exact LeO.refl _)
      | (with_reducible exact LeO.none _)
      | (with_reducible refine LeO.ite ?_ ?_)
      | (with_reducible refine LeO.bind ?_ (fun _ => ?_))
      | exact ih0 _ _ _
      | exact ih1 _ _ _
      | exact LeO.none _
      | refine LeO.ite ?_ ?_
      | refine LeO.bind ?_ (fun _ => ?_)
    · intro y0 y1 y2
      unfold gueriteref03_Right.l0
      repeat' first
      | (with_reducible exact ih0 _ _ _)
      | (with_reducible exact ih1 _ _ _)
      | (with_reducible exact LeO.refl _)
      | (with_reducible exact LeO.none _)
      | (with_reducible refine LeO.ite ?_ ?_)
      | (with_reducible refine LeO.bind ?_ (fun _ => ?_))
      | exact ih0 _ _ _
      | exact ih1 _ _ _
      | exact LeO.none _
      | refine LeO.ite ?_ ?_
      | refine LeO.bind ?_ (fun _ => ?_)
theorem gueriteref03_Right.mono : ∀ a0 a1 k, LeO (gueriteref03_Right.f k a0 a1) (gueriteref03_Right.f (k + 1) a0 a1) := by
  intro a0 a1 k
  obtain ⟨ih0, ih1⟩ := gueriteref03_Right.mono_l k
  unfold gueriteref03_Right.f
  repeat' first
      | (with_reducible exact ih0 _ _ _)
      | (with_reducible exact ih1 _ _ _)
      | (with_reducible exact LeO.refl _)
      | (with_reducible exact LeO.none _)
      | (with_reducible refine LeO.ite ?_ ?_)
      | (with_reducible refine LeO.bind ?_ (fun _ => ?_))
      | exact ih0 _ _ _
      | exact ih1 _ _ _
      | exact LeO.none _
      | refine LeO.ite ?_ ?_
      | refine LeO.bind ?_ (fun _ => ?_)
set_option maxHeartbeats 8000000 in
set_option maxRecDepth 100000 in
theorem gueriteref03_Right.calls (k : Nat) (a0_0 : Int) (a0_1 : Int) (r : Bool) (w : World) (h : gueriteref03_Right.f k a0_0 a0_1 = some r) :
    Calls Try.prog 33 #[.agg #[.int .u32 a0_0, .int .i64 a0_1]] w fun e w' => e = .returned (.bool r) ∧ Below w.heap.size w w' := by
  have hu29 := Try.underlying29
  have HB := Aside0.mk (Below.refl w.heap.size w)
  have H : (if a0_1 < 0 then (gueriteref03_Right.j0 k true a0_0 a0_1) else (gueriteref03_Right.j0 k (decide (a0_1 > 32)) a0_0 a0_1)) = some r := h
  clear h
  have HC2 := Aside0.mk H
  clear H
  go_enter Try.func33, Try.ntmps33
  go_upto_region 1 with (first | ((with_reducible refine gate_dst (N := 1) rfl ?_); refine box_event ?hg (N := 1) ?hd (cs := #[.int .u32 a0_0, .int .i64 a0_1]) (t := 29) ?hr ?_; (case hd => rfl); (case hg => rfl); (case hr => first | (go_simp; done) | (go_simp; rfl)); intro gb123 hg w3 hbox hb; have n0_ := Aside0.mk (below_step (by repeat (first | (with_reducible first | exact HB.out | apply below_alloc | apply pw_below_drewN | apply below_drew1) | exact HB.out)) hb); have n1_ := Aside0.mk (hbox); have n2_ := Aside0.mk ((by rw [hg]; exact (below_size (by repeat (first | (with_reducible first | exact HB.out | apply below_alloc | apply pw_below_drewN | apply below_drew1) | exact HB.out))) : w.heap.size ≤ gb123)); have n3_ := Aside0.mk ((by rw [hg]; exact (below_size (by repeat (first | (with_reducible first | exact HB.out | apply below_alloc | apply pw_below_drewN | apply below_drew1) | exact HB.out))) : w.heap.size ≤ gb123)); clear HB; have HB := n0_; have BK123 := n1_; have GW123 := n2_; have GE123 := n3_; clear n0_ n1_ n2_ n3_; clear hb hbox hg))
  (try simp only [Act.put, List.setIfInBounds_toArray, List.set_cons_zero, List.set_cons_succ])
  go_cut [11] (fun v11 wc => ∃ (kq : Nat) (x11_1 : Bool), v11 = .bool x11_1 ∧ Aside0 (gueriteref03_Right.j0 kq x11_1 a0_0 a0_1 = some r) ∧ Aside0 (kq ≤ k) ∧ Aside0 (wc.heap[gb123]? = some (.cells #[.int .u32 a0_0, .int .i64 a0_1] 29 (0, 0))) ∧ Aside0 (Below w.heap.size w wc))
  case first =>
    have H := HC2.out
    clear HC2
    by_cases c4 : a0_1 < 0
    · rw [if_pos c4] at H
      have c4b0 : decide (a0_1 < 0) = true := decide_eq_true c4
      clear c4
      (first | rw [c4b0] | (simp only [i64_w, i32_w]; rw [c4b0]) | skip)
      have H' := Aside0.mk H
      clear H
      have hcz5_0 : w3.cell? ⟨gb123, 0, none⟩ = some (.int .u32 a0_0) := (blk_cell BK123.out 0).trans rfl
      have hcz5_1 : w3.cell? ⟨gb123, 1, none⟩ = some (.int .i64 a0_1) := (blk_cell BK123.out 1).trans rfl
      have hfz5_0 := blk_frozen BK123.out 0
      have hfz5_1 := blk_frozen BK123.out 1
      go_wp2
      go_meet
      case rel => exact ⟨_, (true), (by first | rfl | (simp; done) | (simp [*]; done)), H', ⟨by first | omega | exact Nat.le_refl _⟩, ⟨by (with_reducible repeat (first | refine blk_drewN ?_ _ | refine blk_drew ?_ | refine blk_alloc ?_ _)); exact BK123.out⟩, ⟨by repeat (first | (with_reducible first | exact HB.out | apply below_alloc | apply pw_below_drewN | apply below_drew1 | refine below_set ?_ GE123.out) | exact HB.out)⟩⟩
    · rw [if_neg c4] at H
      have c4b0 : decide (a0_1 < 0) = false := decide_eq_false c4
      clear c4
      (first | rw [c4b0] | (simp only [i64_w, i32_w]; rw [c4b0]) | skip)
      have H' := Aside0.mk H
      clear H
      have hcz6_0 : w3.cell? ⟨gb123, 0, none⟩ = some (.int .u32 a0_0) := (blk_cell BK123.out 0).trans rfl
      have hcz6_1 : w3.cell? ⟨gb123, 1, none⟩ = some (.int .i64 a0_1) := (blk_cell BK123.out 1).trans rfl
      have hfz6_0 := blk_frozen BK123.out 0
      have hfz6_1 := blk_frozen BK123.out 1
      go_wp2
      go_meet
      case rel => exact ⟨_, (decide (a0_1 > 32)), (by first | rfl | (simp; done) | (simp [*]; done)), H', ⟨by first | omega | exact Nat.le_refl _⟩, ⟨by (with_reducible repeat (first | refine blk_drewN ?_ _ | refine blk_drew ?_ | refine blk_alloc ?_ _)); exact BK123.out⟩, ⟨by repeat (first | (with_reducible first | exact HB.out | apply below_alloc | apply pw_below_drewN | apply below_drew1 | refine below_set ?_ GE123.out) | exact HB.out)⟩⟩
  case rest =>
    clear HC2
    try clear p2
    try clear c3
    try clear c4
    try clear c4b0
    try clear hcz5_0
    try clear hcz5_1
    try clear hcz6_0
    try clear hcz6_1
    try clear hfz5_0
    try clear hfz5_1
    try clear hfz6_0
    try clear hfz6_1
    obtain ⟨kq, x11_1, rfl, HA, HJ1, BK123, HB⟩ := hcut
    cases kq with
    | zero => exact absurd HA.out (by simp [gueriteref03_Right.j0])
    | succ kj1 =>
      have H := HA.out
      clear HA
      simp only [gueriteref03_Right.j0] at H
      by_cases c7 : x11_1 = true
      · subst c7
        have H1 : (some false) = some r := by rw [if_pos rfl] at H; exact H
        clear H
        have H := H1
        clear H1
        obtain rfl := Option.some.inj H
        go_wp2
        go_ret
        exact ⟨by first | rfl | (simp [errW_none, errW_some] <;> rfl) | (simp [*, errW_none, errW_some] <;> rfl), by repeat (first | (with_reducible first | exact HB.out | apply below_alloc | apply pw_below_drewN | apply below_drew1 | refine below_set ?_ GE123.out) | exact HB.out)⟩
      · replace c7 := Bool.eq_false_iff.mpr c7
        subst c7
        have H1 : (gueriteref03_Right.l0 kj1 a0_1 a0_0 a0_1) = some r := by rw [if_neg (show ¬ (false = true) by decide)] at H; exact H
        clear H
        have H := H1
        clear H1
        have H' := Aside0.mk H
        clear H
        have hcz8_0 : wc.cell? ⟨gb123, 0, none⟩ = some (.int .u32 a0_0) := (blk_cell BK123.out 0).trans rfl
        have hcz8_1 : wc.cell? ⟨gb123, 1, none⟩ = some (.int .i64 a0_1) := (blk_cell BK123.out 1).trans rfl
        have hfz8_0 := blk_frozen BK123.out 0
        have hfz8_1 := blk_frozen BK123.out 1
        go_wp2
        go_loopg [3] kj1 (fun kq v3 w' => ∃ (x3_2 : Int), v3 = .int .i64 x3_2 ∧ Aside0 (gueriteref03_Right.l0 kq x3_2 a0_0 a0_1 = some r) ∧ Aside0 (kq ≤ kj1) ∧ Aside0 (w'.heap[gb123]? = some (.cells #[.int .u32 a0_0, .int .i64 a0_1] 29 (0, 0))) ∧ Aside0 (Below w.heap.size w w'))
        case atStart => exact ⟨(a0_1), (by first | rfl | (simp; done) | (simp [*]; done)), H', ⟨Nat.le_refl _⟩, ⟨by (with_reducible repeat (first | refine blk_drewN ?_ _ | refine blk_drew ?_ | refine blk_alloc ?_ _)); exact BK123.out⟩, ⟨by repeat (first | (with_reducible first | exact HB.out | apply below_alloc | apply pw_below_drewN | apply below_drew1 | refine below_set ?_ GE123.out) | exact HB.out)⟩⟩
        case round =>
          clear H'
          try clear p2
          try clear c3
          try clear c4
          try clear c4b0
          try clear c7
          try clear hcz5_0
          try clear hcz5_1
          try clear hcz6_0
          try clear hcz6_1
          try clear hcz8_0
          try clear hcz8_1
          try clear hfz5_0
          try clear hfz5_1
          try clear hfz6_0
          try clear hfz6_1
          try clear hfz8_0
          try clear hfz8_1
          try clear p2
          obtain ⟨x3_2, rfl, HA, HK2, BK123, HB⟩ := hrel
          cases gk with
          | zero => exact absurd HA.out (by simp [gueriteref03_Right.l0])
          | succ k2 =>
            have H := HA.out
            clear HA
            simp only [gueriteref03_Right.l0] at H
            by_cases c9 : x3_2 < 32
            · rw [if_pos c9] at H
              have c9b0 : decide (x3_2 < 32) = true := decide_eq_true c9
              clear c9
              replace H := Option.bind_eq_some_iff.mp H
              obtain ⟨t124, A100, H⟩ := H
              replace H : (if t124 = 1 then (some false) else (gueriteref03_Right.l0 k2 (wrap64 (x3_2 + 1)) a0_0 a0_1)) = some r := H
              have A10 := Aside0.mk A100
              clear A100
              by_cases c11 : t124 = 1
              · rw [if_pos c11] at H
                have c11b0 : (t124 == 1) = true := beq_iff_eq.mpr c11
                have c11b1 : (t124 != 1) = false := bne_eq_false_iff_eq.mpr c11
                clear c11
                obtain rfl := Option.some.inj H
                have hcz12_0 : wr.cell? ⟨gb123, 0, none⟩ = some (.int .u32 a0_0) := (blk_cell BK123.out 0).trans rfl
                have hcz12_1 : wr.cell? ⟨gb123, 1, none⟩ = some (.int .i64 a0_1) := (blk_cell BK123.out 1).trans rfl
                have hfz12_0 := blk_frozen BK123.out 0
                have hfz12_1 := blk_frozen BK123.out 1
                go_wp2_with (first | ((with_reducible refine gate_callee (f := 53) rfl ?_); refine goesL_ (some 21) rfl rfl Try.func53 (by kernel_rfl) rfl #[.int .u32 a0_0, .int .i64 x3_2] rfl (by (try simp only [List.map_toArray, List.map_cons, List.map_nil]); first | done | rfl | (simp only [List.length_drop, List.length_take]; rfl)) ?_; (with_reducible refine (gueriteref03_bit.calls a0_0 x3_2 t124 _ A10.out).mono ?_); rintro e w' ⟨rfl, ⟨nd, rfl⟩⟩; refine ⟨_, rfl, ?_⟩))
                go_ret
                exact ⟨by first | rfl | (simp [errW_none, errW_some] <;> rfl) | (simp [*, errW_none, errW_some] <;> rfl), by repeat (first | (with_reducible first | exact HB.out | apply below_alloc | apply pw_below_drewN | apply below_drew1 | refine below_set ?_ GE123.out) | exact HB.out)⟩
              · rw [if_neg c11] at H
                have c11b0 : (t124 == 1) = false := beq_eq_false_iff_ne.mpr c11
                have c11b1 : (t124 != 1) = true := bne_iff_ne.mpr c11
                have H' := Aside0.mk H
                clear H
                have hcz13_0 : wr.cell? ⟨gb123, 0, none⟩ = some (.int .u32 a0_0) := (blk_cell BK123.out 0).trans rfl
                have hcz13_1 : wr.cell? ⟨gb123, 1, none⟩ = some (.int .i64 a0_1) := (blk_cell BK123.out 1).trans rfl
                have hfz13_0 := blk_frozen BK123.out 0
                have hfz13_1 := blk_frozen BK123.out 1
                go_wp2_with (first | ((with_reducible refine gate_callee (f := 53) rfl ?_); refine goesL_ (some 21) rfl rfl Try.func53 (by kernel_rfl) rfl #[.int .u32 a0_0, .int .i64 x3_2] rfl (by (try simp only [List.map_toArray, List.map_cons, List.map_nil]); first | done | rfl | (simp only [List.length_drop, List.length_take]; rfl)) ?_; (with_reducible refine (gueriteref03_bit.calls a0_0 x3_2 t124 _ A10.out).mono ?_); rintro e w' ⟨rfl, ⟨nd, rfl⟩⟩; refine ⟨_, rfl, ?_⟩))
                go_roundg k2
                case measure => have := HJ1.out; have := HK2.out; omega
                case rel => exact ⟨(wrap64 (x3_2 + 1)), (by first | rfl | (simp; done) | (simp [*]; done)), H', ⟨by have := HJ1.out; have := HK2.out; omega⟩, ⟨by (with_reducible repeat (first | refine blk_drewN ?_ _ | refine blk_drew ?_ | refine blk_alloc ?_ _)); exact BK123.out⟩, ⟨by repeat (first | (with_reducible first | exact HB.out | apply below_alloc | apply pw_below_drewN | apply below_drew1 | refine below_set ?_ GE123.out) | exact HB.out)⟩⟩
            · rw [if_neg c9] at H
              have c9b0 : decide (x3_2 < 32) = false := decide_eq_false c9
              clear c9
              obtain rfl := Option.some.inj H
              go_wp2
              go_ret
              exact ⟨by first | rfl | (simp [errW_none, errW_some] <;> rfl) | (simp [*, errW_none, errW_some] <;> rfl), by repeat (first | (with_reducible first | exact HB.out | apply below_alloc | apply pw_below_drewN | apply below_drew1 | refine below_set ?_ GE123.out) | exact HB.out)⟩

/-! ### gueriteref03_Holds: function 30 -/
def gueriteref03_Holds.l0 : Nat → Int → Int → Int → Int → Option (Bool)
  | 0, _, _, _, _ => none
  | k + 1, x1, x5, x126000, x126001 => if x5 < x126001 then ((gueriteref03_bit.f x126000 x5).bind fun t127 => ((gueriteref03_bit.f x1 x5).bind fun t128 => (if t127 = t128 then (gueriteref03_Holds.l0 k x1 (wrap64 (x5 + 1)) x126000 x126001) else (some false)))) else (some true)
def gueriteref03_Holds.f (k : Nat) (a0_0 : Int) (a0_1 : Int) (a1 : Int) : Option (Bool) := (gueriteref03_Right.f k a0_0 a0_1).bind fun t126 => (if t126 = true then (gueriteref03_Holds.l0 k a1 0 a0_0 a0_1) else (some false))
theorem gueriteref03_Holds.mono_l : ∀ k, (∀ y0 y1 y2 y3, LeO (gueriteref03_Holds.l0 k y0 y1 y2 y3) (gueriteref03_Holds.l0 (k + 1) y0 y1 y2 y3))
  | 0 => fun _ _ _ _ r h => by simp [gueriteref03_Holds.l0] at h
  | k + 1 => by
    have ih0 := gueriteref03_Holds.mono_l k
    · intro y0 y1 y2 y3
      unfold gueriteref03_Holds.l0
      repeat' first
      | (with_reducible exact ih0 _ _ _ _)
      | (with_reducible exact gueriteref03_Right.mono _ _ _)
      | (with_reducible exact LeO.refl _)
      | (with_reducible exact LeO.none _)
      | (with_reducible refine LeO.ite ?_ ?_)
      | (with_reducible refine LeO.bind ?_ (fun _ => ?_))
      | exact ih0 _ _ _ _
      | exact gueriteref03_Right.mono _ _ _
      | exact LeO.none _
      | refine LeO.ite ?_ ?_
      | refine LeO.bind ?_ (fun _ => ?_)
theorem gueriteref03_Holds.mono : ∀ a0 a1 a2 k, LeO (gueriteref03_Holds.f k a0 a1 a2) (gueriteref03_Holds.f (k + 1) a0 a1 a2) := by
  intro a0 a1 a2 k
  have ih0 := gueriteref03_Holds.mono_l k
  unfold gueriteref03_Holds.f
  repeat' first
      | (with_reducible exact ih0 _ _ _ _)
      | (with_reducible exact gueriteref03_Right.mono _ _ _)
      | (with_reducible exact LeO.refl _)
      | (with_reducible exact LeO.none _)
      | (with_reducible refine LeO.ite ?_ ?_)
      | (with_reducible refine LeO.bind ?_ (fun _ => ?_))
      | exact ih0 _ _ _ _
      | exact gueriteref03_Right.mono _ _ _
      | exact LeO.none _
      | refine LeO.ite ?_ ?_
      | refine LeO.bind ?_ (fun _ => ?_)
set_option maxHeartbeats 8000000 in
set_option maxRecDepth 100000 in
theorem gueriteref03_Holds.calls (k : Nat) (a0_0 : Int) (a0_1 : Int) (a1 : Int) (r : Bool) (w : World) (h : gueriteref03_Holds.f k a0_0 a0_1 a1 = some r) :
    Calls Try.prog 30 #[.agg #[.int .u32 a0_0, .int .i64 a0_1], .int .u32 a1] w fun e w' => e = .returned (.bool r) ∧ Below w.heap.size w w' := by
  have hu29 := Try.underlying29
  have HB := Aside0.mk (Below.refl w.heap.size w)
  have H : ((gueriteref03_Right.f k a0_0 a0_1).bind fun t126 => (if t126 = true then (gueriteref03_Holds.l0 k a1 0 a0_0 a0_1) else (some false))) = some r := h
  clear h
  replace H := Option.bind_eq_some_iff.mp H
  obtain ⟨t126, A30, H⟩ := H
  replace H : (if t126 = true then (gueriteref03_Holds.l0 k a1 0 a0_0 a0_1) else (some false)) = some r := H
  have A3 := Aside0.mk A30
  clear A30
  by_cases c4 : t126 = true
  · subst c4
    have H1 : (gueriteref03_Holds.l0 k a1 0 a0_0 a0_1) = some r := by rw [if_pos rfl] at H; exact H
    clear H
    have H := H1
    clear H1
    have H' := Aside0.mk H
    clear H
    go_enter Try.func30, Try.ntmps30
    go_wp2_with (first | ((with_reducible refine gate_dst (N := 2) rfl ?_); refine box_event ?hg (N := 2) ?hd (cs := #[.int .u32 a0_0, .int .i64 a0_1]) (t := 29) ?hr ?_; (case hd => rfl); (case hg => rfl); (case hr => first | (go_simp; done) | (go_simp; rfl)); intro gb125 hg w5 hbox hb; have n0_ := Aside0.mk (below_step (by repeat (first | (with_reducible first | exact HB.out | apply below_alloc | apply pw_below_drewN | apply below_drew1) | exact HB.out)) hb); have n1_ := Aside0.mk (hbox); have n2_ := Aside0.mk ((by rw [hg]; exact (below_size (by repeat (first | (with_reducible first | exact HB.out | apply below_alloc | apply pw_below_drewN | apply below_drew1) | exact HB.out))) : w.heap.size ≤ gb125)); have n3_ := Aside0.mk ((by rw [hg]; exact (below_size (by repeat (first | (with_reducible first | exact HB.out | apply below_alloc | apply pw_below_drewN | apply below_drew1) | exact HB.out))) : w.heap.size ≤ gb125)); clear HB; have HB := n0_; have BK125 := n1_; have GW125 := n2_; have GE125 := n3_; clear n0_ n1_ n2_ n3_; clear hb hbox hg; have hcz6_0 : w5.cell? ⟨gb125, 0, none⟩ = some (.int .u32 a0_0) := (blk_cell BK125.out 0).trans rfl; have hcz6_1 : w5.cell? ⟨gb125, 1, none⟩ = some (.int .i64 a0_1) := (blk_cell BK125.out 1).trans rfl; have hfz6_0 := blk_frozen BK125.out 0; have hfz6_1 := blk_frozen BK125.out 1) | ((with_reducible refine gate_callee (f := 33) rfl ?_); refine goesL_ (some 7) rfl rfl Try.func33 (by kernel_rfl) rfl #[.agg #[.int .u32 a0_0, .int .i64 a0_1]] rfl (by (try simp only [List.map_toArray, List.map_cons, List.map_nil]); first | done | rfl | (simp only [List.length_drop, List.length_take]; rfl)) ?_; (with_reducible refine (gueriteref03_Right.calls k a0_0 a0_1 true _ A3.out).mono ?_); rintro e w7 ⟨rfl, hb⟩; refine ⟨_, rfl, ?_⟩; have n0_ := Aside0.mk (blk_below (g := gb125) (o := .cells #[.int .u32 a0_0, .int .i64 a0_1] 29 (0, 0)) (by (with_reducible repeat (first | refine blk_drewN ?_ _ | refine blk_drew ?_ | refine blk_alloc ?_ _)); exact BK125.out) hb); have n1_ := Aside0.mk (below_step (by repeat (first | (with_reducible first | exact HB.out | apply below_alloc | apply pw_below_drewN | apply below_drew1 | refine below_set ?_ GE125.out) | exact HB.out)) hb); clear BK125; clear HB; have BK125 := n0_; have HB := n1_; clear n0_ n1_; (try clear hb); (try clear hb2); (try clear hk); (try clear hi)))
    go_loopg [5] k (fun kq v5 w' => ∃ (x5_1 : Int), v5 = .int .i64 x5_1 ∧ Aside0 (gueriteref03_Holds.l0 kq a1 x5_1 a0_0 a0_1 = some r) ∧ Aside0 (kq ≤ k) ∧ Aside0 (w'.heap[gb125]? = some (.cells #[.int .u32 a0_0, .int .i64 a0_1] 29 (0, 0))) ∧ Aside0 (Below w.heap.size w w'))
    case atStart => exact ⟨(0), (by first | rfl | (simp; done) | (simp [*]; done)), H', ⟨Nat.le_refl _⟩, ⟨by (with_reducible repeat (first | refine blk_drewN ?_ _ | refine blk_drew ?_ | refine blk_alloc ?_ _)); exact BK125.out⟩, ⟨by repeat (first | (with_reducible first | exact HB.out | apply below_alloc | apply pw_below_drewN | apply below_drew1 | refine below_set ?_ GE125.out) | exact HB.out)⟩⟩
    case round =>
      clear H'
      try clear p2
      try clear c3
      try clear c4
      try clear hcz6_0
      try clear hcz6_1
      try clear hfz6_0
      try clear hfz6_1
      obtain ⟨x5_1, rfl, HA, HK1, BK125, HB⟩ := hrel
      cases gk with
      | zero => exact absurd HA.out (by simp [gueriteref03_Holds.l0])
      | succ k1 =>
        have H := HA.out
        clear HA
        simp only [gueriteref03_Holds.l0] at H
        by_cases c8 : x5_1 < a0_1
        · rw [if_pos c8] at H
          have c8b0 : decide (x5_1 < a0_1) = true := decide_eq_true c8
          clear c8
          replace H := Option.bind_eq_some_iff.mp H
          obtain ⟨t127, A90, H⟩ := H
          replace H : ((gueriteref03_bit.f a1 x5_1).bind fun t128 => (if t127 = t128 then (gueriteref03_Holds.l0 k1 a1 (wrap64 (x5_1 + 1)) a0_0 a0_1) else (some false))) = some r := H
          have A9 := Aside0.mk A90
          clear A90
          replace H := Option.bind_eq_some_iff.mp H
          obtain ⟨t128, A100, H⟩ := H
          replace H : (if t127 = t128 then (gueriteref03_Holds.l0 k1 a1 (wrap64 (x5_1 + 1)) a0_0 a0_1) else (some false)) = some r := H
          have A10 := Aside0.mk A100
          clear A100
          by_cases c11 : t127 = t128
          · rw [if_pos c11] at H
            have c11b0 : (t127 == t128) = true := beq_iff_eq.mpr c11
            have c11b1 : (t127 != t128) = false := bne_eq_false_iff_eq.mpr c11
            clear c11
            have H' := Aside0.mk H
            clear H
            have hcz12_0 : wr.cell? ⟨gb125, 0, none⟩ = some (.int .u32 a0_0) := (blk_cell BK125.out 0).trans rfl
            have hcz12_1 : wr.cell? ⟨gb125, 1, none⟩ = some (.int .i64 a0_1) := (blk_cell BK125.out 1).trans rfl
            have hfz12_0 := blk_frozen BK125.out 0
            have hfz12_1 := blk_frozen BK125.out 1
            go_wp2_with (first | ((with_reducible refine gate_callee (f := 53) rfl ?_); refine goesL_ (some 18) rfl rfl Try.func53 (by kernel_rfl) rfl #[.int .u32 a0_0, .int .i64 x5_1] rfl (by (try simp only [List.map_toArray, List.map_cons, List.map_nil]); first | done | rfl | (simp only [List.length_drop, List.length_take]; rfl)) ?_; (with_reducible refine (gueriteref03_bit.calls a0_0 x5_1 t127 _ A9.out).mono ?_); rintro e w' ⟨rfl, ⟨nd, rfl⟩⟩; refine ⟨_, rfl, ?_⟩) | ((with_reducible refine gate_callee (f := 53) rfl ?_); refine goesL_ (some 21) rfl rfl Try.func53 (by kernel_rfl) rfl #[.int .u32 a1, .int .i64 x5_1] rfl (by (try simp only [List.map_toArray, List.map_cons, List.map_nil]); first | done | rfl | (simp only [List.length_drop, List.length_take]; rfl)) ?_; (with_reducible refine (gueriteref03_bit.calls a1 x5_1 t128 _ A10.out).mono ?_); rintro e w' ⟨rfl, ⟨nd, rfl⟩⟩; refine ⟨_, rfl, ?_⟩))
            go_roundg k1
            case measure => have := HK1.out; omega
            case rel => exact ⟨(wrap64 (x5_1 + 1)), (by first | rfl | (simp; done) | (simp [*]; done)), H', ⟨by have := HK1.out; omega⟩, ⟨by (with_reducible repeat (first | refine blk_drewN ?_ _ | refine blk_drew ?_ | refine blk_alloc ?_ _)); exact BK125.out⟩, ⟨by repeat (first | (with_reducible first | exact HB.out | apply below_alloc | apply pw_below_drewN | apply below_drew1 | refine below_set ?_ GE125.out) | exact HB.out)⟩⟩
          · rw [if_neg c11] at H
            have c11b0 : (t127 == t128) = false := beq_eq_false_iff_ne.mpr c11
            have c11b1 : (t127 != t128) = true := bne_iff_ne.mpr c11
            obtain rfl := Option.some.inj H
            have hcz13_0 : wr.cell? ⟨gb125, 0, none⟩ = some (.int .u32 a0_0) := (blk_cell BK125.out 0).trans rfl
            have hcz13_1 : wr.cell? ⟨gb125, 1, none⟩ = some (.int .i64 a0_1) := (blk_cell BK125.out 1).trans rfl
            have hfz13_0 := blk_frozen BK125.out 0
            have hfz13_1 := blk_frozen BK125.out 1
            go_wp2_with (first | ((with_reducible refine gate_callee (f := 53) rfl ?_); refine goesL_ (some 18) rfl rfl Try.func53 (by kernel_rfl) rfl #[.int .u32 a0_0, .int .i64 x5_1] rfl (by (try simp only [List.map_toArray, List.map_cons, List.map_nil]); first | done | rfl | (simp only [List.length_drop, List.length_take]; rfl)) ?_; (with_reducible refine (gueriteref03_bit.calls a0_0 x5_1 t127 _ A9.out).mono ?_); rintro e w' ⟨rfl, ⟨nd, rfl⟩⟩; refine ⟨_, rfl, ?_⟩) | ((with_reducible refine gate_callee (f := 53) rfl ?_); refine goesL_ (some 21) rfl rfl Try.func53 (by kernel_rfl) rfl #[.int .u32 a1, .int .i64 x5_1] rfl (by (try simp only [List.map_toArray, List.map_cons, List.map_nil]); first | done | rfl | (simp only [List.length_drop, List.length_take]; rfl)) ?_; (with_reducible refine (gueriteref03_bit.calls a1 x5_1 t128 _ A10.out).mono ?_); rintro e w' ⟨rfl, ⟨nd, rfl⟩⟩; refine ⟨_, rfl, ?_⟩))
            go_ret
            exact ⟨by first | rfl | (simp [errW_none, errW_some] <;> rfl) | (simp [*, errW_none, errW_some] <;> rfl), by repeat (first | (with_reducible first | exact HB.out | apply below_alloc | apply pw_below_drewN | apply below_drew1 | refine below_set ?_ GE125.out) | exact HB.out)⟩
        · rw [if_neg c8] at H
          have c8b0 : decide (x5_1 < a0_1) = false := decide_eq_false c8
          clear c8
          obtain rfl := Option.some.inj H
          have hcz14_0 : wr.cell? ⟨gb125, 0, none⟩ = some (.int .u32 a0_0) := (blk_cell BK125.out 0).trans rfl
          have hcz14_1 : wr.cell? ⟨gb125, 1, none⟩ = some (.int .i64 a0_1) := (blk_cell BK125.out 1).trans rfl
          have hfz14_0 := blk_frozen BK125.out 0
          have hfz14_1 := blk_frozen BK125.out 1
          go_wp2
          go_ret
          exact ⟨by first | rfl | (simp [errW_none, errW_some] <;> rfl) | (simp [*, errW_none, errW_some] <;> rfl), by repeat (first | (with_reducible first | exact HB.out | apply below_alloc | apply pw_below_drewN | apply below_drew1 | refine below_set ?_ GE125.out) | exact HB.out)⟩
  · replace c4 := Bool.eq_false_iff.mpr c4
    subst c4
    have H1 : (some false) = some r := by rw [if_neg (show ¬ (false = true) by decide)] at H; exact H
    clear H
    have H := H1
    clear H1
    obtain rfl := Option.some.inj H
    go_enter Try.func30, Try.ntmps30
    go_wp2_with (first | ((with_reducible refine gate_dst (N := 2) rfl ?_); refine box_event ?hg (N := 2) ?hd (cs := #[.int .u32 a0_0, .int .i64 a0_1]) (t := 29) ?hr ?_; (case hd => rfl); (case hg => rfl); (case hr => first | (go_simp; done) | (go_simp; rfl)); intro gb125 hg w15 hbox hb; have n0_ := Aside0.mk (below_step (by repeat (first | (with_reducible first | exact HB.out | apply below_alloc | apply pw_below_drewN | apply below_drew1) | exact HB.out)) hb); have n1_ := Aside0.mk (hbox); have n2_ := Aside0.mk ((by rw [hg]; exact (below_size (by repeat (first | (with_reducible first | exact HB.out | apply below_alloc | apply pw_below_drewN | apply below_drew1) | exact HB.out))) : w.heap.size ≤ gb125)); have n3_ := Aside0.mk ((by rw [hg]; exact (below_size (by repeat (first | (with_reducible first | exact HB.out | apply below_alloc | apply pw_below_drewN | apply below_drew1) | exact HB.out))) : w.heap.size ≤ gb125)); clear HB; have HB := n0_; have BK125 := n1_; have GW125 := n2_; have GE125 := n3_; clear n0_ n1_ n2_ n3_; clear hb hbox hg; have hcz16_0 : w15.cell? ⟨gb125, 0, none⟩ = some (.int .u32 a0_0) := (blk_cell BK125.out 0).trans rfl; have hcz16_1 : w15.cell? ⟨gb125, 1, none⟩ = some (.int .i64 a0_1) := (blk_cell BK125.out 1).trans rfl; have hfz16_0 := blk_frozen BK125.out 0; have hfz16_1 := blk_frozen BK125.out 1) | ((with_reducible refine gate_callee (f := 33) rfl ?_); refine goesL_ (some 7) rfl rfl Try.func33 (by kernel_rfl) rfl #[.agg #[.int .u32 a0_0, .int .i64 a0_1]] rfl (by (try simp only [List.map_toArray, List.map_cons, List.map_nil]); first | done | rfl | (simp only [List.length_drop, List.length_take]; rfl)) ?_; (with_reducible refine (gueriteref03_Right.calls k a0_0 a0_1 false _ A3.out).mono ?_); rintro e w17 ⟨rfl, hb⟩; refine ⟨_, rfl, ?_⟩; have n0_ := Aside0.mk (blk_below (g := gb125) (o := .cells #[.int .u32 a0_0, .int .i64 a0_1] 29 (0, 0)) (by (with_reducible repeat (first | refine blk_drewN ?_ _ | refine blk_drew ?_ | refine blk_alloc ?_ _)); exact BK125.out) hb); have n1_ := Aside0.mk (below_step (by repeat (first | (with_reducible first | exact HB.out | apply below_alloc | apply pw_below_drewN | apply below_drew1 | refine below_set ?_ GE125.out) | exact HB.out)) hb); clear BK125; clear HB; have BK125 := n0_; have HB := n1_; clear n0_ n1_; (try clear hb); (try clear hb2); (try clear hk); (try clear hi)))
    go_ret
    exact ⟨by first | rfl | (simp [errW_none, errW_some] <;> rfl) | (simp [*, errW_none, errW_some] <;> rfl), by repeat (first | (with_reducible first | exact HB.out | apply below_alloc | apply pw_below_drewN | apply below_drew1 | refine below_set ?_ GE125.out) | exact HB.out)⟩

end Go.Proofs.Ytakfnghakbjncaa.P
