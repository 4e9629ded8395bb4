-- Written by a program of this session (xprint.py), over the kit's print; not trusted: Lean checks it.
import Derived.Test.YtakfnghakbjncaaPx0
import Derived.Test.YtakfnghakbjncaaPx2
import Derived.Test.YtakfnghakbjncaaPx10
namespace Go.Proofs.Ytakfnghakbjncaa.P
open Go.RowKit Go.Proofs.YtakfnghakbjncaaW.PrintWords Go.Proofs.YtakfnghakbjncaaW.PrintLast Go.Proofs.YtakfnghakbjncaaW.PrintMore
attribute [local go_sem] max2_int min2_int max_two min_two max_three min_three max_four min_four   -- for this text's walks alone
set_option linter.unusedVariables false
set_option linter.unusedSimpArgs false

/-! ### guard_Reach: function 18 -/
mutual
def guard_Reach.l0 : Nat → List (S31) → Int → List (List Bool) → Int → Int → Option ((List (List Bool)))
  | 0, _, _, _, _, _ => none
  | k + 1, x0, x1, x5, x16, x17 => if x17 < x16 then (if 0 ≤ x1 then (if (x1 : Int).toNat ≤ 281474976710656 then (if 0 ≤ x17 then (if x17 < (x5.length : Int) then ((some (x5.set (x17 : Int).toNat (List.replicate (x1 : Int).toNat false) : List (List Bool))).bind fun y183 => (if x17 < ((rd_L6 y183 x17).length : Int) then (guard_Reach.l0 k x0 x1 (y183.set (x17 : Int).toNat ((rd_L6 y183 x17).set (x17 : Int).toNat true)) x16 (wrap64 (x17 + 1))) else (none))) else (none)) else (none)) else (none)) else (none)) else (guard_Reach.l1 k x1 x5 x0 (x0.length : Int) 0)
def guard_Reach.l1 : Nat → Int → List (List Bool) → List (S31) → Int → Int → Option ((List (List Bool)))
  | 0, _, _, _, _, _ => none
  | k + 1, x1, x5, x32, x33, x34 => if x34 < x33 then (if 0 ≤ x34 then (if x34 < (x32.length : Int) then ((guard_right.f x1 ((rd_T31 x32 x34).f0) ((rd_T31 x32 x34).f1) ((rd_T31 x32 x34).f2.f0) ((rd_T31 x32 x34).f2.f1) ((rd_T31 x32 x34).f3.f0) ((rd_T31 x32 x34).f3.f1) ((rd_T31 x32 x34).f4) ((rd_T31 x32 x34).f5)).bind fun t190 => (if t190 = true then (guard_Reach.l2 k x1 x5 x32 x33 x34 (x5.length : Int) 0 ((rd_T31 x32 x34).f0) ((rd_T31 x32 x34).f1) ((rd_T31 x32 x34).f2.f0) ((rd_T31 x32 x34).f2.f1) ((rd_T31 x32 x34).f3.f0) ((rd_T31 x32 x34).f3.f1) ((rd_T31 x32 x34).f4) ((rd_T31 x32 x34).f5)) else (guard_Reach.l1 k x1 x5 x32 x33 (wrap64 (x34 + 1))))) else (none)) else (none)) else (some x5)
def guard_Reach.l2 : Nat → Int → List (List Bool) → List (S31) → Int → Int → Int → Int → Int → Int → Int → Int → Int → Int → Int → Int → Option ((List (List Bool)))
  | 0, _, _, _, _, _, _, _, _, _, _, _, _, _, _, _ => none
  | k + 1, x1, x5, x32, x33, x34, x43, x44, x190000, x190001, x190002, x190003, x190004, x190005, x190006, x190007 => if x44 < x43 then ((guard_wide.f x190001 x44).bind fun t191 => (if t191 = true then (if 0 ≤ x44 then (if x44 < (x5.length : Int) then (if 0 ≤ x190007 then (if x190007 < ((rd_L6 x5 x44).length : Int) then ((some (x5.set (x44 : Int).toNat ((rd_L6 x5 x44).set (x190007 : Int).toNat true) : List (List Bool))).bind fun y195 => (if x190001 = x44 then (guard_Reach.l1 k x1 y195 x32 x33 (wrap64 (x34 + 1))) else (guard_Reach.l2 k x1 y195 x32 x33 x34 x43 (wrap64 (x44 + 1)) x190000 x190001 x190002 x190003 x190004 x190005 x190006 x190007))) else (none)) else (none)) else (none)) else (none)) else (guard_Reach.l2 k x1 x5 x32 x33 x34 x43 (wrap64 (x44 + 1)) x190000 x190001 x190002 x190003 x190004 x190005 x190006 x190007))) else (guard_Reach.l1 k x1 x5 x32 x33 (wrap64 (x34 + 1)))
end
def guard_Reach.f (k : Nat) (l0 : List (S31)) (a1 : Int) : Option ((List (List Bool))) := if 0 ≤ (mn (mx a1 0) 16) then (if (mn (mx a1 0) 16 : Int).toNat ≤ 11728124029610 then ((some (List.replicate (mn (mx a1 0) 16 : Int).toNat [] : List (List Bool))).bind fun y177 => (guard_Reach.l0 k l0 (mn (mx a1 0) 16) y177 (y177.length : Int) 0)) else (none)) else (none)
theorem guard_Reach.mono_l : ∀ k, (∀ y0 y1 y2 y3 y4, LeO (guard_Reach.l0 k y0 y1 y2 y3 y4) (guard_Reach.l0 (k + 1) y0 y1 y2 y3 y4)) ∧ (∀ y0 y1 y2 y3 y4, LeO (guard_Reach.l1 k y0 y1 y2 y3 y4) (guard_Reach.l1 (k + 1) y0 y1 y2 y3 y4)) ∧ (∀ y0 y1 y2 y3 y4 y5 y6 y7 y8 y9 y10 y11 y12 y13 y14, LeO (guard_Reach.l2 k y0 y1 y2 y3 y4 y5 y6 y7 y8 y9 y10 y11 y12 y13 y14) (guard_Reach.l2 (k + 1) y0 y1 y2 y3 y4 y5 y6 y7 y8 y9 y10 y11 y12 y13 y14))
  | 0 => ⟨fun _ _ _ _ _ r h => by simp [guard_Reach.l0] at h, fun _ _ _ _ _ r h => by simp [guard_Reach.l1] at h, fun _ _ _ _ _ _ _ _ _ _ _ _ _ _ _ r h => by simp [guard_Reach.l2] at h⟩
  | k + 1 => by
    obtain ⟨ih0, ih1, ih2⟩ := guard_Reach.mono_l k
    refine ⟨?_, ?_, ?_⟩
    · intro y0 y1 y2 y3 y4
      unfold guard_Reach.l0
      repeat' first
      | (with_reducible exact ih0 _ _ _ _ _)
      | (with_reducible exact ih1 _ _ _ _ _)
      | (with_reducible exact ih2 _ _ _ _ _ _ _ _ _ _ _ _ _ _ _)
      | (with_reducible exact LeO.refl _)
      | (with_reducible exact LeO.none _)
      | (with_reducible refine LeO.ite ?_ ?_)
      | (with_reducible refine LeO.bind ?_ (fun _ => ?_))
      | exact ih0 _ _ _ _ _
      | exact ih1 _ _ _ _ _
      | exact ih2 _ _ _ _ _ _ _ _ _ _ _ _ _ _ _
      | exact LeO.none _
      | refine LeO.ite ?_ ?_
      | refine LeO.bind ?_ (fun _ => ?_)
    · intro y0 y1 y2 y3 y4
      unfold guard_Reach.l1
      repeat' first
      | (with_reducible exact ih0 _ _ _ _ _)
      | (with_reducible exact ih1 _ _ _ _ _)
      | (with_reducible exact ih2 _ _ _ _ _ _ _ _ _ _ _ _ _ _ _)
      | (with_reducible exact LeO.refl _)
      | (with_reducible exact LeO.none _)
      | (with_reducible refine LeO.ite ?_ ?_)
      | (with_reducible refine LeO.bind ?_ (fun _ => ?_))
      | exact ih0 _ _ _ _ _
      | exact ih1 _ _ _ _ _
      | exact ih2 _ _ _ _ _ _ _ _ _ _ _ _ _ _ _
      | exact LeO.none _
      | refine LeO.ite ?_ ?_
      | refine LeO.bind ?_ (fun _ => ?_)
    · intro y0 y1 y2 y3 y4 y5 y6 y7 y8 y9 y10 y11 y12 y13 y14
      unfold guard_Reach.l2
      repeat' first
      | (with_reducible exact ih0 _ _ _ _ _)
      | (with_reducible exact ih1 _ _ _ _ _)
      | (with_reducible exact ih2 _ _ _ _ _ _ _ _ _ _ _ _ _ _ _)
      | (with_reducible exact LeO.refl _)
      | (with_reducible exact LeO.none _)
      | (with_reducible refine LeO.ite ?_ ?_)
      | (with_reducible refine LeO.bind ?_ (fun _ => ?_))
      | exact ih0 _ _ _ _ _
      | exact ih1 _ _ _ _ _
      | exact ih2 _ _ _ _ _ _ _ _ _ _ _ _ _ _ _
      | exact LeO.none _
      | refine LeO.ite ?_ ?_
      | refine LeO.bind ?_ (fun _ => ?_)
theorem guard_Reach.mono : ∀ a0 a1 k, LeO (guard_Reach.f k a0 a1) (guard_Reach.f (k + 1) a0 a1) := by
  intro a0 a1 k
  obtain ⟨ih0, ih1, ih2⟩ := guard_Reach.mono_l k
  unfold guard_Reach.f
  repeat' first
      | (with_reducible exact ih0 _ _ _ _ _)
      | (with_reducible exact ih1 _ _ _ _ _)
      | (with_reducible exact ih2 _ _ _ _ _ _ _ _ _ _ _ _ _ _ _)
      | (with_reducible exact LeO.refl _)
      | (with_reducible exact LeO.none _)
      | (with_reducible refine LeO.ite ?_ ?_)
      | (with_reducible refine LeO.bind ?_ (fun _ => ?_))
      | exact ih0 _ _ _ _ _
      | exact ih1 _ _ _ _ _
      | exact ih2 _ _ _ _ _ _ _ _ _ _ _ _ _ _ _
      | exact LeO.none _
      | refine LeO.ite ?_ ?_
      | refine LeO.bind ?_ (fun _ => ?_)
def guard_Reach.T17 : Bool × List (List Nat × List Nat) := (true, [([], []), ([], []), ([0, 1], [0, 1]), ([2], [2]), ([], []), ([4], [4]), ([3, 5, 0, 1, 2, 3, 4, 5], [3, 5]), ([6, 0, 1, 2, 3, 4, 5], [6])])
def guard_Reach.B17 : List Nat := [0, 0, 3, 7, 0, 16, 63, 127]
theorem guard_Reach.tab17 : rtab .any (opsOf Try.f18 17) = guard_Reach.T17 := by kernel_rfl
theorem guard_Reach.bits17 : waitsOk guard_Reach.T17.2 guard_Reach.B17 = true := by kernel_rfl
set_option maxHeartbeats 8000000 in
set_option maxRecDepth 100000 in
theorem guard_Reach.calls (k : Nat) (A0 : Option Addr) (c0 : Nat) (l0 : List (S31)) (a1 : Int) (r : List (List Bool)) (w : World) (hr0 : Kd.C k31 w A0 l0.length l0) (hc0 : l0.length ≤ c0) (h : guard_Reach.f k l0 a1 = some r) :
    Calls Try.prog 18 #[.slice A0 l0.length c0, .int .i64 a1] w fun e w' => ∃ v0_ : Value, e = .returned (v0_) ∧ Kd.S (Kd.slice 4 Kd.bool) 38 w' w.heap.size (fun _ => True) v0_ r ∧ Below w.heap.size w w' := by
  have hu31 := Try.underlying31
  have HR0 := Aside0.mk hr0
  have HC0 := Aside0.mk hc0
  clear hr0 hc0
  have HB := Aside0.mk (Below.refl w.heap.size w)
  have H : (if 0 ≤ (mn (mx a1 0) 16) then (if (mn (mx a1 0) 16 : Int).toNat ≤ 11728124029610 then ((some (List.replicate (mn (mx a1 0) 16 : Int).toNat [] : List (List Bool))).bind fun y177 => (guard_Reach.l0 k l0 (mn (mx a1 0) 16) y177 (y177.length : Int) 0)) else (none)) else (none)) = some r := h
  clear h
  obtain ⟨ji3, hji3⟩ : ∃ j_ : Int, (mx a1 0) = j_ := ⟨_, rfl⟩
  replace H : (if 0 ≤ (mn (ji3) 16) then (if (mn (ji3) 16 : Int).toNat ≤ 11728124029610 then ((some (List.replicate (mn (ji3) 16 : Int).toNat [] : List (List Bool))).bind fun y177 => (guard_Reach.l0 k l0 (mn (ji3) 16) y177 (y177.length : Int) 0)) else (none)) else (none)) = some r := by first | (rw [hji3] at H; exact H) | (simp only [hji3] at H ⊢; exact H)
  (try (have hji3l : 0 ≤ ji3 := by (rw [← hji3]; unfold mx; (repeat' split) <;> omega)))
  (try (have hji3m : 0 ≤ ji3 := by omega))
  have hji3_ : (if a1 < 0 then 0 else a1) = ji3 := hji3
  obtain ⟨ji4, hji4⟩ : ∃ j_ : Int, (mn (ji3) 16) = j_ := ⟨_, rfl⟩
  replace H : (if 0 ≤ (ji4) then (if (ji4 : Int).toNat ≤ 11728124029610 then ((some (List.replicate (ji4 : Int).toNat [] : List (List Bool))).bind fun y177 => (guard_Reach.l0 k l0 ji4 y177 (y177.length : Int) 0)) else (none)) else (none)) = some r := by first | (rw [hji4] at H; exact H) | (simp only [hji4] at H ⊢; exact H)
  have hji4_ : (if 16 < (ji3) then 16 else (ji3)) = ji4 := hji4
  by_cases c5 : 0 ≤ (ji4)
  · rw [if_pos c5] at H
    have c5b0 := eq_true c5
    have c5b1 : decide (0 ≤ (ji4)) = true := decide_eq_true c5
    clear c5
    by_cases c6 : (ji4 : Int).toNat ≤ 11728124029610
    · rw [if_pos c6] at H
      have c6b0 := eq_true c6
      have c6b1 : decide ((ji4 : Int).toNat ≤ 11728124029610) = true := decide_eq_true c6
      clear c6
      obtain ⟨y177, hy177⟩ : ∃ y_ : List (List Bool), y_ = (List.replicate (ji4 : Int).toNat []) := ⟨_, rfl⟩
      replace H : (guard_Reach.l0 k l0 ji4 y177 (y177.length : Int) 0) = some r := by first | (rw [hy177]; with_reducible exact H) | (have H2_ := (Option.bind_some _ _).symm.trans H; rw [hy177]; with_reducible exact H2_) | (have H2_ := (Option.bind_some _ _).symm.trans H; with_reducible exact H2_) | with_reducible exact H | (rw [hy177]; exact H) | exact H
      have Ny177 := Aside0.mk hy177
      clear hy177
      have H' := Aside0.mk H
      clear H
      go_enter Try.func18, Try.ntmps18
      go_wp2
      go_step3
      go_wp2_with (first | ((with_reducible refine gate_dst (N := 14) rfl ?_); refine Kd.S_make (Kd.slice 4 Kd.bool) _ 38 rfl (N := 14) rfl 36 _ _ rfl ji4 rfl rfl Try.underlying36 (.slice none 0 0) 24 info38 rfl (by decide) (by omega) [] (ok := fun _ => True) (okp := fun _ => True) ⟨_, rfl, Kd.R_nil _ _ _ _ _⟩ (fun _ hk => hk) trivial (of_decide_eq_true (by first | (with_reducible assumption) | assumption)) (Nat.le_trans (Nat.mul_le_mul_right _ (of_decide_eq_true (by first | (with_reducible assumption) | assumption) : ji4.toNat ≤ 11728124029610)) (by omega)) (Below.refl _ _) (Nat.le_refl _) ?_; intro v178 w7 ho8 hb hg_ hnew_; clear hg_ hnew_; (first | rw [← Ny177.out] at ho8 | (simp only [Int.reduceToNat] at ho8; rw [← Ny177.out] at ho8)); have n0_ := Aside0.mk (Kd.S_lower ho8 (below_size (by repeat (first | (with_reducible first | exact HB.out | apply below_alloc | apply pw_below_drewN | apply below_drew1) | exact HB.out)))); have n1_ := Aside0.mk (below_step (by repeat (first | (with_reducible first | exact HB.out | apply below_alloc | apply pw_below_drewN | apply below_drew1) | exact HB.out)) hb); clear HB; have HO179 := n0_; have HB := n1_; clear n0_ n1_; clear hb ho8; obtain ⟨Ao9, co9, eo9⟩ := Kd.S_slice HO179.out; subst eo9))
      go_loopg [17] k (fun kq v17 w' => ∃ (x5_1 : List (List Bool)) (x17_1 : Int), v17 = .int .i64 x17_1 ∧ Aside0 (guard_Reach.l0 kq l0 ji4 x5_1 (y177.length : Int) x17_1 = some r) ∧ Aside0 (kq ≤ k) ∧ Aside0 (Kd.S (Kd.slice 4 Kd.bool) 38 w' w.heap.size (fun _ => True) (.slice Ao9 y177.length co9) x5_1) ∧ Aside0 (Below w.heap.size w w'))
      case atStart => exact ⟨(y177), (0), (by first | rfl | (simp; done) | (simp [*]; done)), H', ⟨Nat.le_refl _⟩, ⟨by (with_reducible repeat (first | apply Kd.S_alloc | apply Kd.S_drewN | apply Kd.S_drew)); exact HO179.out⟩, ⟨by repeat (first | (with_reducible first | exact HB.out | apply below_alloc | apply pw_below_drewN | apply below_drew1) | exact HB.out)⟩⟩
      case round =>
        clear H'
        try clear c1
        try clear p2
        try clear c5
        try clear c5b0
        try clear c5b1
        try clear c6
        try clear c6b0
        try clear c6b1
        obtain ⟨x5_1, x17_1, rfl, HA, HK1, HO_5, HB⟩ := hrel
        have hl5_1 := (Kd.S_reads' HO_5.out).1
        rw [hl5_1] at HO_5
        (try simp only [hl5_1])
        cases gk with
        | zero => exact absurd HA.out (by simp [guard_Reach.l0])
        | succ k1 =>
          have H := HA.out
          clear HA
          simp only [guard_Reach.l0] at H
          by_cases c10 : x17_1 < (y177.length : Int)
          · rw [if_pos c10] at H
            have c10b0 : decide (x17_1 < (y177.length : Int)) = true := decide_eq_true c10
            clear c10
            by_cases c11 : 0 ≤ ji4
            · rw [if_pos c11] at H
              have c11b0 := eq_true c11
              have c11b1 : decide (0 ≤ ji4) = true := decide_eq_true c11
              clear c11
              by_cases c12 : (ji4 : Int).toNat ≤ 281474976710656
              · rw [if_pos c12] at H
                have c12b0 := eq_true c12
                have c12b1 : decide ((ji4 : Int).toNat ≤ 281474976710656) = true := decide_eq_true c12
                clear c12
                obtain ⟨y180, hy180⟩ : ∃ y_ : List Bool, y_ = (List.replicate (ji4 : Int).toNat false) := ⟨_, rfl⟩
                replace H : (if 0 ≤ x17_1 then (if x17_1 < (x5_1.length : Int) then ((some (x5_1.set (x17_1 : Int).toNat y180 : List (List Bool))).bind fun y183 => (if x17_1 < ((rd_L6 y183 x17_1).length : Int) then (guard_Reach.l0 k1 l0 ji4 (y183.set (x17_1 : Int).toNat ((rd_L6 y183 x17_1).set (x17_1 : Int).toNat true)) (y177.length : Int) (wrap64 (x17_1 + 1))) else (none))) else (none)) else (none)) = some r := by first | (rw [hy180]; with_reducible exact H) | (have H2_ := (Option.bind_some _ _).symm.trans H; rw [hy180]; with_reducible exact H2_) | (have H2_ := (Option.bind_some _ _).symm.trans H; with_reducible exact H2_) | with_reducible exact H | (rw [hy180]; exact H) | exact H
                have Ny180 := Aside0.mk hy180
                clear hy180
                by_cases c13 : 0 ≤ x17_1
                · rw [if_pos c13] at H
                  have c13b0 : decide (0 ≤ x17_1) = true := decide_eq_true c13
                  clear c13
                  by_cases c14 : x17_1 < (x5_1.length : Int)
                  · rw [if_pos c14] at H
                    have c14b0 : decide (x17_1 < (x5_1.length : Int)) = true := decide_eq_true c14
                    clear c14
                    obtain ⟨y183, hy183⟩ : ∃ y_ : List (List Bool), y_ = (x5_1.set (x17_1 : Int).toNat y180) := ⟨_, rfl⟩
                    replace H : (if x17_1 < ((rd_L6 y183 x17_1).length : Int) then (guard_Reach.l0 k1 l0 ji4 (y183.set (x17_1 : Int).toNat ((rd_L6 y183 x17_1).set (x17_1 : Int).toNat true)) (y177.length : Int) (wrap64 (x17_1 + 1))) else (none)) = some r := by first | (rw [hy183]; with_reducible exact H) | (have H2_ := (Option.bind_some _ _).symm.trans H; rw [hy183]; with_reducible exact H2_) | (have H2_ := (Option.bind_some _ _).symm.trans H; with_reducible exact H2_) | with_reducible exact H | (rw [hy183]; exact H) | exact H
                    have Ny183 := Aside0.mk hy183
                    clear hy183
                    by_cases c16 : x17_1 < ((rd_L6 y183 x17_1).length : Int)
                    · rw [if_pos c16] at H
                      have c16b0 : decide (x17_1 < ((rd_L6 y183 x17_1).length : Int)) = true := decide_eq_true c16
                      clear c16
                      obtain ⟨y185, hy185⟩ : ∃ y_ : List Bool, y_ = ((rd_L6 y183 x17_1).set (x17_1 : Int).toNat true) := ⟨_, rfl⟩
                      replace H : (guard_Reach.l0 k1 l0 ji4 (y183.set (x17_1 : Int).toNat y185) (y177.length : Int) (wrap64 (x17_1 + 1))) = some r := by first | (rw [hy185]; with_reducible exact H) | (have H2_ := (Option.bind_some _ _).symm.trans H; rw [hy185]; with_reducible exact H2_) | (have H2_ := (Option.bind_some _ _).symm.trans H; with_reducible exact H2_) | with_reducible exact H | (rw [hy185]; exact H) | exact H
                      have Ny185 := Aside0.mk hy185
                      clear hy185
                      obtain ⟨y187, hy187⟩ : ∃ y_ : List (List Bool), y_ = (y183.set (x17_1 : Int).toNat y185) := ⟨_, rfl⟩
                      replace H : (guard_Reach.l0 k1 l0 ji4 y187 (y177.length : Int) (wrap64 (x17_1 + 1))) = some r := by first | (rw [hy187]; with_reducible exact H) | (have H2_ := (Option.bind_some _ _).symm.trans H; rw [hy187]; with_reducible exact H2_) | (have H2_ := (Option.bind_some _ _).symm.trans H; with_reducible exact H2_) | with_reducible exact H | (rw [hy187]; exact H) | exact H
                      have Ny187 := Aside0.mk hy187
                      clear hy187
                      have H' := Aside0.mk H
                      clear H
                      go_wp2_with (first | ((with_reducible refine gate_dst (N := 23) rfl ?_); refine Kd.R_make Kd.bool _ 4 rfl (N := 23) rfl 38 _ _ rfl ji4 rfl rfl Try.underlying38 (.bool false) 1 info4 rfl (by decide) (by omega) false (ok := fun _ => True) (okp := fun _ => True) rfl (fun _ hk => hk) trivial (of_decide_eq_true (by first | (with_reducible assumption) | assumption)) (Nat.le_trans (Nat.mul_le_mul_right _ (of_decide_eq_true (by first | (with_reducible assumption) | assumption) : ji4.toNat ≤ 281474976710656)) (by omega)) (Below.refl _ _) (Nat.le_refl _) ?_; intro v181 w18 ho19 hb hg_ hnew_; clear hg_ hnew_; (first | rw [← Ny180.out] at ho19 | (simp only [Int.reduceToNat] at ho19; rw [← Ny180.out] at ho19)); have n0_ := Aside0.mk (Kd.S_elder' (by (with_reducible repeat (first | apply Kd.S_alloc | apply Kd.S_drewN | apply Kd.S_drew)); exact HO_5.out) (Kd.R_base ho19) hb); have n1_ := Aside0.mk (Kd.R_lower ho19 (below_size (by repeat (first | (with_reducible first | exact HB.out | apply below_alloc | apply pw_below_drewN | apply below_drew1) | exact HB.out)))); have n2_ := Aside0.mk (below_step (by repeat (first | (with_reducible first | exact HB.out | apply below_alloc | apply pw_below_drewN | apply below_drew1) | exact HB.out)) hb); clear HO_5; clear HB; have HO_5 := n0_; have HO182 := n1_; have HB := n2_; clear n0_ n1_ n2_; clear hb ho19; have p15 : 0 ≤ (x17_1 : Int) := of_decide_eq_true (by first | (with_reducible assumption) | assumption); have q15 : (x17_1 : Int) < ((x5_1.length : Int) : Int) := of_decide_eq_true (by first | (with_reducible assumption) | assumption); obtain ⟨go15, co15, eo15, gb15, gl15, cl15, HG15⟩ := Kd.S_form HO_5.out (by omega); (first | cases eo15 | (injection eo15 with ea_ en_ ec_; (first | subst ea_ | (injection ea_ with ea_; subst ea_)); subst ec_; clear en_)); have GB15 := Aside0.mk gb15; have GG15 := Aside0.mk HG15; clear gb15 gl15 HG15; obtain ⟨_, ce15, hcl15, hM15, hcc15, hfr15, _, _⟩ := Kd.S_elem HO_5.out [] (x17_1 : Int) p15 q15; obtain ⟨ve15_0, rfl, ge15_0⟩ := hM15; have hx15_0 := hcc15 0 _ rfl; have hf15_0 := hfr15 0; (try simp only [show ((Kd.slice 4 Kd.bool)).sz = 1 from rfl, Nat.mul_one, Nat.add_zero] at hx15_0); (try simp only [show ((Kd.slice 4 Kd.bool)).sz = 1 from rfl, Nat.mul_one, Nat.add_zero] at hf15_0); clear hcl15 hcc15 hfr15; (try clear hM15); replace p15 := eq_true p15; replace q15 := eq_true q15; have n_ := Aside0.mk (Kd.S_mono (ok' := (fun k_ => some k_ ≠ (v181 : Value).ownBlock)) HO_5.out (fun k_ hk => hk.2)); clear HO_5; have HO_5 := n_; clear n_; have HX20 := Aside0.mk (show Kd.S (Kd.slice 4 Kd.bool) 38 w18 w.heap.size (fun k_ => ((fun _ => True)) k_ ∧ ¬ ((fun k_ => some k_ = (v181 : Value).ownBlock)) k_) (.slice (some ⟨go15, 0, none⟩) x5_1.length co9) x5_1 from (by (with_reducible repeat (first | apply Kd.S_alloc | apply Kd.S_drewN | apply Kd.S_drew)); exact Kd.S_mono HO_5.out (fun k_ hk => ⟨trivial, fun e_ => hk e_⟩))); obtain ⟨oki20, ce20, hcl20, hM20, hcc20, hfr20, hoki20, hH20⟩ := Kd.S_elem HX20.out [] (x17_1 : Int) (of_decide_eq_true (by first | (with_reducible assumption) | assumption)) (by have h_ : (x17_1 : Int) < ((x5_1.length : Int) : Int) := of_decide_eq_true (by first | (with_reducible assumption) | assumption); first | exact h_ | (have e_ := (Kd.S_reads' HO_5.out).1; omega) | simpa using h_); obtain ⟨ve20_0, rfl, ge20_0⟩ := hM20; have HP20 := Kd.S_seg hH20 (of_decide_eq_true (by first | (with_reducible assumption) | assumption)) (by have h_ : (x17_1 : Int) < ((x5_1.length : Int) : Int) := of_decide_eq_true (by first | (with_reducible assumption) | assumption); first | exact h_ | (have e_ := (Kd.S_reads' HO_5.out).1; omega) | simpa using h_) (seg := [v181]) (j := 0) (show 1 ≤ 1 from by decide) (x' := y180) (Kd.M_row (Kd.R_mono (Kd.R_tight rfl (Kd.R_mono (ok' := fun k_ => ((fun _ => True)) k_ ∧ k_ ≠ go15) (Kd.R_apart' (HO182.out) (Kd.S_typed HO_5.out) (by decide)) (fun k_ hk => ⟨trivial, fun e_ => (hk.2) (by rw [e_]; rfl)⟩))) (fun _ h_ => Or.inr (h_)))) (fun _ hk => hk) (fun k_ hk_ => ((Kd.R_mono (ok' := fun k_ => ((fun _ => True)) k_ ∧ k_ ≠ go15) (Kd.R_apart' (HO182.out) (Kd.S_typed HO_5.out) (by decide)) (fun k_ hk => ⟨trivial, fun e_ => (hk.2) (by rw [e_]; rfl)⟩))).1 k_ hk_.symm); have hx20_0 := hcc20 0 _ rfl; (try simp only [show ((Kd.slice 4 Kd.bool)).sz = 1 from rfl, Nat.mul_one, Nat.add_zero] at hx20_0); have hf20_0 := hfr20 0; (try simp only [show ((Kd.slice 4 Kd.bool)).sz = 1 from rfl, Nat.mul_one, Nat.add_zero] at hf20_0); clear hcl20 hcc20 hfr20 hoki20 hH20; (try clear hM20); (try simp only [show ((Kd.slice 4 Kd.bool)).sz = 1 from rfl, Nat.mul_one, Nat.add_zero] at HP20)) | ((with_reducible refine gate_store (t := 38) (p := 24) rfl ?_); refine store_event (t := 38) (p := 24) (v := ?vo_w21) (w1 := (w18.setCell ⟨go15, (x17_1 : Int).toNat, none⟩ (v181))) ?hg ?ho ?hn ?hr ?_; (case ho => rfl); (case hg => rfl); (case hn => rfl); (case hr => first | (go_simp; done) | (go_simp; rfl) | (obtain ⟨av_, cv_, ev_⟩ := Kd.R_slice (show Aside0 (Kd.R _ _ _ _ _ v181 _) by assumption).out; rw [ev_]; go_simp; done) | (obtain ⟨av_, cv_, ev_⟩ := Kd.R_slice (show Aside0 (Kd.R _ _ _ _ _ v181 _) by assumption).out; rw [ev_]; go_simp; rfl)); intro w21 hw; have hg : w18.grownBy w21 (some go15) := (by rw [hw]; exact HP20.2); have hp_ : Kd.S (Kd.slice 4 Kd.bool) 38 w21 w.heap.size (fun _ => True) (.slice (some ⟨go15, 0, none⟩) x5_1.length co9) y183 := (by rw [hw, Ny183.out]; exact HP20.1); clear HP20; have n0_ := Aside0.mk (hp_); have n1_ := Aside0.mk ((by rw [hw]; exact below_set (HB.out) GB15.out : Below w.heap.size w w21)); clear HO_5; clear HB; clear HO182; have HO_5 := n0_; have HB := n1_; clear n0_ n1_; clear hg hw hp_; have p184 : 0 ≤ (x17_1 : Int) := of_decide_eq_true (by first | (with_reducible assumption) | assumption); have q184 : x17_1 < (y183.length : Int) := (by have h_ : (x17_1 : Int) < ((x5_1.length : Int) : Int) := of_decide_eq_true (by first | (with_reducible assumption) | assumption); first | (have e_ := (Kd.S_reads' HO_5.out).1; omega) | simpa only [Ny183.out, List.length_set] using h_); have ql184 : ((x17_1 : Int) < ((x5_1.length : Int) : Int)) = True := eq_true (of_decide_eq_true (by first | (with_reducible assumption) | assumption)); obtain ⟨ad184, A184_0, c184_0, e184, hx184_0, hl184_0, hi184_0⟩ := at_L6 (Kd.S_reads' HO_5.out).2.2 x17_1 p184 q184; obtain rfl : (⟨go15, 0, none⟩ : Addr) = ad184 := (by injection e184); obtain ⟨ce184, hce184, hMe184, hcc184⟩ := Kd.S_get HO_5.out [] x17_1 p184 (by first | exact q184 | exact of_decide_eq_true (by first | (with_reducible assumption) | assumption) | (have e_ := (Kd.S_reads' HO_5.out).1; omega)); obtain ⟨ve184_0, rfl, ge184_0⟩ := hMe184; have hv184_0 := hcc184 0 _ rfl; rw [Nat.add_zero, show ((Kd.slice 4 Kd.bool)).sz = 1 from rfl, Nat.mul_one] at hv184_0; replace hv184_0 := Option.some.inj (hv184_0.symm.trans hx184_0); rw [hv184_0] at ge184_0; have HL184_0 := Aside0.mk (show Kd.R Kd.bool 4 _ _ _ _ (rd_L6 y183 x17_1) from ge184_0); clear hv184_0 ge184_0; have HX184_0 := Aside0.mk hx184_0; clear hcc184 hce184; (first | simp only [add_plain] at hx184_0 | simp only [add_at] at hx184_0 | simp only [Addr.add, Nat.zero_add] at hx184_0 | skip); have HR184_0 := Aside0.mk hi184_0; have HC184_0 := Aside0.mk hl184_0; clear hi184_0 hl184_0; replace p184 := eq_true p184; replace q184 := eq_true q184; have p17 : 0 ≤ (x17_1 : Int) := of_decide_eq_true (by first | (with_reducible assumption) | assumption); have q17 : (x17_1 : Int) < (((rd_L6 y183 x17_1).length : Int) : Int) := of_decide_eq_true (by first | (with_reducible assumption) | assumption); obtain ⟨go17, co17, eo17, gb17, gl17, cl17, HG17⟩ := Kd.R_form HL184_0.out (by omega); (first | cases eo17 | (injection eo17 with ea_ en_ ec_; (first | subst ea_ | (injection ea_ with ea_; subst ea_)); subst ec_; clear en_)); have GB17 := Aside0.mk gb17; have GG17 := Aside0.mk HG17; clear gb17 gl17 HG17; obtain ⟨hx17_0, hf17_0⟩ := Kd.R_celln false HL184_0.out (x17_1 : Int) p17 q17; replace p17 := eq_true p17; replace q17 := eq_true q17; have hq22 : (x17_1 : Int) < (y183.length : Int) := (by have h_ : (x17_1 : Int) < ((x5_1.length : Int) : Int) := of_decide_eq_true (by first | (with_reducible assumption) | assumption); first | exact h_ | (have e_ := (Kd.S_reads' HO_5.out).1; omega) | simpa only [Ny183.out, List.length_set] using h_); obtain ⟨oki22, ce22, hcl22, hM22, hcc22, hok22, hbk22⟩ := Kd.S_borrow HO_5.out [] (x17_1 : Int) (of_decide_eq_true (by first | (with_reducible assumption) | assumption)) (by first | exact hq22 | (have h_ := hq22; have e_ := (Kd.S_reads' HO_5.out).1; omega)); obtain ⟨ve22_0, rfl, ge22_0⟩ := hM22; have hv22 := hcc22 0 _ rfl; rw [Nat.add_zero, show ((Kd.slice 4 Kd.bool)).sz = 1 from rfl, Nat.mul_one] at hv22; replace hv22 := Option.some.inj (hv22.symm.trans HX184_0.out); subst hv22; clear hcc22 hcl22; replace ge22_0 := (show Kd.R Kd.bool 4 _ _ _ _ (rd_L6 y183 x17_1) from ge22_0); have HP22 := Kd.R_putg ge22_0 (x17_1 : Int) true) | ((with_reducible refine gate_store (t := 4) (p := 30) rfl ?_); refine store_event (t := 4) (p := 30) (v := ?vo_w23) (w1 := (w21.setCell ⟨go17, (x17_1 : Int).toNat, none⟩ (.bool true))) ?hg ?ho ?hn ?hr ?_; (case ho => rfl); (case hg => rfl); (case hn => rfl); (case hr => first | (go_simp; done) | (go_simp; rfl)); intro w23 hw; have hg : w21.grownBy w23 (some go17) := (by rw [hw]; exact HP22.2); have hz_ : Kd.R Kd.bool 4 w23 w.heap.size oki22 (.slice (some ⟨go17, 0, none⟩) (rd_L6 y183 x17_1).length c184_0) y185 := (by rw [hw, Ny185.out]; exact HP22.1); have hp_ : Kd.S (Kd.slice 4 Kd.bool) 38 w23 w.heap.size (fun _ => True) (.slice (some ⟨go15, 0, none⟩) x5_1.length co9) y187 := (by rw [Ny187.out]; exact hbk22 hg (fun k_ e_ => by injection e_ with e_; subst e_; exact ge22_0.1 _ rfl) (Kd.M_row hz_)); have hm_ := Kd.R_mono hz_ hok22; clear HP22 hbk22; have n0_ := Aside0.mk (hp_); have n1_ := Aside0.mk ((by rw [hw]; exact below_set (HB.out) GB17.out : Below w.heap.size w w23)); have n2_ := Aside0.mk (hm_); have n3_ := Aside0.mk ((Kd.R_reads' hm_).2.1); clear HO_5; clear HB; clear HL184_0; have HO_5 := n0_; have HB := n1_; have HL196 := n2_; have HC186 := n3_; clear n0_ n1_ n2_ n3_; clear hg hw hp_ hz_ hm_ hok22))
                      (try simp only [← hl5_1])
                      go_roundg k1
                      case measure => have := HK1.out; omega
                      case rel => exact ⟨(y187), (wrap64 (x17_1 + 1)), (by first | rfl | (simp; done) | (simp [*]; done)), H', ⟨by have := HK1.out; omega⟩, ⟨by (try simp only [hl5_1]); (with_reducible repeat (first | apply Kd.S_alloc | apply Kd.S_drewN | apply Kd.S_drew)); exact HO_5.out⟩, ⟨by repeat (first | (with_reducible first | exact HB.out | apply below_alloc | apply pw_below_drewN | apply below_drew1) | exact HB.out)⟩⟩
                    · rw [if_neg c16] at H
                      exact absurd H (by simp)
                  · rw [if_neg c14] at H
                    exact absurd H (by simp)
                · rw [if_neg c13] at H
                  exact absurd H (by simp)
              · rw [if_neg c12] at H
                exact absurd H (by simp)
            · rw [if_neg c11] at H
              exact absurd H (by simp)
          · rw [if_neg c10] at H
            have c10b0 : decide (x17_1 < (y177.length : Int)) = false := decide_eq_false c10
            clear c10
            (try simp only [hl5_1] at c10b0)
            have H' := Aside0.mk H
            clear H
            go_wp2
            go_step3
            go_wp2
            go_loopg [34] k1 (fun kq v34 w' => ∃ (x5_2 : List (List Bool)) (x34_2 : Int), v34 = .int .i64 x34_2 ∧ Aside0 (guard_Reach.l1 kq ji4 x5_2 l0 (l0.length : Int) x34_2 = some r) ∧ Aside0 (kq ≤ k1) ∧ Aside0 (Kd.S (Kd.slice 4 Kd.bool) 38 w' w.heap.size (fun _ => True) (.slice Ao9 x5_1.length co9) x5_2) ∧ Aside0 (Below w.heap.size w w'))
            case atStart => exact ⟨(x5_1), (0), (by first | rfl | (simp; done) | (simp [*]; done)), H', ⟨Nat.le_refl _⟩, ⟨by (try simp only [hl5_1]); (with_reducible repeat (first | apply Kd.S_alloc | apply Kd.S_drewN | apply Kd.S_drew)); exact HO_5.out⟩, ⟨by repeat (first | (with_reducible first | exact HB.out | apply below_alloc | apply pw_below_drewN | apply below_drew1) | exact HB.out)⟩⟩
            case round =>
              clear H'
              try clear c1
              try clear p1
              try clear q1
              try clear hx1
              try clear c2
              try clear p2
              try clear q2
              try clear hx2
              try clear hf2
              try clear c5
              try clear c5b0
              try clear c5b1
              try clear c6
              try clear c6b0
              try clear c6b1
              try clear p6
              try clear c10
              try clear c10b0
              try clear c11
              try clear c11b0
              try clear c11b1
              try clear c12
              try clear c12b0
              try clear c12b1
              try clear c13
              try clear c13b0
              try clear c14
              try clear c14b0
              try clear c15
              try clear p15
              try clear q15
              try clear hx15
              try clear hf15
              try clear c16
              try clear c16b0
              try clear p17
              try clear q17
              try clear hx17
              try clear hf17
              try clear c18
              try clear p18
              try clear q18
              try clear hx18
              try clear c20
              try clear hx20
              try clear hf20
              try clear c22
              try clear q22
              try clear hx15_0
              try clear hx17_0
              try clear hx184_0
              try clear hx20_0
              try clear p15
              try clear p17
              try clear p184
              try clear p2
              try clear q15
              try clear q17
              try clear q184
              obtain ⟨x5_2, x34_2, rfl, HA, HK2, HO_5, HB⟩ := hrel
              have hl5_2 := (Kd.S_reads' HO_5.out).1
              rw [hl5_2] at HO_5
              (try simp only [hl5_2])
              cases gk with
              | zero => exact absurd HA.out (by simp [guard_Reach.l1])
              | succ k2 =>
                have H := HA.out
                clear HA
                simp only [guard_Reach.l1] at H
                by_cases c24 : x34_2 < (l0.length : Int)
                · rw [if_pos c24] at H
                  have c24b0 : decide (x34_2 < (l0.length : Int)) = true := decide_eq_true c24
                  clear c24
                  by_cases c25 : 0 ≤ x34_2
                  · rw [if_pos c25] at H
                    have c25b0 : decide (0 ≤ x34_2) = true := decide_eq_true c25
                    clear c25
                    by_cases c26 : x34_2 < (l0.length : Int)
                    · rw [if_pos c26] at H
                      have c26b0 : decide (x34_2 < (l0.length : Int)) = true := decide_eq_true c26
                      clear c26
                      replace H := Option.bind_eq_some_iff.mp H
                      obtain ⟨t190, A270, H⟩ := H
                      replace H : (if t190 = true then (guard_Reach.l2 k2 ji4 x5_2 l0 (l0.length : Int) x34_2 (x5_2.length : Int) 0 ((rd_T31 l0 x34_2).f0) ((rd_T31 l0 x34_2).f1) ((rd_T31 l0 x34_2).f2.f0) ((rd_T31 l0 x34_2).f2.f1) ((rd_T31 l0 x34_2).f3.f0) ((rd_T31 l0 x34_2).f3.f1) ((rd_T31 l0 x34_2).f4) ((rd_T31 l0 x34_2).f5)) else (guard_Reach.l1 k2 ji4 x5_2 l0 (l0.length : Int) (wrap64 (x34_2 + 1)))) = some r := H
                      have A27 := Aside0.mk A270
                      clear A270
                      by_cases c28 : t190 = true
                      · subst c28
                        have H1 : (guard_Reach.l2 k2 ji4 x5_2 l0 (l0.length : Int) x34_2 (x5_2.length : Int) 0 ((rd_T31 l0 x34_2).f0) ((rd_T31 l0 x34_2).f1) ((rd_T31 l0 x34_2).f2.f0) ((rd_T31 l0 x34_2).f2.f1) ((rd_T31 l0 x34_2).f3.f0) ((rd_T31 l0 x34_2).f3.f1) ((rd_T31 l0 x34_2).f4) ((rd_T31 l0 x34_2).f5)) = some r := by rw [if_pos rfl] at H; exact H
                        clear H
                        have H := H1
                        clear H1
                        have H' := Aside0.mk H
                        clear H
                        have p188 : 0 ≤ (x34_2 : Int) := of_decide_eq_true (by first | (with_reducible assumption) | assumption)
                        have q188 : x34_2 < (l0.length : Int) := of_decide_eq_true (by first | (with_reducible assumption) | assumption)
                        obtain ⟨ad188, e188, hx188_0, hx188_1, hx188_2, hx188_3, hx188_4, hx188_5, hx188_6, hx188_7⟩ := at_T31 HR0.out x34_2 p188 q188
                        cases e188
                        replace hx188_0 := (HB.out.cell (World.block_lt_of_cell? w _ hx188_0)).trans hx188_0
                        replace hx188_1 := (HB.out.cell (World.block_lt_of_cell? w _ hx188_1)).trans hx188_1
                        replace hx188_2 := (HB.out.cell (World.block_lt_of_cell? w _ hx188_2)).trans hx188_2
                        replace hx188_3 := (HB.out.cell (World.block_lt_of_cell? w _ hx188_3)).trans hx188_3
                        replace hx188_4 := (HB.out.cell (World.block_lt_of_cell? w _ hx188_4)).trans hx188_4
                        replace hx188_5 := (HB.out.cell (World.block_lt_of_cell? w _ hx188_5)).trans hx188_5
                        replace hx188_6 := (HB.out.cell (World.block_lt_of_cell? w _ hx188_6)).trans hx188_6
                        replace hx188_7 := (HB.out.cell (World.block_lt_of_cell? w _ hx188_7)).trans hx188_7
                        replace p188 := eq_true p188
                        replace q188 := eq_true q188
                        go_wp2_with (first | ((with_reducible refine gate_dst (N := 8) rfl ?_); refine box_event ?hg (N := 8) ?hd (cs := #[.int .i64 0, .int .i64 0, .int .u32 0, .int .i64 0, .int .u32 0, .int .i64 0, .int .i64 0, .int .i64 0]) (t := 31) ?hr ?_; (case hd => rfl); (case hg => rfl); (case hr => first | (go_simp; done) | (go_simp; rfl)); intro gb189 hg w29 hbox hb; have n0_ := Aside0.mk (Kd.S_below (by (with_reducible repeat (first | apply Kd.S_alloc | apply Kd.S_drewN | apply Kd.S_drew)); exact HO_5.out) hb); have n1_ := Aside0.mk (below_step (by repeat (first | (with_reducible first | exact HB.out | apply below_alloc | apply pw_below_drewN | apply below_drew1) | exact HB.out)) hb); have n2_ := Aside0.mk (hbox); have n3_ := Aside0.mk ((by rw [hg]; exact (below_size (by repeat (first | (with_reducible first | exact HB.out | apply below_alloc | apply pw_below_drewN | apply below_drew1) | exact HB.out))) : w.heap.size ≤ gb189)); have n4_ := Aside0.mk ((by rw [hg]; exact (below_size (by repeat (first | (with_reducible first | exact HB.out | apply below_alloc | apply pw_below_drewN | apply below_drew1) | exact HB.out))) : w.heap.size ≤ gb189)); clear HO_5; clear HB; have HO_5 := n0_; have HB := n1_; have BK189 := n2_; have GW189 := n3_; have GE189 := n4_; clear n0_ n1_ n2_ n3_ n4_; clear hb hbox hg; have hcz30_0 : w29.cell? ⟨gb189, 0, none⟩ = some (.int .i64 0) := (blk_cell BK189.out 0).trans rfl; have hcz30_1 : w29.cell? ⟨gb189, 1, none⟩ = some (.int .i64 0) := (blk_cell BK189.out 1).trans rfl; have hcz30_2 : w29.cell? ⟨gb189, 2, none⟩ = some (.int .u32 0) := (blk_cell BK189.out 2).trans rfl; have hcz30_3 : w29.cell? ⟨gb189, 3, none⟩ = some (.int .i64 0) := (blk_cell BK189.out 3).trans rfl; have hcz30_4 : w29.cell? ⟨gb189, 4, none⟩ = some (.int .u32 0) := (blk_cell BK189.out 4).trans rfl; have hcz30_5 : w29.cell? ⟨gb189, 5, none⟩ = some (.int .i64 0) := (blk_cell BK189.out 5).trans rfl; have hcz30_6 : w29.cell? ⟨gb189, 6, none⟩ = some (.int .i64 0) := (blk_cell BK189.out 6).trans rfl; have hcz30_7 : w29.cell? ⟨gb189, 7, none⟩ = some (.int .i64 0) := (blk_cell BK189.out 7).trans rfl; have hfz30_0 := blk_frozen BK189.out 0; have hfz30_1 := blk_frozen BK189.out 1; have hfz30_2 := blk_frozen BK189.out 2; have hfz30_3 := blk_frozen BK189.out 3; have hfz30_4 := blk_frozen BK189.out 4; have hfz30_5 := blk_frozen BK189.out 5; have hfz30_6 := blk_frozen BK189.out 6; have hfz30_7 := blk_frozen BK189.out 7) | ((with_reducible refine gate_callee (f := 38) rfl ?_); refine goesL_ (some 40) rfl rfl Try.func38 (by kernel_rfl) rfl #[.int .i64 ji4, .agg #[.int .i64 ((rd_T31 l0 x34_2).f0), .int .i64 ((rd_T31 l0 x34_2).f1), .int .u32 ((rd_T31 l0 x34_2).f2.f0), .int .i64 ((rd_T31 l0 x34_2).f2.f1), .int .u32 ((rd_T31 l0 x34_2).f3.f0), .int .i64 ((rd_T31 l0 x34_2).f3.f1), .int .i64 ((rd_T31 l0 x34_2).f4), .int .i64 ((rd_T31 l0 x34_2).f5)]] rfl (by (try simp only [List.map_toArray, List.map_cons, List.map_nil]); first | done | (simp only [hji4]; rfl) | rfl | (simp only [List.length_drop, List.length_take]; rfl)) ?_; (with_reducible refine (guard_right.calls ji4 ((rd_T31 l0 x34_2).f0) ((rd_T31 l0 x34_2).f1) ((rd_T31 l0 x34_2).f2.f0) ((rd_T31 l0 x34_2).f2.f1) ((rd_T31 l0 x34_2).f3.f0) ((rd_T31 l0 x34_2).f3.f1) ((rd_T31 l0 x34_2).f4) ((rd_T31 l0 x34_2).f5) true _ A27.out).mono ?_); rintro e w31 ⟨rfl, hb⟩; refine ⟨_, rfl, ?_⟩; have n0_ := Aside0.mk (Kd.S_below (by (with_reducible repeat (first | apply Kd.S_alloc | apply Kd.S_drewN | apply Kd.S_drew)); exact (Kd.S_mono (Kd.S_far (p := ⟨gb189, 7, none⟩) (Kd.S_far (p := ⟨gb189, 6, none⟩) (Kd.S_far (p := ⟨gb189, 5, none⟩) (Kd.S_far (p := ⟨gb189, 4, none⟩) (Kd.S_far (p := ⟨gb189, 3, none⟩) (Kd.S_far (p := ⟨gb189, 2, none⟩) (Kd.S_far (p := ⟨gb189, 1, none⟩) (Kd.S_far (p := ⟨gb189, 0, none⟩) (Kd.S_types HO_5.out BK189.out (by decide)) (fun _ hk => hk.2) (.int .i64 ((rd_T31 l0 x34_2).f0))) (fun _ hk => hk.2) (.int .i64 ((rd_T31 l0 x34_2).f1))) (fun _ hk => hk.2) (.int .u32 ((rd_T31 l0 x34_2).f2.f0))) (fun _ hk => hk.2) (.int .i64 ((rd_T31 l0 x34_2).f2.f1))) (fun _ hk => hk.2) (.int .u32 ((rd_T31 l0 x34_2).f3.f0))) (fun _ hk => hk.2) (.int .i64 ((rd_T31 l0 x34_2).f3.f1))) (fun _ hk => hk.2) (.int .i64 ((rd_T31 l0 x34_2).f4))) (fun _ hk => hk.2) (.int .i64 ((rd_T31 l0 x34_2).f5))) (fun _ h_ => h_.1))) hb); have n1_ := Aside0.mk (blk_below (g := gb189) (o := .cells #[.int .i64 ((rd_T31 l0 x34_2).f0), .int .i64 ((rd_T31 l0 x34_2).f1), .int .u32 ((rd_T31 l0 x34_2).f2.f0), .int .i64 ((rd_T31 l0 x34_2).f2.f1), .int .u32 ((rd_T31 l0 x34_2).f3.f0), .int .i64 ((rd_T31 l0 x34_2).f3.f1), .int .i64 ((rd_T31 l0 x34_2).f4), .int .i64 ((rd_T31 l0 x34_2).f5)] 31 (0, 0)) (by (with_reducible repeat (first | refine blk_drewN ?_ _ | refine blk_drew ?_ | refine blk_alloc ?_ _)); refine blk_put (cs := #[.int .i64 ((rd_T31 l0 x34_2).f0), .int .i64 ((rd_T31 l0 x34_2).f1), .int .u32 ((rd_T31 l0 x34_2).f2.f0), .int .i64 ((rd_T31 l0 x34_2).f2.f1), .int .u32 ((rd_T31 l0 x34_2).f3.f0), .int .i64 ((rd_T31 l0 x34_2).f3.f1), .int .i64 ((rd_T31 l0 x34_2).f4), .int .i64 0]) ?_ 7 _ rfl; (with_reducible repeat (first | refine blk_drewN ?_ _ | refine blk_drew ?_ | refine blk_alloc ?_ _)); refine blk_put (cs := #[.int .i64 ((rd_T31 l0 x34_2).f0), .int .i64 ((rd_T31 l0 x34_2).f1), .int .u32 ((rd_T31 l0 x34_2).f2.f0), .int .i64 ((rd_T31 l0 x34_2).f2.f1), .int .u32 ((rd_T31 l0 x34_2).f3.f0), .int .i64 ((rd_T31 l0 x34_2).f3.f1), .int .i64 0, .int .i64 0]) ?_ 6 _ rfl; (with_reducible repeat (first | refine blk_drewN ?_ _ | refine blk_drew ?_ | refine blk_alloc ?_ _)); refine blk_put (cs := #[.int .i64 ((rd_T31 l0 x34_2).f0), .int .i64 ((rd_T31 l0 x34_2).f1), .int .u32 ((rd_T31 l0 x34_2).f2.f0), .int .i64 ((rd_T31 l0 x34_2).f2.f1), .int .u32 ((rd_T31 l0 x34_2).f3.f0), .int .i64 0, .int .i64 0, .int .i64 0]) ?_ 5 _ rfl; (with_reducible repeat (first | refine blk_drewN ?_ _ | refine blk_drew ?_ | refine blk_alloc ?_ _)); refine blk_put (cs := #[.int .i64 ((rd_T31 l0 x34_2).f0), .int .i64 ((rd_T31 l0 x34_2).f1), .int .u32 ((rd_T31 l0 x34_2).f2.f0), .int .i64 ((rd_T31 l0 x34_2).f2.f1), .int .u32 0, .int .i64 0, .int .i64 0, .int .i64 0]) ?_ 4 _ rfl; (with_reducible repeat (first | refine blk_drewN ?_ _ | refine blk_drew ?_ | refine blk_alloc ?_ _)); refine blk_put (cs := #[.int .i64 ((rd_T31 l0 x34_2).f0), .int .i64 ((rd_T31 l0 x34_2).f1), .int .u32 ((rd_T31 l0 x34_2).f2.f0), .int .i64 0, .int .u32 0, .int .i64 0, .int .i64 0, .int .i64 0]) ?_ 3 _ rfl; (with_reducible repeat (first | refine blk_drewN ?_ _ | refine blk_drew ?_ | refine blk_alloc ?_ _)); refine blk_put (cs := #[.int .i64 ((rd_T31 l0 x34_2).f0), .int .i64 ((rd_T31 l0 x34_2).f1), .int .u32 0, .int .i64 0, .int .u32 0, .int .i64 0, .int .i64 0, .int .i64 0]) ?_ 2 _ rfl; (with_reducible repeat (first | refine blk_drewN ?_ _ | refine blk_drew ?_ | refine blk_alloc ?_ _)); refine blk_put (cs := #[.int .i64 ((rd_T31 l0 x34_2).f0), .int .i64 0, .int .u32 0, .int .i64 0, .int .u32 0, .int .i64 0, .int .i64 0, .int .i64 0]) ?_ 1 _ rfl; (with_reducible repeat (first | refine blk_drewN ?_ _ | refine blk_drew ?_ | refine blk_alloc ?_ _)); refine blk_put (cs := #[.int .i64 0, .int .i64 0, .int .u32 0, .int .i64 0, .int .u32 0, .int .i64 0, .int .i64 0, .int .i64 0]) ?_ 0 _ rfl; (with_reducible repeat (first | refine blk_drewN ?_ _ | refine blk_drew ?_ | refine blk_alloc ?_ _)); exact BK189.out) hb); have n2_ := Aside0.mk (below_step (by repeat (first | (with_reducible first | exact HB.out | apply below_alloc | apply pw_below_drewN | apply below_drew1 | refine below_set ?_ GE189.out) | exact HB.out)) hb); clear HO_5; clear BK189; clear HB; have HO_5 := n0_; have BK189 := n1_; have HB := n2_; clear n0_ n1_ n2_; (try clear hb); (try clear hb2); (try clear hk); (try clear hi)))
                        go_loopg [44] k2 (fun kq v44 w' => ∃ (x5_3 : List (List Bool)) (x44_3 : Int), v44 = .int .i64 x44_3 ∧ Aside0 (guard_Reach.l2 kq ji4 x5_3 l0 (l0.length : Int) x34_2 (x5_2.length : Int) x44_3 ((rd_T31 l0 x34_2).f0) ((rd_T31 l0 x34_2).f1) ((rd_T31 l0 x34_2).f2.f0) ((rd_T31 l0 x34_2).f2.f1) ((rd_T31 l0 x34_2).f3.f0) ((rd_T31 l0 x34_2).f3.f1) ((rd_T31 l0 x34_2).f4) ((rd_T31 l0 x34_2).f5) = some r) ∧ Aside0 (kq ≤ k2) ∧ Aside0 (Kd.S (Kd.slice 4 Kd.bool) 38 w' w.heap.size (fun _ => True) (.slice Ao9 x5_2.length co9) x5_3) ∧ Aside0 (w'.heap[gb189]? = some (.cells #[.int .i64 ((rd_T31 l0 x34_2).f0), .int .i64 ((rd_T31 l0 x34_2).f1), .int .u32 ((rd_T31 l0 x34_2).f2.f0), .int .i64 ((rd_T31 l0 x34_2).f2.f1), .int .u32 ((rd_T31 l0 x34_2).f3.f0), .int .i64 ((rd_T31 l0 x34_2).f3.f1), .int .i64 ((rd_T31 l0 x34_2).f4), .int .i64 ((rd_T31 l0 x34_2).f5)] 31 (0, 0))) ∧ Aside0 (Below w.heap.size w w'))
                        case atStart => exact ⟨(x5_2), (0), (by first | rfl | (simp; done) | (simp [*]; done)), H', ⟨Nat.le_refl _⟩, ⟨by (try simp only [hl5_1]); (try simp only [hl5_2]); (with_reducible repeat (first | apply Kd.S_alloc | apply Kd.S_drewN | apply Kd.S_drew)); exact HO_5.out⟩, ⟨by (try simp only [hl5_1]); (try simp only [hl5_2]); (with_reducible repeat (first | refine blk_drewN ?_ _ | refine blk_drew ?_ | refine blk_alloc ?_ _)); exact BK189.out⟩, ⟨by repeat (first | (with_reducible first | exact HB.out | apply below_alloc | apply pw_below_drewN | apply below_drew1 | refine below_set ?_ GE189.out) | exact HB.out)⟩⟩
                        case round =>
                          clear H'
                          try clear c1
                          try clear p1
                          try clear q1
                          try clear hx1
                          try clear c2
                          try clear p2
                          try clear q2
                          try clear hx2
                          try clear hf2
                          try clear c3
                          try clear c5
                          try clear c5b0
                          try clear c5b1
                          try clear c6
                          try clear c6b0
                          try clear c6b1
                          try clear p6
                          try clear c10
                          try clear c10b0
                          try clear c11
                          try clear c11b0
                          try clear c11b1
                          try clear c12
                          try clear c12b0
                          try clear c12b1
                          try clear c13
                          try clear c13b0
                          try clear c14
                          try clear c14b0
                          try clear c15
                          try clear p15
                          try clear q15
                          try clear hx15
                          try clear hf15
                          try clear c16
                          try clear c16b0
                          try clear p17
                          try clear q17
                          try clear hx17
                          try clear hf17
                          try clear c18
                          try clear p18
                          try clear q18
                          try clear hx18
                          try clear c20
                          try clear hx20
                          try clear hf20
                          try clear c22
                          try clear q22
                          try clear c24
                          try clear c24b0
                          try clear c25
                          try clear c25b0
                          try clear c26
                          try clear c26b0
                          try clear c28
                          try clear hcz30_0
                          try clear hcz30_1
                          try clear hcz30_2
                          try clear hcz30_3
                          try clear hcz30_4
                          try clear hcz30_5
                          try clear hcz30_6
                          try clear hcz30_7
                          try clear hfz30_0
                          try clear hfz30_1
                          try clear hfz30_2
                          try clear hfz30_3
                          try clear hfz30_4
                          try clear hfz30_5
                          try clear hfz30_6
                          try clear hfz30_7
                          try clear hx15_0
                          try clear hx17_0
                          try clear hx184_0
                          try clear hx188_0
                          try clear hx188_1
                          try clear hx188_2
                          try clear hx188_3
                          try clear hx188_4
                          try clear hx188_5
                          try clear hx188_6
                          try clear hx188_7
                          try clear hx20_0
                          try clear p1
                          try clear p15
                          try clear p17
                          try clear p18
                          try clear p184
                          try clear p188
                          try clear p2
                          try clear p6
                          try clear q1
                          try clear q15
                          try clear q17
                          try clear q18
                          try clear q184
                          try clear q188
                          try clear q2
                          try clear q22
                          obtain ⟨x5_3, x44_3, rfl, HA, HK3, HO_5, BK189, HB⟩ := hrel
                          have hl5_3 := (Kd.S_reads' HO_5.out).1
                          rw [hl5_3] at HO_5
                          (try simp only [hl5_3])
                          (try simp only [hl5_3] at BK189)
                          cases gk with
                          | zero => exact absurd HA.out (by simp [guard_Reach.l2])
                          | succ k3 =>
                            have H := HA.out
                            clear HA
                            simp only [guard_Reach.l2] at H
                            by_cases c32 : x44_3 < (x5_2.length : Int)
                            · rw [if_pos c32] at H
                              have c32b0 : decide (x44_3 < (x5_2.length : Int)) = true := decide_eq_true c32
                              clear c32
                              replace H := Option.bind_eq_some_iff.mp H
                              obtain ⟨t191, A330, H⟩ := H
                              replace H : (if t191 = true then (if 0 ≤ x44_3 then (if x44_3 < (x5_3.length : Int) then (if 0 ≤ ((rd_T31 l0 x34_2).f5) then (if ((rd_T31 l0 x34_2).f5) < ((rd_L6 x5_3 x44_3).length : Int) then ((some (x5_3.set (x44_3 : Int).toNat ((rd_L6 x5_3 x44_3).set (((rd_T31 l0 x34_2).f5) : Int).toNat true) : List (List Bool))).bind fun y195 => (if ((rd_T31 l0 x34_2).f1) = x44_3 then (guard_Reach.l1 k3 ji4 y195 l0 (l0.length : Int) (wrap64 (x34_2 + 1))) else (guard_Reach.l2 k3 ji4 y195 l0 (l0.length : Int) x34_2 (x5_2.length : Int) (wrap64 (x44_3 + 1)) ((rd_T31 l0 x34_2).f0) ((rd_T31 l0 x34_2).f1) ((rd_T31 l0 x34_2).f2.f0) ((rd_T31 l0 x34_2).f2.f1) ((rd_T31 l0 x34_2).f3.f0) ((rd_T31 l0 x34_2).f3.f1) ((rd_T31 l0 x34_2).f4) ((rd_T31 l0 x34_2).f5)))) else (none)) else (none)) else (none)) else (none)) else (guard_Reach.l2 k3 ji4 x5_3 l0 (l0.length : Int) x34_2 (x5_2.length : Int) (wrap64 (x44_3 + 1)) ((rd_T31 l0 x34_2).f0) ((rd_T31 l0 x34_2).f1) ((rd_T31 l0 x34_2).f2.f0) ((rd_T31 l0 x34_2).f2.f1) ((rd_T31 l0 x34_2).f3.f0) ((rd_T31 l0 x34_2).f3.f1) ((rd_T31 l0 x34_2).f4) ((rd_T31 l0 x34_2).f5))) = some r := H
                              have A33 := Aside0.mk A330
                              clear A330
                              by_cases c34 : t191 = true
                              · subst c34
                                have H1 : (if 0 ≤ x44_3 then (if x44_3 < (x5_3.length : Int) then (if 0 ≤ ((rd_T31 l0 x34_2).f5) then (if ((rd_T31 l0 x34_2).f5) < ((rd_L6 x5_3 x44_3).length : Int) then ((some (x5_3.set (x44_3 : Int).toNat ((rd_L6 x5_3 x44_3).set (((rd_T31 l0 x34_2).f5) : Int).toNat true) : List (List Bool))).bind fun y195 => (if ((rd_T31 l0 x34_2).f1) = x44_3 then (guard_Reach.l1 k3 ji4 y195 l0 (l0.length : Int) (wrap64 (x34_2 + 1))) else (guard_Reach.l2 k3 ji4 y195 l0 (l0.length : Int) x34_2 (x5_2.length : Int) (wrap64 (x44_3 + 1)) ((rd_T31 l0 x34_2).f0) ((rd_T31 l0 x34_2).f1) ((rd_T31 l0 x34_2).f2.f0) ((rd_T31 l0 x34_2).f2.f1) ((rd_T31 l0 x34_2).f3.f0) ((rd_T31 l0 x34_2).f3.f1) ((rd_T31 l0 x34_2).f4) ((rd_T31 l0 x34_2).f5)))) else (none)) else (none)) else (none)) else (none)) = some r := by rw [if_pos rfl] at H; exact H
                                clear H
                                have H := H1
                                clear H1
                                by_cases c35 : 0 ≤ x44_3
                                · rw [if_pos c35] at H
                                  have c35b0 : decide (0 ≤ x44_3) = true := decide_eq_true c35
                                  clear c35
                                  by_cases c36 : x44_3 < (x5_3.length : Int)
                                  · rw [if_pos c36] at H
                                    have c36b0 : decide (x44_3 < (x5_3.length : Int)) = true := decide_eq_true c36
                                    clear c36
                                    by_cases c37 : 0 ≤ ((rd_T31 l0 x34_2).f5)
                                    · rw [if_pos c37] at H
                                      have c37b0 : decide (0 ≤ ((rd_T31 l0 x34_2).f5)) = true := decide_eq_true c37
                                      clear c37
                                      by_cases c38 : ((rd_T31 l0 x34_2).f5) < ((rd_L6 x5_3 x44_3).length : Int)
                                      · rw [if_pos c38] at H
                                        have c38b0 : decide (((rd_T31 l0 x34_2).f5) < ((rd_L6 x5_3 x44_3).length : Int)) = true := decide_eq_true c38
                                        clear c38
                                        obtain ⟨y193, hy193⟩ : ∃ y_ : List Bool, y_ = ((rd_L6 x5_3 x44_3).set (((rd_T31 l0 x34_2).f5) : Int).toNat true) := ⟨_, rfl⟩
                                        replace H : ((some (x5_3.set (x44_3 : Int).toNat y193 : List (List Bool))).bind fun y195 => (if ((rd_T31 l0 x34_2).f1) = x44_3 then (guard_Reach.l1 k3 ji4 y195 l0 (l0.length : Int) (wrap64 (x34_2 + 1))) else (guard_Reach.l2 k3 ji4 y195 l0 (l0.length : Int) x34_2 (x5_2.length : Int) (wrap64 (x44_3 + 1)) ((rd_T31 l0 x34_2).f0) ((rd_T31 l0 x34_2).f1) ((rd_T31 l0 x34_2).f2.f0) ((rd_T31 l0 x34_2).f2.f1) ((rd_T31 l0 x34_2).f3.f0) ((rd_T31 l0 x34_2).f3.f1) ((rd_T31 l0 x34_2).f4) ((rd_T31 l0 x34_2).f5)))) = some r := by first | (rw [hy193]; with_reducible exact H) | (have H2_ := (Option.bind_some _ _).symm.trans H; rw [hy193]; with_reducible exact H2_) | (have H2_ := (Option.bind_some _ _).symm.trans H; with_reducible exact H2_) | with_reducible exact H | (rw [hy193]; exact H) | exact H
                                        have Ny193 := Aside0.mk hy193
                                        clear hy193
                                        obtain ⟨y195, hy195⟩ : ∃ y_ : List (List Bool), y_ = (x5_3.set (x44_3 : Int).toNat y193) := ⟨_, rfl⟩
                                        replace H : (if ((rd_T31 l0 x34_2).f1) = x44_3 then (guard_Reach.l1 k3 ji4 y195 l0 (l0.length : Int) (wrap64 (x34_2 + 1))) else (guard_Reach.l2 k3 ji4 y195 l0 (l0.length : Int) x34_2 (x5_2.length : Int) (wrap64 (x44_3 + 1)) ((rd_T31 l0 x34_2).f0) ((rd_T31 l0 x34_2).f1) ((rd_T31 l0 x34_2).f2.f0) ((rd_T31 l0 x34_2).f2.f1) ((rd_T31 l0 x34_2).f3.f0) ((rd_T31 l0 x34_2).f3.f1) ((rd_T31 l0 x34_2).f4) ((rd_T31 l0 x34_2).f5))) = some r := by first | (rw [hy195]; with_reducible exact H) | (have H2_ := (Option.bind_some _ _).symm.trans H; rw [hy195]; with_reducible exact H2_) | (have H2_ := (Option.bind_some _ _).symm.trans H; with_reducible exact H2_) | with_reducible exact H | (rw [hy195]; exact H) | exact H
                                        have Ny195 := Aside0.mk hy195
                                        clear hy195
                                        by_cases c40 : ((rd_T31 l0 x34_2).f1) = x44_3
                                        · rw [if_pos c40] at H
                                          have c40b0 : (((rd_T31 l0 x34_2).f1) == x44_3) = true := beq_iff_eq.mpr c40
                                          have c40b1 : (((rd_T31 l0 x34_2).f1) != x44_3) = false := bne_eq_false_iff_eq.mpr c40
                                          clear c40
                                          have H' := Aside0.mk H
                                          clear H
                                          have hcz41_0 : wr.cell? ⟨gb189, 0, none⟩ = some (.int .i64 ((rd_T31 l0 x34_2).f0)) := (blk_cell BK189.out 0).trans rfl
                                          have hcz41_1 : wr.cell? ⟨gb189, 1, none⟩ = some (.int .i64 ((rd_T31 l0 x34_2).f1)) := (blk_cell BK189.out 1).trans rfl
                                          have hcz41_2 : wr.cell? ⟨gb189, 2, none⟩ = some (.int .u32 ((rd_T31 l0 x34_2).f2.f0)) := (blk_cell BK189.out 2).trans rfl
                                          have hcz41_3 : wr.cell? ⟨gb189, 3, none⟩ = some (.int .i64 ((rd_T31 l0 x34_2).f2.f1)) := (blk_cell BK189.out 3).trans rfl
                                          have hcz41_4 : wr.cell? ⟨gb189, 4, none⟩ = some (.int .u32 ((rd_T31 l0 x34_2).f3.f0)) := (blk_cell BK189.out 4).trans rfl
                                          have hcz41_5 : wr.cell? ⟨gb189, 5, none⟩ = some (.int .i64 ((rd_T31 l0 x34_2).f3.f1)) := (blk_cell BK189.out 5).trans rfl
                                          have hcz41_6 : wr.cell? ⟨gb189, 6, none⟩ = some (.int .i64 ((rd_T31 l0 x34_2).f4)) := (blk_cell BK189.out 6).trans rfl
                                          have hcz41_7 : wr.cell? ⟨gb189, 7, none⟩ = some (.int .i64 ((rd_T31 l0 x34_2).f5)) := (blk_cell BK189.out 7).trans rfl
                                          have hfz41_0 := blk_frozen BK189.out 0
                                          have hfz41_1 := blk_frozen BK189.out 1
                                          have hfz41_2 := blk_frozen BK189.out 2
                                          have hfz41_3 := blk_frozen BK189.out 3
                                          have hfz41_4 := blk_frozen BK189.out 4
                                          have hfz41_5 := blk_frozen BK189.out 5
                                          have hfz41_6 := blk_frozen BK189.out 6
                                          have hfz41_7 := blk_frozen BK189.out 7
                                          try go_wp2_with (first | ((with_reducible refine gate_callee (f := 31) rfl ?_); refine goesL_ (some 50) rfl rfl Try.func31 (by kernel_rfl) rfl #[.int .i64 ((rd_T31 l0 x34_2).f1), .int .i64 x44_3] rfl (by (try simp only [List.map_toArray, List.map_cons, List.map_nil]); first | done | rfl | (simp only [List.length_drop, List.length_take]; rfl)) ?_; (with_reducible refine (guard_wide.calls ((rd_T31 l0 x34_2).f1) x44_3 true _ A33.out).mono ?_); rintro e w' ⟨rfl, ⟨nd, rfl⟩⟩; refine ⟨_, rfl, ?_⟩; (try (rw [drewN_self wr]; generalize hq_ : World.drewN wr _ = wr; have n0_ : Aside0 (Kd.S (Kd.slice 4 Kd.bool) 38 wr w.heap.size (fun _ => True) (.slice Ao9 x5_3.length co9) x5_3) := ⟨by rw [← hq_]; exact (by (with_reducible repeat (first | apply Kd.S_alloc | apply Kd.S_drewN | apply Kd.S_drew)); exact HO_5.out)⟩; have n1_ : Aside0 (wr.heap[gb189]? = some (.cells #[.int .i64 ((rd_T31 l0 x34_2).f0), .int .i64 ((rd_T31 l0 x34_2).f1), .int .u32 ((rd_T31 l0 x34_2).f2.f0), .int .i64 ((rd_T31 l0 x34_2).f2.f1), .int .u32 ((rd_T31 l0 x34_2).f3.f0), .int .i64 ((rd_T31 l0 x34_2).f3.f1), .int .i64 ((rd_T31 l0 x34_2).f4), .int .i64 ((rd_T31 l0 x34_2).f5)] 31 (0, 0))) := ⟨by rw [← hq_]; exact (by (with_reducible repeat (first | refine blk_drewN ?_ _ | refine blk_drew ?_ | refine blk_alloc ?_ _)); exact BK189.out)⟩; have n2_ : Aside0 (Below w.heap.size w wr) := ⟨by rw [← hq_]; exact (by repeat (first | (with_reducible first | exact HB.out | apply below_alloc | apply pw_below_drewN | apply below_drew1 | refine below_set ?_ GE189.out) | exact HB.out))⟩; clear HO_5 BK189 HB hq_; have HO_5 := n0_; have BK189 := n1_; have HB := n2_; clear n0_ n1_ n2_))))
                                          have n0_ := Aside0.mk (Kd.S_drew HO_5.out)
                                          have n1_ := Aside0.mk (blk_drew BK189.out)
                                          have n2_ := Aside0.mk (below_drew1 HB.out)
                                          clear HO_5
                                          clear BK189
                                          clear HB
                                          have HO_5 := n0_
                                          have BK189 := n1_
                                          have HB := n2_
                                          clear n0_ n1_ n2_
                                          have p192 : 0 ≤ (x44_3 : Int) := of_decide_eq_true (by first | (with_reducible assumption) | assumption)
                                          have q192 : x44_3 < (x5_3.length : Int) := of_decide_eq_true (by first | (with_reducible assumption) | assumption)
                                          obtain ⟨ad192, A192_0, c192_0, e192, hx192_0, hl192_0, hi192_0⟩ := at_L6 (Kd.S_reads' HO_5.out).2.2 x44_3 p192 q192
                                          cases e192
                                          obtain ⟨ce192, hce192, hMe192, hcc192⟩ := Kd.S_get HO_5.out [] x44_3 p192 (by first | exact q192 | exact of_decide_eq_true (by first | (with_reducible assumption) | assumption) | (have e_ := (Kd.S_reads' HO_5.out).1; omega))
                                          obtain ⟨ve192_0, rfl, ge192_0⟩ := hMe192
                                          have hv192_0 := hcc192 0 _ rfl
                                          rw [Nat.add_zero, show ((Kd.slice 4 Kd.bool)).sz = 1 from rfl, Nat.mul_one] at hv192_0
                                          replace hv192_0 := Option.some.inj (hv192_0.symm.trans hx192_0)
                                          rw [hv192_0] at ge192_0
                                          have HL192_0 := Aside0.mk (show Kd.R Kd.bool 4 _ _ _ _ (rd_L6 x5_3 x44_3) from ge192_0)
                                          clear hv192_0 ge192_0
                                          have HX192_0 := Aside0.mk hx192_0
                                          clear hcc192 hce192
                                          have HR192_0 := Aside0.mk hi192_0
                                          have HC192_0 := Aside0.mk hl192_0
                                          clear hi192_0 hl192_0
                                          replace p192 := eq_true p192
                                          replace q192 := eq_true q192
                                          have p39 : 0 ≤ (((rd_T31 l0 x34_2).f5) : Int) := of_decide_eq_true (by first | (with_reducible assumption) | assumption)
                                          have q39 : (((rd_T31 l0 x34_2).f5) : Int) < (((rd_L6 x5_3 x44_3).length : Int) : Int) := of_decide_eq_true (by first | (with_reducible assumption) | assumption)
                                          obtain ⟨go39, co39, eo39, gb39, gl39, cl39, HG39⟩ := Kd.R_form HL192_0.out (by omega)
                                          (first | cases eo39 | (injection eo39 with ea_ en_ ec_; (first | subst ea_ | (injection ea_ with ea_; subst ea_)); subst ec_; clear en_))
                                          have GB39 := Aside0.mk gb39
                                          have GG39 := Aside0.mk HG39
                                          clear gb39 gl39 HG39
                                          obtain ⟨hx39_0, hf39_0⟩ := Kd.R_celln false HL192_0.out (((rd_T31 l0 x34_2).f5) : Int) p39 q39
                                          replace p39 := eq_true p39
                                          replace q39 := eq_true q39
                                          have hq43 : (x44_3 : Int) < (x5_3.length : Int) := (by have h_ : (x44_3 : Int) < ((x5_3.length : Int) : Int) := of_decide_eq_true (by first | (with_reducible assumption) | assumption); first | exact h_ | (have e_ := (Kd.S_reads' HO_5.out).1; omega) | simpa only [List.length_set, List.length_set] using h_)
                                          obtain ⟨oki43, ce43, hcl43, hM43, hcc43, hok43, hbk43⟩ := Kd.S_borrow HO_5.out [] (x44_3 : Int) (of_decide_eq_true (by first | (with_reducible assumption) | assumption)) (by first | exact hq43 | (have h_ := hq43; have e_ := (Kd.S_reads' HO_5.out).1; omega))
                                          obtain ⟨ve43_0, rfl, ge43_0⟩ := hM43
                                          have hv43 := hcc43 0 _ rfl
                                          rw [Nat.add_zero, show ((Kd.slice 4 Kd.bool)).sz = 1 from rfl, Nat.mul_one] at hv43
                                          replace hv43 := Option.some.inj (hv43.symm.trans HX192_0.out)
                                          subst hv43
                                          clear hcc43 hcl43
                                          replace ge43_0 := (show Kd.R Kd.bool 4 _ _ _ _ (rd_L6 x5_3 x44_3) from ge43_0)
                                          have HP43 := Kd.R_putg ge43_0 (((rd_T31 l0 x34_2).f5) : Int) true
                                          rw [← Ny193.out] at HP43
                                          have HS43 := hbk43 HP43.2 (fun k_ e_ => by injection e_ with e_; subst e_; exact ge43_0.1 _ rfl) (x' := y193) (Kd.M_row HP43.1)
                                          rw [← Ny195.out] at HS43
                                          have HQ43 := Aside0.mk HS43
                                          clear HP43 HS43 hbk43 hok43
                                          refine start_ (n := 8) (S := fun w' => w'.cell? ⟨gb189, 0, none⟩ = some (.int .i64 ((rd_T31 l0 x34_2).f0)) ∧ w'.cell? ⟨gb189, 1, none⟩ = some (.int .i64 ((rd_T31 l0 x34_2).f1)) ∧ w'.cell? ⟨gb189, 2, none⟩ = some (.int .u32 ((rd_T31 l0 x34_2).f2.f0)) ∧ w'.cell? ⟨gb189, 3, none⟩ = some (.int .i64 ((rd_T31 l0 x34_2).f2.f1)) ∧ w'.cell? ⟨gb189, 4, none⟩ = some (.int .u32 ((rd_T31 l0 x34_2).f3.f0)) ∧ w'.cell? ⟨gb189, 5, none⟩ = some (.int .i64 ((rd_T31 l0 x34_2).f3.f1)) ∧ w'.cell? ⟨gb189, 6, none⟩ = some (.int .i64 ((rd_T31 l0 x34_2).f4)) ∧ w'.cell? ⟨gb189, 7, none⟩ = some (.int .i64 ((rd_T31 l0 x34_2).f5)) ∧ w'.cell? (ad192.add (x44_3).toNat) = some (.slice (some ⟨go39, 0, none⟩) (rd_L6 x5_3 x44_3).length _)) (ds := [7]) #[false, false, false, false, false, false, false, false] (by kernel_rfl) rfl rfl ⟨(blk_cell BK189.out 0).trans rfl, (blk_cell BK189.out 1).trans rfl, (blk_cell BK189.out 2).trans rfl, (blk_cell BK189.out 3).trans rfl, (blk_cell BK189.out 4).trans rfl, (blk_cell BK189.out 5).trans rfl, (blk_cell BK189.out 6).trans rfl, (blk_cell BK189.out 7).trans rfl, hx192_0⟩ (fun hHeld => ?_); refine with_tabW guard_Reach.tab17 guard_Reach.bits17 (fun HT_ HW_ => ?_)
                                          generalize wr.drew = w42 at HO_5 BK189 HB GG39 HL192_0 HQ43 HR192_0 HX192_0 hf39_0 hx192_0 hx39_0 hHeld ⊢
                                          refine pure_ (i := 0) (N := some 52) (v := ?_) (a' := ?_) #[true, false, false, false, false, false, false, false] rfl rfl (any_of HT_.out (by kernel_rfl)) (fun _ _ _ h => h) (Or.inl ⟨by rfl, ?_⟩) ?_ ?_
                                          rotate_left
                                          · intro w'
                                            go_simp
                                            with_reducible rfl
                                          rotate_left
                                          · simp only [Act.put, List.setIfInBounds_toArray, List.set_cons_zero, List.set_cons_succ, i64_w, i32_w]
                                            rfl
                                          refine pure_ (i := 1) (N := some 53) (v := ?_) (a' := ?_) #[true, true, false, false, false, false, false, false] rfl rfl (any_of HT_.out (by kernel_rfl)) (fun _ _ _ h => h) (Or.inl ⟨by rfl, ?_⟩) ?_ ?_
                                          rotate_left
                                          · intro w'
                                            go_simp
                                            with_reducible rfl
                                          rotate_left
                                          · simp only [Act.put, List.setIfInBounds_toArray, List.set_cons_zero, List.set_cons_succ, i64_w, i32_w]
                                            rfl
                                          refine pure_ (i := 2) (N := some 54) (v := ?_) (a' := ?_) #[true, true, true, false, false, false, false, false] rfl rfl (any_of HT_.out (by kernel_rfl)) (fun _ _ _ h => h) (Or.inl ⟨by rfl, ?_⟩) ?_ ?_
                                          rotate_left
                                          · intro w'
                                            go_simp
                                            with_reducible rfl
                                          rotate_left
                                          · simp only [Act.put, List.setIfInBounds_toArray, List.set_cons_zero, List.set_cons_succ, i64_w, i32_w]
                                            rfl
                                          refine pure_ (i := 4) (N := some 56) (v := ?_) (a' := ?_) #[true, true, true, false, true, false, false, false] rfl rfl (any_of HT_.out (by kernel_rfl)) (fun _ _ _ h => h) (Or.inl ⟨by rfl, ?_⟩) ?_ ?_
                                          rotate_left
                                          · intro w'
                                            go_simp
                                            with_reducible rfl
                                          rotate_left
                                          · simp only [Act.put, List.setIfInBounds_toArray, List.set_cons_zero, List.set_cons_succ, i64_w, i32_w]
                                            rfl
                                          refine take_ (i := 3) (N := some 55) (v := ?_) (a' := ?_) #[true, true, true, true, true, false, false, false] rfl rfl (take_ofW HT_.out HW_.out (by kernel_rfl)) (fun _ _ _ h => h) (Or.inl ⟨by rfl, ?_⟩) hHeld ?_ ?_
                                          rotate_left
                                          · rintro w' ⟨s0, s1, s2, s3, s4, s5, s6, s7, s8⟩
                                            go_simp
                                            with_reducible rfl
                                          rotate_left
                                          · simp only [Act.put, List.setIfInBounds_toArray, List.set_cons_zero, List.set_cons_succ, i64_w, i32_w]
                                            rfl
                                          refine take_ (i := 5) (N := some 57) (v := ?_) (a' := ?_) #[true, true, true, true, true, true, false, false] rfl rfl (take_ofW HT_.out HW_.out (by kernel_rfl)) (fun _ _ _ h => h) (Or.inl ⟨by rfl, ?_⟩) hHeld ?_ ?_
                                          rotate_left
                                          · rintro w' ⟨s0, s1, s2, s3, s4, s5, s6, s7, s8⟩
                                            go_simp
                                            with_reducible rfl
                                          rotate_left
                                          · simp only [Act.put, List.setIfInBounds_toArray, List.set_cons_zero, List.set_cons_succ, i64_w, i32_w]
                                            rfl
                                          refine pure_ (i := 6) (N := some 58) (v := ?_) (a' := ?_) #[true, true, true, true, true, true, true, false] rfl rfl (any_of HT_.out (by kernel_rfl)) (fun _ _ _ h => h) (Or.inl ⟨by rfl, ?_⟩) ?_ ?_
                                          rotate_left
                                          · intro w'
                                            go_simp
                                            with_reducible rfl
                                          rotate_left
                                          · simp only [Act.put, List.setIfInBounds_toArray, List.set_cons_zero, List.set_cons_succ, i64_w, i32_w]
                                            rfl
                                          refine last_ (i := 7) (N := none) #[true, true, true, true, true, true, true, true] rfl rfl (one_of HT_.out (by kernel_rfl)) (by decide) (fun K hK => ?_)
                                          refine skip_ (w1 := ?_) (by rfl) rfl ?_ ?_
                                          rotate_left
                                          · go_simp
                                            rfl
                                          refine hK.out _ _ ?_
                                          clear hK K
                                          refine done_ (done_of HT_.out (by kernel_rfl)) ?_
                                          have hne45 : gb189 ≠ go39 := fun e_ => by have h1_ := BK189.out; have h2_ := GG39.out; rw [e_] at h1_; rw [h1_] at h2_; simp at h2_
                                          have hne46 := hne45.symm
                                          have hcz45_0 : w42.cell? ⟨gb189, 0, none⟩ = some (.int .i64 ((rd_T31 l0 x34_2).f0)) := (blk_cell BK189.out 0).trans rfl
                                          have hcz45_1 : w42.cell? ⟨gb189, 1, none⟩ = some (.int .i64 ((rd_T31 l0 x34_2).f1)) := (blk_cell BK189.out 1).trans rfl
                                          have hcz45_2 : w42.cell? ⟨gb189, 2, none⟩ = some (.int .u32 ((rd_T31 l0 x34_2).f2.f0)) := (blk_cell BK189.out 2).trans rfl
                                          have hcz45_3 : w42.cell? ⟨gb189, 3, none⟩ = some (.int .i64 ((rd_T31 l0 x34_2).f2.f1)) := (blk_cell BK189.out 3).trans rfl
                                          have hcz45_4 : w42.cell? ⟨gb189, 4, none⟩ = some (.int .u32 ((rd_T31 l0 x34_2).f3.f0)) := (blk_cell BK189.out 4).trans rfl
                                          have hcz45_5 : w42.cell? ⟨gb189, 5, none⟩ = some (.int .i64 ((rd_T31 l0 x34_2).f3.f1)) := (blk_cell BK189.out 5).trans rfl
                                          have hcz45_6 : w42.cell? ⟨gb189, 6, none⟩ = some (.int .i64 ((rd_T31 l0 x34_2).f4)) := (blk_cell BK189.out 6).trans rfl
                                          have hcz45_7 : w42.cell? ⟨gb189, 7, none⟩ = some (.int .i64 ((rd_T31 l0 x34_2).f5)) := (blk_cell BK189.out 7).trans rfl
                                          have hfz45_0 := blk_frozen BK189.out 0
                                          have hfz45_1 := blk_frozen BK189.out 1
                                          have hfz45_2 := blk_frozen BK189.out 2
                                          have hfz45_3 := blk_frozen BK189.out 3
                                          have hfz45_4 := blk_frozen BK189.out 4
                                          have hfz45_5 := blk_frozen BK189.out 5
                                          have hfz45_6 := blk_frozen BK189.out 6
                                          have hfz45_7 := blk_frozen BK189.out 7
                                          try go_wp2
                                          (try simp only [← hl5_2, ← hl5_3])
                                          go_roundg k3
                                          case measure => have := HK1.out; have := HK2.out; have := HK3.out; omega
                                          case rel => exact ⟨(y195), (wrap64 (x34_2 + 1)), (by first | rfl | (simp; done) | (simp [*]; done)), H', ⟨by have := HK1.out; have := HK2.out; have := HK3.out; omega⟩, ⟨by (try simp only [hl5_1]); (try simp only [hl5_2]); (try simp only [hl5_3]); (with_reducible repeat (first | apply Kd.S_alloc | apply Kd.S_drewN | apply Kd.S_drew)); exact HQ43.out⟩, ⟨by repeat (first | (with_reducible first | exact HB.out | apply below_alloc | apply pw_below_drewN | apply below_drew1 | refine below_set ?_ GB39.out | refine below_set ?_ GE189.out) | exact HB.out)⟩⟩
                                        · rw [if_neg c40] at H
                                          have c40b0 : (((rd_T31 l0 x34_2).f1) == x44_3) = false := beq_eq_false_iff_ne.mpr c40
                                          have c40b1 : (((rd_T31 l0 x34_2).f1) != x44_3) = true := bne_iff_ne.mpr c40
                                          have H' := Aside0.mk H
                                          clear H
                                          have hcz46_0 : wr.cell? ⟨gb189, 0, none⟩ = some (.int .i64 ((rd_T31 l0 x34_2).f0)) := (blk_cell BK189.out 0).trans rfl
                                          have hcz46_1 : wr.cell? ⟨gb189, 1, none⟩ = some (.int .i64 ((rd_T31 l0 x34_2).f1)) := (blk_cell BK189.out 1).trans rfl
                                          have hcz46_2 : wr.cell? ⟨gb189, 2, none⟩ = some (.int .u32 ((rd_T31 l0 x34_2).f2.f0)) := (blk_cell BK189.out 2).trans rfl
                                          have hcz46_3 : wr.cell? ⟨gb189, 3, none⟩ = some (.int .i64 ((rd_T31 l0 x34_2).f2.f1)) := (blk_cell BK189.out 3).trans rfl
                                          have hcz46_4 : wr.cell? ⟨gb189, 4, none⟩ = some (.int .u32 ((rd_T31 l0 x34_2).f3.f0)) := (blk_cell BK189.out 4).trans rfl
                                          have hcz46_5 : wr.cell? ⟨gb189, 5, none⟩ = some (.int .i64 ((rd_T31 l0 x34_2).f3.f1)) := (blk_cell BK189.out 5).trans rfl
                                          have hcz46_6 : wr.cell? ⟨gb189, 6, none⟩ = some (.int .i64 ((rd_T31 l0 x34_2).f4)) := (blk_cell BK189.out 6).trans rfl
                                          have hcz46_7 : wr.cell? ⟨gb189, 7, none⟩ = some (.int .i64 ((rd_T31 l0 x34_2).f5)) := (blk_cell BK189.out 7).trans rfl
                                          have hfz46_0 := blk_frozen BK189.out 0
                                          have hfz46_1 := blk_frozen BK189.out 1
                                          have hfz46_2 := blk_frozen BK189.out 2
                                          have hfz46_3 := blk_frozen BK189.out 3
                                          have hfz46_4 := blk_frozen BK189.out 4
                                          have hfz46_5 := blk_frozen BK189.out 5
                                          have hfz46_6 := blk_frozen BK189.out 6
                                          have hfz46_7 := blk_frozen BK189.out 7
                                          try go_wp2_with (first | ((with_reducible refine gate_callee (f := 31) rfl ?_); refine goesL_ (some 50) rfl rfl Try.func31 (by kernel_rfl) rfl #[.int .i64 ((rd_T31 l0 x34_2).f1), .int .i64 x44_3] rfl (by (try simp only [List.map_toArray, List.map_cons, List.map_nil]); first | done | rfl | (simp only [List.length_drop, List.length_take]; rfl)) ?_; (with_reducible refine (guard_wide.calls ((rd_T31 l0 x34_2).f1) x44_3 true _ A33.out).mono ?_); rintro e w' ⟨rfl, ⟨nd, rfl⟩⟩; refine ⟨_, rfl, ?_⟩; (try (rw [drewN_self wr]; generalize hq_ : World.drewN wr _ = wr; have n0_ : Aside0 (Kd.S (Kd.slice 4 Kd.bool) 38 wr w.heap.size (fun _ => True) (.slice Ao9 x5_3.length co9) x5_3) := ⟨by rw [← hq_]; exact (by (with_reducible repeat (first | apply Kd.S_alloc | apply Kd.S_drewN | apply Kd.S_drew)); exact HO_5.out)⟩; have n1_ : Aside0 (wr.heap[gb189]? = some (.cells #[.int .i64 ((rd_T31 l0 x34_2).f0), .int .i64 ((rd_T31 l0 x34_2).f1), .int .u32 ((rd_T31 l0 x34_2).f2.f0), .int .i64 ((rd_T31 l0 x34_2).f2.f1), .int .u32 ((rd_T31 l0 x34_2).f3.f0), .int .i64 ((rd_T31 l0 x34_2).f3.f1), .int .i64 ((rd_T31 l0 x34_2).f4), .int .i64 ((rd_T31 l0 x34_2).f5)] 31 (0, 0))) := ⟨by rw [← hq_]; exact (by (with_reducible repeat (first | refine blk_drewN ?_ _ | refine blk_drew ?_ | refine blk_alloc ?_ _)); exact BK189.out)⟩; have n2_ : Aside0 (Below w.heap.size w wr) := ⟨by rw [← hq_]; exact (by repeat (first | (with_reducible first | exact HB.out | apply below_alloc | apply pw_below_drewN | apply below_drew1 | refine below_set ?_ GE189.out) | exact HB.out))⟩; clear HO_5 BK189 HB hq_; have HO_5 := n0_; have BK189 := n1_; have HB := n2_; clear n0_ n1_ n2_))))
                                          have n0_ := Aside0.mk (Kd.S_drew HO_5.out)
                                          have n1_ := Aside0.mk (blk_drew BK189.out)
                                          have n2_ := Aside0.mk (below_drew1 HB.out)
                                          clear HO_5
                                          clear BK189
                                          clear HB
                                          have HO_5 := n0_
                                          have BK189 := n1_
                                          have HB := n2_
                                          clear n0_ n1_ n2_
                                          have p192 : 0 ≤ (x44_3 : Int) := of_decide_eq_true (by first | (with_reducible assumption) | assumption)
                                          have q192 : x44_3 < (x5_3.length : Int) := of_decide_eq_true (by first | (with_reducible assumption) | assumption)
                                          obtain ⟨ad192, A192_0, c192_0, e192, hx192_0, hl192_0, hi192_0⟩ := at_L6 (Kd.S_reads' HO_5.out).2.2 x44_3 p192 q192
                                          cases e192
                                          obtain ⟨ce192, hce192, hMe192, hcc192⟩ := Kd.S_get HO_5.out [] x44_3 p192 (by first | exact q192 | exact of_decide_eq_true (by first | (with_reducible assumption) | assumption) | (have e_ := (Kd.S_reads' HO_5.out).1; omega))
                                          obtain ⟨ve192_0, rfl, ge192_0⟩ := hMe192
                                          have hv192_0 := hcc192 0 _ rfl
                                          rw [Nat.add_zero, show ((Kd.slice 4 Kd.bool)).sz = 1 from rfl, Nat.mul_one] at hv192_0
                                          replace hv192_0 := Option.some.inj (hv192_0.symm.trans hx192_0)
                                          rw [hv192_0] at ge192_0
                                          have HL192_0 := Aside0.mk (show Kd.R Kd.bool 4 _ _ _ _ (rd_L6 x5_3 x44_3) from ge192_0)
                                          clear hv192_0 ge192_0
                                          have HX192_0 := Aside0.mk hx192_0
                                          clear hcc192 hce192
                                          have HR192_0 := Aside0.mk hi192_0
                                          have HC192_0 := Aside0.mk hl192_0
                                          clear hi192_0 hl192_0
                                          replace p192 := eq_true p192
                                          replace q192 := eq_true q192
                                          have p39 : 0 ≤ (((rd_T31 l0 x34_2).f5) : Int) := of_decide_eq_true (by first | (with_reducible assumption) | assumption)
                                          have q39 : (((rd_T31 l0 x34_2).f5) : Int) < (((rd_L6 x5_3 x44_3).length : Int) : Int) := of_decide_eq_true (by first | (with_reducible assumption) | assumption)
                                          obtain ⟨go39, co39, eo39, gb39, gl39, cl39, HG39⟩ := Kd.R_form HL192_0.out (by omega)
                                          (first | cases eo39 | (injection eo39 with ea_ en_ ec_; (first | subst ea_ | (injection ea_ with ea_; subst ea_)); subst ec_; clear en_))
                                          have GB39 := Aside0.mk gb39
                                          have GG39 := Aside0.mk HG39
                                          clear gb39 gl39 HG39
                                          obtain ⟨hx39_0, hf39_0⟩ := Kd.R_celln false HL192_0.out (((rd_T31 l0 x34_2).f5) : Int) p39 q39
                                          replace p39 := eq_true p39
                                          replace q39 := eq_true q39
                                          have hq48 : (x44_3 : Int) < (x5_3.length : Int) := (by have h_ : (x44_3 : Int) < ((x5_3.length : Int) : Int) := of_decide_eq_true (by first | (with_reducible assumption) | assumption); first | exact h_ | (have e_ := (Kd.S_reads' HO_5.out).1; omega) | simpa only [List.length_set, List.length_set] using h_)
                                          obtain ⟨oki48, ce48, hcl48, hM48, hcc48, hok48, hbk48⟩ := Kd.S_borrow HO_5.out [] (x44_3 : Int) (of_decide_eq_true (by first | (with_reducible assumption) | assumption)) (by first | exact hq48 | (have h_ := hq48; have e_ := (Kd.S_reads' HO_5.out).1; omega))
                                          obtain ⟨ve48_0, rfl, ge48_0⟩ := hM48
                                          have hv48 := hcc48 0 _ rfl
                                          rw [Nat.add_zero, show ((Kd.slice 4 Kd.bool)).sz = 1 from rfl, Nat.mul_one] at hv48
                                          replace hv48 := Option.some.inj (hv48.symm.trans HX192_0.out)
                                          subst hv48
                                          clear hcc48 hcl48
                                          replace ge48_0 := (show Kd.R Kd.bool 4 _ _ _ _ (rd_L6 x5_3 x44_3) from ge48_0)
                                          have HP48 := Kd.R_putg ge48_0 (((rd_T31 l0 x34_2).f5) : Int) true
                                          rw [← Ny193.out] at HP48
                                          have HS48 := hbk48 HP48.2 (fun k_ e_ => by injection e_ with e_; subst e_; exact ge48_0.1 _ rfl) (x' := y193) (Kd.M_row HP48.1)
                                          rw [← Ny195.out] at HS48
                                          have HQ48 := Aside0.mk HS48
                                          clear HP48 HS48 hbk48 hok48
                                          refine start_ (n := 8) (S := fun w' => w'.cell? ⟨gb189, 0, none⟩ = some (.int .i64 ((rd_T31 l0 x34_2).f0)) ∧ w'.cell? ⟨gb189, 1, none⟩ = some (.int .i64 ((rd_T31 l0 x34_2).f1)) ∧ w'.cell? ⟨gb189, 2, none⟩ = some (.int .u32 ((rd_T31 l0 x34_2).f2.f0)) ∧ w'.cell? ⟨gb189, 3, none⟩ = some (.int .i64 ((rd_T31 l0 x34_2).f2.f1)) ∧ w'.cell? ⟨gb189, 4, none⟩ = some (.int .u32 ((rd_T31 l0 x34_2).f3.f0)) ∧ w'.cell? ⟨gb189, 5, none⟩ = some (.int .i64 ((rd_T31 l0 x34_2).f3.f1)) ∧ w'.cell? ⟨gb189, 6, none⟩ = some (.int .i64 ((rd_T31 l0 x34_2).f4)) ∧ w'.cell? ⟨gb189, 7, none⟩ = some (.int .i64 ((rd_T31 l0 x34_2).f5)) ∧ w'.cell? (ad192.add (x44_3).toNat) = some (.slice (some ⟨go39, 0, none⟩) (rd_L6 x5_3 x44_3).length _)) (ds := [7]) #[false, false, false, false, false, false, false, false] (by kernel_rfl) rfl rfl ⟨(blk_cell BK189.out 0).trans rfl, (blk_cell BK189.out 1).trans rfl, (blk_cell BK189.out 2).trans rfl, (blk_cell BK189.out 3).trans rfl, (blk_cell BK189.out 4).trans rfl, (blk_cell BK189.out 5).trans rfl, (blk_cell BK189.out 6).trans rfl, (blk_cell BK189.out 7).trans rfl, hx192_0⟩ (fun hHeld => ?_); refine with_tabW guard_Reach.tab17 guard_Reach.bits17 (fun HT_ HW_ => ?_)
                                          generalize wr.drew = w47 at HO_5 BK189 HB GG39 HL192_0 HQ48 HR192_0 HX192_0 hf39_0 hx192_0 hx39_0 hHeld ⊢
                                          refine pure_ (i := 0) (N := some 52) (v := ?_) (a' := ?_) #[true, false, false, false, false, false, false, false] rfl rfl (any_of HT_.out (by kernel_rfl)) (fun _ _ _ h => h) (Or.inl ⟨by rfl, ?_⟩) ?_ ?_
                                          rotate_left
                                          · intro w'
                                            go_simp
                                            with_reducible rfl
                                          rotate_left
                                          · simp only [Act.put, List.setIfInBounds_toArray, List.set_cons_zero, List.set_cons_succ, i64_w, i32_w]
                                            rfl
                                          refine pure_ (i := 1) (N := some 53) (v := ?_) (a' := ?_) #[true, true, false, false, false, false, false, false] rfl rfl (any_of HT_.out (by kernel_rfl)) (fun _ _ _ h => h) (Or.inl ⟨by rfl, ?_⟩) ?_ ?_
                                          rotate_left
                                          · intro w'
                                            go_simp
                                            with_reducible rfl
                                          rotate_left
                                          · simp only [Act.put, List.setIfInBounds_toArray, List.set_cons_zero, List.set_cons_succ, i64_w, i32_w]
                                            rfl
                                          refine pure_ (i := 2) (N := some 54) (v := ?_) (a' := ?_) #[true, true, true, false, false, false, false, false] rfl rfl (any_of HT_.out (by kernel_rfl)) (fun _ _ _ h => h) (Or.inl ⟨by rfl, ?_⟩) ?_ ?_
                                          rotate_left
                                          · intro w'
                                            go_simp
                                            with_reducible rfl
                                          rotate_left
                                          · simp only [Act.put, List.setIfInBounds_toArray, List.set_cons_zero, List.set_cons_succ, i64_w, i32_w]
                                            rfl
                                          refine pure_ (i := 4) (N := some 56) (v := ?_) (a' := ?_) #[true, true, true, false, true, false, false, false] rfl rfl (any_of HT_.out (by kernel_rfl)) (fun _ _ _ h => h) (Or.inl ⟨by rfl, ?_⟩) ?_ ?_
                                          rotate_left
                                          · intro w'
                                            go_simp
                                            with_reducible rfl
                                          rotate_left
                                          · simp only [Act.put, List.setIfInBounds_toArray, List.set_cons_zero, List.set_cons_succ, i64_w, i32_w]
                                            rfl
                                          refine take_ (i := 3) (N := some 55) (v := ?_) (a' := ?_) #[true, true, true, true, true, false, false, false] rfl rfl (take_ofW HT_.out HW_.out (by kernel_rfl)) (fun _ _ _ h => h) (Or.inl ⟨by rfl, ?_⟩) hHeld ?_ ?_
                                          rotate_left
                                          · rintro w' ⟨s0, s1, s2, s3, s4, s5, s6, s7, s8⟩
                                            go_simp
                                            with_reducible rfl
                                          rotate_left
                                          · simp only [Act.put, List.setIfInBounds_toArray, List.set_cons_zero, List.set_cons_succ, i64_w, i32_w]
                                            rfl
                                          refine take_ (i := 5) (N := some 57) (v := ?_) (a' := ?_) #[true, true, true, true, true, true, false, false] rfl rfl (take_ofW HT_.out HW_.out (by kernel_rfl)) (fun _ _ _ h => h) (Or.inl ⟨by rfl, ?_⟩) hHeld ?_ ?_
                                          rotate_left
                                          · rintro w' ⟨s0, s1, s2, s3, s4, s5, s6, s7, s8⟩
                                            go_simp
                                            with_reducible rfl
                                          rotate_left
                                          · simp only [Act.put, List.setIfInBounds_toArray, List.set_cons_zero, List.set_cons_succ, i64_w, i32_w]
                                            rfl
                                          refine pure_ (i := 6) (N := some 58) (v := ?_) (a' := ?_) #[true, true, true, true, true, true, true, false] rfl rfl (any_of HT_.out (by kernel_rfl)) (fun _ _ _ h => h) (Or.inl ⟨by rfl, ?_⟩) ?_ ?_
                                          rotate_left
                                          · intro w'
                                            go_simp
                                            with_reducible rfl
                                          rotate_left
                                          · simp only [Act.put, List.setIfInBounds_toArray, List.set_cons_zero, List.set_cons_succ, i64_w, i32_w]
                                            rfl
                                          refine last_ (i := 7) (N := none) #[true, true, true, true, true, true, true, true] rfl rfl (one_of HT_.out (by kernel_rfl)) (by decide) (fun K hK => ?_)
                                          refine skip_ (w1 := ?_) (by rfl) rfl ?_ ?_
                                          rotate_left
                                          · go_simp
                                            rfl
                                          refine hK.out _ _ ?_
                                          clear hK K
                                          refine done_ (done_of HT_.out (by kernel_rfl)) ?_
                                          have hne50 : gb189 ≠ go39 := fun e_ => by have h1_ := BK189.out; have h2_ := GG39.out; rw [e_] at h1_; rw [h1_] at h2_; simp at h2_
                                          have hnf50 := hne50.symm
                                          have hcz50_0 : w47.cell? ⟨gb189, 0, none⟩ = some (.int .i64 ((rd_T31 l0 x34_2).f0)) := (blk_cell BK189.out 0).trans rfl
                                          have hcz50_1 : w47.cell? ⟨gb189, 1, none⟩ = some (.int .i64 ((rd_T31 l0 x34_2).f1)) := (blk_cell BK189.out 1).trans rfl
                                          have hcz50_2 : w47.cell? ⟨gb189, 2, none⟩ = some (.int .u32 ((rd_T31 l0 x34_2).f2.f0)) := (blk_cell BK189.out 2).trans rfl
                                          have hcz50_3 : w47.cell? ⟨gb189, 3, none⟩ = some (.int .i64 ((rd_T31 l0 x34_2).f2.f1)) := (blk_cell BK189.out 3).trans rfl
                                          have hcz50_4 : w47.cell? ⟨gb189, 4, none⟩ = some (.int .u32 ((rd_T31 l0 x34_2).f3.f0)) := (blk_cell BK189.out 4).trans rfl
                                          have hcz50_5 : w47.cell? ⟨gb189, 5, none⟩ = some (.int .i64 ((rd_T31 l0 x34_2).f3.f1)) := (blk_cell BK189.out 5).trans rfl
                                          have hcz50_6 : w47.cell? ⟨gb189, 6, none⟩ = some (.int .i64 ((rd_T31 l0 x34_2).f4)) := (blk_cell BK189.out 6).trans rfl
                                          have hcz50_7 : w47.cell? ⟨gb189, 7, none⟩ = some (.int .i64 ((rd_T31 l0 x34_2).f5)) := (blk_cell BK189.out 7).trans rfl
                                          have hfz50_0 := blk_frozen BK189.out 0
                                          have hfz50_1 := blk_frozen BK189.out 1
                                          have hfz50_2 := blk_frozen BK189.out 2
                                          have hfz50_3 := blk_frozen BK189.out 3
                                          have hfz50_4 := blk_frozen BK189.out 4
                                          have hfz50_5 := blk_frozen BK189.out 5
                                          have hfz50_6 := blk_frozen BK189.out 6
                                          have hfz50_7 := blk_frozen BK189.out 7
                                          try go_wp2
                                          (try simp only [← hl5_3])
                                          go_roundg k3
                                          case measure => have := HK1.out; have := HK2.out; have := HK3.out; omega
                                          case rel => exact ⟨(y195), (wrap64 (x44_3 + 1)), (by first | rfl | (simp; done) | (simp [*]; done)), H', ⟨by have := HK1.out; have := HK2.out; have := HK3.out; omega⟩, ⟨by (try simp only [hl5_1]); (try simp only [hl5_2]); (try simp only [hl5_3]); (with_reducible repeat (first | apply Kd.S_alloc | apply Kd.S_drewN | apply Kd.S_drew)); exact HQ48.out⟩, ⟨by (try simp only [hl5_1]); (try simp only [hl5_2]); (try simp only [hl5_3]); (with_reducible repeat (first | refine blk_drewN ?_ _ | refine blk_drew ?_ | refine blk_alloc ?_ _)); refine blk_far ?_ (by have h_ := Kd.R_ne HL192_0.out BK189.out (by decide); intro e_; exact h_ (by rw [e_]; rfl)) _; (with_reducible repeat (first | refine blk_drewN ?_ _ | refine blk_drew ?_ | refine blk_alloc ?_ _)); exact BK189.out⟩, ⟨by repeat (first | (with_reducible first | exact HB.out | apply below_alloc | apply pw_below_drewN | apply below_drew1 | refine below_set ?_ GB39.out | refine below_set ?_ GE189.out) | exact HB.out)⟩⟩
                                      · rw [if_neg c38] at H
                                        exact absurd H (by simp)
                                    · rw [if_neg c37] at H
                                      exact absurd H (by simp)
                                  · rw [if_neg c36] at H
                                    exact absurd H (by simp)
                                · rw [if_neg c35] at H
                                  exact absurd H (by simp)
                              · replace c34 := Bool.eq_false_iff.mpr c34
                                (try simp only [hl5_3] at c32b0)
                                subst c34
                                have H1 : (guard_Reach.l2 k3 ji4 x5_3 l0 (l0.length : Int) x34_2 (x5_2.length : Int) (wrap64 (x44_3 + 1)) ((rd_T31 l0 x34_2).f0) ((rd_T31 l0 x34_2).f1) ((rd_T31 l0 x34_2).f2.f0) ((rd_T31 l0 x34_2).f2.f1) ((rd_T31 l0 x34_2).f3.f0) ((rd_T31 l0 x34_2).f3.f1) ((rd_T31 l0 x34_2).f4) ((rd_T31 l0 x34_2).f5)) = some r := by rw [if_neg (show ¬ (false = true) by decide)] at H; exact H
                                clear H
                                have H := H1
                                clear H1
                                have H' := Aside0.mk H
                                clear H
                                have hcz51_0 : wr.cell? ⟨gb189, 0, none⟩ = some (.int .i64 ((rd_T31 l0 x34_2).f0)) := (blk_cell BK189.out 0).trans rfl
                                have hcz51_1 : wr.cell? ⟨gb189, 1, none⟩ = some (.int .i64 ((rd_T31 l0 x34_2).f1)) := (blk_cell BK189.out 1).trans rfl
                                have hcz51_2 : wr.cell? ⟨gb189, 2, none⟩ = some (.int .u32 ((rd_T31 l0 x34_2).f2.f0)) := (blk_cell BK189.out 2).trans rfl
                                have hcz51_3 : wr.cell? ⟨gb189, 3, none⟩ = some (.int .i64 ((rd_T31 l0 x34_2).f2.f1)) := (blk_cell BK189.out 3).trans rfl
                                have hcz51_4 : wr.cell? ⟨gb189, 4, none⟩ = some (.int .u32 ((rd_T31 l0 x34_2).f3.f0)) := (blk_cell BK189.out 4).trans rfl
                                have hcz51_5 : wr.cell? ⟨gb189, 5, none⟩ = some (.int .i64 ((rd_T31 l0 x34_2).f3.f1)) := (blk_cell BK189.out 5).trans rfl
                                have hcz51_6 : wr.cell? ⟨gb189, 6, none⟩ = some (.int .i64 ((rd_T31 l0 x34_2).f4)) := (blk_cell BK189.out 6).trans rfl
                                have hcz51_7 : wr.cell? ⟨gb189, 7, none⟩ = some (.int .i64 ((rd_T31 l0 x34_2).f5)) := (blk_cell BK189.out 7).trans rfl
                                have hfz51_0 := blk_frozen BK189.out 0
                                have hfz51_1 := blk_frozen BK189.out 1
                                have hfz51_2 := blk_frozen BK189.out 2
                                have hfz51_3 := blk_frozen BK189.out 3
                                have hfz51_4 := blk_frozen BK189.out 4
                                have hfz51_5 := blk_frozen BK189.out 5
                                have hfz51_6 := blk_frozen BK189.out 6
                                have hfz51_7 := blk_frozen BK189.out 7
                                go_wp2_with (first | ((with_reducible refine gate_callee (f := 31) rfl ?_); refine goesL_ (some 50) rfl rfl Try.func31 (by kernel_rfl) rfl #[.int .i64 ((rd_T31 l0 x34_2).f1), .int .i64 x44_3] rfl (by (try simp only [List.map_toArray, List.map_cons, List.map_nil]); first | done | rfl | (simp only [List.length_drop, List.length_take]; rfl)) ?_; (with_reducible refine (guard_wide.calls ((rd_T31 l0 x34_2).f1) x44_3 false _ A33.out).mono ?_); rintro e w' ⟨rfl, ⟨nd, rfl⟩⟩; refine ⟨_, rfl, ?_⟩))
                                (try simp only [← hl5_3])
                                go_roundg k3
                                case measure => have := HK1.out; have := HK2.out; have := HK3.out; omega
                                case rel => exact ⟨(x5_3), (wrap64 (x44_3 + 1)), (by first | rfl | (simp; done) | (simp [*]; done)), H', ⟨by have := HK1.out; have := HK2.out; have := HK3.out; omega⟩, ⟨by (try simp only [hl5_1]); (try simp only [hl5_2]); (try simp only [hl5_3]); (with_reducible repeat (first | apply Kd.S_alloc | apply Kd.S_drewN | apply Kd.S_drew)); exact HO_5.out⟩, ⟨by (try simp only [hl5_1]); (try simp only [hl5_2]); (try simp only [hl5_3]); (with_reducible repeat (first | refine blk_drewN ?_ _ | refine blk_drew ?_ | refine blk_alloc ?_ _)); exact BK189.out⟩, ⟨by repeat (first | (with_reducible first | exact HB.out | apply below_alloc | apply pw_below_drewN | apply below_drew1 | refine below_set ?_ GE189.out) | exact HB.out)⟩⟩
                            · rw [if_neg c32] at H
                              have c32b0 : decide (x44_3 < (x5_2.length : Int)) = false := decide_eq_false c32
                              clear c32
                              (try simp only [hl5_3] at c32b0)
                              have H' := Aside0.mk H
                              clear H
                              go_wp2
                              (try simp only [← hl5_2, ← hl5_3])
                              go_roundg k3
                              case measure => have := HK1.out; have := HK2.out; have := HK3.out; omega
                              case rel => exact ⟨(x5_3), (wrap64 (x34_2 + 1)), (by first | rfl | (simp; done) | (simp [*]; done)), H', ⟨by have := HK1.out; have := HK2.out; have := HK3.out; omega⟩, ⟨by (try simp only [hl5_1]); (try simp only [hl5_2]); (try simp only [hl5_3]); (with_reducible repeat (first | apply Kd.S_alloc | apply Kd.S_drewN | apply Kd.S_drew)); exact HO_5.out⟩, ⟨by repeat (first | (with_reducible first | exact HB.out | apply below_alloc | apply pw_below_drewN | apply below_drew1 | refine below_set ?_ GE189.out) | exact HB.out)⟩⟩
                      · replace c28 := Bool.eq_false_iff.mpr c28
                        subst c28
                        have H1 : (guard_Reach.l1 k2 ji4 x5_2 l0 (l0.length : Int) (wrap64 (x34_2 + 1))) = some r := by rw [if_neg (show ¬ (false = true) by decide)] at H; exact H
                        clear H
                        have H := H1
                        clear H1
                        have H' := Aside0.mk H
                        clear H
                        have p188 : 0 ≤ (x34_2 : Int) := of_decide_eq_true (by first | (with_reducible assumption) | assumption)
                        have q188 : x34_2 < (l0.length : Int) := of_decide_eq_true (by first | (with_reducible assumption) | assumption)
                        obtain ⟨ad188, e188, hx188_0, hx188_1, hx188_2, hx188_3, hx188_4, hx188_5, hx188_6, hx188_7⟩ := at_T31 HR0.out x34_2 p188 q188
                        cases e188
                        replace hx188_0 := (HB.out.cell (World.block_lt_of_cell? w _ hx188_0)).trans hx188_0
                        replace hx188_1 := (HB.out.cell (World.block_lt_of_cell? w _ hx188_1)).trans hx188_1
                        replace hx188_2 := (HB.out.cell (World.block_lt_of_cell? w _ hx188_2)).trans hx188_2
                        replace hx188_3 := (HB.out.cell (World.block_lt_of_cell? w _ hx188_3)).trans hx188_3
                        replace hx188_4 := (HB.out.cell (World.block_lt_of_cell? w _ hx188_4)).trans hx188_4
                        replace hx188_5 := (HB.out.cell (World.block_lt_of_cell? w _ hx188_5)).trans hx188_5
                        replace hx188_6 := (HB.out.cell (World.block_lt_of_cell? w _ hx188_6)).trans hx188_6
                        replace hx188_7 := (HB.out.cell (World.block_lt_of_cell? w _ hx188_7)).trans hx188_7
                        replace p188 := eq_true p188
                        replace q188 := eq_true q188
                        go_wp2_with (first | ((with_reducible refine gate_dst (N := 8) rfl ?_); refine box_event ?hg (N := 8) ?hd (cs := #[.int .i64 0, .int .i64 0, .int .u32 0, .int .i64 0, .int .u32 0, .int .i64 0, .int .i64 0, .int .i64 0]) (t := 31) ?hr ?_; (case hd => rfl); (case hg => rfl); (case hr => first | (go_simp; done) | (go_simp; rfl)); intro gb189 hg w52 hbox hb; have n0_ := Aside0.mk (Kd.S_below (by (with_reducible repeat (first | apply Kd.S_alloc | apply Kd.S_drewN | apply Kd.S_drew)); exact HO_5.out) hb); have n1_ := Aside0.mk (below_step (by repeat (first | (with_reducible first | exact HB.out | apply below_alloc | apply pw_below_drewN | apply below_drew1) | exact HB.out)) hb); have n2_ := Aside0.mk (hbox); have n3_ := Aside0.mk ((by rw [hg]; exact (below_size (by repeat (first | (with_reducible first | exact HB.out | apply below_alloc | apply pw_below_drewN | apply below_drew1) | exact HB.out))) : w.heap.size ≤ gb189)); have n4_ := Aside0.mk ((by rw [hg]; exact (below_size (by repeat (first | (with_reducible first | exact HB.out | apply below_alloc | apply pw_below_drewN | apply below_drew1) | exact HB.out))) : w.heap.size ≤ gb189)); clear HO_5; clear HB; have HO_5 := n0_; have HB := n1_; have BK189 := n2_; have GW189 := n3_; have GE189 := n4_; clear n0_ n1_ n2_ n3_ n4_; clear hb hbox hg; have hcz53_0 : w52.cell? ⟨gb189, 0, none⟩ = some (.int .i64 0) := (blk_cell BK189.out 0).trans rfl; have hcz53_1 : w52.cell? ⟨gb189, 1, none⟩ = some (.int .i64 0) := (blk_cell BK189.out 1).trans rfl; have hcz53_2 : w52.cell? ⟨gb189, 2, none⟩ = some (.int .u32 0) := (blk_cell BK189.out 2).trans rfl; have hcz53_3 : w52.cell? ⟨gb189, 3, none⟩ = some (.int .i64 0) := (blk_cell BK189.out 3).trans rfl; have hcz53_4 : w52.cell? ⟨gb189, 4, none⟩ = some (.int .u32 0) := (blk_cell BK189.out 4).trans rfl; have hcz53_5 : w52.cell? ⟨gb189, 5, none⟩ = some (.int .i64 0) := (blk_cell BK189.out 5).trans rfl; have hcz53_6 : w52.cell? ⟨gb189, 6, none⟩ = some (.int .i64 0) := (blk_cell BK189.out 6).trans rfl; have hcz53_7 : w52.cell? ⟨gb189, 7, none⟩ = some (.int .i64 0) := (blk_cell BK189.out 7).trans rfl; have hfz53_0 := blk_frozen BK189.out 0; have hfz53_1 := blk_frozen BK189.out 1; have hfz53_2 := blk_frozen BK189.out 2; have hfz53_3 := blk_frozen BK189.out 3; have hfz53_4 := blk_frozen BK189.out 4; have hfz53_5 := blk_frozen BK189.out 5; have hfz53_6 := blk_frozen BK189.out 6; have hfz53_7 := blk_frozen BK189.out 7) | ((with_reducible refine gate_callee (f := 38) rfl ?_); refine goesL_ (some 40) rfl rfl Try.func38 (by kernel_rfl) rfl #[.int .i64 ji4, .agg #[.int .i64 ((rd_T31 l0 x34_2).f0), .int .i64 ((rd_T31 l0 x34_2).f1), .int .u32 ((rd_T31 l0 x34_2).f2.f0), .int .i64 ((rd_T31 l0 x34_2).f2.f1), .int .u32 ((rd_T31 l0 x34_2).f3.f0), .int .i64 ((rd_T31 l0 x34_2).f3.f1), .int .i64 ((rd_T31 l0 x34_2).f4), .int .i64 ((rd_T31 l0 x34_2).f5)]] rfl (by (try simp only [List.map_toArray, List.map_cons, List.map_nil]); first | done | (simp only [hji4]; rfl) | rfl | (simp only [List.length_drop, List.length_take]; rfl)) ?_; (with_reducible refine (guard_right.calls ji4 ((rd_T31 l0 x34_2).f0) ((rd_T31 l0 x34_2).f1) ((rd_T31 l0 x34_2).f2.f0) ((rd_T31 l0 x34_2).f2.f1) ((rd_T31 l0 x34_2).f3.f0) ((rd_T31 l0 x34_2).f3.f1) ((rd_T31 l0 x34_2).f4) ((rd_T31 l0 x34_2).f5) false _ A27.out).mono ?_); rintro e w54 ⟨rfl, hb⟩; refine ⟨_, rfl, ?_⟩; have n0_ := Aside0.mk (Kd.S_below (by (with_reducible repeat (first | apply Kd.S_alloc | apply Kd.S_drewN | apply Kd.S_drew)); exact (Kd.S_mono (Kd.S_far (p := ⟨gb189, 7, none⟩) (Kd.S_far (p := ⟨gb189, 6, none⟩) (Kd.S_far (p := ⟨gb189, 5, none⟩) (Kd.S_far (p := ⟨gb189, 4, none⟩) (Kd.S_far (p := ⟨gb189, 3, none⟩) (Kd.S_far (p := ⟨gb189, 2, none⟩) (Kd.S_far (p := ⟨gb189, 1, none⟩) (Kd.S_far (p := ⟨gb189, 0, none⟩) (Kd.S_types HO_5.out BK189.out (by decide)) (fun _ hk => hk.2) (.int .i64 ((rd_T31 l0 x34_2).f0))) (fun _ hk => hk.2) (.int .i64 ((rd_T31 l0 x34_2).f1))) (fun _ hk => hk.2) (.int .u32 ((rd_T31 l0 x34_2).f2.f0))) (fun _ hk => hk.2) (.int .i64 ((rd_T31 l0 x34_2).f2.f1))) (fun _ hk => hk.2) (.int .u32 ((rd_T31 l0 x34_2).f3.f0))) (fun _ hk => hk.2) (.int .i64 ((rd_T31 l0 x34_2).f3.f1))) (fun _ hk => hk.2) (.int .i64 ((rd_T31 l0 x34_2).f4))) (fun _ hk => hk.2) (.int .i64 ((rd_T31 l0 x34_2).f5))) (fun _ h_ => h_.1))) hb); have n1_ := Aside0.mk (blk_below (g := gb189) (o := .cells #[.int .i64 ((rd_T31 l0 x34_2).f0), .int .i64 ((rd_T31 l0 x34_2).f1), .int .u32 ((rd_T31 l0 x34_2).f2.f0), .int .i64 ((rd_T31 l0 x34_2).f2.f1), .int .u32 ((rd_T31 l0 x34_2).f3.f0), .int .i64 ((rd_T31 l0 x34_2).f3.f1), .int .i64 ((rd_T31 l0 x34_2).f4), .int .i64 ((rd_T31 l0 x34_2).f5)] 31 (0, 0)) (by (with_reducible repeat (first | refine blk_drewN ?_ _ | refine blk_drew ?_ | refine blk_alloc ?_ _)); refine blk_put (cs := #[.int .i64 ((rd_T31 l0 x34_2).f0), .int .i64 ((rd_T31 l0 x34_2).f1), .int .u32 ((rd_T31 l0 x34_2).f2.f0), .int .i64 ((rd_T31 l0 x34_2).f2.f1), .int .u32 ((rd_T31 l0 x34_2).f3.f0), .int .i64 ((rd_T31 l0 x34_2).f3.f1), .int .i64 ((rd_T31 l0 x34_2).f4), .int .i64 0]) ?_ 7 _ rfl; (with_reducible repeat (first | refine blk_drewN ?_ _ | refine blk_drew ?_ | refine blk_alloc ?_ _)); refine blk_put (cs := #[.int .i64 ((rd_T31 l0 x34_2).f0), .int .i64 ((rd_T31 l0 x34_2).f1), .int .u32 ((rd_T31 l0 x34_2).f2.f0), .int .i64 ((rd_T31 l0 x34_2).f2.f1), .int .u32 ((rd_T31 l0 x34_2).f3.f0), .int .i64 ((rd_T31 l0 x34_2).f3.f1), .int .i64 0, .int .i64 0]) ?_ 6 _ rfl; (with_reducible repeat (first | refine blk_drewN ?_ _ | refine blk_drew ?_ | refine blk_alloc ?_ _)); refine blk_put (cs := #[.int .i64 ((rd_T31 l0 x34_2).f0), .int .i64 ((rd_T31 l0 x34_2).f1), .int .u32 ((rd_T31 l0 x34_2).f2.f0), .int .i64 ((rd_T31 l0 x34_2).f2.f1), .int .u32 ((rd_T31 l0 x34_2).f3.f0), .int .i64 0, .int .i64 0, .int .i64 0]) ?_ 5 _ rfl; (with_reducible repeat (first | refine blk_drewN ?_ _ | refine blk_drew ?_ | refine blk_alloc ?_ _)); refine blk_put (cs := #[.int .i64 ((rd_T31 l0 x34_2).f0), .int .i64 ((rd_T31 l0 x34_2).f1), .int .u32 ((rd_T31 l0 x34_2).f2.f0), .int .i64 ((rd_T31 l0 x34_2).f2.f1), .int .u32 0, .int .i64 0, .int .i64 0, .int .i64 0]) ?_ 4 _ rfl; (with_reducible repeat (first | refine blk_drewN ?_ _ | refine blk_drew ?_ | refine blk_alloc ?_ _)); refine blk_put (cs := #[.int .i64 ((rd_T31 l0 x34_2).f0), .int .i64 ((rd_T31 l0 x34_2).f1), .int .u32 ((rd_T31 l0 x34_2).f2.f0), .int .i64 0, .int .u32 0, .int .i64 0, .int .i64 0, .int .i64 0]) ?_ 3 _ rfl; (with_reducible repeat (first | refine blk_drewN ?_ _ | refine blk_drew ?_ | refine blk_alloc ?_ _)); refine blk_put (cs := #[.int .i64 ((rd_T31 l0 x34_2).f0), .int .i64 ((rd_T31 l0 x34_2).f1), .int .u32 0, .int .i64 0, .int .u32 0, .int .i64 0, .int .i64 0, .int .i64 0]) ?_ 2 _ rfl; (with_reducible repeat (first | refine blk_drewN ?_ _ | refine blk_drew ?_ | refine blk_alloc ?_ _)); refine blk_put (cs := #[.int .i64 ((rd_T31 l0 x34_2).f0), .int .i64 0, .int .u32 0, .int .i64 0, .int .u32 0, .int .i64 0, .int .i64 0, .int .i64 0]) ?_ 1 _ rfl; (with_reducible repeat (first | refine blk_drewN ?_ _ | refine blk_drew ?_ | refine blk_alloc ?_ _)); refine blk_put (cs := #[.int .i64 0, .int .i64 0, .int .u32 0, .int .i64 0, .int .u32 0, .int .i64 0, .int .i64 0, .int .i64 0]) ?_ 0 _ rfl; (with_reducible repeat (first | refine blk_drewN ?_ _ | refine blk_drew ?_ | refine blk_alloc ?_ _)); exact BK189.out) hb); have n2_ := Aside0.mk (below_step (by repeat (first | (with_reducible first | exact HB.out | apply below_alloc | apply pw_below_drewN | apply below_drew1 | refine below_set ?_ GE189.out) | exact HB.out)) hb); clear HO_5; clear BK189; clear HB; have HO_5 := n0_; have BK189 := n1_; have HB := n2_; clear n0_ n1_ n2_; (try clear hb); (try clear hb2); (try clear hk); (try clear hi)))
                        (try simp only [← hl5_2])
                        go_roundg k2
                        case measure => have := HK1.out; have := HK2.out; omega
                        case rel => exact ⟨(x5_2), (wrap64 (x34_2 + 1)), (by first | rfl | (simp; done) | (simp [*]; done)), H', ⟨by have := HK1.out; have := HK2.out; omega⟩, ⟨by (try simp only [hl5_1]); (try simp only [hl5_2]); (with_reducible repeat (first | apply Kd.S_alloc | apply Kd.S_drewN | apply Kd.S_drew)); exact HO_5.out⟩, ⟨by repeat (first | (with_reducible first | exact HB.out | apply below_alloc | apply pw_below_drewN | apply below_drew1 | refine below_set ?_ GE189.out) | exact HB.out)⟩⟩
                    · rw [if_neg c26] at H
                      exact absurd H (by simp)
                  · rw [if_neg c25] at H
                    exact absurd H (by simp)
                · rw [if_neg c24] at H
                  have c24b0 : decide (x34_2 < (l0.length : Int)) = false := decide_eq_false c24
                  clear c24
                  obtain rfl := Option.some.inj H
                  go_wp2
                  (try rw [Exit.noGoto_ret])
                  go_ret
                  exact ⟨_, by first | rfl | (simp [errW_none, errW_some] <;> rfl) | (simp only [← hji3, ← hji4]; first | rfl | (simp [errW_none, errW_some] <;> rfl)) | (simp [*, errW_none, errW_some] <;> rfl), by (with_reducible repeat (first | apply Kd.S_alloc | apply Kd.S_drewN | apply Kd.S_drew)); exact HO_5.out, by repeat (first | (with_reducible first | exact HB.out | apply below_alloc | apply pw_below_drewN | apply below_drew1) | exact HB.out)⟩
    · rw [if_neg c6] at H
      exact absurd H (by simp)
  · rw [if_neg c5] at H
    exact absurd H (by simp)

end Go.Proofs.Ytakfnghakbjncaa.P
