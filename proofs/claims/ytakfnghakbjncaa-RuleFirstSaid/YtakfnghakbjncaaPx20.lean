-- Written by a program of this session (xprint.py), over the kit's print; not trusted: Lean checks it.
import Derived.Test.YtakfnghakbjncaaPx0
import Derived.Test.YtakfnghakbjncaaPx19
namespace Go.Proofs.Ytakfnghakbjncaa.P
open Go.RowKit Go.Proofs.YtakfnghakbjncaaW.PrintWords Go.Proofs.YtakfnghakbjncaaW.PrintLast Go.Proofs.YtakfnghakbjncaaW.PrintMore
attribute [local go_sem] max2_int min2_int max_two min_two max_three min_three max_four min_four   -- for this text's walks alone
set_option linter.unusedVariables false
set_option linter.unusedSimpArgs false

/-! ### gueriteref15_First: function 22 -/
def gueriteref15_First.l0 : Nat → List (S42) → Int → Int → Int → Int → Int → Int → Int → Int → Option (Int)
  | 0, _, _, _, _, _, _, _, _, _ => none
  | k + 1, x0, x1, x2, x9, x277000, x277001, x277002, x277003, x277004 => if x9 < (x0.length : Int) then (if 0 ≤ x9 then ((gueriteref15_Matches.f k ((rd_T42 x0 x9).f0) ((rd_T42 x0 x9).f1) ((rd_T42 x0 x9).f2.f0) ((rd_T42 x0 x9).f2.f1) ((rd_T42 x0 x9).f3.f0) ((rd_T42 x0 x9).f3.f1) ((rd_T42 x0 x9).f4) ((rd_T42 x0 x9).f5) ((rd_T42 x0 x9).f6) ((rd_T42 x0 x9).f7) ((rd_T42 x0 x9).f8) ((rd_T42 x0 x9).f9) x1 x2 x277000 x277001 x277002 x277003 x277004).bind fun t278 => (if t278 = true then (some x9) else (gueriteref15_First.l0 k x0 x1 x2 (wrap64 (x9 + 1)) x277000 x277001 x277002 x277003 x277004))) else (none)) else (some (-1))
def gueriteref15_First.f (k : Nat) (l0 : List (S42)) (a1 : Int) (a2 : Int) (a3_0 : Int) (a3_1 : Int) (a3_2 : Int) (a3_3 : Int) (a3_4 : Int) : Option (Int) := gueriteref15_First.l0 k l0 a1 a2 0 a3_0 a3_1 a3_2 a3_3 a3_4
theorem gueriteref15_First.mono_l : ∀ k, (∀ y0 y1 y2 y3 y4 y5 y6 y7 y8, LeO (gueriteref15_First.l0 k y0 y1 y2 y3 y4 y5 y6 y7 y8) (gueriteref15_First.l0 (k + 1) y0 y1 y2 y3 y4 y5 y6 y7 y8))
  | 0 => fun _ _ _ _ _ _ _ _ _ r h => by simp [gueriteref15_First.l0] at h
  | k + 1 => by
    have ih0 := gueriteref15_First.mono_l k
    · intro y0 y1 y2 y3 y4 y5 y6 y7 y8
      unfold gueriteref15_First.l0
      repeat' first
      | (with_reducible exact ih0 _ _ _ _ _ _ _ _ _)
      | (with_reducible exact gueriteref15_Matches.mono _ _ _ _ _ _ _ _ _ _ _ _ _ _ _ _ _ _ _ _)
      | (with_reducible exact LeO.refl _)
      | (with_reducible exact LeO.none _)
      | (with_reducible refine LeO.ite ?_ ?_)
      | (with_reducible refine LeO.bind ?_ (fun _ => ?_))
      | exact ih0 _ _ _ _ _ _ _ _ _
      | exact gueriteref15_Matches.mono _ _ _ _ _ _ _ _ _ _ _ _ _ _ _ _ _ _ _ _
      | exact LeO.none _
      | refine LeO.ite ?_ ?_
      | refine LeO.bind ?_ (fun _ => ?_)
theorem gueriteref15_First.mono : ∀ a0 a1 a2 a3 a4 a5 a6 a7 k, LeO (gueriteref15_First.f k a0 a1 a2 a3 a4 a5 a6 a7) (gueriteref15_First.f (k + 1) a0 a1 a2 a3 a4 a5 a6 a7) := by
  intro a0 a1 a2 a3 a4 a5 a6 a7 k
  have ih0 := gueriteref15_First.mono_l k
  unfold gueriteref15_First.f
  repeat' first
      | (with_reducible exact ih0 _ _ _ _ _ _ _ _ _)
      | (with_reducible exact gueriteref15_Matches.mono _ _ _ _ _ _ _ _ _ _ _ _ _ _ _ _ _ _ _ _)
      | (with_reducible exact LeO.refl _)
      | (with_reducible exact LeO.none _)
      | (with_reducible refine LeO.ite ?_ ?_)
      | (with_reducible refine LeO.bind ?_ (fun _ => ?_))
      | exact ih0 _ _ _ _ _ _ _ _ _
      | exact gueriteref15_Matches.mono _ _ _ _ _ _ _ _ _ _ _ _ _ _ _ _ _ _ _ _
      | exact LeO.none _
      | refine LeO.ite ?_ ?_
      | refine LeO.bind ?_ (fun _ => ?_)
def gueriteref15_First.T4 : Bool × List (List Nat × List Nat) := (true, [([], []), ([], []), ([0, 1], [0, 1]), ([2], [2]), ([], []), ([], []), ([], []), ([3, 4, 5, 6], [3, 4, 5, 6])])
def gueriteref15_First.B4 : List Nat := [0, 0, 3, 7, 0, 0, 0, 127]
theorem gueriteref15_First.tab4 : rtab .any (opsOf Try.f22 4) = gueriteref15_First.T4 := by kernel_rfl
theorem gueriteref15_First.bits4 : waitsOk gueriteref15_First.T4.2 gueriteref15_First.B4 = true := by kernel_rfl
set_option maxHeartbeats 8000000 in
set_option maxRecDepth 100000 in
theorem gueriteref15_First.calls (k : Nat) (A0 : Option Addr) (c0 : Nat) (l0 : List (S42)) (a1 : Int) (a2 : Int) (a3_0 : Int) (a3_1 : Int) (a3_2 : Int) (a3_3 : Int) (a3_4 : Int) (r : Int) (w : World) (hr0 : Kd.C k42 w A0 l0.length l0) (hc0 : l0.length ≤ c0) (h : gueriteref15_First.f k l0 a1 a2 a3_0 a3_1 a3_2 a3_3 a3_4 = some r) :
    Calls Try.prog 22 #[.slice A0 l0.length c0, .int .i64 a1, .int .i64 a2, .agg #[.int .u32 a3_0, .int .u32 a3_1, .int .i64 a3_2, .int .i64 a3_3, .int .i64 a3_4]] w fun e w' => e = .returned (.int .i64 r) ∧ Below w.heap.size w w' := by
  have hu44 := Try.underlying44
  have hu42 := Try.underlying42
  have HR0 := Aside0.mk hr0
  have HC0 := Aside0.mk hc0
  clear hr0 hc0
  have HB := Aside0.mk (Below.refl w.heap.size w)
  have H : (gueriteref15_First.l0 k l0 a1 a2 0 a3_0 a3_1 a3_2 a3_3 a3_4) = some r := h
  clear h
  have H' := Aside0.mk H
  clear H
  go_enter Try.func22, Try.ntmps22
  go_wp2_with (first | ((with_reducible refine gate_dst (N := 7) rfl ?_); refine box_event ?hg (N := 7) ?hd (cs := #[.int .u32 a3_0, .int .u32 a3_1, .int .i64 a3_2, .int .i64 a3_3, .int .i64 a3_4]) (t := 44) ?hr ?_; (case hd => rfl); (case hg => rfl); (case hr => first | (go_simp; done) | (go_simp; rfl)); intro gb276 hg w5 hbox hb; have n0_ := Aside0.mk (below_step (by repeat (first | (with_reducible first | exact HB.out | apply below_alloc | apply pw_below_drewN | apply below_drew1) | exact HB.out)) hb); have n1_ := Aside0.mk (hbox); have n2_ := Aside0.mk ((by rw [hg]; exact (below_size (by repeat (first | (with_reducible first | exact HB.out | apply below_alloc | apply pw_below_drewN | apply below_drew1) | exact HB.out))) : w.heap.size ≤ gb276)); have n3_ := Aside0.mk ((by rw [hg]; exact (below_size (by repeat (first | (with_reducible first | exact HB.out | apply below_alloc | apply pw_below_drewN | apply below_drew1) | exact HB.out))) : w.heap.size ≤ gb276)); clear HB; have HB := n0_; have BK276 := n1_; have GW276 := n2_; have GE276 := n3_; clear n0_ n1_ n2_ n3_; clear hb hbox hg))
  go_loopg [9] k (fun kq v9 w' => ∃ (x9_1 : Int), v9 = .int .i64 x9_1 ∧ Aside0 (gueriteref15_First.l0 kq l0 a1 a2 x9_1 a3_0 a3_1 a3_2 a3_3 a3_4 = some r) ∧ Aside0 (kq ≤ k) ∧ Aside0 (w'.heap[gb276]? = some (.cells #[.int .u32 a3_0, .int .u32 a3_1, .int .i64 a3_2, .int .i64 a3_3, .int .i64 a3_4] 44 (0, 0))) ∧ Aside0 (Below w.heap.size w w'))
  case atStart => exact ⟨(0), (by first | rfl | (simp; done) | (simp [*]; done)), H', ⟨Nat.le_refl _⟩, ⟨by (with_reducible repeat (first | refine blk_drewN ?_ _ | refine blk_drew ?_ | refine blk_alloc ?_ _)); exact BK276.out⟩, ⟨by repeat (first | (with_reducible first | exact HB.out | apply below_alloc | apply pw_below_drewN | apply below_drew1 | refine below_set ?_ GE276.out) | exact HB.out)⟩⟩
  case round =>
    clear H'
    try clear c2
    try clear p2
    obtain ⟨x9_1, rfl, HA, HK1, BK276, HB⟩ := hrel
    cases gk with
    | zero => exact absurd HA.out (by simp [gueriteref15_First.l0])
    | succ k1 =>
      have H := HA.out
      clear HA
      simp only [gueriteref15_First.l0] at H
      by_cases c6 : x9_1 < (l0.length : Int)
      · rw [if_pos c6] at H
        have c6b0 : decide (x9_1 < (l0.length : Int)) = true := decide_eq_true c6
        clear c6
        by_cases c7 : 0 ≤ x9_1
        · rw [if_pos c7] at H
          have c7b0 : decide (0 ≤ x9_1) = true := decide_eq_true c7
          clear c7
          replace H := Option.bind_eq_some_iff.mp H
          obtain ⟨t278, A80, H⟩ := H
          replace H : (if t278 = true then (some x9_1) else (gueriteref15_First.l0 k1 l0 a1 a2 (wrap64 (x9_1 + 1)) a3_0 a3_1 a3_2 a3_3 a3_4)) = some r := H
          have A8 := Aside0.mk A80
          clear A80
          by_cases c9 : t278 = true
          · subst c9
            have H1 : (some x9_1) = some r := by rw [if_pos rfl] at H; exact H
            clear H
            have H := H1
            clear H1
            obtain rfl := Option.some.inj H
            try go_wp2
            have n0_ := Aside0.mk (blk_drew BK276.out)
            have n1_ := Aside0.mk (below_drew1 HB.out)
            clear BK276
            clear HB
            have BK276 := n0_
            have HB := n1_
            clear n0_ n1_
            have p277 : 0 ≤ (x9_1 : Int) := of_decide_eq_true (by first | (with_reducible assumption) | assumption)
            have q277 : x9_1 < (l0.length : Int) := of_decide_eq_true (by first | (with_reducible assumption) | assumption)
            obtain ⟨ad277, e277, hx277_0, hx277_1, hx277_2, hx277_3, hx277_4, hx277_5, hx277_6, hx277_7, hx277_8, hx277_9, hx277_10, hx277_11⟩ := at_T42 HR0.out x9_1 p277 q277
            have hw277_11 := hx277_11
            have hw277_10 := hx277_10
            have hw277_9 := hx277_9
            have hw277_8 := hx277_8
            have hw277_7 := hx277_7
            have hw277_6 := hx277_6
            have hw277_5 := hx277_5
            have hw277_4 := hx277_4
            have hw277_3 := hx277_3
            have hw277_2 := hx277_2
            have hw277_1 := hx277_1
            have hw277_0 := hx277_0
            cases e277
            replace hx277_0 := (HB.out.cell (World.block_lt_of_cell? w _ hx277_0)).trans hx277_0
            replace hx277_1 := (HB.out.cell (World.block_lt_of_cell? w _ hx277_1)).trans hx277_1
            replace hx277_2 := (HB.out.cell (World.block_lt_of_cell? w _ hx277_2)).trans hx277_2
            replace hx277_3 := (HB.out.cell (World.block_lt_of_cell? w _ hx277_3)).trans hx277_3
            replace hx277_4 := (HB.out.cell (World.block_lt_of_cell? w _ hx277_4)).trans hx277_4
            replace hx277_5 := (HB.out.cell (World.block_lt_of_cell? w _ hx277_5)).trans hx277_5
            replace hx277_6 := (HB.out.cell (World.block_lt_of_cell? w _ hx277_6)).trans hx277_6
            replace hx277_7 := (HB.out.cell (World.block_lt_of_cell? w _ hx277_7)).trans hx277_7
            replace hx277_8 := (HB.out.cell (World.block_lt_of_cell? w _ hx277_8)).trans hx277_8
            replace hx277_9 := (HB.out.cell (World.block_lt_of_cell? w _ hx277_9)).trans hx277_9
            replace hx277_10 := (HB.out.cell (World.block_lt_of_cell? w _ hx277_10)).trans hx277_10
            replace hx277_11 := (HB.out.cell (World.block_lt_of_cell? w _ hx277_11)).trans hx277_11
            replace p277 := eq_true p277
            replace q277 := eq_true q277
            refine start_ (n := 8) (S := fun w' => w'.cell? ⟨gb276, 0, none⟩ = some (.int .u32 a3_0) ∧ w'.cell? ⟨gb276, 1, none⟩ = some (.int .u32 a3_1) ∧ w'.cell? ⟨gb276, 2, none⟩ = some (.int .i64 a3_2) ∧ w'.cell? ⟨gb276, 3, none⟩ = some (.int .i64 a3_3) ∧ w'.cell? ⟨gb276, 4, none⟩ = some (.int .i64 a3_4) ∧ w'.cell? (ad277.add ((x9_1).toNat * 12)) = some (.int .i64 ((rd_T42 l0 x9_1).f0)) ∧ w'.cell? ⟨(ad277.add ((x9_1).toNat * 12)).block, (ad277.add ((x9_1).toNat * 12)).off + 1, none⟩ = some (.int .i64 ((rd_T42 l0 x9_1).f1)) ∧ w'.cell? ⟨(ad277.add ((x9_1).toNat * 12)).block, (ad277.add ((x9_1).toNat * 12)).off + 2, none⟩ = some (.int .u32 ((rd_T42 l0 x9_1).f2.f0)) ∧ w'.cell? ⟨(ad277.add ((x9_1).toNat * 12)).block, (ad277.add ((x9_1).toNat * 12)).off + 3, none⟩ = some (.int .i64 ((rd_T42 l0 x9_1).f2.f1)) ∧ w'.cell? ⟨(ad277.add ((x9_1).toNat * 12)).block, (ad277.add ((x9_1).toNat * 12)).off + 4, none⟩ = some (.int .u32 ((rd_T42 l0 x9_1).f3.f0)) ∧ w'.cell? ⟨(ad277.add ((x9_1).toNat * 12)).block, (ad277.add ((x9_1).toNat * 12)).off + 5, none⟩ = some (.int .i64 ((rd_T42 l0 x9_1).f3.f1)) ∧ w'.cell? ⟨(ad277.add ((x9_1).toNat * 12)).block, (ad277.add ((x9_1).toNat * 12)).off + 6, none⟩ = some (.int .i64 ((rd_T42 l0 x9_1).f4)) ∧ w'.cell? ⟨(ad277.add ((x9_1).toNat * 12)).block, (ad277.add ((x9_1).toNat * 12)).off + 7, none⟩ = some (.int .i64 ((rd_T42 l0 x9_1).f5)) ∧ w'.cell? ⟨(ad277.add ((x9_1).toNat * 12)).block, (ad277.add ((x9_1).toNat * 12)).off + 8, none⟩ = some (.int .i64 ((rd_T42 l0 x9_1).f6)) ∧ w'.cell? ⟨(ad277.add ((x9_1).toNat * 12)).block, (ad277.add ((x9_1).toNat * 12)).off + 9, none⟩ = some (.int .i64 ((rd_T42 l0 x9_1).f7)) ∧ w'.cell? ⟨(ad277.add ((x9_1).toNat * 12)).block, (ad277.add ((x9_1).toNat * 12)).off + 10, none⟩ = some (.int .i64 ((rd_T42 l0 x9_1).f8)) ∧ w'.cell? ⟨(ad277.add ((x9_1).toNat * 12)).block, (ad277.add ((x9_1).toNat * 12)).off + 11, none⟩ = some (.bool ((rd_T42 l0 x9_1).f9))) (ds := []) #[false, false, false, false, false, false, false, false] (by kernel_rfl) rfl rfl ⟨(blk_cell BK276.out 0).trans rfl, (blk_cell BK276.out 1).trans rfl, (blk_cell BK276.out 2).trans rfl, (blk_cell BK276.out 3).trans rfl, (blk_cell BK276.out 4).trans rfl, ((HB.out.cell (World.block_lt_of_cell? w _ hw277_0)).trans hw277_0), ((HB.out.cell (World.block_lt_of_cell? w _ hw277_1)).trans hw277_1), ((HB.out.cell (World.block_lt_of_cell? w _ hw277_2)).trans hw277_2), ((HB.out.cell (World.block_lt_of_cell? w _ hw277_3)).trans hw277_3), ((HB.out.cell (World.block_lt_of_cell? w _ hw277_4)).trans hw277_4), ((HB.out.cell (World.block_lt_of_cell? w _ hw277_5)).trans hw277_5), ((HB.out.cell (World.block_lt_of_cell? w _ hw277_6)).trans hw277_6), ((HB.out.cell (World.block_lt_of_cell? w _ hw277_7)).trans hw277_7), ((HB.out.cell (World.block_lt_of_cell? w _ hw277_8)).trans hw277_8), ((HB.out.cell (World.block_lt_of_cell? w _ hw277_9)).trans hw277_9), ((HB.out.cell (World.block_lt_of_cell? w _ hw277_10)).trans hw277_10), ((HB.out.cell (World.block_lt_of_cell? w _ hw277_11)).trans hw277_11)⟩ (fun hHeld => ?_); refine with_tabW gueriteref15_First.tab4 gueriteref15_First.bits4 (fun HT_ HW_ => ?_)
            generalize wr.drew = w10 at BK276 HB hx277_0 hx277_1 hx277_10 hx277_11 hx277_2 hx277_3 hx277_4 hx277_5 hx277_6 hx277_7 hx277_8 hx277_9 hHeld ⊢
            refine pure_ (i := 0) (N := some 16) (v := ?_) (a' := ?_) #[true, false, false, false, false, false, false, false] rfl rfl (any_of HT_.out (by kernel_rfl)) (fun _ _ _ h => h) (Or.inl ⟨by rfl, ?_⟩) ?_ ?_
            rotate_left
            · intro w'
              go_simp
              with_reducible rfl
            rotate_left
            · simp only [Act.put, List.setIfInBounds_toArray, List.set_cons_zero, List.set_cons_succ, i64_w, i32_w]
              rfl
            refine pure_ (i := 1) (N := some 17) (v := ?_) (a' := ?_) #[true, true, false, false, false, false, false, false] rfl rfl (any_of HT_.out (by kernel_rfl)) (fun _ _ _ h => h) (Or.inl ⟨by rfl, ?_⟩) ?_ ?_
            rotate_left
            · intro w'
              go_simp
              with_reducible rfl
            rotate_left
            · simp only [Act.put, List.setIfInBounds_toArray, List.set_cons_zero, List.set_cons_succ, i64_w, i32_w]
              rfl
            refine pure_ (i := 2) (N := some 18) (v := ?_) (a' := ?_) #[true, true, true, false, false, false, false, false] rfl rfl (any_of HT_.out (by kernel_rfl)) (fun _ _ _ h => h) (Or.inl ⟨by rfl, ?_⟩) ?_ ?_
            rotate_left
            · intro w'
              go_simp
              with_reducible rfl
            rotate_left
            · simp only [Act.put, List.setIfInBounds_toArray, List.set_cons_zero, List.set_cons_succ, i64_w, i32_w]
              rfl
            refine pure_ (i := 4) (N := some 20) (v := ?_) (a' := ?_) #[true, true, true, false, true, false, false, false] rfl rfl (any_of HT_.out (by kernel_rfl)) (fun _ _ _ h => h) (Or.inl ⟨by rfl, ?_⟩) ?_ ?_
            rotate_left
            · intro w'
              go_simp
              with_reducible rfl
            rotate_left
            · simp only [Act.put, List.setIfInBounds_toArray, List.set_cons_zero, List.set_cons_succ, i64_w, i32_w]
              rfl
            refine pure_ (i := 5) (N := some 21) (v := ?_) (a' := ?_) #[true, true, true, false, true, true, false, false] rfl rfl (any_of HT_.out (by kernel_rfl)) (fun _ _ _ h => h) (Or.inl ⟨by rfl, ?_⟩) ?_ ?_
            rotate_left
            · intro w'
              go_simp
              with_reducible rfl
            rotate_left
            · simp only [Act.put, List.setIfInBounds_toArray, List.set_cons_zero, List.set_cons_succ, i64_w, i32_w]
              rfl
            refine take_ (i := 3) (N := some 19) (v := ?_) (a' := ?_) #[true, true, true, true, true, true, false, false] rfl rfl (take_ofW HT_.out HW_.out (by kernel_rfl)) (fun _ _ _ h => h) (Or.inl ⟨by rfl, ?_⟩) hHeld ?_ ?_
            rotate_left
            · rintro w' ⟨s0, s1, s2, s3, s4, s5, s6, s7, s8, s9, s10, s11, s12, s13, s14, s15, s16⟩
              go_simp
              with_reducible rfl
            rotate_left
            · simp only [Act.put, List.setIfInBounds_toArray, List.set_cons_zero, List.set_cons_succ, i64_w, i32_w]
              rfl
            refine take_ (i := 6) (N := some 22) (v := ?_) (a' := ?_) #[true, true, true, true, true, true, true, false] rfl rfl (take_ofW HT_.out HW_.out (by kernel_rfl)) (fun _ _ _ h => h) (Or.inl ⟨by rfl, ?_⟩) hHeld ?_ ?_
            rotate_left
            · rintro w' ⟨s0, s1, s2, s3, s4, s5, s6, s7, s8, s9, s10, s11, s12, s13, s14, s15, s16⟩
              go_simp
              with_reducible rfl
            rotate_left
            · simp only [Act.put, List.setIfInBounds_toArray, List.set_cons_zero, List.set_cons_succ, i64_w, i32_w]
              rfl
            refine one_ (i := 7) (N := some 23) #[true, true, true, true, true, true, true, true] rfl rfl (one_of HT_.out (by kernel_rfl)) (by decide) (fun K hK => ?_)
            refine goes_ Try.func24 (by kernel_rfl) rfl #[.agg #[.int .i64 ((rd_T42 l0 x9_1).f0), .int .i64 ((rd_T42 l0 x9_1).f1), .int .u32 ((rd_T42 l0 x9_1).f2.f0), .int .i64 ((rd_T42 l0 x9_1).f2.f1), .int .u32 ((rd_T42 l0 x9_1).f3.f0), .int .i64 ((rd_T42 l0 x9_1).f3.f1), .int .i64 ((rd_T42 l0 x9_1).f4), .int .i64 ((rd_T42 l0 x9_1).f5), .int .i64 ((rd_T42 l0 x9_1).f6), .int .i64 ((rd_T42 l0 x9_1).f7), .int .i64 ((rd_T42 l0 x9_1).f8), .bool ((rd_T42 l0 x9_1).f9)], .int .i64 a1, .int .i64 a2, .agg #[.int .u32 a3_0, .int .u32 a3_1, .int .i64 a3_2, .int .i64 a3_3, .int .i64 a3_4]] (by rfl) rfl rfl (by (try simp only [List.map_toArray, List.map_cons, List.map_nil]); first | done | rfl | (simp only [List.length_drop, List.length_take]; rfl)) ?_
            with_reducible refine (gueriteref15_Matches.calls k1 ((rd_T42 l0 x9_1).f0) ((rd_T42 l0 x9_1).f1) ((rd_T42 l0 x9_1).f2.f0) ((rd_T42 l0 x9_1).f2.f1) ((rd_T42 l0 x9_1).f3.f0) ((rd_T42 l0 x9_1).f3.f1) ((rd_T42 l0 x9_1).f4) ((rd_T42 l0 x9_1).f5) ((rd_T42 l0 x9_1).f6) ((rd_T42 l0 x9_1).f7) ((rd_T42 l0 x9_1).f8) ((rd_T42 l0 x9_1).f9) a1 a2 a3_0 a3_1 a3_2 a3_3 a3_4 true _ A8.out).mono ?_
            rintro e w11 ⟨rfl, hb⟩
            refine ⟨_, rfl, ?_⟩
            have n0_ := Aside0.mk (blk_below (g := gb276) (o := .cells #[.int .u32 a3_0, .int .u32 a3_1, .int .i64 a3_2, .int .i64 a3_3, .int .i64 a3_4] 44 (0, 0)) (by (with_reducible repeat (first | refine blk_drewN ?_ _ | refine blk_drew ?_ | refine blk_alloc ?_ _)); exact BK276.out) hb)
            have n1_ := Aside0.mk (below_step (by repeat (first | (with_reducible first | exact HB.out | apply below_alloc | apply pw_below_drewN | apply below_drew1 | refine below_set ?_ GE276.out) | exact HB.out)) hb)
            clear BK276
            clear HB
            have BK276 := n0_
            have HB := n1_
            clear n0_ n1_
            (try clear hb)
            (try clear hb2)
            (try clear hk)
            (try clear hi)
            refine hK.out _ _ ⟨(blk_cell BK276.out 0).trans rfl, (blk_cell BK276.out 1).trans rfl, (blk_cell BK276.out 2).trans rfl, (blk_cell BK276.out 3).trans rfl, (blk_cell BK276.out 4).trans rfl, ((HB.out.cell (World.block_lt_of_cell? w _ hw277_0)).trans hw277_0), ((HB.out.cell (World.block_lt_of_cell? w _ hw277_1)).trans hw277_1), ((HB.out.cell (World.block_lt_of_cell? w _ hw277_2)).trans hw277_2), ((HB.out.cell (World.block_lt_of_cell? w _ hw277_3)).trans hw277_3), ((HB.out.cell (World.block_lt_of_cell? w _ hw277_4)).trans hw277_4), ((HB.out.cell (World.block_lt_of_cell? w _ hw277_5)).trans hw277_5), ((HB.out.cell (World.block_lt_of_cell? w _ hw277_6)).trans hw277_6), ((HB.out.cell (World.block_lt_of_cell? w _ hw277_7)).trans hw277_7), ((HB.out.cell (World.block_lt_of_cell? w _ hw277_8)).trans hw277_8), ((HB.out.cell (World.block_lt_of_cell? w _ hw277_9)).trans hw277_9), ((HB.out.cell (World.block_lt_of_cell? w _ hw277_10)).trans hw277_10), ((HB.out.cell (World.block_lt_of_cell? w _ hw277_11)).trans hw277_11)⟩ (fun hHeld => ?_)
            clear hK K
            refine norm_ (a' := ?_) ?_ ?_
            rotate_left
            · show Act.put _ (some 23) _ = _
              simp only [Act.put, List.setIfInBounds_toArray, List.set_cons_zero, List.set_cons_succ, i64_w, i32_w]
              rfl
            refine done_ (done_of HT_.out (by kernel_rfl)) ?_
            try go_wp2
            go_ret
            exact ⟨by first | rfl | (simp [errW_none, errW_some] <;> rfl) | (simp [*, errW_none, errW_some] <;> rfl), by repeat (first | (with_reducible first | exact HB.out | apply below_alloc | apply pw_below_drewN | apply below_drew1 | refine below_set ?_ GE276.out) | exact HB.out)⟩
          · replace c9 := Bool.eq_false_iff.mpr c9
            subst c9
            have H1 : (gueriteref15_First.l0 k1 l0 a1 a2 (wrap64 (x9_1 + 1)) a3_0 a3_1 a3_2 a3_3 a3_4) = some r := by rw [if_neg (show ¬ (false = true) by decide)] at H; exact H
            clear H
            have H := H1
            clear H1
            have H' := Aside0.mk H
            clear H
            try go_wp2
            have n0_ := Aside0.mk (blk_drew BK276.out)
            have n1_ := Aside0.mk (below_drew1 HB.out)
            clear BK276
            clear HB
            have BK276 := n0_
            have HB := n1_
            clear n0_ n1_
            have p277 : 0 ≤ (x9_1 : Int) := of_decide_eq_true (by first | (with_reducible assumption) | assumption)
            have q277 : x9_1 < (l0.length : Int) := of_decide_eq_true (by first | (with_reducible assumption) | assumption)
            obtain ⟨ad277, e277, hx277_0, hx277_1, hx277_2, hx277_3, hx277_4, hx277_5, hx277_6, hx277_7, hx277_8, hx277_9, hx277_10, hx277_11⟩ := at_T42 HR0.out x9_1 p277 q277
            have hw277_11 := hx277_11
            have hw277_10 := hx277_10
            have hw277_9 := hx277_9
            have hw277_8 := hx277_8
            have hw277_7 := hx277_7
            have hw277_6 := hx277_6
            have hw277_5 := hx277_5
            have hw277_4 := hx277_4
            have hw277_3 := hx277_3
            have hw277_2 := hx277_2
            have hw277_1 := hx277_1
            have hw277_0 := hx277_0
            cases e277
            replace hx277_0 := (HB.out.cell (World.block_lt_of_cell? w _ hx277_0)).trans hx277_0
            replace hx277_1 := (HB.out.cell (World.block_lt_of_cell? w _ hx277_1)).trans hx277_1
            replace hx277_2 := (HB.out.cell (World.block_lt_of_cell? w _ hx277_2)).trans hx277_2
            replace hx277_3 := (HB.out.cell (World.block_lt_of_cell? w _ hx277_3)).trans hx277_3
            replace hx277_4 := (HB.out.cell (World.block_lt_of_cell? w _ hx277_4)).trans hx277_4
            replace hx277_5 := (HB.out.cell (World.block_lt_of_cell? w _ hx277_5)).trans hx277_5
            replace hx277_6 := (HB.out.cell (World.block_lt_of_cell? w _ hx277_6)).trans hx277_6
            replace hx277_7 := (HB.out.cell (World.block_lt_of_cell? w _ hx277_7)).trans hx277_7
            replace hx277_8 := (HB.out.cell (World.block_lt_of_cell? w _ hx277_8)).trans hx277_8
            replace hx277_9 := (HB.out.cell (World.block_lt_of_cell? w _ hx277_9)).trans hx277_9
            replace hx277_10 := (HB.out.cell (World.block_lt_of_cell? w _ hx277_10)).trans hx277_10
            replace hx277_11 := (HB.out.cell (World.block_lt_of_cell? w _ hx277_11)).trans hx277_11
            replace p277 := eq_true p277
            replace q277 := eq_true q277
            refine start_ (n := 8) (S := fun w' => w'.cell? ⟨gb276, 0, none⟩ = some (.int .u32 a3_0) ∧ w'.cell? ⟨gb276, 1, none⟩ = some (.int .u32 a3_1) ∧ w'.cell? ⟨gb276, 2, none⟩ = some (.int .i64 a3_2) ∧ w'.cell? ⟨gb276, 3, none⟩ = some (.int .i64 a3_3) ∧ w'.cell? ⟨gb276, 4, none⟩ = some (.int .i64 a3_4) ∧ w'.cell? (ad277.add ((x9_1).toNat * 12)) = some (.int .i64 ((rd_T42 l0 x9_1).f0)) ∧ w'.cell? ⟨(ad277.add ((x9_1).toNat * 12)).block, (ad277.add ((x9_1).toNat * 12)).off + 1, none⟩ = some (.int .i64 ((rd_T42 l0 x9_1).f1)) ∧ w'.cell? ⟨(ad277.add ((x9_1).toNat * 12)).block, (ad277.add ((x9_1).toNat * 12)).off + 2, none⟩ = some (.int .u32 ((rd_T42 l0 x9_1).f2.f0)) ∧ w'.cell? ⟨(ad277.add ((x9_1).toNat * 12)).block, (ad277.add ((x9_1).toNat * 12)).off + 3, none⟩ = some (.int .i64 ((rd_T42 l0 x9_1).f2.f1)) ∧ w'.cell? ⟨(ad277.add ((x9_1).toNat * 12)).block, (ad277.add ((x9_1).toNat * 12)).off + 4, none⟩ = some (.int .u32 ((rd_T42 l0 x9_1).f3.f0)) ∧ w'.cell? ⟨(ad277.add ((x9_1).toNat * 12)).block, (ad277.add ((x9_1).toNat * 12)).off + 5, none⟩ = some (.int .i64 ((rd_T42 l0 x9_1).f3.f1)) ∧ w'.cell? ⟨(ad277.add ((x9_1).toNat * 12)).block, (ad277.add ((x9_1).toNat * 12)).off + 6, none⟩ = some (.int .i64 ((rd_T42 l0 x9_1).f4)) ∧ w'.cell? ⟨(ad277.add ((x9_1).toNat * 12)).block, (ad277.add ((x9_1).toNat * 12)).off + 7, none⟩ = some (.int .i64 ((rd_T42 l0 x9_1).f5)) ∧ w'.cell? ⟨(ad277.add ((x9_1).toNat * 12)).block, (ad277.add ((x9_1).toNat * 12)).off + 8, none⟩ = some (.int .i64 ((rd_T42 l0 x9_1).f6)) ∧ w'.cell? ⟨(ad277.add ((x9_1).toNat * 12)).block, (ad277.add ((x9_1).toNat * 12)).off + 9, none⟩ = some (.int .i64 ((rd_T42 l0 x9_1).f7)) ∧ w'.cell? ⟨(ad277.add ((x9_1).toNat * 12)).block, (ad277.add ((x9_1).toNat * 12)).off + 10, none⟩ = some (.int .i64 ((rd_T42 l0 x9_1).f8)) ∧ w'.cell? ⟨(ad277.add ((x9_1).toNat * 12)).block, (ad277.add ((x9_1).toNat * 12)).off + 11, none⟩ = some (.bool ((rd_T42 l0 x9_1).f9))) (ds := []) #[false, false, false, false, false, false, false, false] (by kernel_rfl) rfl rfl ⟨(blk_cell BK276.out 0).trans rfl, (blk_cell BK276.out 1).trans rfl, (blk_cell BK276.out 2).trans rfl, (blk_cell BK276.out 3).trans rfl, (blk_cell BK276.out 4).trans rfl, ((HB.out.cell (World.block_lt_of_cell? w _ hw277_0)).trans hw277_0), ((HB.out.cell (World.block_lt_of_cell? w _ hw277_1)).trans hw277_1), ((HB.out.cell (World.block_lt_of_cell? w _ hw277_2)).trans hw277_2), ((HB.out.cell (World.block_lt_of_cell? w _ hw277_3)).trans hw277_3), ((HB.out.cell (World.block_lt_of_cell? w _ hw277_4)).trans hw277_4), ((HB.out.cell (World.block_lt_of_cell? w _ hw277_5)).trans hw277_5), ((HB.out.cell (World.block_lt_of_cell? w _ hw277_6)).trans hw277_6), ((HB.out.cell (World.block_lt_of_cell? w _ hw277_7)).trans hw277_7), ((HB.out.cell (World.block_lt_of_cell? w _ hw277_8)).trans hw277_8), ((HB.out.cell (World.block_lt_of_cell? w _ hw277_9)).trans hw277_9), ((HB.out.cell (World.block_lt_of_cell? w _ hw277_10)).trans hw277_10), ((HB.out.cell (World.block_lt_of_cell? w _ hw277_11)).trans hw277_11)⟩ (fun hHeld => ?_); refine with_tabW gueriteref15_First.tab4 gueriteref15_First.bits4 (fun HT_ HW_ => ?_)
            generalize wr.drew = w12 at BK276 HB hx277_0 hx277_1 hx277_10 hx277_11 hx277_2 hx277_3 hx277_4 hx277_5 hx277_6 hx277_7 hx277_8 hx277_9 hHeld ⊢
            refine pure_ (i := 0) (N := some 16) (v := ?_) (a' := ?_) #[true, false, false, false, false, false, false, false] rfl rfl (any_of HT_.out (by kernel_rfl)) (fun _ _ _ h => h) (Or.inl ⟨by rfl, ?_⟩) ?_ ?_
            rotate_left
            · intro w'
              go_simp
              with_reducible rfl
            rotate_left
            · simp only [Act.put, List.setIfInBounds_toArray, List.set_cons_zero, List.set_cons_succ, i64_w, i32_w]
              rfl
            refine pure_ (i := 1) (N := some 17) (v := ?_) (a' := ?_) #[true, true, false, false, false, false, false, false] rfl rfl (any_of HT_.out (by kernel_rfl)) (fun _ _ _ h => h) (Or.inl ⟨by rfl, ?_⟩) ?_ ?_
            rotate_left
            · intro w'
              go_simp
              with_reducible rfl
            rotate_left
            · simp only [Act.put, List.setIfInBounds_toArray, List.set_cons_zero, List.set_cons_succ, i64_w, i32_w]
              rfl
            refine pure_ (i := 2) (N := some 18) (v := ?_) (a' := ?_) #[true, true, true, false, false, false, false, false] rfl rfl (any_of HT_.out (by kernel_rfl)) (fun _ _ _ h => h) (Or.inl ⟨by rfl, ?_⟩) ?_ ?_
            rotate_left
            · intro w'
              go_simp
              with_reducible rfl
            rotate_left
            · simp only [Act.put, List.setIfInBounds_toArray, List.set_cons_zero, List.set_cons_succ, i64_w, i32_w]
              rfl
            refine pure_ (i := 4) (N := some 20) (v := ?_) (a' := ?_) #[true, true, true, false, true, false, false, false] rfl rfl (any_of HT_.out (by kernel_rfl)) (fun _ _ _ h => h) (Or.inl ⟨by rfl, ?_⟩) ?_ ?_
            rotate_left
            · intro w'
              go_simp
              with_reducible rfl
            rotate_left
            · simp only [Act.put, List.setIfInBounds_toArray, List.set_cons_zero, List.set_cons_succ, i64_w, i32_w]
              rfl
            refine pure_ (i := 5) (N := some 21) (v := ?_) (a' := ?_) #[true, true, true, false, true, true, false, false] rfl rfl (any_of HT_.out (by kernel_rfl)) (fun _ _ _ h => h) (Or.inl ⟨by rfl, ?_⟩) ?_ ?_
            rotate_left
            · intro w'
              go_simp
              with_reducible rfl
            rotate_left
            · simp only [Act.put, List.setIfInBounds_toArray, List.set_cons_zero, List.set_cons_succ, i64_w, i32_w]
              rfl
            refine take_ (i := 3) (N := some 19) (v := ?_) (a' := ?_) #[true, true, true, true, true, true, false, false] rfl rfl (take_ofW HT_.out HW_.out (by kernel_rfl)) (fun _ _ _ h => h) (Or.inl ⟨by rfl, ?_⟩) hHeld ?_ ?_
            rotate_left
            · rintro w' ⟨s0, s1, s2, s3, s4, s5, s6, s7, s8, s9, s10, s11, s12, s13, s14, s15, s16⟩
              go_simp
              with_reducible rfl
            rotate_left
            · simp only [Act.put, List.setIfInBounds_toArray, List.set_cons_zero, List.set_cons_succ, i64_w, i32_w]
              rfl
            refine take_ (i := 6) (N := some 22) (v := ?_) (a' := ?_) #[true, true, true, true, true, true, true, false] rfl rfl (take_ofW HT_.out HW_.out (by kernel_rfl)) (fun _ _ _ h => h) (Or.inl ⟨by rfl, ?_⟩) hHeld ?_ ?_
            rotate_left
            · rintro w' ⟨s0, s1, s2, s3, s4, s5, s6, s7, s8, s9, s10, s11, s12, s13, s14, s15, s16⟩
              go_simp
              with_reducible rfl
            rotate_left
            · simp only [Act.put, List.setIfInBounds_toArray, List.set_cons_zero, List.set_cons_succ, i64_w, i32_w]
              rfl
            refine one_ (i := 7) (N := some 23) #[true, true, true, true, true, true, true, true] rfl rfl (one_of HT_.out (by kernel_rfl)) (by decide) (fun K hK => ?_)
            refine goes_ Try.func24 (by kernel_rfl) rfl #[.agg #[.int .i64 ((rd_T42 l0 x9_1).f0), .int .i64 ((rd_T42 l0 x9_1).f1), .int .u32 ((rd_T42 l0 x9_1).f2.f0), .int .i64 ((rd_T42 l0 x9_1).f2.f1), .int .u32 ((rd_T42 l0 x9_1).f3.f0), .int .i64 ((rd_T42 l0 x9_1).f3.f1), .int .i64 ((rd_T42 l0 x9_1).f4), .int .i64 ((rd_T42 l0 x9_1).f5), .int .i64 ((rd_T42 l0 x9_1).f6), .int .i64 ((rd_T42 l0 x9_1).f7), .int .i64 ((rd_T42 l0 x9_1).f8), .bool ((rd_T42 l0 x9_1).f9)], .int .i64 a1, .int .i64 a2, .agg #[.int .u32 a3_0, .int .u32 a3_1, .int .i64 a3_2, .int .i64 a3_3, .int .i64 a3_4]] (by rfl) rfl rfl (by (try simp only [List.map_toArray, List.map_cons, List.map_nil]); first | done | rfl | (simp only [List.length_drop, List.length_take]; rfl)) ?_
            with_reducible refine (gueriteref15_Matches.calls k1 ((rd_T42 l0 x9_1).f0) ((rd_T42 l0 x9_1).f1) ((rd_T42 l0 x9_1).f2.f0) ((rd_T42 l0 x9_1).f2.f1) ((rd_T42 l0 x9_1).f3.f0) ((rd_T42 l0 x9_1).f3.f1) ((rd_T42 l0 x9_1).f4) ((rd_T42 l0 x9_1).f5) ((rd_T42 l0 x9_1).f6) ((rd_T42 l0 x9_1).f7) ((rd_T42 l0 x9_1).f8) ((rd_T42 l0 x9_1).f9) a1 a2 a3_0 a3_1 a3_2 a3_3 a3_4 false _ A8.out).mono ?_
            rintro e w13 ⟨rfl, hb⟩
            refine ⟨_, rfl, ?_⟩
            have n0_ := Aside0.mk (blk_below (g := gb276) (o := .cells #[.int .u32 a3_0, .int .u32 a3_1, .int .i64 a3_2, .int .i64 a3_3, .int .i64 a3_4] 44 (0, 0)) (by (with_reducible repeat (first | refine blk_drewN ?_ _ | refine blk_drew ?_ | refine blk_alloc ?_ _)); exact BK276.out) hb)
            have n1_ := Aside0.mk (below_step (by repeat (first | (with_reducible first | exact HB.out | apply below_alloc | apply pw_below_drewN | apply below_drew1 | refine below_set ?_ GE276.out) | exact HB.out)) hb)
            clear BK276
            clear HB
            have BK276 := n0_
            have HB := n1_
            clear n0_ n1_
            (try clear hb)
            (try clear hb2)
            (try clear hk)
            (try clear hi)
            refine hK.out _ _ ⟨(blk_cell BK276.out 0).trans rfl, (blk_cell BK276.out 1).trans rfl, (blk_cell BK276.out 2).trans rfl, (blk_cell BK276.out 3).trans rfl, (blk_cell BK276.out 4).trans rfl, ((HB.out.cell (World.block_lt_of_cell? w _ hw277_0)).trans hw277_0), ((HB.out.cell (World.block_lt_of_cell? w _ hw277_1)).trans hw277_1), ((HB.out.cell (World.block_lt_of_cell? w _ hw277_2)).trans hw277_2), ((HB.out.cell (World.block_lt_of_cell? w _ hw277_3)).trans hw277_3), ((HB.out.cell (World.block_lt_of_cell? w _ hw277_4)).trans hw277_4), ((HB.out.cell (World.block_lt_of_cell? w _ hw277_5)).trans hw277_5), ((HB.out.cell (World.block_lt_of_cell? w _ hw277_6)).trans hw277_6), ((HB.out.cell (World.block_lt_of_cell? w _ hw277_7)).trans hw277_7), ((HB.out.cell (World.block_lt_of_cell? w _ hw277_8)).trans hw277_8), ((HB.out.cell (World.block_lt_of_cell? w _ hw277_9)).trans hw277_9), ((HB.out.cell (World.block_lt_of_cell? w _ hw277_10)).trans hw277_10), ((HB.out.cell (World.block_lt_of_cell? w _ hw277_11)).trans hw277_11)⟩ (fun hHeld => ?_)
            clear hK K
            refine norm_ (a' := ?_) ?_ ?_
            rotate_left
            · show Act.put _ (some 23) _ = _
              simp only [Act.put, List.setIfInBounds_toArray, List.set_cons_zero, List.set_cons_succ, i64_w, i32_w]
              rfl
            refine done_ (done_of HT_.out (by kernel_rfl)) ?_
            try go_wp2
            go_roundg k1
            case measure => have := HK1.out; omega
            case rel => exact ⟨(wrap64 (x9_1 + 1)), (by first | rfl | (simp; done) | (simp [*]; done)), H', ⟨by have := HK1.out; omega⟩, ⟨by (with_reducible repeat (first | refine blk_drewN ?_ _ | refine blk_drew ?_ | refine blk_alloc ?_ _)); exact BK276.out⟩, ⟨by repeat (first | (with_reducible first | exact HB.out | apply below_alloc | apply pw_below_drewN | apply below_drew1 | refine below_set ?_ GE276.out) | exact HB.out)⟩⟩
        · rw [if_neg c7] at H
          exact absurd H (by simp)
      · rw [if_neg c6] at H
        have c6b0 : decide (x9_1 < (l0.length : Int)) = false := decide_eq_false c6
        clear c6
        obtain rfl := Option.some.inj H
        go_wp2
        go_ret
        exact ⟨by first | rfl | (simp [errW_none, errW_some] <;> rfl) | (simp [*, errW_none, errW_some] <;> rfl), by repeat (first | (with_reducible first | exact HB.out | apply below_alloc | apply pw_below_drewN | apply below_drew1 | refine below_set ?_ GE276.out) | exact HB.out)⟩

-- NOT PRINTED: function 47 (api_Rule_47)

end Go.Proofs.Ytakfnghakbjncaa.P
