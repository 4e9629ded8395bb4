/- Labels in memory; contracts of cats.Meet (one more) and Within, of label.right, Dominates, In, of the references' Within and Dominates. -/
import Derived.Test.YtifmckhabkghcaaA4
namespace Go.Proofs.Ytifmckhabkghcaa.P
open Go.RowKit
set_option linter.unusedSimpArgs false

/-- A label. -/
structure Lab where
  lv : Int
  S : Nat
deriving DecidableEq
def labL (x : Lab) : List Value := .int .i64 x.lv :: catL x.S
def labA (x : Lab) : Array Value := (labL x).toArray
theorem labL_len (x : Lab) : (labL x).length = 31 := by simp [labL, catL_len]
theorem labA_size (x : Lab) : (labA x).size = 31 := by simp [labA, labL_len]
theorem labL_one (x : Lab) : ∀ u ∈ labL x, u.oneCell' = true := by
  intro u hu
  rcases List.mem_cons.1 hu with rfl | hu
  · rfl
  · exact catL_one _ u hu
theorem labA_0 (x : Lab) : (labA x)[0]? = some (.int .i64 x.lv) := rfl
theorem labA_S (x : Lab) (j : Nat) (u : Value) (h : (catL x.S)[j]? = some u) : (labA x)[1 + j]? = some u := by
  simp only [labA, List.getElem?_toArray, labL]
  rw [Nat.add_comm, List.getElem?_cons_succ]
  exact h
theorem info25 (x : Lab) : (Try.prog.info? 25).map (·.size) = some (labA x).size := by rw [labA_size]; kernel_rfl
theorem info23L (S : Nat) : (Try.prog.info? 23).map (·.size) = some (catL S).length := by rw [catL_len]; kernel_rfl
/-- A set in a label's block. -/
theorem range_of {w : World} {g : Nat} {x : Lab} {t : TypeId} {fr : Nat × Nat} (h : w.heap[g]? = some (.cells (labA x) t fr)) : w.rangeAt g 1 (catL x.S) := fun j u hu => by
  rw [cell_of_row _ _ _ _ _ _ h]
  exact labA_S x j u hu
theorem range_cat {w : World} {g : Nat} {S : Nat} {t : TypeId} {fr : Nat × Nat} (h : w.heap[g]? = some (.cells (catA S) t fr)) : w.rangeAt g 0 (catL S) := fun j u hu => by
  rw [cell_of_row _ _ _ _ _ _ h, Nat.zero_add]
  simpa [catA] using hu
theorem range_below {w w1 : World} {g k : Nat} {cs : List Value} (h : w.rangeAt g k cs) (hg : g < w.heap.size) (hb : Below w.heap.size w w1) : w1.rangeAt g k cs := fun j u hu =>
  (hb.cell (p := ⟨g, k + j, none⟩) hg).trans (h j u hu)
/-- Are the numbers right? -/
def LabOk (x : Lab) : Prop := -9223372036854775808 ≤ x.lv ∧ x.lv ≤ 9223372036854775807 ∧ x.S < 2 ^ 240

def rightL (x : Lab) : Bool := decide (0 ≤ x.lv) && decide (x.lv ≤ 255)
set_option maxRecDepth 100000 in
set_option maxHeartbeats 1000000 in
theorem right68 (x : Lab) (w : World) : Calls Try.prog 68 #[.agg (labA x)] w fun e w' => e = .returned (.bool (rightL x)) ∧ Below w.heap.size w w' := by
  have hu25 := Try.underlying25
  have c0 := labA_0 x
  obtain ⟨lv, S⟩ := x
  unfold rightL
  generalize labA ⟨lv, S⟩ = cs at c0
  simp only at c0 ⊢
  go_enter Try.func68, Try.ntmps68
  go_wp2_with fail
  all_goals
    go_ret
    exact ⟨ret_bool (by simp_all; try omega), bel_alloc (Below.refl _ _) _⟩

/-- The bytes of a set, those below i common with T. -/
def meetA (S T i : Nat) : Array Value := ((List.range 30).map fun j => Value.int .u8 (if j < i then byteN (S &&& T) j else byteN S j)).toArray
theorem meetA_0 (S T : Nat) : meetA S T 0 = catA S := by simp [meetA, catA, catL]
theorem meetA_30 (S T : Nat) : meetA S T 30 = catA (S &&& T) := by
  unfold meetA catA catL
  exact congrArg List.toArray (List.map_congr_left fun j hj => by rw [if_pos (by simpa using hj)])
theorem meetA_get (S T i j : Nat) (hj : j < 30) : (meetA S T i)[j]? = some (.int .u8 (if j < i then byteN (S &&& T) j else byteN S j)) := by simp [meetA, hj]
theorem meetA_succ (S T i : Nat) (_hi : i < 30) : (meetA S T i).setIfInBounds i (.int .u8 (Go.bits .and .u8 (byteN S i) (byteN T i))) = meetA S T (i + 1) := by
  rw [and8 _ _ (byteN_lt _ _) (byteN_lt _ _), ← byteN_and]
  apply Array.ext'
  simp only [meetA, Array.toList_setIfInBounds]
  apply List.ext_getElem
  · simp
  · intro j h1 h2
    simp only [List.getElem_set, List.getElem_map, List.getElem_range]
    by_cases e : i = j
    · subst e; simp
    · rw [if_neg e]
      by_cases h : j < i
      · rw [if_pos h, if_pos (by omega)]
      · rw [if_neg h, if_neg (by omega)]
theorem run_index23 (T i : Nat) (hi : i < 30) (w : World) : (Instr.index 23 (.agg (catA T)) (.int .i64 i)).run Try.prog w = .ok (.int .u8 (byteN T i)) w := by
  have a5 := Try.isAgg5
  have z5 := Try.sizeOf5
  have hi2 : (i : Int) < 30 := by omega
  simp [Instr.index, asIntOf, run_underlying Try.underlying23, hi, z5, part, a5, catA_get T i hi]
theorem info23M (S T i : Nat) : (Try.prog.info? 23).map (·.size) = some (meetA S T i).size := by rw [show (meetA S T i).size = 30 by simp [meetA]]; kernel_rfl

set_option maxRecDepth 100000 in
set_option maxHeartbeats 2000000 in
theorem meet75 (S T g c : Nat) (w : World) (hg : w.rangeAt g 0 (catL T)) (hgl : g < w.heap.size) :
    Calls Try.prog 75 #[.agg (catA S), .slice (some ⟨g, 0, none⟩) 1 c] w fun e w' => e = .returned (.agg (catA (S &&& T))) ∧ Below w.heap.size w w' := by
  have hu23 := Try.underlying23
  have hu109 := Try.underlying109
  have HG := Lib.hid hg
  clear hg
  have H0 := Lib.hid (heap_alloc2_old w (.cells (catA S) 23) (.cells z23 23))
  have H1 := Lib.hid (heap_alloc2_new w (.cells (catA S) 23) (.cells z23 23))
  have HB := Lib.hid (bel_alloc (bel_alloc (Below.refl w.heap.size w) (.cells (catA S) 23)) (.cells z23 23))
  unfold z23 at H0 H1 HB
  go_enter Try.func75, Try.ntmps75
  go_wp2_with fail
  go_loopg [11] 1 (fun gg s11 wr => ∃ i : Nat, i ≤ 1 ∧ 1 - i ≤ gg ∧ s11 = .int .i64 i ∧ Hid (wr.heap[w.heap.size]? = some (.cells (catA (if i = 0 then S else S &&& T)) 23 (0, 0))) ∧ Hid (wr.heap[w.heap.size + 1]? = some (.cells z23 23 (0, 0))) ∧ Hid (Below w.heap.size w wr))
  case atStart => exact ⟨0, Nat.zero_le _, Nat.le_refl _, rfl, H0.out, H1.out, HB.out⟩
  case round =>
    obtain ⟨i, hi, hgg, rfl, K0, K1, BR⟩ := hrel
    clear H0 H1 HB
    have hi2 : i = 0 ∨ i = 1 := by omega
    rcases hi2 with rfl | rfl
    · have K0 := Lib.hid (show wr.heap[w.heap.size]? = some (.cells (catA S) 23 (0, 0)) from K0.out)
      have RG := Lib.hid (range_below HG.out hgl BR.out)
      have hb1 : w.heap.size + 1 < wr.heap.size := lt_of_block K1.out
      have e0 : ((0 : Nat) : Int) = 0 := rfl
      rw [e0]
      clear e0
      have N0 := Lib.hid (heap_alloc_new wr (.cells z23 23))
      have NB := Lib.hid (bel_alloc (Below.refl wr.heap.size wr) (.cells z23 23))
      unfold z23 at N0 NB
      go_wp2_with (first
        | (refine wpList_load_mid rfl 23 (.tmp 13) rfl g 0 rfl (catL T) _ (range_below RG.out (Nat.lt_of_lt_of_le hgl BR.out.size) (Below.refl _ _)) hu23 rfl (info23L T) ?_)
        | (refine wpList_store_row rfl 23 (.tmp 6) (.tmp 14) rfl wr.heap.size (catA T) rfl rfl 23 z23 N0.out (info23 _) (by rw [catA_size]; rfl) (all_oneCell_toArray (catL_one _)) ?_; rw [World.setRow_alloc_new])
        | (refine wpList_load_row rfl 23 (.tmp 6) rfl wr.heap.size rfl 23 (catA T) (0, 0) _ (heap_alloc_new _ _) hu23 rfl (info23 _) ?_))
      have L0 := Lib.hid (show (wr.alloc (.cells (catA T) 23)).heap[w.heap.size]? = some (.cells (meetA S T 0) 23 (0, 0)) by rw [meetA_0]; exact (heap_alloc_old _ _ (by omega)).trans K0.out)
      have L1 := Lib.hid (show (wr.alloc (.cells (catA T) 23)).heap[w.heap.size + 1]? = some (.cells z23 23 (0, 0)) from (heap_alloc_old _ _ hb1).trans K1.out)
      have LB := Lib.hid (bel_alloc BR.out (.cells (catA T) 23))
      obtain ⟨wo, hwo⟩ : ∃ wo : World, wo = wr := ⟨_, rfl⟩
      have HWO := Lib.hid hwo
      rw [← hwo]
      rw [← hwo] at L0 L1 LB
      clear hwo N0 NB K0 K1
      unfold z23 at L1
      go_loopg [16] 30 (fun gg s16 w2 => ∃ i : Nat, i ≤ 30 ∧ 30 - i ≤ gg ∧ s16 = .int .i64 i ∧ Hid (w2.heap[w.heap.size]? = some (.cells (meetA S T i) 23 (0, 0))) ∧ Hid (w2.heap[w.heap.size + 1]? = some (.cells z23 23 (0, 0))) ∧ Hid (Below w.heap.size w w2))
      case atStart => exact ⟨0, Nat.zero_le _, Nat.le_refl _, rfl, L0.out, L1.out, LB.out⟩
      case round =>
        obtain ⟨i, hi, hg2, rfl, M0, M1, MB⟩ := hrel
        clear L0 L1 LB
        by_cases hlt : i < 30
        · have h0 : (0 : Int) ≤ (i : Int) := by omega
          have h1 : (i : Int) < 30 := by omega
          have c1 : wr.cell? ⟨w.heap.size, i, none⟩ = some (.int .u8 (byteN S i)) := by
            rw [cell_of_row _ _ _ _ _ _ M0.out, meetA_get S T i i hlt, if_neg (by omega)]
          have f1 : wr.frozen? ⟨w.heap.size, i, none⟩ = false := frozen_of_row _ _ _ _ _ M0.out
          have c2 := run_index23 T i hlt
          go_wp2_with fail
          go_roundg (30 - (i + 1))
          case measure => omega
          case rel =>
            refine ⟨i + 1, by omega, Nat.le_refl _, by go_num, ?_, ?_, ?_⟩
            · rw [← meetA_succ S T i hlt]
              exact heap_setCell_same _ w.heap.size i _ 23 _ M0.out
            · exact (heap_setCell_other _ _ _ _ (by simp)).trans M1.out
            · exact MB.out.setCell (Nat.le_refl _) _
        · have hi30 : i = 30 := by omega
          subst hi30
          have e0 : ((30 : Nat) : Int) = 30 := rfl
          rw [e0]
          clear e0
          go_wp2_with fail
          go_roundg 0
          case measure => omega
          case rel => exact ⟨1, Nat.le_refl _, Nat.le_refl _, by go_num, by rw [if_neg (by decide), ← meetA_30]; exact M0.out, M1.out, MB.out⟩
    · have K0 := Lib.hid (show wr.heap[w.heap.size]? = some (.cells (catA (S &&& T)) 23 (0, 0)) from K0.out)
      have e0 : ((1 : Nat) : Int) = 1 := rfl
      rw [e0]
      clear e0
      go_wp2_with (first | (refine wpList_load_row rfl 23 (.tmp 2) rfl w.heap.size rfl 23 (catA (S &&& T)) (0, 0) _ K0.out hu23 rfl (info23 _) ?_) | (refine wpList_store_row rfl 23 (.tmp 4) (.tmp 28) rfl (w.heap.size + 1) (catA (S &&& T)) rfl rfl 23 z23 K1.out (info23 _) (by rw [catA_size]; rfl) (all_oneCell_toArray (catL_one _)) ?_))
      refine bodyPost_ret (results_cell_row rfl _ _ (w.heap.size + 1) 23 (catA (S &&& T)) (0, 0) _ rfl (setRow_heap wr (w.heap.size + 1) _ _ 23 _ K1.out) hu23 rfl (info23 _)) rfl ⟨rfl, bel_setRow BR.out _ _ (by omega)⟩

set_option maxRecDepth 100000 in
set_option maxHeartbeats 2000000 in
theorem within74 (S T : Nat) (hS : S < 2 ^ 240) (w : World) : Calls Try.prog 74 #[.agg (catA S), .agg (catA T)] w fun e w' => e = .returned (.bool (decide (S &&& T = S))) ∧ Below w.heap.size w w' := by
  have hu23 := Try.underlying23
  have hST : S &&& T < 2 ^ 240 := Nat.lt_of_le_of_lt Nat.and_le_left hS
  have HQ := Lib.hid (fun w => eq23 hST hS w)
  have HD := Lib.hid (fun op a b (w : World) => gd23 op a b (catA (S &&& T)) (catA S) w)
  have H0 := Lib.hid (heap_alloc2_old w (.cells (catA S) 23) (.cells (catA T) 23))
  have H1 := Lib.hid (heap_alloc2_new w (.cells (catA S) 23) (.cells (catA T) 23))
  have HB := Lib.hid (bel_alloc (bel_alloc (Below.refl w.heap.size w) (.cells (catA S) 23)) (.cells (catA T) 23))
  go_enter Try.func74, Try.ntmps74
  go_wp2_with fail
  have R0 := range_cat H0.out
  have R1 := range_cat H1.out
  have s0 : w.heap.size < ((w.alloc (.cells (catA S) 23)).alloc (.cells (catA T) 23)).heap.size := lt_of_block H0.out
  have s1 : w.heap.size + 1 < ((w.alloc (.cells (catA S) 23)).alloc (.cells (catA T) 23)).heap.size := lt_of_block H1.out
  clear H0 H1
  generalize (w.alloc (.cells (catA S) 23)).alloc (.cells (catA T) 23) = W0 at R0 R1 s0 s1 HB ⊢
  have hi0 := info23L S
  have hi1 := info23L T
  refine wp_region_held_drew (S := fun w' => Below W0.heap.size W0 w') (by kernel_rfl) (Below.refl _ _).drew (fun hHeld => ?_)
  refine held_take 0 (some 5) (.agg (catA S)) rfl rfl (by kernel_rfl) (by kernel_rfl) (by kernel_rfl) (fun _ _ _ h => h) (yieldsIf_load_mid rfl 23 (.tmp 2) rfl w.heap.size 0 rfl (catL S) _ (fun w' h => range_below R0 s0 h) hu23 rfl hi0) hHeld ?_
  simp only [Act.put, List.setIfInBounds_toArray, List.set_cons_zero, List.set_cons_succ]
  refine held_take 1 (some 6) (.agg (catA T)) rfl rfl (by kernel_rfl) (by kernel_rfl) (by kernel_rfl) (fun _ _ _ h => h) (yieldsIf_load_mid rfl 23 (.tmp 3) rfl (w.heap.size + 1) 0 rfl (catL T) _ (fun w' h => range_below R1 s1 h) hu23 rfl hi1) hHeld ?_
  simp only [Act.put, List.setIfInBounds_toArray, List.set_cons_zero, List.set_cons_succ]
  refine held_take 4 (some 9) (.agg (catA S)) rfl rfl (by kernel_rfl) (by kernel_rfl) (by kernel_rfl) (fun _ _ _ h => h) (yieldsIf_load_mid rfl 23 (.tmp 2) rfl w.heap.size 0 rfl (catL S) _ (fun w' h => range_below R0 s0 h) hu23 rfl hi0) hHeld ?_
  simp only [Act.put, List.setIfInBounds_toArray, List.set_cons_zero, List.set_cons_succ]
  refine held_build1 2 (some 7) (by kernel_rfl) rfl rfl rfl 109 23 (.tmp 6) rfl (catA T) rfl (.agg z23) Try.underlying109 (by rw [catA_size]; kernel_rfl) (by rw [catA_size]; decide) (by rw [catA_size]; decide) (bel_alloc hHeld _) ?_
  simp only [Act.put, List.setIfInBounds_toArray, List.set_cons_zero, List.set_cons_succ]
  refine held_call 3 (some 8) 75 #[.agg (catA S), .slice (some ⟨W0.heap.size, 0, none⟩) 1 1] (by kernel_rfl) rfl rfl rfl (by go_simp) ?_
  refine (meet75 S T _ _ _ (range_cat (heap_alloc_new _ _)) (by simp)).mono ?_
  rintro e w5 ⟨rfl, hb5⟩
  have hb6 := bel_trans (bel_alloc hHeld _) hb5
  refine ⟨_, rfl, hb6, ?_⟩
  simp only [Act.put, List.setIfInBounds_toArray, List.set_cons_zero, List.set_cons_succ]
  refine held_op 5 (some 10) (.bool (decide (S &&& T = S))) (w' := w5) (by kernel_rfl) rfl rfl rfl ?_ hb6 ?_
  · have q1 := HQ.out
    have q2 := HD.out
    go_simp
  simp only [Act.put, List.setIfInBounds_toArray, List.set_cons_zero, List.set_cons_succ]
  refine held_op 6 (some 4) (.bool (decide (S &&& T = S))) (w' := w5) (by kernel_rfl) rfl rfl rfl (by go_simp) hb6 ?_
  refine wpAnyH_done (by kernel_rfl) ?_ _
  simp only [Act.put, List.setIfInBounds_toArray, List.set_cons_zero, List.set_cons_succ]
  go_wp2_with fail
  go_ret
  exact ⟨rfl, below_then HB.out HB.out.size hb6⟩
end Go.Proofs.Ytifmckhabkghcaa.P
