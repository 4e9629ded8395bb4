/- Contract of doi's right (pairs, by maps). -/
import Derived.Test.YtifmckhabkghcaaV1
namespace Go.Proofs.Ytifmckhabkghcaa.P
open Go.RowKit
set_option linter.unusedSimpArgs false

theorem key3 : Maps.Keyed Try.prog 3 := Maps.int_keyed Try.underlying3
/-- The numbers f 0, .. as a set reads. -/
def setP (f : Nat → Int) : Nat → DataW Unit
  | 0 => .map []
  | i + 1 => (setP f i).put (.int .i64 (f i)) (.lit (.bool true))
theorem setP_map (f : Nat → Int) (i : Nat) : Maps.IsMap (setP f i) := by
  induction i with
  | zero => exact Maps.isMap_empty
  | succ i ih => exact ih.put _ _
def anyB (f : Nat → Int) (i : Nat) (k : Int) : Bool := (List.range i).any fun j => f j == k
theorem anyB_succ (f : Nat → Int) (i : Nat) (k : Int) : anyB f (i + 1) k = (anyB f i k || f i == k) := by simp [anyB, List.range_succ]
theorem setP_at (f : Nat → Int) (k : Int) (i : Nat) : (setP f i).atKey (.int .i64 k) (.lit (.bool false)) = .lit (.bool (anyB f i k)) := by
  induction i with
  | zero => simp [setP, anyB, DataW.atKey]
  | succ i ih =>
    rw [anyB_succ, setP]
    by_cases e : f i = k
    · rw [← e, Maps.atKey_put_same (setP_map f i) (show WideAt.IsKeyLit (Lit.int .i64 (f i)) from trivial)]
      simp
    · rw [Maps.atKey_put_other (by simpa using fun h : k = f i => e h.symm), ih]
      simp [e]
set_option maxRecDepth 100000 in
theorem plainElem_bool_inv {v : Value} {z : DataW Unit × List MemPlace} (h : plainElem Try.prog 4 v = some z) : ∃ b, v = .bool b ∧ z = (.lit (.bool b), []) := by
  unfold plainElem at h
  rw [Try.underlying4] at h
  cases v <;> simp at h
  exact ⟨_, rfl, h.symm⟩
theorem zero4 (w : World) : (zeroValue 4).run Try.prog w = .ok (.bool false) w := by kernel_rfl
theorem look107 {f : Nat → Int} {i m n : Nat} {k : Int} {w : World} (hk : (Lit.int .i64 k).wf = true) (h : w.ownsMap Try.prog 3 (plainElem Try.prog 4) m n (setP f i)) :
    (Instr.lookup 107 (.map (some m)) (.int .i64 k) false).run Try.prog w = .ok (.bool (anyB f i k)) w := by
  obtain ⟨v, ps, hr, hv⟩ := h.lookup key3 Try.underlying107 (zero4 w) (plainElem_bool Try.underlying4 false) (Maps.keyOf_int_mk Try.underlying3 hk)
  obtain ⟨b, rfl, hb⟩ := plainElem_bool_inv hv
  have := congrArg Prod.fst hb
  rw [setP_at] at this
  simp at this
  rw [hr, this]
theorem anyB_fst {ps : List (Int × Int)} {i : Nat} {k : Int} : anyB (fun j => (prD ps j).1) i k = false ↔ ∀ j, j < i → (prD ps j).1 ≠ k := by simp [anyB]
theorem anyB_snd {ps : List (Int × Int)} {i : Nat} {k : Int} : anyB (fun j => (prD ps j).2) i k = false ↔ ∀ j, j < i → (prD ps j).2 ≠ k := by simp [anyB]
theorem map3_below {w w1 : World} {m n : Nat} {D : DataW Unit} (h : w.ownsMap Try.prog 3 (plainElem Try.prog 4) m n D) (hb : Below w.heap.size w w1) : w1.ownsMap Try.prog 3 (plainElem Try.prog 4) m n D := by
  have hlt := h.lt
  obtain ⟨es, clock, hb', r⟩ := h
  exact ⟨es, clock, (hb.block _ hlt).trans hb', r⟩
set_option maxRecDepth 100000 in
set_option maxHeartbeats 4000000 in
theorem right59 (ps : List (Int × Int)) (most : Int) (A : Option Addr) (c : Nat) (w : World) (hA : PrsA w A ps) (hlen : ps.length ≤ 300) (hm : most ≤ 1000) :
    Calls Try.prog 59 #[.slice A ps.length c, .int .i64 most] w fun e w' => e = .returned (.bool (pairsB ps most)) ∧ Below w.heap.size w w' := by
  have hu45 := Try.underlying45
  have hu89 := Try.underlying89
  have hu107 := Try.underlying107
  have hmm := @run_makeMap Try.prog
  have HA := Lib.hid hA
  clear hA
  by_cases h6 : ps.length ≤ 256
  case neg =>
    have d2 : decide (256 < (ps.length : Int)) = true := decide_eq_true (by omega)
    have HF := Lib.hid (show pairsB ps most = false by unfold pairsB; rw [decide_eq_false h6, Bool.and_false])
    go_enter Try.func59, Try.ntmps59
    go_wp2_with fail
    go_ret
    exact ⟨by rw [HF.out]; rfl, Below.refl _ _⟩
  have d2 : decide (256 < (ps.length : Int)) = false := decide_eq_false (by omega)
  have H6 := Lib.hid h6
  clear h6
  have H1 := Lib.hid ((World.ownsMap_made w Try.prog 3 (plainElem (H := Unit) Try.prog 4)).alloc (.map #[] 0))
  have H2 := Lib.hid (show ((w.alloc (.map #[] 0)).alloc (.map #[] 0)).ownsMap Try.prog 3 (plainElem (H := Unit) Try.prog 4) (w.heap.size + 1) 0 (.map []) by
    have h := World.ownsMap_made (w.alloc (.map #[] 0)) Try.prog 3 (plainElem (H := Unit) Try.prog 4)
    simpa using h)
  go_enter Try.func59, Try.ntmps59
  go_wp2_with fail
  go_loopg [16] 301 (fun gg s16 wr => ∃ i : Nat, i ≤ ps.length ∧ 301 - i ≤ gg ∧ s16 = .int .i64 i ∧ Hid (∀ j, j < i → okB ps most j = true) ∧ Hid (wr.ownsMap Try.prog 3 (plainElem Try.prog 4) w.heap.size i (setP (fun j => (prD ps j).1) i)) ∧ Hid (wr.ownsMap Try.prog 3 (plainElem Try.prog 4) (w.heap.size + 1) i (setP (fun j => (prD ps j).2) i)) ∧ Hid (Below w.heap.size w wr))
  case atStart => exact ⟨0, Nat.zero_le _, Nat.sub_le _ _, rfl, fun j hj => absurd hj (Nat.not_lt_zero _), H1.out, H2.out, bel_alloc (bel_alloc (Below.refl _ _) _) _⟩
  case round =>
    obtain ⟨i, hi, hgg, rfl, HNO, M1, M2, BR⟩ := hrel
    clear H1 H2
    by_cases hlt : i < ps.length
    · have d1 : decide ((i : Int) < (ps.length : Int)) = true := decide_eq_true (by omega)
      have d2 : (0 : Int) ≤ (i : Int) := by omega
      have d3 : (i : Int) < (ps.length : Int) := by omega
      have q1 : IntKind.i64.wrap ((i : Int) + 1) = (i : Int) + 1 := IntWalk.i64_in _ (by omega)
      obtain ⟨b, o, rfl, hb, hc⟩ := (HA.out.below BR.out) (by omega)
      have HP := Lib.hid (prD_get hlt)
      obtain ⟨c0, c1⟩ := hc i _ (List.getElem?_eq_getElem hlt)
      generalize ps[i] = p at c0 c1 HP
      obtain ⟨ph, pt⟩ := p
      simp only at c0 c1
      clear hc
      have k0 := World.new_ne wr _ c0
      have k1 := World.new_ne wr _ c1
      have B1 := Lib.hid (bel_alloc BR.out (.cells #[.int .i64 ph, .int .i64 pt] 89))
      by_cases h0 : ph < 0
      · have e0 : decide (ph < 0) = true := decide_eq_true h0
        have HF := Lib.hid (pairsB_no hlt (okB_no (most := most) (i := i) (by rw [HP.out]; simp; omega)))
        go_wp2_with fail
        go_ret
        exact ⟨by rw [HF.out]; rfl, B1.out⟩
      have e0 : decide (ph < 0) = false := decide_eq_false h0
      by_cases h1 : most < ph
      · have e1 : decide (most < ph) = true := decide_eq_true h1
        have HF := Lib.hid (pairsB_no hlt (okB_no (most := most) (i := i) (by rw [HP.out]; simp; omega)))
        go_wp2_with fail
        go_ret
        exact ⟨by rw [HF.out]; rfl, B1.out⟩
      have e1 : decide (most < ph) = false := decide_eq_false h1
      by_cases h2 : pt < 0
      · have e2 : decide (pt < 0) = true := decide_eq_true h2
        have HF := Lib.hid (pairsB_no hlt (okB_no (most := most) (i := i) (by rw [HP.out]; simp; omega)))
        go_wp2_with fail
        go_ret
        exact ⟨by rw [HF.out]; rfl, B1.out⟩
      have e2 : decide (pt < 0) = false := decide_eq_false h2
      by_cases h3 : most < pt
      · have e3 : decide (most < pt) = true := decide_eq_true h3
        have HF := Lib.hid (pairsB_no hlt (okB_no (most := most) (i := i) (by rw [HP.out]; simp; omega)))
        go_wp2_with fail
        go_ret
        exact ⟨by rw [HF.out]; rfl, B1.out⟩
      have e3 : decide (most < pt) = false := decide_eq_false h3
      have HRG := Lib.hid (show 0 ≤ ph ∧ ph ≤ most ∧ 0 ≤ pt ∧ pt ≤ most by omega)
      have W1 := Lib.hid (wf_small ph (by omega) (by omega))
      have W2 := Lib.hid (wf_small pt (by omega) (by omega))
      have l1 := look107 W1.out (M1.out.alloc (.cells #[.int .i64 ph, .int .i64 pt] 89))
      have l2 := look107 W2.out (M2.out.alloc (.cells #[.int .i64 ph, .int .i64 pt] 89))
      cases a1 : anyB (fun j => (prD ps j).1) i ph with
      | true =>
        rw [a1] at l1
        have HF := Lib.hid (show pairsB ps most = false by
          have : ¬ ∀ j, j < i → (prD ps j).1 ≠ ph := fun h => by rw [anyB_fst.2 h] at a1; cases a1
          simp only [Classical.not_forall, not_imp, Decidable.not_not] at this
          obtain ⟨j, hj, he⟩ := this
          exact pairsB_no hlt (okB_same hj (.inl (by rw [HP.out]; exact he))))
        clear a1 l2
        go_wp2_with fail
        go_ret
        exact ⟨by rw [HF.out]; rfl, B1.out⟩
      | false =>
        rw [a1] at l1
        have HN1 := Lib.hid (anyB_fst.1 a1)
        clear a1
        cases a2 : anyB (fun j => (prD ps j).2) i pt with
        | true =>
          rw [a2] at l2
          have HF := Lib.hid (show pairsB ps most = false by
            have : ¬ ∀ j, j < i → (prD ps j).2 ≠ pt := fun h => by rw [anyB_snd.2 h] at a2; cases a2
            simp only [Classical.not_forall, not_imp, Decidable.not_not] at this
            obtain ⟨j, hj, he⟩ := this
            exact pairsB_no hlt (okB_same hj (.inr (by rw [HP.out]; exact he))))
          clear a2
          go_wp2_with fail
          go_ret
          exact ⟨by rw [HF.out]; rfl, B1.out⟩
        | false =>
          rw [a2] at l2
          have HN2 := Lib.hid (anyB_snd.1 a2)
          clear a2
          have HOK := Lib.hid (show okB ps most i = true from (okB_iff _ _ _).2 ⟨by rw [HP.out]; exact HRG.out, fun j hj => by rw [HP.out]; exact ⟨HN1.out j hj, HN2.out j hj⟩⟩)
          go_wp2_with fail
          clear l1 l2 k0 k1 c0 c1
          have N1 := Lib.hid (M1.out.alloc (.cells #[.int .i64 ph, .int .i64 pt] 89))
          have N2 := Lib.hid (M2.out.alloc (.cells #[.int .i64 ph, .int .i64 pt] 89))
          have f0 : (wr.alloc (.cells #[.int .i64 ph, .int .i64 pt] 89)).cell? ⟨wr.heap.size, 0, none⟩ = some (.int .i64 ph) := World.cell?_alloc_mark wr #[.int .i64 ph, .int .i64 pt] 89 (0, 0) 0
          have f1 : (wr.alloc (.cells #[.int .i64 ph, .int .i64 pt] 89)).cell? ⟨wr.heap.size, 1, none⟩ = some (.int .i64 pt) := World.cell?_alloc_mark wr #[.int .i64 ph, .int .i64 pt] 89 (0, 0) 1
          generalize wr.alloc (.cells #[.int .i64 ph, .int .i64 pt] 89) = W3 at N1 N2 f0 f1 B1 ⊢
          have hX : w.heap.size + 1 < wr.heap.size := M2.out.lt
          generalize wr.heap.size = X at f0 f1 hX ⊢
          refine wp_region_held_drew (S := fun w' => w'.cell? ⟨X, 0, none⟩ = some (.int .i64 ph) ∧ w'.cell? ⟨X, 1, none⟩ = some (.int .i64 pt)) (by kernel_rfl) ⟨f0, f1⟩ (fun hHeld => ?_)
          refine held_take 0 (some 52) (.map (some w.heap.size)) rfl rfl (by kernel_rfl) (by kernel_rfl) (by kernel_rfl) (fun _ _ _ h => h) (Or.inl ⟨rfl, fun w' h => by
            go_simp⟩) hHeld ?_
          simp only [Act.put, List.setIfInBounds_toArray, List.set_cons_zero, List.set_cons_succ]
          refine held_take 1 (some 53) (.pointer (some ⟨X, 0, none⟩)) rfl rfl (by kernel_rfl) (by kernel_rfl) (by kernel_rfl) (fun _ _ _ h => h) (Or.inl ⟨rfl, fun w' h => by
            go_simp⟩) hHeld ?_
          simp only [Act.put, List.setIfInBounds_toArray, List.set_cons_zero, List.set_cons_succ]
          refine held_take 2 (some 54) (.int .i64 ph) rfl rfl (by kernel_rfl) (by kernel_rfl) (by kernel_rfl) (fun _ _ _ h => h) (Or.inl ⟨rfl, fun w' h => by
            have c := h.1
            go_simp⟩) hHeld ?_
          simp only [Act.put, List.setIfInBounds_toArray, List.set_cons_zero, List.set_cons_succ]
          refine held_take 3 (some 55) (.map (some (w.heap.size + 1))) rfl rfl (by kernel_rfl) (by kernel_rfl) (by kernel_rfl) (fun _ _ _ h => h) (Or.inl ⟨rfl, fun w' h => by
            go_simp⟩) hHeld ?_
          simp only [Act.put, List.setIfInBounds_toArray, List.set_cons_zero, List.set_cons_succ]
          refine held_take 4 (some 56) (.pointer (some ⟨X, 1, none⟩)) rfl rfl (by kernel_rfl) (by kernel_rfl) (by kernel_rfl) (fun _ _ _ h => h) (Or.inl ⟨rfl, fun w' h => by
            go_simp⟩) hHeld ?_
          simp only [Act.put, List.setIfInBounds_toArray, List.set_cons_zero, List.set_cons_succ]
          refine held_take 5 (some 57) (.int .i64 pt) rfl rfl (by kernel_rfl) (by kernel_rfl) (by kernel_rfl) (fun _ _ _ h => h) (Or.inl ⟨rfl, fun w' h => by
            have c := h.2
            go_simp⟩) hHeld ?_
          simp only [Act.put, List.setIfInBounds_toArray, List.set_cons_zero, List.set_cons_succ]
          obtain ⟨w7, hr7, hm7, hg7⟩ := N1.out.drew.update key3 hu107 (by unfold maxLen; omega) (Maps.keyOf_int_mk Try.underlying3 W1.out) (plainElem_bool Try.underlying4 true)
          have hS7 : w7.cell? ⟨X, 0, none⟩ = some (.int .i64 ph) ∧ w7.cell? ⟨X, 1, none⟩ = some (.int .i64 pt) := ⟨(hg7.cell_far ⟨X, 0, none⟩ (World.block_lt_of_cell? W3 _ f0) (by simp; omega)).trans f0, (hg7.cell_far ⟨X, 1, none⟩ (World.block_lt_of_cell? W3 _ f1) (by simp; omega)).trans f1⟩
          have N7 := Lib.hid (N2.out.drew.kept hg7 (by simp))
          obtain ⟨w8, hr8, hm8, hg8⟩ := N7.out.update key3 hu107 (by unfold maxLen; omega) (Maps.keyOf_int_mk Try.underlying3 W2.out) (plainElem_bool Try.underlying4 true)
          have hS8 : w8.cell? ⟨X, 0, none⟩ = some (.int .i64 ph) ∧ w8.cell? ⟨X, 1, none⟩ = some (.int .i64 pt) := ⟨(hg8.cell_far ⟨X, 0, none⟩ (World.block_lt_of_cell? w7 _ hS7.1) (by simp; omega)).trans hS7.1, (hg8.cell_far ⟨X, 1, none⟩ (World.block_lt_of_cell? w7 _ hS7.2) (by simp; omega)).trans hS7.2⟩
          have HM7 := Lib.hid hm7
          have HG7 := Lib.hid hg7
          have HM8 := Lib.hid hm8
          have HG8 := Lib.hid hg8
          clear hm7 hg7 hm8 hg8 f0 f1
          refine held_skip 6 (w' := w7) (by kernel_rfl) rfl rfl rfl (by go_simp) hS7 ?_
          refine held_skip 7 (w' := w8) (by kernel_rfl) rfl rfl rfl (by go_simp) hS8 ?_
          clear hr7 hr8 hHeld hS7 hS8
          refine wpAnyH_done (by kernel_rfl) ?_ _
          go_wp2_with fail
          go_roundg (301 - (i + 1))
          case measure => omega
          case rel =>
            refine ⟨i + 1, hlt, Nat.le_refl _, rfl, Lib.hid (fun j hj => by
              rcases Nat.lt_or_ge j i with h | h
              · exact HNO.out j h
              · rw [show j = i by omega]; exact HOK.out), Lib.hid ?_, Lib.hid ?_, Lib.hid ?_⟩
            · have h := HM7.out.kept HG8.out (by simp)
              show w8.ownsMap Try.prog 3 (plainElem Try.prog 4) w.heap.size (i + 1) ((setP (fun j => (prD ps j).1) i).put (.int .i64 (prD ps i).1) (.lit (.bool true)))
              rw [HP.out]
              exact h
            · show w8.ownsMap Try.prog 3 (plainElem Try.prog 4) (w.heap.size + 1) (i + 1) ((setP (fun j => (prD ps j).2) i).put (.int .i64 (prD ps i).2) (.lit (.bool true)))
              rw [HP.out]
              exact HM8.out
            · exact (B1.out.drew.grown HG7.out B1.out.size (fun k hk => by have := Option.some.inj hk; omega)).grown HG8.out (Nat.le_trans B1.out.size HG7.out.size) (fun k hk => by have := Option.some.inj hk; omega)
    · have d1 : decide ((i : Int) < (ps.length : Int)) = false := decide_eq_false (by omega)
      have HF := Lib.hid (pairsB_yes (ps := ps) (most := most) (fun j hj => HNO.out j (by omega)))
      go_wp2_with fail
      go_ret
      exact ⟨by rw [HF.out, decide_eq_true H6.out]; rfl, BR.out⟩
end Go.Proofs.Ytifmckhabkghcaa.P
