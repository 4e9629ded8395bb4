/- Contract of the reference's Tell (layer 12). -/
import Derived.Test.YtifmckhabkghcaaV6
namespace Go.Proofs.Ytifmckhabkghcaa.P
open Go.RowKit
set_option linter.unusedSimpArgs false

def foldR (ct : List (Int × Int)) (back : Bool) (L : List Nat) : Nat := L.foldl (fun T (k : Nat) => withS T (numV ct k back)) 0
theorem foldR_snoc (ct : List (Int × Int)) (back : Bool) (L : List Nat) (k : Nat) : foldR ct back (L ++ [k]) = withS (foldR ct back L) (numV ct k back) := by simp [foldR]
def badL (ct : List (Int × Int)) (back : Bool) (L : List Nat) : Bool := L.any fun (k : Nat) => decide (numV ct k back < 0)
theorem badL_snoc (ct : List (Int × Int)) (back : Bool) (L : List Nat) (k : Nat) : badL ct back (L ++ [k]) = (badL ct back L || decide (numV ct k back < 0)) := by simp [badL]
theorem num_tell (ps : List (Int × Int)) (n : Int) (back : Bool) : numV ps n back = if tellB ps n back then tellN ps n back else -1 := by
  unfold numV tellB tellN
  cases ht : told ps n back with
  | some m =>
    by_cases h0 : ps.length = 0
    · have : ps = [] := List.length_eq_zero_iff.1 h0
      subst this
      simp [told] at ht
    · simp [h0]
  | none => by_cases h0 : ps.length = 0 <;> simp [h0]
theorem told_mem {ps : List (Int × Int)} {n m : Int} {back : Bool} (h : told ps n back = some m) : ∃ p ∈ ps, fr back p = n ∧ tw back p = m := by
  unfold told at h
  cases hf : ps.find? (fun p => decide (fr back p = n)) with
  | none => rw [hf] at h; simp at h
  | some p =>
    rw [hf] at h
    simp at h
    exact ⟨p, List.mem_of_find?_eq_some hf, by simpa using List.find?_some hf, h⟩
theorem pairs_rng {ps : List (Int × Int)} {most : Int} (h : pairsB ps most = true) {p : Int × Int} (hp : p ∈ ps) : 0 ≤ p.1 ∧ p.1 ≤ most ∧ 0 ≤ p.2 ∧ p.2 ≤ most := by
  obtain ⟨i, hi⟩ := List.getElem?_of_mem hp
  obtain ⟨hlt, he⟩ := List.getElem?_eq_some_iff.1 hi
  simp only [pairsB, Bool.and_eq_true, List.all_eq_true, List.mem_range] at h
  have := ((okB_iff _ _ _).1 (h.1 i hlt)).1
  rw [prD_get hlt, he] at this
  exact this
theorem tell_rng {ps : List (Int × Int)} {most n : Int} {back : Bool} (h : pairsB ps most = true) (h0 : 0 ≤ n) (h1 : n ≤ most) : 0 ≤ tellN ps n back ∧ tellN ps n back ≤ most := by
  unfold tellN
  cases ht : told ps n back with
  | none => exact ⟨h0, h1⟩
  | some m =>
    obtain ⟨p, hp, _, hm⟩ := told_mem ht
    have := pairs_rng h hp
    subst hm
    show 0 ≤ tw back p ∧ tw back p ≤ most
    unfold tw
    split <;> omega
theorem num_neg {ps : List (Int × Int)} {most n : Int} {back : Bool} (h : pairsB ps most = true) (h0 : 0 ≤ n) (h1 : n ≤ most) : decide (numV ps n back < 0) = !tellB ps n back := by
  rw [num_tell]
  have := tell_rng (back := back) h h0 h1
  cases tellB ps n back with
  | false => simp
  | true => simp; omega
theorem badL_ok {ct : List (Int × Int)} {back : Bool} (h : pairsB ct 239 = true) (L : List Nat) (hL : ∀ k ∈ L, k < 240) : badL ct back L = !okL ct back L := by
  unfold badL okL
  rw [List.not_all_eq_any_not]
  induction L with
  | nil => rfl
  | cons k L ih =>
    have hk := hL k (by simp)
    rw [List.any_cons, List.any_cons, ih (fun j hj => hL j (by simp [hj])), num_neg h (by omega) (by omega)]
theorem fold_ok {ct : List (Int × Int)} {back : Bool} (L : List Nat) (h : okL ct back L = true) : foldR ct back L = foldL ct back L := by
  unfold foldR foldL
  have h2 : ∀ (L : List Nat) (T : Nat), okL ct back L = true → L.foldl (fun T (k : Nat) => withS T (numV ct k back)) T = L.foldl (fun T (k : Nat) => withS T (tellN ct k back)) T := by
    intro L
    induction L with
    | nil => intro T _; rfl
    | cons k L ih =>
      intro T ho
      simp only [okL, List.all_cons, Bool.and_eq_true] at ho
      rw [List.foldl_cons, List.foldl_cons, num_tell, if_pos ho.1]
      exact ih _ ho.2
  exact h2 L 0 h
theorem lsN_lt (S n : Nat) : ∀ k ∈ lsN S n, k < n := fun k hk => by
  unfold lsN at hk
  simpa using (List.mem_filter.1 hk).1
/-- What the reference tells, in its own words. -/
theorem rtell_spec (d : Dm) (x : Lab) (back : Bool) : ((rightD d = false ∨ rightL x = false) → mvX d x back = ⟨0, 0⟩ ∧ mvE d x back = 1) ∧
    (rightD d = true → rightL x = true → (mvX d x back = if (decide (numV d.lv x.lv back < 0) || badL d.ct back (lsN x.S 240)) then ⟨0, 0⟩ else ⟨numV d.lv x.lv back, foldR d.ct back (lsN x.S 240)⟩) ∧ mvE d x back = if (decide (numV d.lv x.lv back < 0) || badL d.ct back (lsN x.S 240)) then 6 else 0) := by
  constructor
  · intro h
    unfold mvX mvE
    rcases h with h | h
    · simp [h]
    · cases rightD d <;> simp [h]
  · intro h1 h2
    have hr : pairsB d.lv 255 = true ∧ pairsB d.ct 239 = true := by simpa [rightD] using h1
    have hl : 0 ≤ x.lv ∧ x.lv ≤ 255 := by simpa [rightL] using h2
    rw [num_neg hr.1 hl.1 hl.2, badL_ok hr.2 _ (lsN_lt _ _), num_tell]
    unfold mvX mvE
    rw [if_pos h1, if_pos h1, if_pos h2, if_pos h2]
    cases hb : tellB d.lv x.lv back with
    | false => simp
    | true =>
      cases ho : okL d.ct back (lsN x.S 240) with
      | false => simp
      | true => simp [fold_ok _ ho]
set_option maxRecDepth 100000 in
set_option maxHeartbeats 8000000 in
theorem rtell29o (d : Dm) (x : Lab) (w : World) (h : DmA w d) (h1 : d.lv.length ≤ 300) (h2 : d.ct.length ≤ 300) (hS : x.S < 2 ^ 240) :
    Calls Try.prog 29 #[.agg (dmA d), .agg (labA x), .bool false] w fun e w' => e = .returned (.tuple #[.agg (labA (mvX d x false)), .int .i64 (mvE d x false)]) ∧ Below w.heap.size w w' := by
  have hu23 := Try.underlying23
  have hu25 := Try.underlying25
  have hu45 := Try.underlying45
  have hu47 := Try.underlying47
  have hRV := rtell_spec d x false
  have Z0 := heap_alloc2_old w (.cells (dmA d) 47) (.cells (labA x) 25)
  have Z1 := heap_alloc2_new w (.cells (dmA d) 47) (.cells (labA x) 25)
  have ZB := bel_alloc (bel_alloc (Below.refl w.heap.size w) (.cells (dmA d) 47)) (.cells (labA x) 25)
  have HB := Lib.hid (bel_alloc ZB (.cells z25 25))
  have HR := Lib.hid (right26 d _ (h.below HB.out) h1 h2)
  have HT1 := Lib.hid (fun w' (hb : Below w.heap.size w w') => number60o d.lv x.lv d.A1 d.c1 w' (h.1.below hb) h1)
  have HT2 := Lib.hid (fun w' (hb : Below w.heap.size w w') (k : Nat) => number60o d.ct k d.A2 d.c2 w' (h.2.below hb) h2)
  have HG := Lib.hid (show ∀ (k : Nat) w, Calls Try.prog 16 #[.agg (catA x.S), .int .i64 k] w fun e w' => e = .returned (.bool (x.S.testBit k)) ∧ Below w.heap.size w w' from fun k w => by
    have h := has16 x.S k w
    rwa [hasB_nat hS] at h)
  have H0 := Lib.hid ((heap_alloc_old _ (.cells z25 25) (lt_of_block Z0)).trans Z0)
  have H1 := Lib.hid ((heap_alloc_old _ (.cells z25 25) (lt_of_block Z1)).trans Z1)
  have H2 := Lib.hid (show (((w.alloc (.cells (dmA d) 47)).alloc (.cells (labA x) 25)).alloc (.cells z25 25)).heap[w.heap.size + 2]? = some (.cells z25 25 (0, 0)) from by
    have := heap_alloc_new ((w.alloc (.cells (dmA d) 47)).alloc (.cells (labA x) 25)) (.cells z25 25)
    simpa using this)
  have hx0 := labA_0 x
  have hi23x := info23L x.S
  clear Z0 Z1 ZB h h1 h2 hS
  have HRV := Lib.hid hRV
  clear hRV
  generalize hxx : mvX d x false = X at HRV ⊢
  generalize hee : mvE d x false = E at HRV ⊢
  clear hxx hee
  generalize rightD d = rd at HR HRV
  obtain ⟨num, A1, c1, lv, A2, c2, ct⟩ := d
  unfold dmA at HB H0 H1 H2 HR ⊢
  simp only at HB H0 H1 H2 HR HT1 HT2 HRV ⊢
  generalize numV lv x.lv false = v1 at HT1 HRV
  unfold z25 at HB H0 H1 H2 HR
  have ZERO : ∀ (W : World), True := fun _ => trivial
  clear ZERO
  cases rd with
  | false =>
    have HX2 := Lib.hid (HRV.out.1 (.inl rfl))
    clear HRV
    go_enter Try.func29, Try.ntmps29
    go_wp2_with (first
      | (go_at_call 26; refine HR.out.mono ?_; rintro e w1 ⟨rfl, hb⟩; have K2 := Lib.hid (blk_below H2.out hb); have HB1 := Lib.hid (bel_trans HB.out hb); clear hb)
      | (refine wpList_store_row rfl 25 (.tmp 6) (.tmp 25) rfl (w.heap.size + 2) z25 rfl rfl 25 z25 K2.out info25z' rfl (by kernel_rfl) ?_))
    refine bodyPost_ret (results_row_tmp rfl _ _ (w.heap.size + 2) 25 z25 (0, 0) _ rfl (setRow_heap _ (w.heap.size + 2) _ _ 25 _ K2.out) hu25 rfl info25z') rfl ⟨by rw [HX2.out.1, HX2.out.2, ← z25_lab]; rfl, bel_setRow HB1.out _ _ (by omega)⟩
  | true =>
    by_cases hl0 : x.lv < 0
    · have d0 : decide (x.lv < 0) = true := decide_eq_true hl0
      have HX2 := Lib.hid (HRV.out.1 (.inr (by simp [rightL]; omega)))
      clear HRV hl0
      go_enter Try.func29, Try.ntmps29
      go_wp2_with (first
        | (go_at_call 26; refine HR.out.mono ?_; rintro e w1 ⟨rfl, hb⟩; have K2 := Lib.hid (blk_below H2.out hb); have q0 : w1.cell? ⟨w.heap.size + 1, 0, none⟩ = some (.int .i64 x.lv) := (cell_of_row _ _ _ _ _ _ (blk_below H1.out hb)).trans hx0; have HB1 := Lib.hid (bel_trans HB.out hb); clear hb)
        | (refine wpList_store_row rfl 25 (.tmp 6) (.tmp 25) rfl (w.heap.size + 2) z25 rfl rfl 25 z25 K2.out info25z' rfl (by kernel_rfl) ?_))
      refine bodyPost_ret (results_row_tmp rfl _ _ (w.heap.size + 2) 25 z25 (0, 0) _ rfl (setRow_heap _ (w.heap.size + 2) _ _ 25 _ K2.out) hu25 rfl info25z') rfl ⟨by rw [HX2.out.1, HX2.out.2, ← z25_lab]; rfl, bel_setRow HB1.out _ _ (by omega)⟩
    have d0 : decide (x.lv < 0) = false := decide_eq_false hl0
    by_cases hl1 : 255 < x.lv
    · have d1 : decide (255 < x.lv) = true := decide_eq_true hl1
      have HX2 := Lib.hid (HRV.out.1 (.inr (by simp [rightL]; omega)))
      clear HRV hl0 hl1
      go_enter Try.func29, Try.ntmps29
      go_wp2_with (first
        | (go_at_call 26; refine HR.out.mono ?_; rintro e w1 ⟨rfl, hb⟩; have K2 := Lib.hid (blk_below H2.out hb); have q0 : w1.cell? ⟨w.heap.size + 1, 0, none⟩ = some (.int .i64 x.lv) := (cell_of_row _ _ _ _ _ _ (blk_below H1.out hb)).trans hx0; have HB1 := Lib.hid (bel_trans HB.out hb); clear hb)
        | (refine wpList_store_row rfl 25 (.tmp 6) (.tmp 25) rfl (w.heap.size + 2) z25 rfl rfl 25 z25 K2.out info25z' rfl (by kernel_rfl) ?_))
      refine bodyPost_ret (results_row_tmp rfl _ _ (w.heap.size + 2) 25 z25 (0, 0) _ rfl (setRow_heap _ (w.heap.size + 2) _ _ 25 _ K2.out) hu25 rfl info25z') rfl ⟨by rw [HX2.out.1, HX2.out.2, ← z25_lab]; rfl, bel_setRow HB1.out _ _ (by omega)⟩
    have d1 : decide (255 < x.lv) = false := decide_eq_false hl1
    have HX2 := Lib.hid (HRV.out.2 rfl (by simp [rightL]; omega))
    clear HRV hl0 hl1
    generalize hbb : decide (v1 < 0) = bb at HX2
    have HBB := Lib.hid hbb
    clear hbb
    go_enter Try.func29, Try.ntmps29
    go_wp2_with (first
      | (go_at_call 26; refine HR.out.mono ?_; rintro e w1 ⟨rfl, hb⟩; have K0 := Lib.hid (blk_below H0.out hb); have K1 := Lib.hid (blk_below H1.out hb); have K2 := Lib.hid (blk_below H2.out hb); have q0 : w1.cell? ⟨w.heap.size + 1, 0, none⟩ = some (.int .i64 x.lv) := (cell_of_row _ _ _ _ _ _ K1.out).trans hx0; have q1 : w1.cell? ⟨w.heap.size, 1, none⟩ = some (.slice A1 lv.length c1) := cell_of_row _ _ _ _ _ _ K0.out; have HB1 := Lib.hid (bel_trans HB.out hb); clear hb)
      | (go_at_call 60; refine (HT1.out _ HB1.out).mono ?_; rintro e w2 ⟨rfl, rfl⟩; have N0 := Lib.hid ((heap_alloc_old w1 (.cells (labA ⟨v1, 0⟩) 25) (lt_of_block K0.out)).trans K0.out); have N1 := Lib.hid ((heap_alloc_old w1 (.cells (labA ⟨v1, 0⟩) 25) (lt_of_block K1.out)).trans K1.out); have N2 := Lib.hid ((heap_alloc_old w1 (.cells (labA ⟨v1, 0⟩) 25) (lt_of_block K2.out)).trans K2.out); have NL := Lib.hid (heap_alloc_new w1 (.cells (labA ⟨v1, 0⟩) 25)); have HB2 := Lib.hid (bel_alloc HB1.out (.cells (labA ⟨v1, 0⟩) 25)); have NN := Lib.hid (heap_alloc_new w1 (.cells z25 25)); have NA := Lib.hid (World.setRow_alloc_new w1 z25 (labA ⟨v1, 0⟩) 25); unfold z25 at NN NA; have hbb := HBB.out)
      | (refine wpList_store_row rfl 25 (.tmp 8) (.tmp 32) rfl w1.heap.size (labA ⟨v1, 0⟩) rfl (congrArg Value.agg (lab0 v1)) 25 z25 NN.out (info25 _) (by rw [labA_size]; rfl) (all_oneCell_toArray (labL_one _)) ?_; rw [NA.out]; have q2 : (w1.alloc (.cells (labA ⟨v1, 0⟩) 25)).cell? ⟨w1.heap.size, 0, none⟩ = some (.int .i64 v1) := (cell_of_row _ _ _ _ _ _ NL.out).trans (labA_0 _)))
    have HW := Lib.hid (show w.heap.size + 2 < w1.heap.size from lt_of_block K2.out)
    clear HR HT1 HB H0 H1 H2 K0 K1 K2 HB1 NN NA q0 q1 q2 hbb HBB
    have HL0 : w.heap.size ≠ w1.heap.size := by have := HW.out; omega
    have HL1 : w.heap.size + 1 ≠ w1.heap.size := by have := HW.out; omega
    have HL2 : w.heap.size + 2 ≠ w1.heap.size := by have := HW.out; omega
    have HLB : w.heap.size ≤ w1.heap.size := by have := HW.out; omega
    clear HW
    generalize w1.alloc (.cells (labA ⟨v1, 0⟩) 25) = w2 at N0 N1 N2 NL HB2 ⊢
    generalize w1.heap.size = L0 at NL HL0 HL1 HL2 HLB ⊢
    go_loopg [9, 10] 241 (fun gg s9 s10 wr => ∃ k : Nat, k ≤ 240 ∧ 241 - k ≤ gg ∧ s10 = .int .i64 k ∧ s9 = .bool (bb || badL ct false (lsN x.S k)) ∧ Hid (wr.heap[w.heap.size]? = some (.cells #[.int .u32 num, .slice A1 lv.length c1, .slice A2 ct.length c2] 47 (0, 0))) ∧ Hid (wr.heap[w.heap.size + 1]? = some (.cells (labA x) 25 (0, 0))) ∧ Hid (wr.heap[w.heap.size + 2]? = some (.cells z25 25 (0, 0))) ∧ Hid (wr.heap[L0]? = some (.cells (labA ⟨v1, foldR ct false (lsN x.S k)⟩) 25 (0, 0))) ∧ Hid (Below w.heap.size w wr))
    case atStart => exact ⟨0, Nat.zero_le _, Nat.sub_le _ _, rfl, by show _ = Value.bool (bb || false); rw [Bool.or_false], N0.out, N1.out, N2.out, NL.out, HB2.out⟩
    case round =>
      clear N0 N1 N2 NL HB2
      obtain ⟨k, hk, hgg, rfl, rfl, N0, N1, N2, NL, BR⟩ := hrel
      generalize hcur : (bb || badL ct false (lsN x.S k)) = cur
      have HCUR := Lib.hid hcur
      clear hcur
      by_cases hlt : k < 240
      · have e1 : decide ((k : Int) < 240) = true := decide_eq_true (by omega)
        have q1 : IntKind.i64.wrap ((k : Int) + 1) = (k : Int) + 1 := IntWalk.i64_in _ (by omega)
        have P1 := Lib.hid (range_of N1.out)
        have HLS := Lib.hid (lsN_succ x.S k)
        have HGk := Lib.hid (HG.out k wr)
        cases hb : x.S.testBit k with
        | false =>
          rw [hb] at HGk HLS
          clear hb
          go_wp2_with (first
            | (refine load_mid_g 23 (.tmp 40) rfl (w.heap.size + 1) 1 rfl (catL x.S) _ P1.out hu23 rfl hi23x rfl ?_)
            | (go_at_call 16; refine HGk.out.mono ?_; rintro e w3 ⟨rfl, hb⟩; have M0 := Lib.hid (blk_below N0.out hb); have M1 := Lib.hid (blk_below N1.out hb); have M2 := Lib.hid (blk_below N2.out hb); have ML := Lib.hid (blk_below NL.out hb); have HB3 := Lib.hid (bel_trans BR.out hb); clear hb))
          go_roundg (241 - (k + 1))
          case measure => omega
          case rel => exact ⟨k + 1, hlt, Nat.le_refl _, rfl, by rw [HLS.out, if_neg (by simp), HCUR.out], M0, M1, M2, Lib.hid (by rw [HLS.out, if_neg (by simp)]; exact ML.out), HB3⟩
        | true =>
          rw [hb] at HGk HLS
          clear hb
          have HLS2 := Lib.hid (show lsN x.S (k + 1) = lsN x.S k ++ [k] by rw [HLS.out, if_pos rfl])
          have HFS := Lib.hid (show foldR ct false (lsN x.S (k + 1)) = withS (foldR ct false (lsN x.S k)) (numV ct k false) by rw [HLS2.out, foldR_snoc])
          have HBS := Lib.hid (show (bb || badL ct false (lsN x.S (k + 1))) = (cur || decide (numV ct k false < 0)) by rw [HLS2.out, badL_snoc, ← Bool.or_assoc, HCUR.out])
          clear HLS HCUR
          have HT := Lib.hid (fun w' (hb : Below w.heap.size w w') => HT2.out w' hb k)
          generalize foldR ct false (lsN x.S k) = T at NL HFS
          generalize numV ct k false = nk at HT HFS HBS
          have HP := Lib.hid (put48 T nk)
          generalize withS T nk = T' at HP HFS
          have hi23 := info23L T
          have hcases : (cur = true) ∨ (cur = false ∧ decide (nk < 0) = true) ∨ (cur = false ∧ decide (nk < 0) = false) := by
            cases cur <;> cases decide (nk < 0) <;> simp
          rcases hcases with rfl | ⟨rfl, hn⟩ | ⟨rfl, hn⟩
          all_goals
            go_wp2_with (first
              | (refine load_mid_g 23 (.tmp 40) rfl (w.heap.size + 1) 1 rfl (catL x.S) _ P1.out hu23 rfl hi23x rfl ?_)
              | (go_at_call 16; refine HGk.out.mono ?_; rintro e w3 ⟨rfl, hb⟩; have M0 := Lib.hid (blk_below N0.out hb); have M1 := Lib.hid (blk_below N1.out hb); have M2 := Lib.hid (blk_below N2.out hb); have ML := Lib.hid (blk_below NL.out hb); have HB3 := Lib.hid (bel_trans BR.out hb); have cD : w3.cell? ⟨w.heap.size, 2, none⟩ = some (.slice A2 ct.length c2) := cell_of_row _ _ _ _ _ _ M0.out; have RL := Lib.hid (range_of (x := ⟨v1, T⟩) ML.out); clear hb)
              | (go_at_call 60; refine (HT.out _ HB3.out).mono ?_; rintro e w4 ⟨rfl, rfl⟩)
              | (refine wpList_load_mid rfl 23 (.tmp 54) rfl L0 1 rfl (catL T) _ RL.out hu23 rfl hi23 ?_)
              | (go_at_call 48; refine (HP.out _).mono ?_; rintro e w5 ⟨rfl, hb⟩; have U0 := Lib.hid (blk_below M0.out hb); have U1 := Lib.hid (blk_below M1.out hb); have U2 := Lib.hid (blk_below M2.out hb); have UL := Lib.hid (blk_below ML.out hb); have HB5 := Lib.hid (bel_trans HB3.out hb); clear hb)
              | (refine wpList_store_mid rfl 23 (.tmp 58) (.tmp 57) rfl L0 1 (catA T') rfl rfl (there_cat _ UL.out) (info23 _) (all_oneCell_toArray (catL_one _)) ?_
                 rw [show (catA T').toList = catL T' by simp [catA]]
                 have Y0 := Lib.hid ((setCells_other L0 w.heap.size HL0 (catL T') 1 w5).trans U0.out)
                 have Y1 := Lib.hid ((setCells_other L0 (w.heap.size + 1) HL1 (catL T') 1 w5).trans U1.out)
                 have Y2 := Lib.hid ((setCells_other L0 (w.heap.size + 2) HL2 (catL T') 1 w5).trans U2.out)
                 have YL := Lib.hid (setCat (x := ⟨v1, T⟩) T' UL.out)
                 have YB := Lib.hid (setCells_below L0 HLB (catL T') 1 w5 HB5.out)
                 generalize w5.setCells L0 1 (catL T') = w6 at Y0 Y1 Y2 YL YB ⊢))
            go_roundg (241 - (k + 1))
            case measure => omega
            case rel => exact ⟨k + 1, hlt, Nat.le_refl _, rfl, by rw [HBS.out]; first | rfl | (rw [hn]; rfl), Y0, Y1, Y2, Lib.hid (by rw [HFS.out]; exact YL.out), YB⟩
      · have e1 : decide ((k : Int) < 240) = false := decide_eq_false (by omega)
        have hk2 : k = 240 := by omega
        have HXf := Lib.hid (show X = if cur then ⟨0, 0⟩ else ⟨v1, foldR ct false (lsN x.S k)⟩ by rw [← HCUR.out, hk2]; exact HX2.out.1)
        have HEf := Lib.hid (show E = if cur then 6 else 0 by rw [← HCUR.out, hk2]; exact HX2.out.2)
        clear hk2 HX2 HCUR
        generalize foldR ct false (lsN x.S k) = T at NL HXf
        cases cur with
        | true =>
          go_wp2_with (first
            | (refine wpList_store_row rfl 25 (.tmp 6) (.tmp 60) rfl (w.heap.size + 2) z25 rfl rfl 25 z25 N2.out info25z' rfl (by kernel_rfl) ?_))
          refine bodyPost_ret (results_row_tmp rfl _ _ (w.heap.size + 2) 25 z25 (0, 0) _ rfl (setRow_heap _ (w.heap.size + 2) _ _ 25 _ N2.out) hu25 rfl info25z') rfl ⟨by rw [HXf.out, HEf.out, z25_lab]; rfl, bel_setRow BR.out _ _ (by omega)⟩
        | false =>
          go_wp2_with (first
            | (refine wpList_load_row rfl 25 (.tmp 8) rfl L0 rfl 25 (labA ⟨v1, T⟩) (0, 0) _ NL.out hu25 rfl (info25 _) ?_)
            | (refine wpList_store_row rfl 25 (.tmp 6) (.tmp 61) rfl (w.heap.size + 2) (labA ⟨v1, T⟩) rfl rfl 25 z25 N2.out (info25 _) (by rw [labA_size]; rfl) (all_oneCell_toArray (labL_one _)) ?_))
          refine bodyPost_ret (results_row_tmp rfl _ _ (w.heap.size + 2) 25 (labA ⟨v1, T⟩) (0, 0) _ rfl (setRow_heap _ (w.heap.size + 2) _ _ 25 _ N2.out) hu25 rfl (info25 _)) rfl ⟨by rw [HXf.out, HEf.out]; rfl, bel_setRow BR.out _ _ (by omega)⟩
set_option maxRecDepth 100000 in
set_option maxHeartbeats 8000000 in
theorem rtell29k (d : Dm) (x : Lab) (w : World) (h : DmA w d) (h1 : d.lv.length ≤ 300) (h2 : d.ct.length ≤ 300) (hS : x.S < 2 ^ 240) :
    Calls Try.prog 29 #[.agg (dmA d), .agg (labA x), .bool true] w fun e w' => e = .returned (.tuple #[.agg (labA (mvX d x true)), .int .i64 (mvE d x true)]) ∧ Below w.heap.size w w' := by
  have hu23 := Try.underlying23
  have hu25 := Try.underlying25
  have hu45 := Try.underlying45
  have hu47 := Try.underlying47
  have hRV := rtell_spec d x true
  have Z0 := heap_alloc2_old w (.cells (dmA d) 47) (.cells (labA x) 25)
  have Z1 := heap_alloc2_new w (.cells (dmA d) 47) (.cells (labA x) 25)
  have ZB := bel_alloc (bel_alloc (Below.refl w.heap.size w) (.cells (dmA d) 47)) (.cells (labA x) 25)
  have HB := Lib.hid (bel_alloc ZB (.cells z25 25))
  have HR := Lib.hid (right26 d _ (h.below HB.out) h1 h2)
  have HT1 := Lib.hid (fun w' (hb : Below w.heap.size w w') => number60k d.lv x.lv d.A1 d.c1 w' (h.1.below hb) h1)
  have HT2 := Lib.hid (fun w' (hb : Below w.heap.size w w') (k : Nat) => number60k d.ct k d.A2 d.c2 w' (h.2.below hb) h2)
  have HG := Lib.hid (show ∀ (k : Nat) w, Calls Try.prog 16 #[.agg (catA x.S), .int .i64 k] w fun e w' => e = .returned (.bool (x.S.testBit k)) ∧ Below w.heap.size w w' from fun k w => by
    have h := has16 x.S k w
    rwa [hasB_nat hS] at h)
  have H0 := Lib.hid ((heap_alloc_old _ (.cells z25 25) (lt_of_block Z0)).trans Z0)
  have H1 := Lib.hid ((heap_alloc_old _ (.cells z25 25) (lt_of_block Z1)).trans Z1)
  have H2 := Lib.hid (show (((w.alloc (.cells (dmA d) 47)).alloc (.cells (labA x) 25)).alloc (.cells z25 25)).heap[w.heap.size + 2]? = some (.cells z25 25 (0, 0)) from by
    have := heap_alloc_new ((w.alloc (.cells (dmA d) 47)).alloc (.cells (labA x) 25)) (.cells z25 25)
    simpa using this)
  have hx0 := labA_0 x
  have hi23x := info23L x.S
  clear Z0 Z1 ZB h h1 h2 hS
  have HRV := Lib.hid hRV
  clear hRV
  generalize hxx : mvX d x true = X at HRV ⊢
  generalize hee : mvE d x true = E at HRV ⊢
  clear hxx hee
  generalize rightD d = rd at HR HRV
  obtain ⟨num, A1, c1, lv, A2, c2, ct⟩ := d
  unfold dmA at HB H0 H1 H2 HR ⊢
  simp only at HB H0 H1 H2 HR HT1 HT2 HRV ⊢
  generalize numV lv x.lv true = v1 at HT1 HRV
  unfold z25 at HB H0 H1 H2 HR
  have ZERO : ∀ (W : World), True := fun _ => trivial
  clear ZERO
  cases rd with
  | false =>
    have HX2 := Lib.hid (HRV.out.1 (.inl rfl))
    clear HRV
    go_enter Try.func29, Try.ntmps29
    go_wp2_with (first
      | (go_at_call 26; refine HR.out.mono ?_; rintro e w1 ⟨rfl, hb⟩; have K2 := Lib.hid (blk_below H2.out hb); have HB1 := Lib.hid (bel_trans HB.out hb); clear hb)
      | (refine wpList_store_row rfl 25 (.tmp 6) (.tmp 25) rfl (w.heap.size + 2) z25 rfl rfl 25 z25 K2.out info25z' rfl (by kernel_rfl) ?_))
    refine bodyPost_ret (results_row_tmp rfl _ _ (w.heap.size + 2) 25 z25 (0, 0) _ rfl (setRow_heap _ (w.heap.size + 2) _ _ 25 _ K2.out) hu25 rfl info25z') rfl ⟨by rw [HX2.out.1, HX2.out.2, ← z25_lab]; rfl, bel_setRow HB1.out _ _ (by omega)⟩
  | true =>
    by_cases hl0 : x.lv < 0
    · have d0 : decide (x.lv < 0) = true := decide_eq_true hl0
      have HX2 := Lib.hid (HRV.out.1 (.inr (by simp [rightL]; omega)))
      clear HRV hl0
      go_enter Try.func29, Try.ntmps29
      go_wp2_with (first
        | (go_at_call 26; refine HR.out.mono ?_; rintro e w1 ⟨rfl, hb⟩; have K2 := Lib.hid (blk_below H2.out hb); have q0 : w1.cell? ⟨w.heap.size + 1, 0, none⟩ = some (.int .i64 x.lv) := (cell_of_row _ _ _ _ _ _ (blk_below H1.out hb)).trans hx0; have HB1 := Lib.hid (bel_trans HB.out hb); clear hb)
        | (refine wpList_store_row rfl 25 (.tmp 6) (.tmp 25) rfl (w.heap.size + 2) z25 rfl rfl 25 z25 K2.out info25z' rfl (by kernel_rfl) ?_))
      refine bodyPost_ret (results_row_tmp rfl _ _ (w.heap.size + 2) 25 z25 (0, 0) _ rfl (setRow_heap _ (w.heap.size + 2) _ _ 25 _ K2.out) hu25 rfl info25z') rfl ⟨by rw [HX2.out.1, HX2.out.2, ← z25_lab]; rfl, bel_setRow HB1.out _ _ (by omega)⟩
    have d0 : decide (x.lv < 0) = false := decide_eq_false hl0
    by_cases hl1 : 255 < x.lv
    · have d1 : decide (255 < x.lv) = true := decide_eq_true hl1
      have HX2 := Lib.hid (HRV.out.1 (.inr (by simp [rightL]; omega)))
      clear HRV hl0 hl1
      go_enter Try.func29, Try.ntmps29
      go_wp2_with (first
        | (go_at_call 26; refine HR.out.mono ?_; rintro e w1 ⟨rfl, hb⟩; have K2 := Lib.hid (blk_below H2.out hb); have q0 : w1.cell? ⟨w.heap.size + 1, 0, none⟩ = some (.int .i64 x.lv) := (cell_of_row _ _ _ _ _ _ (blk_below H1.out hb)).trans hx0; have HB1 := Lib.hid (bel_trans HB.out hb); clear hb)
        | (refine wpList_store_row rfl 25 (.tmp 6) (.tmp 25) rfl (w.heap.size + 2) z25 rfl rfl 25 z25 K2.out info25z' rfl (by kernel_rfl) ?_))
      refine bodyPost_ret (results_row_tmp rfl _ _ (w.heap.size + 2) 25 z25 (0, 0) _ rfl (setRow_heap _ (w.heap.size + 2) _ _ 25 _ K2.out) hu25 rfl info25z') rfl ⟨by rw [HX2.out.1, HX2.out.2, ← z25_lab]; rfl, bel_setRow HB1.out _ _ (by omega)⟩
    have d1 : decide (255 < x.lv) = false := decide_eq_false hl1
    have HX2 := Lib.hid (HRV.out.2 rfl (by simp [rightL]; omega))
    clear HRV hl0 hl1
    generalize hbb : decide (v1 < 0) = bb at HX2
    have HBB := Lib.hid hbb
    clear hbb
    go_enter Try.func29, Try.ntmps29
    go_wp2_with (first
      | (go_at_call 26; refine HR.out.mono ?_; rintro e w1 ⟨rfl, hb⟩; have K0 := Lib.hid (blk_below H0.out hb); have K1 := Lib.hid (blk_below H1.out hb); have K2 := Lib.hid (blk_below H2.out hb); have q0 : w1.cell? ⟨w.heap.size + 1, 0, none⟩ = some (.int .i64 x.lv) := (cell_of_row _ _ _ _ _ _ K1.out).trans hx0; have q1 : w1.cell? ⟨w.heap.size, 1, none⟩ = some (.slice A1 lv.length c1) := cell_of_row _ _ _ _ _ _ K0.out; have HB1 := Lib.hid (bel_trans HB.out hb); clear hb)
      | (go_at_call 60; refine (HT1.out _ HB1.out).mono ?_; rintro e w2 ⟨rfl, rfl⟩; have N0 := Lib.hid ((heap_alloc_old w1 (.cells (labA ⟨v1, 0⟩) 25) (lt_of_block K0.out)).trans K0.out); have N1 := Lib.hid ((heap_alloc_old w1 (.cells (labA ⟨v1, 0⟩) 25) (lt_of_block K1.out)).trans K1.out); have N2 := Lib.hid ((heap_alloc_old w1 (.cells (labA ⟨v1, 0⟩) 25) (lt_of_block K2.out)).trans K2.out); have NL := Lib.hid (heap_alloc_new w1 (.cells (labA ⟨v1, 0⟩) 25)); have HB2 := Lib.hid (bel_alloc HB1.out (.cells (labA ⟨v1, 0⟩) 25)); have NN := Lib.hid (heap_alloc_new w1 (.cells z25 25)); have NA := Lib.hid (World.setRow_alloc_new w1 z25 (labA ⟨v1, 0⟩) 25); unfold z25 at NN NA; have hbb := HBB.out)
      | (refine wpList_store_row rfl 25 (.tmp 8) (.tmp 32) rfl w1.heap.size (labA ⟨v1, 0⟩) rfl (congrArg Value.agg (lab0 v1)) 25 z25 NN.out (info25 _) (by rw [labA_size]; rfl) (all_oneCell_toArray (labL_one _)) ?_; rw [NA.out]; have q2 : (w1.alloc (.cells (labA ⟨v1, 0⟩) 25)).cell? ⟨w1.heap.size, 0, none⟩ = some (.int .i64 v1) := (cell_of_row _ _ _ _ _ _ NL.out).trans (labA_0 _)))
    have HW := Lib.hid (show w.heap.size + 2 < w1.heap.size from lt_of_block K2.out)
    clear HR HT1 HB H0 H1 H2 K0 K1 K2 HB1 NN NA q0 q1 q2 hbb HBB
    have HL0 : w.heap.size ≠ w1.heap.size := by have := HW.out; omega
    have HL1 : w.heap.size + 1 ≠ w1.heap.size := by have := HW.out; omega
    have HL2 : w.heap.size + 2 ≠ w1.heap.size := by have := HW.out; omega
    have HLB : w.heap.size ≤ w1.heap.size := by have := HW.out; omega
    clear HW
    generalize w1.alloc (.cells (labA ⟨v1, 0⟩) 25) = w2 at N0 N1 N2 NL HB2 ⊢
    generalize w1.heap.size = L0 at NL HL0 HL1 HL2 HLB ⊢
    go_loopg [9, 10] 241 (fun gg s9 s10 wr => ∃ k : Nat, k ≤ 240 ∧ 241 - k ≤ gg ∧ s10 = .int .i64 k ∧ s9 = .bool (bb || badL ct true (lsN x.S k)) ∧ Hid (wr.heap[w.heap.size]? = some (.cells #[.int .u32 num, .slice A1 lv.length c1, .slice A2 ct.length c2] 47 (0, 0))) ∧ Hid (wr.heap[w.heap.size + 1]? = some (.cells (labA x) 25 (0, 0))) ∧ Hid (wr.heap[w.heap.size + 2]? = some (.cells z25 25 (0, 0))) ∧ Hid (wr.heap[L0]? = some (.cells (labA ⟨v1, foldR ct true (lsN x.S k)⟩) 25 (0, 0))) ∧ Hid (Below w.heap.size w wr))
    case atStart => exact ⟨0, Nat.zero_le _, Nat.sub_le _ _, rfl, by show _ = Value.bool (bb || false); rw [Bool.or_false], N0.out, N1.out, N2.out, NL.out, HB2.out⟩
    case round =>
      clear N0 N1 N2 NL HB2
      obtain ⟨k, hk, hgg, rfl, rfl, N0, N1, N2, NL, BR⟩ := hrel
      generalize hcur : (bb || badL ct true (lsN x.S k)) = cur
      have HCUR := Lib.hid hcur
      clear hcur
      by_cases hlt : k < 240
      · have e1 : decide ((k : Int) < 240) = true := decide_eq_true (by omega)
        have q1 : IntKind.i64.wrap ((k : Int) + 1) = (k : Int) + 1 := IntWalk.i64_in _ (by omega)
        have P1 := Lib.hid (range_of N1.out)
        have HLS := Lib.hid (lsN_succ x.S k)
        have HGk := Lib.hid (HG.out k wr)
        cases hb : x.S.testBit k with
        | false =>
          rw [hb] at HGk HLS
          clear hb
          go_wp2_with (first
            | (refine load_mid_g 23 (.tmp 40) rfl (w.heap.size + 1) 1 rfl (catL x.S) _ P1.out hu23 rfl hi23x rfl ?_)
            | (go_at_call 16; refine HGk.out.mono ?_; rintro e w3 ⟨rfl, hb⟩; have M0 := Lib.hid (blk_below N0.out hb); have M1 := Lib.hid (blk_below N1.out hb); have M2 := Lib.hid (blk_below N2.out hb); have ML := Lib.hid (blk_below NL.out hb); have HB3 := Lib.hid (bel_trans BR.out hb); clear hb))
          go_roundg (241 - (k + 1))
          case measure => omega
          case rel => exact ⟨k + 1, hlt, Nat.le_refl _, rfl, by rw [HLS.out, if_neg (by simp), HCUR.out], M0, M1, M2, Lib.hid (by rw [HLS.out, if_neg (by simp)]; exact ML.out), HB3⟩
        | true =>
          rw [hb] at HGk HLS
          clear hb
          have HLS2 := Lib.hid (show lsN x.S (k + 1) = lsN x.S k ++ [k] by rw [HLS.out, if_pos rfl])
          have HFS := Lib.hid (show foldR ct true (lsN x.S (k + 1)) = withS (foldR ct true (lsN x.S k)) (numV ct k true) by rw [HLS2.out, foldR_snoc])
          have HBS := Lib.hid (show (bb || badL ct true (lsN x.S (k + 1))) = (cur || decide (numV ct k true < 0)) by rw [HLS2.out, badL_snoc, ← Bool.or_assoc, HCUR.out])
          clear HLS HCUR
          have HT := Lib.hid (fun w' (hb : Below w.heap.size w w') => HT2.out w' hb k)
          generalize foldR ct true (lsN x.S k) = T at NL HFS
          generalize numV ct k true = nk at HT HFS HBS
          have HP := Lib.hid (put48 T nk)
          generalize withS T nk = T' at HP HFS
          have hi23 := info23L T
          have hcases : (cur = true) ∨ (cur = false ∧ decide (nk < 0) = true) ∨ (cur = false ∧ decide (nk < 0) = false) := by
            cases cur <;> cases decide (nk < 0) <;> simp
          rcases hcases with rfl | ⟨rfl, hn⟩ | ⟨rfl, hn⟩
          all_goals
            go_wp2_with (first
              | (refine load_mid_g 23 (.tmp 40) rfl (w.heap.size + 1) 1 rfl (catL x.S) _ P1.out hu23 rfl hi23x rfl ?_)
              | (go_at_call 16; refine HGk.out.mono ?_; rintro e w3 ⟨rfl, hb⟩; have M0 := Lib.hid (blk_below N0.out hb); have M1 := Lib.hid (blk_below N1.out hb); have M2 := Lib.hid (blk_below N2.out hb); have ML := Lib.hid (blk_below NL.out hb); have HB3 := Lib.hid (bel_trans BR.out hb); have cD : w3.cell? ⟨w.heap.size, 2, none⟩ = some (.slice A2 ct.length c2) := cell_of_row _ _ _ _ _ _ M0.out; have RL := Lib.hid (range_of (x := ⟨v1, T⟩) ML.out); clear hb)
              | (go_at_call 60; refine (HT.out _ HB3.out).mono ?_; rintro e w4 ⟨rfl, rfl⟩)
              | (refine wpList_load_mid rfl 23 (.tmp 54) rfl L0 1 rfl (catL T) _ RL.out hu23 rfl hi23 ?_)
              | (go_at_call 48; refine (HP.out _).mono ?_; rintro e w5 ⟨rfl, hb⟩; have U0 := Lib.hid (blk_below M0.out hb); have U1 := Lib.hid (blk_below M1.out hb); have U2 := Lib.hid (blk_below M2.out hb); have UL := Lib.hid (blk_below ML.out hb); have HB5 := Lib.hid (bel_trans HB3.out hb); clear hb)
              | (refine wpList_store_mid rfl 23 (.tmp 58) (.tmp 57) rfl L0 1 (catA T') rfl rfl (there_cat _ UL.out) (info23 _) (all_oneCell_toArray (catL_one _)) ?_
                 rw [show (catA T').toList = catL T' by simp [catA]]
                 have Y0 := Lib.hid ((setCells_other L0 w.heap.size HL0 (catL T') 1 w5).trans U0.out)
                 have Y1 := Lib.hid ((setCells_other L0 (w.heap.size + 1) HL1 (catL T') 1 w5).trans U1.out)
                 have Y2 := Lib.hid ((setCells_other L0 (w.heap.size + 2) HL2 (catL T') 1 w5).trans U2.out)
                 have YL := Lib.hid (setCat (x := ⟨v1, T⟩) T' UL.out)
                 have YB := Lib.hid (setCells_below L0 HLB (catL T') 1 w5 HB5.out)
                 generalize w5.setCells L0 1 (catL T') = w6 at Y0 Y1 Y2 YL YB ⊢))
            go_roundg (241 - (k + 1))
            case measure => omega
            case rel => exact ⟨k + 1, hlt, Nat.le_refl _, rfl, by rw [HBS.out]; first | rfl | (rw [hn]; rfl), Y0, Y1, Y2, Lib.hid (by rw [HFS.out]; exact YL.out), YB⟩
      · have e1 : decide ((k : Int) < 240) = false := decide_eq_false (by omega)
        have hk2 : k = 240 := by omega
        have HXf := Lib.hid (show X = if cur then ⟨0, 0⟩ else ⟨v1, foldR ct true (lsN x.S k)⟩ by rw [← HCUR.out, hk2]; exact HX2.out.1)
        have HEf := Lib.hid (show E = if cur then 6 else 0 by rw [← HCUR.out, hk2]; exact HX2.out.2)
        clear hk2 HX2 HCUR
        generalize foldR ct true (lsN x.S k) = T at NL HXf
        cases cur with
        | true =>
          go_wp2_with (first
            | (refine wpList_store_row rfl 25 (.tmp 6) (.tmp 60) rfl (w.heap.size + 2) z25 rfl rfl 25 z25 N2.out info25z' rfl (by kernel_rfl) ?_))
          refine bodyPost_ret (results_row_tmp rfl _ _ (w.heap.size + 2) 25 z25 (0, 0) _ rfl (setRow_heap _ (w.heap.size + 2) _ _ 25 _ N2.out) hu25 rfl info25z') rfl ⟨by rw [HXf.out, HEf.out, z25_lab]; rfl, bel_setRow BR.out _ _ (by omega)⟩
        | false =>
          go_wp2_with (first
            | (refine wpList_load_row rfl 25 (.tmp 8) rfl L0 rfl 25 (labA ⟨v1, T⟩) (0, 0) _ NL.out hu25 rfl (info25 _) ?_)
            | (refine wpList_store_row rfl 25 (.tmp 6) (.tmp 61) rfl (w.heap.size + 2) (labA ⟨v1, T⟩) rfl rfl 25 z25 N2.out (info25 _) (by rw [labA_size]; rfl) (all_oneCell_toArray (labL_one _)) ?_))
          refine bodyPost_ret (results_row_tmp rfl _ _ (w.heap.size + 2) 25 (labA ⟨v1, T⟩) (0, 0) _ rfl (setRow_heap _ (w.heap.size + 2) _ _ 25 _ N2.out) hu25 rfl (info25 _)) rfl ⟨by rw [HXf.out, HEf.out]; rfl, bel_setRow BR.out _ _ (by omega)⟩
end Go.Proofs.Ytifmckhabkghcaa.P
