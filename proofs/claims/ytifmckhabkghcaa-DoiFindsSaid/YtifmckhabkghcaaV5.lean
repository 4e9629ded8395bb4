/- Contract of doi.move. -/
import Derived.Test.YtifmckhabkghcaaV4
namespace Go.Proofs.Ytifmckhabkghcaa.P
open Go.RowKit
set_option linter.unusedSimpArgs false
attribute [local go_sem ↓] bsi56

/-- The set of what some categories are told as; whether all can be told. -/
def foldL (ct : List (Int × Int)) (back : Bool) (L : List Nat) : Nat := L.foldl (fun T (k : Nat) => withS T (tellN ct k back)) 0
def okL (ct : List (Int × Int)) (back : Bool) (L : List Nat) : Bool := L.all fun (k : Nat) => tellB ct k back
theorem foldL_snoc (ct : List (Int × Int)) (back : Bool) (L : List Nat) (k : Nat) : foldL ct back (L ++ [k]) = withS (foldL ct back L) (tellN ct k back) := by simp [foldL]
theorem withS_lt {S : Nat} {k : Int} (h : S < 2 ^ 240) : withS S k < 2 ^ 240 := by
  unfold withS rightB
  split
  · rename_i hr
    simp at hr
    exact ins_lt h (by omega)
  · exact h
theorem foldL_lt (ct : List (Int × Int)) (back : Bool) (L : List Nat) : foldL ct back L < 2 ^ 240 := by
  have h : ∀ (L : List Nat) (T : Nat), T < 2 ^ 240 → L.foldl (fun T (k : Nat) => withS T (tellN ct k back)) T < 2 ^ 240 := by
    intro L
    induction L with
    | nil => intro T hT; exact hT
    | cons k L ih => intro T hT; exact ih _ (withS_lt hT)
  exact h L 0 (Nat.pow_pos (by decide))
/-- What a label is told as; why it can't be. -/
def mvE (d : Dm) (x : Lab) (back : Bool) : Nat := if rightD d then (if rightL x then (if tellB d.lv x.lv back then (if okL d.ct back (lsN x.S 240) then 0 else 6) else 6) else 1) else 1
def mvX (d : Dm) (x : Lab) (back : Bool) : Lab := if rightD d then (if rightL x then (if tellB d.lv x.lv back then (if okL d.ct back (lsN x.S 240) then ⟨tellN d.lv x.lv back, foldL d.ct back (lsN x.S 240)⟩ else ⟨0, 0⟩) else ⟨0, 0⟩) else ⟨0, 0⟩) else ⟨0, 0⟩
theorem mvE_def (d : Dm) (x : Lab) (back : Bool) : mvE d x back = if rightD d then (if rightL x then (if tellB d.lv x.lv back then (if okL d.ct back (lsN x.S 240) then 0 else 6) else 6) else 1) else 1 := rfl
theorem mvX_def (d : Dm) (x : Lab) (back : Bool) : mvX d x back = if rightD d then (if rightL x then (if tellB d.lv x.lv back then (if okL d.ct back (lsN x.S 240) then ⟨tellN d.lv x.lv back, foldL d.ct back (lsN x.S 240)⟩ else ⟨0, 0⟩) else ⟨0, 0⟩) else ⟨0, 0⟩) else ⟨0, 0⟩ := rfl
theorem one_dm (W : World) (d : Dm) : DmsA (W.alloc (.cells (dmA d) 47)) (some ⟨W.heap.size, 0, none⟩) [d] := fun _ => ⟨_, _, rfl, by simp, fun j d' hd i u hu => by
  cases j with
  | zero =>
    simp at hd; subst hd
    rw [cell_of_row _ _ _ _ _ _ (heap_alloc_new W _)]
    simpa [dmA, dmL] using hu
  | succ j => simp at hd⟩
theorem ints_of_own2 {w : World} {base n : Nat} {v : Value} {l : List Nat} (h : w.ownsRow base 3 1 v n (ints l)) : ∃ A c, v = .slice A l.length c ∧ IntsA w A l ∧ ∀ b o, A = some ⟨b, o, none⟩ → base ≤ b := by
  obtain ⟨A, c, rfl, hi⟩ := ints_of_own h
  refine ⟨A, c, rfl, hi, fun b o hA => ?_⟩
  subst hA
  exact (h.lt b rfl).1
theorem ints_setCells {A : Option Addr} {l : List Nat} (L0 : Nat) (cs : List Value) (w : World) (h : IntsA w A l) (hne : ∀ b o, A = some ⟨b, o, none⟩ → b ≠ L0) : IntsA (w.setCells L0 1 cs) A l := fun hl => by
  obtain ⟨b, o, rfl, hlt, hc⟩ := h hl
  have hb := setCells_other L0 b (hne b o rfl) cs 1 w
  have hcell : ∀ (j : Nat) k, l[j]? = some k → (w.setCells L0 1 cs).cell? ⟨b, o + j, none⟩ = some (.int .i64 (k : Int)) := fun j k hk => (World.cell?_of_block hb).trans (hc j k hk)
  exact ⟨b, o, rfl, World.block_lt_of_cell? _ _ (hcell 0 l[0] (List.getElem?_eq_getElem hl)), hcell⟩
theorem right28one (d : Dm) (W : World) (h : DmA W d) (h1 : d.lv.length ≤ 300) (h2 : d.ct.length ≤ 300) : Calls Try.prog 28 #[.slice (some ⟨W.heap.size, 0, none⟩) 1 1] (W.alloc (.cells (dmA d) 47)) fun e w' => e = .returned (.bool (rightD d)) ∧ Below (W.alloc (.cells (dmA d) 47)).heap.size (W.alloc (.cells (dmA d) 47)) w' := by
  have hh := rights28 [d] (some ⟨W.heap.size, 0, none⟩) 1 (W.alloc (.cells (dmA d) 47)) (one_dm W d) (by simp) (by
    intro d' hd'
    rw [List.mem_singleton.1 hd']
    exact ⟨h.below (bel_alloc (Below.refl _ _) _), h1, h2⟩)
  rwa [show rightsB [d] = rightD d by simp [rightsB]] at hh
set_option maxRecDepth 100000 in
set_option maxHeartbeats 8000000 in
theorem move51o (d : Dm) (x : Lab) (w : World) (h : DmA w d) (h1 : d.lv.length ≤ 300) (h2 : d.ct.length ≤ 300) :
    Calls Try.prog 51 #[.agg (dmA d), .agg (labA x), .func (.func 52) #[] #[]] w fun e w' => e = .returned (.tuple #[.agg (labA (mvX d x false)), .int .i64 (mvE d x false)]) ∧ Below w.heap.size w w' := by
  have hu23 := Try.underlying23
  have hu25 := Try.underlying25
  have hu45 := Try.underlying45
  have hu47 := Try.underlying47
  have hu51 := Try.underlying51
  have hu56 := Try.underlying56
  have hu60 := Try.underlying60
  have hX := mvX_def d x false
  have hE := mvE_def d x false
  have HR := Lib.hid (show Calls Try.prog 28 #[.slice (some ⟨w.heap.size + 3, 0, none⟩) 1 1] ((((w.alloc (.cells (dmA d) 47)).alloc (.cells (labA x) 25)).alloc (.cells z25 25)).alloc (.cells (dmA d) 47)) (fun e w' => e = .returned (.bool (rightD d)) ∧ Below ((((w.alloc (.cells (dmA d) 47)).alloc (.cells (labA x) 25)).alloc (.cells z25 25)).alloc (.cells (dmA d) 47)).heap.size ((((w.alloc (.cells (dmA d) 47)).alloc (.cells (labA x) 25)).alloc (.cells z25 25)).alloc (.cells (dmA d) 47)) w') from by
    have h := right28one d (((w.alloc (.cells (dmA d) 47)).alloc (.cells (labA x) 25)).alloc (.cells z25 25)) (h.below (bel_alloc (bel_alloc (bel_alloc (Below.refl _ _) _) _) _)) h1 h2
    rwa [show (((w.alloc (.cells (dmA d) 47)).alloc (.cells (labA x) 25)).alloc (.cells z25 25)).heap.size = w.heap.size + 3 by simp] at h)
  have HLR := Lib.hid (right44 x)
  have HT1 := Lib.hid (fun w' (hb : Below w.heap.size w w') => tell73o d.lv x.lv d.A1 d.c1 w' (h.1.below hb) h1)
  have HT2 := Lib.hid (fun w' (hb : Below w.heap.size w w') (k : Nat) => tell73o d.ct k d.A2 d.c2 w' (h.2.below hb) h2)
  have HLS := Lib.hid (list69 x.S)
  have hbs := bs25 x
  have Z0 := heap_alloc2_old w (.cells (dmA d) 47) (.cells (labA x) 25)
  have Z1 := heap_alloc2_new w (.cells (dmA d) 47) (.cells (labA x) 25)
  have ZB := bel_alloc (bel_alloc (Below.refl w.heap.size w) (.cells (dmA d) 47)) (.cells (labA x) 25)
  have HB := Lib.hid (bel_alloc ZB (.cells z25 25))
  have H0 := Lib.hid ((heap_alloc_old _ (.cells z25 25) (lt_of_block Z0)).trans Z0)
  have H1 := Lib.hid ((heap_alloc_old _ (.cells z25 25) (lt_of_block Z1)).trans Z1)
  have H2 := Lib.hid (show (((w.alloc (.cells (dmA d) 47)).alloc (.cells (labA x) 25)).alloc (.cells z25 25)).heap[w.heap.size + 2]? = some (.cells z25 25 (0, 0)) from by
    have := heap_alloc_new ((w.alloc (.cells (dmA d) 47)).alloc (.cells (labA x) 25)) (.cells z25 25)
    simpa using this)
  clear Z0 Z1 ZB
  have HX := Lib.hid hX
  have HE := Lib.hid hE
  clear hX hE h h1 h2
  generalize hxx : mvX d x false = X at HX ⊢
  generalize hee : mvE d x false = E at HE ⊢
  clear hxx hee
  generalize rightD d = rd at HR HX HE
  obtain ⟨num, A1, c1, lv, A2, c2, ct⟩ := d
  unfold dmA at HB H0 H1 H2 HR ⊢
  simp only at HB H0 H1 H2 HT1 HT2 HX HE HR ⊢
  generalize tellN lv x.lv false = n1 at HT1 HX
  generalize tellB lv x.lv false = b1 at HT1 HX HE
  unfold z25 at HB H0 H1 H2 HR
  cases rd with
  | false =>
    have HX2 := Lib.hid (show X = ⟨0, 0⟩ from HX.out)
    have HE2 := Lib.hid (show E = 1 from HE.out)
    clear HX HE
    go_enter Try.func51, Try.ntmps51
    go_wp2_with (first
      | (go_at_call 28; refine HR.out.mono ?_; rintro e w1 ⟨rfl, hb⟩; have K2 := Lib.hid (blk_below ((heap_alloc_old _ _ (lt_of_block H2.out)).trans H2.out) hb); have HB1 := Lib.hid (bel_trans (bel_alloc HB.out _) hb); clear hb)
      | (refine wpList_store_row rfl 25 (.tmp 6) (.tmp 25) rfl (w.heap.size + 2) z25 rfl rfl 25 z25 K2.out info25z' rfl (by kernel_rfl) ?_))
    refine bodyPost_ret (results_row_tmp rfl _ _ (w.heap.size + 2) 25 z25 (0, 0) _ rfl (setRow_heap _ (w.heap.size + 2) _ _ 25 _ K2.out) hu25 rfl info25z') rfl ⟨by rw [HX2.out, HE2.out, ← z25_lab]; rfl, bel_setRow HB1.out _ _ (by omega)⟩
  | true =>
    cases hrl : rightL x with
    | false =>
      rw [hrl] at HLR HX HE
      have HX2 := Lib.hid (show X = ⟨0, 0⟩ from HX.out)
      have HE2 := Lib.hid (show E = 1 from HE.out)
      clear HX HE hrl
      go_enter Try.func51, Try.ntmps51
      go_wp2_with (first
        | (go_at_call 28; refine HR.out.mono ?_; rintro e w1 ⟨rfl, hb⟩; have K0 := Lib.hid (blk_below ((heap_alloc_old _ _ (lt_of_block H0.out)).trans H0.out) hb); have K1 := Lib.hid (blk_below ((heap_alloc_old _ _ (lt_of_block H1.out)).trans H1.out) hb); have K2 := Lib.hid (blk_below ((heap_alloc_old _ _ (lt_of_block H2.out)).trans H2.out) hb); have HB1 := Lib.hid (bel_trans (bel_alloc HB.out _) hb); clear hb)
        | (refine load_row_g 25 (.tmp 4) rfl (w.heap.size + 1) rfl 25 (labA x) (0, 0) _ K1.out hu25 rfl (info25 _) rfl ?_)
        | (go_at_call 44; refine (HLR.out _ _ _ (range_lab (heap_alloc_new w1 (.cells (labA x) 25)))).mono ?_; rintro e w2 ⟨rfl, hb⟩; have M0 := Lib.hid (blk_below ((heap_alloc_old _ _ (lt_of_block K0.out)).trans K0.out) hb); have M1 := Lib.hid (blk_below ((heap_alloc_old _ _ (lt_of_block K1.out)).trans K1.out) hb); have M2 := Lib.hid (blk_below ((heap_alloc_old _ _ (lt_of_block K2.out)).trans K2.out) hb); have HB2 := Lib.hid (bel_trans (bel_alloc HB1.out _) hb); clear hb)
        | (refine wpList_store_row rfl 25 (.tmp 6) (.tmp 25) rfl (w.heap.size + 2) z25 rfl rfl 25 z25 M2.out info25z' rfl (by kernel_rfl) ?_))
      refine bodyPost_ret (results_row_tmp rfl _ _ (w.heap.size + 2) 25 z25 (0, 0) _ rfl (setRow_heap _ (w.heap.size + 2) _ _ 25 _ M2.out) hu25 rfl info25z') rfl ⟨by rw [HX2.out, HE2.out, ← z25_lab]; rfl, bel_setRow HB2.out _ _ (by omega)⟩
    | true =>
      rw [hrl] at HLR HX HE
      clear hrl
      have hx0 := labA_0 x
      cases b1 with
      | false =>
        have HX2 := Lib.hid (show X = ⟨0, 0⟩ from HX.out)
        have HE2 := Lib.hid (show E = 6 from HE.out)
        clear HX HE
        go_enter Try.func51, Try.ntmps51
        go_wp2_with (first
          | (go_at_call 28; refine HR.out.mono ?_; rintro e w1 ⟨rfl, hb⟩; have K0 := Lib.hid (blk_below ((heap_alloc_old _ _ (lt_of_block H0.out)).trans H0.out) hb); have K1 := Lib.hid (blk_below ((heap_alloc_old _ _ (lt_of_block H1.out)).trans H1.out) hb); have K2 := Lib.hid (blk_below ((heap_alloc_old _ _ (lt_of_block H2.out)).trans H2.out) hb); have HB1 := Lib.hid (bel_trans (bel_alloc HB.out _) hb); clear hb)
          | (refine load_row_g 25 (.tmp 4) rfl (w.heap.size + 1) rfl 25 (labA x) (0, 0) _ K1.out hu25 rfl (info25 _) rfl ?_)
          | (go_at_call 44; refine (HLR.out _ _ _ (range_lab (heap_alloc_new w1 (.cells (labA x) 25)))).mono ?_; rintro e w2 ⟨rfl, hb⟩; have M0 := Lib.hid (blk_below ((heap_alloc_old _ _ (lt_of_block K0.out)).trans K0.out) hb); have M1 := Lib.hid (blk_below ((heap_alloc_old _ _ (lt_of_block K1.out)).trans K1.out) hb); have M2 := Lib.hid (blk_below ((heap_alloc_old _ _ (lt_of_block K2.out)).trans K2.out) hb); have HB2 := Lib.hid (bel_trans (bel_alloc HB1.out _) hb); have q0 : w2.cell? ⟨w.heap.size + 1, 0, none⟩ = some (.int .i64 x.lv) := (cell_of_row _ _ _ _ _ _ M1.out).trans hx0; have q1 : w2.cell? ⟨w.heap.size, 1, none⟩ = some (.slice A1 lv.length c1) := cell_of_row _ _ _ _ _ _ M0.out; clear hb)
          | (go_at_call 73; refine (HT1.out _ HB2.out).mono ?_; rintro e w3 ⟨rfl, hb⟩; have N2 := Lib.hid (blk_below M2.out hb); have HB3 := Lib.hid (bel_trans HB2.out hb); clear hb)
          | (refine wpList_store_row rfl 25 (.tmp 6) (.tmp 37) rfl (w.heap.size + 2) z25 rfl rfl 25 z25 N2.out info25z' rfl (by kernel_rfl) ?_))
        refine bodyPost_ret (results_row_tmp rfl _ _ (w.heap.size + 2) 25 z25 (0, 0) _ rfl (setRow_heap _ (w.heap.size + 2) _ _ 25 _ N2.out) hu25 rfl info25z') rfl ⟨by rw [HX2.out, HE2.out, ← z25_lab]; rfl, bel_setRow HB3.out _ _ (by omega)⟩
      | true =>
        have hi23x := info23L x.S
        go_enter Try.func51, Try.ntmps51
        go_wp2_with (first
          | (go_at_call 28; refine HR.out.mono ?_; rintro e w1 ⟨rfl, hb⟩; have K0 := Lib.hid (blk_below ((heap_alloc_old _ _ (lt_of_block H0.out)).trans H0.out) hb); have K1 := Lib.hid (blk_below ((heap_alloc_old _ _ (lt_of_block H1.out)).trans H1.out) hb); have K2 := Lib.hid (blk_below ((heap_alloc_old _ _ (lt_of_block H2.out)).trans H2.out) hb); have HB1 := Lib.hid (bel_trans (bel_alloc HB.out _) hb); clear hb)
          | (refine load_row_g 25 (.tmp 4) rfl (w.heap.size + 1) rfl 25 (labA x) (0, 0) _ K1.out hu25 rfl (info25 _) rfl ?_)
          | (go_at_call 44; refine (HLR.out _ _ _ (range_lab (heap_alloc_new w1 (.cells (labA x) 25)))).mono ?_; rintro e w2 ⟨rfl, hb⟩; have M0 := Lib.hid (blk_below ((heap_alloc_old _ _ (lt_of_block K0.out)).trans K0.out) hb); have M1 := Lib.hid (blk_below ((heap_alloc_old _ _ (lt_of_block K1.out)).trans K1.out) hb); have M2 := Lib.hid (blk_below ((heap_alloc_old _ _ (lt_of_block K2.out)).trans K2.out) hb); have HB2 := Lib.hid (bel_trans (bel_alloc HB1.out _) hb); have q0 : w2.cell? ⟨w.heap.size + 1, 0, none⟩ = some (.int .i64 x.lv) := (cell_of_row _ _ _ _ _ _ M1.out).trans hx0; have q1 : w2.cell? ⟨w.heap.size, 1, none⟩ = some (.slice A1 lv.length c1) := cell_of_row _ _ _ _ _ _ M0.out; clear hb)
          | (go_at_call 73; refine (HT1.out _ HB2.out).mono ?_; rintro e w3 ⟨rfl, hb⟩; have N0 := Lib.hid (blk_below M0.out hb); have N2 := Lib.hid (blk_below M2.out hb); have N1 := Lib.hid (blk_below M1.out hb); have HB3 := Lib.hid (bel_trans HB2.out hb); have P1 := Lib.hid (range_of (x := x) ((heap_alloc_old w3 (.cells (labA ⟨n1, 0⟩) 25) (lt_of_block N1.out)).trans N1.out)); have NN := Lib.hid (heap_alloc_new w3 (.cells z25 25)); have NA := Lib.hid (World.setRow_alloc_new w3 z25 (labA ⟨n1, 0⟩) 25); unfold z25 at NN NA; clear hb)
          | (refine wpList_store_row rfl 25 (.tmp 10) (.tmp 39) rfl w3.heap.size (labA ⟨n1, 0⟩) rfl (congrArg Value.agg (lab0 n1)) 25 z25 NN.out (info25 _) (by rw [labA_size]; rfl) (all_oneCell_toArray (labL_one _)) ?_; rw [NA.out])
          | (refine wpList_load_mid rfl 23 (.tmp 40) rfl (w.heap.size + 1) 1 rfl (catL x.S) _ P1.out hu23 rfl hi23x ?_)
          | (go_at_call 69; refine (HLS.out _).mono ?_; rintro e w4 ⟨v, rfl, ho, hb⟩; obtain ⟨Aq, cq, rfl, hiq, hqb⟩ := ints_of_own2 ho; have HI := Lib.hid hiq; have HQB0 := Lib.hid hqb; have Q0 := Lib.hid (blk_below ((heap_alloc_old _ _ (lt_of_block N0.out)).trans N0.out) hb); have Q2 := Lib.hid (blk_below ((heap_alloc_old _ _ (lt_of_block N2.out)).trans N2.out) hb); have QL := Lib.hid (blk_below (heap_alloc_new w3 (.cells (labA ⟨n1, 0⟩) 25)) hb); have HB4 := Lib.hid (bel_trans (bel_alloc HB3.out _) hb); clear hb ho hiq hqb))
        have hN2 := lt_of_block N2.out
        have HL0 : w.heap.size ≠ w3.heap.size := by omega
        have HL2 : w.heap.size + 2 ≠ w3.heap.size := by omega
        have HLB : w.heap.size ≤ w3.heap.size := by omega
        have HQB := Lib.hid (fun b o (h : Aq = some ⟨b, o, none⟩) => (by have h2 := HQB0.out b o h; simp at h2; omega : b ≠ w3.heap.size))
        clear HQB0
        generalize w3.heap.size = L0 at QL HL0 HL2 HLB HQB hN2 ⊢
        have hLl := lsN_len x.S 240
        have HXf := Lib.hid (show X = if okL ct false (lsN x.S 240) then ⟨n1, foldL ct false (lsN x.S 240)⟩ else ⟨0, 0⟩ from HX.out)
        have HEf := Lib.hid (show E = if okL ct false (lsN x.S 240) then 0 else 6 from HE.out)
        clear HX HE HR HT1 HLS HLR HB H0 H1 H2 K0 K1 K2 HB1 M0 M1 M2 HB2 N0 N1 N2 HB3 P1 NN NA q0 q1
        have hL2 : w.heap.size + 2 < w4.heap.size := lt_of_block Q2.out
        generalize lsN x.S 240 = L at HI hLl HXf HEf ⊢
        go_loopg [44] 241 (fun gg s44 wr => ∃ i : Nat, i ≤ L.length ∧ 241 - i ≤ gg ∧ s44 = .int .i64 i ∧ Hid (∀ (j : Nat) (k : Nat), j < i → L[j]? = some k → tellB ct k false = true) ∧ Hid (wr.heap[w.heap.size]? = some (.cells #[.int .u32 num, .slice A1 lv.length c1, .slice A2 ct.length c2] 47 (0, 0))) ∧ Hid (wr.heap[w.heap.size + 2]? = some (.cells z25 25 (0, 0))) ∧ Hid (wr.heap[L0]? = some (.cells (labA ⟨n1, foldL ct false (L.take i)⟩) 25 (0, 0))) ∧ Hid (Below w.heap.size w wr) ∧ Hid (IntsA wr Aq L))
        case atStart => exact ⟨0, Nat.zero_le _, Nat.sub_le _ _, rfl, fun j k hj => absurd hj (Nat.not_lt_zero _), Q0.out, Q2.out, QL.out, HB4.out, HI.out⟩
        case round =>
          clear Q0 Q2 QL HB4 HI hL2
          obtain ⟨i, hi, hgg, rfl, HNO, Q0, Q2, QL, BR, HI⟩ := hrel
          by_cases hlt : i < L.length
          · have d1 : decide ((i : Int) < (L.length : Int)) = true := decide_eq_true (by omega)
            have d2 : (0 : Int) ≤ (i : Int) := by omega
            have d3 : (i : Int) < (L.length : Int) := by omega
            have q1 : IntKind.i64.wrap ((i : Int) + 1) = (i : Int) + 1 := IntWalk.i64_in _ (by omega)
            obtain ⟨bq, oq, rfl, hbq, hcq⟩ := HI.out (by omega)
            have hy : L[i]? = some L[i] := List.getElem?_eq_getElem hlt
            have cq0 := hcq i _ hy
            have HY := Lib.hid hy
            have HTK := Lib.hid (show L.take (i + 1) = L.take i ++ [L[i]] from List.take_succ_eq_append_getElem hlt)
            generalize L[i] = k at cq0 HY HTK
            have cD : wr.cell? ⟨w.heap.size, 2, none⟩ = some (.slice A2 ct.length c2) := cell_of_row _ _ _ _ _ _ Q0.out
            have HT := Lib.hid (HT2.out wr BR.out k)
            have HIq := Lib.hid (show IntsA wr (some ⟨bq, oq, none⟩) L from HI.out)
            clear hcq hy HI
            cases hb1 : tellB ct k false with
            | false =>
              have HOK := Lib.hid (show okL ct false L = false by
                cases ho : okL ct false L with
                | false => rfl
                | true =>
                  have h1 := List.all_eq_true.1 ho k (List.mem_of_getElem? HY.out)
                  rw [hb1] at h1; cases h1)
              rw [hb1] at HT
              have HX2 := Lib.hid (show X = ⟨0, 0⟩ by rw [HXf.out, HOK.out]; rfl)
              have HE2 := Lib.hid (show E = 6 by rw [HEf.out, HOK.out]; rfl)
              clear hb1
              go_wp2_with (first
                | (go_at_call 73; refine HT.out.mono ?_; rintro e w5 ⟨rfl, hb⟩; have U2 := Lib.hid (blk_below Q2.out hb); have HB5 := Lib.hid (bel_trans BR.out hb); clear hb)
                | (refine wpList_store_row rfl 25 (.tmp 6) (.tmp 58) rfl (w.heap.size + 2) z25 rfl rfl 25 z25 U2.out info25z' rfl (by kernel_rfl) ?_))
              refine bodyPost_ret (results_row_tmp rfl _ _ (w.heap.size + 2) 25 z25 (0, 0) _ rfl (setRow_heap _ (w.heap.size + 2) _ _ 25 _ U2.out) hu25 rfl info25z') rfl ⟨by rw [HX2.out, HE2.out, ← z25_lab]; rfl, bel_setRow HB5.out _ _ (by omega)⟩
            | true =>
              rw [hb1] at HT
              have HB1k := Lib.hid hb1
              clear hb1
              have HFS := Lib.hid (show foldL ct false (L.take (i + 1)) = withS (foldL ct false (L.take i)) (tellN ct k false) by rw [HTK.out, foldL_snoc])
              generalize foldL ct false (L.take i) = T at QL HFS
              generalize tellN ct k false = nk at HT HFS
              have HP := Lib.hid (fun g c w h => with50 T nk g c w h)
              generalize withS T nk = T' at HP HFS
              have hi23 := info23L T
              go_wp2_with (first
                | (go_at_call 73; refine HT.out.mono ?_; rintro e w5 ⟨rfl, hb⟩; have U0 := Lib.hid (blk_below Q0.out hb); have U2 := Lib.hid (blk_below Q2.out hb); have UL := Lib.hid (blk_below QL.out hb); have UI := Lib.hid (HIq.out.below hb); have HB5 := Lib.hid (bel_trans BR.out hb); have RL := Lib.hid (range_of (x := ⟨n1, T⟩) UL.out); clear hb)
                | (refine wpList_load_mid rfl 23 (.tmp 59) rfl L0 1 rfl (catL T) _ RL.out hu23 rfl hi23 ?_)
                | (go_at_call 50; refine (HP.out _ _ _ (cell_of_row _ _ 0 _ _ _ (heap_alloc_new _ _))).mono ?_; rintro e w6 ⟨rfl, hb⟩; have V0 := Lib.hid (blk_below ((heap_alloc_old _ _ (lt_of_block U0.out)).trans U0.out) hb); have V2 := Lib.hid (blk_below ((heap_alloc_old _ _ (lt_of_block U2.out)).trans U2.out) hb); have VL := Lib.hid (blk_below ((heap_alloc_old _ _ (lt_of_block UL.out)).trans UL.out) hb); have VI := Lib.hid ((UI.out.below (bel_alloc (Below.refl _ _) _)).below hb); have HB6 := Lib.hid (bel_trans (bel_alloc HB5.out _) hb); clear hb)
                | (refine wpList_store_mid rfl 23 (.tmp 64) (.tmp 63) rfl L0 1 (catA T') rfl rfl (there_cat _ VL.out) (info23 _) (all_oneCell_toArray (catL_one _)) ?_
                   rw [show (catA T').toList = catL T' by simp [catA]]
                   have Y0 := Lib.hid ((setCells_other L0 w.heap.size HL0 (catL T') 1 w6).trans V0.out)
                   have Y2 := Lib.hid ((setCells_other L0 (w.heap.size + 2) HL2 (catL T') 1 w6).trans V2.out)
                   have YL := Lib.hid (setCat (x := ⟨n1, T⟩) T' VL.out)
                   have YB := Lib.hid (setCells_below L0 HLB (catL T') 1 w6 HB6.out)
                   have YI := Lib.hid (ints_setCells L0 (catL T') w6 VI.out HQB.out)
                   generalize w6.setCells L0 1 (catL T') = w7 at Y0 Y2 YL YB YI ⊢))
              go_roundg (241 - (i + 1))
              case measure => omega
              case rel => exact ⟨i + 1, hlt, Nat.le_refl _, rfl, Lib.hid (fun j m hj hm => by
                rcases Nat.lt_or_ge j i with h | h
                · exact HNO.out j m h hm
                · rw [show j = i by omega, HY.out] at hm; rw [← Option.some.inj hm]; exact HB1k.out), Y0, Y2, Lib.hid (by rw [HFS.out]; exact YL.out), YB, YI⟩
          · have d1 : decide ((i : Int) < (L.length : Int)) = false := decide_eq_false (by omega)
            have HOK := Lib.hid (show okL ct false L = true from List.all_eq_true.2 fun k hk => by
              obtain ⟨j, hj⟩ := List.getElem?_of_mem hk
              exact HNO.out j k (by have := (List.getElem?_eq_some_iff.1 hj).1; omega) hj)
            have hi2 : i = L.length := by omega
            have HX2 := Lib.hid (show X = ⟨n1, foldL ct false (L.take i)⟩ by rw [HXf.out, HOK.out, hi2, List.take_length]; rfl)
            have HE2 := Lib.hid (show E = 0 by rw [HEf.out, HOK.out]; rfl)
            generalize foldL ct false (L.take i) = T at QL HX2
            clear hi2
            go_wp2_with (first
              | (refine wpList_load_row rfl 25 (.tmp 10) rfl L0 rfl 25 (labA ⟨n1, T⟩) (0, 0) _ QL.out hu25 rfl (info25 _) ?_)
              | (refine wpList_store_row rfl 25 (.tmp 6) (.tmp 66) rfl (w.heap.size + 2) (labA ⟨n1, T⟩) rfl rfl 25 z25 Q2.out (info25 _) (by rw [labA_size]; rfl) (all_oneCell_toArray (labL_one _)) ?_))
            refine bodyPost_ret (results_row_tmp rfl _ _ (w.heap.size + 2) 25 (labA ⟨n1, T⟩) (0, 0) _ rfl (setRow_heap _ (w.heap.size + 2) _ _ 25 _ Q2.out) hu25 rfl (info25 _)) rfl ⟨by rw [HX2.out, HE2.out]; rfl, bel_setRow BR.out _ _ (by omega)⟩
set_option maxRecDepth 100000 in
set_option maxHeartbeats 8000000 in
theorem move51k (d : Dm) (x : Lab) (w : World) (h : DmA w d) (h1 : d.lv.length ≤ 300) (h2 : d.ct.length ≤ 300) :
    Calls Try.prog 51 #[.agg (dmA d), .agg (labA x), .func (.func 53) #[] #[]] w fun e w' => e = .returned (.tuple #[.agg (labA (mvX d x true)), .int .i64 (mvE d x true)]) ∧ Below w.heap.size w w' := by
  have hu23 := Try.underlying23
  have hu25 := Try.underlying25
  have hu45 := Try.underlying45
  have hu47 := Try.underlying47
  have hu51 := Try.underlying51
  have hu56 := Try.underlying56
  have hu60 := Try.underlying60
  have hX := mvX_def d x true
  have hE := mvE_def d x true
  have HR := Lib.hid (show Calls Try.prog 28 #[.slice (some ⟨w.heap.size + 3, 0, none⟩) 1 1] ((((w.alloc (.cells (dmA d) 47)).alloc (.cells (labA x) 25)).alloc (.cells z25 25)).alloc (.cells (dmA d) 47)) (fun e w' => e = .returned (.bool (rightD d)) ∧ Below ((((w.alloc (.cells (dmA d) 47)).alloc (.cells (labA x) 25)).alloc (.cells z25 25)).alloc (.cells (dmA d) 47)).heap.size ((((w.alloc (.cells (dmA d) 47)).alloc (.cells (labA x) 25)).alloc (.cells z25 25)).alloc (.cells (dmA d) 47)) w') from by
    have h := right28one d (((w.alloc (.cells (dmA d) 47)).alloc (.cells (labA x) 25)).alloc (.cells z25 25)) (h.below (bel_alloc (bel_alloc (bel_alloc (Below.refl _ _) _) _) _)) h1 h2
    rwa [show (((w.alloc (.cells (dmA d) 47)).alloc (.cells (labA x) 25)).alloc (.cells z25 25)).heap.size = w.heap.size + 3 by simp] at h)
  have HLR := Lib.hid (right44 x)
  have HT1 := Lib.hid (fun w' (hb : Below w.heap.size w w') => tell73k d.lv x.lv d.A1 d.c1 w' (h.1.below hb) h1)
  have HT2 := Lib.hid (fun w' (hb : Below w.heap.size w w') (k : Nat) => tell73k d.ct k d.A2 d.c2 w' (h.2.below hb) h2)
  have HLS := Lib.hid (list69 x.S)
  have hbs := bs25 x
  have Z0 := heap_alloc2_old w (.cells (dmA d) 47) (.cells (labA x) 25)
  have Z1 := heap_alloc2_new w (.cells (dmA d) 47) (.cells (labA x) 25)
  have ZB := bel_alloc (bel_alloc (Below.refl w.heap.size w) (.cells (dmA d) 47)) (.cells (labA x) 25)
  have HB := Lib.hid (bel_alloc ZB (.cells z25 25))
  have H0 := Lib.hid ((heap_alloc_old _ (.cells z25 25) (lt_of_block Z0)).trans Z0)
  have H1 := Lib.hid ((heap_alloc_old _ (.cells z25 25) (lt_of_block Z1)).trans Z1)
  have H2 := Lib.hid (show (((w.alloc (.cells (dmA d) 47)).alloc (.cells (labA x) 25)).alloc (.cells z25 25)).heap[w.heap.size + 2]? = some (.cells z25 25 (0, 0)) from by
    have := heap_alloc_new ((w.alloc (.cells (dmA d) 47)).alloc (.cells (labA x) 25)) (.cells z25 25)
    simpa using this)
  clear Z0 Z1 ZB
  have HX := Lib.hid hX
  have HE := Lib.hid hE
  clear hX hE h h1 h2
  generalize hxx : mvX d x true = X at HX ⊢
  generalize hee : mvE d x true = E at HE ⊢
  clear hxx hee
  generalize rightD d = rd at HR HX HE
  obtain ⟨num, A1, c1, lv, A2, c2, ct⟩ := d
  unfold dmA at HB H0 H1 H2 HR ⊢
  simp only at HB H0 H1 H2 HT1 HT2 HX HE HR ⊢
  generalize tellN lv x.lv true = n1 at HT1 HX
  generalize tellB lv x.lv true = b1 at HT1 HX HE
  unfold z25 at HB H0 H1 H2 HR
  cases rd with
  | false =>
    have HX2 := Lib.hid (show X = ⟨0, 0⟩ from HX.out)
    have HE2 := Lib.hid (show E = 1 from HE.out)
    clear HX HE
    go_enter Try.func51, Try.ntmps51
    go_wp2_with (first
      | (go_at_call 28; refine HR.out.mono ?_; rintro e w1 ⟨rfl, hb⟩; have K2 := Lib.hid (blk_below ((heap_alloc_old _ _ (lt_of_block H2.out)).trans H2.out) hb); have HB1 := Lib.hid (bel_trans (bel_alloc HB.out _) hb); clear hb)
      | (refine wpList_store_row rfl 25 (.tmp 6) (.tmp 25) rfl (w.heap.size + 2) z25 rfl rfl 25 z25 K2.out info25z' rfl (by kernel_rfl) ?_))
    refine bodyPost_ret (results_row_tmp rfl _ _ (w.heap.size + 2) 25 z25 (0, 0) _ rfl (setRow_heap _ (w.heap.size + 2) _ _ 25 _ K2.out) hu25 rfl info25z') rfl ⟨by rw [HX2.out, HE2.out, ← z25_lab]; rfl, bel_setRow HB1.out _ _ (by omega)⟩
  | true =>
    cases hrl : rightL x with
    | false =>
      rw [hrl] at HLR HX HE
      have HX2 := Lib.hid (show X = ⟨0, 0⟩ from HX.out)
      have HE2 := Lib.hid (show E = 1 from HE.out)
      clear HX HE hrl
      go_enter Try.func51, Try.ntmps51
      go_wp2_with (first
        | (go_at_call 28; refine HR.out.mono ?_; rintro e w1 ⟨rfl, hb⟩; have K0 := Lib.hid (blk_below ((heap_alloc_old _ _ (lt_of_block H0.out)).trans H0.out) hb); have K1 := Lib.hid (blk_below ((heap_alloc_old _ _ (lt_of_block H1.out)).trans H1.out) hb); have K2 := Lib.hid (blk_below ((heap_alloc_old _ _ (lt_of_block H2.out)).trans H2.out) hb); have HB1 := Lib.hid (bel_trans (bel_alloc HB.out _) hb); clear hb)
        | (refine load_row_g 25 (.tmp 4) rfl (w.heap.size + 1) rfl 25 (labA x) (0, 0) _ K1.out hu25 rfl (info25 _) rfl ?_)
        | (go_at_call 44; refine (HLR.out _ _ _ (range_lab (heap_alloc_new w1 (.cells (labA x) 25)))).mono ?_; rintro e w2 ⟨rfl, hb⟩; have M0 := Lib.hid (blk_below ((heap_alloc_old _ _ (lt_of_block K0.out)).trans K0.out) hb); have M1 := Lib.hid (blk_below ((heap_alloc_old _ _ (lt_of_block K1.out)).trans K1.out) hb); have M2 := Lib.hid (blk_below ((heap_alloc_old _ _ (lt_of_block K2.out)).trans K2.out) hb); have HB2 := Lib.hid (bel_trans (bel_alloc HB1.out _) hb); clear hb)
        | (refine wpList_store_row rfl 25 (.tmp 6) (.tmp 25) rfl (w.heap.size + 2) z25 rfl rfl 25 z25 M2.out info25z' rfl (by kernel_rfl) ?_))
      refine bodyPost_ret (results_row_tmp rfl _ _ (w.heap.size + 2) 25 z25 (0, 0) _ rfl (setRow_heap _ (w.heap.size + 2) _ _ 25 _ M2.out) hu25 rfl info25z') rfl ⟨by rw [HX2.out, HE2.out, ← z25_lab]; rfl, bel_setRow HB2.out _ _ (by omega)⟩
    | true =>
      rw [hrl] at HLR HX HE
      clear hrl
      have hx0 := labA_0 x
      cases b1 with
      | false =>
        have HX2 := Lib.hid (show X = ⟨0, 0⟩ from HX.out)
        have HE2 := Lib.hid (show E = 6 from HE.out)
        clear HX HE
        go_enter Try.func51, Try.ntmps51
        go_wp2_with (first
          | (go_at_call 28; refine HR.out.mono ?_; rintro e w1 ⟨rfl, hb⟩; have K0 := Lib.hid (blk_below ((heap_alloc_old _ _ (lt_of_block H0.out)).trans H0.out) hb); have K1 := Lib.hid (blk_below ((heap_alloc_old _ _ (lt_of_block H1.out)).trans H1.out) hb); have K2 := Lib.hid (blk_below ((heap_alloc_old _ _ (lt_of_block H2.out)).trans H2.out) hb); have HB1 := Lib.hid (bel_trans (bel_alloc HB.out _) hb); clear hb)
          | (refine load_row_g 25 (.tmp 4) rfl (w.heap.size + 1) rfl 25 (labA x) (0, 0) _ K1.out hu25 rfl (info25 _) rfl ?_)
          | (go_at_call 44; refine (HLR.out _ _ _ (range_lab (heap_alloc_new w1 (.cells (labA x) 25)))).mono ?_; rintro e w2 ⟨rfl, hb⟩; have M0 := Lib.hid (blk_below ((heap_alloc_old _ _ (lt_of_block K0.out)).trans K0.out) hb); have M1 := Lib.hid (blk_below ((heap_alloc_old _ _ (lt_of_block K1.out)).trans K1.out) hb); have M2 := Lib.hid (blk_below ((heap_alloc_old _ _ (lt_of_block K2.out)).trans K2.out) hb); have HB2 := Lib.hid (bel_trans (bel_alloc HB1.out _) hb); have q0 : w2.cell? ⟨w.heap.size + 1, 0, none⟩ = some (.int .i64 x.lv) := (cell_of_row _ _ _ _ _ _ M1.out).trans hx0; have q1 : w2.cell? ⟨w.heap.size, 1, none⟩ = some (.slice A1 lv.length c1) := cell_of_row _ _ _ _ _ _ M0.out; clear hb)
          | (go_at_call 73; refine (HT1.out _ HB2.out).mono ?_; rintro e w3 ⟨rfl, hb⟩; have N2 := Lib.hid (blk_below M2.out hb); have HB3 := Lib.hid (bel_trans HB2.out hb); clear hb)
          | (refine wpList_store_row rfl 25 (.tmp 6) (.tmp 37) rfl (w.heap.size + 2) z25 rfl rfl 25 z25 N2.out info25z' rfl (by kernel_rfl) ?_))
        refine bodyPost_ret (results_row_tmp rfl _ _ (w.heap.size + 2) 25 z25 (0, 0) _ rfl (setRow_heap _ (w.heap.size + 2) _ _ 25 _ N2.out) hu25 rfl info25z') rfl ⟨by rw [HX2.out, HE2.out, ← z25_lab]; rfl, bel_setRow HB3.out _ _ (by omega)⟩
      | true =>
        have hi23x := info23L x.S
        go_enter Try.func51, Try.ntmps51
        go_wp2_with (first
          | (go_at_call 28; refine HR.out.mono ?_; rintro e w1 ⟨rfl, hb⟩; have K0 := Lib.hid (blk_below ((heap_alloc_old _ _ (lt_of_block H0.out)).trans H0.out) hb); have K1 := Lib.hid (blk_below ((heap_alloc_old _ _ (lt_of_block H1.out)).trans H1.out) hb); have K2 := Lib.hid (blk_below ((heap_alloc_old _ _ (lt_of_block H2.out)).trans H2.out) hb); have HB1 := Lib.hid (bel_trans (bel_alloc HB.out _) hb); clear hb)
          | (refine load_row_g 25 (.tmp 4) rfl (w.heap.size + 1) rfl 25 (labA x) (0, 0) _ K1.out hu25 rfl (info25 _) rfl ?_)
          | (go_at_call 44; refine (HLR.out _ _ _ (range_lab (heap_alloc_new w1 (.cells (labA x) 25)))).mono ?_; rintro e w2 ⟨rfl, hb⟩; have M0 := Lib.hid (blk_below ((heap_alloc_old _ _ (lt_of_block K0.out)).trans K0.out) hb); have M1 := Lib.hid (blk_below ((heap_alloc_old _ _ (lt_of_block K1.out)).trans K1.out) hb); have M2 := Lib.hid (blk_below ((heap_alloc_old _ _ (lt_of_block K2.out)).trans K2.out) hb); have HB2 := Lib.hid (bel_trans (bel_alloc HB1.out _) hb); have q0 : w2.cell? ⟨w.heap.size + 1, 0, none⟩ = some (.int .i64 x.lv) := (cell_of_row _ _ _ _ _ _ M1.out).trans hx0; have q1 : w2.cell? ⟨w.heap.size, 1, none⟩ = some (.slice A1 lv.length c1) := cell_of_row _ _ _ _ _ _ M0.out; clear hb)
          | (go_at_call 73; refine (HT1.out _ HB2.out).mono ?_; rintro e w3 ⟨rfl, hb⟩; have N0 := Lib.hid (blk_below M0.out hb); have N2 := Lib.hid (blk_below M2.out hb); have N1 := Lib.hid (blk_below M1.out hb); have HB3 := Lib.hid (bel_trans HB2.out hb); have P1 := Lib.hid (range_of (x := x) ((heap_alloc_old w3 (.cells (labA ⟨n1, 0⟩) 25) (lt_of_block N1.out)).trans N1.out)); have NN := Lib.hid (heap_alloc_new w3 (.cells z25 25)); have NA := Lib.hid (World.setRow_alloc_new w3 z25 (labA ⟨n1, 0⟩) 25); unfold z25 at NN NA; clear hb)
          | (refine wpList_store_row rfl 25 (.tmp 10) (.tmp 39) rfl w3.heap.size (labA ⟨n1, 0⟩) rfl (congrArg Value.agg (lab0 n1)) 25 z25 NN.out (info25 _) (by rw [labA_size]; rfl) (all_oneCell_toArray (labL_one _)) ?_; rw [NA.out])
          | (refine wpList_load_mid rfl 23 (.tmp 40) rfl (w.heap.size + 1) 1 rfl (catL x.S) _ P1.out hu23 rfl hi23x ?_)
          | (go_at_call 69; refine (HLS.out _).mono ?_; rintro e w4 ⟨v, rfl, ho, hb⟩; obtain ⟨Aq, cq, rfl, hiq, hqb⟩ := ints_of_own2 ho; have HI := Lib.hid hiq; have HQB0 := Lib.hid hqb; have Q0 := Lib.hid (blk_below ((heap_alloc_old _ _ (lt_of_block N0.out)).trans N0.out) hb); have Q2 := Lib.hid (blk_below ((heap_alloc_old _ _ (lt_of_block N2.out)).trans N2.out) hb); have QL := Lib.hid (blk_below (heap_alloc_new w3 (.cells (labA ⟨n1, 0⟩) 25)) hb); have HB4 := Lib.hid (bel_trans (bel_alloc HB3.out _) hb); clear hb ho hiq hqb))
        have hN2 := lt_of_block N2.out
        have HL0 : w.heap.size ≠ w3.heap.size := by omega
        have HL2 : w.heap.size + 2 ≠ w3.heap.size := by omega
        have HLB : w.heap.size ≤ w3.heap.size := by omega
        have HQB := Lib.hid (fun b o (h : Aq = some ⟨b, o, none⟩) => (by have h2 := HQB0.out b o h; simp at h2; omega : b ≠ w3.heap.size))
        clear HQB0
        generalize w3.heap.size = L0 at QL HL0 HL2 HLB HQB hN2 ⊢
        have hLl := lsN_len x.S 240
        have HXf := Lib.hid (show X = if okL ct true (lsN x.S 240) then ⟨n1, foldL ct true (lsN x.S 240)⟩ else ⟨0, 0⟩ from HX.out)
        have HEf := Lib.hid (show E = if okL ct true (lsN x.S 240) then 0 else 6 from HE.out)
        clear HX HE HR HT1 HLS HLR HB H0 H1 H2 K0 K1 K2 HB1 M0 M1 M2 HB2 N0 N1 N2 HB3 P1 NN NA q0 q1
        have hL2 : w.heap.size + 2 < w4.heap.size := lt_of_block Q2.out
        generalize lsN x.S 240 = L at HI hLl HXf HEf ⊢
        go_loopg [44] 241 (fun gg s44 wr => ∃ i : Nat, i ≤ L.length ∧ 241 - i ≤ gg ∧ s44 = .int .i64 i ∧ Hid (∀ (j : Nat) (k : Nat), j < i → L[j]? = some k → tellB ct k true = true) ∧ Hid (wr.heap[w.heap.size]? = some (.cells #[.int .u32 num, .slice A1 lv.length c1, .slice A2 ct.length c2] 47 (0, 0))) ∧ Hid (wr.heap[w.heap.size + 2]? = some (.cells z25 25 (0, 0))) ∧ Hid (wr.heap[L0]? = some (.cells (labA ⟨n1, foldL ct true (L.take i)⟩) 25 (0, 0))) ∧ Hid (Below w.heap.size w wr) ∧ Hid (IntsA wr Aq L))
        case atStart => exact ⟨0, Nat.zero_le _, Nat.sub_le _ _, rfl, fun j k hj => absurd hj (Nat.not_lt_zero _), Q0.out, Q2.out, QL.out, HB4.out, HI.out⟩
        case round =>
          clear Q0 Q2 QL HB4 HI hL2
          obtain ⟨i, hi, hgg, rfl, HNO, Q0, Q2, QL, BR, HI⟩ := hrel
          by_cases hlt : i < L.length
          · have d1 : decide ((i : Int) < (L.length : Int)) = true := decide_eq_true (by omega)
            have d2 : (0 : Int) ≤ (i : Int) := by omega
            have d3 : (i : Int) < (L.length : Int) := by omega
            have q1 : IntKind.i64.wrap ((i : Int) + 1) = (i : Int) + 1 := IntWalk.i64_in _ (by omega)
            obtain ⟨bq, oq, rfl, hbq, hcq⟩ := HI.out (by omega)
            have hy : L[i]? = some L[i] := List.getElem?_eq_getElem hlt
            have cq0 := hcq i _ hy
            have HY := Lib.hid hy
            have HTK := Lib.hid (show L.take (i + 1) = L.take i ++ [L[i]] from List.take_succ_eq_append_getElem hlt)
            generalize L[i] = k at cq0 HY HTK
            have cD : wr.cell? ⟨w.heap.size, 2, none⟩ = some (.slice A2 ct.length c2) := cell_of_row _ _ _ _ _ _ Q0.out
            have HT := Lib.hid (HT2.out wr BR.out k)
            have HIq := Lib.hid (show IntsA wr (some ⟨bq, oq, none⟩) L from HI.out)
            clear hcq hy HI
            cases hb1 : tellB ct k true with
            | false =>
              have HOK := Lib.hid (show okL ct true L = false by
                cases ho : okL ct true L with
                | false => rfl
                | true =>
                  have h1 := List.all_eq_true.1 ho k (List.mem_of_getElem? HY.out)
                  rw [hb1] at h1; cases h1)
              rw [hb1] at HT
              have HX2 := Lib.hid (show X = ⟨0, 0⟩ by rw [HXf.out, HOK.out]; rfl)
              have HE2 := Lib.hid (show E = 6 by rw [HEf.out, HOK.out]; rfl)
              clear hb1
              go_wp2_with (first
                | (go_at_call 73; refine HT.out.mono ?_; rintro e w5 ⟨rfl, hb⟩; have U2 := Lib.hid (blk_below Q2.out hb); have HB5 := Lib.hid (bel_trans BR.out hb); clear hb)
                | (refine wpList_store_row rfl 25 (.tmp 6) (.tmp 58) rfl (w.heap.size + 2) z25 rfl rfl 25 z25 U2.out info25z' rfl (by kernel_rfl) ?_))
              refine bodyPost_ret (results_row_tmp rfl _ _ (w.heap.size + 2) 25 z25 (0, 0) _ rfl (setRow_heap _ (w.heap.size + 2) _ _ 25 _ U2.out) hu25 rfl info25z') rfl ⟨by rw [HX2.out, HE2.out, ← z25_lab]; rfl, bel_setRow HB5.out _ _ (by omega)⟩
            | true =>
              rw [hb1] at HT
              have HB1k := Lib.hid hb1
              clear hb1
              have HFS := Lib.hid (show foldL ct true (L.take (i + 1)) = withS (foldL ct true (L.take i)) (tellN ct k true) by rw [HTK.out, foldL_snoc])
              generalize foldL ct true (L.take i) = T at QL HFS
              generalize tellN ct k true = nk at HT HFS
              have HP := Lib.hid (fun g c w h => with50 T nk g c w h)
              generalize withS T nk = T' at HP HFS
              have hi23 := info23L T
              go_wp2_with (first
                | (go_at_call 73; refine HT.out.mono ?_; rintro e w5 ⟨rfl, hb⟩; have U0 := Lib.hid (blk_below Q0.out hb); have U2 := Lib.hid (blk_below Q2.out hb); have UL := Lib.hid (blk_below QL.out hb); have UI := Lib.hid (HIq.out.below hb); have HB5 := Lib.hid (bel_trans BR.out hb); have RL := Lib.hid (range_of (x := ⟨n1, T⟩) UL.out); clear hb)
                | (refine wpList_load_mid rfl 23 (.tmp 59) rfl L0 1 rfl (catL T) _ RL.out hu23 rfl hi23 ?_)
                | (go_at_call 50; refine (HP.out _ _ _ (cell_of_row _ _ 0 _ _ _ (heap_alloc_new _ _))).mono ?_; rintro e w6 ⟨rfl, hb⟩; have V0 := Lib.hid (blk_below ((heap_alloc_old _ _ (lt_of_block U0.out)).trans U0.out) hb); have V2 := Lib.hid (blk_below ((heap_alloc_old _ _ (lt_of_block U2.out)).trans U2.out) hb); have VL := Lib.hid (blk_below ((heap_alloc_old _ _ (lt_of_block UL.out)).trans UL.out) hb); have VI := Lib.hid ((UI.out.below (bel_alloc (Below.refl _ _) _)).below hb); have HB6 := Lib.hid (bel_trans (bel_alloc HB5.out _) hb); clear hb)
                | (refine wpList_store_mid rfl 23 (.tmp 64) (.tmp 63) rfl L0 1 (catA T') rfl rfl (there_cat _ VL.out) (info23 _) (all_oneCell_toArray (catL_one _)) ?_
                   rw [show (catA T').toList = catL T' by simp [catA]]
                   have Y0 := Lib.hid ((setCells_other L0 w.heap.size HL0 (catL T') 1 w6).trans V0.out)
                   have Y2 := Lib.hid ((setCells_other L0 (w.heap.size + 2) HL2 (catL T') 1 w6).trans V2.out)
                   have YL := Lib.hid (setCat (x := ⟨n1, T⟩) T' VL.out)
                   have YB := Lib.hid (setCells_below L0 HLB (catL T') 1 w6 HB6.out)
                   have YI := Lib.hid (ints_setCells L0 (catL T') w6 VI.out HQB.out)
                   generalize w6.setCells L0 1 (catL T') = w7 at Y0 Y2 YL YB YI ⊢))
              go_roundg (241 - (i + 1))
              case measure => omega
              case rel => exact ⟨i + 1, hlt, Nat.le_refl _, rfl, Lib.hid (fun j m hj hm => by
                rcases Nat.lt_or_ge j i with h | h
                · exact HNO.out j m h hm
                · rw [show j = i by omega, HY.out] at hm; rw [← Option.some.inj hm]; exact HB1k.out), Y0, Y2, Lib.hid (by rw [HFS.out]; exact YL.out), YB, YI⟩
          · have d1 : decide ((i : Int) < (L.length : Int)) = false := decide_eq_false (by omega)
            have HOK := Lib.hid (show okL ct true L = true from List.all_eq_true.2 fun k hk => by
              obtain ⟨j, hj⟩ := List.getElem?_of_mem hk
              exact HNO.out j k (by have := (List.getElem?_eq_some_iff.1 hj).1; omega) hj)
            have hi2 : i = L.length := by omega
            have HX2 := Lib.hid (show X = ⟨n1, foldL ct true (L.take i)⟩ by rw [HXf.out, HOK.out, hi2, List.take_length]; rfl)
            have HE2 := Lib.hid (show E = 0 by rw [HEf.out, HOK.out]; rfl)
            generalize foldL ct true (L.take i) = T at QL HX2
            clear hi2
            go_wp2_with (first
              | (refine wpList_load_row rfl 25 (.tmp 10) rfl L0 rfl 25 (labA ⟨n1, T⟩) (0, 0) _ QL.out hu25 rfl (info25 _) ?_)
              | (refine wpList_store_row rfl 25 (.tmp 6) (.tmp 66) rfl (w.heap.size + 2) (labA ⟨n1, T⟩) rfl rfl 25 z25 Q2.out (info25 _) (by rw [labA_size]; rfl) (all_oneCell_toArray (labL_one _)) ?_))
            refine bodyPost_ret (results_row_tmp rfl _ _ (w.heap.size + 2) 25 (labA ⟨n1, T⟩) (0, 0) _ rfl (setRow_heap _ (w.heap.size + 2) _ _ 25 _ Q2.out) hu25 rfl (info25 _)) rfl ⟨by rw [HX2.out, HE2.out]; rfl, bel_setRow BR.out _ _ (by omega)⟩
end Go.Proofs.Ytifmckhabkghcaa.P
