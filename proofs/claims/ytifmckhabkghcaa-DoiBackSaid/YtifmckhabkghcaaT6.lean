/- Contracts of the table's small functions: Len, At, Find, All; of label.In. -/
import Derived.Test.YtifmckhabkghcaaT5
import Derived.WalkSpells
namespace Go.Proofs.Ytifmckhabkghcaa.P
open Go.RowKit
set_option linter.unusedSimpArgs false
attribute [local go_sem ↓] ldi25

theorem len43_nil (w : World) : Calls Try.prog 43 #[.pointer none] w fun e w' => e = .returned (.int .i64 0) ∧ w = w' := by
  go_enter Try.func43, Try.ntmps43
  go_wp2_with fail
  go_ret
  exact ⟨rfl, rfl⟩
theorem len43 (B g : Nat) (l : List Lab) (w : World) (h : Tab w B g l) : Calls Try.prog 43 #[.pointer (some ⟨g, 0, none⟩)] w fun e w' => e = .returned (.int .i64 l.length) ∧ w = w' := by
  have hu56 := Try.underlying56
  obtain ⟨v, m, hB, hg, ho, hm⟩ := h.out
  obtain ⟨A, c, rfl, _⟩ := labs_of_own ho
  have c0 : w.cell? ⟨g, 0, none⟩ = some (.slice A l.length c) := cell_of_row _ _ _ _ _ _ hg
  clear hg ho hm h
  go_enter Try.func43, Try.ntmps43
  go_wp2_with fail
  go_ret
  exact ⟨rfl, rfl⟩
set_option maxRecDepth 100000 in
set_option maxHeartbeats 1000000 in
theorem at39_nil (n : Int) (w : World) : Calls Try.prog 39 #[.pointer none, .int .i64 n] w fun e w' => e = .returned (.tuple #[.agg (labA ⟨0, 0⟩), .bool false]) ∧ Below w.heap.size w w' := by
  have hu25 := Try.underlying25
  have HL := Lib.hid len43_nil
  have H1 := Lib.hid (heap_alloc_new w (.cells z25 25))
  have HB := Lib.hid (bel_alloc (Below.refl w.heap.size w) (.cells z25 25))
  unfold z25 at H1 HB
  rw [← z25_lab]
  by_cases h0 : n < 0
  · have d0 : decide (n < 0) = true := decide_eq_true h0
    go_enter Try.func39, Try.ntmps39
    go_wp2_with (first
      | (refine wpList_store_row rfl 25 (.tmp 4) (.tmp 14) rfl w.heap.size z25 rfl rfl 25 z25 H1.out info25z' rfl (by kernel_rfl) ?_))
    refine bodyPost_ret (results_row_tmp rfl _ _ w.heap.size 25 z25 (0, 0) _ rfl (setRow_heap _ w.heap.size _ _ 25 _ H1.out) hu25 rfl info25z') rfl ⟨rfl, bel_setRow HB.out _ _ (by omega)⟩
  · have d0 : decide (n < 0) = false := decide_eq_false h0
    have d1 : decide (0 ≤ n) = true := decide_eq_true (by omega)
    go_enter Try.func39, Try.ntmps39
    go_wp2_with (first
      | (go_at_call 43; refine (HL.out _).mono ?_; rintro e w1 ⟨rfl, rfl⟩)
      | (refine wpList_store_row rfl 25 (.tmp 4) (.tmp 14) rfl w.heap.size z25 rfl rfl 25 z25 H1.out info25z' rfl (by kernel_rfl) ?_))
    refine bodyPost_ret (results_row_tmp rfl _ _ w.heap.size 25 z25 (0, 0) _ rfl (setRow_heap _ w.heap.size _ _ 25 _ H1.out) hu25 rfl info25z') rfl ⟨rfl, bel_setRow HB.out _ _ (by omega)⟩
/-- What At tells. -/
def atL (l : List Lab) (n : Int) : Lab := if 0 ≤ n ∧ n < l.length then labD l n.toNat else ⟨0, 0⟩
def atB (l : List Lab) (n : Int) : Bool := decide (0 ≤ n) && decide (n < l.length)
set_option maxRecDepth 100000 in
set_option maxHeartbeats 1000000 in
theorem at39 (B g : Nat) (l : List Lab) (n : Int) (w : World) (h : Tab w B g l) (hlen : l.length ≤ 40) : Calls Try.prog 39 #[.pointer (some ⟨g, 0, none⟩), .int .i64 n] w fun e w' => e = .returned (.tuple #[.agg (labA (atL l n)), .bool (atB l n)]) ∧ Below w.heap.size w w' := by
  have hu25 := Try.underlying25
  have hu56 := Try.underlying56
  have H1 := Lib.hid (heap_alloc_new w (.cells z25 25))
  have HB := Lib.hid (bel_alloc (Below.refl w.heap.size w) (.cells z25 25))
  have HL := Lib.hid (len43 B g l _ (h.below HB.out))
  have hTB := Lib.hid (h.below HB.out)
  unfold z25 at H1 HB HL hTB
  clear h
  by_cases hin : 0 ≤ n ∧ n < l.length
  · obtain ⟨h0, h1⟩ := hin
    have d0 : decide (n < 0) = false := decide_eq_false (by omega)
    have d1 : decide ((l.length : Int) ≤ n) = false := decide_eq_false (by omega)
    obtain ⟨i, rfl⟩ : ∃ i : Nat, n = i := ⟨n.toNat, by omega⟩
    have hi : i < l.length := by omega
    have HA := Lib.hid (show atL l i = l[i] by unfold atL; rw [if_pos ⟨h0, h1⟩, Int.toNat_natCast, labD_get hi])
    have HT := Lib.hid (show atB l i = true by simp [atB, hi])
    obtain ⟨v, m, hB, hg, ho, hm⟩ := hTB.out.out
    obtain ⟨A, c, rfl, hsl⟩ := labs_of_own ho
    obtain ⟨b, o, rfl, hb, hc⟩ := hsl (by omega)
    have c0 : World.cell? _ ⟨g, 0, none⟩ = some (.slice (some ⟨b, o, none⟩) l.length c) := cell_of_row _ _ _ _ _ _ hg
    have RY := Lib.hid (hc i _ (List.getElem?_eq_getElem hi))
    generalize l[i] = y at RY HA
    have hi25 : (Try.prog.info? 25).map (·.size) = some (labL y).length := by rw [labL_len]; kernel_rfl
    clear hg ho hm hc hTB
    go_enter Try.func39, Try.ntmps39
    go_wp2_with (first
      | (go_at_call 43; refine HL.out.mono ?_; rintro e w1 ⟨rfl, rfl⟩)
      | (refine wpList_load_mid rfl 25 (.tmp 20) rfl b (o + i * 31) rfl (labL y) _ RY.out hu25 rfl hi25 ?_)
      | (refine wpList_store_row rfl 25 (.tmp 4) (.tmp 21) rfl w.heap.size (labA y) rfl rfl 25 z25 H1.out (info25 _) (by rw [labA_size]; rfl) (all_oneCell_toArray (labL_one _)) ?_))
    refine bodyPost_ret (results_row_tmp rfl _ _ w.heap.size 25 (labA y) (0, 0) _ rfl (setRow_heap _ w.heap.size _ _ 25 _ H1.out) hu25 rfl (info25 _)) rfl ⟨by rw [HA.out, HT.out]; rfl, bel_setRow HB.out _ _ (by omega)⟩
  · have HA := Lib.hid (show atL l n = ⟨0, 0⟩ by unfold atL; rw [if_neg hin])
    have HT := Lib.hid (show atB l n = false by simp [atB]; omega)
    by_cases h0 : n < 0
    · have d0 : decide (n < 0) = true := decide_eq_true h0
      go_enter Try.func39, Try.ntmps39
      go_wp2_with (first
        | (refine wpList_store_row rfl 25 (.tmp 4) (.tmp 14) rfl w.heap.size z25 rfl rfl 25 z25 H1.out info25z' rfl (by kernel_rfl) ?_))
      refine bodyPost_ret (results_row_tmp rfl _ _ w.heap.size 25 z25 (0, 0) _ rfl (setRow_heap _ w.heap.size _ _ 25 _ H1.out) hu25 rfl info25z') rfl ⟨by rw [HA.out, HT.out, z25_lab]; rfl, bel_setRow HB.out _ _ (by omega)⟩
    · have d0 : decide (n < 0) = false := decide_eq_false h0
      have d1 : decide ((l.length : Int) ≤ n) = true := decide_eq_true (by omega)
      clear hin
      go_enter Try.func39, Try.ntmps39
      go_wp2_with (first
        | (go_at_call 43; refine HL.out.mono ?_; rintro e w1 ⟨rfl, rfl⟩)
        | (refine wpList_store_row rfl 25 (.tmp 4) (.tmp 14) rfl w.heap.size z25 rfl rfl 25 z25 H1.out info25z' rfl (by kernel_rfl) ?_))
      refine bodyPost_ret (results_row_tmp rfl _ _ w.heap.size 25 z25 (0, 0) _ rfl (setRow_heap _ w.heap.size _ _ 25 _ H1.out) hu25 rfl info25z') rfl ⟨by rw [HA.out, HT.out, z25_lab]; rfl, bel_setRow HB.out _ _ (by omega)⟩
theorem find40_nil (x : Lab) (w : World) : Calls Try.prog 40 #[.pointer none, .agg (labA x)] w fun e w' => e = .returned (.tuple #[.int .i64 0, .bool false]) ∧ Below w.heap.size w w' := by
  have HB := Lib.hid (bel_alloc (Below.refl w.heap.size w) (.cells (labA x) 25))
  go_enter Try.func40, Try.ntmps40
  go_wp2_with fail
  go_ret2
  exact ⟨rfl, HB.out⟩
set_option maxRecDepth 100000 in
set_option maxHeartbeats 1000000 in
theorem find40 (B g : Nat) (l : List Lab) (x : Lab) (w : World) (h : Tab w B g l) (hl : ∀ y ∈ l, LabOK y) (hx : LabOK x) (hd : ∀ j, j < l.length → labD l j ∉ l.take j) :
    Calls Try.prog 40 #[.pointer (some ⟨g, 0, none⟩), .agg (labA x)] w fun e w' => e = .returned (.tuple #[.int .i64 (fndN l x l.length), .bool (fndB l x l.length)]) ∧ Below w.heap.size w w' := by
  have hu25 := Try.underlying25
  have hu96 := Try.underlying96
  have HB := Lib.hid (bel_alloc (Below.refl w.heap.size w) (.cells (labA x) 25))
  obtain ⟨v, m, hB, hg, ho, hm⟩ := (h.below HB.out).out
  have c1 : (w.alloc (.cells (labA x) 25)).cell? ⟨g, 1, none⟩ = some (.map (some m)) := cell_of_row _ _ _ _ _ _ hg
  have h1 := ld25 (show (w.alloc (.cells (labA x) 25)).rangeAt w.heap.size 0 (labL x) from range_lab (heap_alloc_new _ _))
  have hlk := fun n => look96 hl hx (Nat.le_refl _) hd (show ((w.alloc (.cells (labA x) 25)).drewN n).ownsMap Try.prog 25 (plainElem (H := Unit) Try.prog 3) m l.length (numP l l.length) from hm)
  generalize fndN l x l.length = fN at hlk ⊢
  generalize fndB l x l.length = fB at hlk ⊢
  clear hg ho hm h hd hl
  go_enter Try.func40, Try.ntmps40
  go_wp2_with fail
  go_quiet (fail)
  go_wp2_with fail
  go_ret2
  exact ⟨rfl, bel_drewN HB.out _⟩
theorem all42_nil (w : World) : Calls Try.prog 42 #[.pointer none] w fun e w' => e = .returned (.slice none 0 0) ∧ w = w' := by
  go_enter Try.func42, Try.ntmps42
  go_wp2_with fail
  go_ret
  exact ⟨rfl, rfl⟩
set_option maxRecDepth 100000 in
set_option maxHeartbeats 1000000 in
theorem clone67 (B : Nat) (v : Value) (l : List Lab) (w : World) (hown : w.ownsRow B 25 31 v l.length (labsL l)) (hn : l.length ≤ 1000) :
    Calls Try.prog 67 #[v] w fun e w' => ∃ v', e = .returned v' ∧ w'.ownsRow w.heap.size 25 31 v' l.length (labsL l) ∧ Below w.heap.size w w' := by
  have hu56 := Try.underlying56
  obtain ⟨i0, hi0, hz0, hz1, hz2⟩ := info_parts info25b
  have q56 : ∀ (w : World) (a : Option Addr) (n c n' c' : Nat), (binOp .eql 56 (.slice a n c) (.slice none n' c')).run Try.prog w = .ok (.bool a.isNone) w := fun w a n c n' c' => Lib.run_eql_slice_nil w _ _ a n c n' c' hu56
  rcases hown.2 with ⟨rfl, h0⟩ | ⟨g, cap, cur, rfl, _, _, hnc, hcm, _, _⟩
  · have hl : l = [] := List.length_eq_zero_iff.1 h0
    subst hl
    clear hown
    go_enter Try.func67, Try.ntmps67
    go_wp2
    go_ret
    exact ⟨_, rfl, World.ownsRow_nil _ _ _ _, Below.refl _ _⟩
  · have hlen := hown.1
    have A := Lib.hid (show ∀ j u, (labsL l)[j]? = some u → w.cell? ⟨g, j, none⟩ = some u from fun j u hu => by
      have := hown.cells (g := g) rfl j u hu
      rwa [show (⟨g, 0, none⟩ : Addr).add j = ⟨g, j, none⟩ from by rw [Addr.add_lit, Nat.zero_add]] at this)
    have LN := Lib.hid hlen
    have L1 := Lib.hid (labsL_one l)
    generalize hN : labsL l = news at A LN L1 ⊢
    generalize hn' : l.length = n at *
    clear hown hN hlen hn'
    have HI0 := Lib.hid hi0
    have HI1 := Lib.hid hz0
    have HI2 := Lib.hid hz1
    have HI3 := Lib.hid hz2
    clear hi0 hz0 hz1 hz2
    go_enter Try.func67, Try.ntmps67
    go_wp2_with (at_builtin; refine wpList_append_own _ rfl (.tmp 5) (.tmp 6) 56 rfl w.heap.size 25 i0 (.agg z25) 31 40 hu56 HI0.out HI1.out HI2.out HI3.out rfl (by decide) _ _ _ rfl (World.ownsRow_made w #[] 0 (Nat.le_refl _) (Nat.zero_le _) (by simp)) ⟨g, 0, none⟩ n cap news rfl ?qc1 ?qc2 ?qc3 ?qc4 ?qc5 ?qc6 ?_)
    case qc1 => exact LN.out
    case qc2 =>
      intro j u hj
      rw [Addr.add_lit, Nat.zero_add]
      exact Lib.cell?_alloc_some _ (A.out j u hj)
    case qc3 => exact L1.out
    case qc4 => unfold maxLen; omega
    case qc5 => omega
    case qc6 => simp
    intro v' w1 hown hgrow hnil
    go_wp2
    go_ret
    refine ⟨v', rfl, by simpa using hown, ?_⟩
    exact ((Below.refl _ w).alloc (Nat.le_refl _) _).grown hgrow (by simp) (by intro k hk; simp [Value.ownBlock] at hk; omega)
theorem all42 (B g : Nat) (l : List Lab) (w : World) (h : Tab w B g l) (hn : l.length ≤ 1000) : Calls Try.prog 42 #[.pointer (some ⟨g, 0, none⟩)] w fun e w' => ∃ v', e = .returned v' ∧ w'.ownsRow w.heap.size 25 31 v' l.length (labsL l) ∧ Below w.heap.size w w' := by
  have hu56 := Try.underlying56
  obtain ⟨v, m, hB, hg, ho, hm⟩ := h.out
  have HC := Lib.hid (clone67 B v l w ho hn)
  have c0 : w.cell? ⟨g, 0, none⟩ = some v := cell_of_row _ _ _ _ _ _ hg
  clear hg ho hm h
  go_enter Try.func42, Try.ntmps42
  go_wp2_with (go_at_call 67; refine HC.out.mono ?_; rintro e w1 ⟨v', rfl, ho, hb⟩)
  go_ret
  exact ⟨_, rfl, ho, hb⟩
set_option maxRecDepth 100000 in
set_option maxHeartbeats 1000000 in
theorem in64 (x lo hi : Lab) (hx : x.S < 2 ^ 240) (hlo : lo.S < 2 ^ 240) (w : World) : Calls Try.prog 64 #[.agg (labA x), .agg (labA lo), .agg (labA hi)] w fun e w' => e = .returned (.bool (domB x lo && domB hi x)) ∧ Below w.heap.size w w' := by
  have hu25 := Try.underlying25
  have H0 := heap_alloc2_old w (.cells (labA x) 25) (.cells (labA lo) 25)
  have H1 := heap_alloc2_new w (.cells (labA x) 25) (.cells (labA lo) 25)
  have HB := Lib.hid (bel_alloc (bel_alloc (bel_alloc (Below.refl w.heap.size w) (.cells (labA x) 25)) (.cells (labA lo) 25)) (.cells (labA hi) 25))
  have K0 := Lib.hid ((heap_alloc_old ((w.alloc (.cells (labA x) 25)).alloc (.cells (labA lo) 25)) (.cells (labA hi) 25) (lt_of_block H0)).trans H0)
  have K1 := Lib.hid ((heap_alloc_old ((w.alloc (.cells (labA x) 25)).alloc (.cells (labA lo) 25)) (.cells (labA hi) 25) (lt_of_block H1)).trans H1)
  have K2 := Lib.hid (show (((w.alloc (.cells (labA x) 25)).alloc (.cells (labA lo) 25)).alloc (.cells (labA hi) 25)).heap[w.heap.size + 2]? = some (.cells (labA hi) 25 (0, 0)) from by
    have := heap_alloc_new ((w.alloc (.cells (labA x) 25)).alloc (.cells (labA lo) 25)) (.cells (labA hi) 25)
    simpa using this)
  have HD1 := Lib.hid (dom66 x lo hlo)
  have HD2 := Lib.hid (dom66 hi x hx)
  clear H0 H1
  cases e1 : domB x lo with
  | false =>
    rw [e1] at HD1
    clear e1
    go_enter Try.func64, Try.ntmps64
    go_wp2_with (first
      | (refine wpList_load_row rfl 25 (.tmp 3) rfl w.heap.size rfl 25 (labA x) (0, 0) _ K0.out hu25 rfl (info25 _) ?_)
      | (refine wpList_load_row rfl 25 (.tmp 4) rfl (w.heap.size + 1) rfl 25 (labA lo) (0, 0) _ K1.out hu25 rfl (info25 _) ?_)
      | (go_at_call 66; (with_reducible refine (HD1.out _).mono ?_); rintro e w4 ⟨rfl, hb'⟩; have HB' := Lib.hid (below_then HB.out HB.out.size hb'); clear hb'))
    go_ret
    exact ⟨by simp, HB'.out⟩
  | true =>
    rw [e1] at HD1
    clear e1
    cases e2 : domB hi x with
    | false =>
      rw [e2] at HD2
      clear e2
      go_enter Try.func64, Try.ntmps64
      go_wp2_with (first
        | (refine wpList_load_row rfl 25 (.tmp 3) rfl w.heap.size rfl 25 (labA x) (0, 0) _ K0.out hu25 rfl (info25 _) ?_)
        | (refine wpList_load_row rfl 25 (.tmp 4) rfl (w.heap.size + 1) rfl 25 (labA lo) (0, 0) _ K1.out hu25 rfl (info25 _) ?_)
        | (go_at_call 66; (with_reducible refine (HD1.out _).mono ?_); rintro e w4 ⟨rfl, hb'⟩; have HB' := Lib.hid (below_then HB.out HB.out.size hb'); have M0 := Lib.hid (blk_below K0.out hb'); have M2 := Lib.hid (blk_below K2.out hb'); clear hb')
        | (refine load_row_g 25 (.tmp 5) rfl (w.heap.size + 2) rfl 25 (labA hi) (0, 0) _ M2.out hu25 rfl (info25 _) rfl ?_)
        | (refine load_row_g 25 (.tmp 3) rfl w.heap.size rfl 25 (labA x) (0, 0) _ M0.out hu25 rfl (info25 _) rfl ?_)
        | (go_at_call 66; (with_reducible refine (HD2.out _).mono ?_); rintro e w5 ⟨rfl, hb'⟩; have HB5 := Lib.hid (below_then HB'.out HB'.out.size hb'); clear hb'))
      go_ret
      exact ⟨by simp, HB5.out⟩
    | true =>
      rw [e2] at HD2
      clear e2
      go_enter Try.func64, Try.ntmps64
      go_wp2_with (first
        | (refine wpList_load_row rfl 25 (.tmp 3) rfl w.heap.size rfl 25 (labA x) (0, 0) _ K0.out hu25 rfl (info25 _) ?_)
        | (refine wpList_load_row rfl 25 (.tmp 4) rfl (w.heap.size + 1) rfl 25 (labA lo) (0, 0) _ K1.out hu25 rfl (info25 _) ?_)
        | (go_at_call 66; (with_reducible refine (HD1.out _).mono ?_); rintro e w4 ⟨rfl, hb'⟩; have HB' := Lib.hid (below_then HB.out HB.out.size hb'); have M0 := Lib.hid (blk_below K0.out hb'); have M2 := Lib.hid (blk_below K2.out hb'); clear hb')
        | (refine load_row_g 25 (.tmp 5) rfl (w.heap.size + 2) rfl 25 (labA hi) (0, 0) _ M2.out hu25 rfl (info25 _) rfl ?_)
        | (refine load_row_g 25 (.tmp 3) rfl w.heap.size rfl 25 (labA x) (0, 0) _ M0.out hu25 rfl (info25 _) rfl ?_)
        | (go_at_call 66; (with_reducible refine (HD2.out _).mono ?_); rintro e w5 ⟨rfl, hb'⟩; have HB5 := Lib.hid (below_then HB'.out HB'.out.size hb'); clear hb'))
      go_ret
      exact ⟨by simp, HB5.out⟩
end Go.Proofs.Ytifmckhabkghcaa.P
