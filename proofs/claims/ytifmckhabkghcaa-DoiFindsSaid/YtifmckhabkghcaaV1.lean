/- Pairs and domains in memory (layer 12); contracts of the reference's Great and pairs, of doi.out and back. -/
import Derived.Test.YtifmckhabkghcaaT5
namespace Go.Proofs.Ytifmckhabkghcaa.P
open Go.RowKit
set_option linter.unusedSimpArgs false

/-- Pairs in memory. -/
def PrsA (w : World) (A : Option Addr) (ps : List (Int × Int)) : Prop := 0 < ps.length → ∃ b o, A = some ⟨b, o, none⟩ ∧ b < w.heap.size ∧ ∀ (j : Nat) p, ps[j]? = some p → w.cell? ⟨b, o + j * 2, none⟩ = some (.int .i64 p.1) ∧ w.cell? ⟨b, o + j * 2 + 1, none⟩ = some (.int .i64 p.2)
theorem PrsA.below {w w1 : World} {A : Option Addr} {ps : List (Int × Int)} (h : PrsA w A ps) (hb : Below w.heap.size w w1) : PrsA w1 A ps := fun hl => by
  obtain ⟨b, o, rfl, hlt, hc⟩ := h hl
  exact ⟨b, o, rfl, Nat.lt_of_lt_of_le hlt hb.size, fun j p hp => ⟨(hb.cell (p := ⟨b, o + j * 2, none⟩) hlt).trans (hc j p hp).1, (hb.cell (p := ⟨b, o + j * 2 + 1, none⟩) hlt).trans (hc j p hp).2⟩⟩
/-- A domain: its number, and where its pairs are. -/
structure Dm where
  num : Int
  A1 : Option Addr
  c1 : Nat
  lv : List (Int × Int)
  A2 : Option Addr
  c2 : Nat
  ct : List (Int × Int)
def dmL (d : Dm) : List Value := [.int .u32 d.num, .slice d.A1 d.lv.length d.c1, .slice d.A2 d.ct.length d.c2]
def dmA (d : Dm) : Array Value := #[.int .u32 d.num, .slice d.A1 d.lv.length d.c1, .slice d.A2 d.ct.length d.c2]
def DmA (w : World) (d : Dm) : Prop := PrsA w d.A1 d.lv ∧ PrsA w d.A2 d.ct
theorem DmA.below {w w1 : World} {d : Dm} (h : DmA w d) (hb : Below w.heap.size w w1) : DmA w1 d := ⟨h.1.below hb, h.2.below hb⟩
def greatB (d : Dm) : Bool := decide (300 < d.lv.length) || decide (300 < d.ct.length)
theorem great22 (d : Dm) (w : World) : Calls Try.prog 22 #[.agg (dmA d)] w fun e w' => e = .returned (.bool (greatB d)) ∧ Below w.heap.size w w' := by
  have hu47 := Try.underlying47
  have HB := Lib.hid (bel_alloc (Below.refl w.heap.size w) (.cells (dmA d) 47))
  obtain ⟨num, A1, c1, lv, A2, c2, ct⟩ := d
  unfold dmA at HB ⊢
  unfold greatB
  simp only at HB ⊢
  by_cases h1 : 300 < lv.length
  · have d1 : decide (300 < (lv.length : Int)) = true := decide_eq_true (by omega)
    have HE := Lib.hid (show (decide (300 < lv.length) || decide (300 < ct.length)) = true by simp [h1])
    go_enter Try.func22, Try.ntmps22
    go_wp2_with fail
    go_ret
    exact ⟨by rw [HE.out]; rfl, HB.out⟩
  · have d1 : decide (300 < (lv.length : Int)) = false := decide_eq_false (by omega)
    by_cases h2 : 300 < ct.length
    · have d2 : decide (300 < (ct.length : Int)) = true := decide_eq_true (by omega)
      have HE := Lib.hid (show (decide (300 < lv.length) || decide (300 < ct.length)) = true by simp [h2])
      go_enter Try.func22, Try.ntmps22
      go_wp2_with fail
      go_ret
      exact ⟨by rw [HE.out]; rfl, HB.out⟩
    · have d2 : decide (300 < (ct.length : Int)) = false := decide_eq_false (by omega)
      have HE := Lib.hid (show (decide (300 < lv.length) || decide (300 < ct.length)) = false by simp [h1, h2])
      go_enter Try.func22, Try.ntmps22
      go_wp2_with fail
      go_ret
      exact ⟨by rw [HE.out]; rfl, HB.out⟩
theorem out52 (h t : Int) (w : World) : Calls Try.prog 52 #[.agg #[.int .i64 h, .int .i64 t]] w fun e w' => e = .returned (.tuple #[.int .i64 h, .int .i64 t]) ∧ Below w.heap.size w w' := by
  have hu89 := Try.underlying89
  go_enter Try.func52, Try.ntmps52
  go_wp2_with fail
  go_quiet (fail)
  go_wp2_with fail
  go_ret2
  exact ⟨rfl, bel_drewN (bel_alloc (Below.refl _ _) _) _⟩
theorem back53 (h t : Int) (w : World) : Calls Try.prog 53 #[.agg #[.int .i64 h, .int .i64 t]] w fun e w' => e = .returned (.tuple #[.int .i64 t, .int .i64 h]) ∧ Below w.heap.size w w' := by
  have hu89 := Try.underlying89
  go_enter Try.func53, Try.ntmps53
  go_wp2_with fail
  go_quiet (fail)
  go_wp2_with fail
  go_ret2
  exact ⟨rfl, bel_drewN (bel_alloc (Below.refl _ _) _) _⟩

def prD (ps : List (Int × Int)) (i : Nat) : Int × Int := ps.getD i (0, 0)
theorem prD_get {ps : List (Int × Int)} {i : Nat} (h : i < ps.length) : prD ps i = ps[i] := by simp [prD, List.getD, h]
/-- Is a pair right, behind those ahead of it? -/
def okB (ps : List (Int × Int)) (most : Int) (i : Nat) : Bool :=
  decide (0 ≤ (prD ps i).1 ∧ (prD ps i).1 ≤ most ∧ 0 ≤ (prD ps i).2 ∧ (prD ps i).2 ≤ most) && (List.range i).all fun k => decide ((prD ps k).1 ≠ (prD ps i).1 ∧ (prD ps k).2 ≠ (prD ps i).2)
theorem okB_iff (ps : List (Int × Int)) (most : Int) (i : Nat) : okB ps most i = true ↔ (0 ≤ (prD ps i).1 ∧ (prD ps i).1 ≤ most ∧ 0 ≤ (prD ps i).2 ∧ (prD ps i).2 ≤ most) ∧ ∀ k, k < i → (prD ps k).1 ≠ (prD ps i).1 ∧ (prD ps k).2 ≠ (prD ps i).2 := by
  simp [okB, List.all_eq_true]
def pairsB (ps : List (Int × Int)) (most : Int) : Bool := (List.range ps.length).all (okB ps most) && decide (ps.length ≤ 256)
theorem pairsB_no {ps : List (Int × Int)} {most : Int} {i : Nat} (hi : i < ps.length) (h : okB ps most i = false) : pairsB ps most = false := by
  cases hb : pairsB ps most with
  | false => rfl
  | true =>
    simp only [pairsB, Bool.and_eq_true, List.all_eq_true, List.mem_range] at hb
    rw [hb.1 i hi] at h
    cases h
theorem pairsB_yes {ps : List (Int × Int)} {most : Int} (h : ∀ i, i < ps.length → okB ps most i = true) : pairsB ps most = decide (ps.length ≤ 256) := by
  have : (List.range ps.length).all (okB ps most) = true := by
    rw [List.all_eq_true]
    intro i hi
    exact h i (List.mem_range.1 hi)
  simp [pairsB, this]
theorem okB_no {ps : List (Int × Int)} {most : Int} {i : Nat} (h : ¬ (0 ≤ (prD ps i).1 ∧ (prD ps i).1 ≤ most ∧ 0 ≤ (prD ps i).2 ∧ (prD ps i).2 ≤ most)) : okB ps most i = false := by
  cases hb : okB ps most i with
  | false => rfl
  | true => exact absurd ((okB_iff _ _ _).1 hb).1 h
theorem okB_same {ps : List (Int × Int)} {most : Int} {i k : Nat} (hk : k < i) (h : (prD ps k).1 = (prD ps i).1 ∨ (prD ps k).2 = (prD ps i).2) : okB ps most i = false := by
  cases hb : okB ps most i with
  | false => rfl
  | true =>
    have := ((okB_iff _ _ _).1 hb).2 k hk
    rcases h with h | h
    · exact absurd h this.1
    · exact absurd h this.2
set_option maxRecDepth 100000 in
set_option maxHeartbeats 2000000 in
theorem pairs54 (ps : List (Int × Int)) (most : Int) (A : Option Addr) (c : Nat) (w : World) (hA : PrsA w A ps) (hlen : ps.length ≤ 300) :
    Calls Try.prog 54 #[.slice A ps.length c, .int .i64 most] w fun e w' => e = .returned (.bool (pairsB ps most)) ∧ Below w.heap.size w w' := by
  have hu45 := Try.underlying45
  have hu89 := Try.underlying89
  have HA := Lib.hid hA
  clear hA
  go_enter Try.func54, Try.ntmps54
  go_wp2_with fail
  go_loopg [5] 301 (fun gg s5 wr => ∃ i : Nat, i ≤ ps.length ∧ 301 - i ≤ gg ∧ s5 = .int .i64 i ∧ Hid (∀ j, j < i → okB ps most j = true) ∧ Hid (Below w.heap.size w wr))
  case atStart => exact ⟨0, Nat.zero_le _, Nat.sub_le _ _, rfl, fun j hj => absurd hj (Nat.not_lt_zero _), Below.refl _ _⟩
  case round =>
    obtain ⟨i, hi, hgg, rfl, HNO, BR⟩ := hrel
    by_cases hlt : i < ps.length
    · have d1 : decide ((i : Int) < (ps.length : Int)) = true := decide_eq_true (by omega)
      have d2 : (0 : Int) ≤ (i : Int) := by omega
      have d3 : (i : Int) < (ps.length : Int) := by omega
      have q1 : IntKind.i64.wrap ((i : Int) + 1) = (i : Int) + 1 := IntWalk.i64_in _ (by omega)
      obtain ⟨b, o, rfl, hb, hc⟩ := (HA.out.below BR.out) (by omega)
      have HC := Lib.hid hc
      have HP := Lib.hid (prD_get hlt)
      obtain ⟨c0, c1⟩ := hc i _ (List.getElem?_eq_getElem hlt)
      generalize ps[i] = p at c0 c1 HP
      obtain ⟨ph, pt⟩ := p
      simp only at c0 c1
      clear hc
      by_cases h0 : ph < 0
      · have e0 : decide (ph < 0) = true := decide_eq_true h0
        have HF := Lib.hid (pairsB_no hlt (okB_no (most := most) (i := i) (by rw [HP.out]; simp; omega)))
        go_wp2_with fail
        go_ret
        exact ⟨by rw [HF.out]; rfl, BR.out⟩
      have e0 : decide (ph < 0) = false := decide_eq_false h0
      by_cases h1 : most < ph
      · have e1 : decide (most < ph) = true := decide_eq_true h1
        have HF := Lib.hid (pairsB_no hlt (okB_no (most := most) (i := i) (by rw [HP.out]; simp; omega)))
        go_wp2_with fail
        go_ret
        exact ⟨by rw [HF.out]; rfl, BR.out⟩
      have e1 : decide (most < ph) = false := decide_eq_false h1
      by_cases h2 : pt < 0
      · have e2 : decide (pt < 0) = true := decide_eq_true h2
        have HF := Lib.hid (pairsB_no hlt (okB_no (most := most) (i := i) (by rw [HP.out]; simp; omega)))
        go_wp2_with fail
        go_ret
        exact ⟨by rw [HF.out]; rfl, BR.out⟩
      have e2 : decide (pt < 0) = false := decide_eq_false h2
      by_cases h3 : most < pt
      · have e3 : decide (most < pt) = true := decide_eq_true h3
        have HF := Lib.hid (pairsB_no hlt (okB_no (most := most) (i := i) (by rw [HP.out]; simp; omega)))
        go_wp2_with fail
        go_ret
        exact ⟨by rw [HF.out]; rfl, BR.out⟩
      have e3 : decide (most < pt) = false := decide_eq_false h3
      have HRG := Lib.hid (show 0 ≤ ph ∧ ph ≤ most ∧ 0 ≤ pt ∧ pt ≤ most by omega)
      go_wp2_with fail
      clear c0 c1 e0 e1 e2 e3 h0 h1 h2 h3
      go_loopg [6] 301 (fun gk s6 wk => ∃ k : Nat, k ≤ i ∧ 301 - k ≤ gk ∧ s6 = .int .i64 k ∧ Hid (∀ j, j < k → (prD ps j).1 ≠ ph ∧ (prD ps j).2 ≠ pt) ∧ Hid (Below w.heap.size w wk) ∧ Hid (Below wr.heap.size wr wk))
      case atStart => exact ⟨0, Nat.zero_le _, Nat.sub_le _ _, rfl, fun j hj => absurd hj (Nat.not_lt_zero _), BR, Below.refl _ _⟩
      case round =>
        obtain ⟨k, hk, hgk, rfl, HNE, BK, BWk⟩ := hrel
        by_cases hki : k < i
        · have e1 : decide ((k : Int) < (i : Int)) = true := decide_eq_true (by omega)
          have e2 : (0 : Int) ≤ (k : Int) := by omega
          have e3 : (k : Int) < (ps.length : Int) := by omega
          have q2 : IntKind.i64.wrap ((k : Int) + 1) = (k : Int) + 1 := IntWalk.i64_in _ (by omega)
          have hcw : ∀ (j : Nat) p, ps[j]? = some p → wr.cell? ⟨b, o + j * 2, none⟩ = some (.int .i64 p.1) ∧ wr.cell? ⟨b, o + j * 2 + 1, none⟩ = some (.int .i64 p.2) := fun j p hp => ⟨(BWk.out.cell (p := ⟨b, o + j * 2, none⟩) hb).trans (HC.out j p hp).1, (BWk.out.cell (p := ⟨b, o + j * 2 + 1, none⟩) hb).trans (HC.out j p hp).2⟩
          have hpi : ps[i]? = some (ph, pt) := by rw [← HP.out, prD_get hlt]; exact List.getElem?_eq_getElem hlt
          obtain ⟨c0, c1⟩ := hcw i _ hpi
          obtain ⟨f0, f1⟩ := hcw k _ (List.getElem?_eq_getElem (by omega))
          have HQ := Lib.hid (prD_get (show k < ps.length by omega))
          generalize ps[k]'(by omega) = p at f0 f1 HQ
          obtain ⟨qh, qt⟩ := p
          simp only at c0 c1 f0 f1
          clear hcw hpi
          by_cases g0 : qh = ph
          · subst g0
            have HF := Lib.hid (pairsB_no hlt (okB_same (most := most) (i := i) hki (.inl (by rw [HP.out, HQ.out]))))
            go_wp2_with fail
            go_quiet (fail)
            go_wp2_with fail
            go_ret
            exact ⟨by rw [HF.out]; rfl, bel_drewN BK.out _⟩
          have m0 : (qh == ph) = false := beq_eq_false_iff_ne.2 g0
          have m0' : decide (qh = ph) = false := decide_eq_false g0
          by_cases g1 : qt = pt
          · subst g1
            have HF := Lib.hid (pairsB_no hlt (okB_same (most := most) (i := i) hki (.inr (by rw [HP.out, HQ.out]))))
            go_wp2_with fail
            go_quiet (fail)
            go_wp2_with fail
            go_ret
            exact ⟨by rw [HF.out]; rfl, bel_drewN BK.out _⟩
          have m1 : (qt == pt) = false := beq_eq_false_iff_ne.2 g1
          have m1' : decide (qt = pt) = false := decide_eq_false g1
          have HG0 := Lib.hid g0
          have HG1 := Lib.hid g1
          clear g0 g1
          go_wp2_with fail
          go_quiet (fail)
          go_wp2_with fail
          go_roundg (301 - (k + 1))
          case measure => omega
          case rel => exact ⟨k + 1, by omega, Nat.le_refl _, rfl, Lib.hid (fun j hj => by
            rcases Nat.lt_or_ge j k with h | h
            · exact HNE.out j h
            · rw [show j = k by omega, HQ.out]; exact ⟨HG0.out, HG1.out⟩), Lib.hid (bel_drewN BK.out _), Lib.hid (bel_drewN BWk.out _)⟩
        · have e1 : decide ((k : Int) < (i : Int)) = false := decide_eq_false (by omega)
          have HOK := Lib.hid (show okB ps most i = true from (okB_iff _ _ _).2 ⟨by rw [HP.out]; exact HRG.out, fun j hj => by rw [HP.out]; exact HNE.out j (by omega)⟩)
          go_wp2_with fail
          go_roundg (301 - (i + 1))
          case measure => omega
          case rel => exact ⟨i + 1, hlt, Nat.le_refl _, rfl, Lib.hid (fun j hj => by
            rcases Nat.lt_or_ge j i with h | h
            · exact HNO.out j h
            · rw [show j = i by omega]; exact HOK.out), BK⟩
    · have d1 : decide ((i : Int) < (ps.length : Int)) = false := decide_eq_false (by omega)
      have HF := Lib.hid (pairsB_yes (ps := ps) (most := most) (fun j hj => HNO.out j (by omega)))
      by_cases h6 : ps.length ≤ 256
      · have d2 : decide ((ps.length : Int) ≤ 256) = true := decide_eq_true (by omega)
        go_wp2_with fail
        go_ret
        exact ⟨by rw [HF.out, decide_eq_true h6]; rfl, BR.out⟩
      · have d2 : decide ((ps.length : Int) ≤ 256) = false := decide_eq_false (by omega)
        go_wp2_with fail
        go_ret
        exact ⟨by rw [HF.out, decide_eq_false h6]; rfl, BR.out⟩
end Go.Proofs.Ytifmckhabkghcaa.P
