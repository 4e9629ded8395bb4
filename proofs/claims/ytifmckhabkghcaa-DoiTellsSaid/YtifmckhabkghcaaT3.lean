/- Contract of the reference's Check (layer 13). -/
import Derived.Test.YtifmckhabkghcaaT2
namespace Go.Proofs.Ytifmckhabkghcaa.P
open Go.RowKit
set_option linter.unusedSimpArgs false
attribute [local go_sem ↓] ldi25

/-- What is wrong with a label of a number. -/
def badN (l : List Lab) (i : Nat) : Nat := if rightL (labD l i) = false then 1 else if 16 ≤ i then 5 else if labD l i ∈ l.take i then 7 else 0
def chkF (l : List Lab) : Option Nat := (List.range l.length).find? (fun i => badN l i != 0)
def chkK (l : List Lab) : Nat := (chkF l).getD l.length
def chkE (l : List Lab) : Nat := match chkF l with | some i => badN l i | none => 0
theorem chk_hit {l : List Lab} {i e : Nat} (hi : i < l.length) (h : badN l i = e) (he : e ≠ 0) (hno : ∀ j, j < i → badN l j = 0) : chkK l = i ∧ chkE l = e := by
  have hf : chkF l = some i := by
    unfold chkF
    rw [List.find?_range_eq_some]
    exact ⟨by simp [h, he], by simpa using hi, fun j hj => by simp [hno j hj]⟩
  simp [chkK, chkE, hf, h]
theorem chk_none {l : List Lab} (hno : ∀ j, j < l.length → badN l j = 0) : chkK l = l.length ∧ chkE l = 0 := by
  have hf : chkF l = none := by
    unfold chkF
    rw [List.find?_range_eq_none]
    intro j hj
    simp [hno j hj]
  simp [chkK, chkE, hf]
theorem mem_take {l : List Lab} {i : Nat} {x : Lab} : x ∈ l.take i ↔ ∃ j, j < i ∧ l[j]? = some x := by
  rw [List.mem_iff_getElem?]
  constructor
  · rintro ⟨j, hj⟩
    have h1 := (List.getElem?_eq_some_iff.1 hj).1
    rw [List.length_take] at h1
    rw [List.getElem?_take_of_lt (by omega)] at hj
    exact ⟨j, by omega, hj⟩
  · rintro ⟨j, h1, h2⟩
    exact ⟨j, by rw [List.getElem?_take_of_lt h1]; exact h2⟩
theorem lab_lv {w : World} {b o : Nat} {x : Lab} (h : w.rangeAt b o (labL x)) : w.cell? ⟨b, o, none⟩ = some (.int .i64 x.lv) := h 0 _ rfl
set_option maxRecDepth 100000 in
set_option maxHeartbeats 2000000 in
theorem check38 (l : List Lab) (A : Option Addr) (c : Nat) (w : World) (hA : SlA w A l) (hl : ∀ y ∈ l, LabOK y) (hlen : l.length ≤ 40) :
    Calls Try.prog 38 #[.slice A l.length c] w fun e w' => e = .returned (.tuple #[.int .i64 (chkK l), .int .i64 (chkE l)]) ∧ Below w.heap.size w w' := by
  have hu25 := Try.underlying25
  have hu56 := Try.underlying56
  have HA := Lib.hid hA
  clear hA
  go_enter Try.func38, Try.ntmps38
  go_wp2_with fail
  go_loopg [4] 41 (fun gg s4 wr => ∃ i : Nat, i ≤ l.length ∧ 41 - i ≤ gg ∧ s4 = .int .i64 i ∧ (∀ j, j < i → badN l j = 0) ∧ Hid (Below w.heap.size w wr))
  case atStart => exact ⟨0, Nat.zero_le _, Nat.sub_le _ _, rfl, fun j hj => absurd hj (Nat.not_lt_zero _), Below.refl _ _⟩
  case round =>
    obtain ⟨i, hi, hgg, rfl, hno, BR⟩ := hrel
    by_cases hlt : i < l.length
    · have d1 : decide ((i : Int) < (l.length : Int)) = true := decide_eq_true (by omega)
      have d2 : (0 : Int) ≤ (i : Int) := by omega
      have d3 : (i : Int) < (l.length : Int) := by omega
      have q1 : IntKind.i64.wrap ((i : Int) + 1) = (i : Int) + 1 := IntWalk.i64_in _ (by omega)
      obtain ⟨b, o, rfl, hb, hc⟩ := (HA.out.below BR.out) (by omega)
      have HC := Lib.hid hc
      have hy : l[i]? = some l[i] := List.getElem?_eq_getElem hlt
      have hoy := hl _ (List.getElem_mem hlt)
      have c0 := lab_lv (hc i _ hy)
      have HBD := Lib.hid (show badN l i = if rightL l[i] = false then 1 else if 16 ≤ i then 5 else if l[i] ∈ l.take i then 7 else 0 by unfold badN; rw [labD_get hlt])
      have HY := Lib.hid hy
      generalize l[i] = y at c0 HY HBD hoy
      clear hc hy
      by_cases hn : y.lv < 0
      · have dn : decide (y.lv < 0) = true := decide_eq_true hn
        have HF := Lib.hid (chk_hit hlt (show badN l i = 1 by rw [HBD.out, if_pos (by simp [rightL]; omega)]) (by decide) hno)
        clear hno
        go_wp2_with fail
        go_ret2
        exact ⟨by rw [HF.out.1, HF.out.2]; rfl, BR.out⟩
      have dn : decide (y.lv < 0) = false := decide_eq_false hn
      by_cases hm : 255 < y.lv
      · have dm : decide (255 < y.lv) = true := decide_eq_true hm
        have HF := Lib.hid (chk_hit hlt (show badN l i = 1 by rw [HBD.out, if_pos (by simp [rightL]; omega)]) (by decide) hno)
        clear hno
        go_wp2_with fail
        go_ret2
        exact ⟨by rw [HF.out.1, HF.out.2]; rfl, BR.out⟩
      have dm : decide (255 < y.lv) = false := decide_eq_false hm
      have hr : ¬ rightL y = false := by simp [rightL]; omega
      by_cases hs : 16 ≤ i
      · have ds : decide ((16 : Int) ≤ (i : Int)) = true := decide_eq_true (by omega)
        have HF := Lib.hid (chk_hit hlt (show badN l i = 5 by rw [HBD.out, if_neg hr, if_pos hs]) (by decide) hno)
        clear hno hr
        go_wp2_with fail
        go_ret2
        exact ⟨by rw [HF.out.1, HF.out.2]; rfl, BR.out⟩
      have ds : decide ((16 : Int) ≤ (i : Int)) = false := decide_eq_false (by omega)
      have HB2 := Lib.hid (show badN l i = if y ∈ l.take i then 7 else 0 by rw [HBD.out, if_neg hr, if_neg hs])
      have HNO := Lib.hid hno
      clear hno hr HBD
      go_wp2_with fail
      go_loopg [5] 41 (fun gk s5 wk => ∃ k : Nat, k ≤ i ∧ 41 - k ≤ gk ∧ s5 = .int .i64 k ∧ (∀ j, j < k → l[j]? ≠ some y) ∧ Hid (Below w.heap.size w wk) ∧ Hid (Below wr.heap.size wr wk))
      case atStart => exact ⟨0, Nat.zero_le _, Nat.sub_le _ _, rfl, fun j hj => absurd hj (Nat.not_lt_zero _), BR, Below.refl _ _⟩
      case round =>
        obtain ⟨k, hk, hgk, rfl, hne, BK, BW⟩ := hrel
        by_cases hki : k < i
        · have e1 : decide ((k : Int) < (i : Int)) = true := decide_eq_true (by omega)
          have e2 : (0 : Int) ≤ (k : Int) := by omega
          have e3 : (k : Int) < (l.length : Int) := by omega
          have q2 : IntKind.i64.wrap ((k : Int) + 1) = (k : Int) + 1 := IntWalk.i64_in _ (by omega)
          have hz : l[k]? = some (l[k]'(by omega)) := List.getElem?_eq_getElem (by omega)
          have hoz := hl _ (List.getElem_mem (show k < l.length by omega))
          have h1 := ld25 (range_below (HC.out i _ HY.out) hb BW.out)
          have h2 := ld25 (range_below (HC.out k _ hz) hb BW.out)
          have heq := eq25 hoz.1 hoy.1 hoz.2 hoy.2
          have hgd := gd25
          have HZ := Lib.hid hz
          generalize l[k]'(by omega) = z at h2 heq HZ
          clear hoz hz
          cases hzy : decide (z = y) with
          | true =>
            have hm : y ∈ l.take i := mem_take.2 ⟨k, hki, by rw [HZ.out, of_decide_eq_true hzy]⟩
            have HF := Lib.hid (chk_hit hlt (show badN l i = 7 by rw [HB2.out, if_pos hm]) (by decide) HNO.out)
            rw [hzy] at heq
            clear hm hzy hne
            go_wp2_with fail
            go_quiet (fail)
            go_wp2_with fail
            go_ret2
            exact ⟨by rw [HF.out.1, HF.out.2]; rfl, bel_drewN BK.out _⟩
          | false =>
            have hne2 := of_decide_eq_false hzy
            rw [hzy] at heq
            clear hzy
            go_wp2_with fail
            go_quiet (fail)
            go_wp2_with fail
            go_roundg (41 - (k + 1))
            case measure => omega
            case rel => exact ⟨k + 1, by omega, Nat.le_refl _, rfl, fun j hj => by
              rcases Nat.lt_or_ge j k with h | h
              · exact hne j h
              · rw [show j = k by omega, HZ.out]; exact fun e => hne2 (Option.some.inj e), Lib.hid (bel_drewN BK.out _), Lib.hid (bel_drewN BW.out _)⟩
        · have e1 : decide ((k : Int) < (i : Int)) = false := decide_eq_false (by omega)
          have hnm : ¬ y ∈ l.take i := fun hm => by
            obtain ⟨j, h1, h2⟩ := mem_take.1 hm
            exact hne j (by omega) h2
          have HZ := Lib.hid (show badN l i = 0 by rw [HB2.out, if_neg hnm])
          clear hnm hne
          go_wp2_with fail
          go_roundg (41 - (i + 1))
          case measure => omega
          case rel => exact ⟨i + 1, hlt, Nat.le_refl _, rfl, fun j hj => by
            rcases Nat.lt_or_ge j i with h | h
            · exact HNO.out j h
            · rw [show j = i by omega]; exact HZ.out, BK⟩
    · have d1 : decide ((i : Int) < (l.length : Int)) = false := decide_eq_false (by omega)
      have HF := Lib.hid (chk_none (l := l) (fun j hj => hno j (by omega)))
      clear hno
      go_wp2_with fail
      go_ret2
      exact ⟨by rw [HF.out.1, HF.out.2]; rfl, BR.out⟩
end Go.Proofs.Ytifmckhabkghcaa.P
