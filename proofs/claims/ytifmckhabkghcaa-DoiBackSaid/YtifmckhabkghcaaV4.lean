/- Contracts of doi.tell and of the reference's number (layer 12). -/
import Derived.Test.YtifmckhabkghcaaV3
namespace Go.Proofs.Ytifmckhabkghcaa.P
open Go.RowKit
set_option linter.unusedSimpArgs false

def fr (back : Bool) (p : Int × Int) : Int := if back then p.2 else p.1
def tw (back : Bool) (p : Int × Int) : Int := if back then p.1 else p.2
/-- What a number is told as, by the first pair that has it. -/
def told (ps : List (Int × Int)) (n : Int) (back : Bool) : Option Int := (ps.find? fun p => decide (fr back p = n)).map (tw back)
theorem told_hit {ps : List (Int × Int)} {n : Int} {i : Nat} {p : Int × Int} (back : Bool) (h : ps[i]? = some p) (hp : fr back p = n) (hno : ∀ (j : Nat) q, j < i → ps[j]? = some q → fr back q ≠ n) : told ps n back = some (tw back p) := by
  have : ps.find? (fun p => decide (fr back p = n)) = some p := by
    rw [List.find?_eq_some_iff_getElem]
    obtain ⟨hi, he⟩ := List.getElem?_eq_some_iff.1 h
    exact ⟨by simpa using hp, i, hi, he, fun j hj => by
      have := hno j _ hj (List.getElem?_eq_getElem (by omega))
      simpa using this⟩
  simp [told, this]
theorem told_no {ps : List (Int × Int)} {n : Int} (back : Bool) (hno : ∀ (j : Nat) q, ps[j]? = some q → fr back q ≠ n) : told ps n back = none := by
  have : ps.find? (fun p => decide (fr back p = n)) = none := by
    rw [List.find?_eq_none]
    intro p hp
    obtain ⟨j, hj⟩ := List.getElem?_of_mem hp
    simpa using hno j p hj
  simp [told, this]
def tellN (ps : List (Int × Int)) (n : Int) (back : Bool) : Int := match told ps n back with | some m => m | none => n
def tellB (ps : List (Int × Int)) (n : Int) (back : Bool) : Bool := match told ps n back with | some _ => true | none => decide (ps.length = 0)
def numV (ps : List (Int × Int)) (n : Int) (back : Bool) : Int := if ps.length = 0 then n else match told ps n back with | some m => m | none => -1
set_option maxRecDepth 100000 in
set_option maxHeartbeats 2000000 in
theorem tell73o (ps : List (Int × Int)) (n : Int) (A : Option Addr) (c : Nat) (w : World) (hA : PrsA w A ps) (hlen : ps.length ≤ 300) :
    Calls Try.prog 73 #[.slice A ps.length c, .int .i64 n, .func (.func 52) #[] #[]] w fun e w' => e = .returned (.tuple #[.int .i64 (tellN ps n false), .bool (tellB ps n false)]) ∧ Below w.heap.size w w' := by
  have hu45 := Try.underlying45
  have hu89 := Try.underlying89
  have HA := Lib.hid hA
  have HO := Lib.hid out52
  clear hA
  go_enter Try.func73, Try.ntmps73
  go_wp2_with fail
  go_loopg [14] 301 (fun gg s14 wr => ∃ i : Nat, i ≤ ps.length ∧ 301 - i ≤ gg ∧ s14 = .int .i64 i ∧ Hid (∀ j p, j < i → ps[j]? = some p → p.1 ≠ n) ∧ Hid (Below w.heap.size w wr))
  case atStart => exact ⟨0, Nat.zero_le _, Nat.sub_le _ _, rfl, fun j p hj => absurd hj (Nat.not_lt_zero _), Below.refl _ _⟩
  case round =>
    obtain ⟨i, hi, hgg, rfl, HNO, BR⟩ := hrel
    by_cases hlt : i < ps.length
    · have d1 : decide ((i : Int) < (ps.length : Int)) = true := decide_eq_true (by omega)
      have d2 : (0 : Int) ≤ (i : Int) := by omega
      have d3 : (i : Int) < (ps.length : Int) := by omega
      have q1 : IntKind.i64.wrap ((i : Int) + 1) = (i : Int) + 1 := IntWalk.i64_in _ (by omega)
      obtain ⟨b, o, rfl, hb, hc⟩ := (HA.out.below BR.out) (by omega)
      have hy : ps[i]? = some ps[i] := List.getElem?_eq_getElem hlt
      obtain ⟨c0, c1⟩ := hc i _ hy
      have HY := Lib.hid hy
      generalize ps[i] = p at c0 c1 HY
      obtain ⟨ph, pt⟩ := p
      simp only at c0 c1
      clear hc hy
      have k0 := World.new_ne wr _ c0
      have k1 := World.new_ne wr _ c1
      by_cases he : ph = n
      · subst he
        have HF := Lib.hid (show told ps ph false = some pt from told_hit false HY.out rfl HNO.out)
        go_wp2_with (go_at_call 52; refine (HO.out _ _ _).mono ?_; rintro e w4 ⟨rfl, hb'⟩; have HB' := Lib.hid (below_then BR.out BR.out.size (bel_trans (bel_alloc (Below.refl _ _) _) hb')); clear hb')
        go_ret2
        exact ⟨by rw [tellN, tellB, HF.out]; rfl, HB'.out⟩
      · have e0 : decide (ph = n) = false := decide_eq_false he
        have e0' : (ph == n) = false := beq_eq_false_iff_ne.2 he
        have HE := Lib.hid he
        clear he
        go_wp2_with (go_at_call 52; refine (HO.out _ _ _).mono ?_; rintro e w4 ⟨rfl, hb'⟩; have HB' := Lib.hid (below_then BR.out BR.out.size (bel_trans (bel_alloc (Below.refl _ _) _) hb')); clear hb')
        go_roundg (301 - (i + 1))
        case measure => omega
        case rel => exact ⟨i + 1, hlt, Nat.le_refl _, rfl, Lib.hid (fun j p hj hp => by
          rcases Nat.lt_or_ge j i with h | h
          · exact HNO.out j p h hp
          · rw [show j = i by omega, HY.out] at hp; rw [← Option.some.inj hp]; exact HE.out), HB'⟩
    · have d1 : decide ((i : Int) < (ps.length : Int)) = false := decide_eq_false (by omega)
      have HF := Lib.hid (told_no (ps := ps) (n := n) false (fun j p hp => HNO.out j p (by have := (List.getElem?_eq_some_iff.1 hp).1; omega) hp))
      by_cases h0 : ps.length = 0
      · have e0 : decide ((ps.length : Int) = 0) = true := decide_eq_true (by omega)
        have e0' : ((ps.length : Int) == 0) = true := beq_iff_eq.2 (by omega)
        have H0 := Lib.hid h0
        clear h0
        go_wp2_with fail
        go_ret2
        exact ⟨by rw [tellN, tellB, HF.out, decide_eq_true H0.out]; rfl, BR.out⟩
      · have e0 : decide ((ps.length : Int) = 0) = false := decide_eq_false (by omega)
        have e0' : ((ps.length : Int) == 0) = false := beq_eq_false_iff_ne.2 (by omega)
        have H0 := Lib.hid h0
        clear h0
        go_wp2_with fail
        go_ret2
        exact ⟨by rw [tellN, tellB, HF.out, decide_eq_false H0.out]; rfl, BR.out⟩
set_option maxRecDepth 100000 in
set_option maxHeartbeats 2000000 in
theorem tell73k (ps : List (Int × Int)) (n : Int) (A : Option Addr) (c : Nat) (w : World) (hA : PrsA w A ps) (hlen : ps.length ≤ 300) :
    Calls Try.prog 73 #[.slice A ps.length c, .int .i64 n, .func (.func 53) #[] #[]] w fun e w' => e = .returned (.tuple #[.int .i64 (tellN ps n true), .bool (tellB ps n true)]) ∧ Below w.heap.size w w' := by
  have hu45 := Try.underlying45
  have hu89 := Try.underlying89
  have HA := Lib.hid hA
  have HO := Lib.hid (fun h t w => back53 h t w)
  clear hA
  go_enter Try.func73, Try.ntmps73
  go_wp2_with fail
  go_loopg [14] 301 (fun gg s14 wr => ∃ i : Nat, i ≤ ps.length ∧ 301 - i ≤ gg ∧ s14 = .int .i64 i ∧ Hid (∀ j p, j < i → ps[j]? = some p → p.2 ≠ n) ∧ Hid (Below w.heap.size w wr))
  case atStart => exact ⟨0, Nat.zero_le _, Nat.sub_le _ _, rfl, fun j p hj => absurd hj (Nat.not_lt_zero _), Below.refl _ _⟩
  case round =>
    obtain ⟨i, hi, hgg, rfl, HNO, BR⟩ := hrel
    by_cases hlt : i < ps.length
    · have d1 : decide ((i : Int) < (ps.length : Int)) = true := decide_eq_true (by omega)
      have d2 : (0 : Int) ≤ (i : Int) := by omega
      have d3 : (i : Int) < (ps.length : Int) := by omega
      have q1 : IntKind.i64.wrap ((i : Int) + 1) = (i : Int) + 1 := IntWalk.i64_in _ (by omega)
      obtain ⟨b, o, rfl, hb, hc⟩ := (HA.out.below BR.out) (by omega)
      have hy : ps[i]? = some ps[i] := List.getElem?_eq_getElem hlt
      obtain ⟨c0, c1⟩ := hc i _ hy
      have HY := Lib.hid hy
      generalize ps[i] = p at c0 c1 HY
      obtain ⟨ph, pt⟩ := p
      simp only at c0 c1
      clear hc hy
      have k0 := World.new_ne wr _ c0
      have k1 := World.new_ne wr _ c1
      by_cases he : pt = n
      · subst he
        have HF := Lib.hid (show told ps pt true = some ph from told_hit true HY.out rfl HNO.out)
        go_wp2_with (go_at_call 53; refine (HO.out _ _ _).mono ?_; rintro e w4 ⟨rfl, hb'⟩; have HB' := Lib.hid (below_then BR.out BR.out.size (bel_trans (bel_alloc (Below.refl _ _) _) hb')); clear hb')
        go_ret2
        exact ⟨by rw [tellN, tellB, HF.out]; rfl, HB'.out⟩
      · have e0 : decide (pt = n) = false := decide_eq_false he
        have e0' : (pt == n) = false := beq_eq_false_iff_ne.2 he
        have HE := Lib.hid he
        clear he
        go_wp2_with (go_at_call 53; refine (HO.out _ _ _).mono ?_; rintro e w4 ⟨rfl, hb'⟩; have HB' := Lib.hid (below_then BR.out BR.out.size (bel_trans (bel_alloc (Below.refl _ _) _) hb')); clear hb')
        go_roundg (301 - (i + 1))
        case measure => omega
        case rel => exact ⟨i + 1, hlt, Nat.le_refl _, rfl, Lib.hid (fun j p hj hp => by
          rcases Nat.lt_or_ge j i with h | h
          · exact HNO.out j p h hp
          · rw [show j = i by omega, HY.out] at hp; rw [← Option.some.inj hp]; exact HE.out), HB'⟩
    · have d1 : decide ((i : Int) < (ps.length : Int)) = false := decide_eq_false (by omega)
      have HF := Lib.hid (told_no (ps := ps) (n := n) true (fun j p hp => HNO.out j p (by have := (List.getElem?_eq_some_iff.1 hp).1; omega) hp))
      by_cases h0 : ps.length = 0
      · have e0 : decide ((ps.length : Int) = 0) = true := decide_eq_true (by omega)
        have e0' : ((ps.length : Int) == 0) = true := beq_iff_eq.2 (by omega)
        have H0 := Lib.hid h0
        clear h0
        go_wp2_with fail
        go_ret2
        exact ⟨by rw [tellN, tellB, HF.out, decide_eq_true H0.out]; rfl, BR.out⟩
      · have e0 : decide ((ps.length : Int) = 0) = false := decide_eq_false (by omega)
        have e0' : ((ps.length : Int) == 0) = false := beq_eq_false_iff_ne.2 (by omega)
        have H0 := Lib.hid h0
        clear h0
        go_wp2_with fail
        go_ret2
        exact ⟨by rw [tellN, tellB, HF.out, decide_eq_false H0.out]; rfl, BR.out⟩
set_option maxRecDepth 100000 in
set_option maxHeartbeats 2000000 in
theorem number60o (ps : List (Int × Int)) (n : Int) (A : Option Addr) (c : Nat) (w : World) (hA : PrsA w A ps) (hlen : ps.length ≤ 300) :
    Calls Try.prog 60 #[.slice A ps.length c, .int .i64 n, .bool false] w fun e w' => e = .returned (.int .i64 (numV ps n false)) ∧ w = w' := by
  have hu45 := Try.underlying45
  have hu89 := Try.underlying89
  have HA := Lib.hid hA
  clear hA
  by_cases h0 : ps.length = 0
  · have e0 : decide ((ps.length : Int) = 0) = true := decide_eq_true (by omega)
    have e0' : ((ps.length : Int) == 0) = true := beq_iff_eq.2 (by omega)
    have H0 := Lib.hid h0
    clear h0
    go_enter Try.func60, Try.ntmps60
    go_wp2_with fail
    go_ret
    exact ⟨by rw [numV, if_pos H0.out]; rfl, rfl⟩
  have e0 : decide ((ps.length : Int) = 0) = false := decide_eq_false (by omega)
  have e0' : ((ps.length : Int) == 0) = false := beq_eq_false_iff_ne.2 (by omega)
  have H0 := Lib.hid h0
  clear h0
  go_enter Try.func60, Try.ntmps60
  go_wp2_with fail
  go_loopg [7] 301 (fun gg s7 wr => ∃ i : Nat, i ≤ ps.length ∧ 301 - i ≤ gg ∧ s7 = .int .i64 i ∧ Hid (∀ j p, j < i → ps[j]? = some p → p.1 ≠ n) ∧ w = wr)
  case atStart => exact ⟨0, Nat.zero_le _, Nat.sub_le _ _, rfl, fun j p hj => absurd hj (Nat.not_lt_zero _), rfl⟩
  case round =>
    obtain ⟨i, hi, hgg, rfl, HNO, rfl⟩ := hrel
    by_cases hlt : i < ps.length
    · have d1 : decide ((i : Int) < (ps.length : Int)) = true := decide_eq_true (by omega)
      have d2 : (0 : Int) ≤ (i : Int) := by omega
      have d3 : (i : Int) < (ps.length : Int) := by omega
      have q1 : IntKind.i64.wrap ((i : Int) + 1) = (i : Int) + 1 := IntWalk.i64_in _ (by omega)
      obtain ⟨b, o, rfl, hb, hc⟩ := HA.out (by omega)
      have hy : ps[i]? = some ps[i] := List.getElem?_eq_getElem hlt
      obtain ⟨c0, c1⟩ := hc i _ hy
      have HY := Lib.hid hy
      generalize ps[i] = p at c0 c1 HY
      obtain ⟨ph, pt⟩ := p
      simp only at c0 c1
      clear hc hy
      by_cases he : ph = n
      · subst he
        have HF := Lib.hid (show told ps ph false = some pt from told_hit false HY.out rfl HNO.out)
        go_wp2_with fail
        go_ret
        exact ⟨by rw [numV, if_neg H0.out, HF.out]; rfl, rfl⟩
      · have e1 : decide (ph = n) = false := decide_eq_false he
        have e2 : (ph == n) = false := beq_eq_false_iff_ne.2 he
        have HE := Lib.hid he
        clear he
        go_wp2_with fail
        go_roundg (301 - (i + 1))
        case measure => omega
        case rel => exact ⟨i + 1, hlt, Nat.le_refl _, rfl, Lib.hid (fun j p hj hp => by
          rcases Nat.lt_or_ge j i with h | h
          · exact HNO.out j p h hp
          · rw [show j = i by omega, HY.out] at hp; rw [← Option.some.inj hp]; exact HE.out), rfl⟩
    · have d1 : decide ((i : Int) < (ps.length : Int)) = false := decide_eq_false (by omega)
      have HF := Lib.hid (told_no (ps := ps) (n := n) false (fun j p hp => HNO.out j p (by have := (List.getElem?_eq_some_iff.1 hp).1; omega) hp))
      go_wp2_with fail
      go_ret
      exact ⟨by rw [numV, if_neg H0.out, HF.out]; rfl, rfl⟩
set_option maxRecDepth 100000 in
set_option maxHeartbeats 2000000 in
theorem number60k (ps : List (Int × Int)) (n : Int) (A : Option Addr) (c : Nat) (w : World) (hA : PrsA w A ps) (hlen : ps.length ≤ 300) :
    Calls Try.prog 60 #[.slice A ps.length c, .int .i64 n, .bool true] w fun e w' => e = .returned (.int .i64 (numV ps n true)) ∧ w = w' := by
  have hu45 := Try.underlying45
  have hu89 := Try.underlying89
  have HA := Lib.hid hA
  clear hA
  by_cases h0 : ps.length = 0
  · have e0 : decide ((ps.length : Int) = 0) = true := decide_eq_true (by omega)
    have e0' : ((ps.length : Int) == 0) = true := beq_iff_eq.2 (by omega)
    have H0 := Lib.hid h0
    clear h0
    go_enter Try.func60, Try.ntmps60
    go_wp2_with fail
    go_ret
    exact ⟨by rw [numV, if_pos H0.out]; rfl, rfl⟩
  have e0 : decide ((ps.length : Int) = 0) = false := decide_eq_false (by omega)
  have e0' : ((ps.length : Int) == 0) = false := beq_eq_false_iff_ne.2 (by omega)
  have H0 := Lib.hid h0
  clear h0
  go_enter Try.func60, Try.ntmps60
  go_wp2_with fail
  go_loopg [7] 301 (fun gg s7 wr => ∃ i : Nat, i ≤ ps.length ∧ 301 - i ≤ gg ∧ s7 = .int .i64 i ∧ Hid (∀ j p, j < i → ps[j]? = some p → p.2 ≠ n) ∧ w = wr)
  case atStart => exact ⟨0, Nat.zero_le _, Nat.sub_le _ _, rfl, fun j p hj => absurd hj (Nat.not_lt_zero _), rfl⟩
  case round =>
    obtain ⟨i, hi, hgg, rfl, HNO, rfl⟩ := hrel
    by_cases hlt : i < ps.length
    · have d1 : decide ((i : Int) < (ps.length : Int)) = true := decide_eq_true (by omega)
      have d2 : (0 : Int) ≤ (i : Int) := by omega
      have d3 : (i : Int) < (ps.length : Int) := by omega
      have q1 : IntKind.i64.wrap ((i : Int) + 1) = (i : Int) + 1 := IntWalk.i64_in _ (by omega)
      obtain ⟨b, o, rfl, hb, hc⟩ := HA.out (by omega)
      have hy : ps[i]? = some ps[i] := List.getElem?_eq_getElem hlt
      obtain ⟨c0, c1⟩ := hc i _ hy
      have HY := Lib.hid hy
      generalize ps[i] = p at c0 c1 HY
      obtain ⟨ph, pt⟩ := p
      simp only at c0 c1
      clear hc hy
      by_cases he : pt = n
      · subst he
        have HF := Lib.hid (show told ps pt true = some ph from told_hit true HY.out rfl HNO.out)
        go_wp2_with fail
        go_ret
        exact ⟨by rw [numV, if_neg H0.out, HF.out]; rfl, rfl⟩
      · have e1 : decide (pt = n) = false := decide_eq_false he
        have e2 : (pt == n) = false := beq_eq_false_iff_ne.2 he
        have HE := Lib.hid he
        clear he
        go_wp2_with fail
        go_roundg (301 - (i + 1))
        case measure => omega
        case rel => exact ⟨i + 1, hlt, Nat.le_refl _, rfl, Lib.hid (fun j p hj hp => by
          rcases Nat.lt_or_ge j i with h | h
          · exact HNO.out j p h hp
          · rw [show j = i by omega, HY.out] at hp; rw [← Option.some.inj hp]; exact HE.out), rfl⟩
    · have d1 : decide ((i : Int) < (ps.length : Int)) = false := decide_eq_false (by omega)
      have HF := Lib.hid (told_no (ps := ps) (n := n) true (fun j p hp => HNO.out j p (by have := (List.getElem?_eq_some_iff.1 hp).1; omega) hp))
      go_wp2_with fail
      go_ret
      exact ⟨by rw [numV, if_neg H0.out, HF.out]; rfl, rfl⟩
end Go.Proofs.Ytifmckhabkghcaa.P
