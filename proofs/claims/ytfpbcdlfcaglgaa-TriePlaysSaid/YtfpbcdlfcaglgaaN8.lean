/- Contracts of find, Get, Find (layer 14). -/
import Derived.Test.YtfpbcdlfcaglgaaN7
namespace Go.Proofs.Ytfpbcdlfcaglgaa.P
open Go.RowKit

theorem way_len (l : List Nd) (ad m : Nat) : ∀ k a, 0 < (wayG l ad m k a).length ∧ (wayG l ad m k a).length ≤ m + 1 := by
  induction m with
  | zero => intro k a; simp [wayG]
  | succ m ih =>
    intro k a
    unfold wayG
    split
    · simp
    · split
      · simp
      · have := ih (k + 1) (chd ‹Nd› (bt ad k)).toNat
        simp only [List.length_cons]; omega
/-- The node of a prefix; -1: there is none. -/
def fnd (l : List Nd) (ad : Nat) (b : Int) : Int := if rightB ad b = true then (match (way l ad b.toNat)[b.toNat]? with | some j => (j : Int) | none => -1) else -1
theorem cell_below {w w1 : World} {a : Addr} {v : Value} (h : w.cell? a = some v) (hb : Below w.heap.size w w1) : w1.cell? a = some v := (hb.cell (p := a) (World.block_lt_of_cell? w a h)).trans h
theorem fnd_no {l : List Nd} {ad : Nat} {b : Int} (h : rightB ad b = false) : fnd l ad b = -1 := by simp [fnd, h]
theorem fnd_out {l : List Nd} {ad n : Nat} (h : (way l ad n).length ≤ n) : fnd l ad n = -1 := by simp [fnd, List.getElem?_eq_none h]
theorem fnd_in {l : List Nd} {ad n j : Nat} (h0 : rightB ad n = true) (h : (way l ad n)[n]? = some j) : fnd l ad n = j := by simp [fnd, h, h0]

theorem find30_nil (w : World) (ad : Nat) (b : Int) : Calls Try.prog 30 #[.pointer none, .agg #[.int .u32 ad, .int .i64 b]] w fun e w' => e = .returned (.int .i64 (-1)) ∧ Below w.heap.size w w' := by
  have hu30 := Try.underlying30
  go_enter Try.func30, Try.ntmps30
  go_wp2_with fail
  go_ret
  exact ⟨rfl, bel_alloc (Below.refl _ _) _⟩
set_option maxHeartbeats 1000000 in
theorem find30 (w : World) (M B g cap : Nat) (vf : Value) (l : List Nd) (fr : List Nat) (c : Int) (h : Tri w M B g cap vf l fr c) (hch : Chn l) (ad : Nat) (b : Int) (ha : ad < 2 ^ 32) :
    Calls Try.prog 30 #[.pointer (some ⟨B, 0, none⟩), .agg #[.int .u32 ad, .int .i64 b]] w fun e w' => e = .returned (.int .i64 (fnd l ad b)) ∧ Below w.heap.size w w' := by
  have hu59 := Try.underlying59
  have hu30 := Try.underlying30
  have HB := Lib.hid (bel_alloc (Below.refl _ w) (.cells #[.int .u32 (ad : Int), .int .i64 b] 30))
  have c0 : (w.alloc (.cells #[.int .u32 (ad : Int), .int .i64 b] 30)).cell? ⟨w.heap.size, 0, none⟩ = some (.int .u32 (ad : Int)) := World.cell?_alloc_mark w #[.int .u32 (ad : Int), .int .i64 b] 30 (0, 0) 0
  have c1 : (w.alloc (.cells #[.int .u32 (ad : Int), .int .i64 b] 30)).cell? ⟨w.heap.size, 1, none⟩ = some (.int .i64 b) := World.cell?_alloc_mark w #[.int .u32 (ad : Int), .int .i64 b] 30 (0, 0) 1
  have H0 := Lib.hid (h.below HB.out)
  have HC := Lib.hid hch
  have HA := Lib.hid ha
  have HR0 := Lib.hid (right24 ad ha b)
  clear h hch ha
  cases hr : rightB ad b with
  | false =>
    have HF := Lib.hid (fnd_no (l := l) hr)
    have HR := Lib.hid (show ∀ w, Calls Try.prog 24 #[.agg #[.int .u32 ad, .int .i64 b]] w fun e w' => e = .returned (.bool false) ∧ Below w.heap.size w w' by have := HR0.out; rw [hr] at this; exact this)
    clear hr HR0
    go_enter Try.func30, Try.ntmps30
    go_wp2_with fail
    generalize w.alloc (.cells #[.int .u32 (ad : Int), .int .i64 b] 30) = W at *
    go_wp2_with (go_at_call 24; refine Calls.mono (HR.out _) ?_; rintro e w1 ⟨rfl, hb'⟩; have HB' := Lib.hid hb'; clear hb')
    go_ret
    exact ⟨ret_int HF.out.symm, bel_trans HB.out HB'.out⟩
  | true =>
    obtain ⟨n, rfl, hn, hok⟩ := rightB_le hr
    have HR := Lib.hid (show ∀ w, Calls Try.prog 24 #[.agg #[.int .u32 ad, .int .i64 n]] w fun e w' => e = .returned (.bool true) ∧ Below w.heap.size w w' by have := HR0.out; rw [hr] at this; exact this)
    have HX := Lib.hid hr
    clear hr HR0 hok
    by_cases hle : (way l ad n).length ≤ n
    · have HF := Lib.hid (fnd_out hle)
      have d1 : decide (((way l ad n).length : Int) ≤ (n : Int)) = true := decide_eq_true (by omega)

      go_enter Try.func30, Try.ntmps30
      go_wp2_with fail
      generalize w.alloc (.cells #[.int .u32 (ad : Int), .int .i64 n] 30) = W at *
      go_wp2_with (first
        | (go_at_call 24; refine Calls.mono (HR.out _) ?_; rintro e w1 ⟨rfl, hb'⟩; have HB' := Lib.hid hb'; have c0 := cell_below c0 hb'; have c1 := cell_below c1 hb'; have HW := Lib.hid (way27 w1 M B g cap vf l fr c (H0.out.below hb') HC.out ad n HA.out hn); clear hb')
        | (go_at_call 27; refine Calls.mono HW.out ?_; rintro e w2 ⟨v, rfl, ho, hb2⟩; have HB2 := Lib.hid hb2; have c0 := cell_below c0 hb2; have c1 := cell_below c1 hb2; obtain ⟨ag, ac, rfl⟩ := own_form ho; clear ho hb2))
      go_ret
      exact ⟨ret_int HF.out.symm, bel_trans HB.out (bel_trans HB'.out HB2.out)⟩
    · have hj : (way l ad n)[n]? = some (way l ad n)[n] := List.getElem?_eq_getElem (by omega)
      have HF := Lib.hid (fnd_in HX.out hj)
      have HJ := Lib.hid hj
      have d1 : decide (((way l ad n).length : Int) ≤ (n : Int)) = false := decide_eq_false (by omega)
      have d2 : (0 : Int) ≤ (n : Int) := by omega
      have d3 : (n : Int) < ((way l ad n).length : Int) := by omega
      have d4 : 0 < (way l ad n).length := by omega
      generalize (way l ad n)[n] = j at *
      clear hj
      go_enter Try.func30, Try.ntmps30
      go_wp2_with fail
      generalize w.alloc (.cells #[.int .u32 (ad : Int), .int .i64 n] 30) = W at *
      go_wp2_with (first
        | (go_at_call 24; refine Calls.mono (HR.out _) ?_; rintro e w1 ⟨rfl, hb'⟩; have HB' := Lib.hid hb'; have c0 := cell_below c0 hb'; have c1 := cell_below c1 hb'; have HW := Lib.hid (way27 w1 M B g cap vf l fr c (H0.out.below hb') HC.out ad n HA.out hn); clear hb')
        | (go_at_call 27; refine Calls.mono HW.out ?_; rintro e w2 ⟨v, rfl, ho, hb2⟩; have HB2 := Lib.hid hb2; have c0 := cell_below c0 hb2; have c1 := cell_below c1 hb2; obtain ⟨ag, ac, rfl, _, _⟩ := ho.form d4; have cj := ints_at ho n j HJ.out; clear ho hb2))
      go_ret
      exact ⟨ret_int HF.out.symm, bel_trans HB.out (bel_trans HB'.out HB2.out)⟩
end Go.Proofs.Ytfpbcdlfcaglgaa.P
