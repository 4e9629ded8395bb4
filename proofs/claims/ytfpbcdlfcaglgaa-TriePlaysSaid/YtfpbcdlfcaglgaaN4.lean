/- Contract of the reference's Holds (layer 3); nodes, the trie's memory; contracts of empty, New, Len, Nodes (layer 14). -/
import Derived.Test.YtfpbcdlfcaglgaaN3
namespace Go.Proofs.Ytfpbcdlfcaglgaa.P
open Go.RowKit

/-- Does a prefix hold an address? -/
def holdsB (p : Nat) (b : Int) (a : Nat) : Bool := rightB p b && decide (∀ k, k < b.toNat → bt p k = bt a k)
theorem rightB_le {p : Nat} {b : Int} (h : rightB p b = true) : ∃ n : Nat, b = n ∧ n ≤ 32 ∧ okP p n = true := by
  simp only [rightB, Bool.and_eq_true, decide_eq_true_eq] at h
  have h2 := h.2
  simp only [okP, Bool.and_eq_true, decide_eq_true_eq] at h2
  exact ⟨b.toNat, by omega, h2.1, h.2⟩
theorem holdsB_no {p n a k : Nat} (h1 : k < n) (h : bt p k ≠ bt a k) : holdsB p n a = false := by
  simp only [holdsB, Int.toNat_natCast, Bool.and_eq_false_iff, decide_eq_false_iff_not]
  exact .inr fun h2 => h (h2 k h1)
theorem holdsB_yes {p n a : Nat} (h : rightB p n = true) (h1 : ∀ k, k < n → bt p k = bt a k) : holdsB p n a = true := by
  simp only [holdsB, Int.toNat_natCast, Bool.and_eq_true, decide_eq_true_eq]
  exact ⟨h, h1⟩
theorem bI_ne {x y : Bool} : (bI x != bI y) = (x != y) := by cases x <;> cases y <;> rfl
set_option maxHeartbeats 1000000 in
theorem holds11 (p : Nat) (hp : p < 2 ^ 32) (b : Int) (a : Nat) (ha : a < 2 ^ 32) (w : World) : Calls Try.prog 11 #[.agg #[.int .u32 p, .int .i64 b], .int .u32 a] w fun e w' => e = .returned (.bool (holdsB p b a)) ∧ Below w.heap.size w w' := by
  have hu30 := Try.underlying30
  have c0 : (w.alloc (.cells #[.int .u32 (p : Int), .int .i64 b] 30)).cell? ⟨w.heap.size, 0, none⟩ = some (.int .u32 (p : Int)) := World.cell?_alloc_mark w #[.int .u32 (p : Int), .int .i64 b] 30 (0, 0) 0
  have c1 : (w.alloc (.cells #[.int .u32 (p : Int), .int .i64 b] 30)).cell? ⟨w.heap.size, 1, none⟩ = some (.int .i64 b) := World.cell?_alloc_mark w #[.int .u32 (p : Int), .int .i64 b] 30 (0, 0) 1
  have HB := Lib.hid (bel_alloc (Below.refl _ w) (.cells #[.int .u32 (p : Int), .int .i64 b] 30))
  have hlt : w.heap.size < (w.alloc (.cells #[.int .u32 (p : Int), .int .i64 b] 30)).heap.size := by simp
  have HR0 := Lib.hid (right17 p hp b)
  cases hr : rightB p b with
  | false =>
    have HO := Lib.hid (show holdsB p b a = false by simp [holdsB, hr])
    have HR := Lib.hid (show ∀ w, Calls Try.prog 17 #[.agg #[.int .u32 p, .int .i64 b]] w fun e w' => e = .returned (.bool false) ∧ Below w.heap.size w w' by have := HR0.out; rw [hr] at this; exact this)
    clear hr
    go_enter Try.func11, Try.ntmps11
    go_wp2_with (go_at_call 17; refine (HR.out _).mono ?_; rintro e w' ⟨rfl, hb'⟩; have HB' := Lib.hid hb'; clear hb')
    go_ret
    exact ⟨ret_bool HO.out.symm, bel_trans HB.out HB'.out⟩
  | true =>
    obtain ⟨n, rfl, hn, hok⟩ := rightB_le hr
    have HR := Lib.hid (show ∀ w, Calls Try.prog 17 #[.agg #[.int .u32 p, .int .i64 n]] w fun e w' => e = .returned (.bool true) ∧ Below w.heap.size w w' by have := HR0.out; rw [hr] at this; exact this)
    have HO := Lib.hid (holdsB_yes (a := a) hr)
    have HN := Lib.hid (fun k => holdsB_no (p := p) (n := n) (a := a) (k := k))
    have HAN := Lib.hid ha
    have HPN := Lib.hid hp
    clear hr HR0 hok
    generalize holdsB p n a = ans at HO HN ⊢
    go_enter Try.func11, Try.ntmps11
    go_wp2_with fail
    generalize w.alloc (.cells #[.int .u32 (p : Int), .int .i64 n] 30) = W at *
    go_wp2_with (go_at_call 17; refine (HR.out _).mono ?_; rintro e W1 ⟨rfl, hb'⟩; have c0 := (hb'.cell (p := ⟨w.heap.size, 0, none⟩) hlt).trans c0; have c1 := (hb'.cell (p := ⟨w.heap.size, 1, none⟩) hlt).trans c1; have HB' := Lib.hid (bel_trans HB.out hb'); clear hb')
    go_loopg [5] 33 (fun gg s5 wr => ∃ k : Nat, k ≤ n ∧ 32 - k ≤ gg ∧ s5 = .int .i64 k ∧ W1 = wr ∧ Hid (∀ j, j < k → bt p j = bt a j))
    case atStart => exact ⟨0, Nat.zero_le _, by omega, rfl, rfl, fun j h => absurd h (by omega)⟩
    case round =>
      obtain ⟨k, hk1, hgg, rfl, rfl, HI⟩ := hrel
      by_cases hk : k < n
      · have dk : decide ((k : Int) < (n : Int)) = true := decide_eq_true (by omega)
        have HC := Lib.hid (bit28 p k HPN.out (by omega))
        have HD := Lib.hid (bit28 a k HAN.out (by omega))
        have hne := bI_ne (x := bt p k) (y := bt a k)
        cases hq : (bt p k != bt a k) with
        | true =>
          rw [hq] at hne
          have HR := Lib.hid (HN.out k hk (by simpa using hq))
          clear hq
          go_wp2_with (go_at_call 28; first | (with_reducible refine Calls.mono (HC.out _) ?_; rintro e w' ⟨rfl, rfl⟩) | (with_reducible refine Calls.mono (HD.out _) ?_; rintro e w' ⟨rfl, rfl⟩))
          go_ret
          exact ⟨ret_bool HR.out.symm, HB'.out⟩
        | false =>
          rw [hq] at hne
          have HF := Lib.hid (show bt p k = bt a k by simpa using hq)
          clear hq
          go_wp2_with (go_at_call 28; first | (with_reducible refine Calls.mono (HC.out _) ?_; rintro e w' ⟨rfl, rfl⟩) | (with_reducible refine Calls.mono (HD.out _) ?_; rintro e w' ⟨rfl, rfl⟩))
          go_roundg (32 - (k + 1))
          case measure => omega
          case rel =>
            refine ⟨k + 1, hk, Nat.le_refl _, by go_num, rfl, fun j h2 => ?_⟩
            rcases Nat.lt_or_ge j k with h | h
            · exact HI.out j h
            · rw [show j = k by omega]; exact HF.out
      · have dk : decide ((k : Int) < (n : Int)) = false := decide_eq_false (by omega)
        have HR := Lib.hid (HO.out (fun j h2 => HI.out j (by omega)))
        go_wp2_with fail
        go_ret
        exact ⟨ret_bool HR.out.symm, HB'.out⟩
end Go.Proofs.Ytfpbcdlfcaglgaa.P
