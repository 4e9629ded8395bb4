/- CountNames answers true. For the program's counters (layer 26). -/
import Derived.Test.YtkpnbkcebpeaoaaC2
import Derived.Test.YtkpnbkcebpeaoaaC6
import Derived.WideShapes
namespace Go.Proofs.Ytkpnbkcebpeaoaa.P
open Go.RowKit

theorem idx_hit {α : Type} (p : α → Bool) : ∀ (l : List α) (i : Int), idxFrom p l i = -1 ∨ ∃ k x, l[k]? = some x ∧ p x = true ∧ idxFrom p l i = i + (k : Nat)
  | [], _ => .inl rfl
  | x :: l, i => by
    unfold idxFrom
    by_cases h : p x = true
    · exact .inr ⟨0, x, rfl, h, by rw [if_pos h]; simp⟩
    · rw [if_neg h]
      rcases idx_hit p l (i + 1) with h1 | ⟨k, y, h1, h2, h3⟩
      · exact .inl h1
      · exact .inr ⟨k + 1, y, by simpa using h1, h2, by rw [h3]; omega⟩
theorem idx_map {α β : Type} (p : β → Bool) (f : α → β) : ∀ (l : List α) (i : Int), idxFrom p (l.map f) i = idxFrom (fun x => p (f x)) l i
  | [], _ => rfl
  | x :: l, i => by simp only [List.map_cons, idxFrom, idx_map p f l]
def nameL (b : List UInt8) : Int := idxFrom (fun x => b == x) nm 0
theorem nameI_eq (s : ByteArray) : nameI s = nameL s.data.toList := by
  unfold nameI nameL nmB
  rw [idx_map]
  simp only [ByteArray.toList_eq]
theorem name_hit (s : ByteArray) (h : 0 ≤ nameI s) : nameI s < 16 ∧ textF (nameI s) = s := by
  unfold nameI at h ⊢
  rcases idx_hit (fun x => s.toList == x.toList) nmB 0 with h1 | ⟨k, x, h1, h2, h3⟩
  · rw [h1] at h; omega
  · have hk : k < 16 := (List.getElem?_eq_some_iff.1 h1).1
    rw [h3]
    refine ⟨by omega, ?_⟩
    have hr : okR (0 + (k : Int)) = true := by simp [okR]; omega
    unfold textF
    rw [if_pos hr]
    have : nmAt (0 + (k : Int)) = x := by simp [nmAt, List.getD, h1]
    rw [this]
    apply Go.WideShapes.bytes_inj
    have := eq_of_beq h2
    rw [ByteArray.toList_eq, ByteArray.toList_eq] at this
    exact this.symm
theorem text_name (n : Nat) (hn : n < 16) : nameI (textF n) = n ∧ (textF n).data.toList ≠ [] := by
  have h1 : ∀ m : Fin 16, nameL (nm.getD m.1 []) = m.1 ∧ nm.getD m.1 [] ≠ [] := by decide
  have hr : okR (n : Int) = true := by simp [okR]; omega
  have e : (textF n).data.toList = nm.getD n [] := by
    unfold textF
    rw [if_pos hr]
    have hl : n < nm.length := hn
    simp [nmAt, nmB, List.getD, List.getElem?_eq_getElem hl]
  rw [nameI_eq, e]
  exact h1 ⟨n, hn⟩
theorem text_no (r : Int) (h : okR r = false) : textF r = ⟨#[]⟩ ∧ nameI ⟨#[]⟩ = -1 := by
  refine ⟨by simp [textF, h], ?_⟩
  rw [nameI_eq]
  decide

set_option maxHeartbeats 1000000 in
theorem names6 (s : ByteArray) (r : Int) (w : World) : Calls Try.prog 6 #[.string s, .int .i64 r] w fun e w' => e = .returned (.bool true) ∧ Below w.heap.size w w' := by
  have HW : Hid _ := awake7
  by_cases hlen : (s.size : Int) > 60
  · go_enter Try.func6, Try.ntmps6
    go_wp2_with (go_at_call 7; refine (HW.out _).mono ?_; rintro e w7 ⟨rfl, hb7⟩; have B7 : Hid _ := hb7; clear hb7)
    go_ret
    exact ⟨rfl, B7.out⟩
  · obtain ⟨tr, htr⟩ : ∃ tr, tr = textF r := ⟨_, rfl⟩
    have A2 : Hid (∀ w, Calls Try.prog 16 #[.int .i64 r] w fun e w' => e = .returned (.string tr) ∧ Below w.heap.size w w') := by rw [htr]; exact text16 r
    have A3 : Hid (∀ w, Calls Try.prog 15 #[.string tr] w fun e w' => e = .returned (.tuple #[.int .i64 (if okR r = true then r else 0), .bool (okR r)]) ∧ Below w.heap.size w w') := by
      have h := name15 tr
      cases hr : okR r with
      | true =>
        have h0 : 0 ≤ r ∧ r < 16 := by simpa [okR] using hr
        obtain ⟨n, rfl⟩ : ∃ n : Nat, r = n := ⟨r.toNat, by omega⟩
        have h1 := (text_name n (by omega)).1
        rw [← htr] at h1
        rw [h1] at h
        rw [show max (n : Int) 0 = n by omega, show decide (0 ≤ (n : Int)) = true by simp] at h
        exact h
      | false =>
        have h1 := text_no r hr
        rw [h1.1] at htr
        rw [← htr] at h1
        rw [h1.2] at h
        exact h
    have hne : (tr.toList == []) = !okR r := by
      rw [ByteArray.toList_eq]
      cases hr : okR r with
      | true =>
        have h0 : 0 ≤ r ∧ r < 16 := by simpa [okR] using hr
        obtain ⟨n, rfl⟩ : ∃ n : Nat, r = n := ⟨r.toNat, by omega⟩
        have h1 := (text_name n (by omega)).2
        rw [← htr] at h1
        simpa using h1
      | false =>
        rw [htr, (text_no r hr).1]; rfl
    have hrr : (0 ≤ r ∧ r < 16) ↔ okR r = true := by simp [okR]
    have A1 := name15 s
    by_cases hi : 0 ≤ nameI s
    · obtain ⟨h16, hts⟩ := name_hit s hi
      have A4 := text16 (nameI s)
      rw [hts] at A4
      rw [show max (nameI s) 0 = nameI s by omega, show decide (0 ≤ nameI s) = true by simpa using hi] at A1
      generalize nameI s = i at A1 A4 hi h16
      have A1 : Hid _ := A1
      have A4 : Hid _ := A4
      cases hr : okR r with
      | true =>
        rw [hr] at A3 hne
        have h0 := (hrr.2 hr).1
        have h1 := (hrr.2 hr).2
        have A3 : Hid (∀ w, Calls Try.prog 15 #[.string tr] w fun e w' => e = .returned (.tuple #[.int .i64 r, .bool true]) ∧ Below w.heap.size w w') := A3
        clear hrr htr hts
        go_enter Try.func6, Try.ntmps6
        go_wp2_with (first
          | (go_at_call 15; refine (A1.out _).mono ?_; rintro e w1 ⟨rfl, hb1⟩; have B1 : Hid _ := hb1; clear hb1 A1)
          | (go_at_call 16; refine (A2.out _).mono ?_; rintro e w2 ⟨rfl, hb2⟩; have B2 : Hid _ := hb2; clear hb2 A2)
          | (go_at_call 15; refine (A3.out _).mono ?_; rintro e w3 ⟨rfl, hb3⟩; have B3 : Hid _ := hb3; clear hb3 A3)
          | (go_at_call 16; refine (A4.out _).mono ?_; rintro e w4 ⟨rfl, hb4⟩; have B4 : Hid _ := hb4; clear hb4 A4)
          | (go_at_call 7; refine (HW.out _).mono ?_; rintro e w7 ⟨rfl, hb7⟩; have B7 : Hid _ := hb7; clear hb7))
        go_ret
        exact ⟨rfl, bel_trans (bel_trans (bel_trans (bel_trans B1.out B2.out) B3.out) B4.out) B7.out⟩
      | false =>
        rw [hr] at A3 hne
        have hnr : ¬ (0 ≤ r ∧ r < 16) := fun h => by rw [hrr.1 h] at hr; cases hr
        have A3 : Hid (∀ w, Calls Try.prog 15 #[.string tr] w fun e w' => e = .returned (.tuple #[.int .i64 0, .bool false]) ∧ Below w.heap.size w w') := A3
        clear hrr htr hts
        go_enter Try.func6, Try.ntmps6
        go_wp2_with (first
          | (go_at_call 15; refine (A1.out _).mono ?_; rintro e w1 ⟨rfl, hb1⟩; have B1 : Hid _ := hb1; clear hb1 A1)
          | (go_at_call 16; refine (A2.out _).mono ?_; rintro e w2 ⟨rfl, hb2⟩; have B2 : Hid _ := hb2; clear hb2 A2)
          | (go_at_call 15; refine (A3.out _).mono ?_; rintro e w3 ⟨rfl, hb3⟩; have B3 : Hid _ := hb3; clear hb3 A3)
          | (go_at_call 16; refine (A4.out _).mono ?_; rintro e w4 ⟨rfl, hb4⟩; have B4 : Hid _ := hb4; clear hb4 A4)
          | (go_at_call 7; refine (HW.out _).mono ?_; rintro e w7 ⟨rfl, hb7⟩; have B7 : Hid _ := hb7; clear hb7))
        all_goals
          go_ret
          exact ⟨rfl, bel_trans (bel_trans (bel_trans (bel_trans B1.out B2.out) B3.out) B4.out) B7.out⟩
    · have hm : max (nameI s) 0 = 0 := by omega
      rw [hm, show decide (0 ≤ nameI s) = false by simpa using hi] at A1
      have A1 : Hid _ := A1
      clear hi hm
      cases hr : okR r with
      | true =>
        rw [hr] at A3 hne
        have h0 := (hrr.2 hr).1
        have h1 := (hrr.2 hr).2
        have A3 : Hid (∀ w, Calls Try.prog 15 #[.string tr] w fun e w' => e = .returned (.tuple #[.int .i64 r, .bool true]) ∧ Below w.heap.size w w') := A3
        clear hrr htr
        go_enter Try.func6, Try.ntmps6
        go_wp2_with (first
          | (go_at_call 15; refine (A1.out _).mono ?_; rintro e w1 ⟨rfl, hb1⟩; have B1 : Hid _ := hb1; clear hb1 A1)
          | (go_at_call 16; refine (A2.out _).mono ?_; rintro e w2 ⟨rfl, hb2⟩; have B2 : Hid _ := hb2; clear hb2 A2)
          | (go_at_call 15; refine (A3.out _).mono ?_; rintro e w3 ⟨rfl, hb3⟩; have B3 : Hid _ := hb3; clear hb3 A3)
          | (go_at_call 7; refine (HW.out _).mono ?_; rintro e w7 ⟨rfl, hb7⟩; have B7 : Hid _ := hb7; clear hb7))
        all_goals
          go_ret
          exact ⟨rfl, bel_trans (bel_trans (bel_trans B1.out B2.out) B3.out) B7.out⟩
      | false =>
        rw [hr] at A3 hne
        have hnr : ¬ (0 ≤ r ∧ r < 16) := fun h => by rw [hrr.1 h] at hr; cases hr
        have A3 : Hid (∀ w, Calls Try.prog 15 #[.string tr] w fun e w' => e = .returned (.tuple #[.int .i64 0, .bool false]) ∧ Below w.heap.size w w') := A3
        clear hrr htr
        go_enter Try.func6, Try.ntmps6
        go_wp2_with (first
          | (go_at_call 15; refine (A1.out _).mono ?_; rintro e w1 ⟨rfl, hb1⟩; have B1 : Hid _ := hb1; clear hb1 A1)
          | (go_at_call 16; refine (A2.out _).mono ?_; rintro e w2 ⟨rfl, hb2⟩; have B2 : Hid _ := hb2; clear hb2 A2)
          | (go_at_call 15; refine (A3.out _).mono ?_; rintro e w3 ⟨rfl, hb3⟩; have B3 : Hid _ := hb3; clear hb3 A3)
          | (go_at_call 7; refine (HW.out _).mono ?_; rintro e w7 ⟨rfl, hb7⟩; have B7 : Hid _ := hb7; clear hb7))
        all_goals
          go_ret
          exact ⟨rfl, bel_trans (bel_trans (bel_trans B1.out B2.out) B3.out) B7.out⟩

end Go.Proofs.Ytkpnbkcebpeaoaa.P
