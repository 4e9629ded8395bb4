/- Contracts of count.Text and count.Name. For the program's counters (layer 26); no condition. -/
import Derived.Test.YtkpnbkcebpeaoaaC1
namespace Go.Proofs.Ytkpnbkcebpeaoaa.P
open Go.RowKit
theorem text16 (r : Int) (w : World) : Calls Try.prog 16 #[.int .i64 r] w fun e w' => e = .returned (.string (textF r)) ∧ Below w.heap.size w w' := by
  have hu := Try.underlying54
  cases hr : okR r with
  | false =>
    have e : textF r = ⟨#[]⟩ := by simp [textF, hr]
    rw [e]
    have HR : Hid _ := right18 r
    go_enter Try.func16, Try.ntmps16
    go_wp2_with (go_at_call 18; refine (HR.out _).mono ?_; rintro e w' ⟨rfl, rfl⟩)
    go_ret
    exact ⟨rfl, Below.refl _ _⟩
  | true =>
    have h0 : 0 ≤ r ∧ r < 16 := by simpa [okR] using hr
    obtain ⟨n, rfl⟩ : ∃ n : Nat, r = n := ⟨r.toNat, by omega⟩
    have hn : n < 16 := by omega
    have e : textF n = nmAt n := by simp [textF, hr]
    rw [e]
    have hg := nm_get n hn
    have h1 : (0 : Int) ≤ (n : Int) := h0.1
    have h2 : (n : Int) < 16 := h0.2
    have HR : Hid _ := right18 (n : Int)
    clear h0 e
    generalize nmAt n = x at hg
    generalize hcs : nmCells = cs at hg
    have hsz : cs.size = 16 := by rw [← hcs]; rfl
    have HN : ∀ w, Calls Try.prog 21 #[] w fun e w' => e = .returned (.agg cs) ∧ w' = w.alloc (.cells cs 54) := by rw [← hcs]; exact names21
    replace HN : Hid _ := HN
    clear hcs
    have hix : ∀ W, Sem.run Try.prog (Instr.index 54 (.agg cs) (.int .i64 n)) W = .ok (.string x) W := by
      intro W
      have h3 : n < cs.size := by omega
      have hg' : cs[n] = .string x := by simpa [h3] using hg
      simp [Instr.index, go_sem, h1, hg', h3, part]
      omega
    go_enter Try.func16, Try.ntmps16
    go_wp2_with (first | (go_at_call 18; refine (HR.out _).mono ?_; rintro e w' ⟨rfl, rfl⟩) | (go_at_call 21; refine (HN.out _).mono ?_; rintro e w' ⟨rfl, rfl⟩))
    go_ret
    exact ⟨rfl, (Below.refl _ _).alloc (Nat.le_refl _) _⟩

def nameI (s : ByteArray) : Int := idxFrom (fun x => s.toList == x.toList) nmB 0
theorem name15 (s : ByteArray) (w : World) : Calls Try.prog 15 #[.string s] w fun e w' => e = .returned (.tuple #[.int .i64 (max (nameI s) 0), .bool (decide (0 ≤ nameI s))]) ∧ Below w.heap.size w w' := by
  have hu := Try.underlying54
  have HN : Hid _ := names21
  have HI : ∀ W, W = (w.alloc (.cells nmCells 54)).alloc (.cells nmCells 54) → Calls Try.prog 22 #[.slice (some ⟨w.heap.size + 1, 0, none⟩) 16 16, .string s] W fun e w' => e = .returned (.int .i64 (nameI s)) ∧ W = w' := fun W hW => by
    subst hW
    exact index22 s nmB (w.heap.size + 1) _ rfl (fun j x hx => by
      have hj : j < 16 := (List.getElem?_eq_some_iff.1 hx).1
      have hx' : x = nmAt j := by simp [nmAt, List.getD, hx]
      rw [cell_of_row _ _ _ nmCells 54 (0, 0) (by have := heap_alloc_new (w.alloc (.cells nmCells 54)) (.cells nmCells 54); simpa using this), nm_get j hj, hx'])
  replace HI : Hid _ := HI
  generalize nameI s = i at HI ⊢
  simp only [nmCells, tx] at HN HI
  go_enter Try.func15, Try.ntmps15
  go_wp2_with (first | (go_at_call 21; refine (HN.out _).mono ?_; rintro e w' ⟨rfl, rfl⟩) | (go_at_call 22; refine (HI.out _ rfl).mono ?_; rintro e w' ⟨rfl, rfl⟩))
  all_goals
    go_ret2
    refine ⟨?_, ((Below.refl _ _).alloc (Nat.le_refl _) _).alloc (by simp) _⟩
    simp
    omega

end Go.Proofs.Ytkpnbkcebpeaoaa.P
