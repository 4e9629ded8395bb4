/- Contracts of count's small functions: right, silent, names, Text, Name. For the program's counters (layer 26); no condition. -/
import Derived.Test.YtkpnbkcebpeaoaaProg
import Derived.Below
import Derived.OneCell
import Derived.Deep.Draws
import Derived.Deep.AppendLies
import Derived.Maps.AppendAt
import Derived.OwnWalk
import Derived.Laws.OwnMore
import Derived.Tactics
import Derived.Laws.Slices
import Derived.WalkKit
import Derived.KernelRfl
import Derived.RowKit3
import Derived.Deep.LoopGhost
import Derived.BigQuiet
import Derived.WideLaws
import Derived.Deep.RegionHeld3
import Derived.Deep.RegionLaw
import Derived.Laws.Rows
import Derived.Laws.IdiomCopy
import Derived.OrdersHeld
import Derived.RowKit
import Derived.WalkMore
import Derived.Lib.SliceRun
import Derived.Lib.BufferMore
import Derived.Lib.BufferWrite
namespace Go.Proofs.Ytkpnbkcebpeaoaa.P
open Go.RowKit

theorem below_then {B : Nat} {a b c : World} (h : Below B a b) (hs : B ≤ b.heap.size) (k : Below b.heap.size b c) : Below B a c := h.trans (k.mono hs)
theorem bel_trans {w w1 w2 : World} (h : Below w.heap.size w w1) (k : Below w1.heap.size w1 w2) : Below w.heap.size w w2 := below_then h h.size k
theorem bcell {W w1 : World} (hb : Below W.heap.size W w1) : ∀ b o, b < W.heap.size → w1.cell? ⟨b, o, none⟩ = W.cell? ⟨b, o, none⟩ :=
  fun b o h => hb.cell (p := ⟨b, o, none⟩) h

def okR (r : Int) : Bool := decide (0 ≤ r) && decide (r < 16)
theorem right18 (r : Int) (w : World) : Calls Try.prog 18 #[.int .i64 r] w fun e w' => e = .returned (.bool (okR r)) ∧ w = w' := by
  go_enter Try.func18, Try.ntmps18
  go_wp2
  all_goals
    go_ret
    exact ⟨by simp_all [okR]; try omega, rfl⟩

def quietR (r : Int) : Bool := r == 0 || r == 1 || r == 3
theorem silent19 (r : Int) (w : World) : Calls Try.prog 19 #[.int .i64 r] w fun e w' => e = .returned (.bool (quietR r)) ∧ w = w' := by
  go_enter Try.func19, Try.ntmps19
  go_wp2
  all_goals
    go_ret
    exact ⟨by simp_all [quietR]; try omega, rfl⟩

def tx (l : List UInt8) : Value := .string ⟨l.toArray⟩
/-- The reasons' names. -/
def nm : List (List UInt8) := [[105, 110], [111, 117, 116], [108, 111, 99, 97, 108], [119, 97, 105, 116], [103, 97, 116, 104, 101, 114], [108, 105, 118, 101], [100, 101, 110, 121], [102, 108, 111, 119], [102, 117, 108, 108], [114, 111, 117, 116, 101], [114, 97, 110, 103, 101], [115, 105, 122, 101], [113, 117, 101, 117, 101], [115, 97, 105, 100], [113, 117, 105, 101, 116], [111, 118, 101, 114]]
def nmCells : Array Value := #[tx [105, 110], tx [111, 117, 116], tx [108, 111, 99, 97, 108], tx [119, 97, 105, 116], tx [103, 97, 116, 104, 101, 114], tx [108, 105, 118, 101], tx [100, 101, 110, 121], tx [102, 108, 111, 119], tx [102, 117, 108, 108], tx [114, 111, 117, 116, 101], tx [114, 97, 110, 103, 101], tx [115, 105, 122, 101], tx [113, 117, 101, 117, 101], tx [115, 97, 105, 100], tx [113, 117, 105, 101, 116], tx [111, 118, 101, 114]]

theorem names21 (w : World) : Calls Try.prog 21 #[] w fun e w' => e = .returned (.agg nmCells) ∧ w' = w.alloc (.cells nmCells 54) := by
  have hu := Try.underlying54
  go_enter Try.func21, Try.ntmps21
  go_wp2
  refine bodyPost_ret (results_cell_row rfl _ _ w.heap.size 54 nmCells (0, 0) _ rfl ?_ Try.underlying54 rfl (by kernel_rfl)) rfl ?_
  · exact heap_alloc_new w _
  · exact ⟨rfl, rfl⟩

/-- The first place from i on at which p holds; -1: there is none. -/
def idxFrom {α : Type} (p : α → Bool) : List α → Int → Int
  | [], _ => -1
  | x :: l, i => if p x = true then i else idxFrom p l (i + 1)
theorem idxFrom_drop {α : Type} (p : α → Bool) (l : List α) (kk : Nat) (x : α) (h : l[kk]? = some x) :
    idxFrom p (l.drop kk) kk = if p x = true then (kk : Int) else idxFrom p (l.drop (kk + 1)) ((kk + 1 : Nat) : Int) := by
  obtain ⟨hk, he⟩ := List.getElem?_eq_some_iff.1 h
  rw [List.drop_eq_getElem_cons hk, he]
  simp [idxFrom]

def nmB : List ByteArray := nm.map fun l => ⟨l.toArray⟩
theorem index22 (s : ByteArray) (l : List ByteArray) (g : Nat) (w : World) (hl : l.length = 16) (hc : ∀ j x, l[j]? = some x → w.cell? ⟨g, j, none⟩ = some (.string x)) :
    Calls Try.prog 22 #[.slice (some ⟨g, 0, none⟩) 16 16, .string s] w fun e w' => e = .returned (.int .i64 (idxFrom (fun x => s.toList == x.toList) l 0)) ∧ w = w' := by
  have HC : Hid _ := hc
  have HL : Hid _ := hl
  clear hc hl
  go_enter Try.func22, Try.ntmps22
  go_wp2
  go_loopg [5, 8] 16 (fun gg _ s8 wr => ∃ kk : Nat, kk ≤ 16 ∧ 16 - kk ≤ gg ∧ s8 = .int .i64 kk ∧ w = wr ∧ Hid (idxFrom (fun x => s.toList == x.toList) (l.drop kk) kk = idxFrom (fun x => s.toList == x.toList) l 0))
  case atStart => exact ⟨0, Nat.zero_le _, by omega, rfl, rfl, rfl⟩
  case round =>
    obtain ⟨kk, hkk, hg, rfl, rfl, HI⟩ := hrel
    by_cases hlt : kk < 16
    · have hltz : (kk : Int) < 16 := by omega
      obtain ⟨x, hx⟩ : ∃ x, l[kk]? = some x := ⟨_, List.getElem?_eq_getElem (by have := HL; unfold Hid at this; omega)⟩
      have hcell := HC kk x hx
      have HX : Hid _ := idxFrom_drop (fun x => s.toList == x.toList) l kk x hx
      clear hx
      cases hq : (s.toList == x.toList) with
      | true =>
        have HQ : Hid _ := hq
        have hcond : (s.toList == x.toList) = true := hq
        clear hq
        go_wp2
        go_ret
        refine ⟨?_, rfl⟩
        have e1 := HX.out
        rw [if_pos HQ.out, HI.out] at e1
        rw [e1]
        rfl
      | false =>
        have HQ : Hid _ := hq
        go_wp2
        go_roundg (16 - (kk + 1))
        case measure => omega
        case rel =>
          refine ⟨kk + 1, by omega, by omega, by go_num, rfl, ?_⟩
          have e1 := HX.out
          rw [if_neg (by rw [HQ.out]; decide), HI.out] at e1
          exact e1.symm
    · have hltz : ¬ (kk : Int) < 16 := by omega
      have hk : kk = 16 := by omega
      have HK : Hid _ := hk
      clear hk
      go_wp2
      go_ret
      refine ⟨?_, rfl⟩
      rw [← HI.out, HK.out, List.drop_of_length_le (Nat.le_of_eq HL.out)]
      rfl

def nmAt (r : Int) : ByteArray := nmB.getD r.toNat ⟨#[]⟩
def textF (r : Int) : ByteArray := if okR r = true then nmAt r else ⟨#[]⟩
theorem nm_get : ∀ n : Nat, n < 16 → nmCells[n]? = some (.string (nmAt n))
  | 0, _ => rfl
  | 1, _ => rfl
  | 2, _ => rfl
  | 3, _ => rfl
  | 4, _ => rfl
  | 5, _ => rfl
  | 6, _ => rfl
  | 7, _ => rfl
  | 8, _ => rfl
  | 9, _ => rfl
  | 10, _ => rfl
  | 11, _ => rfl
  | 12, _ => rfl
  | 13, _ => rfl
  | 14, _ => rfl
  | 15, _ => rfl
  | n + 16, h => absurd h (by omega)
end Go.Proofs.Ytkpnbkcebpeaoaa.P
