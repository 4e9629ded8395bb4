/- Contract of Drop (layer 14). -/
import Derived.Test.YtfpbcdlfcaglgaaNL
import Derived.StillTailTactics
namespace Go.Proofs.Ytfpbcdlfcaglgaa.P
open Go.RowKit

/-- A node without its route. -/
def clrH (l : List Nd) (i : Nat) : List Nd := match l[i]? with
  | some x => l.set i ⟨x.a, x.b, x.r, false⟩
  | none => l
theorem clrH_at {l : List Nd} {i : Nat} {x : Nd} (h : l[i]? = some x) : clrH l i = l.set i ⟨x.a, x.b, x.r, false⟩ := by simp [clrH, h]
/-- The nodes that are not needed are let go, from the k-th of a way on. -/
def dropG (ad : Nat) (ws : List Nat) : Nat → List Nd → List Nat → List Nd × List Nat
  | 0, l, fr => (l, fr)
  | k + 1, l, fr => match ws[k + 1]?, ws[k]? with
    | some i, some p => (match l[i]? with
      | some x => if bareB x = true then dropG ad ws k (setChd l p (bt ad k) (-1)) (fr ++ [i]) else (l, fr)
      | none => (l, fr))
    | _, _ => (l, fr)
theorem dropG_go {ad k i p : Nat} {ws : List Nat} {l : List Nd} {fr : List Nat} {x : Nd} (h1 : ws[k + 1]? = some i) (h2 : ws[k]? = some p) (hx : l[i]? = some x) (hb : bareB x = true) :
    dropG ad ws (k + 1) l fr = dropG ad ws k (setChd l p (bt ad k) (-1)) (fr ++ [i]) := by
  rw [dropG]; simp [h1, h2, hx, hb]
theorem dropG_stop {ad k i p : Nat} {ws : List Nat} {l : List Nd} {fr : List Nat} {x : Nd} (h1 : ws[k + 1]? = some i) (h2 : ws[k]? = some p) (hx : l[i]? = some x) (hb : bareB x = false) :
    dropG ad ws (k + 1) l fr = (l, fr) := by
  rw [dropG]; simp [h1, h2, hx, hb]
/-- A load, kept whole. -/
def LDI (t : TypeId) (v : Value) : Sem Value := Instr.loadAt t v
theorem ldi56 (v : Value) : Instr.loadAt 56 v = LDI 56 v := rfl
attribute [local go_sem ↓] ldi56
theorem info56l (x : Nd) : (Try.prog.info? 56).map (·.size) = some (ndC x).length := by
  show _ = some 6
  kernel_rfl
theorem Tri.ndR {w : World} {M B g cap : Nat} {vf : Value} {l : List Nd} {fr : List Nat} {n : Int} (h : Tri w M B g cap vf l fr n) (i : Nat) (x : Nd) (hx : l[i]? = some x) : w.rangeAt g (i * 6) (ndC x) := by
  intro j u hu
  have hj : j < 6 := by have := (List.getElem?_eq_some_iff.1 hu).1; rwa [ndC_len] at this
  rw [h.nd i j x hx hj, hu]
theorem ld56 {w : World} {b o : Nat} {x : Nd} (h : w.rangeAt b o (ndC x)) : (LDI 56 (.pointer (some ⟨b, o, none⟩))).run Try.prog w = .ok (.agg (ndA x)) w :=
  run_loadAt_mid w b o 56 (ndC x) _ h Try.underlying56 rfl (info56l x)
theorem range_bw {W : World} {b o : Nat} {cs : List Value} (h : W.rangeAt b o cs) (hb : b < W.heap.size) (u : BW W) : u.w.rangeAt b o cs := fun j v hv => (u.b.cell (p := ⟨b, o + j, none⟩) hb).trans (h j v hv)
theorem ints_in {w : World} {M g cap n : Nat} {l : List Nat} (h : w.ownsRow M 3 1 (.slice (some ⟨g, 0, none⟩) n cap) n (intsL l)) : g < w.heap.size := (h.lt g rfl).2

theorem drop12_nil (w : World) (ad : Nat) (b : Int) : Calls Try.prog 12 #[.pointer none, .agg #[.int .u32 ad, .int .i64 b]] w fun e w' => e = .returned (.int .i64 1) ∧ Below w.heap.size w w' := by
  have hu30 := Try.underlying30
  go_enter Try.func12, Try.ntmps12
  go_wp2_with fail
  go_ret
  exact ⟨rfl, bel_alloc (Below.refl _ _) _⟩
set_option maxHeartbeats 1000000 in
theorem drop12_arg (w : World) (B : Nat) (ad : Nat) (b : Int) (ha : ad < 2 ^ 32) (hr : rightB ad b = false) : Calls Try.prog 12 #[.pointer (some ⟨B, 0, none⟩), .agg #[.int .u32 ad, .int .i64 b]] w fun e w' => e = .returned (.int .i64 1) ∧ Below w.heap.size w w' := by
  have hu30 := Try.underlying30
  have HR := Lib.hid (show ∀ w, Calls Try.prog 24 #[.agg #[.int .u32 ad, .int .i64 b]] w fun e w' => e = .returned (.bool false) ∧ Below w.heap.size w w' by rw [← hr]; exact right24 ad ha b)
  have HB := Lib.hid (bel_alloc (Below.refl _ w) (.cells #[.int .u32 (ad : Int), .int .i64 b] 30))
  have c0 : (w.alloc (.cells #[.int .u32 (ad : Int), .int .i64 b] 30)).cell? ⟨w.heap.size, 0, none⟩ = some (.int .u32 (ad : Int)) := World.cell?_alloc_mark w #[.int .u32 (ad : Int), .int .i64 b] 30 (0, 0) 0
  have c1 : (w.alloc (.cells #[.int .u32 (ad : Int), .int .i64 b] 30)).cell? ⟨w.heap.size, 1, none⟩ = some (.int .i64 b) := World.cell?_alloc_mark w #[.int .u32 (ad : Int), .int .i64 b] 30 (0, 0) 1
  clear hr
  go_enter Try.func12, Try.ntmps12
  go_wp2_with fail
  generalize w.alloc (.cells #[.int .u32 (ad : Int), .int .i64 b] 30) = W at *
  go_wp2_with (go_at_call 24; refine Calls.mono (HR.out _) ?_; rintro e w1 ⟨rfl, hb'⟩; have HB' := Lib.hid hb'; clear hb')
  go_ret
  exact ⟨rfl, bel_trans HB.out HB'.out⟩
set_option maxHeartbeats 2000000 in
theorem drop12_none (w : World) (M B g cap : Nat) (vf : Value) (l : List Nd) (fr : List Nat) (c : Int) (h : Tri w M B g cap vf l fr c) (hch : Chn l) (ad : Nat) (b : Int) (ha : ad < 2 ^ 32) (hr : rightB ad b = true) (hx : getF l ad b = none) : Calls Try.prog 12 #[.pointer (some ⟨B, 0, none⟩), .agg #[.int .u32 ad, .int .i64 b]] w fun e w' => e = .returned (.int .i64 6) ∧ Below w.heap.size w w' := by
  have hu32 := Try.underlying32
  have hu30 := Try.underlying30
  have HR := Lib.hid (show ∀ w, Calls Try.prog 24 #[.agg #[.int .u32 ad, .int .i64 b]] w fun e w' => e = .returned (.bool true) ∧ Below w.heap.size w w' by rw [← hr]; exact right24 ad ha b)
  have HB := Lib.hid (bel_alloc (Below.refl _ w) (.cells #[.int .u32 (ad : Int), .int .i64 b] 30))
  have c0 : (w.alloc (.cells #[.int .u32 (ad : Int), .int .i64 b] 30)).cell? ⟨w.heap.size, 0, none⟩ = some (.int .u32 (ad : Int)) := World.cell?_alloc_mark w #[.int .u32 (ad : Int), .int .i64 b] 30 (0, 0) 0
  have c1 : (w.alloc (.cells #[.int .u32 (ad : Int), .int .i64 b] 30)).cell? ⟨w.heap.size, 1, none⟩ = some (.int .i64 b) := World.cell?_alloc_mark w #[.int .u32 (ad : Int), .int .i64 b] 30 (0, 0) 1
  have HG := Lib.hid (show ∀ w, Tri w M B g cap vf l fr c → Calls Try.prog 20 #[.pointer (some ⟨B, 0, none⟩), .agg #[.int .u32 ad, .int .i64 b]] w fun e w' => e = .returned (.tuple #[.agg (rtA rt0), .bool false]) ∧ Below w.heap.size w w' from fun w h => by
    have := get20 w M B g cap vf l fr c h hch ad b ha
    rw [hx] at this; exact this)
  have H0 := Lib.hid (h.below HB.out)
  clear h hr hx
  go_enter Try.func12, Try.ntmps12
  go_wp2_with fail
  generalize w.alloc (.cells #[.int .u32 (ad : Int), .int .i64 b] 30) = W at *
  go_wp2_with (first
    | (go_at_call 24; refine Calls.mono (HR.out _) ?_; rintro e w1 ⟨rfl, hb'⟩; have HB' := Lib.hid hb'; have c0 := cell_below c0 hb'; have c1 := cell_below c1 hb'; clear hb')
    | (go_at_call 20; refine Calls.mono (HG.out _ (H0.out.below HB'.out)) ?_; rintro e w2 ⟨rfl, hb'⟩; have HB2 := Lib.hid (bel_trans HB'.out hb'); clear hb'; have N0 := Lib.hid (heap_alloc_new w2 (.cells rz 32)))
    | (refine wpList_store_row rfl 32 (.tmp 5) (.tmp 20) rfl w2.heap.size (rtA rt0) rfl rfl 32 rz N0.out (info32 _ _ _) rfl (one32 _) ?_; have HB3 := Lib.hid (bel_setRow (bel_alloc (Below.refl _ w2) (.cells #[.int .u32 0, .int .i64 0, .int .i64 0] 32)) w2.heap.size (rtA rt0) (Nat.le_refl _)); generalize (w2.alloc (.cells #[.int .u32 0, .int .i64 0, .int .i64 0] 32)).setRow w2.heap.size (rtA rt0) = w3 at HB3 ⊢))
  go_ret
  exact ⟨rfl, bel_trans HB.out (bel_trans HB2.out HB3.out)⟩
end Go.Proofs.Ytfpbcdlfcaglgaa.P
