/- Add, purely; contract of fresh in one; of Add where it refuses (layer 14). -/
import Derived.Test.YtfpbcdlfcaglgaaNC
namespace Go.Proofs.Ytfpbcdlfcaglgaa.P
open Go.RowKit

theorem freshL_len (l : List Nd) (fr : List Nat) : l.length ≤ (freshL l fr).length ∧ (freshL l fr).length ≤ l.length + 1 := by
  unfold freshL; split <;> simp
/-- Free places are there. -/
def FrL (l : List Nd) (fr : List Nat) : Prop := ∀ x ∈ fr, x < l.length
theorem freshI_lt {l : List Nd} {fr : List Nat} (h : FrL l fr) : freshI l fr < (freshL l fr).length := by
  unfold freshI freshL
  cases hf : fr.getLast? with
  | none => simp
  | some i => simp; exact h i (List.mem_of_getLast? hf)
theorem fresh26 (w : World) (M B g cap : Nat) (vf : Value) (l : List Nd) (fr : List Nat) (c : Int) (h : Tri w M B g cap vf l fr c) (hf : FrL l fr) (hll : l.length ≤ 100000) (hfl : fr.length ≤ 100000) :
    Calls Try.prog 26 #[.pointer (some ⟨B, 0, none⟩)] w fun e w' => e = .returned (.int .i64 (freshI l fr)) ∧ ∃ g' cap' vf', Tri w' M B g' cap' vf' (freshL l fr) fr.dropLast c ∧ Chg B g vf w w' g' vf' := by
  cases hg : fr.getLast? with
  | some i =>
    rw [freshL_free hg, freshI_free hg]
    exact fresh26_free w M B g cap vf l fr c h i hg (hf i (List.mem_of_getLast? hg)) hfl
  | none =>
    have : fr = [] := List.getLast?_eq_none_iff.1 hg
    subst this
    exact fresh26_new w M B g cap vf l c h hll
/-- A node with another child. -/
def setC (x : Nd) (b : Bool) (j : Int) : Nd := if b = true then ⟨x.a, j, x.r, x.has⟩ else ⟨j, x.b, x.r, x.has⟩
def setChd (l : List Nd) (a : Nat) (b : Bool) (j : Int) : List Nd := match l[a]? with
  | some x => l.set a (setC x b j)
  | none => l
theorem setChd_len (l : List Nd) (a : Nat) (b : Bool) (j : Int) : (setChd l a b j).length = l.length := by
  unfold setChd; split <;> simp
theorem chd_setC (x : Nd) (b : Bool) (j : Int) (b' : Bool) : chd (setC x b j) b' = if b' = b then j else chd x b' := by
  cases b <;> cases b' <;> rfl
/-- The nodes and the free places behind a prefix's way, and its last node. -/
def addG (ad : Nat) : Nat → Nat → List Nd → List Nat → Nat → List Nd × List Nat × Nat
  | 0, _, l, fr, a => (l, fr, a)
  | m + 1, k, l, fr, a => match l[a]? with
    | none => (l, fr, a)
    | some x => if chd x (bt ad k) = -1 then addG ad m (k + 1) (setChd (freshL l fr) a (bt ad k) (freshI l fr)) fr.dropLast (freshI l fr)
      else addG ad m (k + 1) l fr (chd x (bt ad k)).toNat
theorem addG_new {ad m k a : Nat} {l : List Nd} {fr : List Nat} {x : Nd} (hx : l[a]? = some x) (h : chd x (bt ad k) = -1) :
    addG ad (m + 1) k l fr a = addG ad m (k + 1) (setChd (freshL l fr) a (bt ad k) (freshI l fr)) fr.dropLast (freshI l fr) := by simp [addG, hx, h]
theorem addG_go {ad m k a j : Nat} {l : List Nd} {fr : List Nat} {x : Nd} (hx : l[a]? = some x) (h : chd x (bt ad k) = j) :
    addG ad (m + 1) k l fr a = addG ad m (k + 1) l fr j := by
  have : ¬ chd x (bt ad k) = -1 := by omega
  rw [addG]; simp only [hx, if_neg this]; rw [h]; rfl
theorem chn_set {l : List Nd} (h : Chn l) (i : Nat) (y : Nd) (hy : ∀ b, chd y b = -1 ∨ ∃ j : Nat, chd y b = j ∧ j < l.length) : Chn (l.set i y) := by
  intro k x hx b
  rw [List.length_set]
  rw [List.getElem?_set] at hx
  split at hx
  · split at hx
    · cases hx; exact hy b
    · cases hx
  · exact h k x hx b
theorem chd_nd0 (b : Bool) : chd nd0 b = -1 := by cases b <;> rfl
theorem chn_fresh {l : List Nd} (h : Chn l) (fr : List Nat) : Chn (freshL l fr) := by
  unfold freshL
  split
  · exact chn_set h _ _ (fun b => .inl (chd_nd0 b))
  · intro k x hx b
    rcases Nat.lt_or_ge k l.length with hk | hk
    · rw [List.getElem?_append_left hk] at hx
      rcases h k x hx b with h1 | ⟨j, h1, h2⟩
      · exact .inl h1
      · exact .inr ⟨j, h1, by simp; omega⟩
    · rw [List.getElem?_append_right hk] at hx
      cases hk2 : k - l.length with
      | zero => rw [hk2] at hx; simp at hx; subst hx; exact .inl (chd_nd0 b)
      | succ n => rw [hk2] at hx; simp at hx
theorem chn_setChd {l : List Nd} (h : Chn l) (a : Nat) (b : Bool) (j : Nat) (hj : j < l.length) : Chn (setChd l a b j) := by
  unfold setChd
  split
  · rename_i x hx
    refine chn_set h _ _ (fun b' => ?_)
    rw [chd_setC]
    split
    · exact .inr ⟨j, rfl, hj⟩
    · exact h a x hx b'
  · exact h
theorem frl_mono {l l' : List Nd} {fr : List Nat} (h : FrL l fr) (hl : l.length ≤ l'.length) : FrL l' fr := fun x hx => Nat.lt_of_lt_of_le (h x hx) hl
theorem frl_drop {l : List Nd} {fr : List Nat} (h : FrL l fr) : FrL l fr.dropLast := fun x hx => h x (List.dropLast_subset _ hx)

/-- What is wrong with a route that is to be added. -/
def addE (l : List Nd) (n : Int) (r : Rt) : Int := if rightB r.ad r.bt = true then (if (getF l r.ad r.bt).isSome = true then 7 else if 256 ≤ n then 9 else 0) else 1

theorem add9_nil (w : World) (r : Rt) : Calls Try.prog 9 #[.pointer none, .agg (rtA r)] w fun e w' => e = .returned (.int .i64 1) ∧ Below w.heap.size w w' := by
  have hu32 := Try.underlying32
  go_enter Try.func9, Try.ntmps9
  go_wp2_with fail
  go_ret
  exact ⟨rfl, bel_alloc (Below.refl _ _) _⟩
set_option maxHeartbeats 1000000 in
theorem add9_arg (w : World) (B : Nat) (r : Rt) (ha : r.ad < 2 ^ 32) (hr : rightB r.ad r.bt = false) : Calls Try.prog 9 #[.pointer (some ⟨B, 0, none⟩), .agg (rtA r)] w fun e w' => e = .returned (.int .i64 1) ∧ Below w.heap.size w w' := by
  have hu32 := Try.underlying32
  have hu30 := Try.underlying30
  have HR := Lib.hid (show ∀ w, Calls Try.prog 24 #[.agg #[.int .u32 r.ad, .int .i64 r.bt]] w fun e w' => e = .returned (.bool false) ∧ Below w.heap.size w w' by rw [← hr]; exact right24 r.ad ha r.bt)
  have HB := Lib.hid (bel_alloc (Below.refl _ w) (.cells (rtA r) 32))
  have c0 : (w.alloc (.cells (rtA r) 32)).cell? ⟨w.heap.size, 0, none⟩ = some (.int .u32 (r.ad : Int)) := World.cell?_alloc_mark w (rtA r) 32 (0, 0) 0
  have c1 : (w.alloc (.cells (rtA r) 32)).cell? ⟨w.heap.size, 1, none⟩ = some (.int .i64 r.bt) := World.cell?_alloc_mark w (rtA r) 32 (0, 0) 1
  clear hr
  unfold rtA at *
  go_enter Try.func9, Try.ntmps9
  go_wp2_with fail
  generalize w.alloc (.cells #[.int .u32 r.ad, .int .i64 r.bt, .int .i64 r.ou] 32) = W at *
  go_wp2_with (go_at_call 24; refine Calls.mono (HR.out _) ?_; rintro e w1 ⟨rfl, hb'⟩; have HB' := Lib.hid hb'; clear hb')
  go_ret
  exact ⟨rfl, bel_trans HB.out HB'.out⟩
set_option maxHeartbeats 2000000 in
theorem add9_twice (w : World) (M B g cap : Nat) (vf : Value) (l : List Nd) (fr : List Nat) (n : Int) (h : Tri w M B g cap vf l fr n) (r : Rt) (ha : r.ad < 2 ^ 32) (hch : Chn l) (hr : rightB r.ad r.bt = true) (x : Rt) (hx : getF l r.ad r.bt = some x) : Calls Try.prog 9 #[.pointer (some ⟨B, 0, none⟩), .agg (rtA r)] w fun e w' => e = .returned (.int .i64 7) ∧ Below w.heap.size w w' := by
  have hu32 := Try.underlying32
  have hu30 := Try.underlying30
  have HR := Lib.hid (show ∀ w, Calls Try.prog 24 #[.agg #[.int .u32 r.ad, .int .i64 r.bt]] w fun e w' => e = .returned (.bool true) ∧ Below w.heap.size w w' by rw [← hr]; exact right24 r.ad ha r.bt)
  have HB := Lib.hid (bel_alloc (Below.refl _ w) (.cells (rtA r) 32))
  have c0 : (w.alloc (.cells (rtA r) 32)).cell? ⟨w.heap.size, 0, none⟩ = some (.int .u32 (r.ad : Int)) := World.cell?_alloc_mark w (rtA r) 32 (0, 0) 0
  have c1 : (w.alloc (.cells (rtA r) 32)).cell? ⟨w.heap.size, 1, none⟩ = some (.int .i64 r.bt) := World.cell?_alloc_mark w (rtA r) 32 (0, 0) 1
  have HG := Lib.hid (show ∀ w, Tri w M B g cap vf l fr n → Calls Try.prog 20 #[.pointer (some ⟨B, 0, none⟩), .agg #[.int .u32 r.ad, .int .i64 r.bt]] w fun e w' => e = .returned (.tuple #[.agg (rtA x), .bool true]) ∧ Below w.heap.size w w' from fun w h => by
    have := get20 w M B g cap vf l fr n h hch r.ad r.bt ha
    rw [hx] at this; exact this)
  have H0 := Lib.hid (h.below HB.out)
  clear h hr hx
  rw [show rtA r = #[.int .u32 r.ad, .int .i64 r.bt, .int .i64 r.ou] from rfl] at *
  go_enter Try.func9, Try.ntmps9
  go_wp2_with fail
  generalize w.alloc (.cells #[.int .u32 r.ad, .int .i64 r.bt, .int .i64 r.ou] 32) = W at *
  go_wp2_with (first
    | (go_at_call 24; refine Calls.mono (HR.out _) ?_; rintro e w1 ⟨rfl, hb'⟩; have HB' := Lib.hid hb'; have c0 := cell_below c0 hb'; have c1 := cell_below c1 hb'; clear hb')
    | (go_at_call 20; refine Calls.mono (HG.out _ (H0.out.below HB'.out)) ?_; rintro e w2 ⟨rfl, hb'⟩; have HB2 := Lib.hid hb'; clear hb'; have N0 := Lib.hid (heap_alloc_new w2 (.cells rz 32)))
    | (refine wpList_store_row rfl 32 (.tmp 5) (.tmp 24) rfl w2.heap.size (rtA x) rfl rfl 32 rz N0.out (info32 _ _ _) rfl (one32 _) ?_))
  go_ret
  exact ⟨rfl, bel_setRow (bel_alloc (bel_trans (bel_trans HB.out HB'.out) HB2.out) _) _ _ (Nat.le_trans (bel_trans (bel_trans HB.out HB'.out) HB2.out).size (Nat.le_refl _))⟩
set_option maxHeartbeats 2000000 in
theorem add9_full (w : World) (M B g cap : Nat) (vf : Value) (l : List Nd) (fr : List Nat) (n : Int) (h : Tri w M B g cap vf l fr n) (r : Rt) (ha : r.ad < 2 ^ 32) (hch : Chn l) (hr : rightB r.ad r.bt = true) (hx : getF l r.ad r.bt = none) (hn : 256 ≤ n) : Calls Try.prog 9 #[.pointer (some ⟨B, 0, none⟩), .agg (rtA r)] w fun e w' => e = .returned (.int .i64 9) ∧ Below w.heap.size w w' := by
  have hu61 := Try.underlying61
  have hu32 := Try.underlying32
  have hu30 := Try.underlying30
  have HR := Lib.hid (show ∀ w, Calls Try.prog 24 #[.agg #[.int .u32 r.ad, .int .i64 r.bt]] w fun e w' => e = .returned (.bool true) ∧ Below w.heap.size w w' by rw [← hr]; exact right24 r.ad ha r.bt)
  have HB := Lib.hid (bel_alloc (Below.refl _ w) (.cells (rtA r) 32))
  have c0 : (w.alloc (.cells (rtA r) 32)).cell? ⟨w.heap.size, 0, none⟩ = some (.int .u32 (r.ad : Int)) := World.cell?_alloc_mark w (rtA r) 32 (0, 0) 0
  have c1 : (w.alloc (.cells (rtA r) 32)).cell? ⟨w.heap.size, 1, none⟩ = some (.int .i64 r.bt) := World.cell?_alloc_mark w (rtA r) 32 (0, 0) 1
  have HG := Lib.hid (show ∀ w, Tri w M B g cap vf l fr n → Calls Try.prog 20 #[.pointer (some ⟨B, 0, none⟩), .agg #[.int .u32 r.ad, .int .i64 r.bt]] w fun e w' => e = .returned (.tuple #[.agg (rtA rt0), .bool false]) ∧ Below w.heap.size w w' from fun w h => by
    have := get20 w M B g cap vf l fr n h hch r.ad r.bt ha
    rw [hx] at this; exact this)
  have H0 := Lib.hid (h.below HB.out)
  have d1 : decide (256 ≤ n) = true := decide_eq_true hn
  clear h hr hx
  rw [show rtA r = #[.int .u32 r.ad, .int .i64 r.bt, .int .i64 r.ou] from rfl] at *
  go_enter Try.func9, Try.ntmps9
  go_wp2_with fail
  generalize w.alloc (.cells #[.int .u32 r.ad, .int .i64 r.bt, .int .i64 r.ou] 32) = W at *
  go_wp2_with (first
    | (go_at_call 24; refine Calls.mono (HR.out _) ?_; rintro e w1 ⟨rfl, hb'⟩; have HB' := Lib.hid hb'; have c0 := cell_below c0 hb'; have c1 := cell_below c1 hb'; clear hb')
    | (go_at_call 20; refine Calls.mono (HG.out _ (H0.out.below HB'.out)) ?_; rintro e w2 ⟨rfl, hb'⟩; have HB2 := Lib.hid (bel_trans HB'.out hb'); clear hb'; have N0 := Lib.hid (heap_alloc_new w2 (.cells rz 32)))
    | (refine wpList_store_row rfl 32 (.tmp 5) (.tmp 24) rfl w2.heap.size (rtA rt0) rfl rfl 32 rz N0.out (info32 _ _ _) rfl (one32 _) ?_; have HB3 := Lib.hid (bel_setRow (bel_alloc (Below.refl _ w2) (.cells #[.int .u32 0, .int .i64 0, .int .i64 0] 32)) w2.heap.size (rtA rt0) (Nat.le_refl _)); have T3 := Lib.hid ((H0.out.below HB2.out).below HB3.out); have c2 := T3.out.c2; generalize (w2.alloc (.cells #[.int .u32 0, .int .i64 0, .int .i64 0] 32)).setRow w2.heap.size (rtA rt0) = w3 at HB3 T3 c2 ⊢))
  go_ret
  exact ⟨rfl, bel_trans HB.out (bel_trans HB2.out HB3.out)⟩
end Go.Proofs.Ytfpbcdlfcaglgaa.P
