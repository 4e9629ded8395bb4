/- The trie's iterator: contracts of each, routes (layer 14). -/
import Derived.Test.YtfpbcdlfcaglgaaNW
import Derived.RangeFuncNested
import Derived.RangeFuncBound
import Derived.RangeFuncCalls
import Derived.RangeFuncLeaves
import Derived.Shelf.Abstract
import Derived.Shelf.RegionOpen
import Derived.WalkKit
import Derived.OwnWalkIn
import Derived.TacticsInMore
import Derived.LoopNIn
import Derived.LoopIn
import Derived.RangeFuncBox
import Derived.Maps.AppendAt
namespace Go.Proofs.Ytfpbcdlfcaglgaa.P
open Go.RowKit Go.Shelf

attribute [local go_sem] Oper.semAt_some

theorem room_of_none {F : Fence} (hd : F.depth = none) (k : Nat) : F.room k := fun d h => by rw [hd] at h; cases h
theorem RoundIn.anyDepth {F : Fence} (hd : F.depth = none) {m m' : Nat} {P : Program} {l : Nat} {f : FuncId} {tmps : Array Value} {assign body : Code} {w : World} {R : Ending → World → Prop}
    (h : RoundIn F m P l f tmps assign body w R) : RoundIn F m' P l f tmps assign body w R := ⟨h.1, fun c cs _ => h.2 c cs (room_of_none hd _)⟩
theorem YieldAt.anyDepth {F : Fence} (hd : F.depth = none) {m : Nat} (m' : Nat) {P : Program} {l : Nat} {args : Array Value} {W : World} {R : Ending → World → Prop} (h : YieldAt F m P l args W R) : YieldAt F m' P l args W R := by
  obtain ⟨fn, tmps, assign, body, hy, hR⟩ := h
  exact ⟨fn, tmps, assign, body, hy, RoundIn.anyDepth hd hR⟩

/-- The routes from a node on. -/
def eachF (l : List Nd) : Nat → Int → List Rt
  | 0, _ => []
  | f + 1, j => if j = -1 then [] else match l[j.toNat]? with
    | none => []
    | some x => (if x.has = true then [x.r] else []) ++ (eachF l f x.a ++ eachF l f x.b)
/-- How deep it is there. -/
def Dp (l : List Nd) : Nat → Int → Prop
  | 0, j => j = -1
  | f + 1, j => j = -1 ∨ ∃ (k : Nat) (x : Nd), j = k ∧ l[k]? = some x ∧ Dp l f x.a ∧ Dp l f x.b
theorem eachF_neg (l : List Nd) (f : Nat) : eachF l f (-1) = [] := by cases f <;> rfl
theorem eachF_go {l : List Nd} {f k : Nat} {x : Nd} (hx : l[k]? = some x) : eachF l (f + 1) (k : Int) = (if x.has = true then [x.r] else []) ++ (eachF l f x.a ++ eachF l f x.b) := by
  have : ¬ ((k : Int) = -1) := by omega
  rw [eachF, if_neg this]
  simp [hx]
/-- A trie that lies below a block. -/
def TrU (n₀ : Nat) (w : World) (M B g cap : Nat) (vf : Value) (l : List Nd) (fr : List Nat) (c : Int) : Prop := Tri w M B g cap vf l fr c ∧ B < n₀ ∧ g < n₀ ∧ ∀ k, vf.ownBlock = some k → k < n₀
theorem TrU.below {n₀ : Nat} {w w' : World} {M B g cap : Nat} {vf : Value} {l : List Nd} {fr : List Nat} {c : Int} (h : TrU n₀ w M B g cap vf l fr c) (hb : Below n₀ w w') : TrU n₀ w' M B g cap vf l fr c :=
  ⟨h.1.kept (hb.block _ h.2.1) (hb.block _ h.2.2.1) (fun k hk => hb.block k (h.2.2.2 k hk)), h.2⟩
def rtE (x : Rt) : Array Value := #[.agg #[.int .u32 x.ad, .int .i64 x.bt, .int .i64 x.ou]]
set_option maxRecDepth 100000 in
set_option maxHeartbeats 4000000 in
theorem each_in (F : Fence) (hd : F.depth = none) (h34 : F.fn 34) (hro : F.round = none) (lp n₀ N : Nat) (J Jx : List Rt → World → Prop) (M B g cap : Nat) (vf : Value) (l : List Nd) (fr : List Nat) (c : Int)
    (hY : ∀ m pre x W, J pre W → pre.length < N → YieldAt F m Try.prog lp #[.agg #[.int .u32 x.ad, .int .i64 x.bt, .int .i64 x.ou]] W fun e W' =>
      (e = .returned (.bool true) ∧ J (pre ++ [x]) W' ∧ Below n₀ W W') ∨ (e = .returned (.bool false) ∧ Jx (pre ++ [x]) W')) :
    ∀ (f n : Nat) (j : Int) (pre : List Rt) (W : World), Dp l f j → TrU n₀ W M B g cap vf l fr c → J pre W → pre.length + (eachF l f j).length ≤ N →
      CallsIn F n Try.prog 34 #[.pointer (some ⟨B, 0, none⟩), .int .i64 j, .func (.yield lp) #[] #[]] W fun e W' =>
        (e = .returned (.bool true) ∧ J (pre ++ eachF l f j) W' ∧ Below n₀ W W') ∨ (e = .returned (.bool false) ∧ ∃ q, q <+: eachF l f j ∧ Jx (pre ++ q) W') := by
  have leaf : ∀ (f n : Nat) (pre : List Rt) (W : World), J pre W → CallsIn F n Try.prog 34 #[.pointer (some ⟨B, 0, none⟩), .int .i64 (-1), .func (.yield lp) #[] #[]] W fun e W' =>
        (e = .returned (.bool true) ∧ J (pre ++ eachF l f (-1)) W' ∧ Below n₀ W W') ∨ (e = .returned (.bool false) ∧ ∃ q, q <+: eachF l f (-1) ∧ Jx (pre ++ q) W') := by
    intro f n pre W hJ
    refine callsIn_of_wp Try.func34 rfl h34 ?_ hro
    simp only [Try.ntmps34, List.size_toArray, List.length_cons, List.length_nil, Nat.reduceAdd, Nat.reduceSub, Array.replicate_succ, Array.replicate_zero, List.push_toArray, List.append_toArray, List.nil_append, List.cons_append]
    gi_wp2
    go_ret
    exact .inl ⟨rfl, by rw [eachF_neg, List.append_nil]; exact hJ, Below.refl _ _⟩
  intro f
  induction f with
  | zero =>
    intro n j pre W hD _ hJ _
    obtain rfl : j = -1 := hD
    exact leaf 0 n pre W hJ
  | succ f ih =>
    intro n j pre W hD hT hJ hN
    rcases hD with rfl | ⟨k, x, rfl, hx, hDa, hDb⟩
    · exact leaf (f + 1) n pre W hJ
    · have hu61 := Try.underlying61
      have hu58 := Try.underlying58
      have hu56 := Try.underlying56
      have hu54 := Try.underlying54
      have hu32 := Try.underlying32
      have hu30 := Try.underlying30
      have hdd : ∀ k : Nat, (F.depth.isSome = true → 1 ≤ k) := fun k h => by rw [hd] at h; cases h
      have hkl := (List.getElem?_eq_some_iff.1 hx).1
      have r1 : ((k : Int) == -1) = false := beq_eq_false_iff_ne.2 (by omega)
      have r2 : (0 : Int) ≤ (k : Int) := by omega
      have r3 : (k : Int) < (l.length : Int) := by omega
      rw [eachF_go hx] at hN ⊢
      have t0 := hT.1.c0
      have n5 := hT.1.nh k x hx
      cases hh : x.has with
      | false =>
        rw [hh] at n5
        rw [hh] at hN
        simp only [Bool.false_eq_true, if_false, List.nil_append, List.length_append] at hN ⊢
        have n0 := hT.1.na k x hx
        have ih1 := (ih (n - 1) x.a pre W hDa hT hJ (by omega)).mono (R' := fun e W1 =>
            (e = .returned (.bool true) ∧ J (pre ++ eachF l f x.a) W1 ∧ Below n₀ W W1 ∧ W1.cell? ⟨B, 0, none⟩ = some (.slice (some ⟨g, 0, none⟩) l.length cap) ∧ W1.cell? ⟨g, k * 6 + 1, none⟩ = some (.int .i64 x.b) ∧ TrU n₀ W1 M B g cap vf l fr c) ∨
            (e = .returned (.bool false) ∧ ∃ q, q <+: eachF l f x.a ∧ Jx (pre ++ q) W1))
          (fun e W1 h => h.elim (fun ⟨he, hj, hb1⟩ => .inl ⟨he, hj, hb1, (hT.below hb1).1.c0, (hT.below hb1).1.nb k x hx, hT.below hb1⟩) .inr)
        have ihr := fun n pre W => ih n x.b pre W hDb
        clear ih hT hx hkl leaf
        refine callsIn_of_wp Try.func34 rfl h34 ?_ hro
        simp only [Try.ntmps34, List.size_toArray, List.length_cons, List.length_nil, Nat.reduceAdd, Nat.reduceSub, Array.replicate_succ, Array.replicate_zero, List.push_toArray, List.append_toArray, List.nil_append, List.cons_append]
        gi_wp2
        refine ⟨fun _ h => (by cases h), ?_⟩
        gi_wp2_with (first
          | ((try refine ⟨hdd _, ?_⟩); gi_at_call 34; refine ih1.mono ?_; clear ih1; rintro e W1 (⟨rfl, hJ1, hb1, t1, n1, hT1⟩ | ⟨rfl, q, hq, hx1⟩))
          | ((try refine ⟨hdd _, ?_⟩); gi_at_call 34; refine (ihr (n - 1) _ _ hT1 hJ1 (by simp; omega)).mono ?_; rintro e W3 (⟨rfl, hJ3, hb3⟩ | ⟨rfl, q, hq, hx3⟩)))
        · go_ret
          exact .inl ⟨rfl, by rw [← List.append_assoc]; exact hJ3, hb1.trans hb3⟩
        · go_ret
          obtain ⟨r, hr'⟩ := hq
          exact .inr ⟨rfl, eachF l f x.a ++ q, ⟨r, by rw [List.append_assoc, hr']⟩, by rw [← List.append_assoc]; exact hx3⟩
        · go_ret
          exact .inr ⟨rfl, q, hq.trans (List.prefix_append _ _), hx1⟩
      | true =>
        rw [hh] at n5
        rw [hh] at hN
        simp only [if_true, List.cons_append, List.nil_append, List.length_append, List.length_cons] at hN ⊢
        have n2 := hT.1.nr0 k x hx
        have n3 := hT.1.nr1 k x hx
        have n4 := hT.1.nr2 k x hx
        obtain ⟨fn, tmps, assign, body, hy, hR⟩ := hY (n - 1) pre x.r W hJ (by omega)
        have hR := hR.mono (R' := fun e W1 =>
            (e = .returned (.bool true) ∧ J (pre ++ [x.r]) W1 ∧ Below n₀ W W1 ∧ W1.cell? ⟨B, 0, none⟩ = some (.slice (some ⟨g, 0, none⟩) l.length cap) ∧ W1.cell? ⟨g, k * 6, none⟩ = some (.int .i64 x.a) ∧ TrU n₀ W1 M B g cap vf l fr c) ∨
            (e = .returned (.bool false) ∧ Jx (pre ++ [x.r]) W1))
          (fun e W1 h => h.elim (fun ⟨he, hj, hb1⟩ => .inl ⟨he, hj, hb1, (hT.below hb1).1.c0, (hT.below hb1).1.na k x hx, hT.below hb1⟩) .inr)
        have ihl := fun (W : World) (hT : TrU n₀ W M B g cap vf l fr c) (hJ : J (pre ++ [x.r]) W) => (ih (n - 1) x.a (pre ++ [x.r]) W hDa hT hJ (by rw [List.length_append, List.length_singleton]; omega)).mono (R' := fun e W1 =>
            (e = .returned (.bool true) ∧ J (pre ++ [x.r] ++ eachF l f x.a) W1 ∧ Below n₀ W W1 ∧ W1.cell? ⟨B, 0, none⟩ = some (.slice (some ⟨g, 0, none⟩) l.length cap) ∧ W1.cell? ⟨g, k * 6 + 1, none⟩ = some (.int .i64 x.b) ∧ TrU n₀ W1 M B g cap vf l fr c) ∨
            (e = .returned (.bool false) ∧ ∃ q, q <+: eachF l f x.a ∧ Jx (pre ++ [x.r] ++ q) W1))
          (fun e W1 h => h.elim (fun ⟨he, hj, hb1⟩ => .inl ⟨he, hj, hb1, (hT.below hb1).1.c0, (hT.below hb1).1.nb k x hx, hT.below hb1⟩) .inr)
        have ihr := fun n pre W => ih n x.b pre W hDb
        clear ih hT hx hkl leaf hY
        refine callsIn_of_wp Try.func34 rfl h34 ?_ hro
        simp only [Try.ntmps34, List.size_toArray, List.length_cons, List.length_nil, Nat.reduceAdd, Nat.reduceSub, Array.replicate_succ, Array.replicate_zero, List.push_toArray, List.append_toArray, List.nil_append, List.cons_append]
        gi_wp2_with (first
          | ((try refine ⟨hdd _, ?_⟩); refine hR.mono ?_; clear hR; rintro e W1 (⟨rfl, hJ1, hb1, t1, n1, hT1⟩ | ⟨rfl, hx1⟩))
          | ((try refine ⟨hdd _, ?_⟩); gi_at_call 34; refine (ihl _ hT1 hJ1).mono ?_; clear ihl; rintro e W2 (⟨rfl, hJ2, hb2, t2, n2, hT2⟩ | ⟨rfl, q, hq, hx2⟩))
          | ((try refine ⟨hdd _, ?_⟩); gi_at_call 34; refine (ihr (n - 1) _ _ hT2 hJ2 (by simp; omega)).mono ?_; rintro e W3 (⟨rfl, hJ3, hb3⟩ | ⟨rfl, q, hq, hx3⟩)))
        · go_ret
          exact .inl ⟨rfl, by simpa [List.append_assoc] using hJ3, hb1.trans (hb2.trans hb3)⟩
        · go_ret
          obtain ⟨r, hr'⟩ := hq
          exact .inr ⟨rfl, x.r :: (eachF l f x.a ++ q), ⟨r, by simp [← hr']⟩, by simpa [List.append_assoc] using hx3⟩
        · go_ret
          obtain ⟨r, hr'⟩ := hq
          exact .inr ⟨rfl, x.r :: q, ⟨r ++ eachF l f x.b, by simp [← hr']⟩, by simpa [List.append_assoc] using hx2⟩
        · go_ret
          exact .inr ⟨rfl, [x.r], ⟨eachF l f x.a ++ eachF l f x.b, rfl⟩, hx1⟩
set_option maxHeartbeats 1000000 in
theorem routes1_in (F : Fence) (hd : F.depth = none) (n : Nat) (h33 : F.fn 33) (h34 : F.fn 34) (hro : F.round = none) (lp Bt n₀ : Nat) (J Jx : List Rt → World → Prop) (M B g cap : Nat) (vf : Value) (l : List Nd) (fr : List Nat) (c : Int) (f : Nat)
    (hY : ∀ pre x W, J pre W → pre.length < (eachF l f 0).length → YieldAt F (n - 1) Try.prog lp #[.agg #[.int .u32 x.ad, .int .i64 x.bt, .int .i64 x.ou]] W fun e W' =>
      (e = .returned (.bool true) ∧ J (pre ++ [x]) W' ∧ Below n₀ W W') ∨ (e = .returned (.bool false) ∧ Jx (pre ++ [x]) W'))
    (W : World) (hBt : W.cell? ⟨Bt, 0, none⟩ = some (.pointer (some ⟨B, 0, none⟩))) (hD : Dp l f 0) (hT : TrU n₀ W M B g cap vf l fr c) (h0 : J [] W) :
    CallsIn F n Try.prog 33 #[.func (.yield lp) #[] #[], .pointer (some ⟨Bt, 0, none⟩)] W fun e W' => (∃ v, e = .returned v) ∧
      ((∃ ys, ys = eachF l f 0 ∧ J ys W') ∨ (∃ pre, pre <+: eachF l f 0 ∧ Jx pre W')) := by
  have hdd : ∀ k : Nat, (F.depth.isSome = true → 1 ≤ k) := fun k h => by rw [hd] at h; cases h
  have hp := each_in F hd h34 hro lp n₀ (eachF l f 0).length J Jx M B g cap vf l fr c (fun m pre x W hj hl => YieldAt.anyDepth hd m (hY pre x W hj hl)) f (n - 1) 0 [] W hD hT h0 (by simp)
  clear hY
  refine callsIn_of_wp Try.func33 rfl h33 ?_ hro
  simp only [Try.ntmps33, List.size_toArray, List.length_cons, List.length_nil, Nat.reduceAdd, Nat.reduceSub, Array.replicate_succ, Array.replicate_zero, List.push_toArray, List.append_toArray, List.nil_append, List.cons_append]
  gi_wp2_with ((try refine ⟨hdd _, ?_⟩); gi_at_call 34; refine hp.mono ?_; clear hp; rintro e W1 (⟨rfl, hJ1, _⟩ | ⟨rfl, q, hq, hx⟩))
  · go_end0
    exact ⟨⟨_, rfl⟩, .inl ⟨_, rfl, by simpa using hJ1⟩⟩
  · go_end0
    exact ⟨⟨_, rfl⟩, .inr ⟨q, hq, by simpa using hx⟩⟩
set_option maxHeartbeats 1000000 in
theorem routes_in (F : Fence) (n : Nat) (h31 : F.fn 31) (hro : F.round = none) (p0 : Option Addr) (w : World) :
    CallsIn F n Try.prog 31 #[.pointer p0] w fun e w' => e = .returned (.func (.func 33) #[] #[.pointer (some ⟨w.heap.size, 0, none⟩)]) ∧ w' = w.alloc (.cells #[.pointer p0] 25) := by
  refine callsIn_of_wp Try.func31 rfl h31 ?_ hro
  simp only [Try.ntmps31, List.size_toArray, List.length_cons, List.length_nil, Nat.reduceAdd, Nat.reduceSub, Array.replicate_succ, Array.replicate_zero, List.push_toArray, List.append_toArray, List.nil_append, List.cons_append]
  gi_wp2
  go_ret
  exact ⟨rfl, rfl⟩
theorem routes_stops (F : Fence) (hd : F.depth = none) (n : Nat) (h33 : F.fn 33) (h34 : F.fn 34) (hro : F.round = none) (Bt n₀ M B g cap : Nat) (vf : Value) (l : List Nd) (fr : List Nat) (c : Int) (f : Nat) (w : World) (hBt : Bt < w.heap.size) (hn₀ : n₀ ≤ w.heap.size)
    (hc : w.cell? ⟨Bt, 0, none⟩ = some (.pointer (some ⟨B, 0, none⟩))) (hD : Dp l f 0) (hT : TrU n₀ w M B g cap vf l fr c) :
    SeqStopsK F n Try.prog 33 #[.pointer (some ⟨Bt, 0, none⟩)] (fun x : Rt => #[Value.agg #[.int .u32 x.ad, .int .i64 x.bt, .int .i64 x.ou]]) (Below n₀) (fun ys => ys = eachF l f 0) (fun pre => pre <+: eachF l f 0) (eachF l f 0).length w := fun lp J Jx W hW _ _ hY h0 =>
  routes1_in F hd n h33 h34 hro lp Bt n₀ J Jx M B g cap vf l fr c f hY W ((hW.cell (p := ⟨Bt, 0, none⟩) hBt).trans hc) hD (hT.below (hW.mono hn₀)) h0
end Go.Proofs.Ytfpbcdlfcaglgaa.P
