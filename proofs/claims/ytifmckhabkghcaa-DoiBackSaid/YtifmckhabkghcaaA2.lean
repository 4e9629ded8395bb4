/- Sets of categories in memory; contracts of cats.right, bit, Has. -/
import Derived.Test.YtifmckhabkghcaaProg
import Derived.Test.YtifmckhabkghcaaA1
import Derived.Below
import Derived.OneCell
import Derived.Deep.Draws
import Derived.Deep.AppendLies
import Derived.Maps.AppendAt
import Derived.OwnWalk
import Derived.Laws.OwnMore
import Derived.Tactics
import Derived.Laws.Slices
import Derived.WalkKit
import Derived.KernelRfl
import Derived.RowKit3
import Derived.Deep.LoopGhost
import Derived.Deep.QuietTactic
import Derived.BigQuiet
import Derived.WideLaws
import Derived.Deep.RegionHeld3
import Derived.Deep.RegionLaw
import Derived.Deep.CutRange
import Derived.Deep.WholeRow
import Derived.Great.BuildSlice
import Derived.Deep.MidRow
import Derived.Laws.Rows
import Derived.OrdersHeld
import Derived.RowKit
import Derived.WalkMore
import Derived.Lib.Hide
import Derived.Outline
namespace Go.Proofs.Ytifmckhabkghcaa.P
open Go.RowKit

theorem below_then {B : Nat} {a b c : World} (h : Below B a b) (hs : B ≤ b.heap.size) (k : Below b.heap.size b c) : Below B a c := h.trans (k.mono hs)
theorem bel_trans {w w1 w2 : World} (h : Below w.heap.size w w1) (k : Below w1.heap.size w1 w2) : Below w.heap.size w w2 := below_then h h.size k
theorem bel_alloc {w w1 : World} (h : Below w.heap.size w w1) (o : Obj) : Below w.heap.size w (w1.alloc o) := h.alloc h.size o

theorem bel_setRow {B : Nat} {w w1 : World} (h : Below B w w1) (g : Nat) (cs : Array Value) (hg : B ≤ g) : Below B w (w1.setRow g cs) :=
  ⟨h.os, h.tape, h.output, by rw [size_setRow]; exact h.size, fun k hk => (setRow_other w1 g k cs (by omega)).trans (h.block k hk)⟩
theorem own_below {w w1 : World} {b e s n : Nat} {v : Value} {xs : List Value} (h : w.ownsRow b e s v n xs) (hb : Below w.heap.size w w1) : w1.ownsRow b e s v n xs := by
  refine ⟨h.1, ?_⟩
  rcases h.2 with hn | ⟨g, cap, cur, rfl, hbb, hgg, rest⟩
  · exact .inl hn
  · exact .inr ⟨g, cap, cur, rfl, hbb, (hb.block g (lt_of_block hgg)).trans hgg, rest⟩
theorem own_lower {w : World} {b b' e s n : Nat} {v : Value} {xs : List Value} (h : w.ownsRow b e s v n xs) (hb : b' ≤ b) : w.ownsRow b' e s v n xs := by
  refine ⟨h.1, ?_⟩
  rcases h.2 with hn | ⟨g, cap, cur, rfl, hbb, rest⟩
  · exact .inl hn
  · exact .inr ⟨g, cap, cur, rfl, Nat.le_trans hb hbb, rest⟩
theorem blk_below {w w1 : World} {g : Nat} {o : Obj} (h : w.heap[g]? = some o) (hb : Below w.heap.size w w1) : w1.heap[g]? = some o := by
  refine (hb.block g ?_).trans h
  rcases Nat.lt_or_ge g w.heap.size with h' | h'
  · exact h'
  · rw [Array.getElem?_eq_none h'] at h; cases h

theorem foldl_set (l : List Value) : ∀ (o : Nat) (z : Array Value), o + l.length ≤ z.size → (l.zipIdx o).foldl (fun (cs : Array Value) (x : Value × Nat) => cs.setIfInBounds x.2 x.1) z = (z.toList.take o ++ l ++ z.toList.drop (o + l.length)).toArray := by
  induction l with
  | nil => intro o z _; simp
  | cons v l ih =>
    intro o z hz
    simp only [List.length_cons] at hz
    rw [List.zipIdx_cons, List.foldl_cons, ih (o + 1) _ (by simp; omega)]
    congr 1
    rw [Array.toList_setIfInBounds]
    have ho : o < z.toList.length := by rw [Array.length_toList]; omega
    rw [List.take_set, List.drop_set_of_lt (by omega)]
    simp only [List.length_cons]
    rw [show o + 1 + l.length = o + (l.length + 1) by omega]
    congr 1
    rw [List.take_succ_eq_append_getElem ho, List.set_append_right _ _ (by rw [List.length_take]; omega)]
    have ho' : o < z.size := by omega
    simp [Nat.min_eq_left (Nat.le_of_lt ho')]
/-- A slice of one element of many cells is built. -/
theorem run_build1 {P : Program} (w : World) (t e : TypeId) (cs : Array Value) (z : Value) (hu : P.underlying t = some (.slice e)) (hi : (P.info? e).map (fun i => (i.zero, i.size)) = some (some z, cs.size)) (h0 : 0 < cs.size) (h1 : cs.size ≤ 1000) :
    (Instr.buildSlice t 1 #[(0, .agg cs)]).run P w = .ok (.slice (some ⟨w.heap.size, 0, none⟩) 1 1) (w.alloc (.cells cs e)) := by
  cases hie : P.info? e with
  | none => simp [hie] at hi
  | some ie =>
    simp [hie] at hi
    refine run_buildSlice w t e 1 _ cs ie z hu hie hi.1 (by omega) (by omega) ?_
    have hf := foldl_set cs.toList 0 ((Array.range (1 * ie.size)).map (z.cells[· % z.cells.size]!)) (by simp; omega)
    have hc : (Value.agg cs).cells = cs := rfl
    simp only [Instr.fill, hc]
    rw [if_neg (by simp; omega), ← Array.foldl_toList, Array.toList_zipIdx]
    simp only [Nat.zero_mul, Nat.zero_add]
    rw [hf]
    simp [hi.2]
    rw [List.drop_of_length_le (by simp), List.append_nil]
section
variable {P : Program} {ops : Array Oper} {rest : List Oper} {o : Oper} {a : Act} {w : World} {Q : Exit → Act → World → Prop}
variable {md : Region.Mode} {S : World → Prop} {fuel i : Nat} {listed : Array Bool}
/-- In a region that draws: the one operation that may come up, a value. -/
theorem held_op (i : Nat) (N : Option Tmp) (v : Value) {w' : World} (hr : Region.ready md ops listed = [i]) (ho : ops[i]? = some o) (hd : o.dst = N) (hw : Region.wanted o (yielded ops a.tmps) = true) (hrun : (execOp a.eval o).run P w = .ok (.value v) w') (hS : S w')
    (h : wpAnyH P md ops Q S fuel (listed.setIfInBounds i true) (a.put N v) w') : wpAnyH P md ops Q S (fuel + 1) listed a w := by
  subst hd
  refine wpAnyH_ready (rs := [i]) hr (by simp) (AllReadyH.cons ho (fun K hK => ?_) AllReadyH.nil)
  rw [if_pos hw]
  unfold Oper.wp
  rw [hrun]
  exact hK.out _ _ hS (fun _ => h)
/-- The same, a store. -/
theorem held_skip (i : Nat) {w' : World} (hr : Region.ready md ops listed = [i]) (ho : ops[i]? = some o) (hd : o.dst = none) (hw : Region.wanted o (yielded ops a.tmps) = true) (hrun : (execOp a.eval o).run P w = .ok .skip w') (hS : S w')
    (h : wpAnyH P md ops Q S fuel (listed.setIfInBounds i true) a w') : wpAnyH P md ops Q S (fuel + 1) listed a w := by
  refine wpAnyH_ready (rs := [i]) hr (by simp) (AllReadyH.cons ho (fun K hK => ?_) AllReadyH.nil)
  rw [if_pos hw]
  unfold Oper.wp
  rw [hrun]
  refine hK.out _ _ hS (fun _ => ?_)
  rw [hd]
  exact h
/-- The same, a call. -/
theorem held_call (i : Nat) (N : Option Tmp) (f : FuncId) (args : Array Value) (hr : Region.ready md ops listed = [i]) (ho : ops[i]? = some o) (hd : o.dst = N) (hw : Region.wanted o (yielded ops a.tmps) = true) (hrun : (execOp a.eval o).run P w = .ok (.enter f args) w)
    (h : Calls P f args w fun e w' => ∃ v, e = .returned v ∧ S w' ∧ wpAnyH P md ops Q S fuel (listed.setIfInBounds i true) (a.put N v) w') : wpAnyH P md ops Q S (fuel + 1) listed a w := by
  subst hd
  refine wpAnyH_ready (rs := [i]) hr (by simp) (AllReadyH.cons ho (fun K hK => ?_) AllReadyH.nil)
  rw [if_pos hw]
  unfold Oper.wp
  rw [hrun, Oper.upon_enter]
  refine h.mono fun e w'' hh => ?_
  obtain ⟨v, rfl, hS, hk⟩ := hh
  exact hK.out _ _ hS (fun _ => hk)
/-- The same, a slice of one element of many cells. -/
theorem held_build1 (i : Nat) (N : Option Tmp) (hr : Region.ready md ops listed = [i]) (ho : ops[i]? = some o) (hd : o.dst = N) (hw : Region.wanted o (yielded ops a.tmps) = true) (t e : TypeId) (x : Operand) (hop : o.op = .buildSlice t 1 #[(0, x)]) (cs : Array Value) (hx : a.eval x = .agg cs) (z : Value) (hu : P.underlying t = some (.slice e)) (hi : (P.info? e).map (fun i => (i.zero, i.size)) = some (some z, cs.size)) (h0 : 0 < cs.size) (h1 : cs.size ≤ 1000)
    (hS : S (w.alloc (.cells cs e))) (h : wpAnyH P md ops Q S fuel (listed.setIfInBounds i true) (a.put N (.slice (some ⟨w.heap.size, 0, none⟩) 1 1)) (w.alloc (.cells cs e))) : wpAnyH P md ops Q S (fuel + 1) listed a w := by
  refine held_op i N _ hr ho hd hw ?_ hS h
  have hrun := run_build1 (P := P) w t e cs z hu hi h0 h1
  unfold execOp
  simp only [hop, Sem.run_bind, List.map_toArray, List.map_cons, List.map_nil, hx, hrun, Result.andThen_ok, Sem.run_pure]
/-- The same, a load that may be taken first. -/
theorem held_take (i : Nat) (N : Option Tmp) (v : Value) (hi : ops[i]? = some o) (hd : o.dst = N) (hs : Region.noSelect ops = true) (hf : Region.free md ops listed i = true) (hr : (Region.ready md ops listed).contains i = true)
    (hQ : ∀ c a w, Q (.panic c) (a.put o.dst v) w → Q (.panic c) a w) (hy : YieldsIf P ops S o v a) (hS : S w)
    (h : wpAnyH P md ops Q S fuel (listed.setIfInBounds i true) (a.put N v) w) : wpAnyH P md ops Q S (fuel + 1) listed a w := by
  subst hd
  exact wpAnyH_take hi hs hf hr hQ hy hS h
/-- One of several operations that may come up: a value. -/
theorem st_val {K : Act → World → Prop} {E : Prop} (N : Option Tmp) (v : Value) {w' : World} (hd : o.dst = N) (hw : Region.wanted o (yielded ops a.tmps) = true) (hrun : (execOp a.eval o).run P w = .ok (.value v) w') (h : K (a.put N v) w') : if Region.wanted o (yielded ops a.tmps) = true then Oper.wp P o a w K Q else E := by
  subst hd
  rw [if_pos hw]
  unfold Oper.wp
  rw [hrun]
  exact h
/-- One of several operations that may come up: a call. -/
theorem st_call {K : Act → World → Prop} {E : Prop} (N : Option Tmp) (f : FuncId) (args : Array Value) (hd : o.dst = N) (hw : Region.wanted o (yielded ops a.tmps) = true) (hrun : (execOp a.eval o).run P w = .ok (.enter f args) w)
    (h : Calls P f args w fun e w' => ∃ v, e = .returned v ∧ K (a.put N v) w') : if Region.wanted o (yielded ops a.tmps) = true then Oper.wp P o a w K Q else E := by
  subst hd
  rw [if_pos hw]
  unfold Oper.wp
  rw [hrun, Oper.upon_enter]
  refine h.mono fun e w'' hh => ?_
  obtain ⟨v, rfl, hk⟩ := hh
  exact hk
/-- The one operation that may come up, by a law at its step. -/
theorem held_step (i : Nat) (o : Oper) (hr : Region.ready md ops listed = [i]) (ho : ops[i]? = some o)
    (h : ∀ K' : Act → World → Prop, Shut (∀ a w, S w → (S w → wpAnyH P md ops Q S fuel (listed.setIfInBounds i true) a w) → K' a w) → if Region.wanted o (yielded ops a.tmps) = true then Oper.wp P o a w K' Q else K' (a.put o.dst undef) w) : wpAnyH P md ops Q S (fuel + 1) listed a w :=
  wpAnyH_ready (rs := [i]) hr (by simp) (AllReadyH.cons ho h AllReadyH.nil)
/-- A slice of one element of many cells, at a plain region's list. -/
theorem build1 (hgd : o.guard = none) (t e : TypeId) (x : Operand) (ho : o.op = .buildSlice t 1 #[(0, x)]) (cs : Array Value) (hx : a.eval x = .agg cs) (z : Value) (hu : P.underlying t = some (.slice e)) (hi : (P.info? e).map (fun i => (i.zero, i.size)) = some (some z, cs.size)) (h0 : 0 < cs.size) (h1 : cs.size ≤ 1000)
    (h : wpList P ops Q rest (a.put o.dst (.slice (some ⟨w.heap.size, 0, none⟩) 1 1)) (w.alloc (.cells cs e))) : wpList P ops Q (o :: rest) a w := wpList_plain hgd fun _ hK => by
  have hr := run_build1 (P := P) w t e cs z hu hi h0 h1
  unfold Oper.wp execOp
  simp only [ho, Sem.run_bind, List.map_toArray, List.map_cons, List.map_nil, hx, hr, Result.andThen_ok, Sem.run_pure]
  exact hK _ _ h
/-- A whole row is read, guarded or not. -/
theorem load_row_g (ty : TypeId) (x : Operand) (ho : o.op = .load ty x) (g : Nat) (hx : a.eval x = .pointer (some ⟨g, 0, none⟩)) (t : TypeId) (cs : Array Value) (fr : Nat × Nat) (d : TypeDesc) (hg : w.heap[g]? = some (.cells cs t fr))
    (hu : P.underlying ty = some d) (hd : (match d with | .struct _ | .array _ _ => true | _ => false) = true) (hi : (P.info? ty).map (·.size) = some cs.size) (hw : Region.wanted o (yielded ops a.tmps) = true)
    (h : wpList P ops Q rest (a.put o.dst (.agg cs)) w) : wpList P ops Q (o :: rest) a w := BigFrame.wpList_want hw fun _ hK => wp_load_row ty x ho g hx t cs fr d hg hu hd hi (hK _ _ h)
/-- Cells in the middle of a row are read, guarded or not. -/
theorem load_mid_g (ty : TypeId) (x : Operand) (ho : o.op = .load ty x) (b k : Nat) (hx : a.eval x = .pointer (some ⟨b, k, none⟩)) (cs : List Value) (d : TypeDesc) (hc : w.rangeAt b k cs)
    (hu : P.underlying ty = some d) (hd : d.isRow = true) (hi : (P.info? ty).map (·.size) = some cs.length) (hw : Region.wanted o (yielded ops a.tmps) = true)
    (h : wpList P ops Q rest (a.put o.dst (.agg cs.toArray)) w) : wpList P ops Q (o :: rest) a w := BigFrame.wpList_want hw fun _ hK => wp_load_mid ty x ho b k hx cs d hc hu hd hi (hK _ _ h)
end
theorem blk_drew {w w1 : World} {g : Nat} {o : Obj} (h : w.heap[g]? = some o) (hb : Below w.drew.heap.size w.drew w1) : w1.heap[g]? = some o := blk_below (w := w.drew) h hb
/-- The thirty bytes of a set. -/
def catL (S : Nat) : List Value := (List.range 30).map fun j => .int .u8 (byteN S j)
def catA (S : Nat) : Array Value := (catL S).toArray
theorem catL_len (S : Nat) : (catL S).length = 30 := by simp [catL]
theorem catA_size (S : Nat) : (catA S).size = 30 := by simp [catA, catL]
theorem catL_get (S j : Nat) (h : j < 30) : (catL S)[j]? = some (.int .u8 (byteN S j)) := by simp [catL, h]
theorem catA_get (S j : Nat) (h : j < 30) : (catA S)[j]? = some (.int .u8 (byteN S j)) := by simp [catA, catL_get S j h]
theorem catL_one (S : Nat) : ∀ u ∈ catL S, u.oneCell' = true := by
  intro u hu
  obtain ⟨j, _, rfl⟩ := List.mem_map.1 hu
  rfl

/-- Is it a category? -/
def rightB (k : Int) : Bool := decide (0 ≤ k) && decide (k ≤ 239)
theorem right71 (k : Int) (w : World) : Calls Try.prog 71 #[.int .i64 k] w fun e w' => e = .returned (.bool (rightB k)) ∧ w = w' := by
  go_enter Try.func71, Try.ntmps71
  go_wp2
  all_goals
    go_ret
    exact ⟨by simp_all [rightB]; try omega, rfl⟩

theorem ret_int {k : IntKind} {a b : Int} (h : a = b) : Ending.returned (.int k a) = .returned (.int k b) := by rw [h]
theorem ret_bool {a b : Bool} (h : a = b) : Ending.returned (.bool a) = .returned (.bool b) := by rw [h]
theorem bel_drewN {B : Nat} {w w1 : World} (h : Below B w w1) (n : Nat) : Below B w (w1.drewN n) := ⟨h.os, h.tape, h.output, h.size, h.block⟩
theorem wraps_u8 (n : Int) (h₀ : 0 ≤ n) (h₁ : n < 2 ^ 8) : IntKind.u8.wrap n = n := by rw [IntKind.wrap_u8]; omega
theorem and8 (a b : Nat) (ha : a < 256) (hb : b < 256) : Go.bits .and .u8 a b = ((a &&& b : Nat) : Int) := (bits_nat .u8 8 (by decide) wraps_u8 a b ha hb).1
theorem or8 (a b : Nat) (ha : a < 256) (hb : b < 256) : Go.bits .or .u8 a b = ((a ||| b : Nat) : Int) := (bits_nat .u8 8 (by decide) wraps_u8 a b ha hb).2
theorem shr_bit (k : Nat) : 128 / 2 ^ (k % 8) = bitN k := by rw [← bitN_shr, Nat.shiftRight_eq_div_pow]
theorem bit72 (k : Nat) (hk : k < 240) (w : World) : Calls Try.prog 72 #[.int .i64 k] w fun e w' => e = .returned (.int .u8 (bitN k)) ∧ w = w' := by
  have h0 : (0 : Int) ≤ (k : Int) := by omega
  have h1 : (k : Int) < 240 := by omega
  have h3 : (0 : Int) ≤ (k : Int) % 8 := by omega
  have h4 : (k : Int) % 8 < 8 := by omega
  go_enter Try.func72, Try.ntmps72
  go_wp2
  go_ret
  have e : ((128 : Int) / 2 ^ (k % 8)) = (bitN k : Int) := by rw [← shr_bit]; simp
  exact ⟨ret_int e, rfl⟩

theorem quietL {P : Program} {f : FuncId} {args : Array Value} {w : World} {n : Nat} {v : Value} (h : Calls P f args (w.drewN n) fun e w' => e = .returned v ∧ w.drewN n = w') :
    Calls P f args (w.drewN n) fun e w'' => e = .returned v ∧ ∃ m, w'' = w.drewN m := h.mono fun _ _ hh => ⟨hh.1, n, hh.2.symm⟩

def hasB (S : Nat) (k : Int) : Bool := rightB k && S.testBit k.toNat
set_option maxHeartbeats 1000000 in
theorem has70 (S : Nat) (k : Int) (w : World) : Calls Try.prog 70 #[.agg (catA S), .int .i64 k] w fun e w' => e = .returned (.bool (hasB S k)) ∧ Below w.heap.size w w' := by
  have hu23 := Try.underlying23
  have HR := Lib.hid (right71 k)
  cases hr : rightB k with
  | false =>
    have HE := Lib.hid (show hasB S k = false by simp [hasB, hr])
    have HR := Lib.hid (show ∀ w, Calls Try.prog 71 #[.int .i64 k] w fun e w' => e = .returned (.bool false) ∧ w = w' by rw [← hr]; exact right71 k)
    clear hr
    go_enter Try.func70, Try.ntmps70
    go_wp2_with fail
    go_quiet ((go_at_call 71; exact quietL (HR.out _)))
    go_wp2_with fail
    go_ret
    exact ⟨ret_bool HE.out.symm, bel_drewN (bel_alloc (Below.refl _ _) _) _⟩
  | true =>
    obtain ⟨k0, k1⟩ : 0 ≤ k ∧ k ≤ 239 := by simpa [rightB] using hr
    obtain ⟨n, rfl⟩ : ∃ n : Nat, k = n := ⟨k.toNat, by omega⟩
    have HE := Lib.hid (show hasB S n = S.testBit n by simp [hasB, hr])
    have HR := Lib.hid (show ∀ w, Calls Try.prog 71 #[.int .i64 n] w fun e w' => e = .returned (.bool true) ∧ w = w' by rw [← hr]; exact right71 n)
    have HB := Lib.hid (bit72 n (by omega))
    have c1 := catA_get S (n / 8) (by omega)
    clear hr
    go_enter Try.func70, Try.ntmps70
    go_wp2_with fail
    go_quiet ((first | (go_at_call 71; exact quietL (HR.out _)) | (go_at_call 72; exact quietL (HB.out _))))
    go_wp2_with fail
    go_ret
    refine ⟨ret_bool ?_, bel_drewN (bel_alloc (Below.refl _ _) _) _⟩
    rw [HE.out, and8 _ _ (byteN_lt _ _) (bitN_lt _), ← has_bit]
    rw [Bool.eq_iff_iff]
    simp
end Go.Proofs.Ytifmckhabkghcaa.P
