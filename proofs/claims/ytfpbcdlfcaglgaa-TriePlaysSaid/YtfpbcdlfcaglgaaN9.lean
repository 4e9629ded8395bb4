/- Contracts of Get (layer 14). -/
import Derived.Test.YtfpbcdlfcaglgaaN8
namespace Go.Proofs.Ytfpbcdlfcaglgaa.P
open Go.RowKit

theorem way_lt {l : List Nd} (hc : Chn l) (ad m : Nat) : ∀ k a, a < l.length → ∀ j ∈ wayG l ad m k a, j < l.length := by
  induction m with
  | zero => intro k a ha j hj; simp [wayG] at hj; omega
  | succ m ih =>
    intro k a ha j hj
    have hx : l[a]? = some l[a] := List.getElem?_eq_getElem ha
    rcases hc a _ hx (bt ad k) with h | ⟨c, h, hcl⟩
    · rw [wayG_stop hx h] at hj; simp at hj; omega
    · rw [wayG_go hx h] at hj
      rcases List.mem_cons.1 hj with rfl | hj
      · exact ha
      · exact ih _ _ hcl j hj
theorem fnd_cases {l : List Nd} (hc : Chn l) (h0 : 0 < l.length) (ad : Nat) (b : Int) : fnd l ad b = -1 ∨ ∃ j : Nat, fnd l ad b = j ∧ j < l.length := by
  unfold fnd
  split
  · cases h : (way l ad b.toNat)[b.toNat]? with
    | none => exact .inl rfl
    | some j => exact .inr ⟨j, rfl, way_lt hc _ _ _ _ h0 j (List.mem_of_getElem? h)⟩
  · exact .inl rfl
def rtA (r : Rt) : Array Value := #[.int .u32 r.ad, .int .i64 r.bt, .int .i64 r.ou]
/-- The route at a node. -/
def atN (l : List Nd) (j : Int) : Option Rt := if j = -1 then none else match l[j.toNat]? with | some x => if x.has = true then some x.r else none | none => none
/-- The route of a prefix. -/
def getF (l : List Nd) (ad : Nat) (b : Int) : Option Rt := atN l (fnd l ad b)
def optV (o : Option Rt) : Value := .tuple #[.agg (rtA (o.getD rt0)), .bool o.isSome]

theorem results_row_tmp {P : Program} {fn : Func} {p q : Tmp} {ty : TypeId} (h : fn.results = #[.cell p ty, .tmp q]) (tmps : Array Value) (w : World) (g : Nat) (t : TypeId) (cs : Array Value) (fr : Nat × Nat) (d : TypeDesc)
    (hp : tmps.getD p undef = .pointer (some ⟨g, 0, none⟩)) (hg : w.heap[g]? = some (.cells cs t fr)) (hu : P.underlying ty = some d) (hd : (match d with | .struct _ | .array _ _ => true | _ => false) = true) (hi : (P.info? ty).map (·.size) = some cs.size) :
    (results fn tmps).run P w = .ok (.tuple #[.agg cs, tmps.getD q undef]) w := by
  have hp' : tmps[p]?.getD undef = .pointer (some ⟨g, 0, none⟩) := by simpa using hp
  simp [results, h, hp', asAddr, run_loadVar_row w g t ty cs fr d hg hu hd hi]
theorem bel_setRow {B : Nat} {w w1 : World} (h : Below B w w1) (g : Nat) (cs : Array Value) (hg : B ≤ g) : Below B w (w1.setRow g cs) :=
  ⟨h.os, h.tape, h.output, by rw [size_setRow]; exact h.size, fun k hk => (setRow_other w1 g k cs (by omega)).trans (h.block k hk)⟩
section
variable {P : Program} {ops : Array Oper} {rest : List Oper} {o : Oper} {a : Act} {w : World} {Q : Exit → Act → World → Prop}
/-- Cells in the middle of a row are read, guarded or not. -/
theorem load_mid_g (ty : TypeId) (x : Operand) (ho : o.op = .load ty x) (b k : Nat) (hx : a.eval x = .pointer (some ⟨b, k, none⟩)) (cs : List Value) (d : TypeDesc) (hc : w.rangeAt b k cs)
    (hu : P.underlying ty = some d) (hd : d.isRow = true) (hi : (P.info? ty).map (·.size) = some cs.length) (hw : Region.wanted o (yielded ops a.tmps) = true)
    (h : wpList P ops Q rest (a.put o.dst (.agg cs.toArray)) w) : wpList P ops Q (o :: rest) a w := BigFrame.wpList_want hw fun _ hK => wp_load_mid ty x ho b k hx cs d hc hu hd hi (hK _ _ h)
end
theorem info32 (a b c : Value) : (Try.prog.info? 32).map (·.size) = some (#[a, b, c] : Array Value).size := by
  show _ = some 3
  kernel_rfl
theorem info32l (a b c : Value) : (Try.prog.info? 32).map (·.size) = some ([a, b, c] : List Value).length := by
  show _ = some 3
  kernel_rfl
def rz : Array Value := #[.int .u32 0, .int .i64 0, .int .i64 0]
theorem one_rz : rz.all (·.oneCell') = true := by simp [rz, Value.oneCell']
theorem one32 (r : Rt) : (rtA r).all (·.oneCell') = true := by simp [rtA, Value.oneCell']
theorem Tri.rt {w : World} {M B g cap : Nat} {vf : Value} {l : List Nd} {fr : List Nat} {n : Int} (h : Tri w M B g cap vf l fr n) (i : Nat) (x : Nd) (hx : l[i]? = some x) : w.rangeAt g (i * 6 + 2) (rtC x.r) := by
  intro j u hu
  match j, hu with
  | 0, hu => cases hu; exact h.nr0 i x hx
  | 1, hu => cases hu; exact h.nr1 i x hx
  | 2, hu => cases hu; exact h.nr2 i x hx
theorem atN_neg (l : List Nd) : atN l (-1) = none := rfl
theorem atN_nat (l : List Nd) (j : Nat) (x : Nd) (h : l[j]? = some x) : atN l j = if x.has = true then some x.r else none := by
  have : ¬ (j : Int) = -1 := by omega
  simp only [atN, if_neg this, Int.toNat_natCast, h]

theorem get20_nil (w : World) (ad : Nat) (b : Int) : Calls Try.prog 20 #[.pointer none, .agg #[.int .u32 ad, .int .i64 b]] w fun e w' => e = .returned (optV none) ∧ Below w.heap.size w w' := by
  have hu30 := Try.underlying30
  have hu32 := Try.underlying32
  have HF := Lib.hid (fun w => find30_nil w ad b)
  have HB := Lib.hid (bel_alloc (bel_alloc (Below.refl _ w) (.cells #[.int .u32 (ad : Int), .int .i64 b] 30)) (.cells rz 32))
  have H1 := Lib.hid (heap_alloc2_new w (.cells #[.int .u32 (ad : Int), .int .i64 b] 30) (.cells rz 32))
  unfold rz at HB H1
  go_enter Try.func20, Try.ntmps20
  go_wp2_with (first
    | (go_at_call 30; refine Calls.mono (HF.out _) ?_; rintro e w1 ⟨rfl, hb'⟩; have HB' := Lib.hid hb'; have H2 := Lib.hid (blk_below H1.out hb'); clear hb')
    | (refine wpList_store_row rfl 32 (.tmp 4) (.tmp 23) rfl (w.heap.size + 1) rz rfl rfl 32 rz H2.out (info32 _ _ _) rfl one_rz ?_))
  refine bodyPost_ret (results_row_tmp rfl _ _ (w.heap.size + 1) 32 rz (0, 0) _ rfl (setRow_heap _ (w.heap.size + 1) _ _ 32 _ H2.out) hu32 rfl (info32 _ _ _)) rfl ⟨rfl, bel_setRow (below_then HB.out HB.out.size HB'.out) _ _ (by omega)⟩
set_option maxHeartbeats 2000000 in
theorem get20 (w : World) (M B g cap : Nat) (vf : Value) (l : List Nd) (fr : List Nat) (c : Int) (h : Tri w M B g cap vf l fr c) (hch : Chn l) (ad : Nat) (b : Int) (ha : ad < 2 ^ 32) :
    Calls Try.prog 20 #[.pointer (some ⟨B, 0, none⟩), .agg #[.int .u32 ad, .int .i64 b]] w fun e w' => e = .returned (optV (getF l ad b)) ∧ Below w.heap.size w w' := by
  have hu61 := Try.underlying61
  have hu58 := Try.underlying58
  have hu56 := Try.underlying56
  have hu30 := Try.underlying30
  have hu32 := Try.underlying32
  have HB := Lib.hid (bel_alloc (bel_alloc (Below.refl _ w) (.cells #[.int .u32 (ad : Int), .int .i64 b] 30)) (.cells rz 32))
  have H1 := Lib.hid (heap_alloc2_new w (.cells #[.int .u32 (ad : Int), .int .i64 b] 30) (.cells rz 32))
  unfold rz at HB H1
  have HF := Lib.hid (fun w h => find30 w M B g cap vf l fr c h hch ad b ha)
  have H0 := Lib.hid (h.below HB.out)
  rcases fnd_cases hch h.pos ad b with hf | ⟨j, hf, hj⟩
  · have HG := Lib.hid (show getF l ad b = none by rw [getF, hf, atN_neg])
    rw [hf] at HF
    clear h hf hch
    go_enter Try.func20, Try.ntmps20
    go_wp2_with (first
      | (go_at_call 30; refine Calls.mono (HF.out _ H0.out) ?_; rintro e w1 ⟨rfl, hb'⟩; have HB' := Lib.hid hb'; have H2 := Lib.hid (blk_below H1.out hb'); clear hb')
      | (refine wpList_store_row rfl 32 (.tmp 4) (.tmp 23) rfl (w.heap.size + 1) rz rfl rfl 32 rz H2.out (info32 _ _ _) rfl one_rz ?_))
    refine bodyPost_ret (results_row_tmp rfl _ _ (w.heap.size + 1) 32 rz (0, 0) _ rfl (setRow_heap _ (w.heap.size + 1) _ _ 32 _ H2.out) hu32 rfl (info32 _ _ _)) rfl ⟨by rw [HG.out]; rfl, bel_setRow (below_then HB.out HB.out.size HB'.out) _ _ (by omega)⟩
  · have hx : l[j]? = some l[j] := List.getElem?_eq_getElem hj
    have HG := Lib.hid (show getF l ad b = if (l[j]).has = true then some (l[j]).r else none by rw [getF, hf]; exact atN_nat l j _ hx)
    rw [hf] at HF
    have r1 : ((j : Int) == -1) = false := beq_eq_false_iff_ne.2 (by omega)
    have r2 : (0 : Int) ≤ (j : Int) := by omega
    have r3 : (j : Int) < (l.length : Int) := by omega
    generalize l[j] = x at *
    have HX := Lib.hid hx
    clear h hf hch hx hj
    cases hh : x.has with
    | false =>
      rw [hh] at HG
      go_enter Try.func20, Try.ntmps20
      go_wp2_with (first
        | (go_at_call 30; refine Calls.mono (HF.out _ H0.out) ?_; rintro e w1 ⟨rfl, hb'⟩; have HB' := Lib.hid hb'; have H2 := Lib.hid (blk_below H1.out hb'); have c0 := (H0.out.below hb').c0; have ch := (H0.out.below hb').nh j x HX.out; rw [hh] at ch; clear hb')
        | (refine wpList_store_row rfl 32 (.tmp 4) (.tmp 23) rfl (w.heap.size + 1) rz rfl rfl 32 rz H2.out (info32 _ _ _) rfl one_rz ?_))
      refine bodyPost_ret (results_row_tmp rfl _ _ (w.heap.size + 1) 32 rz (0, 0) _ rfl (setRow_heap _ (w.heap.size + 1) _ _ 32 _ H2.out) hu32 rfl (info32 _ _ _)) rfl ⟨by rw [HG.out]; rfl, bel_setRow (below_then HB.out HB.out.size HB'.out) _ _ (by omega)⟩
    | true =>
      rw [hh] at HG
      go_enter Try.func20, Try.ntmps20
      go_wp2_with (first
        | (go_at_call 30; refine Calls.mono (HF.out _ H0.out) ?_; rintro e w1 ⟨rfl, hb'⟩; have HB' := Lib.hid hb'; have H2 := Lib.hid (blk_below H1.out hb'); have c0 := (H0.out.below hb').c0; have ch := (H0.out.below hb').nh j x HX.out; have HR := Lib.hid ((H0.out.below hb').rt j x HX.out); rw [hh] at ch; clear hb')
        | (refine load_mid_g 32 (.tmp 30) rfl g (j * 6 + 2) rfl (rtC x.r) _ HR.out hu32 rfl (info32l _ _ _) rfl ?_)
        | (refine wpList_store_row rfl 32 (.tmp 4) (.tmp 31) rfl (w.heap.size + 1) (rtA x.r) rfl rfl 32 rz H2.out (info32 _ _ _) rfl (one32 _) ?_))
      refine bodyPost_ret (results_row_tmp rfl _ _ (w.heap.size + 1) 32 (rtA x.r) (0, 0) _ rfl (setRow_heap _ (w.heap.size + 1) _ _ 32 _ H2.out) hu32 rfl (info32 _ _ _)) rfl ⟨by rw [HG.out]; rfl, bel_setRow (below_then HB.out HB.out.size HB'.out) _ _ (by omega)⟩
end Go.Proofs.Ytfpbcdlfcaglgaa.P
