/- Contract of basic.Encode. -/
import Derived.Test.YtifmckhabkghcaaB2
import Derived.Laws.BytesString
namespace Go.Proofs.Ytifmckhabkghcaa.P
open Go.RowKit
set_option linter.unusedSimpArgs false

theorem info25z (x : Lab) : ∃ z, (Try.prog.info? 25).map (fun i => (i.zero, i.size)) = some (some z, (labA x).size) := by
  rw [labA_size]
  exact ⟨.agg z25, by kernel_rfl⟩
theorem range_lab {w : World} {g : Nat} {x : Lab} {t : TypeId} {fr : Nat × Nat} (h : w.heap[g]? = some (.cells (labA x) t fr)) : w.rangeAt g 0 (labL x) := fun j u hu => by
  rw [cell_of_row _ _ _ _ _ _ h, Nat.zero_add]
  simpa [labA] using hu

theorem results_row_tmp {P : Program} {fn : Func} {p q : Tmp} {ty : TypeId} (h : fn.results = #[.cell p ty, .tmp q]) (tmps : Array Value) (w : World) (g : Nat) (t : TypeId) (cs : Array Value) (fr : Nat × Nat) (d : TypeDesc)
    (hp : tmps.getD p undef = .pointer (some ⟨g, 0, none⟩)) (hg : w.heap[g]? = some (.cells cs t fr)) (hu : P.underlying ty = some d) (hd : (match d with | .struct _ | .array _ _ => true | _ => false) = true) (hi : (P.info? ty).map (·.size) = some cs.size) :
    (results fn tmps).run P w = .ok (.tuple #[.agg cs, tmps.getD q undef]) w := by
  have hp' : tmps[p]?.getD undef = .pointer (some ⟨g, 0, none⟩) := by simpa using hp
  simp [results, h, hp', asAddr, run_loadVar_row w g t ty cs fr d hg hu hd hi]
theorem info27 (a b : Value) : (Try.prog.info? 27).map (·.size) = some (#[a, b] : Array Value).size := by
  show _ = some 2
  kernel_rfl

theorem one27 (n : Int) (s : ByteArray) : (#[.int .i64 n, .string s] : Array Value).all (·.oneCell') = true := by simp [Value.oneCell']
/-- No option. -/
def opt0 : Array Value := #[.int .i64 0, .string ⟨#[]⟩]
set_option maxRecDepth 100000 in
set_option maxHeartbeats 2000000 in
theorem encode13_arg (x : Lab) (hr : rightL x = false) (w : World) : Calls Try.prog 13 #[.agg (labA x)] w fun e w' => e = .returned (.tuple #[.agg opt0, .int .i64 1]) ∧ Below w.heap.size w w' := by
  have hu25 := Try.underlying25
  have hu27 := Try.underlying27
  have hu56 := Try.underlying56
  obtain ⟨z, hz⟩ := info25z x
  have HZ := Lib.hid hz
  have s0 : 0 < (labA x).size := by rw [labA_size]; decide
  have s1 : (labA x).size ≤ 1000 := by rw [labA_size]; decide
  have HR := Lib.hid (right44 x)
  rw [hr] at HR
  have H0 := Lib.hid (heap_alloc2_old w (.cells (labA x) 25) (.cells opt0 27))
  have H1 := Lib.hid (heap_alloc2_new w (.cells (labA x) 25) (.cells opt0 27))
  have HB := Lib.hid (bel_alloc (bel_alloc (Below.refl w.heap.size w) (.cells (labA x) 25)) (.cells opt0 27))
  have HC := Lib.hid (bel_alloc (Below.refl _ ((w.alloc (.cells (labA x) 25)).alloc (.cells opt0 27))) (.cells (labA x) 25))
  have H2 := Lib.hid (range_lab (show (((w.alloc (.cells (labA x) 25)).alloc (.cells opt0 27)).alloc (.cells (labA x) 25)).heap[w.heap.size + 2]? = some (.cells (labA x) 25 (0, 0)) by
    have h := heap_alloc_new ((w.alloc (.cells (labA x) 25)).alloc (.cells opt0 27)) (.cells (labA x) 25)
    simpa using h))
  unfold opt0 at H0 H1 H2 HB HC
  clear hz hr
  go_enter Try.func13, Try.ntmps13
  go_wp2_with (first
    | (refine wpList_load_row rfl 25 (.tmp 1) rfl w.heap.size rfl 25 (labA x) (0, 0) _ H0.out hu25 rfl (info25 _) ?_)
    | (refine build1 rfl 56 25 (.tmp 6) rfl (labA x) rfl z hu56 HZ.out s0 s1 ?_)
    | (go_at_call 44; (with_reducible refine (HR.out _ _ _ H2.out).mono ?_); rintro e w4 ⟨rfl, hb'⟩; have HB' := Lib.hid (bel_trans HC.out hb'); have K1 := Lib.hid (blk_below H1.out HB'.out); clear hb')
    | (refine wpList_store_row rfl 27 (.tmp 2) (.tmp 10) rfl (w.heap.size + 1) #[.int .i64 0, .string ⟨#[]⟩] rfl rfl 27 _ K1.out (info27 _ _) rfl (one27 _ _) ?_))
  refine bodyPost_ret (results_row_tmp rfl _ _ (w.heap.size + 1) 27 #[.int .i64 0, .string ⟨#[]⟩] (0, 0) _ rfl (setRow_heap _ (w.heap.size + 1) _ _ 27 _ K1.out) hu27 rfl (info27 _ _)) rfl ⟨rfl, bel_setRow (below_then HB.out HB.out.size HB'.out) _ _ (by omega)⟩

set_option maxRecDepth 100000 in
set_option maxHeartbeats 2000000 in
theorem encode13_long (x : Lab) (hr : rightL x = true) (hf : fitsB x = false) (w : World) : Calls Try.prog 13 #[.agg (labA x)] w fun e w' => e = .returned (.tuple #[.agg opt0, .int .i64 5]) ∧ Below w.heap.size w w' := by
  have hu25 := Try.underlying25
  have hu27 := Try.underlying27
  have hu56 := Try.underlying56
  obtain ⟨z, hz⟩ := info25z x
  have HZ := Lib.hid hz
  have s0 : 0 < (labA x).size := by rw [labA_size]; decide
  have s1 : (labA x).size ≤ 1000 := by rw [labA_size]; decide
  have HR := Lib.hid (right44 x)
  have HF := Lib.hid (fits14 x)
  rw [hr] at HR
  rw [hf] at HF
  have H0 := Lib.hid (heap_alloc2_old w (.cells (labA x) 25) (.cells opt0 27))
  have H1 := Lib.hid (heap_alloc2_new w (.cells (labA x) 25) (.cells opt0 27))
  have HB := Lib.hid (bel_alloc (bel_alloc (Below.refl w.heap.size w) (.cells (labA x) 25)) (.cells opt0 27))
  have HC := Lib.hid (bel_alloc (Below.refl _ ((w.alloc (.cells (labA x) 25)).alloc (.cells opt0 27))) (.cells (labA x) 25))
  have H2 := Lib.hid (range_lab (show (((w.alloc (.cells (labA x) 25)).alloc (.cells opt0 27)).alloc (.cells (labA x) 25)).heap[w.heap.size + 2]? = some (.cells (labA x) 25 (0, 0)) by
    have h := heap_alloc_new ((w.alloc (.cells (labA x) 25)).alloc (.cells opt0 27)) (.cells (labA x) 25)
    simpa using h))
  unfold opt0 at H0 H1 H2 HB HC
  clear hz hr
  go_enter Try.func13, Try.ntmps13
  go_wp2_with (first
    | (refine wpList_load_row rfl 25 (.tmp 1) rfl w.heap.size rfl 25 (labA x) (0, 0) _ H0.out hu25 rfl (info25 _) ?_)
    | (refine wpList_load_row rfl 25 (.tmp 1) rfl w.heap.size rfl 25 (labA x) (0, 0) _ K0.out hu25 rfl (info25 _) ?_)
    | (refine build1 rfl 56 25 (.tmp 6) rfl (labA x) rfl z hu56 HZ.out s0 s1 ?_)
    | (go_at_call 44; (with_reducible refine (HR.out _ _ _ H2.out).mono ?_); rintro e w4 ⟨rfl, hb'⟩; have HB' := Lib.hid (bel_trans HC.out hb'); have K0 := Lib.hid (blk_below H0.out HB'.out); have K1 := Lib.hid (blk_below H1.out HB'.out); clear hb')
    | (go_at_call 14; (with_reducible refine (HF.out _).mono ?_); rintro e w5 ⟨rfl, hb'⟩; have HB2 := Lib.hid hb'; have K2 := Lib.hid (blk_below K1.out hb'); clear hb')
    | (refine wpList_store_row rfl 27 (.tmp 2) (.tmp 15) rfl (w.heap.size + 1) #[.int .i64 0, .string ⟨#[]⟩] rfl rfl 27 _ K2.out (info27 _ _) rfl (one27 _ _) ?_))
  refine bodyPost_ret (results_row_tmp rfl _ _ (w.heap.size + 1) 27 #[.int .i64 0, .string ⟨#[]⟩] (0, 0) _ rfl (setRow_heap _ (w.heap.size + 1) _ _ 27 _ K2.out) hu27 rfl (info27 _ _)) rfl ⟨rfl, bel_setRow (below_then HB.out HB.out.size (below_then HB'.out HB'.out.size HB2.out)) _ _ (by omega)⟩

/-- Bytes as a string. -/
def bs (l : List Nat) : ByteArray := ⟨(l.map UInt8.ofNat).toArray⟩
def bytes (l : List Nat) : List Value := l.map fun (b : Nat) => .int .u8 (b : Int)
theorem push_fold (l : List Nat) : ∀ s : ByteArray, (l.map fun (b : Nat) => (b : Int)).foldl (fun r n => r.push (UInt8.ofNat n.toNat)) s = ⟨s.data ++ (l.map UInt8.ofNat).toArray⟩ := by
  induction l with
  | nil => intro s; simp
  | cons x l ih =>
    intro s
    rw [List.map_cons, List.foldl_cons, ih]
    simp [ByteArray.push]
theorem conv_bs (w : World) (g n cap : Nat) (l : List Nat) (hn : l.length = n) (h : ∀ j u, (bytes l)[j]? = some u → w.cell? ⟨g, j, none⟩ = some u) : (convert 82 9 (.slice (some ⟨g, 0, none⟩) n cap)).run Try.prog w = .ok (.string (bs l)) w := by
  rw [run_convert_bytes_string w 82 9 5 _ _ _ Try.underlying82 Try.underlying5 Try.underlying9]
  have hld := run_loadCells_list (P := Try.prog) w ⟨g, 0, none⟩ (bytes l) (fun j v hv => by
    rw [Addr.add_lit, Nat.zero_add]
    exact h j v hv)
  have hlen : (bytes l).length = n := by simp [bytes, hn]
  rw [hlen] at hld
  have e : bytes l = (l.map fun (b : Nat) => (b : Int)).map (Value.int .u8) := by simp [bytes]
  rw [e] at hld
  rw [run_bytesToString w ⟨g, 0, none⟩ n cap _ hld, push_fold]
  simp [bs]

section
variable {ops : Array Oper} {o : Oper} {a : Act} {K : Act → World → Prop} {Q : Exit → Act → World → Prop} {E : Prop} {w : World}
/-- append of bytes to a slice of one, at a step of a region that draws. -/
theorem step_app (W0 : World) (hgd : o.guard = none) (s x : Operand) (ho : o.op = .call { callee := .builtin .append, args := #[s, x], argTypes := #[82, 82] })
    (Bx g n b : Nat) (hs : a.eval s = .slice (some ⟨Bx, 0, none⟩) 1 1) (hx : a.eval x = .slice (some ⟨g, 0, none⟩) n n) (L : List Nat) (hl : L.length = n) (hn : n ≤ 100)
    (hbx : w.heap[Bx]? = some (.cells #[.int .u8 b] 5 (0, 0))) (hg : w.heap[g]? = some (.cells (bytes L).toArray 5 (0, 0))) (hb : Below W0.heap.size W0 w) (hbx0 : W0.heap.size ≤ Bx)
    (hK : ∀ g' cap w', (convert 82 9 (.slice (some ⟨g', 0, none⟩) (1 + n) cap)).run Try.prog w' = .ok (.string (bs (b :: L))) w' → Below W0.heap.size W0 w' → K (a.put o.dst (.slice (some ⟨g', 0, none⟩) (1 + n) cap)) w') :
    if Region.wanted o (yielded ops a.tmps) = true then Oper.wp Try.prog o a w K Q else E := by
  obtain ⟨i0, hi0, hz0, hz1, hz2⟩ := info_parts info5
  have hlt := lt_of_block hbx
  have hown : w.ownsRow W0.heap.size 5 1 (.slice (some ⟨Bx, 0, none⟩) 1 1) 1 [.int .u8 b] := ⟨rfl, .inr ⟨Bx, 1, #[.int .u8 b], rfl, hbx0, hbx, Nat.le_refl _, by unfold maxLen; omega, rfl, rfl⟩⟩
  have hnews : ∀ j u, (bytes L)[j]? = some u → w.cell? ((⟨g, 0, none⟩ : Addr).add j) = some u := World.news_of_block hg
  have one : ∀ u ∈ bytes L, u.oneCell' = true := by
    intro u hu
    obtain ⟨y, _, rfl⟩ := List.mem_map.1 hu
    rfl
  obtain ⟨v', w', hr, h2, h3, _, h5⟩ := run_append_own_at (P := Try.prog) w W0.heap.size 82 o.type 5 i0 (.int .u8 0) 1 1 Try.underlying82 hi0 hz0 hz1 hz2 rfl (by decide) _ 1 _ hown ⟨g, 0, none⟩ n n (bytes L) (by simp [bytes, hl]) hnews one (by unfold maxLen; omega) (by omega) hb.size
  obtain ⟨g', cap, rfl, _, _⟩ := h2.form (by omega)
  have hw : Region.wanted o (yielded ops a.tmps) = true := by simp [Region.wanted, hgd]
  rw [if_pos hw]
  unfold Oper.wp execOp
  simp only [ho, resolve, invoke, builtin, Sem.run_bind, Sem.run_pure, Result.andThen_ok, List.map_toArray, List.map_cons, List.map_nil, hs, hx, hr]
  refine hK g' cap w' (conv_bs w' g' (1 + n) cap (b :: L) (by simp [hl]; omega) fun j u hu => ?_) (hb.trans ⟨h3.os, h3.tape, h3.output, h3.size, fun k hk => h3.block k (Nat.lt_of_lt_of_le hk hb.size) (fun e => by have e2 : k = Bx := Option.some.inj e; omega)⟩)
  have := h2.cells (g := g') rfl j u hu
  rwa [show (⟨g', 0, none⟩ : Addr).add j = ⟨g', j, none⟩ from by rw [Addr.add_lit, Nat.zero_add]] at this
end
end Go.Proofs.Ytifmckhabkghcaa.P
