/- Contract of fresh (layer 14). -/
import Derived.Test.YtfpbcdlfcaglgaaNB
import Derived.StillTailTactics
namespace Go.Proofs.Ytfpbcdlfcaglgaa.P
open Go.RowKit

/-- A node that is taken: the nodes behind it, its place. -/
def freshL (l : List Nd) (fr : List Nat) : List Nd := match fr.getLast? with | some i => l.set i nd0 | none => l ++ [nd0]
def freshI (l : List Nd) (fr : List Nat) : Nat := match fr.getLast? with | some i => i | none => l.length
/-- A store, kept whole. -/
def STI (t : TypeId) (p v : Value) : Sem Unit := Instr.storeAt t p v
theorem sti56 (p v : Value) : Instr.storeAt 56 p v = STI 56 p v := rfl
attribute [local go_sem ↓] sti56
theorem Tri.alloc {w : World} {M B g cap : Nat} {vf : Value} {l : List Nd} {fr : List Nat} {n : Int} (h : Tri w M B g cap vf l fr n) (o : Obj) : Tri (w.alloc o) M B g cap vf l fr n := h.below (bel_alloc (Below.refl _ _) _)
theorem own_take {w : World} {b e n g cap : Nat} {xs : List Value} (h : w.ownsRow b e 1 (.slice (some ⟨g, 0, none⟩) (n + 1) cap) (n + 1) xs) : w.ownsRow b e 1 (.slice (some ⟨g, 0, none⟩) n cap) n xs.dropLast := by
  have hl := h.1
  refine ⟨by rw [List.length_dropLast, hl]; omega, ?_⟩
  rcases h.2 with ⟨h, _⟩ | ⟨g', cap', cur, h, hb, hg, h3, h4, h5, h6⟩
  · cases h
  · cases h
    refine .inr ⟨g, cap, cur, rfl, hb, hg, by omega, h4, h5, ?_⟩
    rw [List.dropLast_eq_take, hl, ← h6, List.take_take]
    congr 1; omega
/-- One of several operations that may come up: a call. -/
theorem st_call {P : Program} {ops : Array Oper} {o : Oper} {a : Act} {w : World} {Q : Exit → Act → World → Prop} {K : Act → World → Prop} {E : Prop} (N : Option Tmp) (f : FuncId) (args : Array Value) (hd : o.dst = N) (hw : Region.wanted o (yielded ops a.tmps) = true) (hrun : (execOp a.eval o).run P w = .ok (.enter f args) w)
    (h : Calls P f args w fun e w' => ∃ v, e = .returned v ∧ K (a.put N v) w') : if Region.wanted o (yielded ops a.tmps) = true then Oper.wp P o a w K Q else E := by
  subst hd
  rw [if_pos hw]
  unfold Oper.wp
  rw [hrun, Oper.upon_enter]
  refine h.mono fun e w'' hh => ?_
  obtain ⟨v, rfl, hk⟩ := hh
  exact hk
theorem nd_one : ndA0.all (·.oneCell') = true := by simp [ndA0, Value.oneCell']
theorem ndC_one (x : Nd) : ∀ u ∈ ndC x, u.oneCell' = true := by
  intro u hu
  simp only [ndC, List.mem_cons, List.not_mem_nil, or_false] at hu
  rcases hu with rfl | rfl | rfl | rfl | rfl | rfl <;> rfl
theorem info56s : (Try.prog.info? 56).map (·.size) = some ndA0.size := by kernel_rfl
theorem Tri.there {w : World} {M B g cap : Nat} {vf : Value} {l : List Nd} {fr : List Nat} {n : Int} (h : Tri w M B g cap vf l fr n) (i : Nat) (hi : i < l.length) : w.there g (i * 6) 6 := fun j hj => by
  refine ⟨?_, h.fzg _⟩
  rw [h.nd i j _ (List.getElem?_eq_getElem hi) hj, List.getElem?_eq_getElem (by rw [ndC_len]; omega)]
  rfl
theorem freshL_free {l : List Nd} {fr : List Nat} {i : Nat} (h : fr.getLast? = some i) : freshL l fr = l.set i nd0 := by simp [freshL, h]
theorem freshI_free {l : List Nd} {fr : List Nat} {i : Nat} (h : fr.getLast? = some i) : freshI l fr = i := by simp [freshI, h]
set_option maxHeartbeats 2000000 in
theorem fresh26_free (w : World) (M B g cap : Nat) (vf : Value) (l : List Nd) (fr : List Nat) (c : Int) (h : Tri w M B g cap vf l fr c) (i : Nat) (hf : fr.getLast? = some i) (hi : i < l.length) (hfl : fr.length ≤ 100000) :
    Calls Try.prog 26 #[.pointer (some ⟨B, 0, none⟩)] w fun e w' => e = .returned (.int .i64 i) ∧ ∃ g' cap' vf', Tri w' M B g' cap' vf' (l.set i nd0) fr.dropLast c ∧ Chg B g vf w w' g' vf' := by
  have hu61 := Try.underlying61
  have hu58 := Try.underlying58
  have hu59 := Try.underlying59
  have hu56 := Try.underlying56
  have hpos : 0 < fr.length := by
    cases fr with
    | nil => simp at hf
    | cons a r => simp
  obtain ⟨n, hn⟩ : ∃ n, fr.length = n + 1 := ⟨fr.length - 1, by omega⟩
  have hfo := h.fown
  rw [hn] at hfo
  obtain ⟨gf, cf, rfl, _, _⟩ := hfo.form (by omega)
  have c0 := h.c0
  have c1 := h.c1
  have z0 := h.fz 0
  have z1 := h.fz 1
  have ci := ints_at hfo n i (by rw [List.getLast?_eq_getElem?, hn] at hf; exact hf)
  have hcap : n + 1 ≤ cf := by
    rcases hfo.2 with ⟨h, _⟩ | ⟨g', cap', cur, h, _, _, h3, _⟩
    · cases h
    · cases h; exact h3
  obtain ⟨m, hm⟩ : ∃ m, m = n + 1 := ⟨_, rfl⟩
  rw [← hm] at c1
  rw [← hm] at hcap
  have q1 : IntKind.i64.wrap ((m : Int) - 1) = (n : Int) := by rw [IntWalk.i64_in _ (by omega)]; omega
  have q2 : (0 : Int) < (m : Int) := by omega
  have q3 : (0 : Int) ≤ (n : Int) := by omega
  have q4 : (n : Int) < (m : Int) := by omega
  have q5 : (n : Int) ≤ (cf : Int) := by omega
  have q6 : (0 : Int) ≤ (i : Int) := by omega
  have q7 : (i : Int) < (l.length : Int) := by omega
  have H := Lib.hid h
  have HF := Lib.hid (show w.ownsRow M 3 1 (.slice (some ⟨gf, 0, none⟩) n cf) fr.dropLast.length (intsL fr.dropLast) by
    have := own_take hfo
    rw [show fr.dropLast.length = n by rw [List.length_dropLast]; omega]
    rwa [show (intsL fr).dropLast = intsL fr.dropLast by simp [intsL]] at this)
  have HE := Lib.hid empty23
  have HI := Lib.hid hi
  have HM := Lib.hid hm
  clear h hfo hf hi hn hm
  go_enter Try.func26, Try.ntmps26
  go_wp2_with fail
  have T1 := Lib.hid (H.out.setF HF.out)
  have C1 := Lib.hid (show Chg B g (.slice (some ⟨gf, 0, none⟩) (n + 1) cf) w (w.setCell ⟨B, 1, none⟩ (.slice (some ⟨gf, 0, none⟩) n cf)) g (.slice (some ⟨gf, 0, none⟩) n cf) from Chg.setB 1 _ (fun k hk => .inl hk))
  generalize w.setCell ⟨B, 1, none⟩ (.slice (some ⟨gf, 0, none⟩) n cf) = W1 at *
  clear c0 c1 z0 z1 ci
  have c0 := T1.out.c0
  go_region_law (refine st_call (some 35) 23 #[] rfl rfl (by go_simp) ?_; refine Calls.mono (HE.out _) ?_; rintro e w2 ⟨rfl, hb⟩; refine ⟨_, rfl, ?_⟩; have T2 := Lib.hid (T1.out.drew.below hb); have C2 := Lib.hid (C1.out.drew.trans (Chg.of_below hb)); have c0 := T2.out.c0; have hst : (STI 56 (.pointer (some ⟨g, i * 6, none⟩)) (.agg ndA0)).run Try.prog w2 = .ok () (w2.setCells g (i * 6) ndA0.toList) := run_storeAt_mid w2 g (i * 6) 56 ndA0 (T2.out.there i HI.out) info56s nd_one; clear hb)
  all_goals
    have T3 := Lib.hid (T2.out.set0 i HI.out)
    have C3 := Lib.hid (C2.out.trans (Chg.setgs (i * 6) ndA0.toList))
    clear hst c0
    generalize w2.setCells g (i * 6) ndA0.toList = w3 at *
    go_wp2_with fail
    go_ret
    exact ⟨rfl, g, cap, _, T3.out, C3.out⟩
theorem own_zero {w : World} {b e s : Nat} {v : Value} {xs : List Value} (h : w.ownsRow b e s v 0 xs) : ∃ a c, v = .slice a 0 c := own_form h
def BSI (t : TypeId) (n : Nat) (xs : Array (Nat × Value)) : Sem Value := Instr.buildSlice t n xs
theorem bsi58 (n : Nat) (xs : Array (Nat × Value)) : Instr.buildSlice 58 n xs = BSI 58 n xs := rfl
attribute [local go_sem ↓] bsi58
theorem bs58 (w : World) : (BSI 58 1 #[(0, .agg ndA0)]).run Try.prog w = .ok (.slice (some ⟨w.heap.size, 0, none⟩) 1 1) (w.alloc (.cells ndA0 56)) :=
  run_build1 w 58 56 ndA0 _ Try.underlying58 info56 (by decide) (by decide)
theorem info56b : (Try.prog.info? 56).map (fun i => (i.zero, i.size, i.bytes)) = some (some (.agg ndZ), 6, 48) := by kernel_rfl
theorem Tri.grow {w w1 : World} {M B g cap g' cap' : Nat} {vf : Value} {l : List Nd} {fr : List Nat} {n : Int} (h : Tri w M B g cap vf l fr n) (hg : w.grownBy w1 (some g)) (ho : w1.ownsRow M 56 6 (.slice (some ⟨g', 0, none⟩) (l.length + 1) cap') (l.length + 1) (ndsL l ++ ndC nd0)) :
    Tri (w1.setCell ⟨B, 0, none⟩ (.slice (some ⟨g', 0, none⟩) (l.length + 1) cap')) M B g' cap' vf (l ++ [nd0]) fr n := by
  have hB : w1.heap[B]? = some (.cells #[.slice (some ⟨g, 0, none⟩) l.length cap, vf, .int .i64 n] 61 (0, 0)) := (hg.block B h.lt (fun e => h.Bg (Option.some.inj e))).trans h.blk
  have e : (l ++ [nd0]).length = l.length + 1 := by simp
  refine ⟨h.base, by simp, ?_, ?_, ?_⟩
  · rw [e]; exact heap_setCell_same w1 B 0 _ 61 _ hB
  · rw [e, ndsL_snoc]
    exact ownsRow_setCell_other ho (own_not ho hB (by decide)) _
  · refine ownsRow_setCell_other ?_ h.fB _
    exact own_keep h.fown (fun k hk => hg.block k (h.fown.lt k hk).2 (fun e => h.fg (by rw [hk, e])))
theorem Chg.grow {w w1 : World} {B g g' : Nat} {vf : Value} (hg : w.grownBy w1 (some g)) (u : Value) (hat : g' = g ∨ w.heap.size ≤ g') : Chg B g vf w (w1.setCell ⟨B, 0, none⟩ u) g' vf :=
  ⟨hg.os, hg.tape, hg.output, by simpa [World.setCell] using hg.size, fun k hk hb hgk _ => (Below.heap_setCell w1 ⟨B, 0, none⟩ u k hb).trans (hg.block k hk (fun e => hgk (Option.some.inj e))), hat, fun _ h => .inl h⟩
set_option maxHeartbeats 2000000 in
theorem fresh26_new (w : World) (M B g cap : Nat) (vf : Value) (l : List Nd) (c : Int) (h : Tri w M B g cap vf l [] c) (hll : l.length ≤ 100000) :
    Calls Try.prog 26 #[.pointer (some ⟨B, 0, none⟩)] w fun e w' => e = .returned (.int .i64 l.length) ∧ ∃ g' cap' vf', Tri w' M B g' cap' vf' (l ++ [nd0]) [] c ∧ Chg B g vf w w' g' vf' := by
  have hu61 := Try.underlying61
  have hu58 := Try.underlying58
  have hu59 := Try.underlying59
  have hu56 := Try.underlying56
  obtain ⟨i0, hi0, hz0, hz1, hz2⟩ := info_parts info56b
  have HI0 := Lib.hid hi0
  have HZ0 := Lib.hid hz0
  have HZ1 := Lib.hid hz1
  have HZ2 := Lib.hid hz2
  clear hi0 hz0 hz1 hz2
  obtain ⟨af, cf, rfl⟩ := own_zero (show w.ownsRow M 3 1 vf 0 _ from h.fown)
  have c0 := h.c0
  have c1 : w.cell? ⟨B, 1, none⟩ = some (.slice af 0 cf) := h.c1
  have H := Lib.hid h
  have HE := Lib.hid empty23
  have hbs := bs58
  have hBlt := h.lt
  have hglt := h.glt
  have hMB := h.base
  have hBg : some B ≠ some g := fun e => h.Bg (Option.some.inj e)
  clear h
  go_enter Try.func26, Try.ntmps26
  go_wp2_with fail
  have T0 := Lib.hid H.out.drew
  go_region_law (first
    | (refine st_call (some 43) 23 #[] rfl rfl (by go_simp) ?_; refine Calls.mono (HE.out _) ?_; rintro e w2 ⟨rfl, hb⟩; refine ⟨_, rfl, ?_⟩; have T2 := Lib.hid (T0.out.below hb); have C2 := Lib.hid ((Chg.refl B g (.slice af 0 cf) w).drew.trans (Chg.of_below hb)); have c0 := T2.out.c0; have k0 := (Tri.alloc T2.out (.cells ndA0 56)).c0; have k1 := (Tri.alloc T2.out (.cells ndA0 56)).fz 0; have hs2 : w.heap.size ≤ w2.heap.size := hb.size; clear hb)
    | (refine step_append_lies _ (by rfl) (.tmp 42) (.tmp 44) 58 (by rfl) M 56 i0 _ 6 48 hu58 HI0.out HZ0.out HZ1.out HZ2.out rfl (by omega) (.slice (some ⟨g, 0, none⟩) l.length cap) l.length (ndsL l) (by rfl) (Tri.alloc T2.out _).own ⟨w2.heap.size, 0, none⟩ 1 1 (ndC nd0) (by rfl) (by rfl) (World.news_of_block (cs := ndA0) (heap_alloc_new _ _)) (ndC_one nd0) (by omega) (by unfold maxLen; omega) (by omega) (by simp; omega) (w2.heap.size + 1) (by simp) ?_; intro g5 cap5 w5 hown5 hgrow5 hat5 hlt5; have ka := (hgrow5.cell_far ⟨B, 0, none⟩ (by simp; omega) hBg).trans k0; have kb := (hgrow5.frozen_far ⟨B, 0, none⟩ (by simp; omega) hBg).trans k1))
  all_goals
    have T5 := Lib.hid ((Tri.alloc T2.out (.cells ndA0 56)).grow hgrow5 hown5)
    have C5 := Lib.hid ((C2.out.trans (Chg.of_below (bel_alloc (Below.refl _ _) (.cells ndA0 56)))).trans (Chg.grow hgrow5 (.slice (some ⟨g5, 0, none⟩) (l.length + 1) cap5) (by
      rcases hat5 with h | h
      · exact .inl (Option.some.inj h).symm
      · exact .inr (by simp; omega))))
    have hl5 : (l ++ [nd0]).length = l.length + 1 := by simp
    clear ka kb k0 k1 c0 hgrow5 hown5 hat5 hlt5
    generalize w5.setCell ⟨B, 0, none⟩ (.slice (some ⟨g5, 0, none⟩) (l.length + 1) cap5) = w6 at *
    have c0 := T5.out.c0
    rw [hl5] at c0
    have q1 : IntKind.i64.wrap (l.length : Int) = (l.length : Int) := IntWalk.i64_in _ (by omega)
    clear hl5
    go_wp2_with fail
    go_ret
    exact ⟨ret_int (by omega), g5, cap5, _, T5.out, C5.out⟩
end Go.Proofs.Ytfpbcdlfcaglgaa.P
