/- Contract of All (layer 14). -/
import Derived.Test.YtfpbcdlfcaglgaaNX
namespace Go.Proofs.Ytfpbcdlfcaglgaa.P
open Go.RowKit Go.Shelf

attribute [local go_sem] Oper.semAt_some

theorem ownFrom_blk (base : Nat) (Bx : Nat) (cs : Array Value) (t : TypeId) : OwnFrom base (fun (_ : Unit) W => W.heap[Bx]? = some (.cells cs t (0, 0))) := by
  intro s A B row hs hg hr
  refine (hg.block Bx (lt_of_block hs) (fun e => ?_)).trans hs
  obtain ⟨_, o, ho, hc⟩ := hr _ e.symm
  rw [hs] at ho
  cases ho
  cases hc
theorem boxed_app {W w1 : World} {tmp : Obj} {B1 B2 n e s k : Nat} {t : TypeId} {u v : Value} {xs : List Value} (hP : Boxed W B2 t u) (hg : (W.alloc tmp).grownBy w1 v.ownBlock) (hrow : W.ownsRow n e s v k xs) (hte : t ≠ e) (hne : B2 ≠ B1) (v' : Value) : Boxed (w1.setCell ⟨B1, 0, none⟩ v') B2 t u :=
  ((hP.alloc tmp).kept hg ((hP.alloc tmp).not_row hte (hrow.alloc tmp))).other hne v'
set_option maxRecDepth 100000 in
set_option maxHeartbeats 4000000 in
theorem all22_in (F : Fence) (hd : F.depth = none) (n : Nat) (h22 : F.fn 22) (h31 : F.fn 31) (h33 : F.fn 33) (h34 : F.fn 34) (hro : F.round = none) (hn : 3 ≤ n) (w : World) (M B g cap : Nat) (vf : Value) (l : List Nd) (fr : List Nat) (c : Int) (f : Nat) (hD : Dp l f 0) (hT : Tri w M B g cap vf l fr c) (hlen : (eachF l f 0).length ≤ 100000) :
    CallsIn F n Try.prog 22 #[.pointer (some ⟨B, 0, none⟩)] w fun e w' => ∃ v, e = .returned v ∧ w'.ownsRow w.heap.size 32 3 v (eachF l f 0).length (rtsL (eachF l f 0)) ∧ Below w.heap.size w w' := by
  have h1 : 1 ≤ n := by omega
  have hu22 := Try.underlying22
  have hu32 := Try.underlying32
  have hu30 := Try.underlying30
  obtain ⟨i0, hi, hz0, hz1, hz2⟩ := info_parts info32b
  have hTU : TrU w.heap.size w M B g cap vf l fr c := ⟨hT, hT.lt, hT.glt.2, fun k hk => (hT.fown.lt k hk).2⟩
  refine callsIn_of_wp_marks Try.func22 rfl h22 ?_ hro
  simp only [Try.ntmps22, List.size_toArray, List.length_cons, List.length_nil, Nat.reduceAdd, Nat.reduceSub, Array.replicate_succ, Array.replicate_zero, List.push_toArray, List.append_toArray, List.nil_append, List.cons_append]
  gi_wp2_with (gi_at_call 31; refine (routes_in F (n - 1) h31 hro _ _).mono ?_; rintro e w' ⟨rfl, rfl⟩)
  have bL := (Boxed.new w 22 (.slice none 0 0)).alloc (.cells #[.pointer (some ⟨B, 0, none⟩)] 25)
  have bP := Boxed.new (w.alloc (.cells #[.slice none 0 0] 22)) 25 (.pointer (some ⟨B, 0, none⟩))
  simp only [World.size_alloc] at bP
  have hB0 : Below w.heap.size w ((w.alloc (.cells #[.slice none 0 0] 22)).alloc (.cells #[.pointer (some ⟨B, 0, none⟩)] 25)) := ((Below.refl _ w).alloc (Nat.le_refl _) _).alloc (by simp) _
  have hsz : ((w.alloc (.cells #[.slice none 0 0] 22)).alloc (.cells #[.pointer (some ⟨B, 0, none⟩)] 25)).heap.size = w.heap.size + 2 := by simp
  obtain ⟨W0, hW0⟩ : ∃ W0, (w.alloc (.cells #[.slice none 0 0] 22)).alloc (.cells #[.pointer (some ⟨B, 0, none⟩)] 25) = W0 := ⟨_, rfl⟩
  rw [hW0] at bL bP hB0 hsz ⊢
  clear hW0
  refine wpIn_rangeFunc_ownH hro h1 (gf := 33) (lb := #[.pointer (some ⟨w.heap.size + 1, 0, none⟩)]) rfl h33 (enters_of Try.func33 (by kernel_rfl) rfl)
    (routes_stops F hd (n - 1) h33 h34 hro (w.heap.size + 1) w.heap.size M B g cap vf l fr c f W0 (by omega) (by omega) bP.cell hD (hTU.below hB0)) belowK_t (belowK_b (by omega)) (Below.refl _ _) (fun _ => rfl)
    (fun pre W => ((∃ v, Boxed W w.heap.size 22 v ∧ W.ownsRow w.heap.size 32 3 v pre.length (rtsL pre) ∧ True) ∧ Boxed W (w.heap.size + 1) 25 (.pointer (some ⟨B, 0, none⟩))) ∧ Below w.heap.size w W)
    (fun _ _ _ => False)
    (OwnFrom.and (OwnFrom.and (Own.from (holdsRow_own w.heap.size w.heap.size 22 32 3 (fun pre : List Rt => pre.length) (fun pre => rtsL pre) (fun _ _ => True)) _) (Own.from (boxed_own _ _ _) _)) (ownFrom_below (Nat.le_refl _) (by omega)))
    (fun _ _ _ _ _ hs _ _ => hs)
    ⟨⟨⟨_, bL, World.ownsRow_nil _ _ _ _, trivial⟩, bP⟩, hB0⟩
    (fun x a' W => ∃ Bx, w.heap.size + 1 < Bx ∧ W.heap[Bx]? = some (.cells (rtA x) 32 (0, 0)) ∧ a' = { tmps := #[.pointer (some ⟨B, 0, none⟩), undef, .slice none 0 0, .pointer (some ⟨w.heap.size, 0, none⟩), .pointer (some ⟨Bx, 0, none⟩), .pointer (some ⟨B, 0, none⟩), .bool false, .pointer (some ⟨B, 0, none⟩), .func (.func 33) #[] #[.pointer (some ⟨w.heap.size + 1, 0, none⟩)], .agg (rtA x), undef, undef, undef, undef, undef], defers := [] })
    (fun x a' _ X Y row hs hg hr => by obtain ⟨Bx, h1, h2, h3⟩ := hs; exact ⟨Bx, h1, ownFrom_blk _ Bx (rtA x) 32 () X Y row h2 hg hr, h3⟩)
    ?assign ?body ?done ?stop
  case assign =>
    rintro lp pre x W K ⟨⟨⟨v, hv, hrow, _⟩, hP⟩, hB1⟩ hK
    gi_wp2
    exact hK _ _ ((KeepsOthers.alloc _ _).from _) ((Below.refl _ W).alloc hB1.size _) ⟨⟨⟨v, hv.alloc _, hrow.alloc _, trivial⟩, hP.alloc _⟩, hB1.alloc hB1.size _⟩ ⟨W.heap.size, hP.lt, heap_alloc_new W (.cells (rtA x) 32), rfl⟩
  case body =>
    rintro lp pre x a' W hl ⟨r, hr⟩ ⟨⟨⟨v, hv, hrow, _⟩, hP⟩, hB1⟩ ⟨Bx, hBx, bX, rfl⟩ hlt
    have hc := hv.cell
    have c0 := rt_c0 bX
    have c1 := rt_c1 bX
    have c2 := rt_c2 bX
    gi_wp2_with (gi_at_builtin; refine wpListIn_append_own _ rfl (.tmp 10) (.tmp 12) 22 rfl w.heap.size 32 i0 (.agg rz) 3 24 hu22 hi hz0 hz1 hz2 rfl (by decide) _ _ _ rfl (hrow.alloc _) ⟨W.heap.size, 0, none⟩ 1 1 (rtC x) rfl rfl (World.news_of_block (cs := rtA x) (heap_alloc_new _ _)) (rtC_one x) (by unfold maxLen; omega) (by omega) (by have := hB1.size; simp; omega) ?_; intro v' w1 hown' hgrow _; obtain ⟨g', cap', rfl⟩ := ownsRow_succ hown'; obtain ⟨hv1, hv2, hr2, hk2, hb2⟩ := hv.appended (by decide) hrow hB1.size (Nat.le_refl _) hown' hgrow; have hp2 := boxed_app hP hgrow hrow (by decide) (show w.heap.size + 1 ≠ w.heap.size by omega) (.slice (some ⟨g', 0, none⟩) (pre.length + 1) cap'); have hc1 := hv1.cell; have hf1 := hv1.frozen)
    exact ⟨hk2.from _, hb2, ⟨⟨⟨_, hv2, by rw [rtsL_snoc]; simpa using hr2, trivial⟩, hp2⟩, hB1.trans hb2⟩⟩
  case done =>
    rintro D ys W hD rfl ⟨⟨⟨v, hv, hrow, _⟩, _⟩, hB⟩ hK
    have hc := hv.cell
    gi_wp2
    refine ⟨by simp, .inl ⟨_, _, rfl, run_takeDeferred hK, ?_⟩⟩
    exact ⟨_, results_tmp rfl _ _ _, v, rfl, ownsRow_putObj hrow _ hK rfl, hB.trans (belowK_b (w := w) (Nat.le_refl _) W D _ _ (by omega) hK rfl rfl)⟩
  case stop =>
    rintro D c pre W _ _ h _
    exact h.elim
end Go.Proofs.Ytfpbcdlfcaglgaa.P
