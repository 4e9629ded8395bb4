/- Contracts of the reference's Within and Check (layer 13). -/
import Derived.Test.YtifmckhabkghcaaT1
namespace Go.Proofs.Ytifmckhabkghcaa.P
open Go.RowKit
set_option linter.unusedSimpArgs false
attribute [local go_sem ↓] ldi25

/-- The numbers below n of which something holds. -/
def selN (p : Nat → Bool) (n : Nat) : List Nat := (List.range n).filter p
theorem selN_succ (p : Nat → Bool) (n : Nat) : selN p (n + 1) = if p n = true then selN p n ++ [n] else selN p n := by
  unfold selN
  rw [List.range_succ, List.filter_append]
  by_cases h : p n = true <;> simp [h]
theorem selN_len (p : Nat → Bool) (n : Nat) : (selN p n).length ≤ n := by
  unfold selN
  exact Nat.le_trans (List.length_filter_le _ _) (by simp)
def labD (l : List Lab) (i : Nat) : Lab := l.getD i ⟨0, 0⟩
theorem labD_get {l : List Lab} {i : Nat} (h : i < l.length) : labD l i = l[i] := by simp [labD, List.getD, h]
/-- Does the label of a number lie between two? -/
def inB (l : List Lab) (lo hi : Lab) (i : Nat) : Bool := domB (labD l i) lo && domB hi (labD l i)

theorem app3 : ∃ i0, (Try.prog.info? 3) = some i0 ∧ i0.zero = some (Value.int .i64 0) ∧ i0.size = 1 ∧ i0.bytes = 8 := by
  obtain ⟨i0, hi0, hz0, hz1, hz2⟩ := info_parts info3
  exact ⟨i0, hi0, hz0, hz1, hz2⟩

set_option maxRecDepth 100000 in
set_option maxHeartbeats 2000000 in
theorem rwithin36 (l : List Lab) (lo hi : Lab) (A : Option Addr) (c : Nat) (w : World) (hA : SlA w A l) (hl : ∀ y ∈ l, LabOK y) (hlo : LabOK lo) (hlen : l.length ≤ 40) :
    Calls Try.prog 36 #[.slice A l.length c, .agg (labA lo), .agg (labA hi)] w fun e w' => ∃ v, e = .returned v ∧ w'.ownsRow w.heap.size 3 1 v (selN (inB l lo hi) l.length).length (ints (selN (inB l lo hi) l.length)) ∧ Below w.heap.size w w' := by
  have hu25 := Try.underlying25
  have hu56 := Try.underlying56
  have hu60 := Try.underlying60
  obtain ⟨i0, hi0, hz0, hz1, hz2⟩ := info_parts info3
  have HI0 := Lib.hid hi0
  have HZ0 := Lib.hid hz0
  have HZ1 := Lib.hid hz1
  have HZ2 := Lib.hid hz2
  clear hi0 hz0 hz1 hz2
  have HA := Lib.hid hA
  have H0 := Lib.hid (heap_alloc2_old w (.cells (labA lo) 25) (.cells (labA hi) 25))
  have H1 := Lib.hid (heap_alloc2_new w (.cells (labA lo) 25) (.cells (labA hi) 25))
  have HB := Lib.hid (bel_alloc (bel_alloc (Below.refl w.heap.size w) (.cells (labA lo) 25)) (.cells (labA hi) 25))
  clear hA
  go_enter Try.func36, Try.ntmps36
  go_wp2_with fail
  go_loopg [7, 8] 41 (fun gg s7 s8 wr => ∃ i : Nat, i ≤ l.length ∧ 41 - i ≤ gg ∧ s8 = .int .i64 i ∧ Hid (wr.ownsRow (w.heap.size + 2) 3 1 s7 (selN (inB l lo hi) i).length (ints (selN (inB l lo hi) i))) ∧ Hid (wr.heap[w.heap.size]? = some (.cells (labA lo) 25 (0, 0))) ∧ Hid (wr.heap[w.heap.size + 1]? = some (.cells (labA hi) 25 (0, 0))) ∧ Hid (Below w.heap.size w wr))
  case atStart => exact ⟨0, Nat.zero_le _, Nat.sub_le _ _, rfl, (World.ownsRow_nil _ _ _ _ : World.ownsRow _ _ _ _ (.slice none 0 0) 0 []), H0.out, H1.out, HB.out⟩
  case round =>
    obtain ⟨i, hi', hgg, rfl, OW, K0, K1, BR⟩ := hrel
    clear H0 H1 HB
    by_cases hlt : i < l.length
    · have d1 : decide ((i : Int) < (l.length : Int)) = true := decide_eq_true (by omega)
      have d2 : (0 : Int) ≤ (i : Int) := by omega
      have d3 : (i : Int) < (l.length : Int) := by omega
      have q1 : IntKind.i64.wrap ((i : Int) + 1) = (i : Int) + 1 := IntWalk.i64_in _ (by omega)
      obtain ⟨b, o, rfl, hb, hc⟩ := (HA.out.below BR.out) (by omega)
      have hoy := hl _ (List.getElem_mem hlt)
      have h1 := ldb25 (hc i _ (List.getElem?_eq_getElem hlt)) hb
      have h2 := ldb25 (show wr.rangeAt w.heap.size 0 (labL lo) from range_lab K0.out) (lt_of_block K0.out)
      have h3 := ldb25 (show wr.rangeAt (w.heap.size + 1) 0 (labL hi) from range_lab K1.out) (lt_of_block K1.out)
      have hp : inB l lo hi i = (domB l[i] lo && domB hi l[i]) := by unfold inB; rw [labD_get hlt]
      have HS := Lib.hid (selN_succ (inB l lo hi) i)
      rw [hp] at HS
      have hsl := selN_len (inB l lo hi) i
      have hk0 := lt_of_block K0.out
      have hk1 := lt_of_block K1.out
      clear hp
      generalize l[i] = y at h1 hoy HS
      have HD1 := Lib.hid (rdom33 y lo hlo.2)
      have HD2 := Lib.hid (rdom33 hi y hoy.2)
      clear hc hoy
      cases e1 : domB y lo with
      | false =>
        rw [e1] at HD1 HS
        clear e1
        go_wp2_with fail
        refine region_bw (by kernel_rfl) (by kernel_rfl) ?_
        repeat (go_big_quiet_step ((go_at_call 33; exact call_bw HD1.out _)))
        refine wpQuiet_nil ?_
        rintro _ ⟨u, rfl⟩
        have hb' := Lib.hid (BW.b u)
        generalize u.w = w4 at hb' ⊢
        clear h1 h2 h3
        go_wp2_with fail
        go_roundg (41 - (i + 1))
        case measure => omega
        case rel => exact ⟨i + 1, hlt, Nat.le_refl _, rfl, Lib.hid (by rw [HS.out, if_neg (by simp)]; exact own_below OW.out hb'.out), Lib.hid (blk_below K0.out hb'.out), Lib.hid (blk_below K1.out hb'.out), Lib.hid (below_then BR.out BR.out.size hb'.out)⟩
      | true =>
        rw [e1] at HD1 HS
        clear e1
        cases e2 : domB hi y with
        | false =>
          rw [e2] at HD2 HS
          clear e2
          go_wp2_with fail
          refine region_bw (by kernel_rfl) (by kernel_rfl) ?_
          repeat (go_big_quiet_step ((go_at_call 33; first | with_reducible exact call_bw HD1.out _ | with_reducible exact call_bw HD2.out _)))
          refine wpQuiet_nil ?_
          rintro _ ⟨u, rfl⟩
          have hb' := Lib.hid (BW.b u)
          generalize u.w = w4 at hb' ⊢
          clear h1 h2 h3
          go_wp2_with fail
          go_roundg (41 - (i + 1))
          case measure => omega
          case rel => exact ⟨i + 1, hlt, Nat.le_refl _, rfl, Lib.hid (by rw [HS.out, if_neg (by simp)]; exact own_below OW.out hb'.out), Lib.hid (blk_below K0.out hb'.out), Lib.hid (blk_below K1.out hb'.out), Lib.hid (below_then BR.out BR.out.size hb'.out)⟩
        | true =>
          rw [e2] at HD2 HS
          clear e2
          go_wp2_with fail
          refine region_bw (by kernel_rfl) (by kernel_rfl) ?_
          repeat (go_big_quiet_step ((go_at_call 33; first | with_reducible exact call_bw HD1.out _ | with_reducible exact call_bw HD2.out _)))
          refine wpQuiet_nil ?_
          rintro _ ⟨u, rfl⟩
          have hb' := Lib.hid (BW.b u)
          generalize u.w = w4 at hb' ⊢
          clear h1 h2 h3
          have OW4 := Lib.hid (own_below OW.out hb'.out)
          have K4 := Lib.hid (blk_below K0.out hb'.out)
          have K5 := Lib.hid (blk_below K1.out hb'.out)
          have hs4 := hb'.out.size
          go_wp2_with (first
            | (at_builtin; refine wpList_append_own _ rfl (.tmp 29) (.tmp 31) 60 rfl (w.heap.size + 2) 3 i0 (.int .i64 0) 1 8 hu60 HI0.out HZ0.out HZ1.out HZ2.out rfl (by decide) _ _ _ rfl (OW4.out.alloc _) ⟨w4.heap.size, 0, none⟩ 1 1 [.int .i64 i] rfl rfl (World.news_of_block (cs := #[.int .i64 i]) (heap_alloc_new _ _)) (by intro u hu; rw [List.mem_singleton.1 hu]; rfl) (by unfold maxLen; omega) (by omega) (by simp; omega) ?_; intro v' w5 ho5 hg5 _; have HO5 := Lib.hid ho5; have HG5 := Lib.hid hg5; clear ho5 hg5))
          go_roundg (41 - (i + 1))
          case measure => omega
          case rel =>
            refine ⟨i + 1, hlt, Nat.le_refl _, rfl, ?_, ?_, ?_, ?_⟩
            · have := HO5.out
              refine Lib.hid ?_
              rw [HS.out, if_pos (by simp), List.length_append, ints, List.map_append]
              exact this
            · refine Lib.hid ((HG5.out.block _ (by simp; omega) (fun e => ?_)).trans ((heap_alloc_old _ _ (by omega)).trans K4.out))
              have := (OW4.out.lt _ e.symm).1
              omega
            · refine Lib.hid ((HG5.out.block _ (by simp; omega) (fun e => ?_)).trans ((heap_alloc_old _ _ (by omega)).trans K5.out))
              have := (OW4.out.lt _ e.symm).1
              omega
            · exact Lib.hid ((bel_alloc (below_then BR.out BR.out.size hb'.out) _).grown HG5.out (by simp; omega) (fun k hk => by have := (OW4.out.lt _ hk).1; omega))
    · have d1 : decide ((i : Int) < (l.length : Int)) = false := decide_eq_false (by omega)
      have hi2 : i = l.length := by omega
      have OW2 := Lib.hid (by rw [hi2] at OW; exact OW.out)
      go_wp2_with fail
      go_ret
      exact ⟨_, rfl, own_lower OW2.out (by omega), BR.out⟩
end Go.Proofs.Ytifmckhabkghcaa.P
