/- Contracts of the table's Within and Below. -/
import Derived.Test.YtifmckhabkghcaaT6
namespace Go.Proofs.Ytifmckhabkghcaa.P
open Go.RowKit
set_option linter.unusedSimpArgs false
attribute [local go_sem ↓] ldi25

set_option maxRecDepth 100000 in
set_option maxHeartbeats 1000000 in
theorem within63 (x lo hi : Lab) (a b : Nat) (hx : x.S < 2 ^ 240) (hlo : lo.S < 2 ^ 240) (w : World) (ha : w.heap[a]? = some (.cells (labA lo) 25 (0, 0))) (hb : w.heap[b]? = some (.cells (labA hi) 25 (0, 0))) :
    Calls Try.prog 63 #[.agg (labA x), .pointer (some ⟨a, 0, none⟩), .pointer (some ⟨b, 0, none⟩)] w fun e w' => e = .returned (.bool (domB x lo && domB hi x)) ∧ Below w.heap.size w w' := by
  have hu25 := Try.underlying25
  have HI := Lib.hid (in64 x lo hi hx hlo)
  have HB := Lib.hid (bel_alloc (Below.refl w.heap.size w) (.cells (labA x) 25))
  have K0 := Lib.hid (heap_alloc_new w (.cells (labA x) 25))
  have K1 := Lib.hid ((heap_alloc_old w (.cells (labA x) 25) (lt_of_block ha)).trans ha)
  have K2 := Lib.hid ((heap_alloc_old w (.cells (labA x) 25) (lt_of_block hb)).trans hb)
  clear ha hb
  generalize (domB x lo && domB hi x) = r at HI ⊢
  go_enter Try.func63, Try.ntmps63
  go_wp2_with (first
    | (refine wpList_load_row rfl 25 (.tmp 3) rfl w.heap.size rfl 25 (labA x) (0, 0) _ K0.out hu25 rfl (info25 _) ?_)
    | (refine wpList_load_row rfl 25 (.tmp 1) rfl a rfl 25 (labA lo) (0, 0) _ K1.out hu25 rfl (info25 _) ?_)
    | (refine wpList_load_row rfl 25 (.tmp 2) rfl b rfl 25 (labA hi) (0, 0) _ K2.out hu25 rfl (info25 _) ?_)
    | (go_at_call 64; refine (HI.out _).mono ?_; rintro e w4 ⟨rfl, hb'⟩; have HB' := Lib.hid (below_then HB.out HB.out.size hb'); clear hb'))
  go_ret
  exact ⟨rfl, HB'.out⟩
set_option maxRecDepth 100000 in
set_option maxHeartbeats 1000000 in
theorem below65 (x top : Lab) (a : Nat) (hx : x.S < 2 ^ 240) (w : World) (ha : w.heap[a]? = some (.cells (labA top) 25 (0, 0))) :
    Calls Try.prog 65 #[.agg (labA x), .pointer (some ⟨a, 0, none⟩)] w fun e w' => e = .returned (.bool (domB top x)) ∧ Below w.heap.size w w' := by
  have hu25 := Try.underlying25
  have HI := Lib.hid (dom66 top x hx)
  have HB := Lib.hid (bel_alloc (Below.refl w.heap.size w) (.cells (labA x) 25))
  have K0 := Lib.hid (heap_alloc_new w (.cells (labA x) 25))
  have K1 := Lib.hid ((heap_alloc_old w (.cells (labA x) 25) (lt_of_block ha)).trans ha)
  clear ha
  generalize domB top x = r at HI ⊢
  go_enter Try.func65, Try.ntmps65
  go_wp2_with (first
    | (refine wpList_load_row rfl 25 (.tmp 2) rfl w.heap.size rfl 25 (labA x) (0, 0) _ K0.out hu25 rfl (info25 _) ?_)
    | (refine wpList_load_row rfl 25 (.tmp 1) rfl a rfl 25 (labA top) (0, 0) _ K1.out hu25 rfl (info25 _) ?_)
    | (go_at_call 66; refine (HI.out _).mono ?_; rintro e w4 ⟨rfl, hb'⟩; have HB' := Lib.hid (below_then HB.out HB.out.size hb'); clear hb'))
  go_ret
  exact ⟨rfl, HB'.out⟩
set_option maxRecDepth 100000 in
set_option maxHeartbeats 2000000 in
theorem some62w (B g : Nat) (l : List Lab) (lo hi : Lab) (a b : Nat) (w : World) (h : Tab w B g l) (hl : ∀ y ∈ l, LabOK y) (hlo : lo.S < 2 ^ 240) (hlen : l.length ≤ 40) (ha : w.heap[a]? = some (.cells (labA lo) 25 (0, 0))) (hb : w.heap[b]? = some (.cells (labA hi) 25 (0, 0))) :
    Calls Try.prog 62 #[.pointer (some ⟨g, 0, none⟩), .func (.func 63) #[] #[.pointer (some ⟨a, 0, none⟩), .pointer (some ⟨b, 0, none⟩)]] w fun e w' => ∃ v, e = .returned v ∧ w'.ownsRow w.heap.size 3 1 v (selN (inB l lo hi) l.length).length (ints (selN (inB l lo hi) l.length)) ∧ Below w.heap.size w w' := by
  have hu25 := Try.underlying25
  have hu56 := Try.underlying56
  have hu60 := Try.underlying60
  obtain ⟨i0, hi0, hz0, hz1, hz2⟩ := info_parts info3
  have HI0 := Lib.hid hi0
  have HZ0 := Lib.hid hz0
  have HZ1 := Lib.hid hz1
  have HZ2 := Lib.hid hz2
  clear hi0 hz0 hz1 hz2
  have HL := Lib.hid (len43 B g l w h)
  have HT := Lib.hid h
  have HA := Lib.hid ha
  have HBb := Lib.hid hb
  clear h ha hb
  go_enter Try.func62, Try.ntmps62
  go_wp2_with (go_at_call 43; refine HL.out.mono ?_; rintro e w1 ⟨rfl, rfl⟩)
  go_loopg [5, 9] 41 (fun gg s5 s9 wr => ∃ i : Nat, i ≤ l.length ∧ 41 - i ≤ gg ∧ s9 = .int .i64 i ∧ Hid (wr.ownsRow w.heap.size 3 1 s5 (selN (inB l lo hi) i).length (ints (selN (inB l lo hi) i))) ∧ Hid (Below w.heap.size w wr))
  case atStart => exact ⟨0, Nat.zero_le _, Nat.sub_le _ _, rfl, (World.ownsRow_nil _ _ _ _ : World.ownsRow _ _ _ _ (.slice none 0 0) 0 []), Below.refl _ _⟩
  case round =>
    obtain ⟨i, hi', hgg, rfl, OW, BR⟩ := hrel
    by_cases hlt : i < l.length
    · have d1 : decide ((i : Int) < (l.length : Int)) = true := decide_eq_true (by omega)
      have d2 : (0 : Int) ≤ (i : Int) := by omega
      have d3 : (i : Int) < (l.length : Int) := by omega
      have q1 : IntKind.i64.wrap ((i : Int) + 1) = (i : Int) + 1 := IntWalk.i64_in _ (by omega)
      obtain ⟨v, m, hB, hg, ho, hm⟩ := (HT.out.below BR.out).out
      obtain ⟨A, c, rfl, hsl⟩ := labs_of_own ho
      obtain ⟨b', o, rfl, hb, hc⟩ := hsl (by omega)
      have c0 : wr.cell? ⟨g, 0, none⟩ = some (.slice (some ⟨b', o, none⟩) l.length c) := cell_of_row _ _ _ _ _ _ hg
      have RY := Lib.hid (hc i _ (List.getElem?_eq_getElem hlt))
      have hoy := hl _ (List.getElem_mem hlt)
      have hp : inB l lo hi i = (domB l[i] lo && domB hi l[i]) := by unfold inB; rw [labD_get hlt]
      have HS := Lib.hid (selN_succ (inB l lo hi) i)
      rw [hp] at HS
      have hsl := selN_len (inB l lo hi) i
      generalize l[i] = y at RY hoy HS
      have hi25 : (Try.prog.info? 25).map (·.size) = some (labL y).length := by rw [labL_len]; kernel_rfl
      have HC := Lib.hid (within63 y lo hi a b hoy.2 hlo wr (blk_below HA.out BR.out) (blk_below HBb.out BR.out))
      clear hg ho hm hc hp hoy
      cases e1 : (domB y lo && domB hi y) with
      | false =>
        rw [e1] at HC HS
        clear e1
        go_wp2_with (first
          | (refine wpList_load_mid rfl 25 (.tmp 18) rfl b' (o + i * 31) rfl (labL y) _ RY.out hu25 rfl hi25 ?_)
          | (go_at_call 63; refine HC.out.mono ?_; rintro e w4 ⟨rfl, hb'⟩; have HB' := Lib.hid hb'; clear hb'))
        go_roundg (41 - (i + 1))
        case measure => omega
        case rel => exact ⟨i + 1, hlt, Nat.le_refl _, rfl, Lib.hid (by rw [HS.out, if_neg (by simp)]; exact own_below OW.out HB'.out), Lib.hid (below_then BR.out BR.out.size HB'.out)⟩
      | true =>
        rw [e1] at HC HS
        clear e1
        go_wp2_with (first
          | (refine wpList_load_mid rfl 25 (.tmp 18) rfl b' (o + i * 31) rfl (labL y) _ RY.out hu25 rfl hi25 ?_)
          | (go_at_call 63; refine HC.out.mono ?_; rintro e w4 ⟨rfl, hb'⟩; have HB' := Lib.hid hb'; have OW4 := Lib.hid (own_below OW.out hb'); have hs4 := hb'.size; have hbs := BR.out.size; clear hb')
          | (at_builtin; refine wpList_append_own _ rfl (.tmp 21) (.tmp 23) 60 rfl w.heap.size 3 i0 (.int .i64 0) 1 8 hu60 HI0.out HZ0.out HZ1.out HZ2.out rfl (by decide) _ _ _ rfl (OW4.out.alloc _) ⟨w4.heap.size, 0, none⟩ 1 1 [.int .i64 i] rfl rfl (World.news_of_block (cs := #[.int .i64 i]) (heap_alloc_new _ _)) (by intro u hu; rw [List.mem_singleton.1 hu]; rfl) (by unfold maxLen; omega) (by omega) (by simp; omega) ?_; intro v' w5 ho5 hg5 _; have HO5 := Lib.hid ho5; have HG5 := Lib.hid hg5; clear ho5 hg5))
        go_roundg (41 - (i + 1))
        case measure => omega
        case rel =>
          refine ⟨i + 1, hlt, Nat.le_refl _, rfl, ?_, ?_⟩
          · have := HO5.out
            refine Lib.hid ?_
            rw [HS.out, if_pos (by simp), List.length_append, ints, List.map_append]
            exact this
          · exact Lib.hid ((bel_alloc (below_then BR.out BR.out.size HB'.out) _).grown HG5.out (by simp; omega) (fun k hk => by have := (OW4.out.lt _ hk).1; omega))
    · have d1 : decide ((i : Int) < (l.length : Int)) = false := decide_eq_false (by omega)
      have hi2 : i = l.length := by omega
      have OW2 := Lib.hid (by rw [hi2] at OW; exact OW.out)
      go_wp2_with fail
      go_ret
      exact ⟨_, rfl, OW2.out, BR.out⟩
end Go.Proofs.Ytifmckhabkghcaa.P
