/- Contracts of the table's Within and Below; awake of law13. -/
import Derived.Test.YtifmckhabkghcaaT7
namespace Go.Proofs.Ytifmckhabkghcaa.P
open Go.RowKit
set_option linter.unusedSimpArgs false
attribute [local go_sem ↓] ldi25

/-- Does a label dominate that of a number? -/
def beB (l : List Lab) (top : Lab) (i : Nat) : Bool := domB top (labD l i)
set_option maxRecDepth 100000 in
set_option maxHeartbeats 2000000 in
theorem some62b (B g : Nat) (l : List Lab) (top : Lab) (a : Nat) (w : World) (h : Tab w B g l) (hl : ∀ y ∈ l, LabOK y) (hlen : l.length ≤ 40) (ha : w.heap[a]? = some (.cells (labA top) 25 (0, 0))) :
    Calls Try.prog 62 #[.pointer (some ⟨g, 0, none⟩), .func (.func 65) #[] #[.pointer (some ⟨a, 0, none⟩)]] w fun e w' => ∃ v, e = .returned v ∧ w'.ownsRow w.heap.size 3 1 v (selN (beB l top) l.length).length (ints (selN (beB l top) l.length)) ∧ Below w.heap.size w w' := by
  have hu25 := Try.underlying25
  have hu56 := Try.underlying56
  have hu60 := Try.underlying60
  obtain ⟨i0, hi0, hz0, hz1, hz2⟩ := info_parts info3
  have HI0 := Lib.hid hi0
  have HZ0 := Lib.hid hz0
  have HZ1 := Lib.hid hz1
  have HZ2 := Lib.hid hz2
  clear hi0 hz0 hz1 hz2
  have HL := Lib.hid (len43 B g l w h)
  have HT := Lib.hid h
  have HA := Lib.hid ha
  clear h ha
  go_enter Try.func62, Try.ntmps62
  go_wp2_with (go_at_call 43; refine HL.out.mono ?_; rintro e w1 ⟨rfl, rfl⟩)
  go_loopg [5, 9] 41 (fun gg s5 s9 wr => ∃ i : Nat, i ≤ l.length ∧ 41 - i ≤ gg ∧ s9 = .int .i64 i ∧ Hid (wr.ownsRow w.heap.size 3 1 s5 (selN (beB l top) i).length (ints (selN (beB l top) i))) ∧ Hid (Below w.heap.size w wr))
  case atStart => exact ⟨0, Nat.zero_le _, Nat.sub_le _ _, rfl, (World.ownsRow_nil _ _ _ _ : World.ownsRow _ _ _ _ (.slice none 0 0) 0 []), Below.refl _ _⟩
  case round =>
    obtain ⟨i, hi', hgg, rfl, OW, BR⟩ := hrel
    by_cases hlt : i < l.length
    · have d1 : decide ((i : Int) < (l.length : Int)) = true := decide_eq_true (by omega)
      have d2 : (0 : Int) ≤ (i : Int) := by omega
      have d3 : (i : Int) < (l.length : Int) := by omega
      have q1 : IntKind.i64.wrap ((i : Int) + 1) = (i : Int) + 1 := IntWalk.i64_in _ (by omega)
      obtain ⟨v, m, hB, hg, ho, hm⟩ := (HT.out.below BR.out).out
      obtain ⟨A, c, rfl, hsl⟩ := labs_of_own ho
      obtain ⟨b', o, rfl, hb, hc⟩ := hsl (by omega)
      have c0 : wr.cell? ⟨g, 0, none⟩ = some (.slice (some ⟨b', o, none⟩) l.length c) := cell_of_row _ _ _ _ _ _ hg
      have RY := Lib.hid (hc i _ (List.getElem?_eq_getElem hlt))
      have hoy := hl _ (List.getElem_mem hlt)
      have hp : beB l top i = domB top l[i] := by unfold beB; rw [labD_get hlt]
      have HS := Lib.hid (selN_succ (beB l top) i)
      rw [hp] at HS
      have hsl := selN_len (beB l top) i
      generalize l[i] = y at RY hoy HS
      have hi25 : (Try.prog.info? 25).map (·.size) = some (labL y).length := by rw [labL_len]; kernel_rfl
      have HC := Lib.hid (below65 y top a hoy.2 wr (blk_below HA.out BR.out))
      clear hg ho hm hc hp hoy
      cases e1 : domB top y with
      | false =>
        rw [e1] at HC HS
        clear e1
        go_wp2_with (first
          | (refine wpList_load_mid rfl 25 (.tmp 18) rfl b' (o + i * 31) rfl (labL y) _ RY.out hu25 rfl hi25 ?_)
          | (go_at_call 65; refine HC.out.mono ?_; rintro e w4 ⟨rfl, hb'⟩; have HB' := Lib.hid hb'; clear hb'))
        go_roundg (41 - (i + 1))
        case measure => omega
        case rel => exact ⟨i + 1, hlt, Nat.le_refl _, rfl, Lib.hid (by rw [HS.out, if_neg (by simp)]; exact own_below OW.out HB'.out), Lib.hid (below_then BR.out BR.out.size HB'.out)⟩
      | true =>
        rw [e1] at HC HS
        clear e1
        go_wp2_with (first
          | (refine wpList_load_mid rfl 25 (.tmp 18) rfl b' (o + i * 31) rfl (labL y) _ RY.out hu25 rfl hi25 ?_)
          | (go_at_call 65; refine HC.out.mono ?_; rintro e w4 ⟨rfl, hb'⟩; have HB' := Lib.hid hb'; have OW4 := Lib.hid (own_below OW.out hb'); have hs4 := hb'.size; have hbs := BR.out.size; clear hb')
          | (at_builtin; refine wpList_append_own _ rfl (.tmp 21) (.tmp 23) 60 rfl w.heap.size 3 i0 (.int .i64 0) 1 8 hu60 HI0.out HZ0.out HZ1.out HZ2.out rfl (by decide) _ _ _ rfl (OW4.out.alloc _) ⟨w4.heap.size, 0, none⟩ 1 1 [.int .i64 i] rfl rfl (World.news_of_block (cs := #[.int .i64 i]) (heap_alloc_new _ _)) (by intro u hu; rw [List.mem_singleton.1 hu]; rfl) (by unfold maxLen; omega) (by omega) (by simp; omega) ?_; intro v' w5 ho5 hg5 _; have HO5 := Lib.hid ho5; have HG5 := Lib.hid hg5; clear ho5 hg5))
        go_roundg (41 - (i + 1))
        case measure => omega
        case rel =>
          refine ⟨i + 1, hlt, Nat.le_refl _, rfl, ?_, ?_⟩
          · have := HO5.out
            refine Lib.hid ?_
            rw [HS.out, if_pos (by simp), List.length_append, ints, List.map_append]
            exact this
          · exact Lib.hid ((bel_alloc (below_then BR.out BR.out.size HB'.out) _).grown HG5.out (by simp; omega) (fun k hk => by have := (OW4.out.lt _ hk).1; omega))
    · have d1 : decide ((i : Int) < (l.length : Int)) = false := decide_eq_false (by omega)
      have hi2 : i = l.length := by omega
      have OW2 := Lib.hid (by rw [hi2] at OW; exact OW.out)
      go_wp2_with fail
      go_ret
      exact ⟨_, rfl, OW2.out, BR.out⟩
set_option maxRecDepth 100000 in
theorem some62_nil (f : Value) (w : World) : Calls Try.prog 62 #[.pointer none, f] w fun e w' => e = .returned (.slice none 0 0) ∧ w = w' := by
  have HL := Lib.hid len43_nil
  go_enter Try.func62, Try.ntmps62
  go_wp2_with (go_at_call 43; refine (HL.out _).mono ?_; rintro e w1 ⟨rfl, rfl⟩)
  refine wp_loop_rounds 1 ?_
  rw [rounds_succ]
  go_wp2_with fail
  go_ret
  exact ⟨rfl, rfl⟩
set_option maxRecDepth 100000 in
set_option maxHeartbeats 1000000 in
theorem within35_nil (lo hi : Lab) (w : World) : Calls Try.prog 35 #[.pointer none, .agg (labA lo), .agg (labA hi)] w fun e w' => e = .returned (.slice none 0 0) ∧ Below w.heap.size w w' := by
  have HB := Lib.hid (bel_alloc (bel_alloc (Below.refl w.heap.size w) (.cells (labA lo) 25)) (.cells (labA hi) 25))
  have HS := Lib.hid some62_nil
  go_enter Try.func35, Try.ntmps35
  go_wp2_with (go_at_call 62; refine (HS.out _ _).mono ?_; rintro e w1 ⟨rfl, rfl⟩)
  go_ret
  exact ⟨rfl, HB.out⟩
set_option maxRecDepth 100000 in
set_option maxHeartbeats 1000000 in
theorem within35 (B g : Nat) (l : List Lab) (lo hi : Lab) (w : World) (h : Tab w B g l) (hl : ∀ y ∈ l, LabOK y) (hlo : lo.S < 2 ^ 240) (hlen : l.length ≤ 40) :
    Calls Try.prog 35 #[.pointer (some ⟨g, 0, none⟩), .agg (labA lo), .agg (labA hi)] w fun e w' => ∃ v, e = .returned v ∧ w'.ownsRow w.heap.size 3 1 v (selN (inB l lo hi) l.length).length (ints (selN (inB l lo hi) l.length)) ∧ Below w.heap.size w w' := by
  have HB := Lib.hid (bel_alloc (bel_alloc (Below.refl w.heap.size w) (.cells (labA lo) 25)) (.cells (labA hi) 25))
  have HS := Lib.hid (some62w B g l lo hi w.heap.size (w.heap.size + 1) _ (h.below HB.out) hl hlo hlen (heap_alloc2_old w _ _) (heap_alloc2_new w _ _))
  clear h hl
  go_enter Try.func35, Try.ntmps35
  go_wp2_with (go_at_call 62; refine HS.out.mono ?_; rintro e w1 ⟨v, rfl, ho, hb⟩; have HO := Lib.hid ho; have HB1 := Lib.hid hb; clear ho hb)
  go_ret
  exact ⟨_, rfl, own_lower HO.out HB.out.size, below_then HB.out HB.out.size HB1.out⟩
/-- The numbers below a number's label. -/
def beN (l : List Lab) (n : Int) : List Nat := if 0 ≤ n ∧ n < l.length then selN (beB l (labD l n.toNat)) l.length else []
theorem beN_len (l : List Lab) (n : Int) : (beN l n).length ≤ l.length := by
  unfold beN
  split
  · exact selN_len _ _
  · simp
set_option maxRecDepth 100000 in
set_option maxHeartbeats 1000000 in
theorem below37_nil (n : Int) (w : World) : Calls Try.prog 37 #[.pointer none, .int .i64 n] w fun e w' => e = .returned (.slice none 0 0) ∧ Below w.heap.size w w' := by
  have HS := Lib.hid (at39_nil n)
  go_enter Try.func37, Try.ntmps37
  go_wp2_with (first
    | (go_at_call 39; refine (HS.out _).mono ?_; rintro e w1 ⟨rfl, hb⟩; have HB1 := Lib.hid hb; clear hb; have N00 := Lib.hid (heap_alloc_new w1 (.cells z25 25)); have NA := Lib.hid (World.setRow_alloc_new w1 z25 (labA ⟨0, 0⟩) 25); unfold z25 at N00 NA)
    | (refine wpList_store_row rfl 25 (.tmp 5) (.tmp 11) rfl w1.heap.size (labA ⟨0, 0⟩) rfl rfl 25 z25 N00.out (info25 _) (by rw [labA_size]; rfl) (all_oneCell_toArray (labL_one _)) ?_; rw [NA.out]))
  go_ret
  exact ⟨rfl, bel_alloc HB1.out _⟩
set_option maxRecDepth 100000 in
set_option maxHeartbeats 1000000 in
theorem below37 (B g : Nat) (l : List Lab) (n : Int) (w : World) (h : Tab w B g l) (hl : ∀ y ∈ l, LabOK y) (hlen : l.length ≤ 40) :
    Calls Try.prog 37 #[.pointer (some ⟨g, 0, none⟩), .int .i64 n] w fun e w' => ∃ v, e = .returned v ∧ w'.ownsRow w.heap.size 3 1 v (beN l n).length (ints (beN l n)) ∧ Below w.heap.size w w' := by
  have hu25 := Try.underlying25
  have HS := Lib.hid (at39 B g l n w h hlen)
  have HT := Lib.hid h
  have HAB := Lib.hid (show atB l n = (decide (0 ≤ n) && decide (n < l.length)) from rfl)
  generalize hX : atL l n = X at HS
  have HX := Lib.hid hX
  clear h hX
  cases ht : atB l n with
  | false =>
    rw [ht] at HS HAB
    have HN := Lib.hid (show beN l n = [] by
      unfold beN
      rw [if_neg]
      have := HAB.out
      simp at this
      omega)
    clear ht
    go_enter Try.func37, Try.ntmps37
    go_wp2_with (first
      | (go_at_call 39; refine HS.out.mono ?_; rintro e w1 ⟨rfl, hb⟩; have HB1 := Lib.hid hb; clear hb; have N00 := Lib.hid (heap_alloc_new w1 (.cells z25 25)); have NA := Lib.hid (World.setRow_alloc_new w1 z25 (labA X) 25); unfold z25 at N00 NA)
      | (refine wpList_store_row rfl 25 (.tmp 5) (.tmp 11) rfl w1.heap.size (labA X) rfl rfl 25 z25 N00.out (info25 _) (by rw [labA_size]; rfl) (all_oneCell_toArray (labL_one _)) ?_; rw [NA.out]))
    go_ret
    exact ⟨.slice none 0 0, rfl, by rw [HN.out]; exact World.ownsRow_nil _ _ _ _, bel_alloc HB1.out _⟩
  | true =>
    rw [ht] at HS HAB
    have hin : 0 ≤ n ∧ n < l.length := by have := HAB.out; simpa using this.symm
    have HN := Lib.hid (show beN l n = selN (beB l X) l.length by
      unfold beN
      rw [if_pos hin, ← HX.out]
      unfold atL
      rw [if_pos hin])
    have HSM := Lib.hid (fun w1 (hb : Below w.heap.size w w1) => some62b B g l X w1.heap.size _ ((HT.out.below hb).below (bel_alloc (Below.refl w1.heap.size w1) (.cells (labA X) 25))) hl hlen (heap_alloc_new w1 _))
    clear ht hin hl
    go_enter Try.func37, Try.ntmps37
    go_wp2_with (first
      | (go_at_call 39; refine HS.out.mono ?_; rintro e w1 ⟨rfl, hb⟩; have HB1 := Lib.hid hb; have HS2 := Lib.hid (HSM.out w1 hb); clear hb; have N00 := Lib.hid (heap_alloc_new w1 (.cells z25 25)); have NA := Lib.hid (World.setRow_alloc_new w1 z25 (labA X) 25); unfold z25 at N00 NA)
      | (refine wpList_store_row rfl 25 (.tmp 5) (.tmp 11) rfl w1.heap.size (labA X) rfl rfl 25 z25 N00.out (info25 _) (by rw [labA_size]; rfl) (all_oneCell_toArray (labL_one _)) ?_; rw [NA.out])
      | (go_at_call 62; refine HS2.out.mono ?_; rintro e w2 ⟨v, rfl, ho, hb⟩; have HO := Lib.hid ho; have HB2 := Lib.hid hb; clear ho hb))
    go_ret
    have h1 : Below w.heap.size w (w1.alloc (.cells (labA X) 25)) := bel_alloc HB1.out _
    exact ⟨_, rfl, by rw [HN.out]; exact own_lower HO.out h1.size, below_then h1 h1.size HB2.out⟩
end Go.Proofs.Ytifmckhabkghcaa.P
