/- Contract of Find (layer 14). -/
import Derived.Test.YtfpbcdlfcaglgaaN9
namespace Go.Proofs.Ytfpbcdlfcaglgaa.P
open Go.RowKit

def hasN (l : List Nd) (j : Nat) : Bool := match l[j]? with | some x => x.has | none => false
/-- The last of some nodes that has a route. -/
def bestG (l : List Nd) : List Nat → Int → Int
  | [], b => b
  | j :: r, b => bestG l r (if hasN l j = true then (j : Int) else b)
def findF (l : List Nd) (ad : Nat) : Option Rt := atN l (bestG l (way l ad 32) (-1))
theorem bestG_drop (l : List Nd) (ws : List Nat) (i j : Nat) (b : Int) (h : ws[i]? = some j) : bestG l (ws.drop i) b = bestG l (ws.drop (i + 1)) (if hasN l j = true then (j : Int) else b) := by
  obtain ⟨hi, he⟩ := List.getElem?_eq_some_iff.1 h
  rw [List.drop_eq_getElem_cons hi, he, bestG]

theorem find10_nil (w : World) (ad : Nat) : Calls Try.prog 10 #[.pointer none, .int .u32 ad] w fun e w' => e = .returned (optV none) ∧ Below w.heap.size w w' := by
  have hu32 := Try.underlying32
  have HB := Lib.hid (bel_alloc (Below.refl _ w) (.cells rz 32))
  have H1 := Lib.hid (heap_alloc_new w (.cells rz 32))
  unfold rz at HB H1
  go_enter Try.func10, Try.ntmps10
  go_wp2_with (first
    | (refine wpList_store_row rfl 32 (.tmp 4) (.tmp 11) rfl w.heap.size rz rfl rfl 32 rz H1.out (info32 _ _ _) rfl one_rz ?_))
  refine bodyPost_ret (results_row_tmp rfl _ _ w.heap.size 32 rz (0, 0) _ rfl (setRow_heap _ w.heap.size _ _ 32 _ H1.out) hu32 rfl (info32 _ _ _)) rfl ⟨rfl, bel_setRow HB.out _ _ (by omega)⟩
set_option maxHeartbeats 2000000 in
theorem find10 (w : World) (M B g cap : Nat) (vf : Value) (l : List Nd) (fr : List Nat) (c : Int) (h : Tri w M B g cap vf l fr c) (hch : Chn l) (ad : Nat) (ha : ad < 2 ^ 32) :
    Calls Try.prog 10 #[.pointer (some ⟨B, 0, none⟩), .int .u32 ad] w fun e w' => e = .returned (optV (findF l ad)) ∧ Below w.heap.size w w' := by
  have hu61 := Try.underlying61
  have hu58 := Try.underlying58
  have hu59 := Try.underlying59
  have hu56 := Try.underlying56
  have hu30 := Try.underlying30
  have hu32 := Try.underlying32
  have HB := Lib.hid (bel_alloc (Below.refl _ w) (.cells rz 32))
  have H1 := Lib.hid (heap_alloc_new w (.cells rz 32))
  unfold rz at HB H1
  have H0 := Lib.hid (h.below HB.out)
  have hsW : (w.alloc (.cells #[.int .u32 0, .int .i64 0, .int .i64 0] 32)).heap.size = w.heap.size + 1 := by simp
  have HW := Lib.hid (way27 _ M B g cap vf l fr c H0.out hch ad 32 ha (Nat.le_refl _))
  have hwl := way_len l ad 32 0 0
  have HWL := Lib.hid (way_lt hch ad 32 0 0 h.pos)
  have HG := Lib.hid (show findF l ad = atN l (bestG l (way l ad 32) (-1)) from rfl)
  rw [show wayG l ad 32 0 0 = way l ad 32 from rfl] at hwl HWL
  generalize way l ad 32 = ws at *
  clear h hch
  go_enter Try.func10, Try.ntmps10
  go_wp2_with fail
  generalize w.alloc (.cells #[.int .u32 0, .int .i64 0, .int .i64 0] 32) = W at *
  go_wp2_with (first
    | (go_at_call 27; refine Calls.mono HW.out ?_; rintro e w1 ⟨v, rfl, ho, hb'⟩; have HB' := Lib.hid hb'; have H2 := Lib.hid (blk_below H1.out hb'); have T2 := Lib.hid (H0.out.below hb'); obtain ⟨ag, ac, rfl, _, _⟩ := ho.form hwl.1; have HO := Lib.hid ho; clear hb' ho))
  go_loopg [6, 17] 34 (fun gg s6 s17 wr => ∃ (i : Nat) (b : Int), i ≤ ws.length ∧ 33 - i ≤ gg ∧ s17 = .int .i64 i ∧ s6 = .int .i64 b ∧ w1 = wr ∧ Hid (bestG l (ws.drop i) b = bestG l ws (-1)) ∧ (b = -1 ∨ ∃ (j : Nat) (x : Nd), b = j ∧ Hid (l[j]? = some x) ∧ x.has = true))
  case atStart => exact ⟨0, -1, Nat.zero_le _, by omega, rfl, rfl, rfl, Lib.hid rfl, .inl rfl⟩
  case round =>
    obtain ⟨i, b, hi, hgg, rfl, rfl, rfl, HI, hbb⟩ := hrel
    by_cases hlt : i < ws.length
    · have d1 : decide ((i : Int) < (ws.length : Int)) = true := decide_eq_true (by omega)
      have d2 : (0 : Int) ≤ (i : Int) := by omega
      have d3 : (i : Int) < (ws.length : Int) := by omega
      have hj : ws[i]? = some ws[i] := List.getElem?_eq_getElem hlt
      have hjl := HWL.out _ (List.getElem_mem hlt)
      have cj := ints_at HO.out i _ hj
      have HJ := Lib.hid hj
      generalize ws[i] = j at *
      have hx : l[j]? = some l[j] := List.getElem?_eq_getElem hjl
      have n5 := T2.out.nh j _ hx
      have c0 := T2.out.c0
      have HX := Lib.hid hx
      have d4 : (0 : Int) ≤ (j : Int) := by omega
      have d5 : (j : Int) < (l.length : Int) := by omega
      generalize l[j] = x at *
      clear hj hx
      cases hh : x.has with
      | true =>
        rw [hh] at n5
        have HBX := Lib.hid (bestG_drop l ws i j b HJ.out)
        rw [show hasN l j = true by simp [hasN, HX.out, hh]] at HBX
        go_wp2_with fail
        go_roundg (33 - (i + 1))
        case measure => omega
        case rel => exact ⟨i + 1, (j : Int), hlt, Nat.le_refl _, by go_num, rfl, rfl, Lib.hid (by rw [← HI.out, HBX.out]; rfl), .inr ⟨j, x, rfl, HX, hh⟩⟩
      | false =>
        rw [hh] at n5
        have HBX := Lib.hid (bestG_drop l ws i j b HJ.out)
        rw [show hasN l j = false by simp [hasN, HX.out, hh]] at HBX
        go_wp2_with fail
        go_roundg (33 - (i + 1))
        case measure => omega
        case rel => exact ⟨i + 1, b, hlt, Nat.le_refl _, by go_num, rfl, rfl, Lib.hid (by rw [← HI.out, HBX.out]; rfl), hbb⟩
    · have d1 : decide ((i : Int) < (ws.length : Int)) = false := decide_eq_false (by omega)
      have HE := Lib.hid (show findF l ad = atN l b by rw [HG.out, ← HI.out, List.drop_of_length_le (by omega)]; rfl)
      have HB2 := Lib.hid (below_then HB.out HB.out.size HB'.out)
      rcases hbb with rfl | ⟨j, x, rfl, HX, hh⟩
      · go_wp2_with (first
          | (refine wpList_store_row rfl 32 (.tmp 4) (.tmp 33) rfl w.heap.size rz rfl rfl 32 rz H2.out (info32 _ _ _) rfl one_rz ?_))
        refine bodyPost_ret (results_row_tmp rfl _ _ w.heap.size 32 rz (0, 0) _ rfl (setRow_heap _ w.heap.size _ _ 32 _ H2.out) hu32 rfl (info32 _ _ _)) rfl ⟨by rw [HE.out]; rfl, bel_setRow HB2.out _ _ (by omega)⟩
      · have r1 : ((j : Int) == -1) = false := beq_eq_false_iff_ne.2 (by omega)
        have hjl := (List.getElem?_eq_some_iff.1 HX.out).1
        have r2 : (0 : Int) ≤ (j : Int) := by omega
        have r3 : (j : Int) < (l.length : Int) := by omega
        have c0 := T2.out.c0
        have HR := Lib.hid (T2.out.rt j x HX.out)
        have HE2 := Lib.hid (show findF l ad = some x.r by rw [HE.out, atN_nat l j x HX.out, if_pos hh])
        go_wp2_with (first
          | (refine load_mid_g 32 (.tmp 40) rfl g (j * 6 + 2) rfl (rtC x.r) _ HR.out hu32 rfl (info32l _ _ _) rfl ?_)
          | (refine wpList_store_row rfl 32 (.tmp 4) (.tmp 41) rfl w.heap.size (rtA x.r) rfl rfl 32 rz H2.out (info32 _ _ _) rfl (one32 _) ?_))
        refine bodyPost_ret (results_row_tmp rfl _ _ w.heap.size 32 (rtA x.r) (0, 0) _ rfl (setRow_heap _ w.heap.size _ _ 32 _ H2.out) hu32 rfl (info32 _ _ _)) rfl ⟨by rw [HE2.out]; rfl, bel_setRow HB2.out _ _ (by omega)⟩
end Go.Proofs.Ytfpbcdlfcaglgaa.P
