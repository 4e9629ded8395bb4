/- TriePrefers (layer 14). -/
import Derived.Test.YtfpbcdlfcaglgaaNJ
namespace Go.Proofs.Ytfpbcdlfcaglgaa.P
open Go.RowKit

def addAll (l : List Rt) : List Rt := l.foldl addN []
theorem addAll_snoc (l : List Rt) (i : Nat) (x : Rt) (h : l[i]? = some x) : addAll (l.take (i + 1)) = addN (addAll (l.take i)) x := by
  obtain ⟨hi, he⟩ := List.getElem?_eq_some_iff.1 h
  rw [addAll, List.take_succ_eq_append_getElem hi, List.foldl_append, he]; rfl
theorem addN_len (now : List Rt) (r : Rt) : (addN now r).length ≤ now.length + 1 := by
  unfold addN; split <;> simp
theorem inR_addN {now : List Rt} {r y : Rt} (h : inR now y) : inR (addN now r) y := by
  unfold addN; split
  · obtain ⟨z, hz, e⟩ := h; exact ⟨z, List.mem_append_left _ hz, e⟩
  · exact h
theorem addN_in {now : List Rt} {r : Rt} (hr : rightB r.ad r.bt = true) (hn : now.length < 256) : inR (addN now r) r := by
  cases hi : inB now r with
  | true => exact inR_addN ((inB_iff now r).1 hi)
  | false =>
    have e : errR now r = 0 := by simp [errR, hr, hi]; omega
    rw [addN, if_pos e]
    exact ⟨r, by simp, rfl, rfl⟩
theorem foldl_add : ∀ (l acc : List Rt), acc.length + l.length ≤ 255 → (∀ y, inR acc y → inR (l.foldl addN acc) y) ∧ (∀ y ∈ l, rightB y.ad y.bt = true → inR (l.foldl addN acc) y) := by
  intro l
  induction l with
  | nil => intro acc _; exact ⟨fun y h => h, fun y hy => by cases hy⟩
  | cons x l ih =>
    intro acc h
    simp only [List.length_cons] at h
    have hl := addN_len acc x
    obtain ⟨h1, h2⟩ := ih (addN acc x) (by omega)
    refine ⟨fun y hy => h1 y (inR_addN hy), fun y hy hr => ?_⟩
    rcases List.mem_cons.1 hy with rfl | hy
    · exact h1 _ (addN_in hr (by omega))
    · exact h2 y hy hr
theorem holds_iff (r : Rt) (a : Nat) : holdsB r.ad r.bt a = true ↔ rightB r.ad r.bt = true ∧ Hld r a := by
  simp only [holdsB, Bool.and_eq_true, decide_eq_true_eq, Hld, ofR]
  rw [pth_eq]
  simp
/-- What each route that holds the address says. -/
theorem prefers {l : List Rt} {a : Nat} {o : Option Rt} (hl : l.length ≤ 60) (h : FindR (addAll l) a o) (y : Rt) (hy : y ∈ l) (hh : holdsB y.ad y.bt a = true) : ∃ x, o = some x ∧ y.bt ≤ x.bt := by
  obtain ⟨hr, hd⟩ := (holds_iff y a).1 hh
  obtain ⟨z, hz, e1, e2⟩ := (foldl_add l [] (by simp; omega)).2 y hy hr
  have hzd : Hld z a := by unfold Hld ofR at *; rw [e1, e2]; exact hd
  rcases h with ⟨x, rfl, _, _, hm⟩ | ⟨_, hn⟩
  · exact ⟨x, rfl, by rw [← e2]; exact hm z hz hzd⟩
  · exact absurd hzd (hn z hz)

theorem find_holds {now : List Rt} {a : Nat} {x : Rt} (h : FindR now a (some x)) (hok : ∀ r ∈ now, r.ad < 2 ^ 32 ∧ rightB r.ad r.bt = true) : x.ad < 2 ^ 32 ∧ holdsB x.ad x.bt a = true := by
  rcases h with ⟨z, hz, hm, hh, _⟩ | ⟨hn, _⟩
  · cases hz
    exact ⟨(hok x hm).1, (holds_iff x a).2 ⟨(hok x hm).2, hh⟩⟩
  · cases hn
theorem findS2 (w : World) (M B g : Nat) (vf : Value) (K : Nat) (now : List Rt) (h : TrS w M B g vf K now) (ad : Nat) (ha : ad < 2 ^ 32) :
    Calls Try.prog 10 #[.pointer (some ⟨B, 0, none⟩), .int .u32 ad] w fun e w' => (∃ x, e = .returned (.tuple #[.agg (rtA x), .bool true]) ∧ FindR now ad (some x) ∧ Below w.heap.size w w') ∨ (e = .returned (.tuple #[.agg (rtA rt0), .bool false]) ∧ FindR now ad none ∧ Below w.heap.size w w') :=
  (findS w M B g vf K now h ad ha).mono fun e w' hh => by
    obtain ⟨o, h1, h2, h3⟩ := hh
    cases o with
    | none => exact .inr ⟨h1, h2, h3⟩
    | some x => exact .inl ⟨x, h1, h2, h3⟩
/-- Routes in memory. -/
def RtsA (w : World) (A : Option Addr) (l : List Rt) : Prop := 0 < l.length → ∃ b o, A = some ⟨b, o, none⟩ ∧ b < w.heap.size ∧ ∀ (j : Nat) x, l[j]? = some x → w.rangeAt b (o + j * 3) (rtC x)
theorem RtsA.low {w w1 : World} {A : Option Addr} {l : List Rt} {M : Nat} (h : RtsA w A l) (hb : Below M w w1) (hM : w.heap.size ≤ M) : RtsA w1 A l := fun hl => by
  obtain ⟨b, o, rfl, hlt, hc⟩ := h hl
  exact ⟨b, o, rfl, Nat.lt_of_lt_of_le hlt hb.size, fun j x hx i v hv => (hb.cell (p := ⟨b, o + j * 3 + i, none⟩) (by show b < M; omega)).trans (hc j x hx i v hv)⟩
theorem prefers3_long (l : List Rt) (A : Option Addr) (c : Nat) (a : Nat) (w : World) (hlen : 60 < l.length) :
    Calls Try.prog 3 #[.slice A l.length c, .int .u32 a] w fun e w' => e = .returned (.bool true) ∧ Below w.heap.size w w' := by
  have hu22 := Try.underlying22
  have HK := Lib.hid awake7
  have d0 : decide (60 < (l.length : Int)) = true := decide_eq_true (by omega)
  go_enter Try.func3, Try.ntmps3
  go_wp2_with (go_at_call 7; refine Calls.mono (HK.out _) ?_; rintro e w1 ⟨rfl, hb⟩; have HB := Lib.hid hb; clear hb)
  go_ret
  exact ⟨rfl, HB.out⟩
set_option maxHeartbeats 4000000 in
theorem prefers3_ok (l : List Rt) (A : Option Addr) (c : Nat) (a : Nat) (w : World) (hA : RtsA w A l) (hl : ∀ r ∈ l, r.ad < 2 ^ 32) (ha : a < 2 ^ 32) (hlen : l.length ≤ 60) :
    Calls Try.prog 3 #[.slice A l.length c, .int .u32 a] w fun e w' => e = .returned (.bool true) ∧ Below w.heap.size w w' := by
  have hu22 := Try.underlying22
  have hu30 := Try.underlying30
  have hu32 := Try.underlying32
  have HK := Lib.hid awake7
  have HA := Lib.hid hA
  have HL := Lib.hid hl
  have HAD := Lib.hid ha
  have d0 : decide (60 < (l.length : Int)) = false := decide_eq_false (by omega)
  clear hA hl ha
  go_enter Try.func3, Try.ntmps3
  go_wp2_with (first
    | (go_at_call 7; refine Calls.mono (HK.out _) ?_; rintro e w1 ⟨rfl, hb⟩; have HB1 := Lib.hid hb; clear hb)
    | (go_at_call 8; refine Calls.mono (newS w1) ?_; rintro e w2 ⟨B, g0, rfl, ht, hb, hB0, hg0⟩; have HT2 := Lib.hid ht; have HB2 := Lib.hid hb; clear ht hb))
  go_loopg [6] 61 (fun gg s6 wr => ∃ (i g : Nat) (vf : Value), i ≤ l.length ∧ 61 - i ≤ gg ∧ s6 = .int .i64 i ∧ Hid (TrS wr w1.heap.size B g vf (1 + 32 * i) (addAll (l.take i))) ∧ Hid (Below w1.heap.size w1 wr))
  case atStart => exact ⟨0, g0, _, Nat.zero_le _, Nat.sub_le _ _, rfl, HT2, HB2⟩
  case round =>
    obtain ⟨i, g, vf, hi, hgg, rfl, HT, BR⟩ := hrel
    clear HT2 HB2
    have HAR := Lib.hid ((HA.out.low HB1.out (Nat.le_refl _)).low BR.out (Nat.le_refl _))
    by_cases hlt : i < l.length
    · have d1 : decide ((i : Int) < (l.length : Int)) = true := decide_eq_true (by omega)
      have d2 : (0 : Int) ≤ (i : Int) := by omega
      have d3 : (i : Int) < (l.length : Int) := by omega
      have hx : l[i]? = some l[i] := List.getElem?_eq_getElem hlt
      obtain ⟨b, o, rfl, hb, hc⟩ := HAR.out (by omega)
      have HR := Lib.hid (hc i _ hx)
      have HS := Lib.hid (addAll_snoc l i _ hx)
      have HAS := Lib.hid (addS wr w1.heap.size B g vf (1 + 32 * i) _ HT.out l[i] (HL.out _ (List.getElem_mem hlt)) (by omega))
      generalize l[i] = x at *
      clear hx hc
      go_wp2_with (first
        | (refine load_mid_g 32 (.tmp 28) rfl b (o + i * 3) rfl (rtC x) _ HR.out hu32 rfl (info32l _ _ _) rfl ?_)
        | (go_at_call 9; refine Calls.mono HAS.out ?_; rintro e w3 ⟨rfl, g3, vf3, ht3, hc3⟩; have HT3 := Lib.hid ht3; have HC3 := Lib.hid hc3; clear ht3 hc3))
      go_roundg (61 - (i + 1))
      case measure => omega
      case rel =>
        refine ⟨i + 1, g3, vf3, hlt, Nat.le_refl _, by go_num, Lib.hid ?_, Lib.hid (BR.out.trans (HT.out.low HC3.out))⟩
        rw [HS.out, show 1 + 32 * (i + 1) = 1 + 32 * i + 32 by omega]
        exact HT3.out
    · have d1 : decide ((i : Int) < (l.length : Int)) = false := decide_eq_false (by omega)
      have HF := Lib.hid (show ∀ o, FindR (addAll (l.take i)) a o → FindR (addAll l) a o from fun o h => by rwa [List.take_of_length_le (by omega)] at h)
      have HOK := Lib.hid HT.out.ok
      have HFS := Lib.hid (findS2 wr w1.heap.size B g vf (1 + 32 * i) _ HT.out a HAD.out)
      have HBR := Lib.hid (below_then HB1.out HB1.out.size BR.out)
      clear HT BR HAR
      go_wp2_with (first
        | (go_at_call 10; refine Calls.mono HFS.out ?_; rintro e w4 (⟨x, rfl, hfr, hb⟩ | ⟨rfl, hfr, hb⟩) <;> (have HFR := Lib.hid (HF.out _ hfr); have HFH := Lib.hid hfr; have HB4 := Lib.hid (below_then HBR.out HBR.out.size hb); have N0 := Lib.hid (heap_alloc_new w4 (.cells rz 32)); clear hb hfr))
        | (refine wpList_store_row rfl 32 (.tmp 7) (.tmp 35) rfl w4.heap.size (rtA x) rfl rfl 32 rz N0.out (info32 _ _ _) rfl (one32 _) ?_; rw [World.setRow_alloc_new]; have HB5 := Lib.hid (bel_alloc HB4.out (.cells (rtA x) 32)); have k0 : (w4.alloc (.cells (rtA x) 32)).cell? ⟨w4.heap.size, 0, none⟩ = some (.int .u32 (x.ad : Int)) := World.cell?_alloc_mark w4 (rtA x) 32 (0, 0) 0; have k1 : (w4.alloc (.cells (rtA x) 32)).cell? ⟨w4.heap.size, 1, none⟩ = some (.int .i64 x.bt) := World.cell?_alloc_mark w4 (rtA x) 32 (0, 0) 1; have hxh := find_holds HFH.out HOK.out; have HH := Lib.hid (show ∀ w, Calls Try.prog 11 #[.agg #[.int .u32 x.ad, .int .i64 x.bt], .int .u32 a] w fun e w' => e = .returned (.bool true) ∧ Below w.heap.size w w' by rw [← hxh.2]; exact holds11 x.ad hxh.1 x.bt a HAD.out); clear hxh; generalize w4.alloc (.cells (rtA x) 32) = w5 at HB5 k0 k1 ⊢)
        | (refine wpList_store_row rfl 32 (.tmp 7) (.tmp 35) rfl w4.heap.size (rtA rt0) rfl rfl 32 rz N0.out (info32 _ _ _) rfl (one32 _) ?_; rw [World.setRow_alloc_new]; have HB5 := Lib.hid (bel_alloc HB4.out (.cells (rtA rt0) 32)); generalize w4.alloc (.cells (rtA rt0) 32) = w5 at HB5 ⊢)
        | (go_at_call 11; refine Calls.mono (HH.out _) ?_; rintro e w6 ⟨rfl, hb⟩; have HB6 := Lib.hid (below_then HB5.out HB5.out.size hb); have k0 := cell_below k0 hb; have k1 := cell_below k1 hb; clear hb HH))
      · have HP := Lib.hid (fun y hy hh => prefers hlen HFR.out y hy hh)
        clear HFR HFH HF N0 HFS HBR HOK HB4 HB5
        go_loopg [9] 61 (fun gg s9 wr => ∃ m : Nat, m ≤ l.length ∧ 61 - m ≤ gg ∧ s9 = .int .i64 m ∧ Hid (Below w6.heap.size w6 wr))
        case atStart => exact ⟨0, Nat.zero_le _, Nat.sub_le _ _, rfl, Below.refl _ _⟩
        case round =>
          obtain ⟨m, hm, hgm, rfl, BQ⟩ := hrel
          have HB8 := Lib.hid (below_then HB6.out HB6.out.size BQ.out)
          by_cases hlt2 : m < l.length
          · have e1 : decide ((m : Int) < (l.length : Int)) = true := decide_eq_true (by omega)
            have e2 : (0 : Int) ≤ (m : Int) := by omega
            have e3 : (m : Int) < (l.length : Int) := by omega
            have hx2 : l[m]? = some l[m] := List.getElem?_eq_getElem hlt2
            obtain ⟨b, o, rfl, hb, hc⟩ := (HA.out.low HB8.out (Nat.le_refl _)) (by omega)
            have y0 := bw_cell (show wr.cell? ⟨b, o + m * 3, none⟩ = some (.int .u32 (l[m]).ad) from hc m _ hx2 0 _ rfl)
            have y1 := bw_cell (show wr.cell? ⟨b, o + m * 3 + 1, none⟩ = some (.int .i64 (l[m]).bt) from hc m _ hx2 1 _ rfl)
            have j1 := bw_cell (cell_below k1 BQ.out)
            have HHY := Lib.hid (holds11 (l[m]).ad (HL.out _ (List.getElem_mem hlt2)) (l[m]).bt a HAD.out)
            have HPY := Lib.hid (HP.out l[m] (List.getElem_mem hlt2))
            generalize l[m] = y at *
            clear hx2 hc
            cases hv : holdsB y.ad y.bt a with
            | true =>
              rw [hv] at HHY
              obtain ⟨z, hz, hle⟩ := HPY.out hv
              cases hz
              have e4 : decide (y.bt > x.bt) = false := decide_eq_false (by omega)
              clear hv
              go_wp2_with fail
              refine region_bw (by kernel_rfl) (by kernel_rfl) ?_
              repeat (go_big_quiet_step ((go_at_call 11; exact call_bw HHY.out _)))
              refine wpQuiet_nil ?_
              rintro _ ⟨u, rfl⟩
              have hb' := Lib.hid (BW.b u)
              generalize u.w = w9 at hb' ⊢
              clear y0 y1 j1
              go_wp2_with fail
              go_roundg (61 - (m + 1))
              case measure => omega
              case rel => exact ⟨m + 1, hlt2, Nat.le_refl _, by go_num, Lib.hid (bel_trans BQ.out hb'.out)⟩
            | false =>
              rw [hv] at HHY
              clear hv
              go_wp2_with fail
              refine region_bw (by kernel_rfl) (by kernel_rfl) ?_
              repeat (go_big_quiet_step ((go_at_call 11; exact call_bw HHY.out _)))
              refine wpQuiet_nil ?_
              rintro _ ⟨u, rfl⟩
              have hb' := Lib.hid (BW.b u)
              generalize u.w = w9 at hb' ⊢
              clear y0 y1 j1
              go_wp2_with fail
              go_roundg (61 - (m + 1))
              case measure => omega
              case rel => exact ⟨m + 1, hlt2, Nat.le_refl _, by go_num, Lib.hid (bel_trans BQ.out hb'.out)⟩
          · have e1 : decide ((m : Int) < (l.length : Int)) = false := decide_eq_false (by omega)
            go_wp2_with fail
            go_ret
            exact ⟨rfl, HB8.out⟩
      · have HP := Lib.hid (fun y hy hh => prefers hlen HFR.out y hy hh)
        clear HFR HFH HF N0 HFS HBR HOK HB4
        go_loopg [9] 61 (fun gg s9 wr => ∃ m : Nat, m ≤ l.length ∧ 61 - m ≤ gg ∧ s9 = .int .i64 m ∧ Hid (Below w5.heap.size w5 wr))
        case atStart => exact ⟨0, Nat.zero_le _, Nat.sub_le _ _, rfl, Below.refl _ _⟩
        case round =>
          obtain ⟨m, hm, hgm, rfl, BQ⟩ := hrel
          have HB8 := Lib.hid (below_then HB5.out HB5.out.size BQ.out)
          by_cases hlt2 : m < l.length
          · have e1 : decide ((m : Int) < (l.length : Int)) = true := decide_eq_true (by omega)
            have e2 : (0 : Int) ≤ (m : Int) := by omega
            have e3 : (m : Int) < (l.length : Int) := by omega
            have hx2 : l[m]? = some l[m] := List.getElem?_eq_getElem hlt2
            obtain ⟨b, o, rfl, hb, hc⟩ := (HA.out.low HB8.out (Nat.le_refl _)) (by omega)
            have y0 := bw_cell (show wr.cell? ⟨b, o + m * 3, none⟩ = some (.int .u32 (l[m]).ad) from hc m _ hx2 0 _ rfl)
            have y1 := bw_cell (show wr.cell? ⟨b, o + m * 3 + 1, none⟩ = some (.int .i64 (l[m]).bt) from hc m _ hx2 1 _ rfl)
            have HHY := Lib.hid (holds11 (l[m]).ad (HL.out _ (List.getElem_mem hlt2)) (l[m]).bt a HAD.out)
            have HPY := Lib.hid (HP.out l[m] (List.getElem_mem hlt2))
            generalize l[m] = y at *
            clear hx2 hc
            cases hv : holdsB y.ad y.bt a with
            | true =>
              rw [hv] at HHY
              obtain ⟨z, hz, _⟩ := HPY.out hv
              cases hz
            | false =>
              rw [hv] at HHY
              clear hv
              go_wp2_with fail
              refine region_bw (by kernel_rfl) (by kernel_rfl) ?_
              repeat (go_big_quiet_step ((go_at_call 11; exact call_bw HHY.out _)))
              refine wpQuiet_nil ?_
              rintro _ ⟨u, rfl⟩
              have hb' := Lib.hid (BW.b u)
              generalize u.w = w9 at hb' ⊢
              clear y0 y1 
              go_wp2_with fail
              go_roundg (61 - (m + 1))
              case measure => omega
              case rel => exact ⟨m + 1, hlt2, Nat.le_refl _, by go_num, Lib.hid (bel_trans BQ.out hb'.out)⟩
          · have e1 : decide ((m : Int) < (l.length : Int)) = false := decide_eq_false (by omega)
            go_wp2_with fail
            go_ret
            exact ⟨rfl, HB8.out⟩
theorem prefers3 (l : List Rt) (A : Option Addr) (c : Nat) (a : Nat) (w : World) (hA : RtsA w A l) (hl : ∀ r ∈ l, r.ad < 2 ^ 32) (ha : a < 2 ^ 32) :
    Calls Try.prog 3 #[.slice A l.length c, .int .u32 a] w fun e w' => e = .returned (.bool true) ∧ Below w.heap.size w w' := by
  by_cases h : l.length ≤ 60
  · exact prefers3_ok l A c a w hA hl ha h
  · exact prefers3_long l A c a w (by omega)
end Go.Proofs.Ytfpbcdlfcaglgaa.P
