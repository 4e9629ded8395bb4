/- Contracts of doi.Right and Find, of the reference's Right (layer 12). -/
import Derived.Test.YtifmckhabkghcaaV2
namespace Go.Proofs.Ytifmckhabkghcaa.P
open Go.RowKit
set_option linter.unusedSimpArgs false

def rightD (d : Dm) : Bool := pairsB d.lv 255 && pairsB d.ct 239
def notRight (d : Dm) : Bool := !rightD d
def isNum (n : Int) (d : Dm) : Bool := decide (d.num = n)
set_option maxRecDepth 100000 in
set_option maxHeartbeats 1000000 in
theorem right26 (d : Dm) (w : World) (h : DmA w d) (h1 : d.lv.length ≤ 300) (h2 : d.ct.length ≤ 300) : Calls Try.prog 26 #[.agg (dmA d)] w fun e w' => e = .returned (.bool (rightD d)) ∧ Below w.heap.size w w' := by
  have hu47 := Try.underlying47
  have HB := Lib.hid (bel_alloc (Below.refl w.heap.size w) (.cells (dmA d) 47))
  have HP := Lib.hid (fun w' (hb : Below w.heap.size w w') => pairs54 d.lv 255 d.A1 d.c1 w' (h.1.below hb) h1)
  have HQ := Lib.hid (fun w' (hb : Below w.heap.size w w') => pairs54 d.ct 239 d.A2 d.c2 w' (h.2.below hb) h2)
  have HR := Lib.hid (show rightD d = (pairsB d.lv 255 && pairsB d.ct 239) from rfl)
  have H0 := heap_alloc_new w (.cells (dmA d) 47)
  have hs0 : w.heap.size < (w.alloc (.cells (dmA d) 47)).heap.size := by simp
  generalize rightD d = r at HR ⊢
  obtain ⟨num, A1, c1, lv, A2, c2, ct⟩ := d
  unfold dmA at HB H0 hs0 ⊢
  simp only at HB H0 hs0 HP HQ HR ⊢
  clear h h1 h2
  generalize pairsB lv 255 = b1 at HP HR
  generalize pairsB ct 239 = b2 at HQ HR
  have K0 := Lib.hid H0
  clear H0
  cases b1 with
  | false =>
    have HE := Lib.hid (show r = false by rw [HR.out]; rfl)
    clear HR
    go_enter Try.func26, Try.ntmps26
    go_wp2_with (first
      | (go_at_call 54; (with_reducible refine (HP.out _ HB.out).mono ?_); rintro e w4 ⟨rfl, hb'⟩; have HB' := Lib.hid (below_then HB.out HB.out.size hb'); clear hb'))
    go_ret
    exact ⟨by rw [HE.out]; rfl, HB'.out⟩
  | true =>
    have HE := Lib.hid (show r = b2 by rw [HR.out]; rfl)
    clear HR
    cases b2
    all_goals
      go_enter Try.func26, Try.ntmps26
      go_wp2_with (first
        | (go_at_call 54; (with_reducible refine (HP.out _ HB.out).mono ?_); rintro e w4 ⟨rfl, hb'⟩; have HB' := Lib.hid (below_then HB.out HB.out.size hb'); have c2' : w4.cell? ⟨w.heap.size, 2, none⟩ = some (.slice A2 ct.length c2) := cell_of_row _ _ _ _ _ _ (blk_below K0.out hb'); clear hb')
        | (go_at_call 54; (with_reducible refine (HQ.out _ HB'.out).mono ?_); rintro e w5 ⟨rfl, hb'⟩; have HB5 := Lib.hid (below_then HB'.out HB'.out.size hb'); clear hb'))
      go_ret
      exact ⟨by rw [HE.out]; rfl, HB5.out⟩
set_option maxRecDepth 100000 in
set_option maxHeartbeats 1000000 in
theorem notRight58 (d : Dm) (w : World) (h : DmA w d) (h1 : d.lv.length ≤ 300) (h2 : d.ct.length ≤ 300) : Calls Try.prog 58 #[.agg (dmA d)] w fun e w' => e = .returned (.bool (notRight d)) ∧ Below w.heap.size w w' := by
  have hu47 := Try.underlying47
  have HB := Lib.hid (bel_alloc (Below.refl w.heap.size w) (.cells (dmA d) 47))
  have HP := Lib.hid (fun w' (hb : Below w.heap.size w w') => right59 d.lv 255 d.A1 d.c1 w' (h.1.below hb) h1 (by omega))
  have HQ := Lib.hid (fun w' (hb : Below w.heap.size w w') => right59 d.ct 239 d.A2 d.c2 w' (h.2.below hb) h2 (by omega))
  have HR := Lib.hid (show notRight d = !(pairsB d.lv 255 && pairsB d.ct 239) from rfl)
  have H0 := heap_alloc_new w (.cells (dmA d) 47)
  generalize notRight d = r at HR ⊢
  obtain ⟨num, A1, c1, lv, A2, c2, ct⟩ := d
  unfold dmA at HB H0 ⊢
  simp only at HB H0 HP HQ HR ⊢
  clear h h1 h2
  generalize pairsB lv 255 = b1 at HP HR
  generalize pairsB ct 239 = b2 at HQ HR
  have K0 := Lib.hid H0
  clear H0
  cases b1 with
  | false =>
    have HE := Lib.hid (show r = true by rw [HR.out]; rfl)
    clear HR
    go_enter Try.func58, Try.ntmps58
    go_wp2_with (first
      | (go_at_call 59; (with_reducible refine (HP.out _ HB.out).mono ?_); rintro e w4 ⟨rfl, hb'⟩; have HB' := Lib.hid (below_then HB.out HB.out.size hb'); clear hb'))
    go_ret
    exact ⟨by rw [HE.out]; rfl, HB'.out⟩
  | true =>
    have HE := Lib.hid (show r = !b2 by rw [HR.out]; rfl)
    clear HR
    cases b2
    all_goals
      go_enter Try.func58, Try.ntmps58
      go_wp2_with (first
        | (go_at_call 59; (with_reducible refine (HP.out _ HB.out).mono ?_); rintro e w4 ⟨rfl, hb'⟩; have HB' := Lib.hid (below_then HB.out HB.out.size hb'); have c2' : w4.cell? ⟨w.heap.size, 2, none⟩ = some (.slice A2 ct.length c2) := cell_of_row _ _ _ _ _ _ (blk_below K0.out hb'); clear hb')
        | (go_at_call 59; (with_reducible refine (HQ.out _ HB'.out).mono ?_); rintro e w5 ⟨rfl, hb'⟩; have HB5 := Lib.hid (below_then HB'.out HB'.out.size hb'); clear hb'))
      go_ret
      exact ⟨by rw [HE.out]; rfl, HB5.out⟩
set_option maxRecDepth 100000 in
set_option maxHeartbeats 1000000 in
theorem isNum56 (d : Dm) (n : Int) (a : Nat) (w : World) (ha : w.heap[a]? = some (.cells #[.int .u32 n] 44 (0, 0))) : Calls Try.prog 56 #[.agg (dmA d), .pointer (some ⟨a, 0, none⟩)] w fun e w' => e = .returned (.bool (isNum n d)) ∧ Below w.heap.size w w' := by
  have hu47 := Try.underlying47
  have HB := Lib.hid (bel_alloc (Below.refl w.heap.size w) (.cells (dmA d) 47))
  have ca : (w.alloc (.cells (dmA d) 47)).cell? ⟨a, 0, none⟩ = some (.int .u32 n) := cell_of_row _ _ _ _ _ _ ((heap_alloc_old w _ (lt_of_block ha)).trans ha)
  have HI := Lib.hid (show isNum n d = decide (d.num = n) from rfl)
  generalize isNum n d = r at HI ⊢
  obtain ⟨num, A1, c1, lv, A2, c2, ct⟩ := d
  unfold dmA at HB ca ⊢
  simp only at HB ca HI ⊢
  clear ha
  cases hd : decide (num = n) with
  | true =>
    have HE := Lib.hid (show r = true by rw [HI.out, hd])
    have hq : (num == n) = true := beq_iff_eq.2 (of_decide_eq_true hd)
    clear hd HI
    go_enter Try.func56, Try.ntmps56
    go_wp2_with fail
    go_ret
    exact ⟨by rw [HE.out]; rfl, HB.out⟩
  | false =>
    have HE := Lib.hid (show r = false by rw [HI.out, hd])
    have hq : (num == n) = false := beq_eq_false_iff_ne.2 (of_decide_eq_false hd)
    clear hd HI
    go_enter Try.func56, Try.ntmps56
    go_wp2_with fail
    go_ret
    exact ⟨by rw [HE.out]; rfl, HB.out⟩
/-- Domains in memory. -/
def DmsA (w : World) (A : Option Addr) (ds : List Dm) : Prop := 0 < ds.length → ∃ b o, A = some ⟨b, o, none⟩ ∧ b < w.heap.size ∧ ∀ (j : Nat) d, ds[j]? = some d → w.rangeAt b (o + j * 3) (dmL d)
theorem DmsA.below {w w1 : World} {A : Option Addr} {ds : List Dm} (h : DmsA w A ds) (hb : Below w.heap.size w w1) : DmsA w1 A ds := fun hl => by
  obtain ⟨b, o, rfl, hlt, hc⟩ := h hl
  exact ⟨b, o, rfl, Nat.lt_of_lt_of_le hlt hb.size, fun j d hd => range_below (hc j d hd) hlt hb⟩
theorem dm_cells {w : World} {b o : Nat} {d : Dm} (h : w.rangeAt b o (dmL d)) : w.cell? ⟨b, o, none⟩ = some (.int .u32 d.num) ∧ w.cell? ⟨b, o + 1, none⟩ = some (.slice d.A1 d.lv.length d.c1) ∧ w.cell? ⟨b, o + 2, none⟩ = some (.slice d.A2 d.ct.length d.c2) := ⟨h 0 _ rfl, h 1 _ rfl, h 2 _ rfl⟩
/-- The place of the first one. -/
def fIdx (p : Dm → Bool) (ds : List Dm) : Int := match ds.findIdx? p with | some i => i | none => -1
theorem fIdx_hit {p : Dm → Bool} {ds : List Dm} {i : Nat} {d : Dm} (h : ds[i]? = some d) (hp : p d = true) (hno : ∀ j d, j < i → ds[j]? = some d → p d = false) : fIdx p ds = i := by
  obtain ⟨hi, he⟩ := List.getElem?_eq_some_iff.1 h
  have : ds.findIdx? p = some i := by
    rw [List.findIdx?_eq_some_iff_getElem]
    refine ⟨hi, by rw [he]; exact hp, fun j hj => ?_⟩
    rw [hno j _ hj (List.getElem?_eq_getElem (by omega))]
    decide
  simp [fIdx, this]
theorem fIdx_no {p : Dm → Bool} {ds : List Dm} (hno : ∀ (j : Nat) d, ds[j]? = some d → p d = false) : fIdx p ds = -1 := by
  have : ds.findIdx? p = none := by
    rw [List.findIdx?_eq_none_iff]
    intro x hx
    obtain ⟨j, hj⟩ := List.getElem?_of_mem hx
    exact hno j x hj
  simp [fIdx, this]
set_option maxRecDepth 100000 in
set_option maxHeartbeats 2000000 in
theorem idx55r (ds : List Dm) (A : Option Addr) (c : Nat) (w : World) (hA : DmsA w A ds) (hm : ds.length ≤ 9223372036854775000) (hd : ∀ d ∈ ds, DmA w d ∧ d.lv.length ≤ 300 ∧ d.ct.length ≤ 300) :
    Calls Try.prog 55 #[.slice A ds.length c, .func (.func 58) #[] #[]] w fun e w' => e = .returned (.int .i64 (fIdx notRight ds)) ∧ Below w.heap.size w w' := by
  have hu51 := Try.underlying51
  have hu47 := Try.underlying47
  have HA := Lib.hid hA
  have HD := Lib.hid hd
  clear hd
  clear hA
  go_enter Try.func55, Try.ntmps55
  go_wp2_with fail
  go_loopg [8] (ds.length + 1) (fun gg s8 wr => ∃ i : Nat, i ≤ ds.length ∧ ds.length + 1 - i ≤ gg ∧ s8 = .int .i64 i ∧ Hid (∀ j d, j < i → ds[j]? = some d → notRight d = false) ∧ Hid (Below w.heap.size w wr))
  case atStart => exact ⟨0, Nat.zero_le _, Nat.sub_le _ _, rfl, fun j d hj => absurd hj (Nat.not_lt_zero _), Below.refl _ _⟩
  case round =>
    obtain ⟨i, hi, hgg, rfl, HNO, BR⟩ := hrel
    by_cases hlt : i < ds.length
    · have d1 : decide ((i : Int) < (ds.length : Int)) = true := decide_eq_true (by omega)
      have d2 : (0 : Int) ≤ (i : Int) := by omega
      have d3 : (i : Int) < (ds.length : Int) := by omega
      have q1 : IntKind.i64.wrap ((i : Int) + 1) = (i : Int) + 1 := IntWalk.i64_in _ (by omega)
      obtain ⟨b, o, rfl, hb, hc⟩ := (HA.out.below BR.out) (by omega)
      have hy : ds[i]? = some ds[i] := List.getElem?_eq_getElem hlt
      obtain ⟨c0, c1, c2⟩ := dm_cells (hc i _ hy)
      have HY := Lib.hid hy
      have HC := Lib.hid (show Calls Try.prog 58 #[.agg (dmA ds[i])] wr fun e w' => e = .returned (.bool (notRight ds[i])) ∧ Below wr.heap.size wr w' from by
        have h := HD.out ds[i] (List.getElem_mem hlt)
        exact notRight58 ds[i] wr (h.1.below BR.out) h.2.1 h.2.2)
      generalize ds[i] = d at c0 c1 c2 HY HC
      clear hc hy
      obtain ⟨num, A1, c1', lv, A2, c2', ct⟩ := d
      unfold dmA at HC
      simp only at c0 c1 c2 HC
      cases hp : notRight ⟨num, A1, c1', lv, A2, c2', ct⟩ with
      | true =>
        have HF := Lib.hid (fIdx_hit (p := notRight) HY.out hp HNO.out)
        rw [hp] at HC
        clear hp
        go_wp2_with (go_at_call 58; refine HC.out.mono ?_; rintro e w4 ⟨rfl, hb'⟩; have HB' := Lib.hid (below_then BR.out BR.out.size hb'); clear hb')
        go_ret
        exact ⟨by rw [HF.out]; rfl, HB'.out⟩
      | false =>
        have HP := Lib.hid hp
        rw [hp] at HC
        clear hp
        go_wp2_with (go_at_call 58; refine HC.out.mono ?_; rintro e w4 ⟨rfl, hb'⟩; have HB' := Lib.hid (below_then BR.out BR.out.size hb'); clear hb')
        go_roundg (ds.length + 1 - (i + 1))
        case measure => omega
        case rel => exact ⟨i + 1, hlt, Nat.le_refl _, rfl, Lib.hid (fun j d hj hd => by
          rcases Nat.lt_or_ge j i with h | h
          · exact HNO.out j d h hd
          · rw [show j = i by omega, HY.out] at hd; rw [← Option.some.inj hd]; exact HP.out), HB'⟩
    · have d1 : decide ((i : Int) < (ds.length : Int)) = false := decide_eq_false (by omega)
      have HF := Lib.hid (fIdx_no (p := notRight) (ds := ds) (fun j d hd => HNO.out j d (by have := (List.getElem?_eq_some_iff.1 hd).1; omega) hd))
      go_wp2_with fail
      go_ret
      exact ⟨by rw [HF.out]; rfl, BR.out⟩
set_option maxRecDepth 100000 in
set_option maxHeartbeats 2000000 in
theorem idx55f (ds : List Dm) (A : Option Addr) (c : Nat) (n : Int) (a : Nat) (w : World) (hA : DmsA w A ds) (hm : ds.length ≤ 9223372036854775000) (ha : w.heap[a]? = some (.cells #[.int .u32 n] 44 (0, 0))) :
    Calls Try.prog 55 #[.slice A ds.length c, .func (.func 56) #[] #[.pointer (some ⟨a, 0, none⟩)]] w fun e w' => e = .returned (.int .i64 (fIdx (isNum n) ds)) ∧ Below w.heap.size w w' := by
  have hu51 := Try.underlying51
  have hu47 := Try.underlying47
  have HA := Lib.hid hA
  have HN := Lib.hid ha
  clear ha
  clear hA
  go_enter Try.func55, Try.ntmps55
  go_wp2_with fail
  go_loopg [8] (ds.length + 1) (fun gg s8 wr => ∃ i : Nat, i ≤ ds.length ∧ ds.length + 1 - i ≤ gg ∧ s8 = .int .i64 i ∧ Hid (∀ j d, j < i → ds[j]? = some d → (isNum n) d = false) ∧ Hid (Below w.heap.size w wr))
  case atStart => exact ⟨0, Nat.zero_le _, Nat.sub_le _ _, rfl, fun j d hj => absurd hj (Nat.not_lt_zero _), Below.refl _ _⟩
  case round =>
    obtain ⟨i, hi, hgg, rfl, HNO, BR⟩ := hrel
    by_cases hlt : i < ds.length
    · have d1 : decide ((i : Int) < (ds.length : Int)) = true := decide_eq_true (by omega)
      have d2 : (0 : Int) ≤ (i : Int) := by omega
      have d3 : (i : Int) < (ds.length : Int) := by omega
      have q1 : IntKind.i64.wrap ((i : Int) + 1) = (i : Int) + 1 := IntWalk.i64_in _ (by omega)
      obtain ⟨b, o, rfl, hb, hc⟩ := (HA.out.below BR.out) (by omega)
      have hy : ds[i]? = some ds[i] := List.getElem?_eq_getElem hlt
      obtain ⟨c0, c1, c2⟩ := dm_cells (hc i _ hy)
      have HY := Lib.hid hy
      have HC := Lib.hid (show Calls Try.prog 56 #[.agg (dmA ds[i]), .pointer (some ⟨a, 0, none⟩)] wr fun e w' => e = .returned (.bool ((isNum n) ds[i])) ∧ Below wr.heap.size wr w' from isNum56 ds[i] n a wr (blk_below HN.out BR.out))
      generalize ds[i] = d at c0 c1 c2 HY HC
      clear hc hy
      obtain ⟨num, A1, c1', lv, A2, c2', ct⟩ := d
      unfold dmA at HC
      simp only at c0 c1 c2 HC
      cases hp : (isNum n) ⟨num, A1, c1', lv, A2, c2', ct⟩ with
      | true =>
        have HF := Lib.hid (fIdx_hit (p := (isNum n)) HY.out hp HNO.out)
        rw [hp] at HC
        clear hp
        go_wp2_with (go_at_call 56; refine HC.out.mono ?_; rintro e w4 ⟨rfl, hb'⟩; have HB' := Lib.hid (below_then BR.out BR.out.size hb'); clear hb')
        go_ret
        exact ⟨by rw [HF.out]; rfl, HB'.out⟩
      | false =>
        have HP := Lib.hid hp
        rw [hp] at HC
        clear hp
        go_wp2_with (go_at_call 56; refine HC.out.mono ?_; rintro e w4 ⟨rfl, hb'⟩; have HB' := Lib.hid (below_then BR.out BR.out.size hb'); clear hb')
        go_roundg (ds.length + 1 - (i + 1))
        case measure => omega
        case rel => exact ⟨i + 1, hlt, Nat.le_refl _, rfl, Lib.hid (fun j d hj hd => by
          rcases Nat.lt_or_ge j i with h | h
          · exact HNO.out j d h hd
          · rw [show j = i by omega, HY.out] at hd; rw [← Option.some.inj hd]; exact HP.out), HB'⟩
    · have d1 : decide ((i : Int) < (ds.length : Int)) = false := decide_eq_false (by omega)
      have HF := Lib.hid (fIdx_no (p := (isNum n)) (ds := ds) (fun j d hd => HNO.out j d (by have := (List.getElem?_eq_some_iff.1 hd).1; omega) hd))
      go_wp2_with fail
      go_ret
      exact ⟨by rw [HF.out]; rfl, BR.out⟩
theorem fIdx_any (p : Dm → Bool) (ds : List Dm) : decide (0 ≤ fIdx p ds) = ds.any p := by
  cases h : ds.findIdx? p with
  | some i =>
    have h1 := (List.findIdx?_eq_some_iff_getElem.1 h)
    obtain ⟨hi, hp, _⟩ := h1
    have : ds.any p = true := List.any_eq_true.2 ⟨_, List.getElem_mem hi, hp⟩
    simp [fIdx, h, this]
  | none =>
    have h1 := List.findIdx?_eq_none_iff.1 h
    have : ds.any p = false := by
      cases hb : ds.any p with
      | false => rfl
      | true =>
        obtain ⟨x, hx, hp⟩ := List.any_eq_true.1 hb
        rw [h1 x hx] at hp; cases hp
    rw [this]
    simp [fIdx, h]
def rightsB (ds : List Dm) : Bool := ds.all rightD
theorem rights_any (ds : List Dm) : rightsB ds = !ds.any notRight := by
  unfold rightsB
  induction ds with
  | nil => rfl
  | cons d ds ih => simp only [List.all_cons, List.any_cons, ih, notRight]; cases rightD d <;> simp
set_option maxHeartbeats 1000000 in
theorem contains57 (ds : List Dm) (A : Option Addr) (c : Nat) (w : World) (hA : DmsA w A ds) (hm : ds.length ≤ 9223372036854775000) (hd : ∀ d ∈ ds, DmA w d ∧ d.lv.length ≤ 300 ∧ d.ct.length ≤ 300) :
    Calls Try.prog 57 #[.slice A ds.length c, .func (.func 58) #[] #[]] w fun e w' => e = .returned (.bool (ds.any notRight)) ∧ Below w.heap.size w w' := by
  have HI := Lib.hid (idx55r ds A c w hA hm hd)
  have HF := Lib.hid (fIdx_any notRight ds)
  clear hA hd
  generalize ds.any notRight = r at HF ⊢
  generalize fIdx notRight ds = k at HI HF
  cases hr : r with
  | true =>
    have h0 : decide (0 ≤ k) = true := by rw [HF.out, hr]
    subst hr
    go_enter Try.func57, Try.ntmps57
    go_wp2_with (go_at_call 55; refine HI.out.mono ?_; rintro e w4 ⟨rfl, hb'⟩; have HB' := Lib.hid hb'; clear hb')
    go_ret
    exact ⟨rfl, HB'.out⟩
  | false =>
    have h0 : decide (0 ≤ k) = false := by rw [HF.out, hr]
    subst hr
    go_enter Try.func57, Try.ntmps57
    go_wp2_with (go_at_call 55; refine HI.out.mono ?_; rintro e w4 ⟨rfl, hb'⟩; have HB' := Lib.hid hb'; clear hb')
    go_ret
    exact ⟨rfl, HB'.out⟩
theorem rights28 (ds : List Dm) (A : Option Addr) (c : Nat) (w : World) (hA : DmsA w A ds) (hm : ds.length ≤ 9223372036854775000) (hd : ∀ d ∈ ds, DmA w d ∧ d.lv.length ≤ 300 ∧ d.ct.length ≤ 300) :
    Calls Try.prog 28 #[.slice A ds.length c] w fun e w' => e = .returned (.bool (rightsB ds)) ∧ Below w.heap.size w w' := by
  have HI := Lib.hid (contains57 ds A c w hA hm hd)
  rw [rights_any]
  clear hA hd
  generalize ds.any notRight = r at HI ⊢
  go_enter Try.func28, Try.ntmps28
  go_wp2_with (go_at_call 57; refine HI.out.mono ?_; rintro e w4 ⟨rfl, hb'⟩; have HB' := Lib.hid hb'; clear hb')
  go_ret
  exact ⟨rfl, HB'.out⟩
theorem find27 (ds : List Dm) (A : Option Addr) (c : Nat) (n : Int) (w : World) (hA : DmsA w A ds) (hm : ds.length ≤ 9223372036854775000) :
    Calls Try.prog 27 #[.slice A ds.length c, .int .u32 n] w fun e w' => e = .returned (.int .i64 (fIdx (isNum n) ds)) ∧ Below w.heap.size w w' := by
  have HB := Lib.hid (bel_alloc (Below.refl w.heap.size w) (.cells #[.int .u32 n] 44))
  have HI := Lib.hid (idx55f ds A c n w.heap.size _ (hA.below HB.out) hm (heap_alloc_new w _))
  clear hA
  generalize fIdx (isNum n) ds = k at HI ⊢
  go_enter Try.func27, Try.ntmps27
  go_wp2_with (go_at_call 55; refine HI.out.mono ?_; rintro e w4 ⟨rfl, hb'⟩; have HB' := Lib.hid (below_then HB.out HB.out.size hb'); clear hb')
  go_ret
  exact ⟨rfl, HB'.out⟩
end Go.Proofs.Ytifmckhabkghcaa.P
