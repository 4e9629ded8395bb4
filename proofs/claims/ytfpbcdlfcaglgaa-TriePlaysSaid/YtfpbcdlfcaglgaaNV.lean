/- Contract of the reference's Find (layer 14). -/
import Derived.Test.YtfpbcdlfcaglgaaNU
namespace Go.Proofs.Ytfpbcdlfcaglgaa.P
open Go.RowKit

/-- The reference's best place among the first i. -/
def betterB (l : List Rt) (x : Rt) : Option Nat → Bool
  | none => true
  | some k => match l[k]? with | some y => decide (x.bt > y.bt) | none => false
def fnI (l : List Rt) (a : Nat) : Nat → Option Nat
  | 0 => none
  | i + 1 => match l[i]? with
    | some x => if (holdsB x.ad x.bt a && betterB l x (fnI l a i)) = true then some i else fnI l a i
    | none => fnI l a i
theorem fnI_yes {l : List Rt} {a i : Nat} {x : Rt} (hx : l[i]? = some x) (h : holdsB x.ad x.bt a = true) (hb : betterB l x (fnI l a i) = true) : fnI l a (i + 1) = some i := by
  rw [fnI]; simp [hx, h, hb]
theorem fnI_no {l : List Rt} {a i : Nat} {x : Rt} (hx : l[i]? = some x) (h : holdsB x.ad x.bt a = false) : fnI l a (i + 1) = fnI l a i := by
  rw [fnI]; simp [hx, h]
theorem fnI_no2 {l : List Rt} {a i : Nat} {x : Rt} (hx : l[i]? = some x) (hb : betterB l x (fnI l a i) = false) : fnI l a (i + 1) = fnI l a i := by
  rw [fnI]; simp [hx, hb]
theorem fnI_lt (l : List Rt) (a : Nat) : ∀ (i k : Nat), fnI l a i = some k → k < i ∧ k < l.length := by
  intro i
  induction i with
  | zero => intro k h; cases h
  | succ i ih =>
    intro k h
    rw [fnI] at h
    cases hx : l[i]? with
    | none => rw [hx] at h; have := ih k h; omega
    | some x =>
      rw [hx] at h
      simp only at h
      split at h
      · cases h; have := (List.getElem?_eq_some_iff.1 hx).1; omega
      · have := ih k h; omega
theorem fnI_spec {l : List Rt} {a : Nat} : ∀ (i : Nat), i ≤ l.length → (fnI l a i = none ∧ ∀ (j : Nat) y, j < i → l[j]? = some y → holdsB y.ad y.bt a = false) ∨
    ∃ k x, fnI l a i = some k ∧ l[k]? = some x ∧ holdsB x.ad x.bt a = true ∧ ∀ (j : Nat) y, j < i → l[j]? = some y → holdsB y.ad y.bt a = true → y.bt ≤ x.bt := by
  intro i
  induction i with
  | zero => intro _; exact .inl ⟨rfl, fun j y h => absurd h (by omega)⟩
  | succ i ih =>
    intro hi
    have hx : l[i]? = some l[i] := List.getElem?_eq_getElem (by omega)
    generalize l[i] = x at hx
    have upto : ∀ (j : Nat), j < i + 1 → j < i ∨ j = i := fun j h => by omega
    cases hh : holdsB x.ad x.bt a with
    | false =>
      rw [fnI_no hx hh]
      rcases ih (by omega) with ⟨h1, h2⟩ | ⟨k, y, h1, h2, h3, h4⟩
      · refine .inl ⟨h1, fun j z hj hz => ?_⟩
        rcases upto j hj with h | rfl
        · exact h2 j z h hz
        · rw [hx] at hz; cases hz; exact hh
      · refine .inr ⟨k, y, h1, h2, h3, fun j z hj hz hzh => ?_⟩
        rcases upto j hj with h | rfl
        · exact h4 j z h hz hzh
        · rw [hx] at hz; cases hz; rw [hh] at hzh; cases hzh
    | true =>
      rcases ih (by omega) with ⟨h1, h2⟩ | ⟨k, y, h1, h2, h3, h4⟩
      · rw [fnI_yes hx hh (by rw [h1]; rfl)]
        refine .inr ⟨i, x, rfl, hx, hh, fun j z hj hz hzh => ?_⟩
        rcases upto j hj with h | rfl
        · rw [h2 j z h hz] at hzh; cases hzh
        · rw [hx] at hz; cases hz; exact Int.le_refl _
      · have hbe : betterB l x (fnI l a i) = decide (x.bt > y.bt) := by rw [h1]; simp [betterB, h2]
        by_cases hg : x.bt > y.bt
        · rw [fnI_yes hx hh (by rw [hbe]; exact decide_eq_true hg)]
          refine .inr ⟨i, x, rfl, hx, hh, fun j z hj hz hzh => ?_⟩
          rcases upto j hj with h | rfl
          · have := h4 j z h hz hzh; omega
          · rw [hx] at hz; cases hz; exact Int.le_refl _
        · rw [fnI_no2 hx (by rw [hbe]; exact decide_eq_false hg)]
          refine .inr ⟨k, y, h1, h2, h3, fun j z hj hz hzh => ?_⟩
          rcases upto j hj with h | rfl
          · exact h4 j z h hz hzh
          · rw [hx] at hz; cases hz; omega
/-- The reference finds what the trie finds. -/
theorem fnI_find {l : List Rt} {a : Nat} (hok : OkL l) {o : Option Rt} (hu : Uq l) (h : FindR l a o) :
    (fnI l a l.length = none ∧ o = none) ∨ ∃ k x, fnI l a l.length = some k ∧ l[k]? = some x ∧ o = some x := by
  have same : Same l l := fun _ => Iff.rfl
  rcases fnI_spec (l := l) (a := a) l.length (Nat.le_refl _) with ⟨h1, h2⟩ | ⟨k, x, h1, h2, h3, h4⟩
  · refine .inl ⟨h1, find_same hu same h (o' := none) (.inr ⟨rfl, fun y hy hh => ?_⟩)⟩
    obtain ⟨j, hj⟩ := List.mem_iff_getElem?.1 hy
    have := h2 j y (List.getElem?_eq_some_iff.1 hj).1 hj
    rw [(holds_iff y a).2 ⟨(hok y hy).2, hh⟩] at this
    cases this
  · refine .inr ⟨k, x, h1, h2, find_same hu same h (o' := some x) (.inl ⟨x, rfl, List.mem_of_getElem? h2, ((holds_iff x a).1 h3).2, fun y hy hh => ?_⟩)⟩
    obtain ⟨j, hj⟩ := List.mem_iff_getElem?.1 hy
    exact h4 j y (List.getElem?_eq_some_iff.1 hj).1 hj ((holds_iff y a).2 ⟨(hok y hy).2, hh⟩)
def optI (o : Option Nat) : Int := match o with | some k => (k : Int) | none => -1
set_option maxHeartbeats 2000000 in
theorem find19 (l : List Rt) (A : Option Addr) (c a : Nat) (w : World) (hA : RtsA w A l) (hl : l.length ≤ 100000) (ha : a < 2 ^ 32) (hok : ∀ r ∈ l, r.ad < 2 ^ 32) :
    Calls Try.prog 19 #[.slice A l.length c, .int .u32 a] w fun e w' => e = .returned (.int .i64 (optI (fnI l a l.length))) ∧ Below w.heap.size w w' := by
  have hu22 := Try.underlying22
  have hu30 := Try.underlying30
  have hu32 := Try.underlying32
  have HA := Lib.hid hA
  have HOK := Lib.hid hok
  have HAD := Lib.hid ha
  clear hA hok ha
  go_enter Try.func19, Try.ntmps19
  go_wp2_with fail
  go_loopg [5, 6] (l.length + 1) (fun gg s5 s6 wr => ∃ i : Nat, i ≤ l.length ∧ l.length + 1 - i ≤ gg ∧ s5 = .int .i64 (optI (fnI l a i)) ∧ s6 = .int .i64 i ∧ Hid (Below w.heap.size w wr))
  case atStart => exact ⟨0, Nat.zero_le _, Nat.sub_le _ _, rfl, rfl, Below.refl _ _⟩
  case round =>
    obtain ⟨i, hi, hgg, rfl, rfl, BR⟩ := hrel
    by_cases hlt : i < l.length
    · have d1 : decide ((i : Int) < (l.length : Int)) = true := decide_eq_true (by omega)
      have d2 : (0 : Int) ≤ (i : Int) := by omega
      have d3 : (i : Int) < (l.length : Int) := by omega
      have hx : l[i]? = some l[i] := List.getElem?_eq_getElem hlt
      have HX := Lib.hid hx
      have HAW := HA.out.low BR.out (Nat.le_refl _)
      obtain ⟨b, o, rfl, _, hcc⟩ := HAW (by omega)
      have hc := hcc i _ hx
      have HHY := Lib.hid (holds11 (l[i]).ad (HOK.out _ (List.getElem_mem hlt)) (l[i]).bt a HAD.out)
      generalize l[i] = x at *
      have y0 := bw_cell (rg0 hc)
      have y1 := bw_cell (rg1 hc)
      clear hx hc
      cases hv : holdsB x.ad x.bt a with
      | false =>
        rw [hv] at HHY
        have HS := Lib.hid (fnI_no HX.out hv)
        clear hv
        generalize fnI l a i = f at *
        go_wp2_with fail
        refine region_bw (by kernel_rfl) (by kernel_rfl) ?_
        repeat (go_big_quiet_step ((go_at_call 11; exact call_bw HHY.out _)))
        refine wpQuiet_nil ?_
        rintro _ ⟨u, rfl⟩
        have hb' := Lib.hid (BW.b u)
        generalize u.w = w9 at hb' ⊢
        clear y0 y1
        go_wp2_with fail
        go_roundg (l.length + 1 - (i + 1))
        case measure => omega
        case rel => exact ⟨i + 1, hlt, Nat.le_refl _, by rw [HS.out], by go_num, Lib.hid (bel_trans BR.out hb'.out)⟩
      | true =>
        rw [hv] at HHY
        have HS := Lib.hid (fun hb => fnI_yes HX.out hv hb)
        have HS2 := Lib.hid (fun hb => fnI_no2 (a := a) HX.out hb)
        clear hv
        cases hf : fnI l a i with
        | none =>
          rw [hf] at HS HS2
          have HS := Lib.hid (HS.out rfl)
          have e1 : decide (optI none < 0) = true := rfl
          have e2 : optI none = -1 := rfl
          clear hf HS2
          go_wp2_with fail
          refine region_bw (by kernel_rfl) (by kernel_rfl) ?_
          repeat (go_big_quiet_step ((go_at_call 11; exact call_bw HHY.out _)))
          refine wpQuiet_nil ?_
          rintro _ ⟨u, rfl⟩
          have hb' := Lib.hid (BW.b u)
          generalize u.w = w9 at hb' ⊢
          clear y0 y1
          go_wp2_with fail
          go_roundg (l.length + 1 - (i + 1))
          case measure => omega
          case rel => exact ⟨i + 1, hlt, Nat.le_refl _, by rw [HS.out]; rfl, by go_num, Lib.hid (bel_trans BR.out hb'.out)⟩
        | some k =>
          have hkl := (fnI_lt l a i k hf).2
          rw [hf] at HS HS2
          have hy : l[k]? = some l[k] := List.getElem?_eq_getElem hkl
          have hc2 := hcc k _ hy
          have hbe : betterB l x (some k) = decide (x.bt > (l[k]).bt) := by simp [betterB, hy]
          generalize l[k] = y at *
          have z1 := bw_cell (rg1 hc2)
          have e1 : decide (optI (some k) < 0) = false := decide_eq_false (by show ¬ ((k : Int) < 0); omega)
          have e2 : optI (some k) = (k : Int) := rfl
          have e3 : (0 : Int) ≤ (k : Int) := by omega
          have e4 : (k : Int) < (l.length : Int) := by omega
          have e5 : decide ((k : Int) < 0) = false := decide_eq_false (by omega)
          rw [e2]
          clear hf hy hc2 e1 e2
          by_cases hg : x.bt > y.bt
          · have g1 : decide (x.bt > y.bt) = true := decide_eq_true hg
            have HS := Lib.hid (HS.out (by rw [hbe, g1]))
            clear HS2 hbe
            go_wp2_with fail
            refine region_bw (by kernel_rfl) (by kernel_rfl) ?_
            repeat (go_big_quiet_step ((go_at_call 11; exact call_bw HHY.out _)))
            refine wpQuiet_nil ?_
            rintro _ ⟨u, rfl⟩
            have hb' := Lib.hid (BW.b u)
            generalize u.w = w9 at hb' ⊢
            clear y0 y1 z1
            go_wp2_with fail
            go_roundg (l.length + 1 - (i + 1))
            case measure => omega
            case rel => exact ⟨i + 1, hlt, Nat.le_refl _, by rw [HS.out]; rfl, by go_num, Lib.hid (bel_trans BR.out hb'.out)⟩
          · have g1 : decide (x.bt > y.bt) = false := decide_eq_false hg
            have HS2 := Lib.hid (HS2.out (by rw [hbe, g1]))
            clear HS hbe
            go_wp2_with fail
            refine region_bw (by kernel_rfl) (by kernel_rfl) ?_
            repeat (go_big_quiet_step ((go_at_call 11; exact call_bw HHY.out _)))
            refine wpQuiet_nil ?_
            rintro _ ⟨u, rfl⟩
            have hb' := Lib.hid (BW.b u)
            generalize u.w = w9 at hb' ⊢
            clear y0 y1 z1
            go_wp2_with fail
            go_roundg (l.length + 1 - (i + 1))
            case measure => omega
            case rel => exact ⟨i + 1, hlt, Nat.le_refl _, by rw [HS2.out]; rfl, by go_num, Lib.hid (bel_trans BR.out hb'.out)⟩
    · have d1 : decide ((i : Int) < (l.length : Int)) = false := decide_eq_false (by omega)
      have hie : i = l.length := by omega
      subst hie
      go_wp2_with fail
      go_ret
      exact ⟨rfl, BR.out⟩
end Go.Proofs.Ytfpbcdlfcaglgaa.P
