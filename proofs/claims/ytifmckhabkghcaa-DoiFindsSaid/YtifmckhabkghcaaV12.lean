/- DoiFinds (walk). -/
import Derived.Test.YtifmckhabkghcaaV8
namespace Go.Proofs.Ytifmckhabkghcaa.P
open Go.RowKit
set_option linter.unusedSimpArgs false

/-- The first place from n on, or -1. -/
def AtN (ds : List Dm) (num : Int) (n : Nat) (a : Int) : Prop := (a = -1 ∧ ∀ (j : Nat) d, n ≤ j → ds[j]? = some d → d.num ≠ num) ∨ ∃ k : Nat, a = k ∧ n ≤ k ∧ (∃ d, ds[k]? = some d ∧ d.num = num) ∧ ∀ (j : Nat) d, n ≤ j → j < k → ds[j]? = some d → d.num ≠ num
theorem AtN.end_ {ds : List Dm} {num a : Int} (h : AtN ds num 0 a) : fIdx (isNum num) ds = a := by
  rcases h with ⟨rfl, hno⟩ | ⟨k, rfl, _, ⟨d, hd, hn⟩, hno⟩
  · exact fIdx_no fun j d hd => by simp [isNum, hno j d (Nat.zero_le _) hd]
  · exact fIdx_hit hd (by simp [isNum, hn]) fun j d hj hd => by simp [isNum, hno j d (Nat.zero_le _) hj hd]
theorem AtN.hit {ds : List Dm} {num : Int} {m : Nat} {d : Dm} (hd : ds[m]? = some d) (hn : d.num = num) : AtN ds num m (m : Int) := .inr ⟨m, rfl, Nat.le_refl _, ⟨d, hd, hn⟩, fun j _ h1 h2 => by omega⟩
theorem AtN.miss {ds : List Dm} {num a : Int} {m : Nat} {d : Dm} (h : AtN ds num (m + 1) a) (hd : ds[m]? = some d) (hn : d.num ≠ num) : AtN ds num m a := by
  have key : ∀ (j : Nat) e, m ≤ j → ds[j]? = some e → (m + 1 ≤ j → e.num ≠ num) → e.num ≠ num := fun j e h1 h2 h3 => by
    rcases Nat.lt_or_ge m j with h | h
    · exact h3 h
    · have : j = m := by omega
      subst this
      rw [hd] at h2
      rw [← Option.some.inj h2]
      exact hn
  rcases h with ⟨rfl, hno⟩ | ⟨k, rfl, hk, hx, hno⟩
  · exact .inl ⟨rfl, fun j e h1 h2 => key j e h1 h2 fun h => hno j e h h2⟩
  · exact .inr ⟨k, rfl, by omega, hx, fun j e h1 h2 h3 => key j e h1 h3 fun h => hno j e h h2 h3⟩
theorem drop_all {ds : List Dm} {m : Nat} {d : Dm} (hd : ds[m]? = some d) : (ds.drop m).all rightD = (rightD d && (ds.drop (m + 1)).all rightD) := by
  obtain ⟨hlt, he⟩ := List.getElem?_eq_some_iff.1 hd
  rw [List.drop_eq_getElem_cons hlt, he]
  rfl
set_option maxRecDepth 100000 in
set_option maxHeartbeats 1000000 in
theorem finds7_long (ds : List Dm) (num : Int) (A : Option Addr) (c : Nat) (w : World) (hlen : 20 < ds.length) : Calls Try.prog 7 #[.slice A ds.length c, .int .u32 num] w fun e w' => e = .returned (.bool true) ∧ Below w.heap.size w w' := by
  have hu51 := Try.underlying51
  have HK := Lib.hid awake23
  have d0 : decide (20 < (ds.length : Int)) = true := decide_eq_true (by omega)
  go_enter Try.func7, Try.ntmps7
  go_wp2_with (go_at_call 23; refine (HK.out _).mono ?_; rintro e w7 ⟨rfl, hb⟩; have HB7 := Lib.hid hb; clear hb)
  go_ret
  exact ⟨rfl, HB7.out⟩
set_option maxRecDepth 100000 in
set_option maxHeartbeats 4000000 in
theorem finds7_ok (ds : List Dm) (num : Int) (A : Option Addr) (c : Nat) (w : World) (hlen : ds.length ≤ 20) (hA : DmsA w A ds) (hd : ∀ d ∈ ds, DmA w d) : Calls Try.prog 7 #[.slice A ds.length c, .int .u32 num] w fun e w' => e = .returned (.bool true) ∧ Below w.heap.size w w' := by
  have hu51 := Try.underlying51
  have hu47 := Try.underlying47
  have HK := Lib.hid awake23
  have d0 : decide (20 < (ds.length : Int)) = false := decide_eq_false (by omega)
  have HA := Lib.hid hA
  have HD := Lib.hid hd
  have q0 : IntKind.i64.wrap ((ds.length : Int) - 1) = (ds.length : Int) - 1 := IntWalk.i64_in _ (by omega)
  clear hA hd
  go_enter Try.func7, Try.ntmps7
  go_wp2_with fail
  clear q0
  go_loopg [5, 6, 7] 21 (fun gg s5 s6 s7 wr => ∃ (n : Nat) (a : Int) (r : Bool), n ≤ ds.length ∧ n ≤ gg ∧ s7 = .int .i64 ((n : Int) - 1) ∧ s5 = .int .i64 a ∧ s6 = .bool r ∧ Hid (AtN ds num n a) ∧ Hid (r = (ds.drop n).all rightD) ∧ Hid (∀ (j : Nat) d, n ≤ j → ds[j]? = some d → greatB d = false) ∧ Hid (Below w.heap.size w wr))
  case atStart =>
    have hno : ∀ (j : Nat) (d : Dm), ds.length ≤ j → ds[j]? = some d → False := fun j d h1 h2 => by
      rw [List.getElem?_eq_none h1] at h2
      cases h2
    exact ⟨ds.length, -1, true, Nat.le_refl _, by omega, rfl, rfl, rfl, Lib.hid (.inl ⟨rfl, fun j d h1 h2 => (hno j d h1 h2).elim⟩), Lib.hid (by rw [List.drop_length]; rfl), Lib.hid (fun j d h1 h2 => (hno j d h1 h2).elim), Below.refl _ _⟩
  case round =>
    obtain ⟨n, a, r, hn, hgg, rfl, rfl, rfl, HAT, HRR, HGR, BR⟩ := hrel
    cases n with
    | zero =>
      have e0 : (((0 : Nat) : Int) - 1) = -1 := rfl
      rw [e0]
      clear e0
      have HF := Lib.hid (find27 ds A c num)
      have HI := Lib.hid HAT.out.end_
      have HRI := Lib.hid (show rightsB ds = r by rw [HRR.out, List.drop_zero]; rfl)
      have HF1 := Lib.hid (show ∀ W, Below w.heap.size w W → Calls Try.prog 27 #[.slice A ds.length c, .int .u32 num] W fun e w' => e = .returned (.int .i64 a) ∧ Below W.heap.size W w' from fun W hb => by
        have h := HF.out W (HA.out.below hb) (by omega)
        rw [HI.out] at h
        exact h)
      have HF2 := Lib.hid (show ∀ W, Below w.heap.size w W → Calls Try.prog 28 #[.slice A ds.length c] W fun e w' => e = .returned (.bool r) ∧ Below W.heap.size W w' from fun W hb => by
        have h := rights28 ds A c W (HA.out.below hb) (by omega) (fun d hd => by
          obtain ⟨j, hj⟩ := List.getElem?_of_mem hd
          have := HGR.out j d (Nat.zero_le _) hj
          simp [greatB] at this
          exact ⟨(HD.out d hd).below hb, this⟩)
        rw [HRI.out] at h
        exact h)
      clear HF HI HRI
      go_wp2_with (first
        | (go_at_call 27; refine (HF1.out _ BR.out).mono ?_; rintro e w4 ⟨rfl, hb⟩; have HB4 := Lib.hid (bel_trans BR.out hb); clear hb)
        | (go_at_call 28; refine (HF2.out _ HB4.out).mono ?_; rintro e w5 ⟨rfl, hb⟩; have HB5 := Lib.hid (bel_trans HB4.out hb); clear hb)
        | (go_at_call 23; refine (HK.out _).mono ?_; rintro e w6 ⟨rfl, hb⟩; have HB6 := Lib.hid (bel_trans HB5.out hb); clear hb))
      go_ret
      exact ⟨rfl, HB6.out⟩
    | succ m =>
      have e0 : (((m + 1 : Nat) : Int) - 1) = (m : Int) := by omega
      rw [e0]
      clear e0
      have hlt : m < ds.length := by omega
      have d2 : (0 : Int) ≤ (m : Int) := by omega
      have d3 : (m : Int) < (ds.length : Int) := by omega
      have q1 : IntKind.i64.wrap ((m : Int) - 1) = (m : Int) - 1 := IntWalk.i64_in _ (by omega)
      obtain ⟨b, o, rfl, hb, hc⟩ := (HA.out.below BR.out) (by omega)
      have hy : ds[m]? = some ds[m] := List.getElem?_eq_getElem hlt
      have HC := Lib.hid (hc m _ hy)
      obtain ⟨c0, c1, c2⟩ := dm_cells (hc m _ hy)
      have HY := Lib.hid hy
      have HDM := Lib.hid ((HD.out ds[m] (List.getElem_mem hlt)).below BR.out)
      have HGT := Lib.hid (great22 ds[m])
      clear hc
      generalize ds[m] = d at c0 c1 c2 HC HY HDM HGT
      clear hy
      cases hg : greatB d with
      | true =>
        rw [hg] at HGT
        clear hg
        obtain ⟨dn, A1, c1', lv, A2, c2', ct⟩ := d
        unfold dmA at HGT
        simp only at c0 c1 c2 HGT
        go_wp2_with (first
          | (go_at_call 22; refine (HGT.out _).mono ?_; rintro e w4 ⟨rfl, hb⟩; have HB4 := Lib.hid (bel_trans BR.out hb); clear hb)
          | (go_at_call 23; refine (HK.out _).mono ?_; rintro e w6 ⟨rfl, hb⟩; have HB6 := Lib.hid (bel_trans HB4.out hb); clear hb))
        go_ret
        exact ⟨rfl, HB6.out⟩
      | false =>
        rw [hg] at HGT
        have HG1 := Lib.hid hg
        have HGN := Lib.hid (show ∀ (j : Nat) e, m ≤ j → ds[j]? = some e → greatB e = false from fun j e h1 h2 => by
          rcases Nat.lt_or_ge m j with h | h
          · exact HGR.out j e h h2
          · have : j = m := by omega
            subst this
            rw [HY.out] at h2
            rw [← Option.some.inj h2]
            exact hg)
        obtain ⟨l1, l2⟩ : d.lv.length ≤ 300 ∧ d.ct.length ≤ 300 := by simp [greatB] at hg; exact hg
        have HR26 := Lib.hid (fun W (hb : Below wr.heap.size wr W) => right26 d W (HDM.out.below hb) l1 l2)
        have HDA := Lib.hid (drop_all HY.out)
        clear hg l1 l2
        generalize hrd : rightD d = rd at HR26 HDA
        clear hrd
        have HNM := Lib.hid (show d.num = num → AtN ds num m (m : Int) from fun h => AtN.hit HY.out h)
        have HNX := Lib.hid (show d.num ≠ num → AtN ds num m a from fun h => HAT.out.miss HY.out h)
        have hcells : ∀ W, Below wr.heap.size wr W → W.rangeAt b (o + m * 3) (dmL d) := fun W hb' => range_below HC.out hb hb'
        have HCW := Lib.hid hcells
        clear hcells HY HC HDM
        obtain ⟨dn, A1, c1', lv, A2, c2', ct⟩ := d
        unfold dmA at HGT HR26
        simp only at c0 c1 c2 HGT HR26 HNM HNX
        cases r with
        | true =>
          have HR2 := Lib.hid (show rd = (ds.drop m).all rightD by rw [HDA.out, ← HRR.out, Bool.and_true])
          by_cases hnm : dn = num
          · have m0 : (dn == num) = true := beq_iff_eq.2 hnm
            have HX := Lib.hid (HNM.out hnm)
            clear hnm
            go_wp2_with (first
              | (go_at_call 22; refine (HGT.out _).mono ?_; rintro e w4 ⟨rfl, hb⟩; have HW4 := Lib.hid hb; have HB4 := Lib.hid (bel_trans BR.out hb); obtain ⟨c0', c1'', c2''⟩ := dm_cells (HCW.out _ hb); simp only at c0' c1'' c2''; clear hb c0 c1 c2)
              | (go_at_call 26; refine (HR26.out _ HW4.out).mono ?_; rintro e w5 ⟨rfl, hb⟩; have HB5 := Lib.hid (bel_trans HB4.out hb); obtain ⟨g0, g1, g2⟩ := dm_cells (HCW.out _ (bel_trans HW4.out hb)); simp only at g0 g1 g2; clear hb c0' c1'' c2''))
            go_roundg m
            case measure => omega
            case rel => exact ⟨m, _, rd, by omega, Nat.le_refl _, rfl, rfl, rfl, HX, HR2, HGN, HB5⟩
          · have m0 : (dn == num) = false := beq_eq_false_iff_ne.2 hnm
            have HX := Lib.hid (HNX.out hnm)
            clear hnm
            go_wp2_with (first
              | (go_at_call 22; refine (HGT.out _).mono ?_; rintro e w4 ⟨rfl, hb⟩; have HW4 := Lib.hid hb; have HB4 := Lib.hid (bel_trans BR.out hb); obtain ⟨c0', c1'', c2''⟩ := dm_cells (HCW.out _ hb); simp only at c0' c1'' c2''; clear hb c0 c1 c2)
              | (go_at_call 26; refine (HR26.out _ HW4.out).mono ?_; rintro e w5 ⟨rfl, hb⟩; have HB5 := Lib.hid (bel_trans HB4.out hb); obtain ⟨g0, g1, g2⟩ := dm_cells (HCW.out _ (bel_trans HW4.out hb)); simp only at g0 g1 g2; clear hb c0' c1'' c2''))
            go_roundg m
            case measure => omega
            case rel => exact ⟨m, a, rd, by omega, Nat.le_refl _, rfl, rfl, rfl, HX, HR2, HGN, HB5⟩
        | false =>
          have HR2 := Lib.hid (show false = (ds.drop m).all rightD by rw [HDA.out, ← HRR.out, Bool.and_false])
          by_cases hnm : dn = num
          · have m0 : (dn == num) = true := beq_iff_eq.2 hnm
            have HX := Lib.hid (HNM.out hnm)
            clear hnm
            go_wp2_with (first
              | (go_at_call 22; refine (HGT.out _).mono ?_; rintro e w4 ⟨rfl, hb⟩; have HB4 := Lib.hid (bel_trans BR.out hb); obtain ⟨g0, g1, g2⟩ := dm_cells (HCW.out _ hb); simp only at g0 g1 g2; clear hb c0 c1 c2))
            go_roundg m
            case measure => omega
            case rel => exact ⟨m, _, false, by omega, Nat.le_refl _, rfl, rfl, rfl, HX, HR2, HGN, HB4⟩
          · have m0 : (dn == num) = false := beq_eq_false_iff_ne.2 hnm
            have HX := Lib.hid (HNX.out hnm)
            clear hnm
            go_wp2_with (first
              | (go_at_call 22; refine (HGT.out _).mono ?_; rintro e w4 ⟨rfl, hb⟩; have HB4 := Lib.hid (bel_trans BR.out hb); obtain ⟨g0, g1, g2⟩ := dm_cells (HCW.out _ hb); simp only at g0 g1 g2; clear hb c0 c1 c2))
            go_roundg m
            case measure => omega
            case rel => exact ⟨m, a, false, by omega, Nat.le_refl _, rfl, rfl, rfl, HX, HR2, HGN, HB4⟩
theorem finds7 (ds : List Dm) (num : Int) (A : Option Addr) (c : Nat) (w : World) (hA : DmsA w A ds) (hd : ∀ d ∈ ds, DmA w d) : Calls Try.prog 7 #[.slice A ds.length c, .int .u32 num] w fun e w' => e = .returned (.bool true) ∧ Below w.heap.size w w' := by
  by_cases h : 20 < ds.length
  · exact finds7_long ds num A c w h
  · exact finds7_ok ds num A c w (by omega) hA hd
end Go.Proofs.Ytifmckhabkghcaa.P
