/- TableBelow (walk). -/
import Derived.Test.YtifmckhabkghcaaU3
import Derived.Deep.OwnRows
namespace Go.Proofs.Ytifmckhabkghcaa.P
open Go.RowKit
set_option linter.unusedSimpArgs false
attribute [local go_sem ↓] ldi25

theorem mem_selN {p : Nat → Bool} {n j : Nat} : j ∈ selN p n ↔ j < n ∧ p j = true := by simp [selN]
theorem dom_refl (x : Lab) : domB x x = true := by simp [domB]
theorem dom_trans {x y z : Lab} (h1 : domB x y = true) (h2 : domB y z = true) : domB x z = true := by
  simp [domB] at h1 h2 ⊢
  refine ⟨by omega, ?_⟩
  have e : z.S &&& x.S = (z.S &&& y.S) &&& x.S := by rw [h2.2]
  rw [e, Nat.and_assoc, h1.2, h2.2]
theorem dom_anti {x y : Lab} (h1 : domB x y = true) (h2 : domB y x = true) : x = y := by
  simp [domB] at h1 h2
  refine lab_ext (by omega) ?_
  rw [← h2.2, Nat.and_comm, h1.2]
theorem lab_once {l : List Lab} (hd : ∀ j, j < l.length → labD l j ∉ l.take j) {i j : Nat} (hi : i < l.length) (hj : j < l.length) (h : labD l i = labD l j) : i = j := by
  rcases Nat.lt_trichotomy i j with h1 | h1 | h1
  · exact absurd (mem_take.2 ⟨i, h1, by rw [← h, labD_get hi]; exact List.getElem?_eq_getElem hi⟩) (hd j hj)
  · exact h1
  · exact absurd (mem_take.2 ⟨j, h1, by rw [h, labD_get hj]; exact List.getElem?_eq_getElem hj⟩) (hd i hi)
theorem in_self {l : List Lab} (hd : ∀ j, j < l.length → labD l j ∉ l.take j) {k : Nat} (hk : k < l.length) : selN (inB l l[k] l[k]) l.length = [k] := by
  have h : ∀ n, n ≤ l.length → selN (inB l l[k] l[k]) n = if k < n then [k] else [] := by
    intro n
    induction n with
    | zero => intro _; simp [selN]
    | succ n ih =>
      intro hn
      rw [selN_succ, ih (by omega)]
      by_cases e : n = k
      · subst e
        have : inB l l[n] l[n] n = true := by unfold inB; rw [labD_get hk, dom_refl]; rfl
        simp [this]
      · have : inB l l[k] l[k] n = false := by
          cases hc : inB l l[k] l[k] n with
          | false => rfl
          | true =>
            unfold inB at hc
            simp at hc
            have := dom_anti hc.1 hc.2
            exact absurd (lab_once hd (by omega) hk (by rw [this, labD_get hk])) e
        rw [this]
        by_cases h1 : k < n
        · simp [h1, show k < n + 1 by omega]
        · simp [h1, show ¬ k < n + 1 by omega]
  rw [h _ (Nat.le_refl _), if_pos hk]
/-- Bools in a row. -/
def inA (p : Nat → Bool) (n : Nat) : Array Value := ((List.range n).map fun j => Value.bool (p j)).toArray
theorem inA_get (p : Nat → Bool) (n j : Nat) (h : j < n) : (inA p n)[j]? = some (.bool (p j)) := by simp [inA, h]
theorem inA_zero (n : Nat) : madeCells #[Value.bool false] n = inA (fun _ => false) n := by
  apply Array.ext'
  simp [inA, madeCells, Nat.mod_one]
theorem inA_set (p : Nat → Bool) (n b : Nat) : (inA p n).setIfInBounds b (.bool true) = inA (fun j => p j || j == b) n := by
  apply Array.ext'
  simp only [inA, Array.toList_setIfInBounds]
  apply List.ext_getElem
  · simp
  · intro j h1 h2
    simp only [List.getElem_set, List.getElem_map, List.getElem_range]
    by_cases e : b = j
    · subst e; simp
    · have : ¬ j = b := fun h => e h.symm
      simp [e, this]
theorem one_at (w : World) (k : Nat) : IntsA (w.alloc (.cells #[.int .i64 k] 3)) (some ⟨w.heap.size, 0, none⟩) [k] := fun _ => ⟨_, _, rfl, by simp, fun j m hm => by
  rw [cell_of_row _ _ _ _ _ _ (heap_alloc_new w _)]
  cases j with
  | zero => simp at hm; subst hm; rfl
  | succ j => simp at hm⟩
theorem info4 : (Try.prog.info? 4).map (fun i => (i.zero, i.size, i.bytes)) = some (some (.bool false), 1, 1) := by kernel_rfl
set_option maxRecDepth 100000 in
set_option maxHeartbeats 1000000 in
theorem below10_long (l : List Lab) (n : Int) (A : Option Addr) (c : Nat) (w : World) (hlen : 40 < l.length) :
    Calls Try.prog 10 #[.slice A l.length c, .int .i64 n] w fun e w' => e = .returned (.bool true) ∧ Below w.heap.size w w' := by
  have hu56 := Try.underlying56
  have HK := Lib.hid awake31
  have d0 : decide (40 < (l.length : Int)) = true := decide_eq_true (by omega)
  go_enter Try.func10, Try.ntmps10
  go_wp2_with (go_at_call 31; refine (HK.out _).mono ?_; rintro e w7 ⟨rfl, hb⟩; have HB7 := Lib.hid hb; clear hb)
  go_ret
  exact ⟨rfl, HB7.out⟩
set_option maxRecDepth 100000 in
set_option maxHeartbeats 4000000 in
theorem below10_ok (l : List Lab) (n : Int) (A : Option Addr) (c : Nat) (w : World) (hA : SlA w A l) (hl : ∀ y ∈ l, LabOK y) (hlen : l.length ≤ 40) :
    Calls Try.prog 10 #[.slice A l.length c, .int .i64 n] w fun e w' => e = .returned (.bool true) ∧ Below w.heap.size w w' := by
  have hu25 := Try.underlying25
  have hu56 := Try.underlying56
  have hu60 := Try.underlying60
  have hu67 := Try.underlying67
  have HK := Lib.hid awake31
  have HN := Lib.hid (fun w' (hb : Below w.heap.size w w') => new32 l A c w' (hA.below hb) hl hlen)
  have HA := Lib.hid hA
  have d0 : decide (40 < (l.length : Int)) = false := decide_eq_false (by omega)
  clear hA
  by_cases he : chkE l = 0
  · have HE := Lib.hid he
    have hd := fun j (hj : j < l.length) => bad0 ((chk_zero he).2 j hj)
    have HD := Lib.hid hd
    have HN2 := Lib.hid (show ∀ w', Below w.heap.size w w' → Calls Try.prog 32 #[.slice A l.length c] w' fun e w1 => ∃ g, e = .returned (.tuple #[.pointer (some ⟨g, 0, none⟩), .int .i64 (chkK l), .int .i64 0]) ∧ Tab w1 w'.heap.size g l ∧ Below w'.heap.size w' w1 from fun w' hb => (HN.out w' hb).mono fun e w1 hh => by
      obtain ⟨p, rfl, hb1, _, h0⟩ := hh
      obtain ⟨g, rfl, ht⟩ := h0 HE.out
      exact ⟨g, by rw [HE.out]; rfl, ht, hb1⟩)
    generalize chkK l = kk at HN2
    clear he hd
    by_cases hn : 0 ≤ n ∧ n < l.length
    · obtain ⟨hn0, hn1⟩ := hn
      obtain ⟨k, rfl⟩ : ∃ k : Nat, n = k := ⟨n.toNat, by omega⟩
      have hk : k < l.length := by omega
      have e1 : decide ((k : Int) < 0) = false := decide_eq_false (by omega)
      have e2 : decide ((l.length : Int) ≤ (k : Int)) = false := decide_eq_false (by omega)
      have HIN := Lib.hid (in_self HD.out hk)
      obtain ⟨be, hbe⟩ : ∃ be, be = beN l k := ⟨_, rfl⟩
      have HBE := Lib.hid hbe
      have HBM := Lib.hid (show ∀ j, j ∈ be ↔ j < l.length ∧ domB l[k] (labD l j) = true from fun j => by
        rw [hbe]; unfold beN; rw [if_pos ⟨hn0, hn1⟩, mem_selN, Int.toNat_natCast, labD_get hk]; rfl)
      have HBW := Lib.hid (show ∀ w g B, Tab w B g l → Calls Try.prog 37 #[.pointer (some ⟨g, 0, none⟩), .int .i64 k] w fun e w' => ∃ A2 c2, e = .returned (.slice A2 be.length c2) ∧ IntsA w' A2 be ∧ Below w.heap.size w w' from fun w g B ht => (below37 B g l k w ht hl hlen).mono fun e w' hh => by
        obtain ⟨v, rfl, ho, hb⟩ := hh
        rw [← HBE.out] at ho
        obtain ⟨A2, c2, rfl, hi⟩ := ints_of_own ho
        exact ⟨A2, c2, rfl, hi, hb⟩)
      have hbl : be.length ≤ 40 := by rw [hbe]; exact Nat.le_trans (beN_len _ _) hlen
      have hmk := fun w => run_make_row' (P := Try.prog) 67 4 (.bool false) 1 hu67 info4 rfl .i64 .i64 l.length (by omega) (by omega) w
      simp only [inA_zero] at hmk
      clear hbe HN
      go_enter Try.func10, Try.ntmps10
      go_wp2_with (first
        | (go_at_call 31; refine (HK.out _).mono ?_; rintro e w1 ⟨rfl, hb⟩; have HB1 := Lib.hid hb; clear hb)
        | (go_at_call 32; refine (HN2.out _ HB1.out).mono ?_; rintro e w2 ⟨g, rfl, ht, hb⟩; have HT2 := Lib.hid ht; have HB2 := Lib.hid (below_then HB1.out HB1.out.size hb); clear hb ht)
        | (go_at_call 37; refine (HBW.out _ _ _ HT2.out).mono ?_; rintro e w3 ⟨A2, c2, rfl, hi, hb⟩; have HI3 := Lib.hid hi; have HT3 := Lib.hid (HT2.out.below hb); have HB3 := Lib.hid (below_then HB2.out HB2.out.size hb); clear hb hi))
      generalize w1.heap.size = B at HT2 HT3
      have N0 := Lib.hid (heap_alloc_new w3 (.cells (inA (fun _ => false) l.length) 4))
      have NB := Lib.hid (bel_alloc (Below.refl w3.heap.size w3) (.cells (inA (fun _ => false) l.length) 4))
      generalize hG : w3.heap.size = G at N0 NB ⊢
      have HG := Lib.hid hG
      clear hG hmk HT2 HB1 HB2
      go_loopg [10] 41 (fun gg s10 wr => ∃ i : Nat, i ≤ be.length ∧ 41 - i ≤ gg ∧ s10 = .int .i64 i ∧ Hid (wr.heap[G]? = some (.cells (inA (fun j => decide (j ∈ be.take i)) l.length) 4 (0, 0))) ∧ Hid (Below G w3 wr))
      case atStart => exact ⟨0, Nat.zero_le _, Nat.sub_le _ _, rfl, by simpa using N0, NB⟩
      case round =>
        clear N0 NB
        obtain ⟨i, hi, hgg, rfl, K0, BR⟩ := hrel
        by_cases hlt : i < be.length
        · have d1 : decide ((i : Int) < (be.length : Int)) = true := decide_eq_true (by omega)
          have d2 : (0 : Int) ≤ (i : Int) := by omega
          have d3 : (i : Int) < (be.length : Int) := by omega
          have q1 : IntKind.i64.wrap ((i : Int) + 1) = (i : Int) + 1 := IntWalk.i64_in _ (by omega)
          obtain ⟨b2, o2, rfl, hb2, hc2⟩ := (HI3.out.below (by rw [HG.out]; exact BR.out)) (by omega)
          have hm := (HBM.out be[i]).1 (List.getElem_mem hlt)
          have c1 := hc2 i _ (List.getElem?_eq_getElem hlt)
          have HTK := Lib.hid (show be.take (i + 1) = be.take i ++ [be[i]] from List.take_succ_eq_append_getElem hlt)
          have hml := hm.1
          clear hm hc2
          generalize be[i] = b at c1 HTK hml
          have e3 : (0 : Int) ≤ (b : Int) := by omega
          have e4 : (b : Int) < (l.length : Int) := by omega
          have c2' : wr.cell? ⟨G, b, none⟩ = some (.bool (decide (b ∈ be.take i))) := (cell_of_row _ _ _ _ _ _ K0.out).trans (inA_get _ _ _ hml)
          have f2 : wr.frozen? ⟨G, b, none⟩ = false := frozen_of_row _ _ _ _ _ K0.out
          go_wp2_with fail
          go_roundg (41 - (i + 1))
          case measure => omega
          case rel =>
            refine ⟨i + 1, hlt, Nat.le_refl _, rfl, Lib.hid ?_, Lib.hid (BR.out.setCell (Nat.le_refl _) _)⟩
            have h := heap_setCell_same wr G b _ 4 (.bool true) K0.out
            rw [inA_set] at h
            rw [h]
            congr 3
            funext j
            rw [HTK.out]
            by_cases e : j = b <;> simp [e]
        · have d1 : decide ((i : Int) < (be.length : Int)) = false := decide_eq_false (by omega)
          have hi2 : i = be.length := by omega
          have K1 := Lib.hid (show wr.heap[G]? = some (.cells (inA (fun j => decide (j ∈ be)) l.length) 4 (0, 0)) by
            have h := K0.out
            rw [hi2, List.take_length] at h
            exact h)
          clear K0 hi2
          go_wp2_with fail
          obtain ⟨wo, hwo⟩ : ∃ wo : World, wo = wr := ⟨_, rfl⟩
          have HWO := Lib.hid hwo
          rw [← hwo]
          rw [← hwo] at K1 BR
          clear hwo HWO
          go_loopg [4, 11] 41 (fun gg s4 s11 wr => ∃ i : Nat, i ≤ be.length ∧ 41 - i ≤ gg ∧ s11 = .int .i64 i ∧ s4 = .bool false ∧ Hid (wr.heap[G]? = some (.cells (inA (fun j => decide (j ∈ be)) l.length) 4 (0, 0))) ∧ Hid (Below G w3 wr))
          case atStart => exact ⟨0, Nat.zero_le _, Nat.sub_le _ _, rfl, rfl, K1, BR⟩
          case round =>
            clear K1 BR
            obtain ⟨i, hi, hgg, rfl, rfl, K1, BR⟩ := hrel
            have HTr := Lib.hid (HT3.out.below (by rw [HG.out]; exact BR.out))
            by_cases hlt : i < be.length
            · have d1 : decide ((i : Int) < (be.length : Int)) = true := decide_eq_true (by omega)
              have d2 : (0 : Int) ≤ (i : Int) := by omega
              have d3 : (i : Int) < (be.length : Int) := by omega
              have q1 : IntKind.i64.wrap ((i : Int) + 1) = (i : Int) + 1 := IntWalk.i64_in _ (by omega)
              obtain ⟨b2, o2, rfl, hb2, hc2⟩ := (HI3.out.below (by rw [HG.out]; exact BR.out)) (by omega)
              have hm := (HBM.out be[i]).1 (List.getElem_mem hlt)
              have c1 := hc2 i _ (List.getElem?_eq_getElem hlt)
              have hml := hm.1
              have HMD := Lib.hid hm.2
              clear hm hc2
              generalize be[i] = b at c1 hml HMD
              obtain ⟨mo, hmo⟩ : ∃ mo, mo = beN l b := ⟨_, rfl⟩
              have HMO := Lib.hid hmo
              have HMM := Lib.hid (show ∀ j, j ∈ mo → j < l.length ∧ j ∈ be from fun j hj => by
                rw [hmo] at hj
                unfold beN at hj
                rw [if_pos ⟨by omega, by omega⟩, mem_selN, Int.toNat_natCast] at hj
                exact ⟨hj.1, (HBM.out j).2 ⟨hj.1, dom_trans HMD.out hj.2⟩⟩)
              have hmol : mo.length ≤ 40 := by rw [hmo]; exact Nat.le_trans (beN_len _ _) hlen
              have HBX := Lib.hid (show Calls Try.prog 37 #[.pointer (some ⟨g, 0, none⟩), .int .i64 b] wr fun e w' => ∃ A2 c2, e = .returned (.slice A2 mo.length c2) ∧ IntsA w' A2 mo ∧ Below wr.heap.size wr w' from (below37 B g l b wr HTr.out hl hlen).mono fun e w' hh => by
                obtain ⟨v, rfl, ho, hb⟩ := hh
                rw [← HMO.out] at ho
                obtain ⟨A2, c2, rfl, hi⟩ := ints_of_own ho
                exact ⟨A2, c2, rfl, hi, hb⟩)
              clear hmo
              go_wp2_with (go_at_call 37; refine HBX.out.mono ?_; rintro e w5 ⟨A5, c5, rfl, hi5, hb5⟩; have HI5 := Lib.hid hi5; have K5 := Lib.hid (blk_below K1.out hb5); have B5 := Lib.hid (BR.out.trans (hb5.mono (by rw [← HG.out]; exact (show Below w3.heap.size w3 wr by rw [HG.out]; exact BR.out).size))); clear hi5 hb5)
              go_loopg [4, 13] 41 (fun gk s4 s13 wk => ∃ m : Nat, m ≤ mo.length ∧ 41 - m ≤ gk ∧ s13 = .int .i64 m ∧ s4 = .bool false ∧ w5 = wk)
              case atStart => exact ⟨0, Nat.zero_le _, Nat.sub_le _ _, rfl, rfl, rfl⟩
              case round =>
                obtain ⟨m, hm, hgk, rfl, rfl, rfl⟩ := hrel
                by_cases hlm : m < mo.length
                · have d4 : decide ((m : Int) < (mo.length : Int)) = true := decide_eq_true (by omega)
                  have d5 : (0 : Int) ≤ (m : Int) := by omega
                  have d6 : (m : Int) < (mo.length : Int) := by omega
                  have q2 : IntKind.i64.wrap ((m : Int) + 1) = (m : Int) + 1 := IntWalk.i64_in _ (by omega)
                  obtain ⟨b6, o6, rfl, hb6, hc6⟩ := HI5.out (by omega)
                  have hmm := HMM.out mo[m] (List.getElem_mem hlm)
                  have c6 := hc6 m _ (List.getElem?_eq_getElem hlm)
                  clear hc6
                  generalize mo[m] = z at c6 hmm
                  have e5 : (0 : Int) ≤ (z : Int) := by omega
                  have e6 : (z : Int) < (l.length : Int) := by omega
                  have c7 : w5.cell? ⟨G, z, none⟩ = some (.bool true) := (cell_of_row _ _ _ _ _ _ K5.out).trans (by rw [inA_get _ _ _ hmm.1, decide_eq_true hmm.2])
                  clear hmm
                  go_wp2_with fail
                  go_roundg (41 - (m + 1))
                  case measure => omega
                  case rel => exact ⟨m + 1, hlm, Nat.le_refl _, rfl, rfl, rfl⟩
                · have d4 : decide ((m : Int) < (mo.length : Int)) = false := decide_eq_false (by omega)
                  go_wp2_with fail
                  go_roundg (41 - (i + 1))
                  case measure => omega
                  case rel => exact ⟨i + 1, hlt, Nat.le_refl _, rfl, rfl, K5, B5⟩
            · have d1 : decide ((i : Int) < (be.length : Int)) = false := decide_eq_false (by omega)
              have BX : Below w3.heap.size w3 wr := by rw [HG.out]; exact BR.out
              have BW0 := Lib.hid (below_then HB3.out HB3.out.size BX)
              obtain ⟨b, o, rfl, sB, hc⟩ := (HA.out.below BW0.out) (by omega)
              have RY := Lib.hid (hc k _ (List.getElem?_eq_getElem hk))
              have hoy := hl _ (List.getElem_mem hk)
              have hkb : k ∈ be := (HBM.out k).2 ⟨hk, by rw [labD_get hk]; exact dom_refl _⟩
              have cG : wr.cell? ⟨G, k, none⟩ = some (.bool true) := (cell_of_row _ _ _ _ _ _ K1.out).trans (by rw [inA_get _ _ _ hk, decide_eq_true hkb])
              have sG := lt_of_block K1.out
              have HT := HTr
              have e5 : (0 : Int) ≤ (k : Int) := by omega
              have e6 : (k : Int) < (l.length : Int) := by omega
              clear hc hkb HBM HBE HBW
              generalize l[k] = y at RY hoy HIN
              go_wp2_with fail
              refine wp_region_held_drew (S := fun w' => Below wr.heap.size wr w') (by kernel_rfl) (Below.refl _ _).drew (fun hHeld => ?_)
              refine held_take 0 (some 84) (.slice (some ⟨G, 0, none⟩) l.length l.length) rfl rfl (by kernel_rfl) (by kernel_rfl) (by kernel_rfl) (fun _ _ _ h => h) (Or.inl ⟨rfl, fun w' h => by go_simp⟩) hHeld ?_
              simp only [Act.put, List.setIfInBounds_toArray, List.set_cons_zero, List.set_cons_succ]
              refine held_take 1 (some 85) (.int .i64 k) rfl rfl (by kernel_rfl) (by kernel_rfl) (by kernel_rfl) (fun _ _ _ h => h) (Or.inl ⟨rfl, fun w' h => by go_simp⟩) hHeld ?_
              simp only [Act.put, List.setIfInBounds_toArray, List.set_cons_zero, List.set_cons_succ]
              refine held_take 2 (some 86) (.pointer (some ⟨G, k, none⟩)) rfl rfl (by kernel_rfl) (by kernel_rfl) (by kernel_rfl) (fun _ _ _ h => h) (Or.inl ⟨rfl, fun w' h => by go_simp⟩) hHeld ?_
              simp only [Act.put, List.setIfInBounds_toArray, List.set_cons_zero, List.set_cons_succ]
              refine held_take 3 (some 87) (.bool true) rfl rfl (by kernel_rfl) (by kernel_rfl) (by kernel_rfl) (fun _ _ _ h => h) (Or.inl ⟨rfl, fun w' h => by
                have c := (Below.cell h (p := ⟨G, k, none⟩) sG).trans cG
                go_simp⟩) hHeld ?_
              simp only [Act.put, List.setIfInBounds_toArray, List.set_cons_zero, List.set_cons_succ]
              refine held_take 4 (some 88) (.bool true) rfl rfl (by kernel_rfl) (by kernel_rfl) (by kernel_rfl) (fun _ _ _ h => h) (Or.inl ⟨rfl, fun w' h => by go_simp⟩) hHeld ?_
              simp only [Act.put, List.setIfInBounds_toArray, List.set_cons_zero, List.set_cons_succ]
              refine held_take 5 (some 89) (.pointer (some ⟨g, 0, none⟩)) rfl rfl (by kernel_rfl) (by kernel_rfl) (by kernel_rfl) (fun _ _ _ h => h) (Or.inl ⟨rfl, fun w' h => by go_simp⟩) hHeld ?_
              simp only [Act.put, List.setIfInBounds_toArray, List.set_cons_zero, List.set_cons_succ]
              refine held_take 6 (some 90) (.slice (some ⟨b, o, none⟩) l.length c) rfl rfl (by kernel_rfl) (by kernel_rfl) (by kernel_rfl) (fun _ _ _ h => h) (Or.inl ⟨rfl, fun w' h => by go_simp⟩) hHeld ?_
              simp only [Act.put, List.setIfInBounds_toArray, List.set_cons_zero, List.set_cons_succ]
              refine held_take 7 (some 91) (.int .i64 k) rfl rfl (by kernel_rfl) (by kernel_rfl) (by kernel_rfl) (fun _ _ _ h => h) (Or.inl ⟨rfl, fun w' h => by go_simp⟩) hHeld ?_
              simp only [Act.put, List.setIfInBounds_toArray, List.set_cons_zero, List.set_cons_succ]
              refine held_take 8 (some 92) (.pointer (some ⟨b, o + k * 31, none⟩)) rfl rfl (by kernel_rfl) (by kernel_rfl) (by kernel_rfl) (fun _ _ _ h => h) (Or.inl ⟨rfl, fun w' h => by go_simp⟩) hHeld ?_
              simp only [Act.put, List.setIfInBounds_toArray, List.set_cons_zero, List.set_cons_succ]
              refine held_take 9 (some 93) (.agg (labA y)) rfl rfl (by kernel_rfl) (by kernel_rfl) (by kernel_rfl) (fun _ _ _ h => h) (yieldsIf_load_mid rfl 25 (.tmp 92) rfl b (o + k * 31) rfl (labL y) _ (fun w' h => range_below RY.out sB h) hu25 rfl (info25L y)) hHeld ?_
              simp only [Act.put, List.setIfInBounds_toArray, List.set_cons_zero, List.set_cons_succ]
              refine held_take 10 (some 94) (.slice (some ⟨b, o, none⟩) l.length c) rfl rfl (by kernel_rfl) (by kernel_rfl) (by kernel_rfl) (fun _ _ _ h => h) (Or.inl ⟨rfl, fun w' h => by go_simp⟩) hHeld ?_
              simp only [Act.put, List.setIfInBounds_toArray, List.set_cons_zero, List.set_cons_succ]
              refine held_take 11 (some 95) (.int .i64 k) rfl rfl (by kernel_rfl) (by kernel_rfl) (by kernel_rfl) (fun _ _ _ h => h) (Or.inl ⟨rfl, fun w' h => by go_simp⟩) hHeld ?_
              simp only [Act.put, List.setIfInBounds_toArray, List.set_cons_zero, List.set_cons_succ]
              refine held_take 12 (some 96) (.pointer (some ⟨b, o + k * 31, none⟩)) rfl rfl (by kernel_rfl) (by kernel_rfl) (by kernel_rfl) (fun _ _ _ h => h) (Or.inl ⟨rfl, fun w' h => by go_simp⟩) hHeld ?_
              simp only [Act.put, List.setIfInBounds_toArray, List.set_cons_zero, List.set_cons_succ]
              refine held_take 13 (some 97) (.agg (labA y)) rfl rfl (by kernel_rfl) (by kernel_rfl) (by kernel_rfl) (fun _ _ _ h => h) (yieldsIf_load_mid rfl 25 (.tmp 96) rfl b (o + k * 31) rfl (labL y) _ (fun w' h => range_below RY.out sB h) hu25 rfl (info25L y)) hHeld ?_
              simp only [Act.put, List.setIfInBounds_toArray, List.set_cons_zero, List.set_cons_succ]
              refine held_take 15 (some 99) (.int .i64 k) rfl rfl (by kernel_rfl) (by kernel_rfl) (by kernel_rfl) (fun _ _ _ h => h) (Or.inl ⟨rfl, fun w' h => by go_simp⟩) hHeld ?_
              simp only [Act.put, List.setIfInBounds_toArray, List.set_cons_zero, List.set_cons_succ]
              refine wpAnyH_ready (rs := [14, 16]) (by kernel_rfl) (by simp) (AllReadyH.cons rfl (fun K hK => ?_) (AllReadyH.cons rfl (fun K hK => ?_) AllReadyH.nil))
              · refine st_call (some 98) 35 #[.pointer (some ⟨g, 0, none⟩), .agg (labA y), .agg (labA y)] rfl rfl (by go_simp) ?_
                refine (within35 B g l y y _ (HT.out.below hHeld) hl hoy.2 hlen).mono ?_
                rintro e w1 ⟨v1, rfl, ho1, hb1⟩
                have hh1 := bel_trans hHeld hb1
                rw [HIN.out] at ho1
                obtain ⟨A1, c1, rfl, hi1⟩ := ints_of_own ho1
                refine ⟨_, rfl, ?_⟩
                refine hK.out _ _ hh1 (fun hHeld => ?_)
                clear hK K
                simp only [Act.put, List.setIfInBounds_toArray, List.set_cons_zero, List.set_cons_succ]
                refine held_op 16 (some 100) (.slice (some ⟨w1.heap.size, 0, none⟩) 1 1) (w' := w1.alloc (.cells #[.int .i64 k] 3)) (by kernel_rfl) rfl rfl rfl (by go_simp) (bel_alloc hHeld _) ?_
                simp only [Act.put, List.setIfInBounds_toArray, List.set_cons_zero, List.set_cons_succ]
                have hHeld : Below wr.heap.size wr (w1.alloc (.cells #[.int .i64 k] 3)) := bel_alloc hHeld _
                refine held_call 17 (some 101) 34 #[.slice A1 1 c1, .slice (some ⟨w1.heap.size, 0, none⟩) 1 1] (by kernel_rfl) rfl rfl rfl (by go_simp) ?_
                refine (ints34t [k] A1 (some ⟨w1.heap.size, 0, none⟩) c1 1 _ (hi1.below (bel_alloc (Below.refl _ _) _)) (one_at w1 k) (by simp)).mono ?_
                rintro e w5 ⟨rfl, hb5⟩
                have hHeld := bel_trans hHeld hb5
                refine ⟨_, rfl, hHeld, ?_⟩
                simp only [Act.put, List.setIfInBounds_toArray, List.set_cons_zero, List.set_cons_succ]
                refine held_take 18 (some 102) (.bool true) rfl rfl (by kernel_rfl) (by kernel_rfl) (by kernel_rfl) (fun _ _ _ h => h) (Or.inl ⟨rfl, fun w' h => by go_simp⟩) hHeld ?_
                simp only [Act.put, List.setIfInBounds_toArray, List.set_cons_zero, List.set_cons_succ]
                refine held_op 19 (some 4) (.bool true) (w' := w5) (by kernel_rfl) rfl rfl rfl (by go_simp) hHeld ?_
                refine wpAnyH_done (by kernel_rfl) ?_ _
                simp only [Act.put, List.setIfInBounds_toArray, List.set_cons_zero, List.set_cons_succ]
                go_wp2_with fail
                go_ret
                exact ⟨rfl, below_then BW0.out BW0.out.size hHeld⟩
              · refine st_val (some 100) (.slice (some ⟨wr.heap.size, 0, none⟩) 1 1) (w' := (wr.alloc (.cells #[.int .i64 k] 3)).drew) rfl rfl (by go_simp) ?_
                refine hK.out _ _ (bel_alloc (Below.refl wr.heap.size wr) _).drew (fun hHeld => ?_)
                clear hK K
                simp only [Act.put, List.setIfInBounds_toArray, List.set_cons_zero, List.set_cons_succ]
                refine held_call 14 (some 98) 35 #[.pointer (some ⟨g, 0, none⟩), .agg (labA y), .agg (labA y)] (by kernel_rfl) rfl rfl rfl (by go_simp) ?_
                refine (within35 B g l y y _ (HT.out.below hHeld) hl hoy.2 hlen).mono ?_
                rintro e w1 ⟨v1, rfl, ho1, hb1⟩
                have hHeld := bel_trans hHeld hb1
                rw [HIN.out] at ho1
                obtain ⟨A1, c1, rfl, hi1⟩ := ints_of_own ho1
                refine ⟨_, rfl, hHeld, ?_⟩
                simp only [Act.put, List.setIfInBounds_toArray, List.set_cons_zero, List.set_cons_succ]
                refine held_call 17 (some 101) 34 #[.slice A1 1 c1, .slice (some ⟨wr.heap.size, 0, none⟩) 1 1] (by kernel_rfl) rfl rfl rfl (by go_simp) ?_
                refine (ints34t [k] A1 (some ⟨wr.heap.size, 0, none⟩) c1 1 _ hi1 (IntsA.below (w := (wr.alloc (.cells #[.int .i64 k] 3)).drew) (one_at wr k) hb1) (by simp)).mono ?_
                rintro e w5 ⟨rfl, hb5⟩
                have hHeld := bel_trans hHeld hb5
                refine ⟨_, rfl, hHeld, ?_⟩
                simp only [Act.put, List.setIfInBounds_toArray, List.set_cons_zero, List.set_cons_succ]
                refine held_take 18 (some 102) (.bool true) rfl rfl (by kernel_rfl) (by kernel_rfl) (by kernel_rfl) (fun _ _ _ h => h) (Or.inl ⟨rfl, fun w' h => by go_simp⟩) hHeld ?_
                simp only [Act.put, List.setIfInBounds_toArray, List.set_cons_zero, List.set_cons_succ]
                refine held_op 19 (some 4) (.bool true) (w' := w5) (by kernel_rfl) rfl rfl rfl (by go_simp) hHeld ?_
                refine wpAnyH_done (by kernel_rfl) ?_ _
                simp only [Act.put, List.setIfInBounds_toArray, List.set_cons_zero, List.set_cons_succ]
                go_wp2_with fail
                go_ret
                exact ⟨rfl, below_then BW0.out BW0.out.size hHeld⟩
    · have hcase : decide (n < 0) = true ∨ (decide (n < 0) = false ∧ decide ((l.length : Int) ≤ n) = true) := by
        simp only [decide_eq_false_iff_not, decide_eq_true_eq]
        omega
      clear hn HN HD
      rcases hcase with e1 | ⟨e1, e2⟩
      all_goals
        go_enter Try.func10, Try.ntmps10
        go_wp2_with (first
          | (go_at_call 31; refine (HK.out _).mono ?_; rintro e w1 ⟨rfl, hb⟩; have HB1 := Lib.hid hb; clear hb)
          | (go_at_call 32; refine (HN2.out _ HB1.out).mono ?_; rintro e w2 ⟨g, rfl, ht, hb⟩; have HB2 := Lib.hid (below_then HB1.out HB1.out.size hb); clear hb ht))
        go_ret
        exact ⟨rfl, HB2.out⟩
  · have HE := Lib.hid he
    have HN2 := Lib.hid (show ∀ w', Below w.heap.size w w' → Calls Try.prog 32 #[.slice A l.length c] w' fun e w1 => e = .returned (.tuple #[.pointer none, .int .i64 (chkK l), .int .i64 (chkE l)]) ∧ Below w'.heap.size w' w1 from fun w' hb => (HN.out w' hb).mono fun e w1 hh => by
      obtain ⟨p, rfl, hb1, h0, _⟩ := hh
      exact ⟨by rw [h0 HE.out], hb1⟩)
    clear HN HE
    generalize chkK l = kk at HN2
    generalize chkE l = ee at HN2 he
    have de : decide ((ee : Int) = 0) = false := decide_eq_false (by omega)
    go_enter Try.func10, Try.ntmps10
    go_wp2_with (first
      | (go_at_call 31; refine (HK.out _).mono ?_; rintro e w1 ⟨rfl, hb⟩; have HB1 := Lib.hid hb; clear hb)
      | (go_at_call 32; refine (HN2.out _ HB1.out).mono ?_; rintro e wr ⟨rfl, hb⟩; have HB2 := Lib.hid (below_then HB1.out HB1.out.size hb); clear hb))
    go_ret
    exact ⟨rfl, HB2.out⟩
theorem below10 (l : List Lab) (n : Int) (A : Option Addr) (c : Nat) (w : World) (hA : SlA w A l) (hl : ∀ y ∈ l, LabOK y) :
    Calls Try.prog 10 #[.slice A l.length c, .int .i64 n] w fun e w' => e = .returned (.bool true) ∧ Below w.heap.size w w' := by
  by_cases h : 40 < l.length
  · exact below10_long l n A c w h
  · exact below10_ok l n A c w hA hl (by omega)
end Go.Proofs.Ytifmckhabkghcaa.P
