/- Contract of the reference's Nodes (layer 14). -/
import Derived.Test.YtfpbcdlfcaglgaaNV
namespace Go.Proofs.Ytfpbcdlfcaglgaa.P
open Go.RowKit

theorem xor_zero {x y m : Nat} (hx : x < 2 ^ 32) (hy : y < 2 ^ 32) (hm : m < 32) : (y ^^^ x) / 2 ^ (31 - m) = 0 ↔ pth x (m + 1) = pth y (m + 1) := by
  rw [pth_eq]
  constructor
  · intro h
    refine ⟨rfl, fun t ht => ?_⟩
    have h1 : ((y ^^^ x) / 2 ^ (31 - m)).testBit (m - t) = false := by rw [h]; exact Nat.zero_testBit _
    rw [Nat.testBit_div_two_pow, show m - t + (31 - m) = 31 - t by omega, Nat.testBit_xor] at h1
    show x.testBit (31 - t) = y.testBit (31 - t)
    revert h1
    cases x.testBit (31 - t) <;> cases y.testBit (31 - t) <;> simp
  · rintro ⟨_, h⟩
    apply Nat.eq_of_testBit_eq
    intro j
    rw [Nat.testBit_div_two_pow, Nat.testBit_xor, Nat.zero_testBit]
    by_cases hj : j + (31 - m) < 32
    · have := h (31 - (j + (31 - m))) (by omega)
      unfold bt at this
      rw [show 31 - (31 - (j + (31 - m))) = j + (31 - m) by omega] at this
      rw [this]; simp
    · have e : ∀ z : Nat, z < 2 ^ 32 → z.testBit (j + (31 - m)) = false := fun z hz => Nat.testBit_lt_two_pow (Nat.lt_of_lt_of_le hz (Nat.pow_le_pow_right (by omega) (by omega)))
      rw [e _ hx, e _ hy]; rfl
theorem pref_iff (x y : Rt) (m : Nat) : pth x.ad (m + 1) <+: ofR y ↔ (m + 1 : Int) ≤ y.bt ∧ pth x.ad (m + 1) = pth y.ad (m + 1) := by
  rw [ofR, pth_prefix, pth_len]
  refine and_congr ?_ Iff.rfl
  omega
def seenB (old : List Rt) (x : Rt) (m k : Nat) : Bool := (old.take k).any fun y => decide (pth x.ad (m + 1) <+: ofR y)
theorem seenB_succ {old : List Rt} {x y : Rt} {m k : Nat} (hy : old[k]? = some y) : seenB old x m (k + 1) = (seenB old x m k || decide (pth x.ad (m + 1) <+: ofR y)) := by
  obtain ⟨h1, h2⟩ := List.getElem?_eq_some_iff.1 hy
  rw [seenB, List.take_succ_eq_append_getElem h1, h2, List.any_append]
  simp [seenB]
def cntP (old : List Rt) (x : Rt) (m : Nat) : Nat := (((List.range m).map fun b => pth x.ad (b + 1)).filter fun p => !(old.any fun y => decide (p <+: ofR y))).length
theorem cntP_succ (old : List Rt) (x : Rt) (m : Nat) : cntP old x (m + 1) = cntP old x m + if seenB old x m old.length = true then 0 else 1 := by
  unfold cntP seenB
  rw [List.range_succ, List.map_append, List.filter_append, List.length_append, List.take_length]
  congr 1
  simp only [List.map_cons, List.map_nil, List.filter_cons, List.filter_nil]
  cases (old.any fun y => decide (pth x.ad (m + 1) <+: ofR y)) <;> rfl
theorem cntP_le (old : List Rt) (x : Rt) (m : Nat) : cntP old x m ≤ m := by
  unfold cntP
  refine Nat.le_trans (List.length_filter_le _ _) ?_
  simp
theorem pfx_app : ∀ (l old : List Rt) (x : Rt), pfx old (l ++ [x]) = pfx old l ++ newP (old ++ l) x := by
  intro l
  induction l with
  | nil => intro old x; simp [pfx]
  | cons y l ih => intro old x; rw [List.cons_append, pfx, ih, pfx]; simp [List.append_assoc]
/-- How many nodes the first i routes need. -/
def ndI (l : List Rt) (i : Nat) : Nat := ndsN (l.take i)
theorem ndI_succ {l : List Rt} {i : Nat} {x : Rt} (hx : l[i]? = some x) : ndI l (i + 1) = ndI l i + cntP (l.take i) x x.bt.toNat := by
  obtain ⟨h1, h2⟩ := List.getElem?_eq_some_iff.1 hx
  rw [ndI, List.take_succ_eq_append_getElem h1, h2, ndsN, pfx_app, List.length_append, List.nil_append, ← Nat.add_assoc]
  rfl
theorem ndI_le {l : List Rt} (hok : OkL l) : ∀ i, i ≤ l.length → ndI l i ≤ 1 + 32 * i := by
  intro i
  induction i with
  | zero => intro _; exact Nat.le_refl _
  | succ i ih =>
    intro hi
    have hx : l[i]? = some l[i] := List.getElem?_eq_getElem (by omega)
    rw [ndI_succ hx]
    have h1 := ih (by omega)
    have h2 := cntP_le (l.take i) l[i] (l[i]).bt.toNat
    obtain ⟨n, hn, hn32, _⟩ := rightB_le (hok _ (List.mem_of_getElem? hx)).2
    omega
theorem xor32 (a b : Nat) (ha : a < 2 ^ 32) (hb : b < 2 ^ 32) : Go.bits .xor .u32 a b = ((a ^^^ b : Nat) : Int) := by
  simp only [bits, BitVec.ofInt_natCast, BitVec.toNat_xor, BitVec.toNat_ofNat]
  rw [show IntKind.u32.bits = 32 from rfl, Nat.mod_eq_of_lt ha, Nat.mod_eq_of_lt hb]
  exact wraps_u32 _ (Int.natCast_nonneg _) (by exact_mod_cast Nat.xor_lt_two_pow ha hb)
theorem xor_beq (a s : Nat) : ((a : Int) / 2 ^ s == 0) = decide (a / 2 ^ s = 0) := by
  have e : (a : Int) / 2 ^ s = ((a / 2 ^ s : Nat) : Int) := by simp
  rw [e]
  by_cases h : a / 2 ^ s = 0
  · rw [h]; rfl
  · rw [decide_eq_false h, beq_eq_false_iff_ne]
    omega
set_option maxHeartbeats 4000000 in
theorem nodes21 (l : List Rt) (A : Option Addr) (c : Nat) (w : World) (hA : RtsA w A l) (hl : l.length ≤ 1000) (hok : OkL l) :
    Calls Try.prog 21 #[.slice A l.length c] w fun e w' => e = .returned (.int .i64 (ndsN l)) ∧ Below w.heap.size w w' := by
  have hu22 := Try.underlying22
  have hu30 := Try.underlying30
  have hu32 := Try.underlying32
  have HA := Lib.hid hA
  have HOK := Lib.hid hok
  have HLE := Lib.hid (ndI_le hok)
  clear hA hok
  go_enter Try.func21, Try.ntmps21
  go_wp2_with fail
  go_loopg [3, 4, 5, 6, 7] (l.length + 1) (fun gg s3 s4 s5 s6 s7 wr => ∃ i : Nat, i ≤ l.length ∧ l.length + 1 - i ≤ gg ∧ s3 = .int .i64 (ndI l i) ∧ s4 = .int .i64 i ∧ Hid (Below w.heap.size w wr))
  case atStart => exact ⟨0, Nat.zero_le _, Nat.sub_le _ _, rfl, rfl, Below.refl _ _⟩
  case round =>
    obtain ⟨i, hi, hgg, rfl, rfl, BR⟩ := hrel
    by_cases hlt : i < l.length
    · have d1 : decide ((i : Int) < (l.length : Int)) = true := decide_eq_true (by omega)
      have d2 : (0 : Int) ≤ (i : Int) := by omega
      have d3 : (i : Int) < (l.length : Int) := by omega
      have hx : l[i]? = some l[i] := List.getElem?_eq_getElem hlt
      have HX := Lib.hid hx
      obtain ⟨b, o, rfl, _, hcc⟩ := HA.out (by omega)
      have HXO := Lib.hid (HOK.out _ (List.getElem_mem hlt))
      have hle := HLE.out i (by omega)
      have HSU := Lib.hid (ndI_succ hx)
      generalize l[i] = x at *
      obtain ⟨n, hn, hn32, _⟩ := rightB_le HXO.out.2
      have HN := Lib.hid hn
      have HCC := Lib.hid hcc
      have hcx := hcc i x hx
      have HSU := Lib.hid (show ndI l (i + 1) = ndI l i + cntP (l.take i) x n by rw [HSU.out, hn]; rfl)
      generalize ndI l i = base at *
      clear hx hcc hn
      go_wp2_with fail
      go_loopg [3, 5, 6, 7] 33 (fun gg s3 s5 s6 s7 wq => ∃ m : Nat, m ≤ n ∧ 33 - m ≤ gg ∧ s3 = .int .i64 ((base + cntP (l.take i) x m : Nat) : Int) ∧ s5 = .int .i64 ((m + 1 : Nat) : Int) ∧ Hid (Below w.heap.size w wq))
      case atStart => exact ⟨0, Nat.zero_le _, Nat.sub_le _ _, rfl, rfl, BR⟩
      case round =>
        obtain ⟨m, hm, hgm, rfl, rfl, BQ⟩ := hrel
        have hcm := cntP_le (l.take i) x m
        have HCS := Lib.hid (cntP_succ (l.take i) x m)
        have hli : (l.take i).length = i := by rw [List.length_take]; omega
        rw [hli] at HCS
        have y1 := cell_below (rg1 hcx) BQ.out
        rw [HN.out] at y1
        obtain ⟨cm, hcme⟩ : ∃ cm, cm = cntP (l.take i) x m := ⟨_, rfl⟩
        rw [← hcme] at hcm HCS ⊢
        have HCM := Lib.hid hcme
        clear hcme
        by_cases hmn : m < n
        · have e1 : decide (((m + 1 : Nat) : Int) ≤ (n : Int)) = true := decide_eq_true (by omega)
          have e2 : decide ((m : Int) + 1 ≤ (n : Int)) = true := decide_eq_true (by omega)
          clear hli
          go_wp2_with fail
          go_loopg [6, 7] 1001 (fun gg s6 s7 wp => ∃ k : Nat, k ≤ i ∧ 1001 - k ≤ gg ∧ s6 = .bool (seenB (l.take i) x m k) ∧ s7 = .int .i64 k ∧ Hid (Below w.heap.size w wp))
          case atStart => exact ⟨0, Nat.zero_le _, Nat.sub_le _ _, rfl, rfl, BQ⟩
          case round =>
            obtain ⟨k, hk, hgk, rfl, rfl, BP⟩ := hrel
            by_cases hki : k < i
            · have f1 : decide ((k : Int) < (i : Int)) = true := decide_eq_true (by omega)
              have f2 : (0 : Int) ≤ (k : Int) := by omega
              have f3 : (k : Int) < (l.length : Int) := by omega
              have hy : l[k]? = some l[k] := List.getElem?_eq_getElem (by omega)
              have hy2 : (l.take i)[k]? = some l[k] := by rw [List.getElem?_take, if_pos hki]; exact hy
              have HSS := Lib.hid (seenB_succ (x := x) (m := m) hy2)
              have hyo := (HOK.out _ (List.getElem_mem (show k < l.length by omega))).1
              have hcy := HCC.out k _ hy
              generalize l[k] = y at *
              have hpf : decide (pth x.ad (m + 1) <+: ofR y) = (decide (y.bt ≥ (m : Int) + 1) && decide ((y.ad ^^^ x.ad) / 2 ^ (31 - m) = 0)) := by
                rw [← Bool.decide_and]
                refine decide_eq_decide.2 ?_
                rw [pref_iff, xor_zero HXO.out.1 hyo (by omega)]
              rw [hpf] at HSS
              have j0 := cell_below (rg0 hcy) BP.out
              have j1 := cell_below (rg1 hcy) BP.out
              have i0 := cell_below (rg0 hcx) BP.out
              have hxr := xor32 y.ad x.ad hyo HXO.out.1
              clear hy hy2 hcy hpf
              cases hs : seenB (l.take i) x m k with
              | true =>
                rw [hs] at HSS
                clear hs
                go_wp2_with fail
                go_quiet (fail)
                go_wp2_with fail
                go_roundg (1001 - (k + 1))
                case measure => omega
                case rel => exact ⟨k + 1, hki, Nat.le_refl _, by rw [HSS.out]; rfl, by go_num, Lib.hid (bel_drewN BP.out _)⟩
              | false =>
                rw [hs] at HSS
                clear hs
                cases hb : decide (y.bt ≥ (m : Int) + 1) with
                | false =>
                  rw [hb] at HSS
                  go_wp2_with fail
                  go_quiet (fail)
                  go_wp2_with fail
                  go_roundg (1001 - (k + 1))
                  case measure => omega
                  case rel => exact ⟨k + 1, hki, Nat.le_refl _, by rw [HSS.out]; rfl, by go_num, Lib.hid (bel_drewN BP.out _)⟩
                | true =>
                  rw [hb] at HSS
                  go_wp2_with fail
                  go_quiet (fail)
                  go_wp2_with fail
                  go_roundg (1001 - (k + 1))
                  case measure => omega
                  case rel =>
                    refine ⟨k + 1, hki, Nat.le_refl _, ?_, by go_num, Lib.hid (bel_drewN BP.out _)⟩
                    rw [HSS.out, Bool.false_or, Bool.true_and]
                    refine congrArg Value.bool ?_
                    exact xor_beq _ _
            · have f1 : decide ((k : Int) < (i : Int)) = false := decide_eq_false (by omega)
              have hki2 : k = i := by omega
              subst hki2
              have hbb := HLE.out k (by omega)
              cases hs : seenB (l.take k) x m k with
              | true =>
                rw [hs] at HCS
                clear hs
                go_wp2_with fail
                go_roundg (33 - (m + 1))
                case measure => omega
                case rel => exact ⟨m + 1, hmn, Nat.le_refl _, by rw [HCS.out]; rfl, by go_num, BP⟩
              | false =>
                rw [hs] at HCS
                clear hs
                go_wp2_with fail
                go_roundg (33 - (m + 1))
                case measure => omega
                case rel => exact ⟨m + 1, hmn, Nat.le_refl _, by rw [HCS.out]; go_num, by go_num, BP⟩
        · have e1 : decide (((m + 1 : Nat) : Int) ≤ (n : Int)) = false := decide_eq_false (by omega)
          have e2 : decide ((m : Int) + 1 ≤ (n : Int)) = false := decide_eq_false (by omega)
          have hmn2 : m = n := by omega
          go_wp2_with fail
          go_roundg (l.length + 1 - (i + 1))
          case measure => omega
          case rel => exact ⟨i + 1, hlt, Nat.le_refl _, by rw [HSU.out, HCM.out, hmn2], by go_num, BQ⟩
    · have d1 : decide ((i : Int) < (l.length : Int)) = false := decide_eq_false (by omega)
      have HF := Lib.hid (show ndI l i = ndsN l by rw [ndI, List.take_of_length_le (by omega)])
      go_wp2_with fail
      go_ret
      exact ⟨ret_int (by rw [HF.out]), BR.out⟩
end Go.Proofs.Ytfpbcdlfcaglgaa.P
