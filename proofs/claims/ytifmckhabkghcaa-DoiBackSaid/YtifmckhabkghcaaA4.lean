/- Contracts of the references' Has and Put, of cats.Meet and Within. For sets of categories. -/
import Derived.Test.YtifmckhabkghcaaA3
import Derived.DeepKeys
import Derived.Laws.StructEq
namespace Go.Proofs.Ytifmckhabkghcaa.P
open Go.RowKit

theorem has_div (S n : Nat) : ((bits .and .u8 ((byteN S (n / 8) : Int) / 2 ^ (7 - n % 8)) 1) == 1) = S.testBit n := by
  have h1 : ((byteN S (n / 8) : Int) / 2 ^ (7 - n % 8)) = ((byteN S (n / 8) / 2 ^ (7 - n % 8) : Nat) : Int) := by simp
  have hl : byteN S (n / 8) / 2 ^ (7 - n % 8) < 256 := Nat.lt_of_le_of_lt (Nat.div_le_self _ _) (byteN_lt _ _)
  rw [h1, show (1 : Int) = ((1 : Nat) : Int) from rfl, and8 _ 1 hl (by decide), Nat.and_one_is_mod, ← has_shr]
  rw [Bool.eq_iff_iff]
  simp
  omega

set_option maxRecDepth 100000 in
set_option maxHeartbeats 1000000 in
theorem has16 (S : Nat) (k : Int) (w : World) : Calls Try.prog 16 #[.agg (catA S), .int .i64 k] w fun e w' => e = .returned (.bool (hasB S k)) ∧ Below w.heap.size w w' := by
  have hu23 := Try.underlying23
  cases hr : rightB k with
  | false =>
    have HE := Lib.hid (show hasB S k = false by simp [hasB, hr])
    have hk : k < 0 ∨ 240 ≤ k := by simp [rightB] at hr; omega
    clear hr
    rcases hk with hk | hk
    all_goals
      go_enter Try.func16, Try.ntmps16
      go_wp2_with fail
      go_ret
      exact ⟨ret_bool HE.out.symm, bel_alloc (Below.refl _ _) _⟩
  | true =>
    obtain ⟨k0, k1⟩ : 0 ≤ k ∧ k ≤ 239 := by simpa [rightB] using hr
    obtain ⟨n, rfl⟩ : ∃ n : Nat, k = n := ⟨k.toNat, by omega⟩
    have HE := Lib.hid (show hasB S n = S.testBit n by simp [hasB, hr])
    have c1 := catA_get S (n / 8) (by omega)
    have hm := Nat.mod_lt n (show 8 > 0 by decide)
    have d0 : (0 : Int) ≤ (n : Int) / 8 := by omega
    have d1 : (n : Int) / 8 < 30 := by omega
    have d2 : (0 : Int) ≤ 7 - (n : Int) % 8 := by omega
    have d3 : (7 : Int) - (n : Int) % 8 ≤ 7 := by omega
    have d4 : (n : Int) < 240 := by omega
    have d5 : ((7 : Int) - (n : Int) % 8).toNat = 7 - n % 8 := by omega
    clear hr
    go_enter Try.func16, Try.ntmps16
    go_wp2_with fail
    go_ret
    exact ⟨ret_bool (by rw [HE.out, ← has_div]), bel_alloc (Below.refl _ _) _⟩
theorem ins_self {S n : Nat} (h : S.testBit n = true) : ins S n = S := by
  apply Nat.eq_of_testBit_eq
  intro i
  rw [ins_bit]
  by_cases e : i = n
  · subst e; simp [h]
  · simp [e]
theorem catA_add (S n : Nat) (h : S.testBit n = false) : (catA S).setIfInBounds (n / 8) (.int .u8 ((byteN S (n / 8) : Int) + bitN n)) = catA (ins S n) := by
  rw [← catA_ins, or8 _ _ (byteN_lt _ _) (bitN_lt _), or_add S n h]
  simp
theorem add_lt (S n : Nat) (h : S.testBit n = false) : byteN S (n / 8) + bitN n < 256 := by
  rw [← or_add S n h]
  exact Nat.or_lt_two_pow (n := 8) (byteN_lt _ _) (bitN_lt _)

set_option maxRecDepth 100000 in
set_option maxHeartbeats 2000000 in
theorem put48 (S : Nat) (k : Int) (w : World) : Calls Try.prog 48 #[.agg (catA S), .int .i64 k, .bool true] w fun e w' => e = .returned (.agg (catA (withS S k))) ∧ Below w.heap.size w w' := by
  have hu23 := Try.underlying23
  have H0 := Lib.hid (heap_alloc2_old w (.cells (catA S) 23) (.cells z23 23))
  have H1 := Lib.hid (heap_alloc2_new w (.cells (catA S) 23) (.cells z23 23))
  have HB := Lib.hid (bel_alloc (bel_alloc (Below.refl w.heap.size w) (.cells (catA S) 23)) (.cells z23 23))
  unfold z23 at H0 H1 HB
  cases hr : rightB k with
  | false =>
    have HE := Lib.hid (show withS S k = S by simp [withS, hr])
    have hk : k < 0 ∨ k > 239 := by simp [rightB] at hr; omega
    clear hr
    rcases hk with hk | hk
    all_goals
      go_enter Try.func48, Try.ntmps48
      go_wp2_with (first | (refine wpList_load_row rfl 23 (.tmp 3) rfl w.heap.size rfl 23 (catA S) (0, 0) _ H0.out hu23 rfl (info23 _) ?_) | (refine wpList_store_row rfl 23 (.tmp 6) (.tmp 20) rfl (w.heap.size + 1) (catA S) rfl rfl 23 z23 H1.out (info23 _) (by rw [catA_size]; rfl) (all_oneCell_toArray (catL_one _)) ?_))
      refine bodyPost_ret (results_cell_row rfl _ _ (w.heap.size + 1) 23 (catA S) (0, 0) _ rfl (setRow_heap _ (w.heap.size + 1) _ _ 23 _ H1.out) hu23 rfl (info23 _)) rfl ⟨by rw [HE.out], bel_setRow HB.out _ _ (by omega)⟩
  | true =>
    obtain ⟨k0, k1⟩ : 0 ≤ k ∧ k ≤ 239 := by simpa [rightB] using hr
    obtain ⟨n, rfl⟩ : ∃ n : Nat, k = n := ⟨k.toNat, by omega⟩
    have HR := Lib.hid hr
    have HH := Lib.hid (has16 S n)
    have g0 : decide ((n : Int) < 0) = false := decide_eq_false (by omega)
    have g1 : decide ((239 : Int) < (n : Int)) = false := decide_eq_false (by omega)
    clear hr
    cases hb : S.testBit n with
    | true =>
      have HE := Lib.hid (show withS S n = S by simp [withS, HR.out, ins_self hb])
      have HV := Lib.hid (show hasB S n = true by simp [hasB, HR.out, hb])
      rw [HV.out] at HH
      clear hb
      go_enter Try.func48, Try.ntmps48
      go_wp2_with (first | (refine load_row_g 23 (.tmp 3) rfl w.heap.size rfl 23 (catA S) (0, 0) _ H0.out hu23 rfl (info23 _) rfl ?_) | (go_at_call 16; refine (HH.out _).mono ?_; rintro e w4 ⟨rfl, hb'⟩; have HB' := Lib.hid hb'; have K0 := Lib.hid (blk_below H0.out hb'); have K1 := Lib.hid (blk_below H1.out hb'); clear hb') | (refine wpList_load_row rfl 23 (.tmp 3) rfl w.heap.size rfl 23 (catA S) (0, 0) _ K0.out hu23 rfl (info23 _) ?_) | (refine wpList_store_row rfl 23 (.tmp 6) (.tmp 20) rfl (w.heap.size + 1) (catA S) rfl rfl 23 z23 K1.out (info23 _) (by rw [catA_size]; rfl) (all_oneCell_toArray (catL_one _)) ?_))
      refine bodyPost_ret (results_cell_row rfl _ _ (w.heap.size + 1) 23 (catA S) (0, 0) _ rfl (setRow_heap _ (w.heap.size + 1) _ _ 23 _ K1.out) hu23 rfl (info23 _)) rfl ⟨by rw [HE.out], bel_setRow (below_then HB.out HB.out.size HB'.out) _ _ (by omega)⟩
    | false =>
      have HE := Lib.hid (show withS S n = ins S n by simp [withS, HR.out])
      have HV := Lib.hid (show hasB S n = false by simp [hasB, hb])
      have HA := Lib.hid (catA_add S n hb)
      have hlt := add_lt S n hb
      have c1 := catA_get S (n / 8) (by omega)
      have hm := Nat.mod_lt n (show 8 > 0 by decide)
      have q1 : Int.tdiv (n : Int) 8 = (n : Int) / 8 := Int.tdiv_eq_ediv_of_nonneg (by omega)
      have q2 : IntKind.i64.wrap (Int.tdiv (n : Int) 8) = (n : Int) / 8 := by rw [q1]; exact IntWalk.i64_in _ (by omega)
      have q3 : IntKind.i64.wrap ((n : Int) / 8) = (n : Int) / 8 := IntWalk.i64_in _ (by omega)
      have q4 : ((n : Int) / 8).toNat = n / 8 := by omega
      have q5 : Int.tmod (n : Int) 8 = (n : Int) % 8 := Int.tmod_eq_emod_of_nonneg (by omega)
      have q6 : IntKind.i64.wrap ((n : Int) % 8) = (n : Int) % 8 := IntWalk.i64_in _ (by omega)
      have q7 : IntKind.i64.wrap (7 - (n : Int) % 8) = 7 - (n : Int) % 8 := IntWalk.i64_in _ (by omega)
      have q8 : ((7 : Int) - (n : Int) % 8).toNat = 7 - n % 8 := by omega
      have d0 : (0 : Int) ≤ (n : Int) / 8 := by omega
      have d1 : (n : Int) / 8 < 30 := by omega
      have d2 : (0 : Int) ≤ 7 - (n : Int) % 8 := by omega
      have d3 : (7 : Int) - (n : Int) % 8 ≤ 7 := by omega
      rw [HV.out] at HH
      clear hb
      go_enter Try.func48, Try.ntmps48
      go_wp2_with (first | (refine load_row_g 23 (.tmp 3) rfl w.heap.size rfl 23 (catA S) (0, 0) _ H0.out hu23 rfl (info23 _) rfl ?_) | (go_at_call 16; refine (HH.out _).mono ?_; rintro e w4 ⟨rfl, hb'⟩; have HB' := Lib.hid hb'; have K0 := Lib.hid (blk_below H0.out hb'); have K1 := Lib.hid (blk_below H1.out hb'); have c2 : w4.cell? ⟨w.heap.size, n / 8, none⟩ = some (.int .u8 (byteN S (n / 8))) := (cell_of_row _ _ _ _ _ _ K0.out).trans c1; have f2 : w4.frozen? ⟨w.heap.size, n / 8, none⟩ = false := frozen_of_row _ _ _ _ _ K0.out; clear hb'))
      go_region
      have e1 : (((byteN S (n / 8) : Int) + 2 ^ (7 - n % 8)) % 256) = (byteN S (n / 8) : Int) + bitN n := by
        have h2 : ((2 : Int) ^ (7 - n % 8)) = (bitN n : Int) := by simp [bitN]
        rw [h2]
        omega
      rw [e1]
      have K2 := Lib.hid (show ((w4.setCell ⟨w.heap.size, n / 8, none⟩ (.int .u8 ((byteN S (n / 8) : Int) + bitN n))).drew).heap[w.heap.size]? = some (.cells (catA (ins S n)) 23 (0, 0)) by
        rw [← HA.out]
        exact heap_setCell_same w4 w.heap.size (n / 8) _ 23 _ K0.out)
      have K3 := Lib.hid (show ((w4.setCell ⟨w.heap.size, n / 8, none⟩ (.int .u8 ((byteN S (n / 8) : Int) + bitN n))).drew).heap[w.heap.size + 1]? = some (.cells z23 23 (0, 0)) from (heap_setCell_other w4 _ _ _ (by simp)).trans K1.out)
      have B3 := Lib.hid (show Below w.heap.size w (w4.setCell ⟨w.heap.size, n / 8, none⟩ (.int .u8 ((byteN S (n / 8) : Int) + bitN n))).drew from ((below_then HB.out HB.out.size HB'.out).setCell (Nat.le_refl _) _).drew)
      clear e1 c2 f2
      generalize (w4.setCell ⟨w.heap.size, n / 8, none⟩ (.int .u8 ((byteN S (n / 8) : Int) + bitN n))).drew = w5 at K2 K3 B3 ⊢
      go_wp2_with (first | (refine wpList_load_row rfl 23 (.tmp 3) rfl w.heap.size rfl 23 (catA (ins S n)) (0, 0) _ K2.out hu23 rfl (info23 _) ?_) | (refine wpList_store_row rfl 23 (.tmp 6) (.tmp 46) rfl (w.heap.size + 1) (catA (ins S n)) rfl rfl 23 z23 K3.out (info23 _) (by rw [catA_size]; rfl) (all_oneCell_toArray (catL_one _)) ?_))
      refine bodyPost_ret (results_cell_row rfl _ _ (w.heap.size + 1) 23 (catA (ins S n)) (0, 0) _ rfl (setRow_heap _ (w.heap.size + 1) _ _ 23 _ K3.out) hu23 rfl (info23 _)) rfl ⟨by rw [HE.out], bel_setRow B3.out _ _ (by omega)⟩

/-- A set is told apart by its bytes as keys. -/
def catK (S : Nat) : List Lit := (List.range 30).map fun j => .int .u8 (byteN S j)
theorem mapM_some {α β : Type} {f : α → Option β} {g : α → β} : ∀ (l : List α), (∀ x ∈ l, f x = some (g x)) → l.mapM f = some (l.map g)
  | [], _ => rfl
  | x :: l, h => by
    rw [List.mapM_cons, h x (by simp), mapM_some l (fun y hy => h y (by simp [hy]))]
    rfl
theorem keyLits23 (S d : Nat) : Try.prog.keyLits (d + 2) 23 (catL S) = some (catK S) := by
  have hc : Try.prog.cellsOf 23 = 30 := by kernel_rfl
  have h5 : Try.prog.cellsOf 5 = 1 := by kernel_rfl
  unfold Program.keyLits
  rw [Try.underlying23]
  simp only [hc, h5, catL_len, if_true, Nat.mul_one]
  rw [mapM_some (g := fun j => [Lit.int .u8 (byteN S j)]) _ (fun j hj => by
    have hj : j < 30 := by simpa using hj
    have e : ((catL S).drop j).take 1 = [.int .u8 (byteN S j)] := by
      apply List.ext_getElem?
      intro i
      cases i with
      | zero => rw [List.getElem?_take_of_lt (by decide), List.getElem?_drop]; exact catL_get S j hj
      | succ i => rw [List.getElem?_eq_none (by simp; omega), List.getElem?_eq_none (by simp)]
    rw [e]
    unfold Program.keyLits
    rw [Try.underlying5]
    have := byteN_lt S j
    have hw : (Lit.int IntKind.u8 (byteN S j)).wf = true := by simp [Lit.wf, IntKind.min, IntKind.max, IntKind.signed, IntKind.bits]; omega
    simp [hw])]
  simp only [Option.map_some, Option.some.injEq]
  unfold catK
  generalize List.range 30 = l
  induction l with
  | nil => rfl
  | cons x l ih => simp [ih]
theorem catK_inj {S T : Nat} (hS : S < 2 ^ 240) (hT : T < 2 ^ 240) (h : catK S = catK T) : S = T := by
  refine set_ext hS hT fun j hj => ?_
  have h1 : (catK S)[j]? = some (.int .u8 (byteN S j)) := by simp [catK, hj]
  have h2 : (catK T)[j]? = some (.int .u8 (byteN T j)) := by simp [catK, hj]
  rw [h, h2] at h1
  simp at h1
  omega
set_option maxRecDepth 100000 in
theorem eq23 {S T : Nat} (hS : S < 2 ^ 240) (hT : T < 2 ^ 240) (w : World) : (Op.equalIn 10000 23 (.agg (catA S)) (.agg (catA T))).run Try.prog w = .ok (decide (S = T)) w := by
  have hc : Try.prog.cellsOf 23 = 30 := by kernel_rfl
  have fm : ∀ S, (Value.agg (catA S)).formed Try.prog 23 = true := fun S => by simp [Value.formed, Try.underlying23, catA_size, hc]
  obtain ⟨r, hr, hi⟩ := run_equalIn_deep (P := Try.prog) 9998 2 23 (by kernel_rfl) w 2 2 (.agg (catA S)) (.agg (catA T)) _ _ (fm S) (fm T) (keyLits23 S 0) (keyLits23 T 0)
  rw [hr]
  congr 1
  rw [Bool.eq_iff_iff, hi]
  simp
  exact ⟨fun h => catK_inj hS hT h, fun h => by rw [h]⟩
theorem gd23 (op : BinOp) (a b : Operand) (xs ys : Array Value) (w : World) : (eqGuard op 23 a b (.agg xs) (.agg ys)).run Try.prog w = .ok () w := run_eqGuard_agg w op 23 a b xs ys (by kernel_rfl)
end Go.Proofs.Ytifmckhabkghcaa.P
