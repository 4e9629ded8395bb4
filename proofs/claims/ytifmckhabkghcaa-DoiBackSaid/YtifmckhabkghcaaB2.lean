/- Contract of basic.authorities: a set's bytes. -/
import Derived.Test.YtifmckhabkghcaaA7
import Derived.Test.YtifmckhabkghcaaB1
namespace Go.Proofs.Ytifmckhabkghcaa.P
open Go.RowKit
set_option linter.unusedSimpArgs false

theorem info5 : (Try.prog.info? 5).map (fun i => (i.zero, i.size, i.bytes)) = some (some (.int .u8 0), 1, 1) := by kernel_rfl
theorem row_of_own {w : World} {B e n g : Nat} {xs : List Value} (h : w.ownsRow B e 1 (.slice (some ⟨g, 0, none⟩) n n) n xs) : w.heap[g]? = some (.cells xs.toArray e (0, 0)) := by
  rcases h.2 with ⟨h', _⟩ | ⟨g', cap, cur, h', _, hg, _, _, hs, ht⟩
  · cases h'
  · cases h'
    rw [hg]
    have : cur.toList = xs := by
      rw [← ht, List.take_of_length_le (by rw [Array.length_toList, hs]; exact Nat.le_refl _)]
    rw [← this]
theorem made_zeros (n : Nat) : (madeCells (Value.int .u8 0).cells (n * 1)).toList = List.replicate n (.int .u8 0) := by
  apply List.ext_getElem
  · simp [madeCells, Value.cells]
  · intro i h1 h2
    simp [madeCells, Value.cells, Nat.mod_one]
theorem own_form {w : World} {b e n : Nat} {v : Value} {xs : List Value} (h : w.ownsRow b e 1 v n xs) : ∃ A c, v = .slice A n c ∧ ∀ j u, xs[j]? = some u → ∃ g, A = some ⟨g, 0, none⟩ ∧ b ≤ g ∧ g < w.heap.size ∧ w.cell? ⟨g, j, none⟩ = some u := by
  rcases h.2 with ⟨rfl, h0⟩ | ⟨g, cap, cur, rfl, hb, hg, _⟩
  · refine ⟨none, 0, by rw [h0], fun j u hu => ?_⟩
    have := h.1
    have hx : xs = [] := List.length_eq_zero_iff.1 (by omega)
    rw [hx] at hu
    simp at hu
  · refine ⟨some ⟨g, 0, none⟩, cap, rfl, fun j u hu => ⟨g, rfl, hb, lt_of_block hg, ?_⟩⟩
    have := h.cells (g := g) rfl j u hu
    rwa [show (⟨g, 0, none⟩ : Addr).add j = ⟨g, j, none⟩ from by rw [Addr.add_lit, Nat.zero_add]] at this
/-- The categories lie there, not in block g. -/
def ListAt (w : World) (A : Option Addr) (L : List Nat) (g : Nat) : Prop := ∀ (j k : Nat), L[j]? = some k → ∃ gl, A = some ⟨gl, 0, none⟩ ∧ gl ≠ g ∧ gl < w.heap.size ∧ w.cell? ⟨gl, j, none⟩ = some (.int .i64 k)
theorem ListAt.set {w : World} {A : Option Addr} {L : List Nat} {g : Nat} (h : ListAt w A L g) (j : Nat) (u : Value) : ListAt (w.setCell ⟨g, j, none⟩ u) A L g := fun i k hk => by
  obtain ⟨gl, h1, h2, h3, h4⟩ := h i k hk
  exact ⟨gl, h1, h2, by simpa using h3, (World.cell?_setCell_far w ⟨g, j, none⟩ ⟨gl, i, none⟩ u (fun e => h2 e.symm)).trans h4⟩

set_option maxRecDepth 100000 in
set_option maxHeartbeats 4000000 in
theorem auth46 (S : Nat) (hS : S < 2 ^ 240) (w : World) : Calls Try.prog 46 #[.agg (catA S)] w fun e w' => ∃ g, e = .returned (.slice (some ⟨g, 0, none⟩) (authN S) (authN S)) ∧ w.heap.size ≤ g ∧ w'.heap[g]? = some (.cells ((authL S).map fun (b : Nat) => Value.int .u8 (b : Int)).toArray 5 (0, 0)) ∧ Below w.heap.size w w' := by
  have hu23 := Try.underlying23
  have hu82 := Try.underlying82
  have hu60 := Try.underlying60
  obtain ⟨i0, hi0, hz0, hz1, hz2⟩ := info_parts info5
  have HI0 := Lib.hid hi0
  have HZ0 := Lib.hid hz0
  have HZ1 := Lib.hid hz1
  have HZ2 := Lib.hid hz2
  clear hi0 hz0 hz1 hz2
  have HM := Lib.hid (most47 S)
  have HL := Lib.hid (list69 S)
  have H0 := Lib.hid (heap_alloc_new w (.cells (catA S) 23))
  have HB := Lib.hid (bel_alloc (Below.refl w.heap.size w) (.cells (catA S) 23))
  have hn := authN_le S
  have hm := mostB_ge S 240
  have hN := authN_int S
  generalize hM : mostB S 240 = m at HM hN hm
  have h1 : (0 : Int) ≤ m + 7 := by omega
  have HN := Lib.hid hN
  clear hM hN
  go_enter Try.func46, Try.ntmps46
  go_wp2_with (first
    | (refine wpList_load_row rfl 23 (.tmp 1) rfl w.heap.size rfl 23 (catA S) (0, 0) _ H0.out hu23 rfl (info23 _) ?_)
    | (go_at_call 47; refine (HM.out _).mono ?_; rintro e w1 ⟨rfl, hb1⟩; have HB1 := Lib.hid hb1; have HB1s := Lib.hid (show w.heap.size ≤ w1.heap.size from Nat.le_trans HB.out.size hb1.size); have K1 := Lib.hid (blk_below H0.out hb1); clear hb1)
    | (refine wpList_make_full _ rfl (.tmp 10) (.tmp 10) 82 rfl w.heap.size 5 i0 (.int .u8 0) 1 hu82 HI0.out HZ0.out HZ1.out .i64 .i64 _ _ (authN S) rfl rfl HN.out HN.out (by rw [HZ2.out]; omega) (by unfold maxLen; omega) HB1s.out ?_; intro w2 ho2 hg2; have RO2 := Lib.hid (row_of_own ho2); have K2 := Lib.hid ((hg2.block _ (lt_of_block K1.out) (by simp)).trans K1.out); have HB2 := Lib.hid (show Below w.heap.size w w2 from (below_then HB.out HB.out.size HB1.out).trans ⟨hg2.os, hg2.tape, hg2.output, hg2.size, fun k hk => hg2.block k (Nat.lt_of_lt_of_le hk HB1s.out) (by simp)⟩); have hs2 := hg2.size; have HS1 := Lib.hid HB1s.out; clear ho2 hg2)
    | (refine wpList_load_row rfl 23 (.tmp 1) rfl w.heap.size rfl 23 (catA S) (0, 0) _ K2.out hu23 rfl (info23 _) ?_)
    | (go_at_call 69; refine (HL.out _).mono ?_; rintro e w3 ⟨v3, rfl, ho3, hb3⟩; obtain ⟨AL, cL, rfl, hL3⟩ := own_form ho3; have HL3 := Lib.hid hL3; have HB3 := Lib.hid hb3; clear ho3 hL3 hb3))
  have hg1 : w1.heap.size < w2.heap.size := lt_of_block RO2.out
  have RG := Lib.hid (show w3.heap[w1.heap.size]? = some (.cells (arr (insL ((lsN S 240).take 0)) (authN S) 0) 5 (0, 0)) by
    have h := blk_below RO2.out HB3.out
    rw [made_zeros] at h
    rw [List.take_zero, show insL [] = 0 from rfl, arr_zero]
    simpa using h)
  have LA := Lib.hid (show ListAt w3 AL (lsN S 240) w1.heap.size from fun j k hk => by
    obtain ⟨gl, h1, h2, h3, h4⟩ := HL3.out j (.int .i64 k) (by simp [ints, hk])
    exact ⟨gl, h1, by omega, h3, h4⟩)
  have BW := Lib.hid (below_then HB2.out HB2.out.size HB3.out)
  have hgw : w.heap.size ≤ w1.heap.size := HS1.out
  have hll := lsN_len S 240
  generalize w1.heap.size = g at RG LA hgw hg1 ⊢
  have hmem : Hid (∀ k, k ∈ lsN S 240 → k < 240 ∧ S.testBit k = true) := fun k hk => by simpa [lsN] using hk
  have HALL := Lib.hid (insL_all hS)
  generalize hLL : lsN S 240 = L at RG LA hll hmem HALL ⊢
  clear hLL HL3
  clear HL
  go_loopg [15] L.length (fun gg s15 wr => ∃ i : Nat, i ≤ L.length ∧ L.length - i ≤ gg ∧ s15 = .int .i64 i ∧ Hid (wr.heap[g]? = some (.cells (arr (insL (L.take i)) (authN S) 0) 5 (0, 0))) ∧ Hid (ListAt wr AL L g) ∧ Hid (Below w.heap.size w wr))
  case atStart => exact ⟨0, Nat.zero_le _, Nat.le_refl _, rfl, RG.out, LA.out, BW.out⟩
  case round =>
    obtain ⟨i, hi, hgg, rfl, R, LL, BR⟩ := hrel
    clear RG LA BW
    by_cases hlt : i < L.length
    · have h0 : (0 : Int) ≤ (i : Int) := by omega
      have hltz : (i : Int) < (L.length : Int) := by omega
      obtain ⟨k, hk⟩ : ∃ k, L[i]? = some k := ⟨_, List.getElem?_eq_getElem hlt⟩
      obtain ⟨gl, rfl, hne, hgl, hcell⟩ := LL.out i k hk
      obtain ⟨k240, hbit⟩ := hmem.out k (List.mem_of_getElem? hk)
      have hkn := authN_lt S k k240 hbit
      have TK := Lib.hid (show L.take (i + 1) = L.take i ++ [k] by rw [List.take_add_one, hk]; rfl)
      have c1 : wr.cell? ⟨g, k / 7, none⟩ = some (.int .u8 (b7 (insL (L.take i)) (k / 7))) := by
        rw [cell_of_row _ _ _ _ _ _ R.out, arr_get _ _ _ _ hkn]
        simp
      have f1 : wr.frozen? ⟨g, k / 7, none⟩ = false := frozen_of_row _ _ _ _ _ R.out
      have hm7 := Nat.mod_lt k (show 7 > 0 by decide)
      have q1 : Int.tdiv (k : Int) 7 = (k : Int) / 7 := Int.tdiv_eq_ediv_of_nonneg (by omega)
      have q2 : IntKind.i64.wrap (Int.tdiv (k : Int) 7) = (k : Int) / 7 := by rw [q1]; exact IntWalk.i64_in _ (by omega)
      have q3 : IntKind.i64.wrap ((k : Int) / 7) = (k : Int) / 7 := IntWalk.i64_in _ (by omega)
      have q4 : ((k : Int) / 7).toNat = k / 7 := by omega
      have q5 : Int.tmod (k : Int) 7 = (k : Int) % 7 := Int.tmod_eq_emod_of_nonneg (by omega)
      have q6 : IntKind.i64.wrap ((k : Int) % 7) = (k : Int) % 7 := IntWalk.i64_in _ (by omega)
      have q8 : ((k : Int) % 7).toNat = k % 7 := by omega
      have d0 : (0 : Int) ≤ (k : Int) / 7 := by omega
      have d1 : (k : Int) / 7 < (authN S : Int) := by omega
      have d2 : (0 : Int) ≤ (k : Int) % 7 := by omega
      have d3 : (k : Int) % 7 < 7 := by omega
      clear hk hbit
      go_wp2_with fail
      go_region
      go_wp2_with fail
      go_roundg (L.length - (i + 1))
      case measure => omega
      case rel =>
        refine ⟨i + 1, by omega, Nat.le_refl _, by go_num, ?_, ?_, ?_⟩
        · rw [TK.out, insL_snoc, ← arr_or, ← bit7_div]
          exact heap_setCell_same wr g (k / 7) _ 5 _ R.out
        · exact LL.out.set _ _
        · exact (BR.out.setCell hgw _).drew
    · have hltz : ¬ (i : Int) < (L.length : Int) := by omega
      have R2 := Lib.hid (show wr.heap[g]? = some (.cells (arr S (authN S) 0) 5 (0, 0)) by
        have h := R.out
        rw [List.take_of_length_le (by omega), HALL.out] at h
        exact h)
      go_wp2_with fail
      go_loopg [33] (authN S) (fun gg s33 w2 => ∃ j : Nat, j ≤ authN S - 1 ∧ authN S - j ≤ gg ∧ s33 = .int .i64 j ∧ Hid (w2.heap[g]? = some (.cells (arr S (authN S) j) 5 (0, 0))) ∧ Hid (Below w.heap.size w w2))
      case atStart => exact ⟨0, Nat.zero_le _, Nat.le_refl _, rfl, R2.out, BR.out⟩
      case round =>
        obtain ⟨j, hj, hg2, rfl, R3, BR3⟩ := hrel
        by_cases hj2 : j + 1 < authN S
        · have h0 : (0 : Int) ≤ (j : Int) := by omega
          have hjz : (j : Int) < (authN S : Int) - 1 := by omega
          have hjn : (j : Int) < (authN S : Int) := by omega
          have c1 : wr.cell? ⟨g, j, none⟩ = some (.int .u8 (b7 S j)) := by
            rw [cell_of_row _ _ _ _ _ _ R3.out, arr_get _ _ _ _ (by omega)]
            simp
          have f1 : wr.frozen? ⟨g, j, none⟩ = false := frozen_of_row _ _ _ _ _ R3.out
          go_wp2_with fail
          go_roundg (authN S - (j + 1))
          case measure => omega
          case rel =>
            refine ⟨j + 1, by omega, Nat.le_refl _, by go_num, ?_, ?_⟩
            · rw [← arr_one]
              exact heap_setCell_same _ g j _ 5 _ R3.out
            · exact BR3.out.setCell hgw _
        · have hjz : ¬ (j : Int) < (authN S : Int) - 1 := by omega
          go_wp2_with fail
          go_ret
          refine ⟨g, rfl, hgw, ?_, BR3.out⟩
          rw [← arr_auth]
          have e : j = authN S - 1 := by omega
          rw [← e]
          exact R3.out
end Go.Proofs.Ytifmckhabkghcaa.P
