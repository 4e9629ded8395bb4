/- What is told there, and back, is what it was (plain). -/
import Derived.Test.YtifmckhabkghcaaV8
namespace Go.Proofs.Ytifmckhabkghcaa.P
open Go.RowKit
set_option linter.unusedSimpArgs false

theorem pairs_once {ps : List (Int × Int)} {most : Int} (h : pairsB ps most = true) (b : Bool) {i j : Nat} (hi : i < ps.length) (hj : j < ps.length) (he : fr b (prD ps i) = fr b (prD ps j)) : i = j := by
  simp only [pairsB, Bool.and_eq_true, List.all_eq_true, List.mem_range] at h
  have hall := h.1
  rcases Nat.lt_trichotomy i j with h1 | h1 | h1
  · have := ((okB_iff _ _ _).1 (hall j hj)).2 i h1
    unfold fr at he
    cases b
    · exact absurd he this.1
    · exact absurd he this.2
  · exact h1
  · have := ((okB_iff _ _ _).1 (hall i hi)).2 j h1
    unfold fr at he
    cases b
    · exact absurd he.symm this.1
    · exact absurd he.symm this.2
theorem told_back {ps : List (Int × Int)} {most n m : Int} {b : Bool} (h : pairsB ps most = true) (ht : told ps n b = some m) : told ps m (!b) = some n := by
  obtain ⟨p, hp, h1, h2⟩ := told_mem ht
  obtain ⟨i, hi⟩ := List.getElem?_of_mem hp
  obtain ⟨hlt, he⟩ := List.getElem?_eq_some_iff.1 hi
  have e1 : fr (!b) p = m := by rw [← h2]; cases b <;> rfl
  have e2 : tw (!b) p = n := by rw [← h1]; cases b <;> rfl
  rw [← e2]
  refine told_hit (!b) hi e1 fun j q hj hq hfq => ?_
  obtain ⟨hjl, hje⟩ := List.getElem?_eq_some_iff.1 hq
  have := pairs_once h (!b) hjl hlt (by rw [prD_get hjl, prD_get hlt, hje, he, hfq, e1])
  omega
theorem tell_back {ps : List (Int × Int)} {most n : Int} {b : Bool} (h : pairsB ps most = true) (ht : tellB ps n b = true) : tellB ps (tellN ps n b) (!b) = true ∧ tellN ps (tellN ps n b) (!b) = n := by
  cases hto : told ps n b with
  | some m =>
    have hb := told_back h hto
    have e : tellN ps n b = m := by unfold tellN; rw [hto]
    rw [e]
    unfold tellB tellN
    rw [hb]
    exact ⟨rfl, rfl⟩
  | none =>
    have e : tellN ps n b = n := by unfold tellN; rw [hto]
    unfold tellB at ht
    rw [hto] at ht
    have h0 : ps = [] := List.length_eq_zero_iff.1 (by simpa using ht)
    rw [e]
    subst h0
    simp [tellB, tellN, told]
theorem foldL_bit {ct : List (Int × Int)} {b : Bool} (j : Nat) : ∀ (L : List Nat), (∀ k ∈ L, 0 ≤ tellN ct k b ∧ tellN ct k b ≤ 239) → (foldL ct b L).testBit j = L.any fun (k : Nat) => decide (tellN ct k b = j) := by
  intro L hL
  have h : ∀ (L : List Nat) (T : Nat), (∀ k ∈ L, 0 ≤ tellN ct k b ∧ tellN ct k b ≤ 239) → (L.foldl (fun T (k : Nat) => withS T (tellN ct k b)) T).testBit j = (T.testBit j || L.any fun (k : Nat) => decide (tellN ct k b = j)) := by
    intro L
    induction L with
    | nil => intro T _; simp
    | cons k L ih =>
      intro T hL
      have hk := hL k (by simp)
      rw [List.foldl_cons, ih _ (fun m hm => hL m (by simp [hm])), List.any_cons]
      have hr : rightB (tellN ct k b) = true := by simp [rightB, hk]
      have hw : withS T (tellN ct k b) = ins T (tellN ct k b).toNat := by unfold withS; rw [if_pos hr]
      rw [hw, ins_bit, Bool.or_assoc]
      congr 2
      rw [Bool.eq_iff_iff]
      simp
      omega
  have := h L 0 hL
  rw [foldL, this]
  simp
theorem lsN_mem {S n k : Nat} : k ∈ lsN S n ↔ k < n ∧ S.testBit k = true := by simp [lsN]
theorem mv_back {d : Dm} {x : Lab} {b : Bool} (hS : x.S < 2 ^ 240) (h : mvE d x b = 0) : mvE d (mvX d x b) (!b) = 0 ∧ mvX d (mvX d x b) (!b) = x := by
  have hd : rightD d = true := by
    cases hh : rightD d with
    | true => rfl
    | false => simp [mvE, hh] at h
  have hx : rightL x = true := by
    cases hh : rightL x with
    | true => rfl
    | false => simp [mvE, hh, hd] at h
  have hl : tellB d.lv x.lv b = true := by
    cases hh : tellB d.lv x.lv b with
    | true => rfl
    | false => simp [mvE, hh, hd, hx] at h
  have ho : okL d.ct b (lsN x.S 240) = true := by
    cases hh : okL d.ct b (lsN x.S 240) with
    | true => rfl
    | false => simp [mvE, hh, hd, hx, hl] at h
  have hX : mvX d x b = ⟨tellN d.lv x.lv b, foldL d.ct b (lsN x.S 240)⟩ := by simp [mvX, hd, hx, hl, ho]
  rw [hX]
  have hr : pairsB d.lv 255 = true ∧ pairsB d.ct 239 = true := by simpa [rightD] using hd
  have hxl : 0 ≤ x.lv ∧ x.lv ≤ 255 := by simpa [rightL] using hx
  have hrng := tell_rng (back := b) hr.1 hxl.1 hxl.2
  obtain ⟨t1, t2⟩ := tell_back hr.1 hl
  have hL : ∀ k ∈ lsN x.S 240, 0 ≤ tellN d.ct k b ∧ tellN d.ct k b ≤ 239 := fun k hk => by
    have := lsN_lt _ _ k hk
    exact tell_rng hr.2 (by omega) (by omega)
  have hbit := fun j => foldL_bit (ct := d.ct) (b := b) j _ hL
  have hb2 : ∀ k ∈ lsN x.S 240, tellB d.ct (tellN d.ct k b) (!b) = true ∧ tellN d.ct (tellN d.ct k b) (!b) = k := fun k hk => tell_back hr.2 (List.all_eq_true.1 ho k hk)
  generalize hY : foldL d.ct b (lsN x.S 240) = Y at hbit
  have hmemY : ∀ j, j ∈ lsN Y 240 ↔ j < 240 ∧ ∃ k ∈ lsN x.S 240, tellN d.ct k b = (j : Int) := fun j => by
    rw [lsN_mem, hbit j, List.any_eq_true]
    simp
  have ho2 : okL d.ct (!b) (lsN Y 240) = true := List.all_eq_true.2 fun j hj => by
    obtain ⟨_, k, hk, he⟩ := (hmemY j).1 hj
    rw [← he]
    exact (hb2 k hk).1
  have hLY : ∀ j ∈ lsN Y 240, 0 ≤ tellN d.ct j (!b) ∧ tellN d.ct j (!b) ≤ 239 := fun k hk => by
    have := lsN_lt _ _ k hk
    exact tell_rng hr.2 (by omega) (by omega)
  have hback : foldL d.ct (!b) (lsN Y 240) = x.S := by
    refine set_ext_bits (foldL_lt _ _ _) hS fun k hk => ?_
    rw [foldL_bit k _ hLY, Bool.eq_iff_iff, List.any_eq_true]
    constructor
    · rintro ⟨j, hj, he⟩
      obtain ⟨_, k', hk', he'⟩ := (hmemY j).1 hj
      have e2 := (hb2 k' hk').2
      rw [he'] at e2
      have : tellN d.ct j (!b) = (k : Int) := of_decide_eq_true he
      rw [this] at e2
      have : k' = k := by omega
      rw [← this]
      exact (lsN_mem.1 hk').2
    · intro hb
      have hkm : k ∈ lsN x.S 240 := lsN_mem.2 ⟨hk, hb⟩
      have hj := hL k hkm
      refine ⟨(tellN d.ct k b).toNat, (hmemY _).2 ⟨by omega, k, hkm, by omega⟩, ?_⟩
      rw [show (((tellN d.ct k b).toNat : Nat) : Int) = tellN d.ct k b by omega, (hb2 k hkm).2]
      simp
  have hry : rightL ⟨tellN d.lv x.lv b, Y⟩ = true := by simp [rightL, hrng]
  constructor
  · simp [mvE, hd, hry, t1, ho2]
  · unfold mvX
    simp only [hd, hry, t1, ho2, if_true]
    exact lab_ext t2 hback
theorem mvX_lt (d : Dm) (x : Lab) (b : Bool) : (mvX d x b).S < 2 ^ 240 := by
  have hz : (0 : Nat) < 2 ^ 240 := Nat.pow_pos (by decide)
  unfold mvX
  split
  · split
    · split
      · split
        · exact foldL_lt _ _ _
        · exact hz
      · exact hz
    · exact hz
  · exact hz
theorem mvX_wf (d : Dm) (x : Lab) (b : Bool) : (Lit.int .i64 (mvX d x b).lv).wf = true := by
  unfold mvX
  split
  · rename_i hd
    split
    · rename_i hx
      split
      · split
        · have hr : pairsB d.lv 255 = true ∧ pairsB d.ct 239 = true := by simpa [rightD] using hd
          have hxl : 0 ≤ x.lv ∧ x.lv ≤ 255 := by simpa [rightL] using hx
          have hrng := tell_rng (back := b) hr.1 hxl.1 hxl.2
          exact wf_small _ (by show -1000 ≤ tellN d.lv x.lv b; omega) (by show tellN d.lv x.lv b ≤ 1000; omega)
        · decide
      · decide
    · decide
  · decide
end Go.Proofs.Ytifmckhabkghcaa.P
