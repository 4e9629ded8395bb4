/- Plain law of GuardReaches, over lists: which labels may become which. -/
import Derived.Test.YtakfnghakbjncaaQ2
import Derived.Test.YtakfnghakbjncaaPx12
namespace Go.Proofs.Ytakfnghakbjncaa.P
open Go.RowKit Go.Proofs.YtakfnghakbjncaaW.PrintWords Go.Proofs.YtakfnghakbjncaaW.PrintLast Go.Proofs.YtakfnghakbjncaaW.PrintMore

def row (n : Nat) (f : Nat → Bool) : List Bool := (List.range n).map f
def mat (n : Nat) (f : Nat → Nat → Bool) : List (List Bool) := (List.range n).map fun x => row n (f x)
theorem mat_len (n : Nat) (f : Nat → Nat → Bool) : (mat n f).length = n := by simp [mat]
theorem row_len (n : Nat) (f : Nat → Bool) : (row n f).length = n := by simp [row]
theorem mat_at (n : Nat) (f : Nat → Nat → Bool) (x : Nat) (h : x < n) : rd_L6 (mat n f) (x : Int) = row n (f x) := by
  unfold rd_L6 mat
  simp [List.getD, h]
theorem row_at (n : Nat) (f : Nat → Bool) (y : Nat) (h : y < n) : rdOf false (row n f) (y : Int) = f y := by
  unfold rdOf row
  simp [List.getD, h]
theorem row_set (n : Nat) (f : Nat → Bool) (y : Nat) : (row n f).set y true = row n (fun j => f j || j == y) := by
  unfold row
  apply List.ext_getElem
  · simp
  · intro i h1 h2
    simp [List.getElem_set]
    by_cases e : y = i
    · simp [e]
    · have : ¬ i = y := fun h => e h.symm
      simp [e, this]
theorem mat_set (n : Nat) (f : Nat → Nat → Bool) (x y : Nat) : (mat n f).set x (row n (fun j => f x j || j == y)) = mat n (fun i j => f i j || (i == x && j == y)) := by
  unfold mat
  apply List.ext_getElem
  · simp
  · intro i h1 h2
    simp [List.getElem_set]
    by_cases e : x = i
    · simp [e]
    · have hx : (i == x) = false := beq_eq_false_iff_ne.2 fun h => e h.symm
      simp [e, hx]

/-- Does a rule turn label x into y? -/
def ruB (n : Nat) (r : S31) (x y : Nat) : Bool := grB n r && ((r.f1 == -1 || r.f1 == x) && r.f5 == y)
def anyR (n : Nat) (l : List S31) (x y : Nat) : Bool := l.any fun r => ruB n r x y

theorem mat_congr {n : Nat} {f g : Nat → Nat → Bool} (h : ∀ a b, a < n → b < n → f a b = g a b) : mat n f = mat n g := by
  unfold mat row
  refine List.map_congr_left fun a ha => List.map_congr_left fun b hb => h a b ?_ ?_
  · simpa using ha
  · simpa using hb

theorem gr_bounds {n : Int} {r : S31} (h : grB n r = true) : -1 ≤ r.f1 ∧ r.f1 < n ∧ 0 ≤ r.f5 ∧ r.f5 < n := by
  unfold grB inB at h
  simp at h
  omega

theorem reach2 (n : Nat) (hn : n ≤ 16) (l : List S31) (i : Nat) (r : S31) (hr : grB n r = true) (d : Nat) : ∀ (k x : Nat) (f : Nat → Nat → Bool), x + d = n → d < k →
    ∃ (k' : Nat), k ≤ k' + (d + 1) ∧ guard_Reach.l2 k n (mat n f) l l.length i n x r.f0 r.f1 r.f2.f0 r.f2.f1 r.f3.f0 r.f3.f1 r.f4 r.f5 = guard_Reach.l1 k' n (mat n fun a b => f a b || (decide (x ≤ a) && ((r.f1 == -1 || r.f1 == a) && r.f5 == b))) l l.length (wrap64 (i + 1)) := by
  obtain ⟨b1, b2, b3, b4⟩ := gr_bounds hr
  obtain ⟨q, hq⟩ : ∃ q : Nat, r.f5 = q := ⟨r.f5.toNat, by omega⟩
  induction d with
  | zero =>
    intro k x f hx hk
    obtain ⟨k, rfl⟩ : ∃ m, k = m + 1 := ⟨k - 1, by omega⟩
    refine ⟨k, by omega, ?_⟩
    simp only [guard_Reach.l2]
    rw [if_neg (by omega)]
    congr 1
    refine mat_congr fun a b ha hb => ?_
    have : ¬ x ≤ a := by omega
    simp [this]
  | succ d ih =>
    intro k x f hx hk
    obtain ⟨k, rfl⟩ : ∃ m, k = m + 1 := ⟨k - 1, by omega⟩
    simp only [guard_Reach.l2]
    rw [if_pos (by omega), wide_some]
    simp only [Option.bind_some]
    have e : wrap64 ((x : Int) + 1) = ((x + 1 : Nat) : Int) := by rw [wrap_small _ (by omega) (by omega)]; omega
    rw [e]
    cases hw : (r.f1 == -1 || r.f1 == (x : Int)) with
    | true =>
      rw [if_pos rfl, if_pos (by omega), if_pos (by rw [mat_len]; omega), if_pos b3, mat_at n f x (by omega), if_pos (by rw [row_len]; exact b4)]
      simp only [Int.toNat_natCast]
      rw [hq, Int.toNat_natCast, row_set, mat_set]
      by_cases hf : r.f1 = (x : Int)
      · refine ⟨k, by omega, ?_⟩
        rw [if_pos hf]
        congr 1
        refine mat_congr fun a b ha hb => ?_
        rw [hf]
        congr 1
        rw [Bool.eq_iff_iff]
        simp
        omega
      · rw [if_neg hf]
        obtain ⟨k', h1, h2⟩ := ih k (x + 1) (fun a b => f a b || (a == x && b == q)) (by omega) (by omega)
        rw [hq] at h2
        refine ⟨k', by omega, ?_⟩
        rw [h2]
        congr 1
        refine mat_congr fun a b ha hb => ?_
        have h1 : r.f1 = -1 := by simp [hf] at hw; exact hw
        rw [h1, Bool.or_assoc]
        congr 1
        rw [Bool.eq_iff_iff]
        simp
        omega
    | false =>
      rw [if_neg (by simp)]
      obtain ⟨k', h1, h2⟩ := ih k (x + 1) f (by omega) (by omega)
      refine ⟨k', by omega, ?_⟩
      rw [h2]
      congr 1
      refine mat_congr fun a b ha hb => ?_
      simp at hw
      congr 1
      rw [Bool.eq_iff_iff]
      simp
      omega

theorem right_some' (n : Int) (r : S31) : guard_right.f n r.f0 r.f1 r.f2.f0 r.f2.f1 r.f3.f0 r.f3.f1 r.f4 r.f5 = some (grB n r) := by
  have r1 : ∀ a b c : Int, guard_right_1.f a b c = some (inB a b c) := by
    intro a b c
    unfold guard_right_1.f inB
    by_cases h : b ≤ a
    · rw [if_pos (by omega)]; simp [h]
    · rw [if_neg (by omega)]; simp [h]
  unfold guard_right.f grB
  simp only [r1, ar_some, Option.bind_some]
  cases inB r.f0 (-1) 8 <;> cases inB r.f1 (-1) n <;> cases inB r.f4 (-1) 256 <;> cases inB r.f5 0 n <;> cases arB r.f2.f0 r.f2.f1 <;> simp

theorem reach1 (n : Nat) (hn : n ≤ 16) (l : List S31) (hl : l.length ≤ 40) (d : Nat) : ∀ (k i : Nat) (f : Nat → Nat → Bool), i + d = l.length → d * 18 < k →
    guard_Reach.l1 k n (mat n f) l l.length i = some (mat n fun a b => f a b || anyR n (l.drop i) a b) := by
  induction d with
  | zero =>
    intro k i f hi hk
    obtain ⟨k, rfl⟩ : ∃ m, k = m + 1 := ⟨k - 1, by omega⟩
    simp only [guard_Reach.l1]
    rw [if_neg (by omega), List.drop_of_length_le (by omega)]
    simp [anyR]
  | succ d ih =>
    intro k i f hi hk
    obtain ⟨k, rfl⟩ : ∃ m, k = m + 1 := ⟨k - 1, by omega⟩
    have hil : i < l.length := by omega
    obtain ⟨x, hx⟩ : ∃ x, l[i]? = some x := ⟨l[i]'hil, List.getElem?_eq_getElem _⟩
    have hdr : l.drop i = x :: l.drop (i + 1) := by rw [List.drop_eq_getElem_cons hil, (List.getElem?_eq_some_iff.1 hx).2]
    have e : wrap64 ((i : Int) + 1) = ((i + 1 : Nat) : Int) := by rw [wrap_small _ (by omega) (by omega)]; omega
    simp only [guard_Reach.l1]
    rw [if_pos (by omega), if_pos (by omega), if_pos (by omega), rd_at l i x hx, right_some']
    simp only [Option.bind_some]
    rw [hdr]
    cases hg : grB n x with
    | true =>
      rw [if_pos rfl, mat_len]
      obtain ⟨k', h1, h2⟩ := reach2 n hn l i x hg n k 0 f (by omega) (by omega)
      rw [show ((0 : Nat) : Int) = 0 from rfl] at h2
      rw [h2, e, ih k' (i + 1) _ (by omega) (by omega)]
      congr 1
      refine mat_congr fun a b ha hb => ?_
      simp [anyR, ruB, hg, Bool.or_assoc]
    | false =>
      rw [if_neg (by simp), e, ih k (i + 1) _ (by omega) (by omega)]
      congr 1
      refine mat_congr fun a b ha hb => ?_
      simp [anyR, ruB, hg]

/-- The rows that are made behind i rounds. -/
def made (n i : Nat) : List (List Bool) := (List.range n).map fun x => if x < i then row n (fun y => x == y) else []
theorem made_zero (n : Nat) : made n 0 = List.replicate n [] := by
  unfold made
  apply List.ext_getElem <;> simp
theorem made_all (n : Nat) : made n n = mat n (fun x y => x == y) := by
  unfold made mat
  refine List.map_congr_left fun a ha => ?_
  rw [if_pos (by simpa using ha)]
theorem row_false (n i : Nat) : (List.replicate n false).set i true = row n (fun y => i == y) := by
  unfold row
  apply List.ext_getElem
  · simp
  · intro j h1 h2
    simp [List.getElem_set]
    by_cases e : i = j <;> simp [e]
theorem made_succ (n i : Nat) : (made n i).set i (row n (fun y => i == y)) = made n (i + 1) := by
  unfold made
  apply List.ext_getElem
  · simp
  · intro j h1 h2
    simp only [List.getElem_set, List.getElem_map, List.getElem_range]
    by_cases e : i = j
    · subst e; simp
    · rw [if_neg e]
      by_cases h : j < i
      · rw [if_pos h, if_pos (by omega)]
      · rw [if_neg h, if_neg (by omega)]

theorem reach0 (n : Nat) (hn : n ≤ 16) (l : List S31) (hl : l.length ≤ 40) (d : Nat) : ∀ (k i : Nat), i + d = n → d + 800 < k →
    guard_Reach.l0 k l n (made n i) n i = some (mat n fun a b => (a == b) || anyR n l a b) := by
  induction d with
  | zero =>
    intro k i hi hk
    obtain ⟨k, rfl⟩ : ∃ m, k = m + 1 := ⟨k - 1, by omega⟩
    obtain rfl : i = n := by omega
    simp only [guard_Reach.l0]
    rw [if_neg (by omega), made_all]
    have := reach1 i hn l hl l.length k 0 (fun x y => x == y) (by omega) (by omega)
    rw [show ((0 : Nat) : Int) = 0 from rfl, List.drop_zero] at this
    exact this
  | succ d ih =>
    intro k i hi hk
    obtain ⟨k, rfl⟩ : ∃ m, k = m + 1 := ⟨k - 1, by omega⟩
    have e : wrap64 ((i : Int) + 1) = ((i + 1 : Nat) : Int) := by rw [wrap_small _ (by omega) (by omega)]; omega
    have hml : ∀ j, (made n j).length = n := fun j => by simp [made]
    simp only [guard_Reach.l0]
    rw [if_pos (by omega), if_pos (by omega), if_pos (by rw [Int.toNat_natCast]; omega), if_pos (by omega), if_pos (by rw [hml]; omega)]
    simp only [Option.bind_some, Int.toNat_natCast]
    have hrd : rd_L6 ((made n i).set i (List.replicate n false)) (i : Int) = List.replicate n false := by
      unfold rd_L6
      rw [Int.toNat_natCast, List.getD, List.getElem?_set_self (by rw [hml]; omega)]
      rfl
    rw [hrd, if_pos (by rw [List.length_replicate]; omega), List.set_set, row_false, made_succ, e]
    exact ih k (i + 1) (by omega) (by omega)

/-- How many labels there are. -/
theorem reach_eq (l : List S31) (a1 : Int) (n : Nat) (hnn : mn (mx a1 0) 16 = (n : Int)) (hn : n ≤ 16) (hl : l.length ≤ 40) (k : Nat) (hk : 900 ≤ k) :
    guard_Reach.f k l a1 = some (mat n fun a b => (a == b) || anyR n l a b) := by
  unfold guard_Reach.f
  rw [hnn, if_pos (by omega), if_pos (by rw [Int.toNat_natCast]; omega)]
  simp only [Option.bind_some, Int.toNat_natCast]
  rw [List.length_replicate, ← made_zero]
  exact reach0 n hn l hl n k 0 (by omega) (by omega)

section
variable (n : Nat) (hn : n ≤ 16) (l : List S31) (hl : l.length ≤ 40) (hin : ∀ x ∈ l, InR x) (a1 a2 a3 a4 a5 : Int) (h4 : 0 ≤ a4 ∧ a4 < 2 ^ 32) (h5 : 0 ≤ a5 ∧ a5 < 2 ^ 32)

def theM : List (List Bool) := mat n fun a b => (a == b) || anyR n l a b

include hn hl hin in
theorem law2 (x y : Nat) (hx : x < n) (hy : y < n) (d : Nat) : ∀ (k i : Nat) (acc : Bool), i + d = l.length → d + 41 < k → ((acc || anyR n (l.drop i) x y) = ((x == y) || anyR n l x y)) →
    ∃ k', k ≤ k' + (d + 1) ∧ gueritelaw16_GuardReaches.l2 k l (theM n l) n x y acc i a1 a2 a3 a4 a5 = gueritelaw16_GuardReaches.l1 k' l (theM n l) n x ((y + 1 : Nat) : Int) a1 a2 a3 a4 a5 := by
  induction d with
  | zero =>
    intro k i acc hi hk hacc
    obtain ⟨k, rfl⟩ : ∃ m, k = m + 1 := ⟨k - 1, by omega⟩
    refine ⟨k, by omega, ?_⟩
    rw [List.drop_of_length_le (by omega)] at hacc
    simp only [anyR, List.any_nil, Bool.or_false] at hacc
    have e : wrap64 ((y : Int) + 1) = ((y + 1 : Nat) : Int) := by rw [wrap_small _ (by omega) (by omega)]; omega
    simp only [gueritelaw16_GuardReaches.l2]
    rw [if_neg (by omega), if_pos (by omega)]
    unfold theM
    rw [mat_len, if_pos (by omega), if_pos (by omega), mat_at _ _ x hx, row_len, if_pos (by omega), row_at _ _ y hy]
    have : (((x == y) || anyR n l x y) != acc) = false := by rw [hacc]; simp [anyR]
    rw [if_neg (by rw [this]; simp), e]
  | succ d ih =>
    intro k i acc hi hk hacc
    obtain ⟨k, rfl⟩ : ∃ m, k = m + 1 := ⟨k - 1, by omega⟩
    have hil : i < l.length := by omega
    obtain ⟨r, hr⟩ : ∃ x, l[i]? = some x := ⟨l[i]'hil, List.getElem?_eq_getElem _⟩
    have hdr : l.drop i = r :: l.drop (i + 1) := by rw [List.drop_eq_getElem_cons hil, (List.getElem?_eq_some_iff.1 hr).2]
    have e : wrap64 ((i : Int) + 1) = ((i + 1 : Nat) : Int) := by rw [wrap_small _ (by omega) (by omega)]; omega
    rw [hdr] at hacc
    simp only [anyR, List.any_cons] at hacc
    have go : ∀ acc' : Bool, acc' = (acc || ruB n r x y) → ∃ k', k + 1 ≤ k' + (d + 1 + 1) ∧ gueritelaw16_GuardReaches.l2 k l (theM n l) n x y acc' ((i + 1 : Nat) : Int) a1 a2 a3 a4 a5 = gueritelaw16_GuardReaches.l1 k' l (theM n l) n x ((y + 1 : Nat) : Int) a1 a2 a3 a4 a5 := by
      intro acc' he
      obtain ⟨k', h1, h2⟩ := ih k (i + 1) acc' (by omega) (by omega) (by rw [he, Bool.or_assoc]; exact hacc)
      exact ⟨k', by omega, h2⟩
    simp only [gueritelaw16_GuardReaches.l2]
    rw [if_pos (by omega), e]
    cases acc with
    | true =>
      rw [if_pos rfl]
      exact go true (by simp)
    | false =>
      rw [if_neg (by simp), if_pos (by omega), rd_at l i r hr, ref_right16 _ r (hin r (List.mem_of_getElem? hr)) k (by omega)]
      simp only [Option.bind_some]
      have hru : ruB n r x y = (grB n r && ((r.f1 == -1 || r.f1 == x) && r.f5 == y)) := rfl
      cases hg : grB n r with
      | true =>
        rw [if_pos rfl]
        rw [hg] at hru
        by_cases c1 : r.f1 = -1
        · rw [if_pos c1]; exact go _ (by rw [hru, c1]; simp)
        · rw [if_neg c1]
          by_cases c2 : r.f1 = (x : Int)
          · rw [if_pos c2]; exact go _ (by rw [hru, c2]; simp)
          · rw [if_neg c2]; exact go _ (by rw [hru]; simp [c1, c2])
      | false =>
        rw [if_neg (by simp)]
        exact go _ (by rw [hru, hg]; simp)

include hn hl hin in
theorem law1 (x : Nat) (hx : x < n) (d : Nat) : ∀ (k y : Nat), y + d = n → d * 42 + 100 < k →
    ∃ k', k ≤ k' + (d * 42 + 1) ∧ gueritelaw16_GuardReaches.l1 k l (theM n l) n x y a1 a2 a3 a4 a5 = gueritelaw16_GuardReaches.l0 k' l (theM n l) n ((x + 1 : Nat) : Int) a1 a2 a3 a4 a5 := by
  induction d with
  | zero =>
    intro k y hy hk
    obtain ⟨k, rfl⟩ : ∃ m, k = m + 1 := ⟨k - 1, by omega⟩
    have e : wrap64 ((x : Int) + 1) = ((x + 1 : Nat) : Int) := by rw [wrap_small _ (by omega) (by omega)]; omega
    refine ⟨k, by omega, ?_⟩
    simp only [gueritelaw16_GuardReaches.l1]
    rw [if_neg (by omega), e]
  | succ d ih =>
    intro k y hy hk
    obtain ⟨k, rfl⟩ : ∃ m, k = m + 1 := ⟨k - 1, by omega⟩
    simp only [gueritelaw16_GuardReaches.l1]
    rw [if_pos (by omega)]
    obtain ⟨k1, h1, h2⟩ := law2 n hn l hl hin a1 a2 a3 a4 a5 x y hx (by omega) l.length k 0 (x == y) (by omega) (by omega) (by rw [List.drop_zero])
    have eb : ((x : Int) == (y : Int)) = (x == y) := by rw [Bool.eq_iff_iff]; simp; omega
    rw [show ((0 : Nat) : Int) = 0 from rfl] at h2
    rw [eb, h2]
    obtain ⟨k2, h3, h4⟩ := ih k1 (y + 1) (by omega) (by omega)
    exact ⟨k2, by omega, h4⟩

set_option maxRecDepth 100000 in
include hn hl hin in
theorem law0 (r : Option Bool) (hr : ∀ k, 200 ≤ k → gueritelaw16_GuardReaches.l0 k l (theM n l) n n a1 a2 a3 a4 a5 = r) (d : Nat) : ∀ (k x : Nat), x + d = n → d * 700 + 1000 < k →
    gueritelaw16_GuardReaches.l0 k l (theM n l) n x a1 a2 a3 a4 a5 = r := by
  induction d with
  | zero =>
    intro k x hx hk
    obtain rfl : x = n := by omega
    exact hr k (by omega)
  | succ d ih =>
    intro k x hx hk
    obtain ⟨k, rfl⟩ : ∃ m, k = m + 1 := ⟨k - 1, by omega⟩
    simp only [gueritelaw16_GuardReaches.l0]
    have hml : (theM n l).length = n := mat_len _ _
    have hat : (rd_L6 (theM n l) (x : Int)).length = n := by unfold theM; rw [mat_at _ _ x (by omega), row_len]
    rw [if_pos (by omega), if_pos (by omega), if_pos (by rw [hml]; omega), if_pos (by rw [hat])]
    obtain ⟨k1, h1, h2⟩ := law1 n hn l hl hin a1 a2 a3 a4 a5 x (by omega) n k 0 (by omega) (by omega)
    rw [show ((0 : Nat) : Int) = 0 from rfl] at h2
    rw [h2]
    have hk1 : d * 700 + 1000 < k1 := by
      clear ih hr h2 hml hat
      omega
    exact ih k1 (x + 1) (by omega) hk1

include hl in
theorem lawEnd (k : Nat) (hk : 200 ≤ k) : gueritelaw16_GuardReaches.l0 k l (theM n l) n n a1 a2 a3 a4 a5 = some true := by
  obtain ⟨k, rfl⟩ : ∃ m, k = m + 1 := ⟨k - 1, by omega⟩
  obtain ⟨k, rfl⟩ : ∃ m, k = m + 1 := ⟨k - 1, by omega⟩
  simp only [gueritelaw16_GuardReaches.l0]
  rw [if_neg (by omega)]
  have jt : gueritelaw16_GuardReaches.j3 (k + 1) l (theM n l) n true a1 a2 a3 a4 a5 = some true := by
    simp only [gueritelaw16_GuardReaches.j3]
    rw [awake16]; rfl
  by_cases c1 : a2 < 0
  · rw [if_pos c1]; exact jt
  · rw [if_neg c1]
    by_cases c2 : a2 ≥ (n : Int)
    · rw [if_pos c2]; exact jt
    · rw [if_neg c2]
      unfold guard_Right.f
      rw [if_pos (by omega)]
      simp only [Option.bind_some, Bool.not_not]
      cases hany : l.any fun x => !grB n x with
      | true => exact jt
      | false =>
        have hall : ∀ x ∈ l, grB n x = true := by simpa using hany
        obtain ⟨x, hx⟩ : ∃ x : Nat, a2 = x := ⟨a2.toNat, by omega⟩
        obtain ⟨y, hy, hyn, hm⟩ : ∃ y : Nat, toV l a1 a2 a3 a4 a5 = y ∧ y < n ∧ ((x == y) || anyR n l x y) = true := by
          unfold toV
          cases hf : l.find? fun x => mtB x a1 a2 a3 a4 a5 with
          | none => exact ⟨x, by simp [hx], by omega, by simp⟩
          | some r =>
            have hmem := List.mem_of_find?_eq_some hf
            have hmt := List.find?_some hf
            obtain ⟨b1, b2, b3, b4⟩ := gr_bounds (hall r hmem)
            refine ⟨r.f5.toNat, by simp; omega, by omega, ?_⟩
            rw [mtB_eq] at hmt
            simp only [Bool.and_eq_true] at hmt
            have h1 : anyR n l x r.f5.toNat = true := by
              unfold anyR
              rw [List.any_eq_true]
              refine ⟨r, hmem, ?_⟩
              unfold ruB
              rw [hall r hmem, ← hx, hmt.2.1]
              simp
              omega
            rw [h1, Bool.or_true]
        have hml : (theM n l).length = n := mat_len _ _
        have hat : rd_L6 (theM n l) a2 = row n fun b => (x == b) || anyR n l x b := by unfold theM; rw [hx, mat_at _ _ x (by omega)]
        simp only [gueritelaw16_GuardReaches.j3]
        rw [if_neg (by simp), To_eq _ _ _ _ _ _ (by omega), hy]
        simp only [Option.bind_some]
        rw [if_pos (by omega), if_pos (by omega), if_pos (by omega), if_pos (by rw [hml]; omega), if_pos (by omega), hat, row_len, if_pos (by omega), row_at _ _ y hyn, if_pos hm, awake16]
        rfl
end

theorem guardReaches_pure (l : List S31) (lab a1 a2 a3 a4 a5 : Int) (hin : ∀ x ∈ l, InR x) : ∃ k, gueritelaw16_GuardReaches.f k l lab a1 a2 a3 a4 a5 = some true := by
  refine ⟨20000, ?_⟩
  unfold gueritelaw16_GuardReaches.f
  by_cases h : (l.length : Int) > 40
  · rw [if_pos h, awake16]; rfl
  · rw [if_neg h]
    obtain ⟨n, hnn, hn⟩ : ∃ n : Nat, mn (mx lab 0) 16 = (n : Int) ∧ n ≤ 16 := ⟨(mn (mx lab 0) 16).toNat, by unfold mn mx; split <;> split <;> omega, by unfold mn mx; split <;> split <;> omega⟩
    rw [reach_eq l lab n hnn hn (by omega) 20000 (by omega)]
    simp only [Option.bind_some]
    rw [hnn, mat_len, if_pos rfl]
    have := law0 n hn l (by omega) hin a1 a2 a3 a4 a5 (some true) (fun k hk => lawEnd n l (by omega) a1 a2 a3 a4 a5 k hk) n 20000 0 (by omega) (by omega)
    exact this
end Go.Proofs.Ytakfnghakbjncaa.P
