/- Contracts of guard's functions that hand a function value on: First, Right. For the program's guard (layer 16); no condition beside a slice's length below 2^63. -/
import Derived.Test.YtakfnghakbjncaaPx3
import Derived.Shelf.Abstract
namespace Go.Proofs.Ytakfnghakbjncaa.P
open Go.RowKit Go.Shelf Go.Proofs.YtakfnghakbjncaaW.PrintWords Go.Proofs.YtakfnghakbjncaaW.PrintLast Go.Proofs.YtakfnghakbjncaaW.PrintMore

/-- The first place from i on at which p holds; -1: there is none. -/
def idxFrom {α : Type} (p : α → Bool) : List α → Int → Int
  | [], _ => -1
  | x :: l, i => if p x = true then i else idxFrom p l (i + 1)

theorem idxFrom_drop {α : Type} (p : α → Bool) (l : List α) (kk : Nat) (x : α) (h : l[kk]? = some x) :
    idxFrom p (l.drop kk) kk = if p x = true then (kk : Int) else idxFrom p (l.drop (kk + 1)) ((kk + 1 : Nat) : Int) := by
  obtain ⟨hk, he⟩ := List.getElem?_eq_some_iff.1 h
  rw [List.drop_eq_getElem_cons hk, he]
  simp [idxFrom]

def c31 (x : S31) : Value := .agg #[.int .i64 x.f0, .int .i64 x.f1, .int .u32 x.f2.f0, .int .i64 x.f2.f1, .int .u32 x.f3.f0, .int .i64 x.f3.f1, .int .i64 x.f4, .int .i64 x.f5]

set_option maxHeartbeats 2000000 in
/-- slices.IndexFunc over relabelling rules, whatever the function value: p is what it answers. -/
theorem idx34 (g : Nat) (lb : Array Value) (p : S31 → Bool) (eg : ∀ args w, (callFunc g args).run Try.prog w = .ok (.enter g args) w) (A : Option Addr) (c : Nat) (l : List S31) (w : World)
    (hr : Kd.C k31 w A l.length l) (hbig : l.length ≤ 9223372036854775807)
    (hp : ∀ W x, x ∈ l → Below w.heap.size w W → Calls Try.prog g (#[c31 x] ++ lb) W fun e w' => e = .returned (.bool (p x)) ∧ Below W.heap.size W w') :
    Calls Try.prog 34 #[.slice A l.length c, .func (.func g) #[] lb] w fun e w' => e = .returned (.int .i64 (idxFrom p l 0)) ∧ Below w.heap.size w w' := by
  have HR0 := Aside0.mk hr
  have HP := Aside0.mk hp
  clear hr hp
  have hu31 := Try.underlying31
  obtain ⟨n, hn⟩ : ∃ n, n = l.length := ⟨_, rfl⟩
  have HN := Aside0.mk hn
  rw [← hn] at hbig ⊢
  clear hn
  go_enter Try.func34, Try.ntmps34
  go_wp2
  go_loopg [5, 8] n (fun gg _ s8 wr => ∃ kk : Nat, kk ≤ n ∧ n - kk ≤ gg ∧ s8 = .int .i64 kk ∧ Aside0 (Below w.heap.size w wr) ∧ Aside0 (idxFrom p (l.drop kk) kk = idxFrom p l 0))
  case atStart => exact ⟨0, Nat.zero_le _, by omega, rfl, ⟨Below.refl _ w⟩, ⟨rfl⟩⟩
  case round =>
    obtain ⟨kk, hkk, hg, rfl, BW, HI⟩ := hrel
    by_cases hlt : kk < n
    · have hltz : (kk : Int) < (n : Int) := by omega
      have h0 : (0 : Int) ≤ (kk : Int) := by omega
      have hlen : kk < l.length := by rw [← HN.out]; exact hlt
      obtain ⟨ad, eA, q0, q1, q2, q3, q4, q5, q6, q7⟩ := at_T31 HR0.out kk h0 (by rw [← HN.out]; exact hltz)
      cases eA
      rw [Int.toNat_natCast] at q0 q1 q2 q3 q4 q5 q6 q7
      replace q0 := (BW.out.cell (World.block_lt_of_cell? w _ q0)).trans q0
      replace q1 := (BW.out.cell (World.block_lt_of_cell? w _ q1)).trans q1
      replace q2 := (BW.out.cell (World.block_lt_of_cell? w _ q2)).trans q2
      replace q3 := (BW.out.cell (World.block_lt_of_cell? w _ q3)).trans q3
      replace q4 := (BW.out.cell (World.block_lt_of_cell? w _ q4)).trans q4
      replace q5 := (BW.out.cell (World.block_lt_of_cell? w _ q5)).trans q5
      replace q6 := (BW.out.cell (World.block_lt_of_cell? w _ q6)).trans q6
      replace q7 := (BW.out.cell (World.block_lt_of_cell? w _ q7)).trans q7
      have hx : l[kk]? = some (rd_T31 l kk) := by
        unfold rd_T31
        simp [List.getD, hlen]
      have hcall := HP.out wr (rd_T31 l kk) (List.mem_of_getElem? hx) BW.out
      have HX := Aside0.mk (idxFrom_drop p l kk _ hx)
      clear hx
      generalize rd_T31 l kk = x at q0 q1 q2 q3 q4 q5 q6 q7 hcall HX
      unfold c31 at hcall
      cases hq : p x with
      | true =>
        rw [hq] at hcall
        have HQ := Aside0.mk hq
        clear hq
        go_wp2_with (go_at_fn g; refine hcall.mono ?_; rintro e w' ⟨rfl, hb'⟩)
        go_ret
        refine ⟨?_, ?_⟩
        · rw [← HI.out, HX.out, HQ.out]; rfl
        · exact below_then BW.out BW.out.size hb'
      | false =>
        rw [hq] at hcall
        have HQ := Aside0.mk hq
        clear hq
        go_wp2_with (go_at_fn g; refine hcall.mono ?_; rintro e w' ⟨rfl, hb'⟩)
        go_roundg (n - (kk + 1))
        case measure => omega
        case rel =>
          refine ⟨kk + 1, by omega, by omega, by go_num, ⟨below_then BW.out BW.out.size hb'⟩, ⟨?_⟩⟩
          rw [← HI.out, HX.out, HQ.out]; rfl
    · have hltz : ¬ (kk : Int) < (n : Int) := by omega
      have hk : kk = n := by omega
      have HK := Aside0.mk hk
      clear hk
      go_wp2
      go_ret
      refine ⟨?_, BW.out⟩
      rw [← HI.out, HK.out, HN.out]; simp [idxFrom]


/-- Some variables in blocks of their own, one behind the other. -/
def boxes (w : World) : List (Value × Nat) → World
  | [] => w
  | x :: l => boxes (w.alloc (.cells #[x.1] x.2)) l
theorem boxes_below (w : World) (l : List (Value × Nat)) : Below w.heap.size w (boxes w l) := by
  induction l generalizing w with
  | nil => exact Below.refl _ _
  | cons x l ih => exact below_then ((Below.refl _ w).alloc (Nat.le_refl _) _) (by simp) (ih _)
theorem boxes_cell (l : List (Value × Nat)) (w W : World) (h : Below (boxes w l).heap.size (boxes w l) W) (j : Nat) (v : Value) (t : Nat) (hj : l[j]? = some (v, t)) : W.cell? ⟨w.heap.size + j, 0, none⟩ = some v ∧ w.heap.size + j < W.heap.size := by
  induction l generalizing w j with
  | nil => simp at hj
  | cons x l ih =>
    cases j with
    | zero =>
      simp only [List.getElem?_cons_zero, Option.some.injEq] at hj
      subst hj
      have h2 : Below (w.alloc (.cells #[v] t)).heap.size (w.alloc (.cells #[v] t)) W := below_then (boxes_below _ l) (boxes_below _ l).size h
      have hs : w.heap.size < (w.alloc (.cells #[v] t)).heap.size := by simp
      exact ⟨(h2.cell (p := ⟨w.heap.size, 0, none⟩) hs).trans (by simp), Nat.lt_of_lt_of_le hs h2.size⟩
    | succ j =>
      have := ih (w.alloc (.cells #[x.1] x.2)) h j hj
      have e : (w.alloc (.cells #[x.1] x.2)).heap.size + j = w.heap.size + (j + 1) := by simp; omega
      rw [e] at this
      exact this

/-- guard.First's closure. -/
theorem first35 (x : S31) (a1 a2 a3 a4 a5 : Int) (b1 b2 b3 b4 b5 : Nat) (r : Bool) (W : World) (h : guard_Matches.f x.f0 x.f1 x.f2.f0 x.f2.f1 x.f3.f0 x.f3.f1 x.f4 x.f5 a1 a2 a3 a4 a5 = some r)
    (h1 : W.cell? ⟨b1, 0, none⟩ = some (.int .i64 a1)) (h2 : W.cell? ⟨b2, 0, none⟩ = some (.int .i64 a2)) (h3 : W.cell? ⟨b3, 0, none⟩ = some (.int .i64 a3)) (h4 : W.cell? ⟨b4, 0, none⟩ = some (.int .u32 a4)) (h5 : W.cell? ⟨b5, 0, none⟩ = some (.int .u32 a5))
    (l1 : b1 < W.heap.size) (l2 : b2 < W.heap.size) (l3 : b3 < W.heap.size) (l4 : b4 < W.heap.size) (l5 : b5 < W.heap.size) :
    Calls Try.prog 35 (#[c31 x] ++ #[.pointer (some ⟨b1, 0, none⟩), .pointer (some ⟨b2, 0, none⟩), .pointer (some ⟨b3, 0, none⟩), .pointer (some ⟨b4, 0, none⟩), .pointer (some ⟨b5, 0, none⟩)]) W fun e w' => e = .returned (.bool r) ∧ Below W.heap.size W w' := by
  unfold c31
  show Calls Try.prog 35 #[.agg #[.int .i64 x.f0, .int .i64 x.f1, .int .u32 x.f2.f0, .int .i64 x.f2.f1, .int .u32 x.f3.f0, .int .i64 x.f3.f1, .int .i64 x.f4, .int .i64 x.f5], .pointer (some ⟨b1, 0, none⟩), .pointer (some ⟨b2, 0, none⟩), .pointer (some ⟨b3, 0, none⟩), .pointer (some ⟨b4, 0, none⟩), .pointer (some ⟨b5, 0, none⟩)] W _
  have hc := fun w => guard_Matches.calls x.f0 x.f1 x.f2.f0 x.f2.f1 x.f3.f0 x.f3.f1 x.f4 x.f5 a1 a2 a3 a4 a5 r w h
  have HC := Aside0.mk hc
  clear hc h
  go_enter Try.func35, Try.ntmps35
  go_wp2_with (go_at_call 12; refine (HC.out _).mono ?_; rintro e w' ⟨rfl, hb⟩)
  go_ret
  exact ⟨rfl, below_then ((Below.refl _ _).alloc (Nat.le_refl _) _) (by simp) hb⟩

/-- Does a rule match? (guard.Matches is total.) -/
def mtB (x : S31) (a1 a2 a3 a4 a5 : Int) : Bool := (guard_Matches.f x.f0 x.f1 x.f2.f0 x.f2.f1 x.f3.f0 x.f3.f1 x.f4 x.f5 a1 a2 a3 a4 a5).getD false
theorem wide_some (a b : Int) : guard_wide.f a b = some (a == -1 || a == b) := by
  unfold guard_wide.f
  by_cases h : a = -1 <;> simp [h]
theorem right_some (a b : Int) : ∃ r, addr_Right.f a b = some r := by
  unfold addr_Right.f addr_Cut.f addr_Mask.f
  simp only [Option.bind_some]
  repeat' split
  all_goals exact ⟨_, rfl⟩
theorem holds_some (a b c : Int) : ∃ r, addr_Holds.f a b c = some r := by
  unfold addr_Holds.f
  obtain ⟨r, h⟩ := right_some a b
  rw [h]
  cases r <;> simp [addr_Mask.f]
theorem matches_some (x : S31) (a1 a2 a3 a4 a5 : Int) : guard_Matches.f x.f0 x.f1 x.f2.f0 x.f2.f1 x.f3.f0 x.f3.f1 x.f4 x.f5 a1 a2 a3 a4 a5 = some (mtB x a1 a2 a3 a4 a5) := by
  have : ∃ r, guard_Matches.f x.f0 x.f1 x.f2.f0 x.f2.f1 x.f3.f0 x.f3.f1 x.f4 x.f5 a1 a2 a3 a4 a5 = some r := by
    unfold guard_Matches.f
    obtain ⟨r1, h1⟩ := holds_some x.f2.f0 x.f2.f1 a4
    obtain ⟨r2, h2⟩ := holds_some x.f3.f0 x.f3.f1 a5
    simp only [wide_some, h1, h2, Option.bind_some]
    repeat' split
    all_goals exact ⟨_, rfl⟩
  obtain ⟨r, h⟩ := this
  unfold mtB
  rw [h]; rfl

def guard_First.f (l0 : List S31) (a1 a2 a3 a4 a5 : Int) : Option Int := if l0.length ≤ 9223372036854775807 then some (idxFrom (fun x => mtB x a1 a2 a3 a4 a5) l0 0) else none

set_option maxHeartbeats 2000000 in
theorem guard_First.calls (A0 : Option Addr) (c0 : Nat) (l0 : List (S31)) (a1 : Int) (a2 : Int) (a3 : Int) (a4 : Int) (a5 : Int) (r : Int) (w : World) (hr0 : Kd.C k31 w A0 l0.length l0) (_hc0 : l0.length ≤ c0) (h : guard_First.f l0 a1 a2 a3 a4 a5 = some r) :
    Calls Try.prog 14 #[.slice A0 l0.length c0, .int .i64 a1, .int .i64 a2, .int .i64 a3, .int .u32 a4, .int .u32 a5] w fun e w' => e = .returned (.int .i64 r) ∧ Below w.heap.size w w' := by
  unfold guard_First.f at h
  by_cases hbig : l0.length ≤ 9223372036854775807
  · rw [if_pos hbig] at h
    obtain rfl := Option.some.inj h
    clear h
    have hmf : ∀ (fn : Fn) (first cap : Array Value) (w : World), (Instr.makeFunc fn first cap).run Try.prog w = .ok (.func fn first cap) w := fun _ _ _ _ => rfl
    have eg : ∀ args w, (callFunc 35 args).run Try.prog w = .ok (.enter 35 args) w := enters_of Try.func35 (by kernel_rfl) rfl
    have hb5 := boxes_below w [(.int .i64 a1, 3), (.int .i64 a2, 3), (.int .i64 a3, 3), (.int .u32 a4, 23), (.int .u32 a5, 23)]
    have hcon := idx34 35 #[.pointer (some ⟨w.heap.size, 0, none⟩), .pointer (some ⟨w.heap.size + 1, 0, none⟩), .pointer (some ⟨w.heap.size + 2, 0, none⟩), .pointer (some ⟨w.heap.size + 3, 0, none⟩), .pointer (some ⟨w.heap.size + 4, 0, none⟩)]
      (fun x => mtB x a1 a2 a3 a4 a5) eg A0 c0 l0 _ (Kd.C_below hr0 hb5) hbig (fun W x _ hW => by
        have hc := boxes_cell _ w W hW
        exact first35 x a1 a2 a3 a4 a5 _ _ _ _ _ _ W (matches_some x a1 a2 a3 a4 a5) (hc 0 _ _ rfl).1 (hc 1 _ _ rfl).1 (hc 2 _ _ rfl).1 (hc 3 _ _ rfl).1 (hc 4 _ _ rfl).1 (hc 0 _ _ rfl).2 (hc 1 _ _ rfl).2 (hc 2 _ _ rfl).2 (hc 3 _ _ rfl).2 (hc 4 _ _ rfl).2)
    change Calls Try.prog 34 _ (((((w.alloc (.cells #[.int .i64 a1] 3)).alloc (.cells #[.int .i64 a2] 3)).alloc (.cells #[.int .i64 a3] 3)).alloc (.cells #[.int .u32 a4] 23)).alloc (.cells #[.int .u32 a5] 23)) _ at hcon
    have HC := Aside0.mk hcon
    have HB := Aside0.mk hb5
    clear hcon hb5 hr0
    generalize idxFrom (fun x => mtB x a1 a2 a3 a4 a5) l0 0 = r at HC ⊢
    go_enter Try.func14, Try.ntmps14
    go_wp2_with (go_at_call 34; refine HC.out.mono ?_; rintro e w' ⟨rfl, hb'⟩)
    go_ret
    exact ⟨rfl, below_then HB.out HB.out.size hb'⟩
  · rw [if_neg hbig] at h; cases h


/-! ### Right -/
theorem bel_trans {w w1 w2 : World} (h : Below w.heap.size w w1) (k : Below w1.heap.size w1 w2) : Below w.heap.size w w2 := below_then h h.size k
theorem bcell {W w1 : World} (hb : Below W.heap.size W w1) : ∀ b o, b < W.heap.size → w1.cell? ⟨b, o, none⟩ = W.cell? ⟨b, o, none⟩ :=
  fun b o h => hb.cell (p := ⟨b, o, none⟩) h
def arB (a b : Int) : Bool := (addr_Right.f a b).getD false
theorem ar_some (a b : Int) : addr_Right.f a b = some (arB a b) := by
  obtain ⟨r, h⟩ := right_some a b
  unfold arB
  rw [h]; rfl
theorem ar_calls (a b : Int) (w : World) : Calls Try.prog 54 #[.agg #[.int .u32 a, .int .i64 b]] w fun e w' => e = .returned (.bool (arB a b)) ∧ Below w.heap.size w w' := addr_Right.calls a b _ w (ar_some a b)
def inB (n lo hi : Int) : Bool := decide (lo ≤ n) && decide (n < hi)
theorem in56 (n lo hi : Int) (w : World) : Calls Try.prog 56 #[.int .i64 n, .int .i64 lo, .int .i64 hi] w fun e w' => e = .returned (.bool (inB n lo hi)) ∧ w = w' := by
  go_enter Try.func56, Try.ntmps56
  go_wp2
  all_goals
    go_ret
    exact ⟨by simp_all [inB]; try omega, rfl⟩

def grB (n : Int) (x : S31) : Bool := inB x.f0 (-1) 8 && inB x.f1 (-1) n && inB x.f4 (-1) 256 && inB x.f5 0 n && arB x.f2.f0 x.f2.f1 && arB x.f3.f0 x.f3.f1

set_option maxHeartbeats 2000000 in
theorem right38 (n : Int) (x : S31) (w : World) : Calls Try.prog 38 #[.int .i64 n, c31 x] w fun e w' => e = .returned (.bool (grB n x)) ∧ Below w.heap.size w w' := by
  unfold c31
  have hu29 := Try.underlying29
  go_enter Try.func38, Try.ntmps38
  go_wp2_with (first | (go_at_call 56; refine (in56 _ _ _ _).mono ?_; rintro e w' ⟨rfl, rfl⟩) | (go_at_call 54; refine (ar_calls _ _ _).mono ?_; rintro e w' ⟨rfl, hb⟩; have hcl := bcell hb))
  all_goals
    go_ret
    refine ⟨by simp_all [grB], ?_⟩
    repeat (first | exact Below.refl _ _ | (with_reducible refine bel_trans ?_ (by assumption)) | apply below_alloc)


/-- guard.Right's closure: a rule that isn't right. -/
theorem right37 (n : Int) (x : S31) (b : Nat) (W : World) (h1 : W.cell? ⟨b, 0, none⟩ = some (.int .i64 n)) (l1 : b < W.heap.size) :
    Calls Try.prog 37 (#[c31 x] ++ #[.pointer (some ⟨b, 0, none⟩)]) W fun e w' => e = .returned (.bool (!grB n x)) ∧ Below W.heap.size W w' := by
  have hc := fun w => right38 n x w
  have HC := Aside0.mk hc
  clear hc
  unfold c31 at HC ⊢
  show Calls Try.prog 37 #[.agg #[.int .i64 x.f0, .int .i64 x.f1, .int .u32 x.f2.f0, .int .i64 x.f2.f1, .int .u32 x.f3.f0, .int .i64 x.f3.f1, .int .i64 x.f4, .int .i64 x.f5], .pointer (some ⟨b, 0, none⟩)] W _
  go_enter Try.func37, Try.ntmps37
  go_wp2_with (go_at_call 38; refine (HC.out _).mono ?_; rintro e w' ⟨rfl, hb⟩)
  go_ret
  exact ⟨rfl, below_then ((Below.refl _ _).alloc (Nat.le_refl _) _) (by simp) hb⟩

theorem idxFrom_ge {α : Type} (p : α → Bool) (l : List α) (i : Int) (hi : 0 ≤ i) : decide (0 ≤ idxFrom p l i) = l.any p := by
  induction l generalizing i with
  | nil => simp [idxFrom]
  | cons x l ih =>
    unfold idxFrom
    by_cases h : p x = true
    · simp [h, hi]
    · simp only [h, if_false, List.any_cons, Bool.false_eq_true]
      rw [ih (i + 1) (by omega)]
      simp

/-- slices.ContainsFunc over relabelling rules. -/
theorem has36 (g : Nat) (lb : Array Value) (p : S31 → Bool) (eg : ∀ args w, (callFunc g args).run Try.prog w = .ok (.enter g args) w) (A : Option Addr) (c : Nat) (l : List S31) (w : World)
    (hr : Kd.C k31 w A l.length l) (hbig : l.length ≤ 9223372036854775807)
    (hp : ∀ W x, x ∈ l → Below w.heap.size w W → Calls Try.prog g (#[c31 x] ++ lb) W fun e w' => e = .returned (.bool (p x)) ∧ Below W.heap.size W w') :
    Calls Try.prog 36 #[.slice A l.length c, .func (.func g) #[] lb] w fun e w' => e = .returned (.bool (l.any p)) ∧ Below w.heap.size w w' := by
  have hcon := idx34 g lb p eg A c l w hr hbig hp
  rw [← idxFrom_ge p l 0 (Int.le_refl 0)]
  have HC := Aside0.mk hcon
  clear hcon hp hr
  generalize idxFrom p l 0 = r at HC ⊢
  go_enter Try.func36, Try.ntmps36
  go_wp2_with (go_at_call 34; refine HC.out.mono ?_; rintro e w' ⟨rfl, hb'⟩)
  go_ret
  exact ⟨rfl, hb'⟩

def guard_Right.f (a0 : Int) (l1 : List S31) : Option Bool := if l1.length ≤ 9223372036854775807 then some (!l1.any fun x => !grB a0 x) else none

set_option maxHeartbeats 2000000 in
theorem guard_Right.calls (a0 : Int) (A1 : Option Addr) (c1 : Nat) (l1 : List (S31)) (r : Bool) (w : World) (hr1 : Kd.C k31 w A1 l1.length l1) (_hc1 : l1.length ≤ c1) (h : guard_Right.f a0 l1 = some r) :
    Calls Try.prog 17 #[.int .i64 a0, .slice A1 l1.length c1] w fun e w' => e = .returned (.bool r) ∧ Below w.heap.size w w' := by
  unfold guard_Right.f at h
  by_cases hbig : l1.length ≤ 9223372036854775807
  · rw [if_pos hbig] at h
    obtain rfl := Option.some.inj h
    clear h
    have hmf : ∀ (fn : Fn) (first cap : Array Value) (w : World), (Instr.makeFunc fn first cap).run Try.prog w = .ok (.func fn first cap) w := fun _ _ _ _ => rfl
    have eg : ∀ args w, (callFunc 37 args).run Try.prog w = .ok (.enter 37 args) w := enters_of Try.func37 (by kernel_rfl) rfl
    have hb5 := boxes_below w [(.int .i64 a0, 3)]
    have hcon := has36 37 #[.pointer (some ⟨w.heap.size, 0, none⟩)] (fun x => !grB a0 x) eg A1 c1 l1 _ (Kd.C_below hr1 hb5) hbig (fun W x _ hW => by
        have hc := boxes_cell _ w W hW
        exact right37 a0 x _ W (hc 0 _ _ rfl).1 (hc 0 _ _ rfl).2)
    change Calls Try.prog 36 _ (w.alloc (.cells #[.int .i64 a0] 3)) _ at hcon
    have HC := Aside0.mk hcon
    have HB := Aside0.mk hb5
    clear hcon hb5 hr1
    generalize (l1.any fun x => !grB a0 x) = r at HC ⊢
    go_enter Try.func17, Try.ntmps17
    go_wp2_with (go_at_call 36; refine HC.out.mono ?_; rintro e w' ⟨rfl, hb'⟩)
    go_ret
    exact ⟨rfl, below_then HB.out HB.out.size hb'⟩
  · rw [if_neg hbig] at h; cases h

end Go.Proofs.Ytakfnghakbjncaa.P
