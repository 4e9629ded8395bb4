/- Contracts of rule's functions that hand a function value on: First, Right. For the program's rule (layer 15). -/
import Derived.Test.YtakfnghakbjncaaG1
import Derived.Test.YtakfnghakbjncaaPx14
namespace Go.Proofs.Ytakfnghakbjncaa.P
open Go.RowKit Go.Shelf Go.Proofs.YtakfnghakbjncaaW.PrintWords Go.Proofs.YtakfnghakbjncaaW.PrintLast Go.Proofs.YtakfnghakbjncaaW.PrintMore

def c42 (x : S42) : Value := .agg #[.int .i64 x.f0, .int .i64 x.f1, .int .u32 x.f2.f0, .int .i64 x.f2.f1, .int .u32 x.f3.f0, .int .i64 x.f3.f1, .int .i64 x.f4, .int .i64 x.f5, .int .i64 x.f6, .int .i64 x.f7, .int .i64 x.f8, .bool x.f9]

set_option maxHeartbeats 4000000 in
/-- slices.IndexFunc, whatever the function value: p is what it answers. -/
theorem idx39 (g : Nat) (lb : Array Value) (p : S42 → Bool) (eg : ∀ args w, (callFunc g args).run Try.prog w = .ok (.enter g args) w) (A : Option Addr) (c : Nat) (l : List S42) (w : World)
    (hr : Kd.C k42 w A l.length l) (hbig : l.length ≤ 9223372036854775807)
    (hp : ∀ W x, x ∈ l → Below w.heap.size w W → Calls Try.prog g (#[c42 x] ++ lb) W fun e w' => e = .returned (.bool (p x)) ∧ Below W.heap.size W w') :
    Calls Try.prog 39 #[.slice A l.length c, .func (.func g) #[] lb] w fun e w' => e = .returned (.int .i64 (idxFrom p l 0)) ∧ Below w.heap.size w w' := by
  have HR0 := Aside0.mk hr
  have HP := Aside0.mk hp
  clear hr hp
  have hu42 := Try.underlying42
  obtain ⟨n, hn⟩ : ∃ n, n = l.length := ⟨_, rfl⟩
  have HN := Aside0.mk hn
  rw [← hn] at hbig ⊢
  clear hn
  go_enter Try.func39, Try.ntmps39
  go_wp2
  go_loopg [5, 8] n (fun gg _ s8 wr => ∃ kk : Nat, kk ≤ n ∧ n - kk ≤ gg ∧ s8 = .int .i64 kk ∧ Aside0 (Below w.heap.size w wr) ∧ Aside0 (idxFrom p (l.drop kk) kk = idxFrom p l 0))
  case atStart => exact ⟨0, Nat.zero_le _, by omega, rfl, ⟨Below.refl _ w⟩, ⟨rfl⟩⟩
  case round =>
    obtain ⟨kk, hkk, hg, rfl, BW, HI⟩ := hrel
    by_cases hlt : kk < n
    · have hltz : (kk : Int) < (n : Int) := by omega
      have h0 : (0 : Int) ≤ (kk : Int) := by omega
      have hlen : kk < l.length := by rw [← HN.out]; exact hlt
      obtain ⟨ad, eA, q0, q1, q2, q3, q4, q5, q6, q7, q8, q9, q10, q11⟩ := at_T42 HR0.out kk h0 (by rw [← HN.out]; exact hltz)
      cases eA
      rw [Int.toNat_natCast] at q0 q1 q2 q3 q4 q5 q6 q7 q8 q9 q10 q11
      replace q0 := (BW.out.cell (World.block_lt_of_cell? w _ q0)).trans q0
      replace q1 := (BW.out.cell (World.block_lt_of_cell? w _ q1)).trans q1
      replace q2 := (BW.out.cell (World.block_lt_of_cell? w _ q2)).trans q2
      replace q3 := (BW.out.cell (World.block_lt_of_cell? w _ q3)).trans q3
      replace q4 := (BW.out.cell (World.block_lt_of_cell? w _ q4)).trans q4
      replace q5 := (BW.out.cell (World.block_lt_of_cell? w _ q5)).trans q5
      replace q6 := (BW.out.cell (World.block_lt_of_cell? w _ q6)).trans q6
      replace q7 := (BW.out.cell (World.block_lt_of_cell? w _ q7)).trans q7
      replace q8 := (BW.out.cell (World.block_lt_of_cell? w _ q8)).trans q8
      replace q9 := (BW.out.cell (World.block_lt_of_cell? w _ q9)).trans q9
      replace q10 := (BW.out.cell (World.block_lt_of_cell? w _ q10)).trans q10
      replace q11 := (BW.out.cell (World.block_lt_of_cell? w _ q11)).trans q11
      have hx : l[kk]? = some (rd_T42 l kk) := by
        unfold rd_T42
        simp [List.getD, hlen]
      have hcall := HP.out wr (rd_T42 l kk) (List.mem_of_getElem? hx) BW.out
      have HX := Aside0.mk (idxFrom_drop p l kk _ hx)
      clear hx
      generalize rd_T42 l kk = x at q0 q1 q2 q3 q4 q5 q6 q7 q8 q9 q10 q11 hcall HX
      unfold c42 at hcall
      cases hq : p x with
      | true =>
        rw [hq] at hcall
        have HQ := Aside0.mk hq
        clear hq
        go_wp2_with (go_at_fn g; refine hcall.mono ?_; rintro e w' ⟨rfl, hb'⟩)
        go_ret
        refine ⟨?_, ?_⟩
        · rw [← HI.out, HX.out, HQ.out]; rfl
        · exact below_then BW.out BW.out.size hb'
      | false =>
        rw [hq] at hcall
        have HQ := Aside0.mk hq
        clear hq
        go_wp2_with (go_at_fn g; refine hcall.mono ?_; rintro e w' ⟨rfl, hb'⟩)
        go_roundg (n - (kk + 1))
        case measure => omega
        case rel =>
          refine ⟨kk + 1, by omega, by omega, by go_num, ⟨below_then BW.out BW.out.size hb'⟩, ⟨?_⟩⟩
          rw [← HI.out, HX.out, HQ.out]; rfl
    · have hltz : ¬ (kk : Int) < (n : Int) := by omega
      have hk : kk = n := by omega
      have HK := Aside0.mk hk
      clear hk
      go_wp2
      go_ret
      refine ⟨?_, BW.out⟩
      rw [← HI.out, HK.out, HN.out]; simp [idxFrom]

/-- slices.ContainsFunc. -/
theorem has47 (g : Nat) (lb : Array Value) (p : S42 → Bool) (eg : ∀ args w, (callFunc g args).run Try.prog w = .ok (.enter g args) w) (A : Option Addr) (c : Nat) (l : List S42) (w : World)
    (hr : Kd.C k42 w A l.length l) (hbig : l.length ≤ 9223372036854775807)
    (hp : ∀ W x, x ∈ l → Below w.heap.size w W → Calls Try.prog g (#[c42 x] ++ lb) W fun e w' => e = .returned (.bool (p x)) ∧ Below W.heap.size W w') :
    Calls Try.prog 47 #[.slice A l.length c, .func (.func g) #[] lb] w fun e w' => e = .returned (.bool (l.any p)) ∧ Below w.heap.size w w' := by
  have hcon := idx39 g lb p eg A c l w hr hbig hp
  rw [← idxFrom_ge p l 0 (Int.le_refl 0)]
  have HC := Aside0.mk hcon
  clear hcon hp hr
  generalize idxFrom p l 0 = r at HC ⊢
  go_enter Try.func47, Try.ntmps47
  go_wp2_with (go_at_call 39; refine HC.out.mono ?_; rintro e w' ⟨rfl, hb'⟩)
  go_ret
  exact ⟨rfl, hb'⟩


/-! ### rule.all, right, Matches: total -/
theorem bidx_loop (l : List Bool) (hl : l.length ≤ 1000) (d : Nat) : ∀ (k i : Nat), i + d = l.length → d < k → slices_Index_bool_bool.l0 k l false l.length i = some (idxFrom (fun b => false == b) (l.drop i) i) := by
  induction d with
  | zero =>
    intro k i hi hk
    obtain ⟨k, rfl⟩ : ∃ m, k = m + 1 := ⟨k - 1, by omega⟩
    simp only [slices_Index_bool_bool.l0]
    rw [if_neg (by omega), List.drop_of_length_le (by omega)]
    rfl
  | succ d ih =>
    intro k i hi hk
    obtain ⟨k, rfl⟩ : ∃ m, k = m + 1 := ⟨k - 1, by omega⟩
    have hil : i < l.length := by omega
    simp only [slices_Index_bool_bool.l0]
    rw [if_pos (by omega), if_pos (by omega), if_pos (by omega), List.drop_eq_getElem_cons hil]
    have e : rdOf false l (i : Int) = l[i] := by unfold rdOf; simp [List.getD, hil]
    have e2 : wrap64 ((i : Int) + 1) = ((i + 1 : Nat) : Int) := by unfold wrap64; omega
    rw [e, e2, ih k (i + 1) (by omega) (by omega)]
    have e3 : ∀ (x : Bool) (s : List Bool) (j : Int), idxFrom (fun b => false == b) (x :: s) j = if (false == x) = true then j else idxFrom (fun b => false == b) s (j + 1) := fun _ _ _ => rfl
    rw [e3]
    split <;> rfl
theorem all_some (l : List Bool) (hl : l.length ≤ 20) (k : Nat) (hk : 30 ≤ k) : rule_all.f k l = some (l.all id) := by
  unfold rule_all.f slices_Contains_bool_bool.f slices_Index_bool_bool.f
  have := bidx_loop l (by omega) l.length k 0 (by omega) (by omega)
  rw [List.drop_zero] at this
  rw [show (0 : Int) = ((0 : Nat) : Int) from rfl, this]
  simp only [Option.bind_some]
  congr 1
  have := idxFrom_ge (fun b => false == b) l 0 (Int.le_refl 0)
  rw [show ((0 : Nat) : Int) = (0 : Int) from rfl] at *
  show (!decide (0 ≤ idxFrom (fun b => false == b) l 0)) = _
  rw [this, List.not_any_eq_all_not]
  congr 1
  funext b
  cases b <;> rfl
def rinB (a m : Int) : Bool := decide (-1 ≤ a) && decide (a ≤ m)
theorem rin_some (a m : Int) : rule_right_1.f a m = some (rinB a m) := by
  unfold rule_right_1.f rinB
  by_cases h : a ≥ -1
  · rw [if_pos h]; have : (-1 : Int) ≤ a := h; simp [this]
  · rw [if_neg h]; have : ¬ (-1 : Int) ≤ a := h; simp [this]
def spB (a b : Int) : Bool := decide (0 ≤ a) && decide (a ≤ b) && decide (b ≤ 65535)
theorem sp_some (a b : Int) : rule_span.f a b = some (spB a b) := by
  unfold rule_span.f spB
  by_cases h : a ≥ 0
  · rw [if_pos h]
    have h' : (0 : Int) ≤ a := h
    by_cases h2 : a ≤ b
    · rw [if_pos h2]; simp [h', h2]
    · rw [if_neg h2]; simp [h2]
  · rw [if_neg h]; have : ¬ (0 : Int) ≤ a := h; simp [this]
/-- Is a rule right? -/
def rrB (x : S42) : Bool := rinB x.f0 7 && rinB x.f1 7 && rinB x.f4 255 && arB x.f2.f0 x.f2.f1 && arB x.f3.f0 x.f3.f1 && spB x.f5 x.f6 && spB x.f7 x.f8
theorem rr_some (x : S42) (k : Nat) (hk : 30 ≤ k) : rule_right.f k x.f0 x.f1 x.f2.f0 x.f2.f1 x.f3.f0 x.f3.f1 x.f4 x.f5 x.f6 x.f7 x.f8 x.f9 = some (rrB x) := by
  unfold rule_right.f
  simp only [rin_some, sp_some, ar_some, Option.bind_some]
  rw [all_some _ (by simp) k hk]
  simp only [Option.bind_some, rrB, List.all_cons, List.all_nil, id, Bool.and_true, Bool.and_assoc]
def rwB (a b : Int) : Bool := a == -1 || a == b
theorem rw_some (a b : Int) : rule_wide.f a b = some (rwB a b) := by
  unfold rule_wide.f rwB
  by_cases h : a = -1 <;> simp [h]
def hoB (p b c : Int) : Bool := (addr_Holds.f p b c).getD false
theorem ho_some (p b c : Int) : addr_Holds.f p b c = some (hoB p b c) := by
  obtain ⟨r, h⟩ := holds_some p b c
  unfold hoB
  rw [h]; rfl
def poB (x : S42) (s d : Int) : Bool := decide (x.f5 ≤ s) && (decide (s ≤ x.f6) && (decide (x.f7 ≤ d) && decide (d ≤ x.f8)))
theorem po_some (x : S42) (s d a b c : Int) : rule_ports.f x.f0 x.f1 x.f2.f0 x.f2.f1 x.f3.f0 x.f3.f1 x.f4 x.f5 x.f6 x.f7 x.f8 x.f9 a b c s d = some (poB x s d) := by
  unfold rule_ports.f poB
  by_cases h1 : s ≥ x.f5
  · rw [if_pos h1]
    have h1' : x.f5 ≤ s := h1
    by_cases h2 : s ≤ x.f6
    · rw [if_pos h2]
      by_cases h3 : d ≥ x.f7
      · rw [if_pos h3]; have h3' : x.f7 ≤ d := h3; simp [h1', h2, h3']
      · rw [if_neg h3]; have h3' : ¬ x.f7 ≤ d := h3; simp [h3']
    · rw [if_neg h2]; simp [h2]
  · rw [if_neg h1]; have h1' : ¬ x.f5 ≤ s := h1; simp [h1']
/-- Has a protocol ports? -/
def ptB (p : Int) : Bool := p == 1 || p == 6 || p == 17
theorem pt_some (p : Int) : rule_ported.f p = some (ptB p) := by
  unfold rule_ported.f ptB
  by_cases h1 : p = 1
  · simp [h1]
  · by_cases h2 : p = 6
    · simp [h2]
    · simp [h1, h2]
/-- Does a rule match a question (in, out, src, dst, proto, sport, dport)? -/
def rmB (x : S42) (a0 a1 a2 a3 a4 a5 a6 : Int) : Bool := rrB x && (rwB x.f0 a0 && (rwB x.f1 a1 && (rwB x.f4 a4 && (hoB x.f2.f0 x.f2.f1 a2 && (hoB x.f3.f0 x.f3.f1 a3 && (!ptB a4 || poB x a5 a6))))))
theorem rm_some (x : S42) (a0 a1 a2 a3 a4 a5 a6 : Int) (k : Nat) (hk : 30 ≤ k) : rule_Matches.f k x.f0 x.f1 x.f2.f0 x.f2.f1 x.f3.f0 x.f3.f1 x.f4 x.f5 x.f6 x.f7 x.f8 x.f9 a0 a1 a2 a3 a4 a5 a6 = some (rmB x a0 a1 a2 a3 a4 a5 a6) := by
  unfold rule_Matches.f rmB
  simp only [rr_some x k hk, rw_some, ho_some, pt_some, po_some, Option.bind_some]
  cases rrB x with
  | false => simp
  | true =>
    simp only [if_true]
    rw [all_some _ (by simp) k hk, all_some _ (by simp) k hk]
    cases ptB a4 <;> simp

/-! ### First, Right -/
theorem first40 (x : S42) (a0 a1 a2 a3 a4 a5 a6 : Int) (b : Nat) (W : World) (h1 : W.heap[b]? = some (.cells #[.int .i64 a0, .int .i64 a1, .int .u32 a2, .int .u32 a3, .int .i64 a4, .int .i64 a5, .int .i64 a6] 46 (0, 0))) :
    Calls Try.prog 40 (#[c42 x] ++ #[.pointer (some ⟨b, 0, none⟩)]) W fun e w' => e = .returned (.bool (rmB x a0 a1 a2 a3 a4 a5 a6)) ∧ Below W.heap.size W w' := by
  have hc := fun w => rule_Matches.calls 30 x.f0 x.f1 x.f2.f0 x.f2.f1 x.f3.f0 x.f3.f1 x.f4 x.f5 x.f6 x.f7 x.f8 x.f9 a0 a1 a2 a3 a4 a5 a6 _ w (rm_some x a0 a1 a2 a3 a4 a5 a6 30 (Nat.le_refl _))
  have HC := Aside0.mk hc
  clear hc
  have lb : b < W.heap.size := blk_lt h1
  have z0 := blk_cell h1 0
  have z1 := blk_cell h1 1
  have z2 := blk_cell h1 2
  have z3 := blk_cell h1 3
  have z4 := blk_cell h1 4
  have z5 := blk_cell h1 5
  have z6 := blk_cell h1 6
  clear h1
  have hu46 := Try.underlying46
  have hu42 := Try.underlying42
  unfold c42
  show Calls Try.prog 40 #[.agg #[.int .i64 x.f0, .int .i64 x.f1, .int .u32 x.f2.f0, .int .i64 x.f2.f1, .int .u32 x.f3.f0, .int .i64 x.f3.f1, .int .i64 x.f4, .int .i64 x.f5, .int .i64 x.f6, .int .i64 x.f7, .int .i64 x.f8, .bool x.f9], .pointer (some ⟨b, 0, none⟩)] W _
  go_enter Try.func40, Try.ntmps40
  go_wp2_with (go_at_call 21; refine (HC.out _).mono ?_; rintro e w' ⟨rfl, hb⟩)
  go_ret
  exact ⟨rfl, below_then ((Below.refl _ _).alloc (Nat.le_refl _) _) (by simp) hb⟩

def rule_First.f (l0 : List S42) (a1_0 a1_1 a1_2 a1_3 a1_4 a1_5 a1_6 : Int) : Option Int := if l0.length ≤ 9223372036854775807 then some (idxFrom (fun x => rmB x a1_0 a1_1 a1_2 a1_3 a1_4 a1_5 a1_6) l0 0) else none

set_option maxHeartbeats 2000000 in
theorem rule_First.calls (A0 : Option Addr) (c0 : Nat) (l0 : List (S42)) (a0 a1 a2 a3 a4 a5 a6 : Int) (r : Int) (w : World) (hr0 : Kd.C k42 w A0 l0.length l0) (_hc0 : l0.length ≤ c0) (h : rule_First.f l0 a0 a1 a2 a3 a4 a5 a6 = some r) :
    Calls Try.prog 20 #[.slice A0 l0.length c0, .agg #[.int .i64 a0, .int .i64 a1, .int .u32 a2, .int .u32 a3, .int .i64 a4, .int .i64 a5, .int .i64 a6]] w fun e w' => e = .returned (.int .i64 r) ∧ Below w.heap.size w w' := by
  unfold rule_First.f at h
  by_cases hbig : l0.length ≤ 9223372036854775807
  · rw [if_pos hbig] at h
    obtain rfl := Option.some.inj h
    clear h
    have hmf : ∀ (fn : Fn) (first cap : Array Value) (w : World), (Instr.makeFunc fn first cap).run Try.prog w = .ok (.func fn first cap) w := fun _ _ _ _ => rfl
    have eg : ∀ args w, (callFunc 40 args).run Try.prog w = .ok (.enter 40 args) w := enters_of Try.func40 (by kernel_rfl) rfl
    have hb5 : Below w.heap.size w (w.alloc (.cells #[.int .i64 a0, .int .i64 a1, .int .u32 a2, .int .u32 a3, .int .i64 a4, .int .i64 a5, .int .i64 a6] 46)) := (Below.refl _ _).alloc (Nat.le_refl _) _
    have hcon := idx39 40 #[.pointer (some ⟨w.heap.size, 0, none⟩)] (fun x => rmB x a0 a1 a2 a3 a4 a5 a6) eg A0 c0 l0 _ (Kd.C_below hr0 hb5) hbig (fun W x _ hW =>
        first40 x a0 a1 a2 a3 a4 a5 a6 w.heap.size W ((hW.block w.heap.size (by simp)).trans (heap_alloc_new w _)))
    have HC := Aside0.mk hcon
    have HB := Aside0.mk hb5
    clear hcon hb5 hr0
    generalize idxFrom (fun x => rmB x a0 a1 a2 a3 a4 a5 a6) l0 0 = r at HC ⊢
    go_enter Try.func20, Try.ntmps20
    go_wp2_with (go_at_call 39; refine HC.out.mono ?_; rintro e w' ⟨rfl, hb'⟩)
    go_ret
    exact ⟨rfl, below_then HB.out HB.out.size hb'⟩
  · rw [if_neg hbig] at h; cases h

theorem right48 (x : S42) (W : World) : Calls Try.prog 48 (#[c42 x] ++ #[]) W fun e w' => e = .returned (.bool (!rrB x)) ∧ Below W.heap.size W w' := by
  have hc := fun w => rule_right.calls 30 x.f0 x.f1 x.f2.f0 x.f2.f1 x.f3.f0 x.f3.f1 x.f4 x.f5 x.f6 x.f7 x.f8 x.f9 _ w (rr_some x 30 (Nat.le_refl _))
  have HC := Aside0.mk hc
  clear hc
  have hu42 := Try.underlying42
  unfold c42
  show Calls Try.prog 48 #[.agg #[.int .i64 x.f0, .int .i64 x.f1, .int .u32 x.f2.f0, .int .i64 x.f2.f1, .int .u32 x.f3.f0, .int .i64 x.f3.f1, .int .i64 x.f4, .int .i64 x.f5, .int .i64 x.f6, .int .i64 x.f7, .int .i64 x.f8, .bool x.f9]] W _
  go_enter Try.func48, Try.ntmps48
  go_wp2_with (go_at_call 41; refine (HC.out _).mono ?_; rintro e w' ⟨rfl, hb⟩)
  go_ret
  exact ⟨rfl, below_then ((Below.refl _ _).alloc (Nat.le_refl _) _) (by simp) hb⟩

def rule_Right.f (l0 : List S42) : Option Bool := if l0.length ≤ 9223372036854775807 then some (!l0.any fun x => !rrB x) else none
set_option maxHeartbeats 2000000 in
theorem rule_Right.calls (A0 : Option Addr) (c0 : Nat) (l0 : List (S42)) (r : Bool) (w : World) (hr0 : Kd.C k42 w A0 l0.length l0) (_hc0 : l0.length ≤ c0) (h : rule_Right.f l0 = some r) :
    Calls Try.prog 26 #[.slice A0 l0.length c0] w fun e w' => e = .returned (.bool r) ∧ Below w.heap.size w w' := by
  unfold rule_Right.f at h
  by_cases hbig : l0.length ≤ 9223372036854775807
  · rw [if_pos hbig] at h
    obtain rfl := Option.some.inj h
    clear h
    have eg : ∀ args w, (callFunc 48 args).run Try.prog w = .ok (.enter 48 args) w := enters_of Try.func48 (by kernel_rfl) rfl
    have hcon := has47 48 #[] (fun x => !rrB x) eg A0 c0 l0 w hr0 hbig (fun W x _ _ => right48 x W)
    have HC := Aside0.mk hcon
    clear hcon hr0
    generalize (l0.any fun x => !rrB x) = r at HC ⊢
    go_enter Try.func26, Try.ntmps26
    go_wp2_with (go_at_call 47; refine HC.out.mono ?_; rintro e w' ⟨rfl, hb'⟩)
    go_ret
    exact ⟨rfl, hb'⟩
  · rw [if_neg hbig] at h; cases h

end Go.Proofs.Ytakfnghakbjncaa.P
