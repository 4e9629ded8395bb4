/- Labels' ==; the options read by both (one contract each); plain facts for BasicEncodes and BasicDecodes. -/
import Derived.Test.YtifmckhabkghcaaD4
namespace Go.Proofs.Ytifmckhabkghcaa.P
open Go.RowKit
set_option linter.unusedSimpArgs false

def labK (x : Lab) : List Lit := .int .i64 x.lv :: catK x.S
theorem keyLits25 (x : Lab) (hw : (Lit.int .i64 x.lv).wf = true) (d : Nat) : Try.prog.keyLits (d + 3) 25 (labL x) = some (labK x) := by
  have h3 : Try.prog.keyLits (d + 2) 3 [.int .i64 x.lv] = some [.int .i64 x.lv] := by
    unfold Program.keyLits
    rw [Try.underlying3]
    simp [hw]
  have h23 := keyLits23 x.S d
  have c3 : Try.prog.cellsOf 3 = 1 := by kernel_rfl
  have c23 : Try.prog.cellsOf 23 = 30 := by kernel_rfl
  have c25 : Try.prog.cellsOf 25 = 31 := by kernel_rfl
  have hd : (labL x).drop 1 = catL x.S := rfl
  have ht : (catL x.S).take 30 = catL x.S := List.take_of_length_le (by rw [catL_len]; exact Nat.le_refl _)
  have h0 : (labL x).take 1 = [.int .i64 x.lv] := rfl
  unfold Program.keyLits
  rw [Try.underlying25]
  simp [c3, c23, c25, labL_len, h0, hd, ht, h3, h23, List.mapM_cons, labK]
theorem lab_ext {x y : Lab} (h1 : x.lv = y.lv) (h2 : x.S = y.S) : x = y := by cases x; cases y; simp_all
theorem labK_inj {x y : Lab} (hx : x.S < 2 ^ 240) (hy : y.S < 2 ^ 240) (h : labK x = labK y) : x = y := by
  unfold labK at h
  simp only [List.cons.injEq, Lit.int.injEq, true_and] at h
  exact lab_ext h.1 (catK_inj hx hy h.2)
set_option maxRecDepth 100000 in
theorem eq25 {x y : Lab} (wx : (Lit.int .i64 x.lv).wf = true) (wy : (Lit.int .i64 y.lv).wf = true) (hx : x.S < 2 ^ 240) (hy : y.S < 2 ^ 240) (w : World) : (Op.equalIn 10000 25 (.agg (labA x)) (.agg (labA y))).run Try.prog w = .ok (decide (x = y)) w := by
  have hc : Try.prog.cellsOf 25 = 31 := by kernel_rfl
  have fm : ∀ x, (Value.agg (labA x)).formed Try.prog 25 = true := fun S => by simp [Value.formed, Try.underlying25, labA_size, hc]
  obtain ⟨r, hr, hi⟩ := run_equalIn_deep (P := Try.prog) 9997 3 25 (by kernel_rfl) w 3 3 (.agg (labA x)) (.agg (labA y)) _ _ (fm x) (fm y) (keyLits25 x wx 0) (keyLits25 y wy 0)
  rw [hr]
  congr 1
  rw [Bool.eq_iff_iff, hi]
  simp
  exact ⟨fun h => labK_inj hx hy h, fun h => by rw [h]⟩
theorem gd25 (op : BinOp) (a b : Operand) (xs ys : Array Value) (w : World) : (eqGuard op 25 a b (.agg xs) (.agg ys)).run Try.prog w = .ok () w := run_eqGuard_agg w op 25 a b xs ys (by kernel_rfl)

theorem wf_small (n : Int) (h0 : -1000 ≤ n) (h1 : n ≤ 1000) : (Lit.int .i64 n).wf = true := by
  have e1 : IntKind.i64.min = -9223372036854775808 := by decide
  have e2 : IntKind.i64.max = 9223372036854775807 := by decide
  simp [Lit.wf, e1, e2]; omega
/-- Any string is its bytes'. -/
def bl (s : ByteArray) : List Nat := s.data.toList.map UInt8.toNat
theorem bl_bs (s : ByteArray) : bs (bl s) = s := by
  apply ByteArray.ext
  unfold bs bl
  simp [List.map_map]
  show (s.data.toList.map fun x => UInt8.ofNat x.toNat).toArray = s.data
  have : (fun x : UInt8 => UInt8.ofNat x.toNat) = id := by funext x; simp
  rw [this]; simp
theorem bl_lt (s : ByteArray) : ∀ b ∈ bl s, b < 256 := by
  intro b hb
  obtain ⟨x, _, rfl⟩ := List.mem_map.1 hb
  exact x.toNat_lt
theorem bl_len (s : ByteArray) : (bl s).length = s.size := by unfold bl; rw [List.length_map, Array.length_toList]; rfl

theorem dec_enc {x : Lab} (hS : x.S < 2 ^ 240) (h : encE x = 0) : d1L (encD x) = x ∧ d1N (encD x) = 0 := by
  have e1 := encD_ok h
  have e2 := T1_enc x hS h
  obtain ⟨_, f0, f4⟩ := fits_auth h
  have hx : x1 (encL x) = x := by
    refine lab_ext ?_ e2
    show lvlN (((encL x).getD 0 0 : Nat) : Int) = x.lv
    have hh : (encL x).getD 0 0 = lvb x.lv.toNat := rfl
    rw [hh]
    have := lvl_of x.lv.toNat (by omega)
    unfold lvlN
    omega
  have hk : ok1 (encL x) = true := by
    unfold ok1
    rw [hx, e1]
    simp [h]
  rw [e1]
  simp [d1L, d1N, hk, hx]
theorem encD_len {x : Lab} (h : encE x = 0) : 0 < (encD x).length ∧ (encD x).length ≤ 200 := by
  have := fits_auth h
  rw [encD_ok h]
  unfold encL
  rw [List.length_cons, authL_len]
  omega
def DL (k : Int) (l : List Nat) : Lab := if k = 130 then (if l.length = 0 then ⟨0, 0⟩ else d1L l) else ⟨0, 0⟩
def DN (k : Int) (l : List Nat) : Nat := if k = 130 then (if l.length = 0 then 2 else d1N l) else 3
theorem dec19a (k : Int) (l : List Nat) (hl : ∀ b ∈ l, b < 256) (h1 : l.length ≤ 200) (w : World) : Calls Try.prog 19 #[.agg #[.int .i64 k, .string (bs l)]] w fun e w' => e = .returned (.tuple #[.agg (labA (DL k l)), .int .i64 (DN k l)]) ∧ Below w.heap.size w w' := by
  unfold DL DN
  by_cases hk : k = 130
  · subst hk
    by_cases h0 : l.length = 0
    · have : l = [] := List.length_eq_zero_iff.1 h0
      subst this
      exact dec19_none w
    · simp only [h0, if_true, if_false]
      exact dec19 l hl (by omega) h1 w
  · simp only [hk, if_false]
    exact dec19_kind k _ hk w
set_option maxRecDepth 100000 in
set_option maxHeartbeats 1000000 in
theorem dec20_kind (k : Int) (s : ByteArray) (hk : k ≠ 130) (w : World) : Calls Try.prog 20 #[.agg #[.int .i64 k, .string s]] w fun e w' => e = .returned (.tuple #[.agg (labA ⟨0, 0⟩), .int .i64 3]) ∧ Below w.heap.size w w' := by
  have hu25 := Try.underlying25
  have hu27 := Try.underlying27
  have dk : decide (k = 130) = false := decide_eq_false hk
  have HB := Lib.hid (bel_alloc (bel_alloc (Below.refl w.heap.size w) (.cells #[.int .i64 k, .string s] 27)) (.cells z25 25))
  have H1 := Lib.hid (heap_alloc2_new w (.cells #[.int .i64 k, .string s] 27) (.cells z25 25))
  unfold z25 at H1 HB
  rw [← z25_lab]
  go_enter Try.func20, Try.ntmps20
  go_wp2_with (first
    | (refine wpList_store_row rfl 25 (.tmp 2) (.tmp 12) rfl (w.heap.size + 1) z25 rfl rfl 25 z25 H1.out info25z' rfl (by kernel_rfl) ?_))
  refine bodyPost_ret (results_row_tmp rfl _ _ (w.heap.size + 1) 25 z25 (0, 0) _ rfl (setRow_heap _ (w.heap.size + 1) _ _ 25 _ H1.out) hu25 rfl info25z') rfl ⟨rfl, bel_setRow HB.out _ _ (by omega)⟩
set_option maxRecDepth 100000 in
set_option maxHeartbeats 1000000 in
theorem dec20_none (w : World) : Calls Try.prog 20 #[.agg #[.int .i64 130, .string (bs [])]] w fun e w' => e = .returned (.tuple #[.agg (labA ⟨0, 0⟩), .int .i64 2]) ∧ Below w.heap.size w w' := by
  have hu25 := Try.underlying25
  have hu27 := Try.underlying27
  have hbs : bs [] = ⟨#[]⟩ := rfl
  rw [hbs]
  have HB := Lib.hid (bel_alloc (bel_alloc (Below.refl w.heap.size w) (.cells #[.int .i64 130, .string ⟨#[]⟩] 27)) (.cells z25 25))
  have H1 := Lib.hid (heap_alloc2_new w (.cells #[.int .i64 130, .string ⟨#[]⟩] 27) (.cells z25 25))
  unfold z25 at H1 HB
  rw [← z25_lab]
  clear hbs
  go_enter Try.func20, Try.ntmps20
  go_wp2_with (first
    | (refine wpList_store_row rfl 25 (.tmp 2) (.tmp 17) rfl (w.heap.size + 1) z25 rfl rfl 25 z25 H1.out info25z' rfl (by kernel_rfl) ?_))
  refine bodyPost_ret (results_row_tmp rfl _ _ (w.heap.size + 1) 25 z25 (0, 0) _ rfl (setRow_heap _ (w.heap.size + 1) _ _ 25 _ H1.out) hu25 rfl info25z') rfl ⟨rfl, bel_setRow HB.out _ _ (by omega)⟩
theorem dec20a (k : Int) (l : List Nat) (hl : ∀ b ∈ l, b < 256) (h1 : l.length ≤ 200) (w : World) : Calls Try.prog 20 #[.agg #[.int .i64 k, .string (bs l)]] w fun e w' => e = .returned (.tuple #[.agg (labA (DL k l)), .int .i64 (DN k l)]) ∧ Below w.heap.size w w' := by
  unfold DL DN
  by_cases hk : k = 130
  · subst hk
    by_cases h0 : l.length = 0
    · have : l = [] := List.length_eq_zero_iff.1 h0
      subst this
      exact dec20_none w
    · simp only [h0, if_true, if_false]
      rw [(d12 l).1, (d12 l).2]
      exact dec20 l hl (by omega) h1 w
  · simp only [hk, if_false]
    exact dec20_kind k _ hk w
theorem DL_ok (k : Int) (l : List Nat) : (Lit.int .i64 (DL k l).lv).wf = true ∧ (DL k l).S < 2 ^ 240 := by
  have hz : (Lit.int .i64 0).wf = true ∧ (0 : Nat) < 2 ^ 240 := ⟨by decide, Nat.pow_pos (by decide)⟩
  unfold DL
  split
  · split
    · exact hz
    · unfold d1L
      split
      · refine ⟨?_, T1_lt l⟩
        show (Lit.int .i64 (lvlN ((l.getD 0 0 : Nat) : Int))).wf = true
        unfold lvlN lvlI
        apply wf_small <;> (repeat (first | split | omega))
      · exact hz
  · exact hz
def wantN (b : Int) (i : Nat) : Int := if 0 ≤ lvlI b ∧ lvlI b < i then lvlI b else 0
theorem lvlI_rng (b : Int) : -1 ≤ lvlI b ∧ lvlI b < 4 := by unfold lvlI; (repeat (first | split | omega))
theorem want4 (b : Int) : wantN b 4 = lvlN b := by
  have := lvlI_rng b
  unfold wantN lvlN
  split <;> omega
theorem want_hit {b : Int} {i : Nat} (hi : i < 4) (h : byteL i = b) : wantN b (i + 1) = i := by
  have : i = 0 ∨ i = 1 ∨ i = 2 ∨ i = 3 := by omega
  rcases this with rfl | rfl | rfl | rfl <;> (subst h; decide)
theorem want_no {b : Int} {i : Nat} (hi : i < 4) (h : byteL i ≠ b) : wantN b (i + 1) = wantN b i := by
  have h1 : lvlI b ≠ i := by
    intro e
    apply h
    have : i = 0 ∨ i = 1 ∨ i = 2 ∨ i = 3 := by omega
    unfold lvlI at e
    unfold byteL
    rcases this with rfl | rfl | rfl | rfl <;> simp at e ⊢ <;> (repeat (first | split at e | omega))
  unfold wantN
  split <;> split <;> omega
theorem want_ok (b : Int) : lvlB b = decide (byteL (lvlN b) = b) := by
  unfold lvlB lvlN
  by_cases h0 : b = 171
  · subst h0; decide
  by_cases h1 : b = 150
  · subst h1; decide
  by_cases h2 : b = 90
  · subst h2; decide
  by_cases h3 : b = 61
  · subst h3; decide
  have : lvlI b = -1 := by simp [lvlI, h0, h1, h2, h3]
  rw [this]
  symm
  exact decide_eq_false (fun h => h0 h.symm)
end Go.Proofs.Ytifmckhabkghcaa.P
