/- Slices of labels; contract of the reference's Find (layer 13). -/
import Derived.Test.YtifmckhabkghcaaE1
namespace Go.Proofs.Ytifmckhabkghcaa.P
open Go.RowKit
set_option linter.unusedSimpArgs false

/-- Labels in a block, from a place on. -/
def LabsAt (w : World) (b o : Nat) (l : List Lab) : Prop := ∀ (j : Nat) x, l[j]? = some x → w.rangeAt b (o + j * 31) (labL x)
/-- A slice's address of labels. -/
def SlA (w : World) (A : Option Addr) (l : List Lab) : Prop := 0 < l.length → ∃ b o, A = some ⟨b, o, none⟩ ∧ b < w.heap.size ∧ LabsAt w b o l
def LabOK (x : Lab) : Prop := (Lit.int .i64 x.lv).wf = true ∧ x.S < 2 ^ 240
theorem SlA.below {w w1 : World} {A : Option Addr} {l : List Lab} (h : SlA w A l) (hb : Below w.heap.size w w1) : SlA w1 A l := fun hl => by
  obtain ⟨b, o, rfl, hlt, hc⟩ := h hl
  exact ⟨b, o, rfl, Nat.lt_of_lt_of_le hlt hb.size, fun j x hx => range_below (hc j x hx) hlt hb⟩
theorem SlA.drewN {w : World} {A : Option Addr} {l : List Lab} (h : SlA w A l) (n : Nat) : SlA (w.drewN n) A l := h
/-- A load, kept whole. -/
def LDI (t : TypeId) (v : Value) : Sem Value := Instr.loadAt t v
theorem ldi25 (v : Value) : Instr.loadAt 25 v = LDI 25 v := rfl
attribute [local go_sem ↓] ldi25
theorem ld25 {w : World} {b o : Nat} {x : Lab} (h : w.rangeAt b o (labL x)) (n : Nat) : (LDI 25 (.pointer (some ⟨b, o, none⟩))).run Try.prog (w.drewN n) = .ok (.agg (labA x)) (w.drewN n) :=
  run_loadAt_mid (w.drewN n) b o 25 (labL x) _ h Try.underlying25 rfl (by rw [labL_len]; kernel_rfl)
/-- The place of a label; -1: it has none. -/
def findI (l : List Lab) (x : Lab) : Int := if l.idxOf x < l.length then (l.idxOf x : Int) else -1
theorem findI_hit {l : List Lab} {x : Lab} {i : Nat} (h : l[i]? = some x) (hno : ∀ j, j < i → l[j]? ≠ some x) : findI l x = i := by
  have hi := (List.getElem?_eq_some_iff.1 h).1
  have e : l.idxOf x = i := by
    have hm : x ∈ l := List.mem_of_getElem? h
    have h1 := List.idxOf_lt_length_iff.2 hm
    have h2 : l[l.idxOf x]? = some x := by rw [List.getElem?_eq_getElem h1]; exact congrArg some (List.getElem_idxOf h1)
    rcases Nat.lt_trichotomy (l.idxOf x) i with h3 | h3 | h3
    · exact absurd h2 (hno _ h3)
    · exact h3
    · have h4 := List.not_of_lt_findIdx (p := (· == x)) (xs := l) h3
      rw [(List.getElem?_eq_some_iff.1 h).2] at h4
      simp at h4
  simp [findI, e, hi]
theorem findI_no {l : List Lab} {x : Lab} (hno : ∀ j, j < l.length → l[j]? ≠ some x) : findI l x = -1 := by
  have : ¬ l.idxOf x < l.length := fun h => hno _ h (by rw [List.getElem?_eq_getElem h]; exact congrArg some (List.getElem_idxOf h))
  simp [findI, this]
set_option maxRecDepth 100000 in
set_option maxHeartbeats 1000000 in
theorem find41 (l : List Lab) (x : Lab) (A : Option Addr) (c : Nat) (w : World) (hA : SlA w A l) (hl : ∀ y ∈ l, LabOK y) (hx : LabOK x) (hlen : l.length ≤ 40) :
    Calls Try.prog 41 #[.slice A l.length c, .agg (labA x)] w fun e w' => e = .returned (.int .i64 (findI l x)) ∧ Below w.heap.size w w' := by
  have hu25 := Try.underlying25
  have hu56 := Try.underlying56
  have HA := Lib.hid hA
  have H0 := Lib.hid (heap_alloc_new w (.cells (labA x) 25))
  have HB := Lib.hid (bel_alloc (Below.refl w.heap.size w) (.cells (labA x) 25))
  clear hA
  go_enter Try.func41, Try.ntmps41
  go_wp2_with fail
  go_loopg [5] 41 (fun gg s5 wr => ∃ i : Nat, i ≤ l.length ∧ 41 - i ≤ gg ∧ s5 = .int .i64 i ∧ (∀ j, j < i → l[j]? ≠ some x) ∧ Hid (wr.heap[w.heap.size]? = some (.cells (labA x) 25 (0, 0))) ∧ Hid (Below w.heap.size w wr))
  case atStart => exact ⟨0, Nat.zero_le _, Nat.sub_le _ _, rfl, fun j hj => absurd hj (Nat.not_lt_zero _), H0.out, HB.out⟩
  case round =>
    obtain ⟨i, hi, hgg, rfl, hno, K0, BR⟩ := hrel
    clear H0 HB
    by_cases hlt : i < l.length
    · have d1 : decide ((i : Int) < (l.length : Int)) = true := decide_eq_true (by omega)
      have d2 : (0 : Int) ≤ (i : Int) := by omega
      have d3 : (i : Int) < (l.length : Int) := by omega
      have q1 : IntKind.i64.wrap ((i : Int) + 1) = (i : Int) + 1 := IntWalk.i64_in _ (by omega)
      obtain ⟨b, o, rfl, hb, hc⟩ := (HA.out.below BR.out) (by omega)
      have hy : l[i]? = some l[i] := List.getElem?_eq_getElem hlt
      have hoy := hl _ (List.getElem_mem hlt)
      have h1 := ld25 (hc i _ hy)
      have h2 := ld25 (show wr.rangeAt w.heap.size 0 (labL x) from range_lab K0.out)
      have heq := eq25 hoy.1 hx.1 hoy.2 hx.2
      have hgd := gd25
      have HY := Lib.hid hy
      generalize l[i] = y at h1 heq HY
      clear hoy hc hy
      cases hyx : decide (y = x) with
      | true =>
        have HF := Lib.hid (findI_hit (x := x) (by rw [HY.out, of_decide_eq_true hyx]) hno)
        rw [hyx] at heq
        clear hyx hno
        go_wp2_with fail
        go_quiet (fail)
        go_wp2_with fail
        go_ret
        exact ⟨by rw [HF.out]; rfl, bel_drewN BR.out _⟩
      | false =>
        have hne := of_decide_eq_false hyx
        rw [hyx] at heq
        clear hyx
        go_wp2_with fail
        go_quiet (fail)
        go_wp2_with fail
        go_roundg (41 - (i + 1))
        case measure => omega
        case rel => exact ⟨i + 1, hlt, Nat.le_refl _, rfl, fun j hj => by
          rcases Nat.lt_or_ge j i with h | h
          · exact hno j h
          · rw [show j = i by omega, HY.out]; exact fun e => hne (Option.some.inj e), K0, Lib.hid (bel_drewN BR.out _)⟩
    · have d1 : decide ((i : Int) < (l.length : Int)) = false := decide_eq_false (by omega)
      have HF := Lib.hid (findI_no (l := l) (x := x) (fun j hj => hno j (by omega)))
      clear hno
      go_wp2_with fail
      go_ret
      exact ⟨by rw [HF.out]; rfl, BR.out⟩

/-- The worlds that are W, and more. -/
def BW (W : World) : Type := {w' : World // Below W.heap.size W w'}
instance (W : World) : Nonempty (BW W) := ⟨⟨W, Below.refl _ _⟩⟩
def BW.w {W : World} (u : BW W) : World := u.1
theorem BW.b {W : World} (u : BW W) : Below W.heap.size W u.w := u.2
theorem region_bw {P : Program} {id : Nat} {Q : Exit → Act → World → Prop} {a : Act} {W : World} {l : List Oper} (hm : P.follows .mixedOrders = true) (hB : Region.lexB .any l.toArray = true)
    (h : wpQuiet P l.toArray (fun w' => ∃ u : BW W, w' = u.w) (fun a' => ∀ w', (∃ u : BW W, w' = u.w) → Q .normal a' w') l a) : (Code.region id l.toArray true).wp P Q a W :=
  wp_region_quiet (C := fun w' => ∃ u : BW W, w' = u.w) hm hB ⟨⟨_, (Below.refl W.heap.size W).drew⟩, rfl⟩ (by simpa using h)
theorem call_bw {P : Program} {f : FuncId} {args : Array Value} {v : Value} {W : World} (h : ∀ w, Calls P f args w fun e w' => e = .returned v ∧ Below w.heap.size w w') (u : BW W) :
    Calls P f args u.w fun e w' => e = .returned v ∧ ∃ u' : BW W, w' = u'.w := (h u.w).mono fun _ w' hh => ⟨hh.1, ⟨w', bel_trans u.b hh.2⟩, rfl⟩
theorem ldb25 {W : World} {b o : Nat} {x : Lab} (h : W.rangeAt b o (labL x)) (hb : b < W.heap.size) (u : BW W) : (LDI 25 (.pointer (some ⟨b, o, none⟩))).run Try.prog u.w = .ok (.agg (labA x)) u.w :=
  run_loadAt_mid u.w b o 25 (labL x) _ (range_below h hb u.b) Try.underlying25 rfl (by rw [labL_len]; kernel_rfl)

/-- Numbers in memory. -/
def IntsA (w : World) (A : Option Addr) (l : List Nat) : Prop := 0 < l.length → ∃ b o, A = some ⟨b, o, none⟩ ∧ b < w.heap.size ∧ ∀ (j : Nat) k, l[j]? = some k → w.cell? ⟨b, o + j, none⟩ = some (.int .i64 (k : Int))
theorem IntsA.below {w w1 : World} {A : Option Addr} {l : List Nat} (h : IntsA w A l) (hb : Below w.heap.size w w1) : IntsA w1 A l := fun hl => by
  obtain ⟨b, o, rfl, hlt, hc⟩ := h hl
  exact ⟨b, o, rfl, Nat.lt_of_lt_of_le hlt hb.size, fun j x hx => (hb.cell (p := ⟨b, o + j, none⟩) hlt).trans (hc j x hx)⟩
theorem ints_of_own {w : World} {base n : Nat} {v : Value} {l : List Nat} (h : w.ownsRow base 3 1 v n (ints l)) : ∃ A c, v = .slice A l.length c ∧ IntsA w A l := by
  have hn : n = l.length := by have := h.1; simp [ints] at this; omega
  subst hn
  rcases Nat.eq_zero_or_pos l.length with h0 | h0
  · rcases h.2 with ⟨rfl, _⟩ | ⟨g, cap, cur, rfl, _⟩
    · exact ⟨none, 0, by rw [h0], fun h => by omega⟩
    · exact ⟨_, cap, rfl, fun h => by omega⟩
  · obtain ⟨g, cap, rfl, _, hlt⟩ := h.form h0
    refine ⟨_, cap, rfl, fun _ => ⟨g, 0, rfl, hlt, fun j k hk => ?_⟩⟩
    have := h.cells (g := g) rfl j (.int .i64 (k : Int)) (by simp [ints, hk])
    rwa [Addr.add_mid] at this
set_option maxRecDepth 100000 in
set_option maxHeartbeats 1000000 in
theorem ints34 (l m : List Nat) (A B : Option Addr) (c d : Nat) (w : World) (hA : IntsA w A l) (hB : IntsA w B m) (hl : l.length ≤ 1000) (hm : m.length ≤ 1000) :
    Calls Try.prog 34 #[.slice A l.length c, .slice B m.length d] w fun e w' => e = .returned (.bool (decide (l = m))) ∧ Below w.heap.size w w' := by
  have hu60 := Try.underlying60
  have HA := Lib.hid hA
  have HB := Lib.hid hB
  clear hA hB
  by_cases hne : l.length = m.length
  · have d0 : ((l.length : Int) != (m.length : Int)) = false := bne_eq_false_iff_eq.2 (by omega)
    have HNE := Lib.hid hne
    clear hne
    go_enter Try.func34, Try.ntmps34
    go_wp2_with fail
    go_loopg [5] 1001 (fun gg s5 wr => ∃ i : Nat, i ≤ l.length ∧ 1001 - i ≤ gg ∧ s5 = .int .i64 i ∧ (∀ j, j < i → l[j]? = m[j]?) ∧ Hid (Below w.heap.size w wr))
    case atStart => exact ⟨0, Nat.zero_le _, Nat.sub_le _ _, rfl, fun j hj => absurd hj (Nat.not_lt_zero _), Below.refl _ _⟩
    case round =>
      obtain ⟨i, hi, hgg, rfl, hno, BR⟩ := hrel
      by_cases hlt : i < l.length
      · have hlm : i < m.length := by have := HNE.out; omega
        have d1 : decide ((i : Int) < (l.length : Int)) = true := decide_eq_true (by omega)
        have d2 : (0 : Int) ≤ (i : Int) := by omega
        have d3 : (i : Int) < (l.length : Int) := by omega
        have d4 : (i : Int) < (m.length : Int) := by omega
        have q1 : IntKind.i64.wrap ((i : Int) + 1) = (i : Int) + 1 := IntWalk.i64_in _ (by omega)
        obtain ⟨b, o, rfl, hb, hc⟩ := (HA.out.below BR.out) (by omega)
        obtain ⟨b2, o2, rfl, hb2, hc2⟩ := (HB.out.below BR.out) (by omega)
        have hy : l[i]? = some l[i] := List.getElem?_eq_getElem hlt
        have hz : m[i]? = some m[i] := List.getElem?_eq_getElem hlm
        have h1 := hc i _ hy
        have h2 := hc2 i _ hz
        have HY := Lib.hid hy
        have HZ := Lib.hid hz
        generalize l[i] = y at h1 HY
        generalize m[i] = z at h2 HZ
        clear hc hc2 hy hz
        by_cases hyx : y = z
        · subst hyx
          go_wp2_with fail
          go_quiet (fail)
          go_wp2_with fail
          go_roundg (1001 - (i + 1))
          case measure => omega
          case rel => exact ⟨i + 1, hlt, Nat.le_refl _, rfl, fun j hj => by
            rcases Nat.lt_or_ge j i with h | h
            · exact hno j h
            · rw [show j = i by omega, HY.out, HZ.out], Lib.hid (bel_drewN BR.out _)⟩
        · have hd : ((y : Int) != (z : Int)) = true := bne_iff_ne.2 (by omega)
          have HF := Lib.hid (show decide (l = m) = false from decide_eq_false (fun e => hyx (by
            have h1 := HY.out
            rw [e, HZ.out] at h1
            exact (Option.some.inj h1).symm)))
          clear hno
          go_wp2_with fail
          go_quiet (fail)
          go_wp2_with fail
          go_ret
          exact ⟨by rw [HF.out]; rfl, bel_drewN BR.out _⟩
      · have d1 : decide ((i : Int) < (l.length : Int)) = false := decide_eq_false (by omega)
        have HF := Lib.hid (show decide (l = m) = true from decide_eq_true (List.ext_getElem? fun j => by
          rcases Nat.lt_or_ge j i with h | h
          · exact hno j h
          · rw [List.getElem?_eq_none (by omega), List.getElem?_eq_none (by have := HNE.out; omega)]))
        clear hno
        go_wp2_with fail
        go_ret
        exact ⟨by rw [HF.out]; rfl, BR.out⟩
  · have d0 : ((l.length : Int) != (m.length : Int)) = true := bne_iff_ne.2 (by omega)
    have HF := Lib.hid (show decide (l = m) = false from decide_eq_false (fun e => hne (by rw [e])))
    clear hne
    go_enter Try.func34, Try.ntmps34
    go_wp2_with fail
    go_ret
    exact ⟨by rw [HF.out]; rfl, Below.refl _ _⟩
end Go.Proofs.Ytifmckhabkghcaa.P
