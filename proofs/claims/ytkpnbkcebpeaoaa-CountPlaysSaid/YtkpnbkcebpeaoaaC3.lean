/- Contract of slices.Delete(lines, 0, 1), for lines in memory of the call's own. For the program's counters (layer 26). -/
import Derived.Test.YtkpnbkcebpeaoaaC1
namespace Go.Proofs.Ytkpnbkcebpeaoaa.P
open Go.RowKit

/-- A line: its seven cells. -/
structure LineC where
  (t r s d p sp dp : Int)
deriving DecidableEq
def lnC (x : LineC) : List Value := [.int .i64 x.t, .int .i64 x.r, .int .u32 x.s, .int .u32 x.d, .int .i64 x.p, .int .i64 x.sp, .int .i64 x.dp]
def lns (l : List LineC) : List Value := l.flatMap lnC
theorem lns_len (l : List LineC) : (lns l).length = l.length * 7 := by
  induction l with
  | nil => rfl
  | cons x l ih => simp [lns, lnC] at ih ⊢; omega
theorem lns_one (l : List LineC) : ∀ u ∈ lns l, u.oneCell' = true := by
  intro u hu
  obtain ⟨x, _, hx⟩ := List.mem_flatMap.1 hu
  simp only [lnC, List.mem_cons, List.not_mem_nil, or_false] at hx
  rcases hx with rfl | rfl | rfl | rfl | rfl | rfl | rfl <;> rfl
theorem lns_tail (l : List LineC) : (lns l).drop 7 = lns l.tail := by
  cases l with
  | nil => rfl
  | cons x l => simp [lns, lnC]

theorem setCells_far {g : Nat} : ∀ (vs : List Value) (o : Nat) {w : World} (k : Nat), k ≠ g → (w.setCells g o vs).heap[k]? = w.heap[k]?
  | [], _, _, _, _ => rfl
  | v :: r, o, w, k, hk => by
    rw [World.setCells, setCells_far r (o + 1) k hk]
    exact Below.heap_setCell w ⟨g, o, none⟩ v k hk
theorem setCells_same (g : Nat) : ∀ (vs : List Value) (o : Nat) (w : World), (w.setCells g o vs).os = w.os ∧ (w.setCells g o vs).tape = w.tape ∧ (w.setCells g o vs).output = w.output ∧ (w.setCells g o vs).heap.size = w.heap.size
  | [], _, _ => ⟨rfl, rfl, rfl, rfl⟩
  | v :: r, o, w => by
    obtain ⟨h1, h2, h3, h4⟩ := setCells_same g r (o + 1) (w.setCell ⟨g, o, none⟩ v)
    rw [World.setCells]
    exact ⟨h1, h2, h3, by rw [h4]; simp [World.setCell]⟩
theorem setCells_row {g : Nat} {e : TypeId} : ∀ (vs : List Value) (o : Nat) (w : World) (cur : Array Value), w.heap[g]? = some (.cells cur e (0, 0)) → o + vs.length ≤ cur.size →
    ∃ cur', (w.setCells g o vs).heap[g]? = some (.cells cur' e (0, 0)) ∧ cur'.size = cur.size ∧ cur'.toList = cur.toList.take o ++ vs ++ cur.toList.drop (o + vs.length)
  | [], o, w, cur, h, _ => ⟨cur, h, rfl, by simp⟩
  | v :: r, o, w, cur, h, hl => by
    have h2 := heap_setCell_same w g o cur e v h
    simp only [List.length_cons] at hl
    obtain ⟨cur', h3, h4, h5⟩ := setCells_row r (o + 1) (w.setCell ⟨g, o, none⟩ v) _ h2 (by simp; omega)
    refine ⟨cur', h3, by rw [h4]; simp, ?_⟩
    rw [h5, Array.toList_setIfInBounds]
    have ho : o < cur.toList.length := by rw [Array.length_toList]; omega
    rw [List.take_set, List.drop_set_of_lt (by omega)]
    simp only [List.length_cons]
    rw [show o + 1 + r.length = o + (r.length + 1) by omega]
    congr 1
    rw [List.take_succ_eq_append_getElem ho, List.set_append_right _ _ (by rw [List.length_take]; omega)]
    have ho' : o < cur.size := by omega
    simp [Nat.min_eq_left (Nat.le_of_lt ho')]

def zln : List Value := [.int .i64 0, .int .i64 0, .int .u32 0, .int .u32 0, .int .i64 0, .int .i64 0, .int .i64 0]
theorem info42 : ∃ i0 : TypeInfo, Try.prog.info? 42 = some i0 ∧ i0.size = 7 ∧ i0.bytes = 48 ∧ i0.zero = some (.agg zln.toArray) := by
  have h : (Try.prog.info? 42).map (fun i => (i.size, i.bytes, i.zero)) = some (7, 48, some (.agg zln.toArray)) := by kernel_rfl
  cases hi : Try.prog.info? 42 with
  | none => simp [hi] at h
  | some i0 =>
    simp [hi] at h
    exact ⟨i0, rfl, h.1, h.2.1, h.2.2⟩
theorem clear1 (w : World) (g o c : Nat) (ty : TypeId) (hc : ∀ j, j < 7 → (w.cell? ⟨g, o + j, none⟩).isSome = true) (hf : ∀ j, j < 7 → w.frozen? ⟨g, o + j, none⟩ = false) :
    (Builtin.clear_ #[34] ty #[.slice (some ⟨g, o, none⟩) 1 c]).run Try.prog w = .ok (.tuple #[]) (w.setCells g o zln) := by
  have hst := run_storeCells_cells (P := Try.prog) g o zln 0 w (by simpa [zln] using hc) (by simpa [zln] using hf) (by intro v hv; simp only [zln, List.mem_cons, List.not_mem_nil, or_false] at hv; rcases hv with rfl | rfl | rfl | rfl | rfl | rfl | rfl <;> rfl)
  simp only [Nat.add_zero] at hst
  obtain ⟨i0, hi0, _, _, hz⟩ := info42
  have hv : (zeroValue 42).run Try.prog w = .ok (.agg zln.toArray) w := by
    simp [zeroValue, typeInfo, hi0, hz]
  have hzc : (Builtin.zeroCells (Value.agg zln.toArray).cells 1).toList = zln := by
    rw [show (Value.agg zln.toArray).cells = zln.toArray from rfl]
    simp [Builtin.zeroCells]
    apply List.ext_getElem
    · simp [zln]
    · intro i h1 h2
      simp [Nat.mod_eq_of_lt (show i < zln.length from h2), List.getElem?_eq_getElem h2]
  simp [Builtin.clear_, run_underlying Try.underlying34, hv, hzc, hst]

set_option maxHeartbeats 4000000 in
theorem delete20 (B g n cap : Nat) (l : List LineC) (w : World) (hown : w.ownsRow B 42 7 (.slice (some ⟨g, 0, none⟩) (n + 1) cap) (n + 1) (lns l)) :
    Calls Try.prog 20 #[.slice (some ⟨g, 0, none⟩) (n + 1 : Nat) cap, .int .i64 0, .int .i64 1] w fun e w' => e = .returned (.slice (some ⟨g, 0, none⟩) n cap) ∧ ∃ q, w' = ((w.drewN q).setCells g 0 (lns l.tail)).setCells g (n * 7) zln := by
  have hu34 := Try.underlying34
  have hu42 := Try.underlying42
  obtain ⟨i0, hi0, hz1, _, _⟩ := info42
  obtain ⟨h2, hm⟩ : n + 1 ≤ cap ∧ cap ≤ 9223372036854775807 := by
    rcases hown.2 with ⟨h, _⟩ | ⟨g', cap', cur, h, _, _, h3, h4, _⟩
    · cases h
    · cases h; exact ⟨h3, h4⟩
  have h0 : (0 : Int) ≤ (n : Int) + 1 := by omega
  have h1 : (n : Int) + 1 ≤ (cap : Int) := by omega
  have h3 : (1 : Int) ≤ (n : Int) + 1 := by omega
  have h4 : (1 : Int) ≤ (cap : Int) := by omega
  have hlen : (lns l).length = (n + 1) * 7 := hown.1
  have hcell : ∀ j u, (lns l)[j]? = some u → w.cell? ⟨g, j, none⟩ = some u := fun j u hu => by
    have := hown.cells (g := g) rfl j u hu
    rwa [show (⟨g, 0, none⟩ : Addr).add j = ⟨g, j, none⟩ from by rw [Addr.add_lit, Nat.zero_add]] at this
  have hfr : ∀ j, w.frozen? ⟨g, j, none⟩ = false := fun j => hown.frozenAt j
  obtain ⟨A, hA, hsrc⟩ : ∃ A : Addr, (if cap = 1 then some (⟨g, 0, none⟩ : Addr) else some ⟨g, 7, none⟩) = some A ∧ Hid (∀ t u, (lns l.tail)[t]? = some u → w.drew.cell? (A.add t) = some u) := by
    by_cases h : cap = 1
    · refine ⟨⟨g, 0, none⟩, by simp [h], fun t u hu => ?_⟩
      have h0 : (lns l.tail).length = 0 := by rw [← lns_tail, List.length_drop, hlen]; omega
      rw [List.length_eq_zero_iff.1 h0] at hu
      simp at hu
    · refine ⟨⟨g, 7, none⟩, by simp [h], fun t u hu => ?_⟩
      rw [← lns_tail, List.getElem?_drop] at hu
      rw [Addr.add_lit]
      exact hcell _ _ hu
  have htl : (lns l.tail).length = n * 7 := by rw [← lns_tail, List.length_drop, hlen]; omega
  have s1 : Hid ((lns l.tail).length = n * 7) := htl
  have s2 : Hid (∀ u ∈ lns l.tail, u.oneCell' = true) := lns_one _
  have s3 : Hid (∀ t, t < (lns l.tail).length → (w.drew.cell? ⟨g, 0 + 0 * 7 + t, none⟩).isSome = true ∧ w.drew.frozen? ⟨g, 0 + 0 * 7 + t, none⟩ = false) := by
    intro t ht
    have hx : t < (lns l).length := by rw [hlen]; rw [htl] at ht; omega
    have := hcell t _ (List.getElem?_eq_getElem hx)
    refine ⟨?_, ?_⟩
    · rw [show 0 + 0 * 7 + t = t by omega]
      show (w.cell? _).isSome = true
      rw [this]; rfl
    · exact hfr _
  have hcl : ∀ ty, (Builtin.clear_ #[34] ty #[.slice (some ⟨g, n * 7, none⟩) 1 (cap - n)]).run Try.prog (w.drew.setCells g 0 (lns l.tail)) = .ok (.tuple #[]) ((w.drew.setCells g 0 (lns l.tail)).setCells g (n * 7) zln) := fun ty =>
    clear1 _ _ _ _ ty (fun j hj => by
      rw [World.cell?_setCells_out _ _ _ _ _ (fun _ _ => Or.inr (by simp; omega))]
      have hx : n * 7 + j < (lns l).length := by rw [hlen]; omega
      have := hcell _ _ (List.getElem?_eq_getElem hx)
      show (w.cell? _).isSome = true
      rw [this]; rfl) (fun j hj => by rw [World.frozen?_setCells]; exact hfr _)
  generalize hW : w.drew.setCells g 0 (lns l.tail) = W1 at hcl
  have HW : Hid (w.drew.setCells g 0 (lns l.tail) = W1) := hW
  have OW : Hid _ := hown
  generalize hL : lns l.tail = news at *
  clear hown hcell hfr hW hL htl hlen
  go_enter Try.func20, Try.ntmps20
  go_wp2_with fail
  go_region_law (refine step_append_room rfl (.tmp 22) (.tmp 25) 34 rfl 42 i0 7 hu34 hi0 hz1 g 0 0 cap (by simp [Act.eval, Act.put]) A n (cap - 1) news (by simp [Act.eval, Act.put]) s1.out hsrc.out s2.out (by omega) s3.out ?_; rw [HW.out])
  go_wp2
  go_ret
  refine ⟨rfl, 1, ?_⟩
  rw [← HW.out]
  rfl

theorem grow_setCells (w : World) (g o : Nat) (vs : List Value) : w.grownBy (w.setCells g o vs) (some g) := by
  obtain ⟨h1, h2, h3, h4⟩ := setCells_same g vs o w
  exact ⟨h1, h2, h3, Nat.le_of_eq h4.symm, fun k _ hk => setCells_far vs o k (fun e => hk (by rw [e]))⟩
theorem grow_trans {a b c : World} {r : Option Nat} (h : a.grownBy b r) (k : b.grownBy c r) : a.grownBy c r :=
  ⟨k.os.trans h.os, k.tape.trans h.tape, k.output.trans h.output, Nat.le_trans h.size k.size, fun i hi hr => (k.block i (Nat.lt_of_lt_of_le hi h.size) hr).trans (h.block i hi hr)⟩

theorem delete_own (B g n cap : Nat) (l : List LineC) (w : World) (hown : w.ownsRow B 42 7 (.slice (some ⟨g, 0, none⟩) (n + 1) cap) (n + 1) (lns l)) :
    Calls Try.prog 20 #[.slice (some ⟨g, 0, none⟩) (n + 1 : Nat) cap, .int .i64 0, .int .i64 1] w fun e w' => e = .returned (.slice (some ⟨g, 0, none⟩) n cap) ∧ w'.ownsRow B 42 7 (.slice (some ⟨g, 0, none⟩) n cap) n (lns l.tail) ∧ w.grownBy w' (some g) := by
  refine (delete20 B g n cap l w hown).mono ?_
  rintro e w' ⟨rfl, q, rfl⟩
  refine ⟨rfl, ?_, ?_⟩
  · have hlen : (lns l).length = (n + 1) * 7 := hown.1
    have htl : (lns l.tail).length = n * 7 := by rw [← lns_tail, List.length_drop, hlen]; omega
    rcases hown.2 with ⟨h, _⟩ | ⟨g', cap', cur, h, hb, hg, h3, h4, h5, h6⟩
    · cases h
    · cases h
      have hg' : (w.drewN q).heap[g]? = some (.cells cur 42 (0, 0)) := by rw [← hg]; rfl
      obtain ⟨c1, k1, k2, k3⟩ := setCells_row (lns l.tail) 0 _ _ hg' (by rw [htl, h5]; omega)
      obtain ⟨c2, m1, m2, m3⟩ := setCells_row zln (n * 7) _ _ k1 (by rw [k2, h5]; simp [zln]; omega)
      refine ⟨htl, .inr ⟨g, cap, c2, rfl, hb, m1, by omega, h4, by rw [m2, k2, h5], ?_⟩⟩
      rw [m3, k3]
      simp only [List.take_zero, List.nil_append]
      rw [List.take_append_of_le_length (by simp; omega), List.take_append_of_le_length (by simp; omega), List.take_take, Nat.min_self, List.take_append_of_le_length (by omega), List.take_of_length_le (by omega)]
  · have h0 : w.grownBy (w.drewN q) (some g) := ⟨rfl, rfl, rfl, Nat.le_refl _, fun _ _ _ => rfl⟩
    exact grow_trans (grow_trans h0 (grow_setCells _ _ _ _)) (grow_setCells _ _ _ _)

end Go.Proofs.Ytkpnbkcebpeaoaa.P
