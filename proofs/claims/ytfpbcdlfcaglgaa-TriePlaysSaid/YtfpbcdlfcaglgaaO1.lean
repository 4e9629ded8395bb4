/- What TriePlays says, plainly; acts in memory (layer 14). -/
import Derived.Test.YtfpbcdlfcaglgaaNZ
namespace Go.Proofs.Ytfpbcdlfcaglgaa.P
open Go.RowKit

/-- An act. -/
structure Ac where
  k : Int
  r : Rt
  ad : Nat
def acC (a : Ac) : List Value := [.int .i64 a.k, .int .u32 a.r.ad, .int .i64 a.r.bt, .int .i64 a.r.ou, .int .u32 a.ad]
def acA (a : Ac) : Array Value := #[.int .i64 a.k, .int .u32 a.r.ad, .int .i64 a.r.bt, .int .i64 a.r.ou, .int .u32 a.ad]
def az : Array Value := #[.int .i64 0, .int .u32 0, .int .i64 0, .int .i64 0, .int .u32 0]
/-- Acts in memory. -/
def ActsA (w : World) (A : Option Addr) (l : List Ac) : Prop := 0 < l.length → ∃ b o, A = some ⟨b, o, none⟩ ∧ b < w.heap.size ∧ ∀ (j : Nat) x, l[j]? = some x → w.rangeAt b (o + j * 5) (acC x)
theorem ActsA.low {w w1 : World} {A : Option Addr} {l : List Ac} {M : Nat} (h : ActsA w A l) (hb : Below M w w1) (hM : w.heap.size ≤ M) : ActsA w1 A l := fun hl => by
  obtain ⟨b, o, rfl, hlt, hc⟩ := h hl
  exact ⟨b, o, rfl, Nat.lt_of_lt_of_le hlt hb.size, fun j x hx i v hv => (hb.cell (p := ⟨b, o + j * 5 + i, none⟩) (by show b < M; omega)).trans (hc j x hx i v hv)⟩
theorem info42l (a : Ac) : (Try.prog.info? 42).map (·.size) = some (acC a).length := by
  show _ = some 5
  kernel_rfl
theorem info42 (a : Ac) : (Try.prog.info? 42).map (·.size) = some (acA a).size := by
  show _ = some 5
  kernel_rfl
theorem one42 (a : Ac) : (acA a).all (·.oneCell') = true := by simp [acA, Value.oneCell']
/-- An act that lies in a block of its own. -/
def AcB (w : World) (X : Nat) (a : Ac) : Prop := w.heap[X]? = some (.cells (acA a) 42 (0, 0))
theorem AcB.c0 {w : World} {X : Nat} {a : Ac} (h : AcB w X a) : w.cell? ⟨X, 0, none⟩ = some (.int .i64 a.k) := by rw [cell_of_row _ _ _ _ _ _ h]; rfl
theorem AcB.c1 {w : World} {X : Nat} {a : Ac} (h : AcB w X a) : w.cell? ⟨X, 1, none⟩ = some (.int .u32 a.r.ad) := by rw [cell_of_row _ _ _ _ _ _ h]; rfl
theorem AcB.c2 {w : World} {X : Nat} {a : Ac} (h : AcB w X a) : w.cell? ⟨X, 2, none⟩ = some (.int .i64 a.r.bt) := by rw [cell_of_row _ _ _ _ _ _ h]; rfl
theorem AcB.c3 {w : World} {X : Nat} {a : Ac} (h : AcB w X a) : w.cell? ⟨X, 3, none⟩ = some (.int .i64 a.r.ou) := by rw [cell_of_row _ _ _ _ _ _ h]; rfl
theorem AcB.c4 {w : World} {X : Nat} {a : Ac} (h : AcB w X a) : w.cell? ⟨X, 4, none⟩ = some (.int .u32 a.ad) := by rw [cell_of_row _ _ _ _ _ _ h]; rfl
theorem AcB.below {w w' : World} {X : Nat} {a : Ac} (h : AcB w X a) (hb : Below w.heap.size w w') : AcB w' X a := blk_below h hb
theorem AcB.chg {w w' : World} {X M B g K g2 : Nat} {vf vf2 : Value} {now : List Rt} {a : Ac} (h : AcB w X a) (ht : TrS w M B g vf K now) (hc : Chg B g vf w w' g2 vf2) : AcB w' X a := by
  obtain ⟨cap, l, fr, m, ht, _⟩ := ht
  obtain ⟨cg, hcg, _⟩ := ht.gblk
  refine (hc.block X (lt_of_block h) (fun e => ?_) (fun e => ?_) (own_not ht.fown h (by decide))).trans h
  · subst e; have := ht.blk; rw [h] at this; cases this
  · subst e; rw [h] at hcg; cases hcg
/-- The routes that the test keeps: a row of its own. -/
def NowR (w : World) (M : Nat) (v : Value) (now : List Rt) : Prop := w.ownsRow M 32 3 v now.length (rtsL now)
theorem NowR.rts {w : World} {M : Nat} {A : Option Addr} {n c : Nat} {now : List Rt} (h : NowR w M (.slice A n c) now) : n = now.length ∧ RtsA w A now ∧ (0 < now.length → n ≤ c) := by
  have hh := h
  rcases h.2 with ⟨h1, h2⟩ | ⟨g, cap, cur, h1, _, hg, h3, _⟩
  · cases h1
    exact ⟨h2.symm, fun hp => by omega, fun hp => by omega⟩
  · cases h1
    exact ⟨rfl, fun hp => ⟨g, 0, rfl, (hh.lt g rfl).2, fun j x hx => by rw [Nat.zero_add]; exact rts_at hh j x hx⟩, fun _ => h3⟩
theorem NowR.below {w w' : World} {M : Nat} {v : Value} {now : List Rt} (h : NowR w M v now) (hb : Below w.heap.size w w') : NowR w' M v now := own_below h hb
theorem NowR.chg {w w' : World} {M B g K g2 : Nat} {vf vf2 v : Value} {now now' : List Rt} (h : NowR w M v now) (ht : TrS w M B g vf K now') (hc : Chg B g vf w w' g2 vf2) : NowR w' M v now := own_chg h ht hc (by decide) (by decide) (by decide)
theorem idx_right {now : List Rt} (hok : OkL now) {ad k : Nat} {b : Int} (h : idxR now ad b = some k) : rightB ad b = true := by
  obtain ⟨r, hk, h1, h2⟩ := idxR_some h
  have := (hok r (List.mem_of_getElem? hk)).2
  rwa [h1, h2] at this
theorem getR_some {now : List Rt} (hok : OkL now) {ad k : Nat} {b : Int} (h : idxR now ad b = some k) : ∃ x, now[k]? = some x ∧ getR now ad b = some x := by
  obtain ⟨r, hk, _, _⟩ := idxR_some h
  exact ⟨r, hk, by rw [getR, if_pos (idx_right hok h), h]; exact hk⟩
theorem getR_none {now : List Rt} {ad : Nat} {b : Int} (h : idxR now ad b = none) : getR now ad b = none := by
  rw [getR, h]; split <;> rfl
theorem dropN_len (now : List Rt) (ad : Nat) (b : Int) : (dropN now ad b).length ≤ now.length := by
  unfold dropN
  split
  · split
    · exact (List.eraseIdx_sublist _ _).length_le
    · exact Nat.le_refl _
  · exact Nat.le_refl _
theorem eq32_same (r : Rt) (w : World) : (Op.equalIn 10000 32 (.agg #[.int .u32 r.ad, .int .i64 r.bt, .int .i64 r.ou]) (.agg #[.int .u32 r.ad, .int .i64 r.bt, .int .i64 r.ou])).run Try.prog w = .ok true w := by
  rw [eq32]; simp
theorem find_none {now : List Rt} {a : Nat} {o : Option Rt} (hok : OkL now) (hu : Uq now) (hf : fnI now a now.length = none) (h : FindR now a o) : o = none := by
  rcases fnI_find hok hu h with ⟨_, h1⟩ | ⟨k, y, h1, _⟩
  · exact h1
  · rw [hf] at h1; cases h1
theorem find_some {now : List Rt} {a k : Nat} {y : Rt} {o : Option Rt} (hok : OkL now) (hu : Uq now) (hf : fnI now a now.length = some k) (hy : now[k]? = some y) (h : FindR now a o) : o = some y := by
  rcases fnI_find hok hu h with ⟨h1, _⟩ | ⟨k', y', h1, h2, h3⟩
  · rw [hf] at h1; cases h1
  · rw [hf] at h1; cases h1
    rw [hy] at h2; cases h2
    exact h3
end Go.Proofs.Ytfpbcdlfcaglgaa.P
