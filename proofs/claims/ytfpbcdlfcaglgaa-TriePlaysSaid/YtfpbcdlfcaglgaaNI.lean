/- The trie as a list of routes: contracts of New, Add, Find; awake (layer 14). -/
import Derived.Test.YtfpbcdlfcaglgaaNH
namespace Go.Proofs.Ytfpbcdlfcaglgaa.P
open Go.RowKit

theorem addG_le (ad m : Nat) : ∀ (k : Nat) (l : List Nd) (fr : List Nat) (a : Nat), (addG ad m k l fr a).1.length ≤ l.length + m ∧ (addG ad m k l fr a).2.1.length ≤ fr.length := by
  induction m with
  | zero => intro k l fr a; exact ⟨Nat.le_refl _, Nat.le_refl _⟩
  | succ m ih =>
    intro k l fr a
    unfold addG
    split
    · exact ⟨by simp, Nat.le_refl _⟩
    · split
      · have h := ih (k + 1) (setChd (freshL l fr) a (bt ad k) (freshI l fr)) fr.dropLast (freshI l fr)
        rw [setChd_len] at h
        have := (freshL_len l fr).2
        have h2 := h.2
        rw [List.length_dropLast] at h2
        exact ⟨by omega, by omega⟩
      · have h := ih (k + 1) l fr (chd ‹Nd› (bt ad k)).toNat
        exact ⟨by omega, h.2⟩
/-- Is a route's prefix there? -/
def inB (now : List Rt) (r : Rt) : Bool := now.any fun y => decide (y.ad = r.ad) && decide (y.bt = r.bt)
theorem inB_iff (now : List Rt) (r : Rt) : inB now r = true ↔ inR now r := by simp [inB, inR]
/-- What is wrong with one more route. -/
def errR (now : List Rt) (r : Rt) : Int := if rightB r.ad r.bt = true then (if inB now r = true then 7 else if 256 ≤ now.length then 9 else 0) else 1
def addN (now : List Rt) (r : Rt) : List Rt := if errR now r = 0 then now ++ [r] else now
/-- A trie lies in block B; it holds some routes. -/
def TrS (w : World) (M B g : Nat) (vf : Value) (K : Nat) (now : List Rt) : Prop := ∃ cap l fr n, Tri w M B g cap vf l fr n ∧ Inv l fr n now ∧ l.length ≤ K ∧ fr.length ≤ K
theorem TrS.below {w w' : World} {M B g K : Nat} {vf : Value} {now : List Rt} (h : TrS w M B g vf K now) (hb : Below w.heap.size w w') : TrS w' M B g vf K now := by
  obtain ⟨cap, l, fr, n, h1, h2⟩ := h
  exact ⟨cap, l, fr, n, h1.below hb, h2⟩
theorem TrS.ok {w : World} {M B g K : Nat} {vf : Value} {now : List Rt} (h : TrS w M B g vf K now) : ∀ r ∈ now, r.ad < 2 ^ 32 ∧ rightB r.ad r.bt = true := by
  obtain ⟨cap, l, fr, n, _, ⟨_, G, _, hr⟩, _⟩ := h
  exact hr.ok
theorem TrS.low {w w' : World} {M B g K g' : Nat} {vf vf' : Value} {now : List Rt} (h : TrS w M B g vf K now) (hc : Chg B g vf w w' g' vf') : Below M w w' := by
  obtain ⟨cap, l, fr, n, h1, _⟩ := h
  exact hc.below h1
theorem newS (w : World) : Calls Try.prog 8 #[] w fun e w' => ∃ B g, e = .returned (.pointer (some ⟨B, 0, none⟩)) ∧ TrS w' w.heap.size B g (.slice none 0 0) 1 [] ∧ Below w.heap.size w w' ∧ w.heap.size ≤ B ∧ w.heap.size ≤ g :=
  (new8 w).mono fun e w' hh => by
    obtain ⟨B, g, cap, rfl, ht, hb⟩ := hh
    exact ⟨B, g, rfl, ⟨cap, _, _, _, ht, inv_new, Nat.le_refl _, Nat.zero_le _⟩, hb, ht.base, ht.glt.1⟩
theorem addS (w : World) (M B g : Nat) (vf : Value) (K : Nat) (now : List Rt) (h : TrS w M B g vf K now) (r : Rt) (ha : r.ad < 2 ^ 32) (hK : K ≤ 90000) :
    Calls Try.prog 9 #[.pointer (some ⟨B, 0, none⟩), .agg (rtA r)] w fun e w' => e = .returned (.int .i64 (errR now r)) ∧ ∃ g' vf', TrS w' M B g' vf' (K + 32) (addN now r) ∧ Chg B g vf w w' g' vf' := by
  obtain ⟨cap, l, fr, n, ht, hi, hl, hf⟩ := h
  have keep : ∀ w', addN now r = now → Below w.heap.size w w' → ∃ g' vf', TrS w' M B g' vf' (K + 32) (addN now r) ∧ Chg B g vf w w' g' vf' := fun w' e hb =>
    ⟨g, vf, ⟨cap, l, fr, n, ht.below hb, by rw [e]; exact hi, by omega, by omega⟩, Chg.of_below hb⟩
  cases hr : rightB r.ad r.bt with
  | false =>
    have e : errR now r = 1 := by simp [errR, hr]
    rw [e]
    refine (add9_arg w B r ha hr).mono fun e' w' hh => ⟨hh.1, keep w' (by simp [addN, e]) hh.2⟩
  | true =>
    rcases hi.get ha hr with ⟨x, h1, h2, h3, h4⟩ | ⟨h1, h2⟩
    · have hin : inB now r = true := (inB_iff now r).2 ⟨x, h2, h3, h4⟩
      have e : errR now r = 7 := by simp [errR, hr, hin]
      rw [e]
      exact (add9_twice w M B g cap vf l fr n ht r ha hi.chn hr x h1).mono fun e' w' hh => ⟨hh.1, keep w' (by simp [addN, e]) hh.2⟩
    · have hin : inB now r = false := by rw [Bool.eq_false_iff]; exact fun e => h2 ((inB_iff now r).1 e)
      have hn := hi.1
      by_cases hn2 : 256 ≤ now.length
      · have e : errR now r = 9 := by simp [errR, hr, hin, hn2]
        rw [e]
        exact (add9_full w M B g cap vf l fr n ht r ha hi.chn hr h1 (by omega)).mono fun e' w' hh => ⟨hh.1, keep w' (by simp [addN, e]) hh.2⟩
      · have e : errR now r = 0 := by simp [errR, hr, hin, hn2]
        rw [e, show addN now r = now ++ [r] by simp [addN, e]]
        refine (add9_ok w M B g cap vf l fr n ht r ha hi.chn hi.frl (by omega) (by omega) hr h1 (by omega) (by omega)).mono fun e' w' hh => ⟨hh.1, ?_⟩
        obtain ⟨_, g', cap', vf', ht', hc'⟩ := hh
        refine ⟨g', vf', ⟨cap', _, _, _, ht', hi.add ha hr h1, ?_, ?_⟩, hc'⟩
        · have := (addG_le r.ad r.bt.toNat 0 l fr 0).1
          obtain ⟨m, hm, hm32, _⟩ := rightB_le hr
          rw [hm, Int.toNat_natCast] at this
          unfold addL
          rw [putR_len, hm, Int.toNat_natCast]
          omega
        · have := (addG_le r.ad r.bt.toNat 0 l fr 0).2
          unfold addR; omega
/-- What is found. -/
def FindR (now : List Rt) (ad : Nat) (o : Option Rt) : Prop := (∃ x, o = some x ∧ x ∈ now ∧ Hld x ad ∧ ∀ y ∈ now, Hld y ad → y.bt ≤ x.bt) ∨ (o = none ∧ ∀ y ∈ now, ¬ Hld y ad)
theorem findS (w : World) (M B g : Nat) (vf : Value) (K : Nat) (now : List Rt) (h : TrS w M B g vf K now) (ad : Nat) (ha : ad < 2 ^ 32) :
    Calls Try.prog 10 #[.pointer (some ⟨B, 0, none⟩), .int .u32 ad] w fun e w' => ∃ o, e = .returned (optV o) ∧ FindR now ad o ∧ Below w.heap.size w w' := by
  obtain ⟨cap, l, fr, n, ht, ⟨hn, G, hc, hr⟩, _⟩ := h
  refine (find10 w M B g cap vf l fr n ht hc.chn ad ha).mono fun e w' hh => ⟨_, hh.1, ?_, hh.2⟩
  exact find_spec hc hr ad
def r1 : Rt := ⟨167772160, 8, 1⟩
def r2 : Rt := ⟨167837696, 16, 2⟩
instance (r : Rt) (ad : Nat) : Decidable (Hld r ad) := inferInstanceAs (Decidable (_ = _))
theorem aw_now : addN (addN [] r1) r2 = [r1, r2] ∧ errR [] r1 = 0 ∧ errR (addN [] r1) r2 = 0 := by decide +kernel
theorem aw_h : Hld r1 167838211 ∧ Hld r2 167838211 ∧ Hld r1 167903232 ∧ ¬ Hld r2 167903232 := by decide +kernel
theorem aw_find1 {o : Option Rt} (h : FindR [r1, r2] 167838211 o) : o = some r2 := by
  rcases h with ⟨x, rfl, hx, _, hm⟩ | ⟨_, hn⟩
  · have := hm r2 (by simp) aw_h.2.1
    simp at hx
    rcases hx with rfl | rfl
    · exact absurd this (by decide)
    · rfl
  · exact absurd aw_h.2.1 (hn r2 (by simp))
theorem aw_find2 {o : Option Rt} (h : FindR [r1, r2] 167903232 o) : o = some r1 := by
  rcases h with ⟨x, rfl, hx, hh, _⟩ | ⟨_, hn⟩
  · simp at hx
    rcases hx with rfl | rfl
    · rfl
    · exact absurd hh aw_h.2.2.2
  · exact absurd aw_h.2.2.1 (hn r1 (by simp))
end Go.Proofs.Ytfpbcdlfcaglgaa.P
