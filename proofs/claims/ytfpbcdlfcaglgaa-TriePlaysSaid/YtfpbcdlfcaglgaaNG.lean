/- The trie, plainly: what Get and Find answer; what Add leaves (layer 14). -/
import Derived.Test.YtfpbcdlfcaglgaaNF
namespace Go.Proofs.Ytfpbcdlfcaglgaa.P

section
variable {l : List Nd} {fr : List Nat} {G : Nat → Option (List Bool)} {now : List Rt} {ex : List Bool}
theorem hasN_at {l : List Nd} {j : Nat} {x : Nd} (h : l[j]? = some x) : hasN l j = x.has := by simp [hasN, h]
theorem get_spec (h : Core l fr G) (hr : Rts l G now ex) {ad : Nat} {b : Int} (hb : rightB ad b = true) :
    (∃ x, getF l ad b = some x ∧ x ∈ now ∧ ofR x = pth ad b.toNat) ∨ (getF l ad b = none ∧ ∀ x ∈ now, ofR x ≠ pth ad b.toNat) := by
  obtain ⟨n, rfl, _, _⟩ := rightB_le hb
  rw [Int.toNat_natCast]
  by_cases hj : ∃ j, G j = some (pth ad n)
  · obtain ⟨j, hj⟩ := hj
    obtain ⟨x, hx⟩ := h.node hj
    have hf : getF l ad n = if x.has = true then some x.r else none := by
      rw [getF, h.fndY hb j hj]; exact atN_nat l j x hx
    cases hh : x.has with
    | true =>
      have := hr.has j _ x hj hx hh
      exact .inl ⟨x.r, by rw [hf, hh]; rfl, this.1, this.2⟩
    | false =>
      refine .inr ⟨by rw [hf, hh]; rfl, fun y hy e => ?_⟩
      obtain ⟨i, z, hi, hz, hhz⟩ := hr.back y hy
      rw [e] at hi
      have := h.inj _ _ _ hi hj
      subst this
      rw [hx] at hz; cases hz
      rw [hh] at hhz; cases hhz
  · refine .inr ⟨by rw [getF, h.fndN (fun j e => hj ⟨j, e⟩)]; rfl, fun y hy e => ?_⟩
    obtain ⟨i, z, hi, _, _⟩ := hr.back y hy
    exact hj ⟨i, by rw [hi, e]⟩
theorem bestG_spec (l : List Nd) : ∀ (ws : List Nat) (b : Int), (bestG l ws b = b ∧ ∀ j ∈ ws, hasN l j = false) ∨
    ∃ (t j : Nat), ws[t]? = some j ∧ hasN l j = true ∧ bestG l ws b = j ∧ ∀ (t' j' : Nat), t < t' → ws[t']? = some j' → hasN l j' = false := by
  intro ws
  induction ws with
  | nil => intro b; exact .inl ⟨rfl, fun j hj => by cases hj⟩
  | cons a r ih =>
    intro b
    rw [bestG]
    cases hh : hasN l a with
    | true =>
      rcases ih (a : Int) with ⟨h1, h2⟩ | ⟨t, j, h1, h2, h3, h4⟩
      · refine .inr ⟨0, a, rfl, hh, by simpa using h1, fun t' j' ht hj => ?_⟩
        cases t' with
        | zero => omega
        | succ t' => exact h2 j' (List.mem_of_getElem? (by simpa using hj))
      · refine .inr ⟨t + 1, j, by simpa using h1, h2, by simpa using h3, fun t' j' ht hj => ?_⟩
        cases t' with
        | zero => omega
        | succ t' => exact h4 t' j' (by omega) (by simpa using hj)
    | false =>
      rcases ih b with ⟨h1, h2⟩ | ⟨t, j, h1, h2, h3, h4⟩
      · refine .inl ⟨by simpa using h1, fun j hj => ?_⟩
        rcases List.mem_cons.1 hj with rfl | hj
        · exact hh
        · exact h2 j hj
      · refine .inr ⟨t + 1, j, by simpa using h1, h2, by simpa using h3, fun t' j' ht hj => ?_⟩
        cases t' with
        | zero => omega
        | succ t' => exact h4 t' j' (by omega) (by simpa using hj)
/-- Does a route hold an address? -/
def Hld (r : Rt) (ad : Nat) : Prop := ofR r = pth ad r.bt.toNat
theorem find_spec (h : Core l fr G) (hr : Rts l G now ex) (ad : Nat) :
    (∃ x, findF l ad = some x ∧ x ∈ now ∧ Hld x ad ∧ ∀ y ∈ now, Hld y ad → y.bt ≤ x.bt) ∨ (findF l ad = none ∧ ∀ y ∈ now, ¬ Hld y ad) := by
  have hw := h.wayI ad 32 0 0 h.root
  rw [show wayG l ad 32 0 0 = way l ad 32 from rfl] at hw
  have hb : ∀ y ∈ now, Hld y ad → ∃ (n j : Nat), y.bt = n ∧ (way l ad 32)[n]? = some j ∧ hasN l j = true := by
    intro y hy hh
    obtain ⟨i, z, hi, hz, hhz⟩ := hr.back y hy
    obtain ⟨n, hn, hn32, _⟩ := rightB_le (hr.ok y hy).2
    refine ⟨n, i, hn, (hw n i).2 ⟨hn32, ?_⟩, by rw [hasN_at hz]; exact hhz⟩
    rw [Nat.zero_add, hi, hh, hn, Int.toNat_natCast]
  rcases bestG_spec l (way l ad 32) (-1) with ⟨h1, h2⟩ | ⟨t, j, h1, h2, h3, h4⟩
  · refine .inr ⟨by rw [findF, h1]; rfl, fun y hy hh => ?_⟩
    obtain ⟨n, i, _, hi, hhi⟩ := hb y hy hh
    rw [h2 i (List.mem_of_getElem? hi)] at hhi
    cases hhi
  · have hj := (hw t j).1 h1
    obtain ⟨x, hx⟩ := h.node hj.2
    rw [hasN_at hx] at h2
    have hxr := hr.has j _ x hj.2 hx h2
    rw [Nat.zero_add] at hxr
    have hlen : x.r.bt.toNat = t := by
      have := congrArg List.length hxr.2
      rwa [ofR, pth_len, pth_len] at this
    refine .inl ⟨x.r, by rw [findF, h3, atN_nat l j x hx, if_pos h2], hxr.1, by rw [Hld, hlen]; exact hxr.2, fun y hy hh => ?_⟩
    obtain ⟨n, i, hn, hi, hhi⟩ := hb y hy hh
    have hx0 := (hr.ok _ hxr.1).2
    obtain ⟨m, hm, _, _⟩ := rightB_le hx0
    rw [hm, Int.toNat_natCast] at hlen
    rcases Nat.lt_or_ge t n with hlt | hge
    · rw [h4 n i hlt hi] at hhi; cases hhi
    · rw [hn, hm]; omega

theorem freshL_get {l : List Nd} {fr : List Nat} (hf : FrL l fr) (q : Nat) : (freshL l fr)[q]? = if q = freshI l fr then some nd0 else l[q]? := by
  unfold freshL freshI
  cases hg : fr.getLast? with
  | none =>
    simp only
    split
    · rename_i h; subst h; simp
    · rename_i h
      rcases Nat.lt_or_ge q l.length with h1 | h1
      · rw [List.getElem?_append_left h1]
      · rw [List.getElem?_append_right h1, List.getElem?_eq_none (by simp; omega), List.getElem?_eq_none (by omega)]
  | some i =>
    simp only
    have hi := hf i (List.mem_of_getLast? hg)
    rw [List.getElem?_set]
    by_cases h : i = q
    · subst h; rw [if_pos rfl, if_pos hi, if_pos rfl]
    · rw [if_neg h, if_neg (fun e => h e.symm)]
theorem Core.dead (h : Core l fr G) : G (freshI l fr) = none := by
  cases hq : G (freshI l fr) with
  | none => rfl
  | some p =>
    exfalso
    have := h.lt _ _ hq
    unfold freshI at this
    cases hg : fr.getLast? with
    | none => rw [hg] at this; simp at this
    | some i => rw [hg] at this; exact this.2 (List.mem_of_getLast? hg)
theorem link_get (h : Core l fr G) {a : Nat} {p : List Bool} {x : Nd} (ha : G a = some p) (hx : l[a]? = some x) (b : Bool) (j : Int) (q : Nat) :
    (setChd (freshL l fr) a b j)[q]? = if q = a then some (setC x b j) else if q = freshI l fr then some nd0 else l[q]? := by
  have hne : a ≠ freshI l fr := fun e => by rw [e, h.dead] at ha; cases ha
  have hxa : (freshL l fr)[a]? = some x := by rw [freshL_get h.frl, if_neg hne]; exact hx
  rw [setChd_at hxa, List.getElem?_set]
  by_cases hq : q = a
  · subst hq
    rw [if_pos rfl, if_pos rfl, if_pos (List.getElem?_eq_some_iff.1 hxa).1]
  · rw [if_neg (fun e => hq e.symm), if_neg hq, freshL_get h.frl]
theorem Core.link (h : Core l fr G) {a : Nat} {p : List Bool} {x : Nd} (ha : G a = some p) (hx : l[a]? = some x) {b : Bool} (hc : chd x b = -1) :
    Core (setChd (freshL l fr) a b (freshI l fr)) fr.dropLast (fun q => if q = freshI l fr then some (p ++ [b]) else G q) := by
  have hg := link_get h ha hx b (freshI l fr)
  have hd := h.dead
  have hlen : (setChd (freshL l fr) a b (freshI l fr)).length = (freshL l fr).length := setChd_len _ _ _ _
  have hll := freshL_len l fr
  have hil := freshI_lt h.frl
  have hnb : ∀ q, G q ≠ some (p ++ [b]) := fun q hq => by
    obtain ⟨i, y, hi, hy, hcy⟩ := h.par _ _ _ hq
    have := h.inj _ _ _ ha hi
    subst this
    rw [hx] at hy; cases hy
    omega
  have hnd : freshI l fr ∉ fr.dropLast := by
    unfold freshI
    cases hf : fr.getLast? with
    | none => rw [List.getLast?_eq_none_iff.1 hf]; simp
    | some i =>
      have hne : fr ≠ [] := by rintro rfl; simp at hf
      have hn := h.frn
      rw [← List.dropLast_concat_getLast hne] at hn
      have e : fr.getLast hne = i := by rw [List.getLast?_eq_some_getLast hne] at hf; exact Option.some.inj hf
      rw [e] at hn
      intro hm
      exact (List.nodup_append.1 hn).2.2 i hm i (by simp) rfl
  generalize hI : freshI l fr = I at *
  have h0 : 0 ≠ I := fun e => by rw [← e, h.root] at hd; cases hd
  refine ⟨by rw [if_neg h0]; exact h.root, fun i q hq => ?_, fun i j q hi hj => ?_, fun i q y b' j hi hy hcy => ?_, fun j q b' hj => ?_, frl_mono (frl_drop h.frl) (by rw [hlen]; exact hll.1), h.frn.sublist (List.dropLast_sublist _), ?_, fun i hi hn => ?_⟩
  · split at hq
    · rename_i e; subst e; exact ⟨by rw [hlen]; exact hil, hnd⟩
    · have := h.lt i q hq
      exact ⟨by rw [hlen]; omega, fun hm => this.2 (List.dropLast_subset _ hm)⟩
  · split at hi <;> split at hj
    · rename_i e1 e2; rw [e1, e2]
    · cases hi; exact absurd hj (hnb j)
    · cases hj; exact absurd hi (hnb i)
    · exact h.inj i j q hi hj
  · rw [hg] at hy
    by_cases hia : i = a
    · subst hia
      have hnI : i ≠ I := fun e => by rw [e, hd] at ha; cases ha
      rw [if_neg hnI, ha] at hi
      cases hi
      rw [if_pos rfl] at hy
      cases hy
      rw [chd_setC] at hcy
      split at hcy
      · rename_i e; subst e
        have : j = I := by omega
        rw [if_pos this]
      · have := h.child i p x b' j ha hx hcy
        split
        · rename_i e; rw [e, hd] at this; cases this
        · exact this
    · rw [if_neg hia] at hy
      split at hi
      · rename_i e
        rw [if_pos e] at hy
        cases hy
        rw [chd_nd0] at hcy; omega
      · rename_i e
        rw [if_neg e] at hy
        have := h.child i q y b' j hi hy hcy
        split
        · rename_i e2; rw [e2, hd] at this; cases this
        · exact this
  · split at hj
    · rename_i e
      have hj := Option.some.inj hj
      obtain ⟨rfl, hb⟩ := List.append_inj' hj rfl
      have hb : b = b' := by simpa using hb
      subst hb
      have hnI : a ≠ I := fun e => by rw [e, hd] at ha; cases ha
      refine ⟨a, setC x b I, by rw [if_neg hnI]; exact ha, by rw [hg, if_pos rfl], ?_⟩
      rw [chd_setC, if_pos rfl, e]
    · obtain ⟨i, y, hi, hy, hcy⟩ := h.par _ _ _ hj
      have hnI : i ≠ I := fun e => by rw [e, hd] at hi; cases hi
      by_cases hia : i = a
      · subst hia
        rw [hx] at hy; cases hy
        refine ⟨i, setC x b I, by rw [if_neg hnI]; exact hi, by rw [hg, if_pos rfl], ?_⟩
        rw [chd_setC]
        split
        · rename_i e; subst e; omega
        · exact hcy
      · exact ⟨i, y, by rw [if_neg hnI]; exact hi, by rw [hg, if_neg hia, if_neg hnI]; exact hy, hcy⟩
  · exact chn_setChd (chn_fresh h.chn fr) a b I hil
  · rw [hlen] at hi
    split at hn
    · cases hn
    · rename_i hnI
      have hm : i < l.length := by
        have e := freshL_get h.frl i
        rw [hI, if_neg hnI, List.getElem?_eq_getElem hi] at e
        exact (List.getElem?_eq_some_iff.1 e.symm).1
      have hif := h.all i hm hn
      have hne : fr ≠ [] := by rintro rfl; cases hif
      have e : fr.getLast hne = I := by
        rw [← hI]; unfold freshI; rw [List.getLast?_eq_some_getLast hne]
      rw [← List.dropLast_concat_getLast hne, e] at hif
      rcases List.mem_append.1 hif with h1 | h1
      · exact h1
      · exact absurd (by simpa using h1) hnI
theorem Rts.link (h : Core l fr G) (hr : Rts l G now ex) {a : Nat} {p : List Bool} {x : Nd} (ha : G a = some p) (hx : l[a]? = some x) {b : Bool} (hp : p ++ [b] <+: ex) :
    Rts (setChd (freshL l fr) a b (freshI l fr)) (fun q => if q = freshI l fr then some (p ++ [b]) else G q) now ex := by
  have hg := link_get h ha hx b (freshI l fr)
  have hd := h.dead
  generalize freshI l fr = I at *
  have hnI : ∀ i q, G i = some q → i ≠ I := fun i q hi e => by rw [e, hd] at hi; cases hi
  refine ⟨hr.ok, fun i q y hi hy hh => ?_, fun r hm => ?_, fun i q hi => ?_, hr.uniq⟩
  · rw [hg] at hy
    by_cases hia : i = a
    · subst hia
      rw [if_neg (hnI _ _ ha)] at hi
      rw [if_pos rfl] at hy
      cases hy
      have e1 : (setC x b I).has = x.has := by cases b <;> rfl
      have e2 : (setC x b I).r = x.r := by cases b <;> rfl
      rw [e1] at hh
      rw [e2]
      exact hr.has i q x hi hx hh
    · rw [if_neg hia] at hy
      split at hi
      · rename_i e; rw [if_pos e] at hy; cases hy; cases hh
      · rename_i e; rw [if_neg e] at hy; exact hr.has i q y hi hy hh
  · obtain ⟨i, y, hi, hy, hh⟩ := hr.back r hm
    by_cases hia : i = a
    · subst hia
      rw [hx] at hy; cases hy
      exact ⟨i, setC x b I, by rw [if_neg (hnI _ _ hi)]; exact hi, by rw [hg, if_pos rfl], by rw [show (setC x b I).has = x.has by cases b <;> rfl]; exact hh⟩
    · exact ⟨i, y, by rw [if_neg (hnI _ _ hi)]; exact hi, by rw [hg, if_neg hia, if_neg (hnI _ _ hi)]; exact hy, hh⟩
  · split at hi
    · cases hi; exact .inl hp
    · exact hr.dead i q hi
end
end Go.Proofs.Ytfpbcdlfcaglgaa.P
