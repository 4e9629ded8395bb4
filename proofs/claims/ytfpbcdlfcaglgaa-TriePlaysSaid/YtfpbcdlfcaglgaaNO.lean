/- The trie, plainly: what Drop leaves; Drop's contract in one (layer 14). -/
import Derived.Test.YtfpbcdlfcaglgaaNN
namespace Go.Proofs.Ytfpbcdlfcaglgaa.P
open Go.RowKit

theorem bareB_iff (x : Nd) : bareB x = true ↔ x.has = false ∧ ∀ b, chd x b = -1 := by
  simp only [bareB, Bool.and_eq_true, Bool.not_eq_true', beq_iff_eq]
  refine and_congr_right fun _ => ⟨fun h b => ?_, fun h => ⟨h false, h true⟩⟩
  cases b
  · exact h.1
  · exact h.2
theorem set_at {α : Type} {l : List α} {a : Nat} {x : α} (hx : l[a]? = some x) (z : α) (q : Nat) : (l.set a z)[q]? = if q = a then some z else l[q]? := by
  rw [List.getElem?_set]
  by_cases h : a = q
  · subst h; rw [if_pos rfl, if_pos rfl, if_pos (List.getElem?_eq_some_iff.1 hx).1]
  · rw [if_neg h, if_neg (fun e => h e.symm)]
section
variable {l : List Nd} {fr : List Nat} {G : Nat → Option (List Bool)} {now : List Rt} {ex : List Bool}
theorem ne_snoc {i p : Nat} {q : List Bool} {b : Bool} (hi : G i = some (q ++ [b])) (hp : G p = some q) : i ≠ p := by
  intro e
  rw [e, hp] at hi
  have := congrArg List.length (Option.some.inj hi)
  simp at this
/-- A node without children goes. -/
theorem Core.cut (h : Core l fr G) {i p : Nat} {q : List Bool} {b : Bool} {x y : Nd} (hi : G i = some (q ++ [b])) (hp : G p = some q) (hx : l[i]? = some x) (hy : l[p]? = some y) (hb : ∀ b, chd x b = -1) :
    Core (setChd l p b (-1)) (fr ++ [i]) (fun k => if k = i then none else G k) := by
  have hip := ne_snoc hi hp
  rw [setChd_at hy]
  have hg := set_at hy (setC y b (-1))
  have hG : ∀ {k : Nat} {r : List Bool}, (if k = i then none else G k) = some r → k ≠ i ∧ G k = some r := fun {k r} hk => by
    split at hk
    · cases hk
    · rename_i e; exact ⟨e, hk⟩
  refine ⟨?_, fun k r hk => ?_, fun k j r hk hj => ?_, fun k r z c j hk hz hc => ?_, fun j r c hj => ?_, fun k hk => ?_, ?_, ?_, fun k hk hn => ?_⟩
  · show (if 0 = i then none else G 0) = some []
    rw [if_neg, h.root]
    intro e
    rw [← e, h.root] at hi
    simp at hi
  · obtain ⟨h1, h2⟩ := hG hk
    obtain ⟨h3, h4⟩ := h.lt k r h2
    exact ⟨by rw [List.length_set]; exact h3, by simp [h4, h1]⟩
  · exact h.inj _ _ _ (hG hk).2 (hG hj).2
  · obtain ⟨h1, h2⟩ := hG hk
    have key : ∀ z', l[k]? = some z' → chd z' c = j → j ≠ i → (if j = i then none else G j) = some (r ++ [c]) := fun z' hz' hc' hne => by
      rw [if_neg hne]; exact h.child k r z' c j h2 hz' hc'
    rw [hg] at hz
    split at hz
    · rename_i e
      subst e
      cases hz
      rw [chd_setC] at hc
      split at hc
      · omega
      · rename_i hcb
        refine key y hy hc ?_
        intro e
        have h5 := h.child k r y c j h2 hy hc
        rw [e, hi] at h5
        have h6 := Option.some.inj h5
        rw [hp] at h2
        rw [Option.some.inj h2] at h6
        simp at h6
        exact hcb h6.symm
    · rename_i e
      refine key z hz hc ?_
      intro e2
      have h5 := h.child k r z c j h2 hz hc
      rw [e2, hi] at h5
      have h6 := (List.append_inj_left' (Option.some.inj h5) rfl)
      rw [← h6] at h2
      exact e (h.inj _ _ _ h2 hp)
  · obtain ⟨h1, h2⟩ := hG hj
    obtain ⟨k, z, h3, h4, h5⟩ := h.par j r c h2
    have hki : k ≠ i := by
      intro e
      rw [e, hx] at h4
      cases h4
      rw [hb] at h5
      omega
    by_cases hkp : k = p
    · subst hkp
      rw [hy] at h4
      cases h4
      refine ⟨k, setC y b (-1), by rw [if_neg hki]; exact h3, by rw [hg, if_pos rfl], ?_⟩
      rw [chd_setC, if_neg, h5]
      intro e
      rw [hp] at h3
      rw [← Option.some.inj h3, e] at h2
      exact h1 (h.inj _ _ _ h2 hi)
    · exact ⟨k, z, by rw [if_neg hki]; exact h3, by rw [hg, if_neg hkp]; exact h4, h5⟩
  · rw [List.length_set]
    rcases List.mem_append.1 hk with h1 | h1
    · exact h.frl k h1
    · rw [List.mem_singleton.1 h1]; exact (h.lt _ _ hi).1
  · rw [List.nodup_append]
    refine ⟨h.frn, by simp, fun a ha c hc e => ?_⟩
    rw [e, List.mem_singleton.1 hc] at ha
    exact (h.lt _ _ hi).2 ha
  · refine chn_set h.chn p _ fun c => ?_
    rw [chd_setC]
    split
    · exact .inl rfl
    · exact h.chn p y hy c
  · rw [List.length_set] at hk
    have hn : (if k = i then none else G k) = none := hn
    split at hn
    · rename_i e; subst e; simp
    · exact List.mem_append_left _ (h.all k hk hn)
theorem Rts.cut (h : Core l fr G) {i p : Nat} {q : List Bool} {b : Bool} {x y : Nd} (hr : Rts l G now (q ++ [b])) (hi : G i = some (q ++ [b])) (hp : G p = some q) (hx : l[i]? = some x) (hy : l[p]? = some y) (hh : x.has = false) :
    Rts (setChd l p b (-1)) (fun k => if k = i then none else G k) now q := by
  have hip := ne_snoc hi hp
  rw [setChd_at hy]
  have hg := set_at hy (setC y b (-1))
  have hG : ∀ {k : Nat} {r : List Bool}, (if k = i then none else G k) = some r → k ≠ i ∧ G k = some r := fun {k r} hk => by
    split at hk
    · cases hk
    · rename_i e; exact ⟨e, hk⟩
  have hsr : ∀ j, (setC y b j).has = y.has ∧ (setC y b j).r = y.r := fun j => by cases b <;> exact ⟨rfl, rfl⟩
  refine ⟨hr.ok, fun k r z hk hz hzh => ?_, fun r hm => ?_, fun k r hk => ?_, hr.uniq⟩
  · obtain ⟨h1, h2⟩ := hG hk
    rw [hg] at hz
    split at hz
    · rename_i e
      subst e
      cases hz
      rw [(hsr _).1] at hzh
      rw [(hsr _).2]
      exact hr.has k r y h2 hy hzh
    · exact hr.has k r z h2 hz hzh
  · obtain ⟨k, z, h1, h2, h3⟩ := hr.back r hm
    have hki : k ≠ i := by
      intro e
      rw [e, hx] at h2
      cases h2
      rw [hh] at h3
      cases h3
    by_cases hkp : k = p
    · subst hkp
      rw [hy] at h2
      cases h2
      exact ⟨k, setC y b (-1), by rw [if_neg hki]; exact h1, by rw [hg, if_pos rfl], by rw [(hsr _).1]; exact h3⟩
    · exact ⟨k, z, by rw [if_neg hki]; exact h1, by rw [hg, if_neg hkp]; exact h2, h3⟩
  · obtain ⟨h1, h2⟩ := hG hk
    rcases hr.dead k r h2 with h3 | h3
    · rcases List.prefix_concat_iff.1 h3 with h4 | h4
      · rw [h4] at h2
        exact absurd (h.inj _ _ _ h2 hi) h1
      · exact .inl h4
    · exact .inr h3
/-- A node that is needed stays. -/
theorem Rts.stop (h : Core l fr G) (hr : Rts l G now ex) {i : Nat} {x : Nd} (hi : G i = some ex) (hx : l[i]? = some x) (hb : bareB x = false) : Rts l G now [] := by
  refine ⟨hr.ok, hr.has, hr.back, fun k r hk => ?_, hr.uniq⟩
  rcases hr.dead k r hk with h1 | h1
  · right
    by_cases hh : x.has = true
    · obtain ⟨h2, h3⟩ := hr.has i ex x hi hx hh
      exact ⟨x.r, h2, by rw [h3]; exact h1⟩
    · have : ∃ b, chd x b ≠ -1 := by
        apply Classical.byContradiction
        intro hn
        have := (bareB_iff x).2 ⟨by simpa using hh, fun b => Classical.byContradiction fun hc => hn ⟨b, hc⟩⟩
        rw [hb] at this
        cases this
      obtain ⟨b, hc⟩ := this
      rcases h.chn i x hx b with h2 | ⟨j, h2, _⟩
      · exact absurd h2 hc
      · rcases hr.dead j _ (h.child i ex x b j hi hx h2) with h3 | ⟨y, h3, h4⟩
        · have := h3.length_le
          rw [List.length_append, List.length_singleton] at this
          omega
        · exact ⟨y, h3, h1.trans ((List.prefix_append ex [b]).trans h4)⟩
  · exact .inr h1
theorem drop_walk (ad : Nat) (ws : List Nat) : ∀ (k : Nat) (l : List Nd) (fr : List Nat) (G : Nat → Option (List Bool)), Core l fr G → Rts l G now (pth ad k) → (∀ t, t ≤ k → ∃ q, ws[t]? = some q ∧ G q = some (pth ad t)) →
    ∃ G', Core (dropG ad ws k l fr).1 (dropG ad ws k l fr).2 G' ∧ Rts (dropG ad ws k l fr).1 G' now [] := by
  intro k
  induction k with
  | zero => intro l fr G h hr _; exact ⟨G, h, hr⟩
  | succ k ih =>
    intro l fr G h hr hw
    obtain ⟨i, hi1, hi⟩ := hw (k + 1) (Nat.le_refl _)
    obtain ⟨p, hp1, hp⟩ := hw k (by omega)
    obtain ⟨x, hx⟩ := h.node hi
    obtain ⟨y, hy⟩ := h.node hp
    cases hb : bareB x with
    | false =>
      rw [dropG_stop hi1 hp1 hx hb]
      exact ⟨G, h, hr.stop h hi hx hb⟩
    | true =>
      rw [dropG_go hi1 hp1 hx hb]
      obtain ⟨hh, hc⟩ := (bareB_iff x).1 hb
      rw [pth_succ] at hi hr
      refine ih _ _ _ (h.cut hi hp hx hy hc) (Rts.cut h hr hi hp hx hy hh) fun t ht => ?_
      obtain ⟨q, h1, h2⟩ := hw t (by omega)
      refine ⟨q, h1, ?_⟩
      rw [if_neg, h2]
      intro e
      rw [e, hi] at h2
      have := congrArg List.length (Option.some.inj h2)
      simp [pth_len] at this
      omega
theorem Core.clr (h : Core l fr G) {a : Nat} {x : Nd} (hx : l[a]? = some x) : Core (clrH l a) fr G := by
  rw [clrH_at hx]
  have hg := set_at hx ⟨x.a, x.b, x.r, false⟩
  have hy : ∀ (i : Nat) (y : Nd), (l.set a ⟨x.a, x.b, x.r, false⟩)[i]? = some y → ∃ z, l[i]? = some z ∧ ∀ b, chd z b = chd y b := fun i y hy => by
    rw [hg] at hy
    split at hy
    · rename_i e; subst e; cases hy; exact ⟨x, hx, fun b => by cases b <;> rfl⟩
    · exact ⟨y, hy, fun _ => rfl⟩
  refine ⟨h.root, fun i p hi => by rw [List.length_set]; exact h.lt i p hi, h.inj, fun i p y b j hi hyy hc => ?_, fun j p b hj => ?_, frl_mono h.frl (by rw [List.length_set]; exact Nat.le_refl _), h.frn, fun i y hyy b => ?_, fun i hi => by rw [List.length_set] at hi; exact h.all i hi⟩
  · obtain ⟨z, hz, hzb⟩ := hy i y hyy
    exact h.child i p z b j hi hz (by rw [hzb]; exact hc)
  · obtain ⟨i, y, hi, hyy, hc⟩ := h.par j p b hj
    by_cases e : i = a
    · subst e
      rw [hx] at hyy; cases hyy
      exact ⟨i, _, hi, by rw [hg, if_pos rfl], by rw [← hc]; cases b <;> rfl⟩
    · exact ⟨i, y, hi, by rw [hg, if_neg e]; exact hyy, hc⟩
  · obtain ⟨z, hz, hzb⟩ := hy i y hyy
    rw [List.length_set, ← hzb]
    exact h.chn i z hz b
theorem mem_erase {k : Nat} {x : Rt} (hu : now.Pairwise fun r s => ofR r ≠ ofR s) (hk : now[k]? = some x) (z : Rt) : z ∈ now.eraseIdx k ↔ z ∈ now ∧ ofR z ≠ ofR x := by
  rw [List.mem_eraseIdx_iff_getElem?]
  rw [List.pairwise_iff_getElem] at hu
  obtain ⟨hk1, hk2⟩ := List.getElem?_eq_some_iff.1 hk
  constructor
  · rintro ⟨j, hj, hz⟩
    obtain ⟨hj1, hj2⟩ := List.getElem?_eq_some_iff.1 hz
    refine ⟨List.mem_of_getElem? hz, ?_⟩
    rw [← hj2, ← hk2]
    rcases Nat.lt_or_gt_of_ne hj with h | h
    · exact hu j k hj1 hk1 h
    · exact fun e => hu k j hk1 hj1 h e.symm
  · rintro ⟨hz, hne⟩
    obtain ⟨j, hj⟩ := List.mem_iff_getElem?.1 hz
    refine ⟨j, ?_, hj⟩
    rintro rfl
    rw [hk] at hj
    exact hne (by rw [Option.some.inj hj])
theorem Rts.clr (h : Core l fr G) (hr : Rts l G now []) {a k : Nat} {x : Nd} {r : Rt} (ha : G a = some (ofR r)) (hx : l[a]? = some x) (hk : now[k]? = some r) : Rts (clrH l a) G (now.eraseIdx k) (ofR r) := by
  rw [clrH_at hx]
  have hg := set_at hx ⟨x.a, x.b, x.r, false⟩
  have hm := mem_erase hr.uniq hk
  refine ⟨fun y hy => hr.ok y ((hm y).1 hy).1, fun i p y hi hy hh => ?_, fun y hy => ?_, fun i p hi => ?_, hr.uniq.sublist (List.eraseIdx_sublist _ _)⟩
  · rw [hg] at hy
    split at hy
    · cases hy; cases hh
    · rename_i e
      obtain ⟨h1, h2⟩ := hr.has i p y hi hy hh
      refine ⟨(hm _).2 ⟨h1, fun e2 => ?_⟩, h2⟩
      rw [← h2, e2] at hi
      exact e (h.inj _ _ _ hi ha)
  · obtain ⟨h1, h2⟩ := (hm y).1 hy
    obtain ⟨i, z, h3, h4, h5⟩ := hr.back y h1
    have : i ≠ a := fun e => by rw [e, ha] at h3; exact h2 (Option.some.inj h3).symm
    exact ⟨i, z, h3, by rw [hg, if_neg this]; exact h4, h5⟩
  · rcases hr.dead i p hi with h1 | ⟨y, h1, h2⟩
    · rw [List.prefix_nil.1 h1]; exact .inl List.nil_prefix
    · by_cases e : ofR y = ofR r
      · rw [e] at h2; exact .inl h2
      · exact .inr ⟨y, (hm y).2 ⟨h1, e⟩, h2⟩
theorem Inv.drop {n : Int} (h : Inv l fr n now) {ad m k : Nat} {r : Rt} (hk : now[k]? = some r) (h1 : r.ad = ad) (h2 : r.bt = m) :
    (way l ad m).length = m + 1 ∧ ∃ i, (way l ad m)[m]? = some i ∧ Inv (dropG ad (way l ad m) m (clrH l i) fr).1 (dropG ad (way l ad m) m (clrH l i) fr).2 (n - 1) (now.eraseIdx k) := by
  obtain ⟨hn, G, hc, hrt⟩ := h
  have hm := List.mem_of_getElem? hk
  obtain ⟨a, x, ha, hx, hh⟩ := hrt.back r hm
  have e : ofR r = pth ad m := by rw [ofR, h1, h2]; rfl
  have hw : ∀ t j, (way l ad m)[t]? = some j ↔ t ≤ m ∧ G j = some (pth ad t) := fun t j => by
    have := hc.wayI ad m 0 0 hc.root t j
    rwa [Nat.zero_add] at this
  have hex : ∀ t, t ≤ m → ∃ q, (way l ad m)[t]? = some q ∧ G q = some (pth ad t) := fun t ht => by
    obtain ⟨q, hq⟩ := hc.up t (ofR r) a ha (by rw [e, pth_len]; exact ht)
    rw [e, pth_take _ _ _ ht] at hq
    exact ⟨q, (hw t q).2 ⟨ht, hq⟩, hq⟩
  have hlen : (way l ad m).length = m + 1 := by
    obtain ⟨q, hq, _⟩ := hex m (Nat.le_refl _)
    have h3 := (List.getElem?_eq_some_iff.1 hq).1
    rcases Nat.lt_or_ge (m + 1) (way l ad m).length with h4 | h4
    · have := ((hw (m + 1) _).1 (List.getElem?_eq_getElem h4)).1
      omega
    · omega
  refine ⟨hlen, a, (hw m a).2 ⟨Nat.le_refl _, by rw [← e]; exact ha⟩, ?_, ?_⟩
  · rw [hn, List.length_eraseIdx_of_lt (List.getElem?_eq_some_iff.1 hk).1]
    have := (List.getElem?_eq_some_iff.1 hk).1
    omega
  · have h4 := Rts.clr hc hrt ha hx hk
    rw [e] at h4
    exact drop_walk ad _ m _ fr G (hc.clr hx) h4 hex
end
theorem dropG_le (ad : Nat) (ws : List Nat) : ∀ (k : Nat) (l : List Nd) (fr : List Nat), (dropG ad ws k l fr).1.length = l.length ∧ (dropG ad ws k l fr).2.length ≤ fr.length + k := by
  intro k
  induction k with
  | zero => intro l fr; exact ⟨rfl, Nat.le_refl _⟩
  | succ k ih =>
    intro l fr
    rw [dropG]
    cases h1 : ws[k + 1]? with
    | none => exact ⟨rfl, Nat.le_add_right _ _⟩
    | some i =>
      cases h2 : ws[k]? with
      | none => exact ⟨rfl, Nat.le_add_right _ _⟩
      | some p =>
        cases h3 : l[i]? with
        | none => simp only [h3]; exact ⟨trivial, Nat.le_add_right _ _⟩
        | some x =>
          simp only [h3]
          split
          · have h := ih (setChd l p (bt ad k) (-1)) (fr ++ [i])
            rw [setChd_len, List.length_append, List.length_singleton] at h
            exact ⟨h.1, by omega⟩
          · exact ⟨rfl, Nat.le_add_right _ _⟩
/-- The place of a prefix's route. -/
def idxR (now : List Rt) (ad : Nat) (b : Int) : Option Nat := now.findIdx? fun y => decide (y.ad = ad) && decide (y.bt = b)
/-- What is wrong with a prefix that is to be dropped; the routes behind that. -/
def errD (now : List Rt) (ad : Nat) (b : Int) : Int := if rightB ad b = true then (if (idxR now ad b).isSome = true then 0 else 6) else 1
def dropN (now : List Rt) (ad : Nat) (b : Int) : List Rt := if rightB ad b = true then (match idxR now ad b with | some k => now.eraseIdx k | none => now) else now
theorem idxR_some {now : List Rt} {ad k : Nat} {b : Int} (h : idxR now ad b = some k) : ∃ r, now[k]? = some r ∧ r.ad = ad ∧ r.bt = b := by
  obtain ⟨h1, h2, _⟩ := List.findIdx?_eq_some_iff_getElem.1 h
  simp at h2
  exact ⟨_, List.getElem?_eq_getElem h1, h2.1, h2.2⟩
theorem idxR_none {now : List Rt} {ad : Nat} {b : Int} (h : idxR now ad b = none) : ¬ ∃ y ∈ now, y.ad = ad ∧ y.bt = b := by
  rintro ⟨y, hy, h1, h2⟩
  have := List.findIdx?_eq_none_iff.1 h y hy
  simp [h1, h2] at this
theorem dropS (w : World) (M B g : Nat) (vf : Value) (K : Nat) (now : List Rt) (h : TrS w M B g vf K now) (ad : Nat) (b : Int) (ha : ad < 2 ^ 32) (hK : K ≤ 90000) (hnow : now.length ≤ 256) :
    Calls Try.prog 12 #[.pointer (some ⟨B, 0, none⟩), .agg #[.int .u32 ad, .int .i64 b]] w fun e w' => e = .returned (.int .i64 (errD now ad b)) ∧ ∃ g' vf', TrS w' M B g' vf' (K + 32) (dropN now ad b) ∧ Chg B g vf w w' g' vf' := by
  obtain ⟨cap, l, fr, n, ht, hi, hl, hf⟩ := h
  have keep : ∀ w', dropN now ad b = now → Below w.heap.size w w' → ∃ g' vf', TrS w' M B g' vf' (K + 32) (dropN now ad b) ∧ Chg B g vf w w' g' vf' := fun w' e hb =>
    ⟨g, vf, ⟨cap, l, fr, n, ht.below hb, by rw [e]; exact hi, by omega, by omega⟩, Chg.of_below hb⟩
  cases hr : rightB ad b with
  | false =>
    rw [show errD now ad b = 1 by simp [errD, hr]]
    refine (drop12_arg w B ad b ha hr).mono fun e' w' hh => ⟨hh.1, keep w' (by simp [dropN, hr]) hh.2⟩
  | true =>
    rcases hi.get (r := ⟨ad, b, 0⟩) ha hr with ⟨x, h1, h2, h3, h4⟩ | ⟨h1, h2⟩
    · cases hx : idxR now ad b with
      | none => exact absurd ⟨x, h2, h3, h4⟩ (idxR_none hx)
      | some k =>
        obtain ⟨r, hk, hr1, hr2⟩ := idxR_some hx
        rw [show errD now ad b = 0 by simp [errD, hr, hx], show dropN now ad b = now.eraseIdx k by simp [dropN, hr, hx]]
        obtain ⟨m, rfl, hm32, _⟩ := rightB_le hr
        obtain ⟨e1, i, e2, e3⟩ := hi.drop hk hr1 hr2
        have hn := hi.1
        have hpos : 0 < now.length := by have := (List.getElem?_eq_some_iff.1 hk).1; omega
        refine (drop12_ok w M B g cap vf l fr n ht hi.chn ad m ha hr x h1 i e2 e1 (by omega) (by omega) (by omega)).mono fun e' w' hh => ⟨hh.1, ?_⟩
        obtain ⟨_, vf', ht', hc'⟩ := hh
        refine ⟨g, vf', ⟨cap, _, _, _, ht', e3, ?_, ?_⟩, hc'⟩
        · rw [(dropG_le _ _ _ _ _).1]
          unfold clrH
          split
          · rw [List.length_set]; omega
          · omega
        · have := (dropG_le ad (way l ad m) m (clrH l i) fr).2
          omega
    · have hx : idxR now ad b = none := by
        cases hx : idxR now ad b with
        | none => rfl
        | some k =>
          obtain ⟨r, hk, hr1, hr2⟩ := idxR_some hx
          exact absurd ⟨r, List.mem_of_getElem? hk, hr1, hr2⟩ h2
      rw [show errD now ad b = 6 by simp [errD, hr, hx]]
      exact (drop12_none w M B g cap vf l fr n ht hi.chn ad b ha hr h1).mono fun e' w' hh => ⟨hh.1, keep w' (by simp [dropN, hr, hx]) hh.2⟩
end Go.Proofs.Ytfpbcdlfcaglgaa.P
