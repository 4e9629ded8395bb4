/- The trie, plainly: what Add leaves; Add's contract in one (layer 14). -/
import Derived.Test.YtfpbcdlfcaglgaaNG
namespace Go.Proofs.Ytfpbcdlfcaglgaa.P
open Go.RowKit

section
variable {now : List Rt} {ex : List Bool}
theorem add_walk (ad : Nat) (m : Nat) : ∀ (k : Nat) (l : List Nd) (fr : List Nat) (a : Nat) (G : Nat → Option (List Bool)), Core l fr G → Rts l G now (pth ad (k + m)) → G a = some (pth ad k) →
    ∃ G', Core (addG ad m k l fr a).1 (addG ad m k l fr a).2.1 G' ∧ Rts (addG ad m k l fr a).1 G' now (pth ad (k + m)) ∧ G' (addG ad m k l fr a).2.2 = some (pth ad (k + m)) := by
  induction m with
  | zero => intro k l fr a G h hr ha; exact ⟨G, h, hr, ha⟩
  | succ m ih =>
    intro k l fr a G h hr ha
    obtain ⟨x, hx⟩ := h.node ha
    rw [show k + (m + 1) = k + 1 + m by omega] at hr ⊢
    rcases h.chn a x hx (bt ad k) with hc | ⟨c, hc, _⟩
    · rw [addG_new hx hc]
      refine ih (k + 1) _ _ _ _ (h.link ha hx hc) (hr.link h ha hx ?_) ?_
      · rw [← pth_succ, pth_prefix, pth_len]; exact ⟨by omega, rfl⟩
      · rw [if_pos rfl, pth_succ]
    · rw [addG_go hx hc]
      have := h.child a _ x _ c ha hx hc
      rw [← pth_succ] at this
      exact ih (k + 1) _ _ _ _ h hr this
end
section
variable {l : List Nd} {fr : List Nat} {G : Nat → Option (List Bool)} {now : List Rt} {ex : List Bool}
theorem putR_get {a : Nat} {x : Nd} (hx : l[a]? = some x) (r : Rt) (q : Nat) : (putR l a r)[q]? = if q = a then some ⟨x.a, x.b, r, true⟩ else l[q]? := by
  rw [putR_at hx, List.getElem?_set]
  by_cases h : a = q
  · subst h; rw [if_pos rfl, if_pos rfl, if_pos (List.getElem?_eq_some_iff.1 hx).1]
  · rw [if_neg h, if_neg (fun e => h e.symm)]
theorem putR_len (l : List Nd) (a : Nat) (r : Rt) : (putR l a r).length = l.length := by unfold putR; split <;> simp
theorem Core.put (h : Core l fr G) {a : Nat} {x : Nd} (hx : l[a]? = some x) (r : Rt) : Core (putR l a r) fr G := by
  have hg := putR_get hx r
  have hy : ∀ (i : Nat) (y : Nd), (putR l a r)[i]? = some y → ∃ z, l[i]? = some z ∧ ∀ b, chd z b = chd y b := fun i y hy => by
    rw [hg] at hy
    split at hy
    · rename_i e; subst e; cases hy; exact ⟨x, hx, fun b => by cases b <;> rfl⟩
    · exact ⟨y, hy, fun _ => rfl⟩
  refine ⟨h.root, fun i p hi => by rw [putR_len]; exact h.lt i p hi, h.inj, fun i p y b j hi hyy hc => ?_, fun j p b hj => ?_, frl_mono h.frl (by rw [putR_len]; exact Nat.le_refl _), h.frn, fun i y hyy b => ?_, fun i hi => by rw [putR_len] at hi; exact h.all i hi⟩
  · obtain ⟨z, hz, hzb⟩ := hy i y hyy
    exact h.child i p z b j hi hz (by rw [hzb]; exact hc)
  · obtain ⟨i, y, hi, hyy, hc⟩ := h.par j p b hj
    by_cases e : i = a
    · subst e
      rw [hx] at hyy; cases hyy
      exact ⟨i, _, hi, by rw [hg, if_pos rfl], by rw [← hc]; cases b <;> rfl⟩
    · exact ⟨i, y, hi, by rw [hg, if_neg e]; exact hyy, hc⟩
  · obtain ⟨z, hz, hzb⟩ := hy i y hyy
    rw [putR_len, ← hzb]
    exact h.chn i z hz b
theorem Rts.put {r : Rt} (hr : Rts l G now (ofR r)) {a : Nat} {x : Nd} (ha : G a = some (ofR r)) (hx : l[a]? = some x) (hok : r.ad < 2 ^ 32 ∧ rightB r.ad r.bt = true) (hnew : ∀ y ∈ now, ofR y ≠ ofR r) :
    Rts (putR l a r) G (now ++ [r]) [] := by
  have hg := putR_get hx r
  refine ⟨fun y hy => ?_, fun i p y hi hy hh => ?_, fun y hy => ?_, fun i p hi => ?_, ?_⟩
  · rcases List.mem_append.1 hy with h1 | h1
    · exact hr.ok y h1
    · rw [List.mem_singleton.1 h1]; exact hok
  · rw [hg] at hy
    split at hy
    · rename_i e; subst e; cases hy
      rw [ha] at hi
      exact ⟨by simp, Option.some.inj hi⟩
    · have := hr.has i p y hi hy hh
      exact ⟨List.mem_append_left _ this.1, this.2⟩
  · rcases List.mem_append.1 hy with h1 | h1
    · obtain ⟨i, z, hi, hz, hh⟩ := hr.back y h1
      have : i ≠ a := fun e => by rw [e, ha] at hi; exact hnew y h1 (Option.some.inj hi).symm
      exact ⟨i, z, hi, by rw [hg, if_neg this]; exact hz, hh⟩
    · rw [List.mem_singleton.1 h1]
      exact ⟨a, _, ha, by rw [hg, if_pos rfl], rfl⟩
  · rcases hr.dead i p hi with h1 | ⟨y, hy, h1⟩
    · exact .inr ⟨r, by simp, h1⟩
    · exact .inr ⟨y, List.mem_append_left _ hy, h1⟩
  · rw [List.pairwise_append]
    exact ⟨hr.uniq, List.pairwise_singleton _ _, fun y hy z hz => by rw [List.mem_singleton.1 hz]; exact hnew y hy⟩
/-- A trie that holds some routes. -/
def Inv (l : List Nd) (fr : List Nat) (n : Int) (now : List Rt) : Prop := n = now.length ∧ ∃ G, Core l fr G ∧ Rts l G now []
theorem Inv.chn {n : Int} (h : Inv l fr n now) : Chn l := by obtain ⟨_, G, h, _⟩ := h; exact h.chn
theorem Inv.frl {n : Int} (h : Inv l fr n now) : FrL l fr := by obtain ⟨_, G, h, _⟩ := h; exact h.frl
theorem inv_new : Inv [nd0] [] 0 [] := by
  refine ⟨rfl, fun i => if i = 0 then some [] else none, ⟨by simp, fun i p hi => ?_, fun i j p hi hj => ?_, fun i p x b j hi hx hc => ?_, fun j p b hj => ?_, (fun x hx => by cases hx), List.nodup_nil, fun i x hx b => ?_, fun i hi hn => ?_⟩, ⟨(fun r hr => by cases hr), fun i p x hi hx hh => ?_, (fun r hr => by cases hr), fun i p hi => ?_, List.Pairwise.nil⟩⟩
  · split at hi
    · rename_i e; subst e; simp
    · cases hi
  · split at hi <;> split at hj
    · rename_i e1 e2; rw [e1, e2]
    · cases hj
    · cases hi
    · cases hi
  · split at hi
    · rename_i e; subst e; simp at hx; subst hx; rw [chd_nd0] at hc; omega
    · cases hi
  · split at hj
    · simp at hj
    · cases hj
  · left
    cases i with
    | zero => simp at hx; subst hx; exact chd_nd0 b
    | succ i => simp at hx
  · simp at hi; subst hi; simp at hn
  · split at hi
    · rename_i e; subst e; simp at hx; subst hx; cases hh
    · cases hi
  · split at hi
    · cases hi; exact .inl (List.nil_prefix)
    · cases hi
/-- The prefix of a route is there. -/
def inR (now : List Rt) (r : Rt) : Prop := ∃ y ∈ now, y.ad = r.ad ∧ y.bt = r.bt
theorem ofR_eq {x y : Rt} (hx : x.ad < 2 ^ 32 ∧ rightB x.ad x.bt = true) (hy : y.ad < 2 ^ 32 ∧ rightB y.ad y.bt = true) : ofR x = ofR y ↔ x.ad = y.ad ∧ x.bt = y.bt := by
  obtain ⟨n, hn, hn32, hno⟩ := rightB_le hx.2
  obtain ⟨m, hm, hm32, hmo⟩ := rightB_le hy.2
  constructor
  · intro h
    have hl := congrArg List.length h
    rw [ofR, ofR, pth_len, pth_len, hn, hm, Int.toNat_natCast, Int.toNat_natCast] at hl
    subst hl
    rw [ofR, ofR, hn, hm] at h
    exact ⟨pth_inj hx.1 hy.1 hno hmo h, by rw [hn, hm]⟩
  · rintro ⟨h1, h2⟩
    rw [ofR, ofR, h1, h2]
theorem Inv.get {n : Int} (h : Inv l fr n now) {r : Rt} (ha : r.ad < 2 ^ 32) (hr : rightB r.ad r.bt = true) :
    (∃ x, getF l r.ad r.bt = some x ∧ x ∈ now ∧ x.ad = r.ad ∧ x.bt = r.bt) ∨ (getF l r.ad r.bt = none ∧ ¬ inR now r) := by
  obtain ⟨_, G, hc, hrt⟩ := h
  rcases get_spec hc hrt hr with ⟨x, h1, h2, h3⟩ | ⟨h1, h2⟩
  · exact .inl ⟨x, h1, h2, (ofR_eq (hrt.ok x h2) ⟨ha, hr⟩).1 h3⟩
  · refine .inr ⟨h1, ?_⟩
    rintro ⟨y, hy, e1, e2⟩
    exact h2 y hy ((ofR_eq (hrt.ok y hy) ⟨ha, hr⟩).2 ⟨e1, e2⟩)
theorem Inv.add {n : Int} (h : Inv l fr n now) {r : Rt} (ha : r.ad < 2 ^ 32) (hr : rightB r.ad r.bt = true) (hx : getF l r.ad r.bt = none) : Inv (addL l fr r) (addR l fr r) (n + 1) (now ++ [r]) := by
  obtain ⟨hn, G, hc, hrt⟩ := h
  have hnew : ∀ y ∈ now, ofR y ≠ ofR r := by
    rcases get_spec hc hrt hr with ⟨x, h1, _⟩ | ⟨_, h2⟩
    · rw [hx] at h1; cases h1
    · exact h2
  have hrt' : Rts l G now (pth r.ad (0 + r.bt.toNat)) := ⟨hrt.ok, hrt.has, hrt.back, fun i p hi => (hrt.dead i p hi).imp_left (fun h => by rw [List.prefix_nil.1 h]; exact List.nil_prefix), hrt.uniq⟩
  obtain ⟨G', h1, h2, h3⟩ := add_walk r.ad r.bt.toNat 0 l fr 0 G hc hrt' hc.root
  rw [Nat.zero_add] at h2 h3
  obtain ⟨x, hx⟩ := h1.node h3
  refine ⟨by rw [hn]; simp, G', h1.put hx r, Rts.put h2 h3 hx ⟨ha, hr⟩ hnew⟩
end
end Go.Proofs.Ytfpbcdlfcaglgaa.P
