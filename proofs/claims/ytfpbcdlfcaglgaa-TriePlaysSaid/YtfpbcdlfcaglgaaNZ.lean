/- What All tells, plainly; its contract in one (layer 14). -/
import Derived.Test.YtfpbcdlfcaglgaaNY
namespace Go.Proofs.Ytfpbcdlfcaglgaa.P
open Go.RowKit

theorem top_eq {y z k : Nat} (hy : y < 2 ^ 32) (hz : z < 2 ^ 32) (hk : k ≤ 32) (h : pth y k = pth z k) : y / 2 ^ (32 - k) = z / 2 ^ (32 - k) := by
  apply Nat.eq_of_testBit_eq
  intro j
  rw [Nat.testBit_div_two_pow, Nat.testBit_div_two_pow]
  by_cases hj : j + (32 - k) < 32
  · have := (pth_eq.1 h).2 (31 - (j + (32 - k))) (by omega)
    unfold bt at this
    rwa [show 31 - (31 - (j + (32 - k))) = j + (32 - k) by omega] at this
  · have e : ∀ x : Nat, x < 2 ^ 32 → x.testBit (j + (32 - k)) = false := fun x hx => Nat.testBit_lt_two_pow (Nat.lt_of_lt_of_le hx (Nat.pow_le_pow_right (by omega) (by omega)))
    rw [e _ hy, e _ hz]
theorem top_bit (y k : Nat) (hk : k < 32) : y / 2 ^ (31 - k) = 2 * (y / 2 ^ (32 - k)) + bN (bt y k) := by
  have e : y / 2 ^ (32 - k) = y / 2 ^ (31 - k) / 2 := by
    rw [Nat.div_div_eq_div_mul, ← Nat.pow_succ, show (31 - k).succ = 32 - k by omega]
  have h := shr_and y (31 - k)
  rw [Nat.and_one_is_mod] at h
  rw [e]
  show _ = 2 * _ + bN (y.testBit (31 - k))
  rw [← h]
  omega
theorem left_right {y z k : Nat} {q : List Bool} (hy : y < 2 ^ 32) (hz : z < 2 ^ 32) (hk : k < 32) (hq : q.length = k) (h1 : q ++ [false] = pth y (k + 1)) (h2 : q ++ [true] = pth z (k + 1)) : y < z := by
  rw [pth_succ] at h1 h2
  obtain ⟨e1, e2⟩ := List.append_inj h1 (by rw [hq, pth_len])
  obtain ⟨e3, e4⟩ := List.append_inj h2 (by rw [hq, pth_len])
  have e5 := top_eq hy hz (show k ≤ 32 by omega) (e1.symm.trans e3)
  have e6 := top_bit y k hk
  have e7 := top_bit z k hk
  rw [← (List.cons.inj e2).1] at e6
  rw [← (List.cons.inj e4).1] at e7
  have e8 : bN false = 0 := rfl
  have e9 : bN true = 1 := rfl
  rcases Nat.lt_or_ge y z with h | h
  · exact h
  · have := Nat.div_le_div_right (c := 2 ^ (31 - k)) h
    omega
theorem low_le {x y n : Nat} (hx : x < 2 ^ 32) (hy : y < 2 ^ 32) (hok : okP x n = true) (h : pth x n = pth y n) : x ≤ y := by
  have h1 := (okP_iff hx).1 hok
  have e := top_eq hx hy h1.1 h
  have hm : x % 2 ^ (32 - n) = 0 := by
    apply Nat.eq_of_testBit_eq
    intro j
    rw [Nat.testBit_mod_two_pow, Nat.zero_testBit]
    by_cases hj : j < 32 - n
    · have := h1.2 (31 - j) (by omega) (by omega)
      unfold bt at this
      rw [show 31 - (31 - j) = j by omega] at this
      rw [this]; simp
    · simp [hj]
  have e1 := Nat.div_add_mod x (2 ^ (32 - n))
  have e2 := Nat.div_mul_le_self y (2 ^ (32 - n))
  rw [hm, e, Nat.mul_comm] at e1
  omega
def ltR (y z : Rt) : Prop := y.ad < z.ad ∨ (y.ad = z.ad ∧ y.bt < z.bt)
section
variable {l : List Nd} {fr : List Nat} {G : Nat → Option (List Bool)} {now : List Rt}
theorem path_le (hr : Rts l G now []) {i : Nat} {p : List Bool} (hi : G i = some p) : p.length ≤ 32 := by
  rcases hr.dead i p hi with h | ⟨y, hy, h⟩
  · have := h.length_le; simp at this; simp [this]
  · have h1 := h.length_le
    obtain ⟨n, hn, hn32, _⟩ := rightB_le (hr.ok y hy).2
    rw [ofR, pth_len, hn, Int.toNat_natCast] at h1
    omega
theorem dp_node (h : Core l fr G) (hr : Rts l G now []) : ∀ (f i : Nat) (p : List Bool), G i = some p → p.length + f = 33 → Dp l f i := by
  intro f
  induction f with
  | zero => intro i p hi hf; have := path_le hr hi; omega
  | succ f ih =>
    intro i p hi hf
    obtain ⟨x, hx⟩ := h.node hi
    have key : ∀ b, Dp l f (chd x b) := fun b => by
      rcases h.chn i x hx b with hc | ⟨j, hc, _⟩
      · rw [hc]; cases f
        · rfl
        · exact .inl rfl
      · rw [hc]
        exact ih j _ (h.child i p x b j hi hx hc) (by rw [List.length_append, List.length_singleton]; omega)
    exact .inr ⟨i, x, rfl, hx, key false, key true⟩
theorem each_mem (h : Core l fr G) (hr : Rts l G now []) : ∀ (f i : Nat) (p : List Bool), G i = some p → p.length + f = 33 → ∀ y, y ∈ eachF l f i ↔ y ∈ now ∧ p <+: ofR y := by
  intro f
  induction f with
  | zero => intro i p hi hf; have := path_le hr hi; omega
  | succ f ih =>
    intro i p hi hf y
    obtain ⟨x, hx⟩ := h.node hi
    have key : ∀ b, y ∈ eachF l f (chd x b) ↔ y ∈ now ∧ p ++ [b] <+: ofR y := fun b => by
      rcases h.chn i x hx b with hc | ⟨j, hc, _⟩
      · rw [hc, eachF_neg]
        constructor
        · intro hm; cases hm
        · rintro ⟨hy, hpre⟩
          exfalso
          obtain ⟨a, z, ha, _, _⟩ := hr.back y hy
          obtain ⟨q, hq⟩ := h.up (p ++ [b]).length _ a ha hpre.length_le
          rw [← List.prefix_iff_eq_take.1 hpre] at hq
          obtain ⟨k, w, hk, hw, hcw⟩ := h.par q p b hq
          have := h.inj _ _ _ hk hi
          subst this
          rw [hx] at hw; cases hw
          rw [hc] at hcw
          omega
      · rw [hc]
        exact ih j _ (h.child i p x b j hi hx hc) (by rw [List.length_append, List.length_singleton]; omega) y
    rw [eachF_go hx, List.mem_append, List.mem_append, show x.a = chd x false from rfl, show x.b = chd x true from rfl, key false, key true]
    constructor
    · rintro (hm | ⟨h1, h2⟩ | ⟨h1, h2⟩)
      · by_cases hh : x.has = true
        · rw [if_pos hh] at hm
          obtain ⟨h3, h4⟩ := hr.has i p x hi hx hh
          rw [List.mem_singleton.1 hm]
          exact ⟨h3, by rw [h4]; exact List.prefix_refl _⟩
        · rw [if_neg hh] at hm; cases hm
      · exact ⟨h1, (List.prefix_append p [false]).trans h2⟩
      · exact ⟨h1, (List.prefix_append p [true]).trans h2⟩
    · rintro ⟨hy, hpre⟩
      obtain ⟨t, ht⟩ := hpre
      cases t with
      | nil =>
        rw [List.append_nil] at ht
        left
        obtain ⟨a, z, ha, hz, hhz⟩ := hr.back y hy
        rw [← ht] at ha
        have := h.inj _ _ _ ha hi
        subst this
        rw [hx] at hz; cases hz
        rw [if_pos hhz]
        obtain ⟨h3, h4⟩ := hr.has a p x hi hx hhz
        exact List.mem_singleton.2 (uniq_eq hr.uniq hy h3 (by rw [h4, ht]))
      | cons b t =>
        right
        have hb : p ++ [b] <+: ofR y := ⟨t, by rw [← ht]; simp⟩
        cases b
        · exact .inl ⟨hy, hb⟩
        · exact .inr ⟨hy, hb⟩
theorem pre_pth {y : Rt} {p : List Bool} (h : p <+: ofR y) : p = pth y.ad p.length ∧ p.length ≤ y.bt.toNat := ⟨((pth_prefix _ _ _).1 h).2, ((pth_prefix _ _ _).1 h).1⟩
theorem each_sorted (h : Core l fr G) (hr : Rts l G now []) : ∀ (f i : Nat) (p : List Bool), G i = some p → p.length + f = 33 → (eachF l f i).Pairwise ltR := by
  intro f
  induction f with
  | zero => intro i p hi hf; have := path_le hr hi; omega
  | succ f ih =>
    intro i p hi hf
    obtain ⟨x, hx⟩ := h.node hi
    have key : ∀ b, (eachF l f (chd x b)).Pairwise ltR ∧ ∀ y ∈ eachF l f (chd x b), y ∈ now ∧ p ++ [b] <+: ofR y := fun b => by
      rcases h.chn i x hx b with hc | ⟨j, hc, _⟩
      · rw [hc, eachF_neg]
        exact ⟨List.Pairwise.nil, fun y hm => by cases hm⟩
      · rw [hc]
        have hj := h.child i p x b j hi hx hc
        have hl : (p ++ [b]).length + f = 33 := by rw [List.length_append, List.length_singleton]; omega
        exact ⟨ih j _ hj hl, fun y hm => (each_mem h hr f j _ hj hl y).1 hm⟩
    have hbt : ∀ y ∈ now, ∃ n : Nat, y.bt = n ∧ n ≤ 32 := fun y hy => by
      obtain ⟨n, hn, hn32, _⟩ := rightB_le (hr.ok y hy).2
      exact ⟨n, hn, hn32⟩
    rw [eachF_go hx, List.pairwise_append, List.pairwise_append]
    refine ⟨?_, ⟨(key false).1, (key true).1, fun y hy z hz => ?_⟩, fun y hy z hz => ?_⟩
    · split
      · exact List.pairwise_singleton _ _
      · exact List.Pairwise.nil
    · obtain ⟨h1, h2⟩ := (key false).2 y hy
      obtain ⟨h3, h4⟩ := (key true).2 z hz
      obtain ⟨h5, h6⟩ := pre_pth h2
      obtain ⟨h7, _⟩ := pre_pth h4
      rw [List.length_append, List.length_singleton] at h5 h6 h7
      obtain ⟨n, hn, hn32⟩ := hbt y h1
      exact .inl (left_right (hr.ok y h1).1 (hr.ok z h3).1 (by omega) rfl h5 h7)
    · by_cases hh : x.has = true
      · rw [if_pos hh, List.mem_singleton] at hy
        subst hy
        obtain ⟨h1, h2⟩ := hr.has i p x hi hx hh
        have hz2 : ∃ b, z ∈ now ∧ p ++ [b] <+: ofR z := by
          rcases List.mem_append.1 hz with h3 | h3
          · exact ⟨_, (key false).2 z h3⟩
          · exact ⟨_, (key true).2 z h3⟩
        obtain ⟨b, h3, h4⟩ := hz2
        obtain ⟨n, hn, hn32, hok⟩ := rightB_le (hr.ok _ h1).2
        have hpn : p.length = n := by rw [← h2, ofR, pth_len, hn, Int.toNat_natCast]
        obtain ⟨h5, h6⟩ := pre_pth h4
        obtain ⟨h7, _⟩ := pre_pth ((List.prefix_append p [b]).trans h4)
        rw [List.length_append, List.length_singleton] at h6
        obtain ⟨m, hm, _⟩ := hbt z h3
        have hle : x.r.ad ≤ z.ad := low_le (hr.ok _ h1).1 (hr.ok z h3).1 hok (by
          rw [← hpn, ← h7, ← h2, ofR, hn, Int.toNat_natCast, pth_len])
        rcases Nat.lt_or_ge x.r.ad z.ad with h8 | h8
        · exact .inl h8
        · exact .inr ⟨by omega, by omega⟩
      · rw [if_neg hh] at hy; cases hy
end
/-- All routes, in the order of their prefixes. -/
theorem allS {w : World} {M B g K : Nat} {vf : Value} {now : List Rt} (h : TrS w M B g vf K now) (hn : now.length ≤ 256) :
    Calls Try.prog 22 #[.pointer (some ⟨B, 0, none⟩)] w fun e w' => ∃ v ls, e = .returned v ∧ w'.ownsRow w.heap.size 32 3 v ls.length (rtsL ls) ∧ Below w.heap.size w w' ∧ ls.length = now.length ∧ (∀ y, y ∈ ls ↔ y ∈ now) ∧ ls.Pairwise ltR := by
  obtain ⟨cap, l, fr, n, ht, ⟨_, G, hc, hr⟩, _⟩ := h
  have hm : ∀ y, y ∈ eachF l 33 (0 : Nat) ↔ y ∈ now := fun y => (each_mem hc hr 33 0 [] hc.root rfl y).trans (and_iff_left List.nil_prefix)
  have hs := each_sorted hc hr 33 0 [] hc.root rfl
  have hl : (eachF l 33 (0 : Nat)).length = now.length := by
    refine nodup_eq ?_ ?_ hm
    · refine hs.imp ?_
      rintro a b (h1 | ⟨_, h1⟩) rfl
      · omega
      · omega
    · refine hr.uniq.imp ?_
      rintro a b h1 rfl
      exact h1 rfl
  refine (callsIn_wide (n := 3)).1 ?_
  refine (all22_in Fence.wide rfl 3 trivial trivial trivial trivial rfl (Nat.le_refl _) w M B g cap vf l fr n 33 (dp_node hc hr 33 0 [] hc.root rfl) ht (by rw [show eachF l 33 0 = eachF l 33 (0 : Nat) from rfl, hl]; omega)).mono fun e w' hh => ?_
  obtain ⟨v, h1, h2, h3⟩ := hh
  exact ⟨v, _, h1, h2, h3, hl, hm, hs⟩
end Go.Proofs.Ytfpbcdlfcaglgaa.P
