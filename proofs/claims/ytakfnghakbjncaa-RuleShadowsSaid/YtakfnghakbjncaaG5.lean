/- The contract of rule.Shadowed. -/
import Derived.Test.YtakfnghakbjncaaQ7
namespace Go.Proofs.Ytakfnghakbjncaa.P
open Go.RowKit Go.Shelf Go.Proofs.YtakfnghakbjncaaW.PrintWords Go.Proofs.YtakfnghakbjncaaW.PrintLast Go.Proofs.YtakfnghakbjncaaW.PrintMore
open D15

theorem C_take {α : Type} {d : Kd α} {w : World} {A : Option Addr} {xs : List α} (h : d.C w A xs.length xs) (i : Nat) (hi : i ≤ xs.length) : d.C w A (xs.take i).length (xs.take i) := by
  obtain ⟨_, h2, h3⟩ := h
  have hl : (xs.take i).length = i := by rw [List.length_take]; omega
  refine ⟨rfl, by omega, fun hn => ?_⟩
  obtain ⟨ad, e, hc⟩ := h3 (by omega)
  exact ⟨ad, e, fun j p hj => hc j p (by
    rw [List.getElem?_take] at hj
    split at hj
    · exact hj
    · cases hj)⟩

def cs42 (x : S42) : Array Value := #[.int .i64 x.f0, .int .i64 x.f1, .int .u32 x.f2.f0, .int .i64 x.f2.f1, .int .u32 x.f3.f0, .int .i64 x.f3.f1, .int .i64 x.f4, .int .i64 x.f5, .int .i64 x.f6, .int .i64 x.f7, .int .i64 x.f8, .bool x.f9]

theorem shadow52 (x y : S42) (b : Nat) (W : World) (h1 : W.heap[b]? = some (.cells (cs42 y) 42 (0, 0))) :
    Calls Try.prog 52 (#[c42 x] ++ #[.pointer (some ⟨b, 0, none⟩)]) W fun e w' => e = .returned (.bool (rcB x y)) ∧ Below W.heap.size W w' := by
  have hc := fun w => rule_Covers.calls 30 x.f0 x.f1 x.f2.f0 x.f2.f1 x.f3.f0 x.f3.f1 x.f4 x.f5 x.f6 x.f7 x.f8 x.f9 y.f0 y.f1 y.f2.f0 y.f2.f1 y.f3.f0 y.f3.f1 y.f4 y.f5 y.f6 y.f7 y.f8 y.f9 _ w (rc_some x y 30 (Nat.le_refl _))
  have HC := Aside0.mk hc
  clear hc
  have lb : b < W.heap.size := blk_lt h1
  have z0 := blk_cell h1 0
  have z1 := blk_cell h1 1
  have z2 := blk_cell h1 2
  have z3 := blk_cell h1 3
  have z4 := blk_cell h1 4
  have z5 := blk_cell h1 5
  have z6 := blk_cell h1 6
  have z7 := blk_cell h1 7
  have z8 := blk_cell h1 8
  have z9 := blk_cell h1 9
  have z10 := blk_cell h1 10
  have z11 := blk_cell h1 11
  unfold cs42 at z0 z1 z2 z3 z4 z5 z6 z7 z8 z9 z10 z11
  clear h1
  have hu42 := Try.underlying42
  unfold c42
  show Calls Try.prog 52 #[.agg #[.int .i64 x.f0, .int .i64 x.f1, .int .u32 x.f2.f0, .int .i64 x.f2.f1, .int .u32 x.f3.f0, .int .i64 x.f3.f1, .int .i64 x.f4, .int .i64 x.f5, .int .i64 x.f6, .int .i64 x.f7, .int .i64 x.f8, .bool x.f9], .pointer (some ⟨b, 0, none⟩)] W _
  go_enter Try.func52, Try.ntmps52
  go_wp2_with (go_at_call 27; refine (HC.out _).mono ?_; rintro e w' ⟨rfl, hb⟩)
  go_ret
  exact ⟨rfl, below_then ((Below.refl _ _).alloc (Nat.le_refl _) _) (by simp) hb⟩

/-- The places (of the first i) of the rules that one ahead of them covers. -/
def shTo (l : List S42) (i : Nat) : List Int := ((List.range i).filter fun j => (l.take j).any fun r => rcB r (rd_T42 l (j : Int))).map fun (j : Nat) => (j : Int)
theorem shTo_succ (l : List S42) (i : Nat) : shTo l (i + 1) = if ((l.take i).any fun r => rcB r (rd_T42 l (i : Int))) = true then shTo l i ++ [(i : Int)] else shTo l i := by
  unfold shTo
  rw [List.range_succ, List.filter_append, List.map_append]
  by_cases h : ((l.take i).any fun r => rcB r (rd_T42 l (i : Int))) = true
  · rw [if_pos h]; simp [h]
  · rw [if_neg h]; simp [h]
theorem shTo_le (l : List S42) (i : Nat) : (shTo l i).length ≤ i := by
  unfold shTo
  rw [List.length_map]
  have := List.length_filter_le (fun j => (l.take j).any fun r => rcB r (rd_T42 l (j : Int))) (List.range i)
  rw [List.length_range] at this
  exact this

def rule_Shadowed.f (l0 : List S42) : Option (List Int) := if l0.length ≤ 17592186044416 then some (shTo l0 l0.length) else none

theorem Try.info3 : (Try.prog.info? 3).map (fun i => (i.zero, i.size, i.bytes)) = some (some (.int .i64 0), 1, 8) := by kernel_rfl

set_option maxHeartbeats 4000000 in
theorem rule_Shadowed.calls (A0 : Option Addr) (c0 : Nat) (l0 : List (S42)) (r : List Int) (w : World) (hr0 : Kd.C k42 w A0 l0.length l0) (hc0 : l0.length ≤ c0) (h : rule_Shadowed.f l0 = some r) :
    Calls Try.prog 29 #[.slice A0 l0.length c0] w fun e w' => ∃ v, e = .returned v ∧ Kd.R (Kd.int .i64) 3 w' w.heap.size (fun _ => True) v r ∧ Below w.heap.size w w' := by
  unfold rule_Shadowed.f at h
  by_cases hbig : l0.length ≤ 17592186044416
  · rw [if_pos hbig] at h
    obtain rfl := Option.some.inj h
    clear h
    have eg : ∀ args w, (callFunc 52 args).run Try.prog w = .ok (.enter 52 args) w := enters_of Try.func52 (by kernel_rfl) rfl
    have hmf : ∀ (fn : Fn) (first cap : Array Value) (w : World), (Instr.makeFunc fn first cap).run Try.prog w = .ok (.func fn first cap) w := fun _ _ _ _ => rfl
    obtain ⟨i0, hi, hz0, hz1, hz2⟩ := info_parts Try.info3
    have HR0 := Aside0.mk hr0
    have HI0 := Aside0.mk hi
    have HI1 := Aside0.mk hz0
    have HI2 := Aside0.mk hz1
    have HI3 := Aside0.mk hz2
    have EG := Aside0.mk eg
    clear hr0 hi hz0 hz1 hz2 eg
    have hu42 := Try.underlying42
    obtain ⟨n, hn⟩ : ∃ n, n = l0.length := ⟨_, rfl⟩
    have HN := Aside0.mk hn
    rw [← hn] at hbig hc0 ⊢
    clear hn
    go_enter Try.func29, Try.ntmps29
    go_wp2
    go_loopg [3, 4, 5, 8] n (fun gg v3 _ _ s8 wr => ∃ kk : Nat, kk ≤ n ∧ n - kk ≤ gg ∧ s8 = .int .i64 kk ∧ Aside0 (Below w.heap.size w wr) ∧ Aside0 (wr.ownsRow w.heap.size 3 1 v3 (shTo l0 kk).length ((shTo l0 kk).map (Value.int .i64))))
    case atStart => exact ⟨0, Nat.zero_le _, by omega, rfl, ⟨Below.refl _ w⟩, ⟨World.ownsRow_nil _ _ _ _⟩⟩
    case round =>
      obtain ⟨kk, hkk, hg, rfl, BW, HO⟩ := hrel
      by_cases hlt : kk < n
      · have hltz : (kk : Int) < (n : Int) := by omega
        have h0 : (0 : Int) ≤ (kk : Int) := by omega
        have hcap : (kk : Int) ≤ (c0 : Int) := by omega
        have hlen : kk < l0.length := by rw [← HN.out]; exact hlt
        obtain ⟨ad, eA, q0, q1, q2, q3, q4, q5, q6, q7, q8, q9, q10, q11⟩ := at_T42 HR0.out kk h0 (by rw [← HN.out]; exact hltz)
        cases eA
        rw [Int.toNat_natCast] at q0 q1 q2 q3 q4 q5 q6 q7 q8 q9 q10 q11
        replace q0 := (BW.out.cell (World.block_lt_of_cell? w _ q0)).trans q0
        replace q1 := (BW.out.cell (World.block_lt_of_cell? w _ q1)).trans q1
        replace q2 := (BW.out.cell (World.block_lt_of_cell? w _ q2)).trans q2
        replace q3 := (BW.out.cell (World.block_lt_of_cell? w _ q3)).trans q3
        replace q4 := (BW.out.cell (World.block_lt_of_cell? w _ q4)).trans q4
        replace q5 := (BW.out.cell (World.block_lt_of_cell? w _ q5)).trans q5
        replace q6 := (BW.out.cell (World.block_lt_of_cell? w _ q6)).trans q6
        replace q7 := (BW.out.cell (World.block_lt_of_cell? w _ q7)).trans q7
        replace q8 := (BW.out.cell (World.block_lt_of_cell? w _ q8)).trans q8
        replace q9 := (BW.out.cell (World.block_lt_of_cell? w _ q9)).trans q9
        replace q10 := (BW.out.cell (World.block_lt_of_cell? w _ q10)).trans q10
        replace q11 := (BW.out.cell (World.block_lt_of_cell? w _ q11)).trans q11
        have HS := Aside0.mk (shTo_succ l0 kk)
        generalize rd_T42 l0 kk = x at q0 q1 q2 q3 q4 q5 q6 q7 q8 q9 q10 q11 HS
        have hBx : Below w.heap.size w (wr.alloc (.cells (cs42 x) 42)) := below_alloc BW.out _
        have htl : (l0.take kk).length = kk := by rw [List.length_take]; omega
        have hcon := has47 52 #[.pointer (some ⟨wr.heap.size, 0, none⟩)] (fun r => rcB r x) EG.out (some ad) c0 (l0.take kk) (wr.alloc (.cells (cs42 x) 42)) (C_take (Kd.C_below HR0.out hBx) kk (by omega)) (by omega)
          (fun W y _ hW => shadow52 y x wr.heap.size W ((hW.block wr.heap.size (by simp)).trans (heap_alloc_new wr _)))
        rw [htl] at hcon
        have HC := Aside0.mk hcon
        have HBX := Aside0.mk hBx
        clear hcon hBx htl
        have hle := shTo_le l0 kk
        cases hq : ((l0.take kk).any fun r => rcB r x) with
        | true =>
          rw [hq] at HC HS
          go_wp2_with fail
          refine HC.out.mono ?_
          rintro e w2 ⟨rfl, hb2⟩
          have HB2 := Aside0.mk (below_then HBX.out HBX.out.size hb2)
          have HO2 := Aside0.mk (pw_own_below (HO.out.alloc (.cells (cs42 x) 42)) hb2)
          have hs2 : w.heap.size ≤ w2.heap.size := HB2.out.size
          clear hb2 q0 q1 q2 q3 q4 q5 q6 q7 q8 q9 q10 q11
          go_wp2_with (at_builtin; refine wpList_append_own _ rfl (.tmp 18) (.tmp 20) 57 rfl w.heap.size 3 i0 (.int .i64 0) 1 8 Try.underlying57 HI0.out HI1.out HI2.out HI3.out rfl (by decide) _ _ _ rfl (HO2.out.alloc _) ⟨w2.heap.size, 0, none⟩ 1 1 [.int .i64 kk] rfl rfl ?c1 ?c2 ?c3 ?c4 ?c5 ?_)
          case c1 =>
            intro j u hj
            match j, hj with
            | 0, hj => simp at hj; subst hj; simp [Addr.add]
          case c2 => intro u hu; simp at hu; subst hu; rfl
          case c3 => unfold maxLen; omega
          case c4 => omega
          case c5 => simp; omega
          intro v' w3 hown' hgrow _
          have HB3 := Aside0.mk ((below_alloc HB2.out _).grown hgrow (by simp; omega) (fun k h => (own_base (HO2.out.alloc (.cells #[.int .i64 (kk : Int)] 3)) k h)))
          have HO3 := Aside0.mk hown'
          clear hown' hgrow
          go_wp2
          go_roundg (n - (kk + 1))
          case measure => omega
          case rel =>
            refine ⟨kk + 1, by omega, by omega, by go_num, HB3, ⟨?_⟩⟩
            rw [HS.out, if_pos trivial, List.length_append, List.map_append]
            exact HO3.out
        | false =>
          rw [hq] at HC HS
          go_wp2_with fail
          refine HC.out.mono ?_
          rintro e w2 ⟨rfl, hb2⟩
          have HB2 := Aside0.mk (below_then HBX.out HBX.out.size hb2)
          have HO2 := Aside0.mk (pw_own_below (HO.out.alloc (.cells (cs42 x) 42)) hb2)
          clear hb2 q0 q1 q2 q3 q4 q5 q6 q7 q8 q9 q10 q11
          go_wp2
          go_roundg (n - (kk + 1))
          case measure => omega
          case rel =>
            refine ⟨kk + 1, by omega, by omega, by go_num, HB2, ⟨?_⟩⟩
            rw [HS.out, if_neg (by simp)]
            exact HO2.out
      · have hltz : ¬ (kk : Int) < (n : Int) := by omega
        have hk : kk = n := by omega
        have HK := Aside0.mk hk
        clear hk
        go_wp2
        go_ret
        refine ⟨_, rfl, ?_, BW.out⟩
        refine Kd.R_of_own (enc := Value.int .i64) (h1 := fun _ => rfl) ?_ (fun _ _ => trivial)
        have ho := HO.out
        rw [HK.out] at ho
        exact ho
  · rw [if_neg hbig] at h; cases h
end Go.Proofs.Ytakfnghakbjncaa.P
