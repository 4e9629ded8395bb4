/- Contracts of basic's small functions: levels, Level, Fits; of the reference's Byte; of label.Right (one label). -/
import Derived.Test.YtifmckhabkghcaaA6
namespace Go.Proofs.Ytifmckhabkghcaa.P
open Go.RowKit
set_option linter.unusedSimpArgs false

def lv4 : Array Value := #[.int .u8 171, .int .u8 150, .int .u8 90, .int .u8 61]
set_option maxRecDepth 100000 in
theorem levels45 (w : World) : Calls Try.prog 45 #[] w fun e w' => e = .returned (.agg lv4) ∧ Below w.heap.size w w' := by
  have hu80 := Try.underlying80
  go_enter Try.func45, Try.ntmps45
  go_wp2_with fail
  refine bodyPost_ret (results_cell_row rfl _ _ w.heap.size 80 lv4 (0, 0) _ rfl ?_ hu80 rfl (by kernel_rfl)) rfl ⟨rfl, ?_⟩
  · exact heap_alloc_new w _
  · exact bel_alloc (Below.refl _ _) _

/-- The first place of a byte among the levels' bytes. -/
def lvlI (b : Int) : Int := if b = 171 then 0 else if b = 150 then 1 else if b = 90 then 2 else if b = 61 then 3 else -1
set_option maxRecDepth 100000 in
set_option maxHeartbeats 1000000 in
theorem index49 (b : Int) (g : Nat) (w : World) (h0 : w.cell? ⟨g, 0, none⟩ = some (.int .u8 171)) (h1 : w.cell? ⟨g, 1, none⟩ = some (.int .u8 150)) (h2 : w.cell? ⟨g, 2, none⟩ = some (.int .u8 90)) (h3 : w.cell? ⟨g, 3, none⟩ = some (.int .u8 61)) :
    Calls Try.prog 49 #[.slice (some ⟨g, 0, none⟩) 4 4, .int .u8 b] w fun e w' => e = .returned (.int .i64 (lvlI b)) ∧ w = w' := by
  have H0 := Lib.hid h0
  have H1 := Lib.hid h1
  have H2 := Lib.hid h2
  have H3 := Lib.hid h3
  clear h0 h1 h2 h3
  go_enter Try.func49, Try.ntmps49
  go_wp2_with fail
  go_loopg [8] 4 (fun gg s8 wr => ∃ n : Nat, n ≤ 4 ∧ 4 - n ≤ gg ∧ s8 = .int .i64 n ∧ w = wr ∧ Hid ((1 ≤ n → b ≠ 171) ∧ (2 ≤ n → b ≠ 150) ∧ (3 ≤ n → b ≠ 90) ∧ (4 ≤ n → b ≠ 61)))
  case atStart => exact ⟨0, Nat.zero_le _, Nat.le_refl _, rfl, rfl, by unfold Hid; omega⟩
  case round =>
    obtain ⟨n, hn, hgg, rfl, rfl, HI⟩ := hrel
    have hn2 : n = 0 ∨ n = 1 ∨ n = 2 ∨ n = 3 ∨ n = 4 := by omega
    rcases hn2 with rfl | rfl | rfl | rfl | rfl
    · have c := H0.out
      cases hb : (b == 171) with
      | true =>
        have HE := Lib.hid (show lvlI b = 0 by simp at hb; simp [lvlI, hb])
        go_wp2_with fail
        go_ret
        exact ⟨ret_int HE.out.symm, rfl⟩
      | false =>
        have HB := Lib.hid hb
        go_wp2_with fail
        go_roundg 3
        case measure => omega
        case rel => exact ⟨1, by omega, by omega, by go_num, rfl, by have h1 := HB.out; have h2 := HI.out; simp at h1; unfold Hid; omega⟩
    · have c := H1.out
      cases hb : (b == 150) with
      | true =>
        have HE := Lib.hid (show lvlI b = 1 by have h2 := HI.out; simp at hb; simp [lvlI, hb])
        go_wp2_with fail
        go_ret
        exact ⟨ret_int HE.out.symm, rfl⟩
      | false =>
        have HB := Lib.hid hb
        go_wp2_with fail
        go_roundg 2
        case measure => omega
        case rel => exact ⟨2, by omega, by omega, by go_num, rfl, by have h1 := HB.out; have h2 := HI.out; simp at h1; unfold Hid; omega⟩
    · have c := H2.out
      cases hb : (b == 90) with
      | true =>
        have HE := Lib.hid (show lvlI b = 2 by have h2 := HI.out; simp at hb; simp [lvlI, hb])
        go_wp2_with fail
        go_ret
        exact ⟨ret_int HE.out.symm, rfl⟩
      | false =>
        have HB := Lib.hid hb
        go_wp2_with fail
        go_roundg 1
        case measure => omega
        case rel => exact ⟨3, by omega, by omega, by go_num, rfl, by have h1 := HB.out; have h2 := HI.out; simp at h1; unfold Hid; omega⟩
    · have c := H3.out
      cases hb : (b == 61) with
      | true =>
        have HE := Lib.hid (show lvlI b = 3 by have h2 := HI.out; simp at hb; simp [lvlI, hb])
        go_wp2_with fail
        go_ret
        exact ⟨ret_int HE.out.symm, rfl⟩
      | false =>
        have HB := Lib.hid hb
        go_wp2_with fail
        go_roundg 0
        case measure => omega
        case rel => exact ⟨4, by omega, by omega, by go_num, rfl, by have h1 := HB.out; have h2 := HI.out; simp at h1; unfold Hid; omega⟩
    · have HE := Lib.hid (show lvlI b = -1 by have h2 := HI.out; unfold lvlI; rw [if_neg (by omega), if_neg (by omega), if_neg (by omega), if_neg (by omega)])
      go_wp2_with fail
      go_ret
      exact ⟨ret_int HE.out.symm, rfl⟩

def lvlN (b : Int) : Int := max (lvlI b) 0
def lvlB (b : Int) : Bool := decide (0 ≤ lvlI b)
set_option maxRecDepth 100000 in
set_option maxHeartbeats 1000000 in
theorem level17 (b : Int) (w : World) : Calls Try.prog 17 #[.int .u8 b] w fun e w' => e = .returned (.tuple #[.int .i64 (lvlN b), .bool (lvlB b)]) ∧ Below w.heap.size w w' := by
  have hu80 := Try.underlying80
  have hu82 := Try.underlying82
  have HL := Lib.hid levels45
  have HX := Lib.hid (index49 b)
  unfold lvlN lvlB
  generalize lvlI b = q at HX ⊢
  go_enter Try.func17, Try.ntmps17
  go_wp2_with (first
    | (go_at_call 45; refine (HL.out _).mono ?_; rintro e w1 ⟨rfl, hb1⟩; have HB1 := Lib.hid hb1; clear hb1; unfold lv4)
    | (go_at_call 49; refine (HX.out _ _ (World.cell?_alloc_mark _ #[.int .u8 171, .int .u8 150, .int .u8 90, .int .u8 61] 80 (0, 0) 0) (World.cell?_alloc_mark _ #[.int .u8 171, .int .u8 150, .int .u8 90, .int .u8 61] 80 (0, 0) 1) (World.cell?_alloc_mark _ #[.int .u8 171, .int .u8 150, .int .u8 90, .int .u8 61] 80 (0, 0) 2) (World.cell?_alloc_mark _ #[.int .u8 171, .int .u8 150, .int .u8 90, .int .u8 61] 80 (0, 0) 3)).mono ?_; rintro e w2 ⟨rfl, rfl⟩))
  all_goals
    go_ret2
    refine ⟨?_, bel_alloc HB1.out _⟩
    first | (rw [show max q 0 = q by omega]; done) | (rw [show max q 0 = q by omega]; rfl) | (rw [show max q 0 = 0 by omega]; rfl) | (rw [show max q 0 = 0 by omega, show decide (0 ≤ q) = false from decide_eq_false (by omega)]; rfl) | (rw [show max q 0 = q by omega, show decide (0 ≤ q) = true from decide_eq_true (by omega)]; rfl)

def byteL (n : Int) : Int := if n = 0 then 171 else if n = 1 then 150 else if n = 2 then 90 else if n = 3 then 61 else 0
theorem byte21 (n : Int) (w : World) : Calls Try.prog 21 #[.int .i64 n] w fun e w' => e = .returned (.int .u8 (byteL n)) ∧ w = w' := by
  go_enter Try.func21, Try.ntmps21
  go_wp2
  all_goals
    go_ret
    exact ⟨by simp_all [byteL], rfl⟩

def z25 : Array Value := #[.int .i64 0, .int .u8 0, .int .u8 0, .int .u8 0, .int .u8 0, .int .u8 0, .int .u8 0, .int .u8 0, .int .u8 0, .int .u8 0, .int .u8 0, .int .u8 0, .int .u8 0, .int .u8 0, .int .u8 0, .int .u8 0, .int .u8 0, .int .u8 0, .int .u8 0, .int .u8 0, .int .u8 0, .int .u8 0, .int .u8 0, .int .u8 0, .int .u8 0, .int .u8 0, .int .u8 0, .int .u8 0, .int .u8 0, .int .u8 0, .int .u8 0]
set_option maxRecDepth 100000 in
set_option maxHeartbeats 1000000 in
theorem right44 (x : Lab) (g c : Nat) (w : World) (hg : w.rangeAt g 0 (labL x)) : Calls Try.prog 44 #[.slice (some ⟨g, 0, none⟩) 1 c] w fun e w' => e = .returned (.bool (rightL x)) ∧ Below w.heap.size w w' := by
  have hu56 := Try.underlying56
  have hu25 := Try.underlying25
  have HG := Lib.hid hg
  have HR := Lib.hid (right68 x)
  have hi25 : (Try.prog.info? 25).map (·.size) = some (labL x).length := by rw [labL_len]; kernel_rfl
  have N0 := Lib.hid (heap_alloc_new w (.cells z25 25))
  have NA := Lib.hid (World.setRow_alloc_new w z25 (labA x) 25)
  have NB := Lib.hid (bel_alloc (Below.refl w.heap.size w) (.cells (labA x) 25))
  have N1 := Lib.hid (heap_alloc_new w (.cells (labA x) 25))
  unfold z25 at N0 NA
  clear hg
  go_enter Try.func44, Try.ntmps44
  go_wp2_with fail
  refine wp_loop_rounds 2 ?_
  rw [rounds_succ]
  cases hr : rightL x with
  | false =>
    have HQ := Lib.hid hr
    rw [hr] at HR
    clear hr
    go_wp2_with (first
      | (refine wpList_load_mid rfl 25 (.tmp 9) rfl g 0 rfl (labL x) _ HG.out hu25 rfl hi25 ?_)
      | (refine wpList_store_row rfl 25 (.tmp 4) (.tmp 10) rfl w.heap.size (labA x) rfl rfl 25 z25 N0.out (info25 _) (by rw [labA_size]; rfl) (all_oneCell_toArray (labL_one _)) ?_; rw [NA.out])
      | (refine wpList_load_row rfl 25 (.tmp 4) rfl w.heap.size rfl 25 (labA x) (0, 0) _ N1.out hu25 rfl (info25 _) ?_)
      | (go_at_call 68; refine (HR.out _).mono ?_; rintro e w4 ⟨rfl, hb'⟩; have HB' := Lib.hid hb'; clear hb'))
    go_ret
    exact ⟨ret_bool HQ.out.symm, below_then NB.out NB.out.size HB'.out⟩
  | true =>
    have HQ := Lib.hid hr
    rw [hr] at HR
    clear hr
    go_wp2_with (first
      | (refine wpList_load_mid rfl 25 (.tmp 9) rfl g 0 rfl (labL x) _ HG.out hu25 rfl hi25 ?_)
      | (refine wpList_store_row rfl 25 (.tmp 4) (.tmp 10) rfl w.heap.size (labA x) rfl rfl 25 z25 N0.out (info25 _) (by rw [labA_size]; rfl) (all_oneCell_toArray (labL_one _)) ?_; rw [NA.out])
      | (refine wpList_load_row rfl 25 (.tmp 4) rfl w.heap.size rfl 25 (labA x) (0, 0) _ N1.out hu25 rfl (info25 _) ?_)
      | (go_at_call 68; refine (HR.out _).mono ?_; rintro e w4 ⟨rfl, hb'⟩; have HB' := Lib.hid hb'; clear hb'))
    rw [rounds_succ]
    go_wp2_with fail
    go_ret
    exact ⟨ret_bool HQ.out.symm, below_then NB.out NB.out.size HB'.out⟩
/-- Can a label be told by these options? -/
def fitsB (x : Lab) : Bool := decide (0 ≤ x.lv) && decide (x.lv < 4) && decide (mostB x.S 240 < 28)
set_option maxRecDepth 100000 in
set_option maxHeartbeats 1000000 in
theorem fits14 (x : Lab) (w : World) : Calls Try.prog 14 #[.agg (labA x)] w fun e w' => e = .returned (.bool (fitsB x)) ∧ Below w.heap.size w w' := by
  have hu23 := Try.underlying23
  have hu25 := Try.underlying25
  have hu80 := Try.underlying80
  have HL := Lib.hid levels45
  have HM := Lib.hid (most47 x.S)
  have H0 := heap_alloc_new w (.cells (labA x) 25)
  have K0 := Lib.hid H0
  have R0 := range_of H0
  have HB := Lib.hid (bel_alloc (Below.refl w.heap.size w) (.cells (labA x) 25))
  have c0 : (w.alloc (.cells (labA x) 25)).cell? ⟨w.heap.size, 0, none⟩ = some (.int .i64 x.lv) := (cell_of_row _ _ _ _ _ _ H0).trans (labA_0 x)
  have s0 : w.heap.size < (w.alloc (.cells (labA x) 25)).heap.size := lt_of_block H0
  have hi0 := info23L x.S
  have RR := Lib.hid R0
  have CC := Lib.hid c0
  clear H0 R0 c0
  by_cases h1 : 0 ≤ x.lv
  · by_cases h2 : x.lv < 4
    · have HE := Lib.hid (show fitsB x = decide (mostB x.S 240 < 28) by simp [fitsB, h1, h2])
      generalize mostB x.S 240 = m at HE HM
      have g1 : decide (0 ≤ x.lv) = true := decide_eq_true h1
      have g2 : decide (x.lv < 4) = true := decide_eq_true h2
      go_enter Try.func14, Try.ntmps14
      go_wp2_with (first
        | (go_at_call 45; refine (HL.out _).mono ?_; rintro e w1 ⟨rfl, hb1⟩; have HB1 := Lib.hid (bel_alloc hb1 (.cells lv4 80)); have c1 : w1.cell? ⟨w.heap.size, 0, none⟩ = some (.int .i64 x.lv) := (hb1.cell (p := ⟨w.heap.size, 0, none⟩) s0).trans CC.out; have R1 := Lib.hid (range_below RR.out s0 HB1.out); have s1 := Nat.lt_of_lt_of_le s0 hb1.size; unfold lv4; unfold lv4 at R1 HB1; clear hb1)
        | (refine load_mid_g 23 (.tmp 14) rfl w.heap.size 1 rfl (catL x.S) _ R1.out hu23 rfl hi0 rfl ?_)
        | (go_at_call 47; refine (HM.out _).mono ?_; rintro e w2 ⟨rfl, hb2⟩; have HB2 := Lib.hid hb2; clear hb2))
      go_ret
      exact ⟨ret_bool HE.out.symm, below_then HB.out HB.out.size (below_then HB1.out HB1.out.size HB2.out)⟩
    · have HE := Lib.hid (show fitsB x = false by simp [fitsB, h2])
      have g1 : decide (0 ≤ x.lv) = true := decide_eq_true h1
      have g2 : decide (x.lv < 4) = false := decide_eq_false h2
      go_enter Try.func14, Try.ntmps14
      go_wp2_with (first
        | (go_at_call 45; refine (HL.out _).mono ?_; rintro e w1 ⟨rfl, hb1⟩; have HB1 := Lib.hid (bel_alloc hb1 (.cells lv4 80)); have c1 : w1.cell? ⟨w.heap.size, 0, none⟩ = some (.int .i64 x.lv) := (hb1.cell (p := ⟨w.heap.size, 0, none⟩) s0).trans CC.out; have s1 := Nat.lt_of_lt_of_le s0 hb1.size; unfold lv4; unfold lv4 at HB1; clear hb1))
      go_ret
      exact ⟨ret_bool HE.out.symm, below_then HB.out HB.out.size HB1.out⟩
  · have HE := Lib.hid (show fitsB x = false by simp [fitsB, h1])
    have g1 : decide (0 ≤ x.lv) = false := decide_eq_false h1
    go_enter Try.func14, Try.ntmps14
    go_wp2_with (first
      | (go_at_call 45; refine (HL.out _).mono ?_; rintro e w1 ⟨rfl, hb1⟩; have HB1 := Lib.hid (bel_alloc hb1 (.cells lv4 80)); have c1 : w1.cell? ⟨w.heap.size, 0, none⟩ = some (.int .i64 x.lv) := (hb1.cell (p := ⟨w.heap.size, 0, none⟩) s0).trans CC.out; have s1 := Nat.lt_of_lt_of_le s0 hb1.size; unfold lv4; unfold lv4 at HB1; clear hb1))
    go_ret
    exact ⟨ret_bool HE.out.symm, below_then HB.out HB.out.size HB1.out⟩
end Go.Proofs.Ytifmckhabkghcaa.P
