/-
  The reference's Take.
-/
import Derived.Test.YtnajihlhcdedgaaG7
import Derived.IntWalk
namespace Go.Proofs.Ytnajihlhcdedgaa
open Go.RowKit
set_option linter.unusedVariables false
set_option linter.unusedSimpArgs false
attribute [local simp] blkAt_setCell blkAt_alloc blkAt_drew Obj.put_cells

set_option maxRecDepth 100000 in
set_option maxHeartbeats 4000000 in
theorem ref_Take_yes (f : Int) (L b o cap : Nat) (bt : Nat → Int) (A0 A1 : Nat → Int) (hL : L ≤ 16) (w : World) (hbw : b < w.heap.size)
    (hA0L : A0 L = 0) (hA1L : A1 L = 0) (hbt : Hid (∀ j, j < L → 0 ≤ bt j ∧ bt j ≤ 255))
    (hcell : Hid (∀ j, j < L → w.cell? ⟨b, o + j, none⟩ = some (.int .u8 (bt j))))
    (hstep : Hid (∀ j, j < L → (j < 8 → 0 ≤ A0 (j + 1) ∧ A0 (j + 1) ≤ 72057594037927935 ∧ A0 (j + 1) * 256 + bt j = A0 j ∧ A1 (j + 1) = A1 j) ∧ (8 ≤ j → 0 ≤ A1 (j + 1) ∧ A1 (j + 1) ≤ 72057594037927935 ∧ A1 (j + 1) * 256 + bt j = A1 j ∧ A0 (j + 1) = A0 j)))
    (hI : Pure Try.prog 93 #[.int .i64 f, .agg #[.int .u64 (A0 0), .int .u64 (A1 0)]] (.bool true)) :
    Calls Try.prog 44 #[.int .i64 f, .slice (some ⟨b, o, none⟩) L cap] w fun e w' => e = .returned (.tuple #[.agg #[.int .u64 (A0 0), .int .u64 (A1 0)], .bool true]) ∧ Kept w w' := by
  have HI := Lib.hid hI
  clear hI
  go_enter Try.func44, Try.ntmps44
  go_wp2_with fail
  refine abs_world (fun W => Kept w W ∧ Blk W (w.heap.size) 28 #[.int .u64 0, .int .u64 0] ∧ Blk W (w.heap.size + 1) 28 #[.int .u64 0, .int .u64 0]) ?_ ?_
  · refine ⟨?_, ?_, ?_⟩
    · repeat (first | exact Kept.refl _ | (refine Kept.setCell ?_ (kept_side (by first | assumption | omega)) _) | apply Kept.alloc | apply Kept.drew)
    · simp [Blk, *] <;> (intros; omega)
    · simp [Blk, *] <;> (intros; omega)
  rintro W1 ⟨kW1, BW1_0, BW1_1⟩
  have cW1_0_0 : W1.cell? ⟨w.heap.size, 0, none⟩ = some (.int .u64 0) := BW1_0.cell 0 rfl
  have cW1_0_1 : W1.cell? ⟨w.heap.size, 1, none⟩ = some (.int .u64 0) := BW1_0.cell 1 rfl
  have fW1_0 := BW1_0.free
  have cW1_1_0 : W1.cell? ⟨w.heap.size + 1, 0, none⟩ = some (.int .u64 0) := BW1_1.cell 0 rfl
  have cW1_1_1 : W1.cell? ⟨w.heap.size + 1, 1, none⟩ = some (.int .u64 0) := BW1_1.cell 1 rfl
  have fW1_1 := BW1_1.free
  go_wp2_with fail
  go_loopw [7] (fun t wr => ∃ k : Nat, k ≤ L ∧ t = .int .i64 ((k : Int) - 1) ∧ Kept w wr ∧ Blk wr (w.heap.size) 28 #[.int .u64 0, .int .u64 0] ∧ Blk wr (w.heap.size + 1) 28 #[.int .u64 (A0 k), .int .u64 (A1 k)]) (fun t _ => (intOf t + 1).toNat)
  case atStart => exact ⟨L, Nat.le_refl _, rfl, kW1, BW1_0, by rw [hA0L, hA1L]; exact BW1_1⟩
  case round =>
    obtain ⟨k, hk, rfl, kwr, Bwr_0, Bwr_1⟩ := hrel
    clear cW1_0_0 cW1_0_1 cW1_1_0 cW1_1_1 fW1_0 BW1_0 fW1_1 BW1_1 kW1
    rcases Nat.eq_zero_or_pos k with hk0 | hk0
    · subst hk0
      have cwr_0_0 : wr.cell? ⟨w.heap.size, 0, none⟩ = some (.int .u64 0) := Bwr_0.cell 0 rfl
      have cwr_0_1 : wr.cell? ⟨w.heap.size, 1, none⟩ = some (.int .u64 0) := Bwr_0.cell 1 rfl
      have fwr_0 := Bwr_0.free
      have cwr_1_0 : wr.cell? ⟨w.heap.size + 1, 0, none⟩ = some (.int .u64 (A0 0)) := Bwr_1.cell 0 rfl
      have cwr_1_1 : wr.cell? ⟨w.heap.size + 1, 1, none⟩ = some (.int .u64 (A1 0)) := Bwr_1.cell 1 rfl
      have fwr_1 := Bwr_1.free
      go_wp2_with fail
      refine (HI.out _).mono ?_
      rintro e W2 ⟨rfl, hkW2⟩
      have kW2 := kwr.trans hkW2
      have BW2_0 := Bwr_0.kept hkW2
      have BW2_1 := Bwr_1.kept hkW2
      clear cwr_0_0 cwr_0_1 cwr_1_0 cwr_1_1 fwr_0 fwr_1 Bwr_0 Bwr_1 kwr hkW2
      have cW2_0_0 : W2.cell? ⟨w.heap.size, 0, none⟩ = some (.int .u64 0) := BW2_0.cell 0 rfl
      have cW2_0_1 : W2.cell? ⟨w.heap.size, 1, none⟩ = some (.int .u64 0) := BW2_0.cell 1 rfl
      have fW2_0 := BW2_0.free
      have cW2_1_0 : W2.cell? ⟨w.heap.size + 1, 0, none⟩ = some (.int .u64 (A0 0)) := BW2_1.cell 0 rfl
      have cW2_1_1 : W2.cell? ⟨w.heap.size + 1, 1, none⟩ = some (.int .u64 (A1 0)) := BW2_1.cell 1 rfl
      have fW2_1 := BW2_1.free
      go_wp2_with fail
      go_wp2_with fail
      refine bodyPost_ret (v := .tuple #[.agg #[.int .u64 (A0 0), .int .u64 (A1 0)], .bool true]) (by simp [results, Try.results44, go_sem, *]) rfl ⟨rfl, ?_⟩
      repeat (first | exact kW2 | (refine Kept.setCell ?_ (kept_side (by first | assumption | omega)) _) | apply Kept.alloc | apply Kept.drew)
    · obtain ⟨j, rfl⟩ : ∃ j, k = j + 1 := ⟨k - 1, by omega⟩
      have hj : j < L := by omega
      have ej : ((j + 1 : Nat) : Int) - 1 = (j : Int) := by omega
      rw [ej]
      clear ej
      have hb := hbt.out j hj
      have hc := hcell.out j hj
      have hj16 : j < 16 := by omega
      have hi0 : (0 : Int) ≤ (j : Int) := by omega
      have hiL : (j : Int) < (L : Int) := by omega
      have hiL2 : (j : Int) / 8 < 2 := by omega
      have hj8 : j / 8 < 2 := by omega
      obtain ⟨hb0, hb1⟩ := hb
      have hst := hstep.out j hj
      rcases Nat.lt_or_ge j 8 with h8 | h8
      · obtain ⟨g0, g1, gE, gN⟩ := hst.1 h8
        have GE := Lib.hid gE
        have GN := Lib.hid gN
        clear gE gN hst
        have cwr_0_0 : wr.cell? ⟨w.heap.size, 0, none⟩ = some (.int .u64 0) := Bwr_0.cell 0 rfl
        have cwr_0_1 : wr.cell? ⟨w.heap.size, 1, none⟩ = some (.int .u64 0) := Bwr_0.cell 1 rfl
        have fwr_0 := Bwr_0.free
        have cwr_1_0 : wr.cell? ⟨w.heap.size + 1, 0, none⟩ = some (.int .u64 (A0 (j + 1))) := Bwr_1.cell 0 rfl
        have cwr_1_1 : wr.cell? ⟨w.heap.size + 1, 1, none⟩ = some (.int .u64 (A1 (j + 1))) := Bwr_1.cell 1 rfl
        have fwr_1 := Bwr_1.free
        have et : ((j : Int) / 8).toNat = 0 := by omega
        have cb := kwr.cell hc
        have ew8 : IntKind.i64.wrap ((j : Int) / 8) = (j : Int) / 8 := IntWalk.i64_in _ (by omega)
        clear h8
        go_wp2_with fail
        refine wp_region_calm 14 (by kernel_rfl) (by kernel_rfl) ?_
        simp only [List.take_succ_cons, List.take_zero, List.drop_succ_cons, List.drop_zero]
        repeat (first
          | (refine calm_skip rfl ?_; simp only [Act.put, List.setIfInBounds_toArray, List.set_cons_zero, List.set_cons_succ])
          | (refine calm_ex rfl ?_; apply Exists.intro; refine And.intro (fun w' hk => ?_) ?_; (focus (have q0 := hk.cell cwr_0_0; have q1 := hk.cell cwr_0_1; have q2 := hk.cell cwr_1_0; have q3 := hk.cell cwr_1_1; have q4 := hk.cell cb; clear hk; go_simp; exact rfl)); simp only [Act.put, List.setIfInBounds_toArray, List.set_cons_zero, List.set_cons_succ]))
        refine calm_nil ?_
        intro W3 hkW3
        have kW3 := kwr.trans hkW3
        have BW3_0 := Bwr_0.kept hkW3
        have BW3_1 := Bwr_1.kept hkW3
        clear cwr_0_0 cwr_0_1 cwr_1_0 cwr_1_1 cb fwr_0 fwr_1 Bwr_0 Bwr_1 kwr hkW3
        have cW3_0_0 : W3.cell? ⟨w.heap.size, 0, none⟩ = some (.int .u64 0) := BW3_0.cell 0 rfl
        have cW3_0_1 : W3.cell? ⟨w.heap.size, 1, none⟩ = some (.int .u64 0) := BW3_0.cell 1 rfl
        have fW3_0 := BW3_0.free
        have cW3_1_0 : W3.cell? ⟨w.heap.size + 1, 0, none⟩ = some (.int .u64 (A0 (j + 1))) := BW3_1.cell 0 rfl
        have cW3_1_1 : W3.cell? ⟨w.heap.size + 1, 1, none⟩ = some (.int .u64 (A1 (j + 1))) := BW3_1.cell 1 rfl
        have fW3_1 := BW3_1.free
        go_wp2_with fail
        go_roundw
        case rel =>
          refine ⟨j, by omega, rfl, ?_, ?_, ?_⟩
          · exact kW3.setCell (kept_side (by omega)) _
          · simp [Blk, *]
          · rw [← GE.out, ← GN.out]; simp [Blk, *]
        case measure => (simp [intOf]) <;> omega
      · obtain ⟨g0, g1, gE, gN⟩ := hst.2 h8
        have GE := Lib.hid gE
        have GN := Lib.hid gN
        clear gE gN hst
        have cwr_0_0 : wr.cell? ⟨w.heap.size, 0, none⟩ = some (.int .u64 0) := Bwr_0.cell 0 rfl
        have cwr_0_1 : wr.cell? ⟨w.heap.size, 1, none⟩ = some (.int .u64 0) := Bwr_0.cell 1 rfl
        have fwr_0 := Bwr_0.free
        have cwr_1_0 : wr.cell? ⟨w.heap.size + 1, 0, none⟩ = some (.int .u64 (A0 (j + 1))) := Bwr_1.cell 0 rfl
        have cwr_1_1 : wr.cell? ⟨w.heap.size + 1, 1, none⟩ = some (.int .u64 (A1 (j + 1))) := Bwr_1.cell 1 rfl
        have fwr_1 := Bwr_1.free
        have et : ((j : Int) / 8).toNat = 1 := by omega
        have cb := kwr.cell hc
        have ew8 : IntKind.i64.wrap ((j : Int) / 8) = (j : Int) / 8 := IntWalk.i64_in _ (by omega)
        clear h8
        go_wp2_with fail
        refine wp_region_calm 14 (by kernel_rfl) (by kernel_rfl) ?_
        simp only [List.take_succ_cons, List.take_zero, List.drop_succ_cons, List.drop_zero]
        repeat (first
          | (refine calm_skip rfl ?_; simp only [Act.put, List.setIfInBounds_toArray, List.set_cons_zero, List.set_cons_succ])
          | (refine calm_ex rfl ?_; apply Exists.intro; refine And.intro (fun w' hk => ?_) ?_; (focus (have q0 := hk.cell cwr_0_0; have q1 := hk.cell cwr_0_1; have q2 := hk.cell cwr_1_0; have q3 := hk.cell cwr_1_1; have q4 := hk.cell cb; clear hk; go_simp; exact rfl)); simp only [Act.put, List.setIfInBounds_toArray, List.set_cons_zero, List.set_cons_succ]))
        refine calm_nil ?_
        intro W4 hkW4
        have kW4 := kwr.trans hkW4
        have BW4_0 := Bwr_0.kept hkW4
        have BW4_1 := Bwr_1.kept hkW4
        clear cwr_0_0 cwr_0_1 cwr_1_0 cwr_1_1 cb fwr_0 fwr_1 Bwr_0 Bwr_1 kwr hkW4
        have cW4_0_0 : W4.cell? ⟨w.heap.size, 0, none⟩ = some (.int .u64 0) := BW4_0.cell 0 rfl
        have cW4_0_1 : W4.cell? ⟨w.heap.size, 1, none⟩ = some (.int .u64 0) := BW4_0.cell 1 rfl
        have fW4_0 := BW4_0.free
        have cW4_1_0 : W4.cell? ⟨w.heap.size + 1, 0, none⟩ = some (.int .u64 (A0 (j + 1))) := BW4_1.cell 0 rfl
        have cW4_1_1 : W4.cell? ⟨w.heap.size + 1, 1, none⟩ = some (.int .u64 (A1 (j + 1))) := BW4_1.cell 1 rfl
        have fW4_1 := BW4_1.free
        go_wp2_with fail
        go_roundw
        case rel =>
          refine ⟨j, by omega, rfl, ?_, ?_, ?_⟩
          · exact kW4.setCell (kept_side (by omega)) _
          · simp [Blk, *]
          · rw [← GE.out, ← GN.out]; simp [Blk, *]
        case measure => (simp [intOf]) <;> omega

set_option maxRecDepth 100000 in
set_option maxHeartbeats 4000000 in
theorem ref_Take_no (f : Int) (L b o cap : Nat) (bt : Nat → Int) (A0 A1 : Nat → Int) (hL : L ≤ 16) (w : World) (hbw : b < w.heap.size)
    (hA0L : A0 L = 0) (hA1L : A1 L = 0) (hbt : Hid (∀ j, j < L → 0 ≤ bt j ∧ bt j ≤ 255))
    (hcell : Hid (∀ j, j < L → w.cell? ⟨b, o + j, none⟩ = some (.int .u8 (bt j))))
    (hstep : Hid (∀ j, j < L → (j < 8 → 0 ≤ A0 (j + 1) ∧ A0 (j + 1) ≤ 72057594037927935 ∧ A0 (j + 1) * 256 + bt j = A0 j ∧ A1 (j + 1) = A1 j) ∧ (8 ≤ j → 0 ≤ A1 (j + 1) ∧ A1 (j + 1) ≤ 72057594037927935 ∧ A1 (j + 1) * 256 + bt j = A1 j ∧ A0 (j + 1) = A0 j)))
    (hI : Pure Try.prog 93 #[.int .i64 f, .agg #[.int .u64 (A0 0), .int .u64 (A1 0)]] (.bool false)) :
    Calls Try.prog 44 #[.int .i64 f, .slice (some ⟨b, o, none⟩) L cap] w fun e w' => e = .returned (.tuple #[.agg #[.int .u64 0, .int .u64 0], .bool false]) ∧ Kept w w' := by
  have HI := Lib.hid hI
  clear hI
  go_enter Try.func44, Try.ntmps44
  go_wp2_with fail
  refine abs_world (fun W => Kept w W ∧ Blk W (w.heap.size) 28 #[.int .u64 0, .int .u64 0] ∧ Blk W (w.heap.size + 1) 28 #[.int .u64 0, .int .u64 0]) ?_ ?_
  · refine ⟨?_, ?_, ?_⟩
    · repeat (first | exact Kept.refl _ | (refine Kept.setCell ?_ (kept_side (by first | assumption | omega)) _) | apply Kept.alloc | apply Kept.drew)
    · simp [Blk, *] <;> (intros; omega)
    · simp [Blk, *] <;> (intros; omega)
  rintro W1 ⟨kW1, BW1_0, BW1_1⟩
  have cW1_0_0 : W1.cell? ⟨w.heap.size, 0, none⟩ = some (.int .u64 0) := BW1_0.cell 0 rfl
  have cW1_0_1 : W1.cell? ⟨w.heap.size, 1, none⟩ = some (.int .u64 0) := BW1_0.cell 1 rfl
  have fW1_0 := BW1_0.free
  have cW1_1_0 : W1.cell? ⟨w.heap.size + 1, 0, none⟩ = some (.int .u64 0) := BW1_1.cell 0 rfl
  have cW1_1_1 : W1.cell? ⟨w.heap.size + 1, 1, none⟩ = some (.int .u64 0) := BW1_1.cell 1 rfl
  have fW1_1 := BW1_1.free
  go_wp2_with fail
  go_loopw [7] (fun t wr => ∃ k : Nat, k ≤ L ∧ t = .int .i64 ((k : Int) - 1) ∧ Kept w wr ∧ Blk wr (w.heap.size) 28 #[.int .u64 0, .int .u64 0] ∧ Blk wr (w.heap.size + 1) 28 #[.int .u64 (A0 k), .int .u64 (A1 k)]) (fun t _ => (intOf t + 1).toNat)
  case atStart => exact ⟨L, Nat.le_refl _, rfl, kW1, BW1_0, by rw [hA0L, hA1L]; exact BW1_1⟩
  case round =>
    obtain ⟨k, hk, rfl, kwr, Bwr_0, Bwr_1⟩ := hrel
    clear cW1_0_0 cW1_0_1 cW1_1_0 cW1_1_1 fW1_0 BW1_0 fW1_1 BW1_1 kW1
    rcases Nat.eq_zero_or_pos k with hk0 | hk0
    · subst hk0
      have cwr_0_0 : wr.cell? ⟨w.heap.size, 0, none⟩ = some (.int .u64 0) := Bwr_0.cell 0 rfl
      have cwr_0_1 : wr.cell? ⟨w.heap.size, 1, none⟩ = some (.int .u64 0) := Bwr_0.cell 1 rfl
      have fwr_0 := Bwr_0.free
      have cwr_1_0 : wr.cell? ⟨w.heap.size + 1, 0, none⟩ = some (.int .u64 (A0 0)) := Bwr_1.cell 0 rfl
      have cwr_1_1 : wr.cell? ⟨w.heap.size + 1, 1, none⟩ = some (.int .u64 (A1 0)) := Bwr_1.cell 1 rfl
      have fwr_1 := Bwr_1.free
      go_wp2_with fail
      refine (HI.out _).mono ?_
      rintro e W2 ⟨rfl, hkW2⟩
      have kW2 := kwr.trans hkW2
      have BW2_0 := Bwr_0.kept hkW2
      have BW2_1 := Bwr_1.kept hkW2
      clear cwr_0_0 cwr_0_1 cwr_1_0 cwr_1_1 fwr_0 fwr_1 Bwr_0 Bwr_1 kwr hkW2
      have cW2_0_0 : W2.cell? ⟨w.heap.size, 0, none⟩ = some (.int .u64 0) := BW2_0.cell 0 rfl
      have cW2_0_1 : W2.cell? ⟨w.heap.size, 1, none⟩ = some (.int .u64 0) := BW2_0.cell 1 rfl
      have fW2_0 := BW2_0.free
      have cW2_1_0 : W2.cell? ⟨w.heap.size + 1, 0, none⟩ = some (.int .u64 (A0 0)) := BW2_1.cell 0 rfl
      have cW2_1_1 : W2.cell? ⟨w.heap.size + 1, 1, none⟩ = some (.int .u64 (A1 0)) := BW2_1.cell 1 rfl
      have fW2_1 := BW2_1.free
      go_wp2_with fail
      go_wp2_with fail
      refine bodyPost_ret (v := .tuple #[.agg #[.int .u64 0, .int .u64 0], .bool false]) (by simp [results, Try.results44, go_sem, *]) rfl ⟨rfl, ?_⟩
      repeat (first | exact kW2 | (refine Kept.setCell ?_ (kept_side (by first | assumption | omega)) _) | apply Kept.alloc | apply Kept.drew)
    · obtain ⟨j, rfl⟩ : ∃ j, k = j + 1 := ⟨k - 1, by omega⟩
      have hj : j < L := by omega
      have ej : ((j + 1 : Nat) : Int) - 1 = (j : Int) := by omega
      rw [ej]
      clear ej
      have hb := hbt.out j hj
      have hc := hcell.out j hj
      have hj16 : j < 16 := by omega
      have hi0 : (0 : Int) ≤ (j : Int) := by omega
      have hiL : (j : Int) < (L : Int) := by omega
      have hiL2 : (j : Int) / 8 < 2 := by omega
      have hj8 : j / 8 < 2 := by omega
      obtain ⟨hb0, hb1⟩ := hb
      have hst := hstep.out j hj
      rcases Nat.lt_or_ge j 8 with h8 | h8
      · obtain ⟨g0, g1, gE, gN⟩ := hst.1 h8
        have GE := Lib.hid gE
        have GN := Lib.hid gN
        clear gE gN hst
        have cwr_0_0 : wr.cell? ⟨w.heap.size, 0, none⟩ = some (.int .u64 0) := Bwr_0.cell 0 rfl
        have cwr_0_1 : wr.cell? ⟨w.heap.size, 1, none⟩ = some (.int .u64 0) := Bwr_0.cell 1 rfl
        have fwr_0 := Bwr_0.free
        have cwr_1_0 : wr.cell? ⟨w.heap.size + 1, 0, none⟩ = some (.int .u64 (A0 (j + 1))) := Bwr_1.cell 0 rfl
        have cwr_1_1 : wr.cell? ⟨w.heap.size + 1, 1, none⟩ = some (.int .u64 (A1 (j + 1))) := Bwr_1.cell 1 rfl
        have fwr_1 := Bwr_1.free
        have et : ((j : Int) / 8).toNat = 0 := by omega
        have cb := kwr.cell hc
        have ew8 : IntKind.i64.wrap ((j : Int) / 8) = (j : Int) / 8 := IntWalk.i64_in _ (by omega)
        clear h8
        go_wp2_with fail
        refine wp_region_calm 14 (by kernel_rfl) (by kernel_rfl) ?_
        simp only [List.take_succ_cons, List.take_zero, List.drop_succ_cons, List.drop_zero]
        repeat (first
          | (refine calm_skip rfl ?_; simp only [Act.put, List.setIfInBounds_toArray, List.set_cons_zero, List.set_cons_succ])
          | (refine calm_ex rfl ?_; apply Exists.intro; refine And.intro (fun w' hk => ?_) ?_; (focus (have q0 := hk.cell cwr_0_0; have q1 := hk.cell cwr_0_1; have q2 := hk.cell cwr_1_0; have q3 := hk.cell cwr_1_1; have q4 := hk.cell cb; clear hk; go_simp; exact rfl)); simp only [Act.put, List.setIfInBounds_toArray, List.set_cons_zero, List.set_cons_succ]))
        refine calm_nil ?_
        intro W3 hkW3
        have kW3 := kwr.trans hkW3
        have BW3_0 := Bwr_0.kept hkW3
        have BW3_1 := Bwr_1.kept hkW3
        clear cwr_0_0 cwr_0_1 cwr_1_0 cwr_1_1 cb fwr_0 fwr_1 Bwr_0 Bwr_1 kwr hkW3
        have cW3_0_0 : W3.cell? ⟨w.heap.size, 0, none⟩ = some (.int .u64 0) := BW3_0.cell 0 rfl
        have cW3_0_1 : W3.cell? ⟨w.heap.size, 1, none⟩ = some (.int .u64 0) := BW3_0.cell 1 rfl
        have fW3_0 := BW3_0.free
        have cW3_1_0 : W3.cell? ⟨w.heap.size + 1, 0, none⟩ = some (.int .u64 (A0 (j + 1))) := BW3_1.cell 0 rfl
        have cW3_1_1 : W3.cell? ⟨w.heap.size + 1, 1, none⟩ = some (.int .u64 (A1 (j + 1))) := BW3_1.cell 1 rfl
        have fW3_1 := BW3_1.free
        go_wp2_with fail
        go_roundw
        case rel =>
          refine ⟨j, by omega, rfl, ?_, ?_, ?_⟩
          · exact kW3.setCell (kept_side (by omega)) _
          · simp [Blk, *]
          · rw [← GE.out, ← GN.out]; simp [Blk, *]
        case measure => (simp [intOf]) <;> omega
      · obtain ⟨g0, g1, gE, gN⟩ := hst.2 h8
        have GE := Lib.hid gE
        have GN := Lib.hid gN
        clear gE gN hst
        have cwr_0_0 : wr.cell? ⟨w.heap.size, 0, none⟩ = some (.int .u64 0) := Bwr_0.cell 0 rfl
        have cwr_0_1 : wr.cell? ⟨w.heap.size, 1, none⟩ = some (.int .u64 0) := Bwr_0.cell 1 rfl
        have fwr_0 := Bwr_0.free
        have cwr_1_0 : wr.cell? ⟨w.heap.size + 1, 0, none⟩ = some (.int .u64 (A0 (j + 1))) := Bwr_1.cell 0 rfl
        have cwr_1_1 : wr.cell? ⟨w.heap.size + 1, 1, none⟩ = some (.int .u64 (A1 (j + 1))) := Bwr_1.cell 1 rfl
        have fwr_1 := Bwr_1.free
        have et : ((j : Int) / 8).toNat = 1 := by omega
        have cb := kwr.cell hc
        have ew8 : IntKind.i64.wrap ((j : Int) / 8) = (j : Int) / 8 := IntWalk.i64_in _ (by omega)
        clear h8
        go_wp2_with fail
        refine wp_region_calm 14 (by kernel_rfl) (by kernel_rfl) ?_
        simp only [List.take_succ_cons, List.take_zero, List.drop_succ_cons, List.drop_zero]
        repeat (first
          | (refine calm_skip rfl ?_; simp only [Act.put, List.setIfInBounds_toArray, List.set_cons_zero, List.set_cons_succ])
          | (refine calm_ex rfl ?_; apply Exists.intro; refine And.intro (fun w' hk => ?_) ?_; (focus (have q0 := hk.cell cwr_0_0; have q1 := hk.cell cwr_0_1; have q2 := hk.cell cwr_1_0; have q3 := hk.cell cwr_1_1; have q4 := hk.cell cb; clear hk; go_simp; exact rfl)); simp only [Act.put, List.setIfInBounds_toArray, List.set_cons_zero, List.set_cons_succ]))
        refine calm_nil ?_
        intro W4 hkW4
        have kW4 := kwr.trans hkW4
        have BW4_0 := Bwr_0.kept hkW4
        have BW4_1 := Bwr_1.kept hkW4
        clear cwr_0_0 cwr_0_1 cwr_1_0 cwr_1_1 cb fwr_0 fwr_1 Bwr_0 Bwr_1 kwr hkW4
        have cW4_0_0 : W4.cell? ⟨w.heap.size, 0, none⟩ = some (.int .u64 0) := BW4_0.cell 0 rfl
        have cW4_0_1 : W4.cell? ⟨w.heap.size, 1, none⟩ = some (.int .u64 0) := BW4_0.cell 1 rfl
        have fW4_0 := BW4_0.free
        have cW4_1_0 : W4.cell? ⟨w.heap.size + 1, 0, none⟩ = some (.int .u64 (A0 (j + 1))) := BW4_1.cell 0 rfl
        have cW4_1_1 : W4.cell? ⟨w.heap.size + 1, 1, none⟩ = some (.int .u64 (A1 (j + 1))) := BW4_1.cell 1 rfl
        have fW4_1 := BW4_1.free
        go_wp2_with fail
        go_roundw
        case rel =>
          refine ⟨j, by omega, rfl, ?_, ?_, ?_⟩
          · exact kW4.setCell (kept_side (by omega)) _
          · simp [Blk, *]
          · rw [← GE.out, ← GN.out]; simp [Blk, *]
        case measure => (simp [intOf]) <;> omega


/-- Bytes k.. of the low eight, and of the others. -/
def tkLo (bs : List Int) (k : Nat) : Int := leVal ((bs.take 8).drop k)
def tkHi (bs : List Int) (k : Nat) : Int := leVal (bs.drop (max 8 k))
theorem leVal_cons (b : Int) (r : List Int) : leVal (b :: r) = b + 256 * leVal r := rfl
theorem leVal_bound : ∀ (l : List Int), (∀ b ∈ l, isByte b) → 0 ≤ leVal l ∧ leVal l + 1 ≤ 256 ^ l.length
  | [], _ => by simp [leVal]
  | b :: r, h => by
    have ih := leVal_bound r fun x hx => h x (by simp [hx])
    have hb := h b (by simp)
    unfold isByte at hb
    have e : (256 : Int) ^ (b :: r).length = 256 * 256 ^ r.length := by rw [List.length_cons, Int.pow_succ, Int.mul_comm]
    rw [e, leVal_cons]
    omega
theorem leVal_append : ∀ (l r : List Int), leVal (l ++ r) = leVal l + 256 ^ l.length * leVal r
  | [], r => by simp [leVal]
  | b :: l, r => by
    rw [List.cons_append, leVal_cons, leVal_cons, leVal_append l r, List.length_cons, Int.pow_succ, Int.mul_add, Int.add_assoc, ← Int.mul_assoc, Int.mul_comm (256 ^ l.length) 256]
theorem pow256_le (k m : Nat) (h : k ≤ m) : (256 : Int) ^ k ≤ 256 ^ m := by
  have : (256 : Nat) ^ k ≤ 256 ^ m := Nat.pow_le_pow_right (by omega) h
  have e : ∀ n : Nat, (256 : Int) ^ n = ((256 ^ n : Nat) : Int) := fun n => by rw [Int.natCast_pow]; rfl
  rw [e, e]
  exact Int.ofNat_le.2 this

theorem ref_Take {f : Int} (hf : isF f) {b o cap : Nat} {bs : List Int} (hl : bs.length ≤ 16) (hb : ∀ x ∈ bs, isByte x) (w : World) (hbw : b < w.heap.size)
    (hc : ∀ j, j < bs.length → w.cell? ⟨b, o + j, none⟩ = some (.int .u8 (bs.getD j 0))) :
    Calls Try.prog 44 #[.int .i64 f, .slice (some ⟨b, o, none⟩) bs.length cap] w fun e w' => e = .returned (.tuple #[if leVal bs < rP f then E (leVal bs) else E 0, .bool (decide (leVal bs < rP f))]) ∧ Kept w w' := by
  have hval : leVal bs = tkLo bs 0 + tkHi bs 0 * 18446744073709551616 := by
    unfold tkLo tkHi
    have h := leVal_append (bs.take 8) (bs.drop 8)
    rw [List.take_append_drop] at h
    rw [List.drop_zero, show max 8 0 = 8 from rfl, h]
    rcases Nat.lt_or_ge bs.length 8 with h8 | h8
    · rw [List.drop_eq_nil_of_le (by omega)]; simp [leVal]
    · rw [List.length_take, Nat.min_eq_left h8, Int.mul_comm]; rfl
  have hbd := leVal_bound bs hb
  have hp := pow256_le bs.length 16 hl
  have h128 : is128 (leVal bs) := by unfold is128; omega
  have hlo : is64 (tkLo bs 0) := by
    unfold tkLo is64
    have := leVal_bound ((bs.take 8).drop 0) fun x hx => hb x (List.mem_of_mem_take (List.mem_of_mem_drop hx))
    have hp := pow256_le ((bs.take 8).drop 0).length 8 (by simp; omega)
    omega
  have hE : E (leVal bs) = .agg #[.int .u64 (tkLo bs 0), .int .u64 (tkHi bs 0)] := by rw [hval]; exact E_mk hlo
  have hI := ref_In hf h128
  rw [hE] at hI
  have hbt : ∀ j, j < bs.length → 0 ≤ bs.getD j 0 ∧ bs.getD j 0 ≤ 255 := fun j hj => by
    have := hb bs[j] (List.getElem_mem hj)
    rw [List.getD_eq_getElem?_getD, List.getElem?_eq_getElem hj]
    exact this
  have hstep : ∀ j, j < bs.length → (j < 8 → 0 ≤ tkLo bs (j + 1) ∧ tkLo bs (j + 1) ≤ 72057594037927935 ∧ tkLo bs (j + 1) * 256 + bs.getD j 0 = tkLo bs j ∧ tkHi bs (j + 1) = tkHi bs j) ∧ (8 ≤ j → 0 ≤ tkHi bs (j + 1) ∧ tkHi bs (j + 1) ≤ 72057594037927935 ∧ tkHi bs (j + 1) * 256 + bs.getD j 0 = tkHi bs j ∧ tkLo bs (j + 1) = tkLo bs j) := by
    intro j hj
    have eg : bs.getD j 0 = bs[j] := by rw [List.getD_eq_getElem?_getD, List.getElem?_eq_getElem hj]; rfl
    rw [eg]
    constructor
    · intro h8
      have hlt : j < (bs.take 8).length := by rw [List.length_take]; omega
      have h1 := leVal_bound ((bs.take 8).drop (j + 1)) fun x hx => hb x (List.mem_of_mem_take (List.mem_of_mem_drop hx))
      have hp := pow256_le ((bs.take 8).drop (j + 1)).length 7 (by simp; omega)
      unfold tkLo tkHi
      rw [List.drop_eq_getElem_cons hlt, leVal_cons, List.getElem_take, show max 8 (j + 1) = 8 by omega, show max 8 j = 8 by omega]
      refine ⟨h1.1, by omega, by omega, rfl⟩
    · intro h8
      have h1 := leVal_bound (bs.drop (j + 1)) fun x hx => hb x (List.mem_of_mem_drop hx)
      have hp := pow256_le (bs.drop (j + 1)).length 7 (by simp; omega)
      unfold tkLo tkHi
      have d1 : (bs.take 8).drop (j + 1) = [] := List.drop_eq_nil_of_le (by rw [List.length_take]; omega)
      have d2 : (bs.take 8).drop j = [] := List.drop_eq_nil_of_le (by rw [List.length_take]; omega)
      rw [show max 8 (j + 1) = j + 1 by omega, show max 8 j = j by omega, List.drop_eq_getElem_cons hj, leVal_cons, d1, d2]
      refine ⟨h1.1, by omega, by omega, rfl⟩
  have z0 : tkLo bs bs.length = 0 := by unfold tkLo; rw [List.drop_eq_nil_of_le (by rw [List.length_take]; omega)]; rfl
  have z1 : tkHi bs bs.length = 0 := by unfold tkHi; rw [List.drop_eq_nil_of_le (by omega)]; rfl
  by_cases h : leVal bs < rP f
  · rw [if_pos h, decide_eq_true h, hE]
    rw [decide_eq_true h] at hI
    exact ref_Take_yes f _ b o cap _ _ _ hl w hbw z0 z1 hbt hc hstep hI
  · rw [if_neg h, decide_eq_false h]
    rw [decide_eq_false h] at hI
    exact ref_Take_no f _ b o cap _ _ _ hl w hbw z0 z1 hbt hc hstep hI
end Go.Proofs.Ytnajihlhcdedgaa
