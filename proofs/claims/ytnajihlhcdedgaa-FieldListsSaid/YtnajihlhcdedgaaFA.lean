/-
  Either field: the walks of what takes elements one by one.
-/
import Derived.Test.YtnajihlhcdedgaaW1
import Derived.Outline
namespace Go.Proofs.Ytnajihlhcdedgaa
open Go.RowKit
set_option linter.unusedVariables false
set_option linter.unusedSimpArgs false
attribute [local simp] blkAt_setCell blkAt_alloc blkAt_drew Obj.put_cells

set_option maxRecDepth 100000 in
set_option maxHeartbeats 4000000 in
theorem f_Add_s (a0 a1 b0 b1 r : Int) (hG : Pure Try.prog 27 #[.int .u64 a0, .int .u64 b0] (.int .u64 r)) : Pure Try.prog 99 #[.int .u8 1, .agg #[.int .u64 a0, .int .u64 a1], .agg #[.int .u64 b0, .int .u64 b1]] (.agg #[.int .u64 r, .int .u64 0]) := fun w => by
  have HG := Lib.hid hG
  clear hG
  have ne0_2 : w.heap.size ≠ w.heap.size + 1 + 1 := by omega
  have ne2_0 : w.heap.size + 1 + 1 ≠ w.heap.size := by omega
  go_enter Try.func99, Try.ntmps99
  go_wp2_with fail
  refine abs_calls (fun W => Kept w W ∧ Blk W (w.heap.size) 28 #[.int .u64 a0, .int .u64 a1] ∧ Blk W (w.heap.size + 1) 28 #[.int .u64 b0, .int .u64 b1] ∧ Blk W (w.heap.size + 1 + 1) 28 #[.int .u64 0, .int .u64 0]) ?_ ?_
  · refine ⟨?_, ?_, ?_, ?_⟩
    · repeat (first | exact Kept.refl _ | (refine Kept.setCell ?_ (kept_side (by first | assumption | omega)) _) | apply Kept.alloc | apply Kept.drew)
    · simp [Blk, *] <;> (intros; omega)
    · simp [Blk, *] <;> (intros; omega)
    · simp [Blk, *] <;> (intros; omega)
  rintro W1 ⟨kW1, BW1_0, BW1_1, BW1_2⟩
  have cW1_0_0 : W1.cell? ⟨w.heap.size, 0, none⟩ = some (.int .u64 a0) := BW1_0.cell 0 rfl
  have cW1_0_1 : W1.cell? ⟨w.heap.size, 1, none⟩ = some (.int .u64 a1) := BW1_0.cell 1 rfl
  have fW1_0 := BW1_0.free
  have cW1_1_0 : W1.cell? ⟨w.heap.size + 1, 0, none⟩ = some (.int .u64 b0) := BW1_1.cell 0 rfl
  have cW1_1_1 : W1.cell? ⟨w.heap.size + 1, 1, none⟩ = some (.int .u64 b1) := BW1_1.cell 1 rfl
  have fW1_1 := BW1_1.free
  have cW1_2_0 : W1.cell? ⟨w.heap.size + 1 + 1, 0, none⟩ = some (.int .u64 0) := BW1_2.cell 0 rfl
  have cW1_2_1 : W1.cell? ⟨w.heap.size + 1 + 1, 1, none⟩ = some (.int .u64 0) := BW1_2.cell 1 rfl
  have fW1_2 := BW1_2.free
  refine (HG.out _).mono ?_
  rintro e W2 ⟨rfl, hkW2⟩
  have kW2 := kW1.trans hkW2
  have BW2_0 := BW1_0.kept hkW2
  have BW2_1 := BW1_1.kept hkW2
  have BW2_2 := BW1_2.kept hkW2
  clear cW1_0_0 cW1_0_1 cW1_1_0 cW1_1_1 cW1_2_0 cW1_2_1 fW1_0 fW1_1 fW1_2 BW1_0 BW1_1 BW1_2 kW1 hkW2
  have cW2_0_0 : W2.cell? ⟨w.heap.size, 0, none⟩ = some (.int .u64 a0) := BW2_0.cell 0 rfl
  have cW2_0_1 : W2.cell? ⟨w.heap.size, 1, none⟩ = some (.int .u64 a1) := BW2_0.cell 1 rfl
  have fW2_0 := BW2_0.free
  have cW2_1_0 : W2.cell? ⟨w.heap.size + 1, 0, none⟩ = some (.int .u64 b0) := BW2_1.cell 0 rfl
  have cW2_1_1 : W2.cell? ⟨w.heap.size + 1, 1, none⟩ = some (.int .u64 b1) := BW2_1.cell 1 rfl
  have fW2_1 := BW2_1.free
  have cW2_2_0 : W2.cell? ⟨w.heap.size + 1 + 1, 0, none⟩ = some (.int .u64 0) := BW2_2.cell 0 rfl
  have cW2_2_1 : W2.cell? ⟨w.heap.size + 1 + 1, 1, none⟩ = some (.int .u64 0) := BW2_2.cell 1 rfl
  have fW2_2 := BW2_2.free
  go_wp2_with fail
  refine bodyPost_ret (v := .agg #[.int .u64 r, .int .u64 0]) (by simp [results, Try.results99, go_sem, *]) rfl ⟨rfl, ?_⟩
  repeat (first | exact kW2 | (refine Kept.setCell ?_ (kept_side (by first | assumption | omega)) _) | apply Kept.alloc | apply Kept.drew)

set_option maxRecDepth 100000 in
set_option maxHeartbeats 4000000 in
theorem f_Add_l (a0 a1 b0 b1 r0 r1 : Int) (hG : Pure Try.prog 50 #[.agg #[.int .u64 a0, .int .u64 a1], .agg #[.int .u64 b0, .int .u64 b1]] (.agg #[.int .u64 r0, .int .u64 r1])) : Pure Try.prog 99 #[.int .u8 2, .agg #[.int .u64 a0, .int .u64 a1], .agg #[.int .u64 b0, .int .u64 b1]] (.agg #[.int .u64 r0, .int .u64 r1]) := fun w => by
  have HG := Lib.hid hG
  clear hG
  have ne0_2 : w.heap.size ≠ w.heap.size + 1 + 1 := by omega
  have ne2_0 : w.heap.size + 1 + 1 ≠ w.heap.size := by omega
  go_enter Try.func99, Try.ntmps99
  go_wp2_with fail
  refine abs_calls (fun W => Kept w W ∧ Blk W (w.heap.size) 28 #[.int .u64 a0, .int .u64 a1] ∧ Blk W (w.heap.size + 1) 28 #[.int .u64 b0, .int .u64 b1] ∧ Blk W (w.heap.size + 1 + 1) 28 #[.int .u64 0, .int .u64 0]) ?_ ?_
  · refine ⟨?_, ?_, ?_, ?_⟩
    · repeat (first | exact Kept.refl _ | (refine Kept.setCell ?_ (kept_side (by first | assumption | omega)) _) | apply Kept.alloc | apply Kept.drew)
    · simp [Blk, *] <;> (intros; omega)
    · simp [Blk, *] <;> (intros; omega)
    · simp [Blk, *] <;> (intros; omega)
  rintro W1 ⟨kW1, BW1_0, BW1_1, BW1_2⟩
  have cW1_0_0 : W1.cell? ⟨w.heap.size, 0, none⟩ = some (.int .u64 a0) := BW1_0.cell 0 rfl
  have cW1_0_1 : W1.cell? ⟨w.heap.size, 1, none⟩ = some (.int .u64 a1) := BW1_0.cell 1 rfl
  have fW1_0 := BW1_0.free
  have cW1_1_0 : W1.cell? ⟨w.heap.size + 1, 0, none⟩ = some (.int .u64 b0) := BW1_1.cell 0 rfl
  have cW1_1_1 : W1.cell? ⟨w.heap.size + 1, 1, none⟩ = some (.int .u64 b1) := BW1_1.cell 1 rfl
  have fW1_1 := BW1_1.free
  have cW1_2_0 : W1.cell? ⟨w.heap.size + 1 + 1, 0, none⟩ = some (.int .u64 0) := BW1_2.cell 0 rfl
  have cW1_2_1 : W1.cell? ⟨w.heap.size + 1 + 1, 1, none⟩ = some (.int .u64 0) := BW1_2.cell 1 rfl
  have fW1_2 := BW1_2.free
  refine (HG.out _).mono ?_
  rintro e W2 ⟨rfl, hkW2⟩
  have kW2 := kW1.trans hkW2
  have BW2_0 := BW1_0.kept hkW2
  have BW2_1 := BW1_1.kept hkW2
  have BW2_2 := BW1_2.kept hkW2
  clear cW1_0_0 cW1_0_1 cW1_1_0 cW1_1_1 cW1_2_0 cW1_2_1 fW1_0 fW1_1 fW1_2 BW1_0 BW1_1 BW1_2 kW1 hkW2
  have cW2_0_0 : W2.cell? ⟨w.heap.size, 0, none⟩ = some (.int .u64 a0) := BW2_0.cell 0 rfl
  have cW2_0_1 : W2.cell? ⟨w.heap.size, 1, none⟩ = some (.int .u64 a1) := BW2_0.cell 1 rfl
  have fW2_0 := BW2_0.free
  have cW2_1_0 : W2.cell? ⟨w.heap.size + 1, 0, none⟩ = some (.int .u64 b0) := BW2_1.cell 0 rfl
  have cW2_1_1 : W2.cell? ⟨w.heap.size + 1, 1, none⟩ = some (.int .u64 b1) := BW2_1.cell 1 rfl
  have fW2_1 := BW2_1.free
  have cW2_2_0 : W2.cell? ⟨w.heap.size + 1 + 1, 0, none⟩ = some (.int .u64 0) := BW2_2.cell 0 rfl
  have cW2_2_1 : W2.cell? ⟨w.heap.size + 1 + 1, 1, none⟩ = some (.int .u64 0) := BW2_2.cell 1 rfl
  have fW2_2 := BW2_2.free
  go_wp2_with fail
  refine bodyPost_ret (v := .agg #[.int .u64 r0, .int .u64 r1]) (by simp [results, Try.results99, go_sem, *]) rfl ⟨rfl, ?_⟩
  repeat (first | exact kW2 | (refine Kept.setCell ?_ (kept_side (by first | assumption | omega)) _) | apply Kept.alloc | apply Kept.drew)

set_option maxRecDepth 100000 in
set_option maxHeartbeats 4000000 in
theorem f_Add_n (f : Int) (h1b : (f == 1) = false) (h2b : (f == 2) = false) (a0 a1 b0 b1 : Int) : Pure Try.prog 99 #[.int .u8 f, .agg #[.int .u64 a0, .int .u64 a1], .agg #[.int .u64 b0, .int .u64 b1]] (.agg #[.int .u64 0, .int .u64 0]) := fun w => by

  have ne0_2 : w.heap.size ≠ w.heap.size + 1 + 1 := by omega
  have ne2_0 : w.heap.size + 1 + 1 ≠ w.heap.size := by omega
  go_enter Try.func99, Try.ntmps99
  go_wp2_with fail
  refine bodyPost_ret (v := .agg #[.int .u64 0, .int .u64 0]) (by simp [results, Try.results99, go_sem, *]) rfl ⟨rfl, ?_⟩
  repeat (first | exact Kept.refl _ | (refine Kept.setCell ?_ (kept_side (by first | assumption | omega)) _) | apply Kept.alloc | apply Kept.drew)

set_option maxRecDepth 100000 in
set_option maxHeartbeats 4000000 in
theorem f_Sub_s (a0 a1 b0 b1 r : Int) (hG : Pure Try.prog 30 #[.int .u64 a0, .int .u64 b0] (.int .u64 r)) : Pure Try.prog 100 #[.int .u8 1, .agg #[.int .u64 a0, .int .u64 a1], .agg #[.int .u64 b0, .int .u64 b1]] (.agg #[.int .u64 r, .int .u64 0]) := fun w => by
  have HG := Lib.hid hG
  clear hG
  have ne0_2 : w.heap.size ≠ w.heap.size + 1 + 1 := by omega
  have ne2_0 : w.heap.size + 1 + 1 ≠ w.heap.size := by omega
  go_enter Try.func100, Try.ntmps100
  go_wp2_with fail
  refine abs_calls (fun W => Kept w W ∧ Blk W (w.heap.size) 28 #[.int .u64 a0, .int .u64 a1] ∧ Blk W (w.heap.size + 1) 28 #[.int .u64 b0, .int .u64 b1] ∧ Blk W (w.heap.size + 1 + 1) 28 #[.int .u64 0, .int .u64 0]) ?_ ?_
  · refine ⟨?_, ?_, ?_, ?_⟩
    · repeat (first | exact Kept.refl _ | (refine Kept.setCell ?_ (kept_side (by first | assumption | omega)) _) | apply Kept.alloc | apply Kept.drew)
    · simp [Blk, *] <;> (intros; omega)
    · simp [Blk, *] <;> (intros; omega)
    · simp [Blk, *] <;> (intros; omega)
  rintro W1 ⟨kW1, BW1_0, BW1_1, BW1_2⟩
  have cW1_0_0 : W1.cell? ⟨w.heap.size, 0, none⟩ = some (.int .u64 a0) := BW1_0.cell 0 rfl
  have cW1_0_1 : W1.cell? ⟨w.heap.size, 1, none⟩ = some (.int .u64 a1) := BW1_0.cell 1 rfl
  have fW1_0 := BW1_0.free
  have cW1_1_0 : W1.cell? ⟨w.heap.size + 1, 0, none⟩ = some (.int .u64 b0) := BW1_1.cell 0 rfl
  have cW1_1_1 : W1.cell? ⟨w.heap.size + 1, 1, none⟩ = some (.int .u64 b1) := BW1_1.cell 1 rfl
  have fW1_1 := BW1_1.free
  have cW1_2_0 : W1.cell? ⟨w.heap.size + 1 + 1, 0, none⟩ = some (.int .u64 0) := BW1_2.cell 0 rfl
  have cW1_2_1 : W1.cell? ⟨w.heap.size + 1 + 1, 1, none⟩ = some (.int .u64 0) := BW1_2.cell 1 rfl
  have fW1_2 := BW1_2.free
  refine (HG.out _).mono ?_
  rintro e W2 ⟨rfl, hkW2⟩
  have kW2 := kW1.trans hkW2
  have BW2_0 := BW1_0.kept hkW2
  have BW2_1 := BW1_1.kept hkW2
  have BW2_2 := BW1_2.kept hkW2
  clear cW1_0_0 cW1_0_1 cW1_1_0 cW1_1_1 cW1_2_0 cW1_2_1 fW1_0 fW1_1 fW1_2 BW1_0 BW1_1 BW1_2 kW1 hkW2
  have cW2_0_0 : W2.cell? ⟨w.heap.size, 0, none⟩ = some (.int .u64 a0) := BW2_0.cell 0 rfl
  have cW2_0_1 : W2.cell? ⟨w.heap.size, 1, none⟩ = some (.int .u64 a1) := BW2_0.cell 1 rfl
  have fW2_0 := BW2_0.free
  have cW2_1_0 : W2.cell? ⟨w.heap.size + 1, 0, none⟩ = some (.int .u64 b0) := BW2_1.cell 0 rfl
  have cW2_1_1 : W2.cell? ⟨w.heap.size + 1, 1, none⟩ = some (.int .u64 b1) := BW2_1.cell 1 rfl
  have fW2_1 := BW2_1.free
  have cW2_2_0 : W2.cell? ⟨w.heap.size + 1 + 1, 0, none⟩ = some (.int .u64 0) := BW2_2.cell 0 rfl
  have cW2_2_1 : W2.cell? ⟨w.heap.size + 1 + 1, 1, none⟩ = some (.int .u64 0) := BW2_2.cell 1 rfl
  have fW2_2 := BW2_2.free
  go_wp2_with fail
  refine bodyPost_ret (v := .agg #[.int .u64 r, .int .u64 0]) (by simp [results, Try.results100, go_sem, *]) rfl ⟨rfl, ?_⟩
  repeat (first | exact kW2 | (refine Kept.setCell ?_ (kept_side (by first | assumption | omega)) _) | apply Kept.alloc | apply Kept.drew)

set_option maxRecDepth 100000 in
set_option maxHeartbeats 4000000 in
theorem f_Sub_l (a0 a1 b0 b1 r0 r1 : Int) (hG : Pure Try.prog 51 #[.agg #[.int .u64 a0, .int .u64 a1], .agg #[.int .u64 b0, .int .u64 b1]] (.agg #[.int .u64 r0, .int .u64 r1])) : Pure Try.prog 100 #[.int .u8 2, .agg #[.int .u64 a0, .int .u64 a1], .agg #[.int .u64 b0, .int .u64 b1]] (.agg #[.int .u64 r0, .int .u64 r1]) := fun w => by
  have HG := Lib.hid hG
  clear hG
  have ne0_2 : w.heap.size ≠ w.heap.size + 1 + 1 := by omega
  have ne2_0 : w.heap.size + 1 + 1 ≠ w.heap.size := by omega
  go_enter Try.func100, Try.ntmps100
  go_wp2_with fail
  refine abs_calls (fun W => Kept w W ∧ Blk W (w.heap.size) 28 #[.int .u64 a0, .int .u64 a1] ∧ Blk W (w.heap.size + 1) 28 #[.int .u64 b0, .int .u64 b1] ∧ Blk W (w.heap.size + 1 + 1) 28 #[.int .u64 0, .int .u64 0]) ?_ ?_
  · refine ⟨?_, ?_, ?_, ?_⟩
    · repeat (first | exact Kept.refl _ | (refine Kept.setCell ?_ (kept_side (by first | assumption | omega)) _) | apply Kept.alloc | apply Kept.drew)
    · simp [Blk, *] <;> (intros; omega)
    · simp [Blk, *] <;> (intros; omega)
    · simp [Blk, *] <;> (intros; omega)
  rintro W1 ⟨kW1, BW1_0, BW1_1, BW1_2⟩
  have cW1_0_0 : W1.cell? ⟨w.heap.size, 0, none⟩ = some (.int .u64 a0) := BW1_0.cell 0 rfl
  have cW1_0_1 : W1.cell? ⟨w.heap.size, 1, none⟩ = some (.int .u64 a1) := BW1_0.cell 1 rfl
  have fW1_0 := BW1_0.free
  have cW1_1_0 : W1.cell? ⟨w.heap.size + 1, 0, none⟩ = some (.int .u64 b0) := BW1_1.cell 0 rfl
  have cW1_1_1 : W1.cell? ⟨w.heap.size + 1, 1, none⟩ = some (.int .u64 b1) := BW1_1.cell 1 rfl
  have fW1_1 := BW1_1.free
  have cW1_2_0 : W1.cell? ⟨w.heap.size + 1 + 1, 0, none⟩ = some (.int .u64 0) := BW1_2.cell 0 rfl
  have cW1_2_1 : W1.cell? ⟨w.heap.size + 1 + 1, 1, none⟩ = some (.int .u64 0) := BW1_2.cell 1 rfl
  have fW1_2 := BW1_2.free
  refine (HG.out _).mono ?_
  rintro e W2 ⟨rfl, hkW2⟩
  have kW2 := kW1.trans hkW2
  have BW2_0 := BW1_0.kept hkW2
  have BW2_1 := BW1_1.kept hkW2
  have BW2_2 := BW1_2.kept hkW2
  clear cW1_0_0 cW1_0_1 cW1_1_0 cW1_1_1 cW1_2_0 cW1_2_1 fW1_0 fW1_1 fW1_2 BW1_0 BW1_1 BW1_2 kW1 hkW2
  have cW2_0_0 : W2.cell? ⟨w.heap.size, 0, none⟩ = some (.int .u64 a0) := BW2_0.cell 0 rfl
  have cW2_0_1 : W2.cell? ⟨w.heap.size, 1, none⟩ = some (.int .u64 a1) := BW2_0.cell 1 rfl
  have fW2_0 := BW2_0.free
  have cW2_1_0 : W2.cell? ⟨w.heap.size + 1, 0, none⟩ = some (.int .u64 b0) := BW2_1.cell 0 rfl
  have cW2_1_1 : W2.cell? ⟨w.heap.size + 1, 1, none⟩ = some (.int .u64 b1) := BW2_1.cell 1 rfl
  have fW2_1 := BW2_1.free
  have cW2_2_0 : W2.cell? ⟨w.heap.size + 1 + 1, 0, none⟩ = some (.int .u64 0) := BW2_2.cell 0 rfl
  have cW2_2_1 : W2.cell? ⟨w.heap.size + 1 + 1, 1, none⟩ = some (.int .u64 0) := BW2_2.cell 1 rfl
  have fW2_2 := BW2_2.free
  go_wp2_with fail
  refine bodyPost_ret (v := .agg #[.int .u64 r0, .int .u64 r1]) (by simp [results, Try.results100, go_sem, *]) rfl ⟨rfl, ?_⟩
  repeat (first | exact kW2 | (refine Kept.setCell ?_ (kept_side (by first | assumption | omega)) _) | apply Kept.alloc | apply Kept.drew)

set_option maxRecDepth 100000 in
set_option maxHeartbeats 4000000 in
theorem f_Sub_n (f : Int) (h1b : (f == 1) = false) (h2b : (f == 2) = false) (a0 a1 b0 b1 : Int) : Pure Try.prog 100 #[.int .u8 f, .agg #[.int .u64 a0, .int .u64 a1], .agg #[.int .u64 b0, .int .u64 b1]] (.agg #[.int .u64 0, .int .u64 0]) := fun w => by

  have ne0_2 : w.heap.size ≠ w.heap.size + 1 + 1 := by omega
  have ne2_0 : w.heap.size + 1 + 1 ≠ w.heap.size := by omega
  go_enter Try.func100, Try.ntmps100
  go_wp2_with fail
  refine bodyPost_ret (v := .agg #[.int .u64 0, .int .u64 0]) (by simp [results, Try.results100, go_sem, *]) rfl ⟨rfl, ?_⟩
  repeat (first | exact Kept.refl _ | (refine Kept.setCell ?_ (kept_side (by first | assumption | omega)) _) | apply Kept.alloc | apply Kept.drew)

set_option maxRecDepth 100000 in
set_option maxHeartbeats 4000000 in
theorem f_Mul_s (a0 a1 b0 b1 r : Int) (hG : Pure Try.prog 28 #[.int .u64 a0, .int .u64 b0] (.int .u64 r)) : Pure Try.prog 102 #[.int .u8 1, .agg #[.int .u64 a0, .int .u64 a1], .agg #[.int .u64 b0, .int .u64 b1]] (.agg #[.int .u64 r, .int .u64 0]) := fun w => by
  have HG := Lib.hid hG
  clear hG
  have ne0_2 : w.heap.size ≠ w.heap.size + 1 + 1 := by omega
  have ne2_0 : w.heap.size + 1 + 1 ≠ w.heap.size := by omega
  go_enter Try.func102, Try.ntmps102
  go_wp2_with fail
  refine abs_calls (fun W => Kept w W ∧ Blk W (w.heap.size) 28 #[.int .u64 a0, .int .u64 a1] ∧ Blk W (w.heap.size + 1) 28 #[.int .u64 b0, .int .u64 b1] ∧ Blk W (w.heap.size + 1 + 1) 28 #[.int .u64 0, .int .u64 0]) ?_ ?_
  · refine ⟨?_, ?_, ?_, ?_⟩
    · repeat (first | exact Kept.refl _ | (refine Kept.setCell ?_ (kept_side (by first | assumption | omega)) _) | apply Kept.alloc | apply Kept.drew)
    · simp [Blk, *] <;> (intros; omega)
    · simp [Blk, *] <;> (intros; omega)
    · simp [Blk, *] <;> (intros; omega)
  rintro W1 ⟨kW1, BW1_0, BW1_1, BW1_2⟩
  have cW1_0_0 : W1.cell? ⟨w.heap.size, 0, none⟩ = some (.int .u64 a0) := BW1_0.cell 0 rfl
  have cW1_0_1 : W1.cell? ⟨w.heap.size, 1, none⟩ = some (.int .u64 a1) := BW1_0.cell 1 rfl
  have fW1_0 := BW1_0.free
  have cW1_1_0 : W1.cell? ⟨w.heap.size + 1, 0, none⟩ = some (.int .u64 b0) := BW1_1.cell 0 rfl
  have cW1_1_1 : W1.cell? ⟨w.heap.size + 1, 1, none⟩ = some (.int .u64 b1) := BW1_1.cell 1 rfl
  have fW1_1 := BW1_1.free
  have cW1_2_0 : W1.cell? ⟨w.heap.size + 1 + 1, 0, none⟩ = some (.int .u64 0) := BW1_2.cell 0 rfl
  have cW1_2_1 : W1.cell? ⟨w.heap.size + 1 + 1, 1, none⟩ = some (.int .u64 0) := BW1_2.cell 1 rfl
  have fW1_2 := BW1_2.free
  refine (HG.out _).mono ?_
  rintro e W2 ⟨rfl, hkW2⟩
  have kW2 := kW1.trans hkW2
  have BW2_0 := BW1_0.kept hkW2
  have BW2_1 := BW1_1.kept hkW2
  have BW2_2 := BW1_2.kept hkW2
  clear cW1_0_0 cW1_0_1 cW1_1_0 cW1_1_1 cW1_2_0 cW1_2_1 fW1_0 fW1_1 fW1_2 BW1_0 BW1_1 BW1_2 kW1 hkW2
  have cW2_0_0 : W2.cell? ⟨w.heap.size, 0, none⟩ = some (.int .u64 a0) := BW2_0.cell 0 rfl
  have cW2_0_1 : W2.cell? ⟨w.heap.size, 1, none⟩ = some (.int .u64 a1) := BW2_0.cell 1 rfl
  have fW2_0 := BW2_0.free
  have cW2_1_0 : W2.cell? ⟨w.heap.size + 1, 0, none⟩ = some (.int .u64 b0) := BW2_1.cell 0 rfl
  have cW2_1_1 : W2.cell? ⟨w.heap.size + 1, 1, none⟩ = some (.int .u64 b1) := BW2_1.cell 1 rfl
  have fW2_1 := BW2_1.free
  have cW2_2_0 : W2.cell? ⟨w.heap.size + 1 + 1, 0, none⟩ = some (.int .u64 0) := BW2_2.cell 0 rfl
  have cW2_2_1 : W2.cell? ⟨w.heap.size + 1 + 1, 1, none⟩ = some (.int .u64 0) := BW2_2.cell 1 rfl
  have fW2_2 := BW2_2.free
  go_wp2_with fail
  refine bodyPost_ret (v := .agg #[.int .u64 r, .int .u64 0]) (by simp [results, Try.results102, go_sem, *]) rfl ⟨rfl, ?_⟩
  repeat (first | exact kW2 | (refine Kept.setCell ?_ (kept_side (by first | assumption | omega)) _) | apply Kept.alloc | apply Kept.drew)

set_option maxRecDepth 100000 in
set_option maxHeartbeats 4000000 in
theorem f_Mul_l (a0 a1 b0 b1 r0 r1 : Int) (hG : Pure Try.prog 53 #[.agg #[.int .u64 a0, .int .u64 a1], .agg #[.int .u64 b0, .int .u64 b1]] (.agg #[.int .u64 r0, .int .u64 r1])) : Pure Try.prog 102 #[.int .u8 2, .agg #[.int .u64 a0, .int .u64 a1], .agg #[.int .u64 b0, .int .u64 b1]] (.agg #[.int .u64 r0, .int .u64 r1]) := fun w => by
  have HG := Lib.hid hG
  clear hG
  have ne0_2 : w.heap.size ≠ w.heap.size + 1 + 1 := by omega
  have ne2_0 : w.heap.size + 1 + 1 ≠ w.heap.size := by omega
  go_enter Try.func102, Try.ntmps102
  go_wp2_with fail
  refine abs_calls (fun W => Kept w W ∧ Blk W (w.heap.size) 28 #[.int .u64 a0, .int .u64 a1] ∧ Blk W (w.heap.size + 1) 28 #[.int .u64 b0, .int .u64 b1] ∧ Blk W (w.heap.size + 1 + 1) 28 #[.int .u64 0, .int .u64 0]) ?_ ?_
  · refine ⟨?_, ?_, ?_, ?_⟩
    · repeat (first | exact Kept.refl _ | (refine Kept.setCell ?_ (kept_side (by first | assumption | omega)) _) | apply Kept.alloc | apply Kept.drew)
    · simp [Blk, *] <;> (intros; omega)
    · simp [Blk, *] <;> (intros; omega)
    · simp [Blk, *] <;> (intros; omega)
  rintro W1 ⟨kW1, BW1_0, BW1_1, BW1_2⟩
  have cW1_0_0 : W1.cell? ⟨w.heap.size, 0, none⟩ = some (.int .u64 a0) := BW1_0.cell 0 rfl
  have cW1_0_1 : W1.cell? ⟨w.heap.size, 1, none⟩ = some (.int .u64 a1) := BW1_0.cell 1 rfl
  have fW1_0 := BW1_0.free
  have cW1_1_0 : W1.cell? ⟨w.heap.size + 1, 0, none⟩ = some (.int .u64 b0) := BW1_1.cell 0 rfl
  have cW1_1_1 : W1.cell? ⟨w.heap.size + 1, 1, none⟩ = some (.int .u64 b1) := BW1_1.cell 1 rfl
  have fW1_1 := BW1_1.free
  have cW1_2_0 : W1.cell? ⟨w.heap.size + 1 + 1, 0, none⟩ = some (.int .u64 0) := BW1_2.cell 0 rfl
  have cW1_2_1 : W1.cell? ⟨w.heap.size + 1 + 1, 1, none⟩ = some (.int .u64 0) := BW1_2.cell 1 rfl
  have fW1_2 := BW1_2.free
  refine (HG.out _).mono ?_
  rintro e W2 ⟨rfl, hkW2⟩
  have kW2 := kW1.trans hkW2
  have BW2_0 := BW1_0.kept hkW2
  have BW2_1 := BW1_1.kept hkW2
  have BW2_2 := BW1_2.kept hkW2
  clear cW1_0_0 cW1_0_1 cW1_1_0 cW1_1_1 cW1_2_0 cW1_2_1 fW1_0 fW1_1 fW1_2 BW1_0 BW1_1 BW1_2 kW1 hkW2
  have cW2_0_0 : W2.cell? ⟨w.heap.size, 0, none⟩ = some (.int .u64 a0) := BW2_0.cell 0 rfl
  have cW2_0_1 : W2.cell? ⟨w.heap.size, 1, none⟩ = some (.int .u64 a1) := BW2_0.cell 1 rfl
  have fW2_0 := BW2_0.free
  have cW2_1_0 : W2.cell? ⟨w.heap.size + 1, 0, none⟩ = some (.int .u64 b0) := BW2_1.cell 0 rfl
  have cW2_1_1 : W2.cell? ⟨w.heap.size + 1, 1, none⟩ = some (.int .u64 b1) := BW2_1.cell 1 rfl
  have fW2_1 := BW2_1.free
  have cW2_2_0 : W2.cell? ⟨w.heap.size + 1 + 1, 0, none⟩ = some (.int .u64 0) := BW2_2.cell 0 rfl
  have cW2_2_1 : W2.cell? ⟨w.heap.size + 1 + 1, 1, none⟩ = some (.int .u64 0) := BW2_2.cell 1 rfl
  have fW2_2 := BW2_2.free
  go_wp2_with fail
  refine bodyPost_ret (v := .agg #[.int .u64 r0, .int .u64 r1]) (by simp [results, Try.results102, go_sem, *]) rfl ⟨rfl, ?_⟩
  repeat (first | exact kW2 | (refine Kept.setCell ?_ (kept_side (by first | assumption | omega)) _) | apply Kept.alloc | apply Kept.drew)

set_option maxRecDepth 100000 in
set_option maxHeartbeats 4000000 in
theorem f_Mul_n (f : Int) (h1b : (f == 1) = false) (h2b : (f == 2) = false) (a0 a1 b0 b1 : Int) : Pure Try.prog 102 #[.int .u8 f, .agg #[.int .u64 a0, .int .u64 a1], .agg #[.int .u64 b0, .int .u64 b1]] (.agg #[.int .u64 0, .int .u64 0]) := fun w => by

  have ne0_2 : w.heap.size ≠ w.heap.size + 1 + 1 := by omega
  have ne2_0 : w.heap.size + 1 + 1 ≠ w.heap.size := by omega
  go_enter Try.func102, Try.ntmps102
  go_wp2_with fail
  refine bodyPost_ret (v := .agg #[.int .u64 0, .int .u64 0]) (by simp [results, Try.results102, go_sem, *]) rfl ⟨rfl, ?_⟩
  repeat (first | exact Kept.refl _ | (refine Kept.setCell ?_ (kept_side (by first | assumption | omega)) _) | apply Kept.alloc | apply Kept.drew)

set_option maxRecDepth 100000 in
set_option maxHeartbeats 4000000 in
theorem f_Neg_r (f a0 a1 r0 r1 : Int) (hG : Pure Try.prog 100 #[.int .u8 f, .agg #[.int .u64 0, .int .u64 0], .agg #[.int .u64 a0, .int .u64 a1]] (.agg #[.int .u64 r0, .int .u64 r1])) : Pure Try.prog 101 #[.int .u8 f, .agg #[.int .u64 a0, .int .u64 a1]] (.agg #[.int .u64 r0, .int .u64 r1]) := fun w => by
  have HG := Lib.hid hG
  clear hG
  go_enter Try.func101, Try.ntmps101
  go_wp2_with fail
  refine abs_calls (fun W => Kept w W ∧ Blk W (w.heap.size) 28 #[.int .u64 a0, .int .u64 a1] ∧ Blk W (w.heap.size + 1) 28 #[.int .u64 0, .int .u64 0]) ?_ ?_
  · refine ⟨?_, ?_, ?_⟩
    · repeat (first | exact Kept.refl _ | (refine Kept.setCell ?_ (kept_side (by first | assumption | omega)) _) | apply Kept.alloc | apply Kept.drew)
    · simp [Blk, *] <;> (intros; omega)
    · simp [Blk, *] <;> (intros; omega)
  rintro W1 ⟨kW1, BW1_0, BW1_1⟩
  have cW1_0_0 : W1.cell? ⟨w.heap.size, 0, none⟩ = some (.int .u64 a0) := BW1_0.cell 0 rfl
  have cW1_0_1 : W1.cell? ⟨w.heap.size, 1, none⟩ = some (.int .u64 a1) := BW1_0.cell 1 rfl
  have fW1_0 := BW1_0.free
  have cW1_1_0 : W1.cell? ⟨w.heap.size + 1, 0, none⟩ = some (.int .u64 0) := BW1_1.cell 0 rfl
  have cW1_1_1 : W1.cell? ⟨w.heap.size + 1, 1, none⟩ = some (.int .u64 0) := BW1_1.cell 1 rfl
  have fW1_1 := BW1_1.free
  refine (HG.out _).mono ?_
  rintro e W2 ⟨rfl, hkW2⟩
  have kW2 := kW1.trans hkW2
  have BW2_0 := BW1_0.kept hkW2
  have BW2_1 := BW1_1.kept hkW2
  clear cW1_0_0 cW1_0_1 cW1_1_0 cW1_1_1 fW1_0 fW1_1 BW1_0 BW1_1 kW1 hkW2
  have cW2_0_0 : W2.cell? ⟨w.heap.size, 0, none⟩ = some (.int .u64 a0) := BW2_0.cell 0 rfl
  have cW2_0_1 : W2.cell? ⟨w.heap.size, 1, none⟩ = some (.int .u64 a1) := BW2_0.cell 1 rfl
  have fW2_0 := BW2_0.free
  have cW2_1_0 : W2.cell? ⟨w.heap.size + 1, 0, none⟩ = some (.int .u64 0) := BW2_1.cell 0 rfl
  have cW2_1_1 : W2.cell? ⟨w.heap.size + 1, 1, none⟩ = some (.int .u64 0) := BW2_1.cell 1 rfl
  have fW2_1 := BW2_1.free
  go_wp2_with fail
  refine bodyPost_ret (v := .agg #[.int .u64 r0, .int .u64 r1]) (by simp [results, Try.results101, go_sem, *]) rfl ⟨rfl, ?_⟩
  repeat (first | exact kW2 | (refine Kept.setCell ?_ (kept_side (by first | assumption | omega)) _) | apply Kept.alloc | apply Kept.drew)

set_option maxRecDepth 100000 in
set_option maxHeartbeats 4000000 in
theorem f_Pow_s (a0 a1 n r : Int) (hG : Pure Try.prog 39 #[.int .u64 a0, .int .u64 n] (.int .u64 r)) : Pure Try.prog 103 #[.int .u8 1, .agg #[.int .u64 a0, .int .u64 a1], .int .u64 n] (.agg #[.int .u64 r, .int .u64 0]) := fun w => by
  have HG := Lib.hid hG
  clear hG
  go_enter Try.func103, Try.ntmps103
  go_wp2_with fail
  refine abs_calls (fun W => Kept w W ∧ Blk W (w.heap.size) 28 #[.int .u64 a0, .int .u64 a1] ∧ Blk W (w.heap.size + 1) 28 #[.int .u64 0, .int .u64 0]) ?_ ?_
  · refine ⟨?_, ?_, ?_⟩
    · repeat (first | exact Kept.refl _ | (refine Kept.setCell ?_ (kept_side (by first | assumption | omega)) _) | apply Kept.alloc | apply Kept.drew)
    · simp [Blk, *] <;> (intros; omega)
    · simp [Blk, *] <;> (intros; omega)
  rintro W1 ⟨kW1, BW1_0, BW1_1⟩
  have cW1_0_0 : W1.cell? ⟨w.heap.size, 0, none⟩ = some (.int .u64 a0) := BW1_0.cell 0 rfl
  have cW1_0_1 : W1.cell? ⟨w.heap.size, 1, none⟩ = some (.int .u64 a1) := BW1_0.cell 1 rfl
  have fW1_0 := BW1_0.free
  have cW1_1_0 : W1.cell? ⟨w.heap.size + 1, 0, none⟩ = some (.int .u64 0) := BW1_1.cell 0 rfl
  have cW1_1_1 : W1.cell? ⟨w.heap.size + 1, 1, none⟩ = some (.int .u64 0) := BW1_1.cell 1 rfl
  have fW1_1 := BW1_1.free
  refine (HG.out _).mono ?_
  rintro e W2 ⟨rfl, hkW2⟩
  have kW2 := kW1.trans hkW2
  have BW2_0 := BW1_0.kept hkW2
  have BW2_1 := BW1_1.kept hkW2
  clear cW1_0_0 cW1_0_1 cW1_1_0 cW1_1_1 fW1_0 fW1_1 BW1_0 BW1_1 kW1 hkW2
  have cW2_0_0 : W2.cell? ⟨w.heap.size, 0, none⟩ = some (.int .u64 a0) := BW2_0.cell 0 rfl
  have cW2_0_1 : W2.cell? ⟨w.heap.size, 1, none⟩ = some (.int .u64 a1) := BW2_0.cell 1 rfl
  have fW2_0 := BW2_0.free
  have cW2_1_0 : W2.cell? ⟨w.heap.size + 1, 0, none⟩ = some (.int .u64 0) := BW2_1.cell 0 rfl
  have cW2_1_1 : W2.cell? ⟨w.heap.size + 1, 1, none⟩ = some (.int .u64 0) := BW2_1.cell 1 rfl
  have fW2_1 := BW2_1.free
  go_wp2_with fail
  refine bodyPost_ret (v := .agg #[.int .u64 r, .int .u64 0]) (by simp [results, Try.results103, go_sem, *]) rfl ⟨rfl, ?_⟩
  repeat (first | exact kW2 | (refine Kept.setCell ?_ (kept_side (by first | assumption | omega)) _) | apply Kept.alloc | apply Kept.drew)

set_option maxRecDepth 100000 in
set_option maxHeartbeats 4000000 in
theorem f_Pow_l (a0 a1 n r0 r1 : Int) (hG : Pure Try.prog 54 #[.agg #[.int .u64 a0, .int .u64 a1], .agg #[.int .u64 n, .int .u64 0]] (.agg #[.int .u64 r0, .int .u64 r1])) : Pure Try.prog 103 #[.int .u8 2, .agg #[.int .u64 a0, .int .u64 a1], .int .u64 n] (.agg #[.int .u64 r0, .int .u64 r1]) := fun w => by
  have HG := Lib.hid hG
  clear hG
  go_enter Try.func103, Try.ntmps103
  go_wp2_with fail
  refine abs_calls (fun W => Kept w W ∧ Blk W (w.heap.size) 28 #[.int .u64 a0, .int .u64 a1] ∧ Blk W (w.heap.size + 1) 28 #[.int .u64 0, .int .u64 0]) ?_ ?_
  · refine ⟨?_, ?_, ?_⟩
    · repeat (first | exact Kept.refl _ | (refine Kept.setCell ?_ (kept_side (by first | assumption | omega)) _) | apply Kept.alloc | apply Kept.drew)
    · simp [Blk, *] <;> (intros; omega)
    · simp [Blk, *] <;> (intros; omega)
  rintro W1 ⟨kW1, BW1_0, BW1_1⟩
  have cW1_0_0 : W1.cell? ⟨w.heap.size, 0, none⟩ = some (.int .u64 a0) := BW1_0.cell 0 rfl
  have cW1_0_1 : W1.cell? ⟨w.heap.size, 1, none⟩ = some (.int .u64 a1) := BW1_0.cell 1 rfl
  have fW1_0 := BW1_0.free
  have cW1_1_0 : W1.cell? ⟨w.heap.size + 1, 0, none⟩ = some (.int .u64 0) := BW1_1.cell 0 rfl
  have cW1_1_1 : W1.cell? ⟨w.heap.size + 1, 1, none⟩ = some (.int .u64 0) := BW1_1.cell 1 rfl
  have fW1_1 := BW1_1.free
  refine (HG.out _).mono ?_
  rintro e W2 ⟨rfl, hkW2⟩
  have kW2 := kW1.trans hkW2
  have BW2_0 := BW1_0.kept hkW2
  have BW2_1 := BW1_1.kept hkW2
  clear cW1_0_0 cW1_0_1 cW1_1_0 cW1_1_1 fW1_0 fW1_1 BW1_0 BW1_1 kW1 hkW2
  have cW2_0_0 : W2.cell? ⟨w.heap.size, 0, none⟩ = some (.int .u64 a0) := BW2_0.cell 0 rfl
  have cW2_0_1 : W2.cell? ⟨w.heap.size, 1, none⟩ = some (.int .u64 a1) := BW2_0.cell 1 rfl
  have fW2_0 := BW2_0.free
  have cW2_1_0 : W2.cell? ⟨w.heap.size + 1, 0, none⟩ = some (.int .u64 0) := BW2_1.cell 0 rfl
  have cW2_1_1 : W2.cell? ⟨w.heap.size + 1, 1, none⟩ = some (.int .u64 0) := BW2_1.cell 1 rfl
  have fW2_1 := BW2_1.free
  go_wp2_with fail
  refine bodyPost_ret (v := .agg #[.int .u64 r0, .int .u64 r1]) (by simp [results, Try.results103, go_sem, *]) rfl ⟨rfl, ?_⟩
  repeat (first | exact kW2 | (refine Kept.setCell ?_ (kept_side (by first | assumption | omega)) _) | apply Kept.alloc | apply Kept.drew)

set_option maxRecDepth 100000 in
set_option maxHeartbeats 4000000 in
theorem f_Pow_n (f : Int) (h1b : (f == 1) = false) (h2b : (f == 2) = false) (a0 a1 n : Int) : Pure Try.prog 103 #[.int .u8 f, .agg #[.int .u64 a0, .int .u64 a1], .int .u64 n] (.agg #[.int .u64 0, .int .u64 0]) := fun w => by

  go_enter Try.func103, Try.ntmps103
  go_wp2_with fail
  refine bodyPost_ret (v := .agg #[.int .u64 0, .int .u64 0]) (by simp [results, Try.results103, go_sem, *]) rfl ⟨rfl, ?_⟩
  repeat (first | exact Kept.refl _ | (refine Kept.setCell ?_ (kept_side (by first | assumption | omega)) _) | apply Kept.alloc | apply Kept.drew)

set_option maxRecDepth 100000 in
set_option maxHeartbeats 4000000 in
theorem f_Of_s (n r : Int) (hG : Pure Try.prog 31 #[.int .u64 n] (.int .u64 r)) : Pure Try.prog 104 #[.int .u8 1, .int .u64 n] (.agg #[.int .u64 r, .int .u64 0]) := fun w => by
  have HG := Lib.hid hG
  clear hG
  go_enter Try.func104, Try.ntmps104
  go_wp2_with fail
  refine abs_calls (fun W => Kept w W ∧ Blk W (w.heap.size) 28 #[.int .u64 0, .int .u64 0]) ?_ ?_
  · refine ⟨?_, ?_⟩
    · repeat (first | exact Kept.refl _ | (refine Kept.setCell ?_ (kept_side (by first | assumption | omega)) _) | apply Kept.alloc | apply Kept.drew)
    · simp [Blk, *] <;> (intros; omega)
  rintro W1 ⟨kW1, BW1_0⟩
  have cW1_0_0 : W1.cell? ⟨w.heap.size, 0, none⟩ = some (.int .u64 0) := BW1_0.cell 0 rfl
  have cW1_0_1 : W1.cell? ⟨w.heap.size, 1, none⟩ = some (.int .u64 0) := BW1_0.cell 1 rfl
  have fW1_0 := BW1_0.free
  refine (HG.out _).mono ?_
  rintro e W2 ⟨rfl, hkW2⟩
  have kW2 := kW1.trans hkW2
  have BW2_0 := BW1_0.kept hkW2
  clear cW1_0_0 cW1_0_1 fW1_0 BW1_0 kW1 hkW2
  have cW2_0_0 : W2.cell? ⟨w.heap.size, 0, none⟩ = some (.int .u64 0) := BW2_0.cell 0 rfl
  have cW2_0_1 : W2.cell? ⟨w.heap.size, 1, none⟩ = some (.int .u64 0) := BW2_0.cell 1 rfl
  have fW2_0 := BW2_0.free
  go_wp2_with fail
  refine bodyPost_ret (v := .agg #[.int .u64 r, .int .u64 0]) (by simp [results, Try.results104, go_sem, *]) rfl ⟨rfl, ?_⟩
  repeat (first | exact kW2 | (refine Kept.setCell ?_ (kept_side (by first | assumption | omega)) _) | apply Kept.alloc | apply Kept.drew)

set_option maxRecDepth 100000 in
set_option maxHeartbeats 4000000 in
theorem f_Of_l (n : Int) : Pure Try.prog 104 #[.int .u8 2, .int .u64 n] (.agg #[.int .u64 n, .int .u64 0]) := fun w => by

  go_enter Try.func104, Try.ntmps104
  go_wp2_with fail
  refine bodyPost_ret (v := .agg #[.int .u64 n, .int .u64 0]) (by simp [results, Try.results104, go_sem, *]) rfl ⟨rfl, ?_⟩
  repeat (first | exact Kept.refl _ | (refine Kept.setCell ?_ (kept_side (by first | assumption | omega)) _) | apply Kept.alloc | apply Kept.drew)

set_option maxRecDepth 100000 in
set_option maxHeartbeats 4000000 in
theorem f_Of_n (f : Int) (h1b : (f == 1) = false) (h2b : (f == 2) = false) (n : Int) : Pure Try.prog 104 #[.int .u8 f, .int .u64 n] (.agg #[.int .u64 0, .int .u64 0]) := fun w => by

  go_enter Try.func104, Try.ntmps104
  go_wp2_with fail
  refine bodyPost_ret (v := .agg #[.int .u64 0, .int .u64 0]) (by simp [results, Try.results104, go_sem, *]) rfl ⟨rfl, ?_⟩
  repeat (first | exact Kept.refl _ | (refine Kept.setCell ?_ (kept_side (by first | assumption | omega)) _) | apply Kept.alloc | apply Kept.drew)

set_option maxRecDepth 100000 in
set_option maxHeartbeats 4000000 in
theorem f_One_r (f r0 r1 : Int) (hG : Pure Try.prog 104 #[.int .u8 f, .int .u64 1] (.agg #[.int .u64 r0, .int .u64 r1])) : Pure Try.prog 105 #[.int .u8 f] (.agg #[.int .u64 r0, .int .u64 r1]) := fun w => by
  have HG := Lib.hid hG
  clear hG
  go_enter Try.func105, Try.ntmps105
  go_wp2_with fail
  refine abs_calls (fun W => Kept w W ∧ Blk W (w.heap.size) 28 #[.int .u64 0, .int .u64 0]) ?_ ?_
  · refine ⟨?_, ?_⟩
    · repeat (first | exact Kept.refl _ | (refine Kept.setCell ?_ (kept_side (by first | assumption | omega)) _) | apply Kept.alloc | apply Kept.drew)
    · simp [Blk, *] <;> (intros; omega)
  rintro W1 ⟨kW1, BW1_0⟩
  have cW1_0_0 : W1.cell? ⟨w.heap.size, 0, none⟩ = some (.int .u64 0) := BW1_0.cell 0 rfl
  have cW1_0_1 : W1.cell? ⟨w.heap.size, 1, none⟩ = some (.int .u64 0) := BW1_0.cell 1 rfl
  have fW1_0 := BW1_0.free
  refine (HG.out _).mono ?_
  rintro e W2 ⟨rfl, hkW2⟩
  have kW2 := kW1.trans hkW2
  have BW2_0 := BW1_0.kept hkW2
  clear cW1_0_0 cW1_0_1 fW1_0 BW1_0 kW1 hkW2
  have cW2_0_0 : W2.cell? ⟨w.heap.size, 0, none⟩ = some (.int .u64 0) := BW2_0.cell 0 rfl
  have cW2_0_1 : W2.cell? ⟨w.heap.size, 1, none⟩ = some (.int .u64 0) := BW2_0.cell 1 rfl
  have fW2_0 := BW2_0.free
  go_wp2_with fail
  refine bodyPost_ret (v := .agg #[.int .u64 r0, .int .u64 r1]) (by simp [results, Try.results105, go_sem, *]) rfl ⟨rfl, ?_⟩
  repeat (first | exact kW2 | (refine Kept.setCell ?_ (kept_side (by first | assumption | omega)) _) | apply Kept.alloc | apply Kept.drew)

set_option maxRecDepth 100000 in
set_option maxHeartbeats 4000000 in
theorem f_In_s (a0 : Int) (b : Bool) (hG : Pure Try.prog 34 #[.int .u64 a0] (.bool b)) : Pure Try.prog 106 #[.int .u8 1, .agg #[.int .u64 a0, .int .u64 0]] (.bool b) := fun w => by
  have HG := Lib.hid hG
  clear hG
  go_enter Try.func106, Try.ntmps106
  go_wp2_with fail
  refine abs_calls (fun W => Kept w W ∧ Blk W (w.heap.size) 28 #[.int .u64 a0, .int .u64 0]) ?_ ?_
  · refine ⟨?_, ?_⟩
    · repeat (first | exact Kept.refl _ | (refine Kept.setCell ?_ (kept_side (by first | assumption | omega)) _) | apply Kept.alloc | apply Kept.drew)
    · simp [Blk, *] <;> (intros; omega)
  rintro W1 ⟨kW1, BW1_0⟩
  have cW1_0_0 : W1.cell? ⟨w.heap.size, 0, none⟩ = some (.int .u64 a0) := BW1_0.cell 0 rfl
  have cW1_0_1 : W1.cell? ⟨w.heap.size, 1, none⟩ = some (.int .u64 0) := BW1_0.cell 1 rfl
  have fW1_0 := BW1_0.free
  refine (HG.out _).mono ?_
  rintro e W2 ⟨rfl, hkW2⟩
  have kW2 := kW1.trans hkW2
  have BW2_0 := BW1_0.kept hkW2
  clear cW1_0_0 cW1_0_1 fW1_0 BW1_0 kW1 hkW2
  have cW2_0_0 : W2.cell? ⟨w.heap.size, 0, none⟩ = some (.int .u64 a0) := BW2_0.cell 0 rfl
  have cW2_0_1 : W2.cell? ⟨w.heap.size, 1, none⟩ = some (.int .u64 0) := BW2_0.cell 1 rfl
  have fW2_0 := BW2_0.free
  go_wp2_with fail
  refine bodyPost_ret (v := .bool b) (by simp [results, Try.results106, go_sem, *]) rfl ⟨rfl, ?_⟩
  repeat (first | exact kW2 | (refine Kept.setCell ?_ (kept_side (by first | assumption | omega)) _) | apply Kept.alloc | apply Kept.drew)

set_option maxRecDepth 100000 in
set_option maxHeartbeats 4000000 in
theorem f_In_s0 (a0 a1 : Int) (h0 : (a1 == 0) = false) : Pure Try.prog 106 #[.int .u8 1, .agg #[.int .u64 a0, .int .u64 a1]] (.bool false) := fun w => by

  go_enter Try.func106, Try.ntmps106
  go_wp2_with fail
  refine bodyPost_ret (v := .bool false) (by simp [results, Try.results106, go_sem, *]) rfl ⟨rfl, ?_⟩
  repeat (first | exact Kept.refl _ | (refine Kept.setCell ?_ (kept_side (by first | assumption | omega)) _) | apply Kept.alloc | apply Kept.drew)

set_option maxRecDepth 100000 in
set_option maxHeartbeats 4000000 in
theorem f_In_l (a0 a1 : Int) (b : Bool) (hG : Pure Try.prog 49 #[.agg #[.int .u64 a0, .int .u64 a1]] (.bool b)) : Pure Try.prog 106 #[.int .u8 2, .agg #[.int .u64 a0, .int .u64 a1]] (.bool b) := fun w => by
  have HG := Lib.hid hG
  clear hG
  go_enter Try.func106, Try.ntmps106
  go_wp2_with fail
  refine abs_calls (fun W => Kept w W ∧ Blk W (w.heap.size) 28 #[.int .u64 a0, .int .u64 a1]) ?_ ?_
  · refine ⟨?_, ?_⟩
    · repeat (first | exact Kept.refl _ | (refine Kept.setCell ?_ (kept_side (by first | assumption | omega)) _) | apply Kept.alloc | apply Kept.drew)
    · simp [Blk, *] <;> (intros; omega)
  rintro W1 ⟨kW1, BW1_0⟩
  have cW1_0_0 : W1.cell? ⟨w.heap.size, 0, none⟩ = some (.int .u64 a0) := BW1_0.cell 0 rfl
  have cW1_0_1 : W1.cell? ⟨w.heap.size, 1, none⟩ = some (.int .u64 a1) := BW1_0.cell 1 rfl
  have fW1_0 := BW1_0.free
  refine (HG.out _).mono ?_
  rintro e W2 ⟨rfl, hkW2⟩
  have kW2 := kW1.trans hkW2
  have BW2_0 := BW1_0.kept hkW2
  clear cW1_0_0 cW1_0_1 fW1_0 BW1_0 kW1 hkW2
  have cW2_0_0 : W2.cell? ⟨w.heap.size, 0, none⟩ = some (.int .u64 a0) := BW2_0.cell 0 rfl
  have cW2_0_1 : W2.cell? ⟨w.heap.size, 1, none⟩ = some (.int .u64 a1) := BW2_0.cell 1 rfl
  have fW2_0 := BW2_0.free
  go_wp2_with fail
  refine bodyPost_ret (v := .bool b) (by simp [results, Try.results106, go_sem, *]) rfl ⟨rfl, ?_⟩
  repeat (first | exact kW2 | (refine Kept.setCell ?_ (kept_side (by first | assumption | omega)) _) | apply Kept.alloc | apply Kept.drew)

set_option maxRecDepth 100000 in
set_option maxHeartbeats 4000000 in
theorem f_In_n (f : Int) (h1b : (f == 1) = false) (h2b : (f == 2) = false) (a0 a1 : Int) : Pure Try.prog 106 #[.int .u8 f, .agg #[.int .u64 a0, .int .u64 a1]] (.bool false) := fun w => by

  go_enter Try.func106, Try.ntmps106
  go_wp2_with fail
  refine bodyPost_ret (v := .bool false) (by simp [results, Try.results106, go_sem, *]) rfl ⟨rfl, ?_⟩
  repeat (first | exact Kept.refl _ | (refine Kept.setCell ?_ (kept_side (by first | assumption | omega)) _) | apply Kept.alloc | apply Kept.drew)

set_option maxRecDepth 100000 in
set_option maxHeartbeats 4000000 in
theorem f_Size_s  : Pure Try.prog 89 #[.int .u8 1] (.int .i64 8) := fun w => by

  go_enter Try.func89, Try.ntmps89
  go_wp2_with fail
  refine bodyPost_ret (v := .int .i64 8) (by simp [results, Try.results89, go_sem, *]) rfl ⟨rfl, ?_⟩
  repeat (first | exact Kept.refl _ | (refine Kept.setCell ?_ (kept_side (by first | assumption | omega)) _) | apply Kept.alloc | apply Kept.drew)

set_option maxRecDepth 100000 in
set_option maxHeartbeats 4000000 in
theorem f_Size_l  : Pure Try.prog 89 #[.int .u8 2] (.int .i64 16) := fun w => by

  go_enter Try.func89, Try.ntmps89
  go_wp2_with fail
  refine bodyPost_ret (v := .int .i64 16) (by simp [results, Try.results89, go_sem, *]) rfl ⟨rfl, ?_⟩
  repeat (first | exact Kept.refl _ | (refine Kept.setCell ?_ (kept_side (by first | assumption | omega)) _) | apply Kept.alloc | apply Kept.drew)

set_option maxRecDepth 100000 in
set_option maxHeartbeats 4000000 in
theorem f_Size_n (f : Int) (h1b : (f == 1) = false) (h2b : (f == 2) = false) : Pure Try.prog 89 #[.int .u8 f] (.int .i64 0) := fun w => by

  go_enter Try.func89, Try.ntmps89
  go_wp2_with fail
  refine bodyPost_ret (v := .int .i64 0) (by simp [results, Try.results89, go_sem, *]) rfl ⟨rfl, ?_⟩
  repeat (first | exact Kept.refl _ | (refine Kept.setCell ?_ (kept_side (by first | assumption | omega)) _) | apply Kept.alloc | apply Kept.drew)

set_option maxRecDepth 100000 in
set_option maxHeartbeats 4000000 in
theorem f_Valid_s  : Pure Try.prog 108 #[.int .u8 1] (.bool true) := fun w => by

  go_enter Try.func108, Try.ntmps108
  go_wp2_with fail
  refine bodyPost_ret (v := .bool true) (by simp [results, Try.results108, go_sem, *]) rfl ⟨rfl, ?_⟩
  repeat (first | exact Kept.refl _ | (refine Kept.setCell ?_ (kept_side (by first | assumption | omega)) _) | apply Kept.alloc | apply Kept.drew)

set_option maxRecDepth 100000 in
set_option maxHeartbeats 4000000 in
theorem f_Valid_l  : Pure Try.prog 108 #[.int .u8 2] (.bool true) := fun w => by

  go_enter Try.func108, Try.ntmps108
  go_wp2_with fail
  refine bodyPost_ret (v := .bool true) (by simp [results, Try.results108, go_sem, *]) rfl ⟨rfl, ?_⟩
  repeat (first | exact Kept.refl _ | (refine Kept.setCell ?_ (kept_side (by first | assumption | omega)) _) | apply Kept.alloc | apply Kept.drew)

set_option maxRecDepth 100000 in
set_option maxHeartbeats 4000000 in
theorem f_Valid_n (f : Int) (h1b : (f == 1) = false) (h2b : (f == 2) = false) : Pure Try.prog 108 #[.int .u8 f] (.bool false) := fun w => by

  go_enter Try.func108, Try.ntmps108
  go_wp2_with fail
  refine bodyPost_ret (v := .bool false) (by simp [results, Try.results108, go_sem, *]) rfl ⟨rfl, ?_⟩
  repeat (first | exact Kept.refl _ | (refine Kept.setCell ?_ (kept_side (by first | assumption | omega)) _) | apply Kept.alloc | apply Kept.drew)

set_option maxRecDepth 100000 in
set_option maxHeartbeats 4000000 in
theorem f_Roots_s  : Pure Try.prog 84 #[.int .u8 1] (.int .i64 32) := fun w => by

  go_enter Try.func84, Try.ntmps84
  go_wp2_with fail
  refine bodyPost_ret (v := .int .i64 32) (by simp [results, Try.results84, go_sem, *]) rfl ⟨rfl, ?_⟩
  repeat (first | exact Kept.refl _ | (refine Kept.setCell ?_ (kept_side (by first | assumption | omega)) _) | apply Kept.alloc | apply Kept.drew)

set_option maxRecDepth 100000 in
set_option maxHeartbeats 4000000 in
theorem f_Roots_l  : Pure Try.prog 84 #[.int .u8 2] (.int .i64 66) := fun w => by

  go_enter Try.func84, Try.ntmps84
  go_wp2_with fail
  refine bodyPost_ret (v := .int .i64 66) (by simp [results, Try.results84, go_sem, *]) rfl ⟨rfl, ?_⟩
  repeat (first | exact Kept.refl _ | (refine Kept.setCell ?_ (kept_side (by first | assumption | omega)) _) | apply Kept.alloc | apply Kept.drew)

set_option maxRecDepth 100000 in
set_option maxHeartbeats 4000000 in
theorem f_Roots_n (f : Int) (h1b : (f == 1) = false) (h2b : (f == 2) = false) : Pure Try.prog 84 #[.int .u8 f] (.int .i64 0) := fun w => by

  go_enter Try.func84, Try.ntmps84
  go_wp2_with fail
  refine bodyPost_ret (v := .int .i64 0) (by simp [results, Try.results84, go_sem, *]) rfl ⟨rfl, ?_⟩
  repeat (first | exact Kept.refl _ | (refine Kept.setCell ?_ (kept_side (by first | assumption | omega)) _) | apply Kept.alloc | apply Kept.drew)

set_option maxRecDepth 100000 in
set_option maxHeartbeats 4000000 in
theorem f_Inv_s (a0 a1 n e : Int) (hG : Pure Try.prog 41 #[.int .u64 a0] (.tuple #[.int .u64 n, .int .i64 e])) : Pure Try.prog 98 #[.int .u8 1, .agg #[.int .u64 a0, .int .u64 a1]] (.tuple #[.agg #[.int .u64 n, .int .u64 0], .int .i64 e]) := fun w => by
  have HG := Lib.hid hG
  clear hG
  go_enter Try.func98, Try.ntmps98
  go_wp2_with fail
  refine abs_calls (fun W => Kept w W ∧ Blk W (w.heap.size) 28 #[.int .u64 a0, .int .u64 a1] ∧ Blk W (w.heap.size + 1) 28 #[.int .u64 0, .int .u64 0]) ?_ ?_
  · refine ⟨?_, ?_, ?_⟩
    · repeat (first | exact Kept.refl _ | (refine Kept.setCell ?_ (kept_side (by first | assumption | omega)) _) | apply Kept.alloc | apply Kept.drew)
    · simp [Blk, *] <;> (intros; omega)
    · simp [Blk, *] <;> (intros; omega)
  rintro W1 ⟨kW1, BW1_0, BW1_1⟩
  have cW1_0_0 : W1.cell? ⟨w.heap.size, 0, none⟩ = some (.int .u64 a0) := BW1_0.cell 0 rfl
  have cW1_0_1 : W1.cell? ⟨w.heap.size, 1, none⟩ = some (.int .u64 a1) := BW1_0.cell 1 rfl
  have fW1_0 := BW1_0.free
  have cW1_1_0 : W1.cell? ⟨w.heap.size + 1, 0, none⟩ = some (.int .u64 0) := BW1_1.cell 0 rfl
  have cW1_1_1 : W1.cell? ⟨w.heap.size + 1, 1, none⟩ = some (.int .u64 0) := BW1_1.cell 1 rfl
  have fW1_1 := BW1_1.free
  refine (HG.out _).mono ?_
  rintro e W2 ⟨rfl, hkW2⟩
  have kW2 := kW1.trans hkW2
  have BW2_0 := BW1_0.kept hkW2
  have BW2_1 := BW1_1.kept hkW2
  clear cW1_0_0 cW1_0_1 cW1_1_0 cW1_1_1 fW1_0 fW1_1 BW1_0 BW1_1 kW1 hkW2
  have cW2_0_0 : W2.cell? ⟨w.heap.size, 0, none⟩ = some (.int .u64 a0) := BW2_0.cell 0 rfl
  have cW2_0_1 : W2.cell? ⟨w.heap.size, 1, none⟩ = some (.int .u64 a1) := BW2_0.cell 1 rfl
  have fW2_0 := BW2_0.free
  have cW2_1_0 : W2.cell? ⟨w.heap.size + 1, 0, none⟩ = some (.int .u64 0) := BW2_1.cell 0 rfl
  have cW2_1_1 : W2.cell? ⟨w.heap.size + 1, 1, none⟩ = some (.int .u64 0) := BW2_1.cell 1 rfl
  have fW2_1 := BW2_1.free
  go_wp2_with fail
  refine bodyPost_ret (v := .tuple #[.agg #[.int .u64 n, .int .u64 0], .int .i64 e]) (by simp [results, Try.results98, go_sem, *]) rfl ⟨rfl, ?_⟩
  repeat (first | exact kW2 | (refine Kept.setCell ?_ (kept_side (by first | assumption | omega)) _) | apply Kept.alloc | apply Kept.drew)

set_option maxRecDepth 100000 in
set_option maxHeartbeats 4000000 in
theorem f_Inv_l (a0 a1 r0 r1 e : Int) (hG : Pure Try.prog 55 #[.agg #[.int .u64 a0, .int .u64 a1]] (.tuple #[.agg #[.int .u64 r0, .int .u64 r1], .int .i64 e])) : Pure Try.prog 98 #[.int .u8 2, .agg #[.int .u64 a0, .int .u64 a1]] (.tuple #[.agg #[.int .u64 r0, .int .u64 r1], .int .i64 e]) := fun w => by
  have HG := Lib.hid hG
  clear hG
  go_enter Try.func98, Try.ntmps98
  go_wp2_with fail
  refine abs_calls (fun W => Kept w W ∧ Blk W (w.heap.size) 28 #[.int .u64 a0, .int .u64 a1] ∧ Blk W (w.heap.size + 1) 28 #[.int .u64 0, .int .u64 0]) ?_ ?_
  · refine ⟨?_, ?_, ?_⟩
    · repeat (first | exact Kept.refl _ | (refine Kept.setCell ?_ (kept_side (by first | assumption | omega)) _) | apply Kept.alloc | apply Kept.drew)
    · simp [Blk, *] <;> (intros; omega)
    · simp [Blk, *] <;> (intros; omega)
  rintro W1 ⟨kW1, BW1_0, BW1_1⟩
  have cW1_0_0 : W1.cell? ⟨w.heap.size, 0, none⟩ = some (.int .u64 a0) := BW1_0.cell 0 rfl
  have cW1_0_1 : W1.cell? ⟨w.heap.size, 1, none⟩ = some (.int .u64 a1) := BW1_0.cell 1 rfl
  have fW1_0 := BW1_0.free
  have cW1_1_0 : W1.cell? ⟨w.heap.size + 1, 0, none⟩ = some (.int .u64 0) := BW1_1.cell 0 rfl
  have cW1_1_1 : W1.cell? ⟨w.heap.size + 1, 1, none⟩ = some (.int .u64 0) := BW1_1.cell 1 rfl
  have fW1_1 := BW1_1.free
  refine (HG.out _).mono ?_
  rintro e W2 ⟨rfl, hkW2⟩
  have kW2 := kW1.trans hkW2
  have BW2_0 := BW1_0.kept hkW2
  have BW2_1 := BW1_1.kept hkW2
  clear cW1_0_0 cW1_0_1 cW1_1_0 cW1_1_1 fW1_0 fW1_1 BW1_0 BW1_1 kW1 hkW2
  have cW2_0_0 : W2.cell? ⟨w.heap.size, 0, none⟩ = some (.int .u64 a0) := BW2_0.cell 0 rfl
  have cW2_0_1 : W2.cell? ⟨w.heap.size, 1, none⟩ = some (.int .u64 a1) := BW2_0.cell 1 rfl
  have fW2_0 := BW2_0.free
  have cW2_1_0 : W2.cell? ⟨w.heap.size + 1, 0, none⟩ = some (.int .u64 0) := BW2_1.cell 0 rfl
  have cW2_1_1 : W2.cell? ⟨w.heap.size + 1, 1, none⟩ = some (.int .u64 0) := BW2_1.cell 1 rfl
  have fW2_1 := BW2_1.free
  go_wp2_with fail
  refine bodyPost_ret (v := .tuple #[.agg #[.int .u64 r0, .int .u64 r1], .int .i64 e]) (by simp [results, Try.results98, go_sem, *]) rfl ⟨rfl, ?_⟩
  repeat (first | exact kW2 | (refine Kept.setCell ?_ (kept_side (by first | assumption | omega)) _) | apply Kept.alloc | apply Kept.drew)

set_option maxRecDepth 100000 in
set_option maxHeartbeats 4000000 in
theorem f_Inv_n (f : Int) (h1b : (f == 1) = false) (h2b : (f == 2) = false) (a0 a1 : Int) : Pure Try.prog 98 #[.int .u8 f, .agg #[.int .u64 a0, .int .u64 a1]] (.tuple #[.agg #[.int .u64 0, .int .u64 0], .int .i64 10]) := fun w => by

  go_enter Try.func98, Try.ntmps98
  go_wp2_with fail
  refine bodyPost_ret (v := .tuple #[.agg #[.int .u64 0, .int .u64 0], .int .i64 10]) (by simp [results, Try.results98, go_sem, *]) rfl ⟨rfl, ?_⟩
  repeat (first | exact Kept.refl _ | (refine Kept.setCell ?_ (kept_side (by first | assumption | omega)) _) | apply Kept.alloc | apply Kept.drew)

set_option maxRecDepth 100000 in
set_option maxHeartbeats 4000000 in
theorem f_Root_s (l n e : Int) (hG : Pure Try.prog 46 #[.int .i64 l] (.tuple #[.int .u64 n, .int .i64 e])) : Pure Try.prog 83 #[.int .u8 1, .int .i64 l] (.tuple #[.agg #[.int .u64 n, .int .u64 0], .int .i64 e]) := fun w => by
  have HG := Lib.hid hG
  clear hG
  go_enter Try.func83, Try.ntmps83
  go_wp2_with fail
  refine abs_calls (fun W => Kept w W ∧ Blk W (w.heap.size) 28 #[.int .u64 0, .int .u64 0]) ?_ ?_
  · refine ⟨?_, ?_⟩
    · repeat (first | exact Kept.refl _ | (refine Kept.setCell ?_ (kept_side (by first | assumption | omega)) _) | apply Kept.alloc | apply Kept.drew)
    · simp [Blk, *] <;> (intros; omega)
  rintro W1 ⟨kW1, BW1_0⟩
  have cW1_0_0 : W1.cell? ⟨w.heap.size, 0, none⟩ = some (.int .u64 0) := BW1_0.cell 0 rfl
  have cW1_0_1 : W1.cell? ⟨w.heap.size, 1, none⟩ = some (.int .u64 0) := BW1_0.cell 1 rfl
  have fW1_0 := BW1_0.free
  refine (HG.out _).mono ?_
  rintro e W2 ⟨rfl, hkW2⟩
  have kW2 := kW1.trans hkW2
  have BW2_0 := BW1_0.kept hkW2
  clear cW1_0_0 cW1_0_1 fW1_0 BW1_0 kW1 hkW2
  have cW2_0_0 : W2.cell? ⟨w.heap.size, 0, none⟩ = some (.int .u64 0) := BW2_0.cell 0 rfl
  have cW2_0_1 : W2.cell? ⟨w.heap.size, 1, none⟩ = some (.int .u64 0) := BW2_0.cell 1 rfl
  have fW2_0 := BW2_0.free
  go_wp2_with fail
  refine bodyPost_ret (v := .tuple #[.agg #[.int .u64 n, .int .u64 0], .int .i64 e]) (by simp [results, Try.results83, go_sem, *]) rfl ⟨rfl, ?_⟩
  repeat (first | exact kW2 | (refine Kept.setCell ?_ (kept_side (by first | assumption | omega)) _) | apply Kept.alloc | apply Kept.drew)

set_option maxRecDepth 100000 in
set_option maxHeartbeats 4000000 in
theorem f_Root_l (l r0 r1 e : Int) (hG : Pure Try.prog 68 #[.int .i64 l] (.tuple #[.agg #[.int .u64 r0, .int .u64 r1], .int .i64 e])) : Pure Try.prog 83 #[.int .u8 2, .int .i64 l] (.tuple #[.agg #[.int .u64 r0, .int .u64 r1], .int .i64 e]) := fun w => by
  have HG := Lib.hid hG
  clear hG
  go_enter Try.func83, Try.ntmps83
  go_wp2_with fail
  refine abs_calls (fun W => Kept w W ∧ Blk W (w.heap.size) 28 #[.int .u64 0, .int .u64 0]) ?_ ?_
  · refine ⟨?_, ?_⟩
    · repeat (first | exact Kept.refl _ | (refine Kept.setCell ?_ (kept_side (by first | assumption | omega)) _) | apply Kept.alloc | apply Kept.drew)
    · simp [Blk, *] <;> (intros; omega)
  rintro W1 ⟨kW1, BW1_0⟩
  have cW1_0_0 : W1.cell? ⟨w.heap.size, 0, none⟩ = some (.int .u64 0) := BW1_0.cell 0 rfl
  have cW1_0_1 : W1.cell? ⟨w.heap.size, 1, none⟩ = some (.int .u64 0) := BW1_0.cell 1 rfl
  have fW1_0 := BW1_0.free
  refine (HG.out _).mono ?_
  rintro e W2 ⟨rfl, hkW2⟩
  have kW2 := kW1.trans hkW2
  have BW2_0 := BW1_0.kept hkW2
  clear cW1_0_0 cW1_0_1 fW1_0 BW1_0 kW1 hkW2
  have cW2_0_0 : W2.cell? ⟨w.heap.size, 0, none⟩ = some (.int .u64 0) := BW2_0.cell 0 rfl
  have cW2_0_1 : W2.cell? ⟨w.heap.size, 1, none⟩ = some (.int .u64 0) := BW2_0.cell 1 rfl
  have fW2_0 := BW2_0.free
  go_wp2_with fail
  refine bodyPost_ret (v := .tuple #[.agg #[.int .u64 r0, .int .u64 r1], .int .i64 e]) (by simp [results, Try.results83, go_sem, *]) rfl ⟨rfl, ?_⟩
  repeat (first | exact kW2 | (refine Kept.setCell ?_ (kept_side (by first | assumption | omega)) _) | apply Kept.alloc | apply Kept.drew)

set_option maxRecDepth 100000 in
set_option maxHeartbeats 4000000 in
theorem f_Root_n (f : Int) (h1b : (f == 1) = false) (h2b : (f == 2) = false) (l : Int) : Pure Try.prog 83 #[.int .u8 f, .int .i64 l] (.tuple #[.agg #[.int .u64 0, .int .u64 0], .int .i64 10]) := fun w => by

  go_enter Try.func83, Try.ntmps83
  go_wp2_with fail
  refine bodyPost_ret (v := .tuple #[.agg #[.int .u64 0, .int .u64 0], .int .i64 10]) (by simp [results, Try.results83, go_sem, *]) rfl ⟨rfl, ?_⟩
  repeat (first | exact Kept.refl _ | (refine Kept.setCell ?_ (kept_side (by first | assumption | omega)) _) | apply Kept.alloc | apply Kept.drew)

end Go.Proofs.Ytnajihlhcdedgaa
