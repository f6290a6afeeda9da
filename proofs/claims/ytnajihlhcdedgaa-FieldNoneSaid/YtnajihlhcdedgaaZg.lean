/-
  Texts joined: FA FB FC FD FE FAw FRoots FLx FSl.
-/
import Derived.Test.YtnajihlhcdedgaaZc
import Derived.Outline
import Derived.Test.YtnajihlhcdedgaaZd
import Derived.Test.YtnajihlhcdedgaaZb
import Derived.Test.YtnajihlhcdedgaaZa
import Derived.Laws.MakeOwn
import Derived.Deep.Cut
import Derived.IntWalk
import Derived.Deep.Slices
namespace Go.Proofs.Ytnajihlhcdedgaa
open Go.RowKit
set_option linter.unusedVariables false
set_option linter.unusedSimpArgs false
attribute [local simp] blkAt_setCell blkAt_alloc blkAt_drew Obj.put_cells

set_option maxRecDepth 100000 in
set_option maxHeartbeats 4000000 in
theorem f_Add_s (a0 a1 b0 b1 r : Int) (hG : Pure Try.prog 27 #[.int .u64 a0, .int .u64 b0] (.int .u64 r)) : Pure Try.prog 99 #[.int .u8 1, .agg #[.int .u64 a0, .int .u64 a1], .agg #[.int .u64 b0, .int .u64 b1]] (.agg #[.int .u64 r, .int .u64 0]) := fun w => by
  have HG := Lib.hid hG
  clear hG
  have ne0_2 : w.heap.size ≠ w.heap.size + 1 + 1 := by omega
  have ne2_0 : w.heap.size + 1 + 1 ≠ w.heap.size := by omega
  go_enter Try.func99, Try.ntmps99
  go_wp2_with fail
  refine abs_calls (fun W => Kept w W ∧ Blk W (w.heap.size) 28 #[.int .u64 a0, .int .u64 a1] ∧ Blk W (w.heap.size + 1) 28 #[.int .u64 b0, .int .u64 b1] ∧ Blk W (w.heap.size + 1 + 1) 28 #[.int .u64 0, .int .u64 0]) ?_ ?_
  · refine ⟨?_, ?_, ?_, ?_⟩
    · repeat (first | exact Kept.refl _ | (refine Kept.setCell ?_ (kept_side (by first | assumption | omega)) _) | apply Kept.alloc | apply Kept.drew)
    · simp [Blk, *] <;> (intros; omega)
    · simp [Blk, *] <;> (intros; omega)
    · simp [Blk, *] <;> (intros; omega)
  rintro W1 ⟨kW1, BW1_0, BW1_1, BW1_2⟩
  have cW1_0_0 : W1.cell? ⟨w.heap.size, 0, none⟩ = some (.int .u64 a0) := BW1_0.cell 0 rfl
  have cW1_0_1 : W1.cell? ⟨w.heap.size, 1, none⟩ = some (.int .u64 a1) := BW1_0.cell 1 rfl
  have fW1_0 := BW1_0.free
  have cW1_1_0 : W1.cell? ⟨w.heap.size + 1, 0, none⟩ = some (.int .u64 b0) := BW1_1.cell 0 rfl
  have cW1_1_1 : W1.cell? ⟨w.heap.size + 1, 1, none⟩ = some (.int .u64 b1) := BW1_1.cell 1 rfl
  have fW1_1 := BW1_1.free
  have cW1_2_0 : W1.cell? ⟨w.heap.size + 1 + 1, 0, none⟩ = some (.int .u64 0) := BW1_2.cell 0 rfl
  have cW1_2_1 : W1.cell? ⟨w.heap.size + 1 + 1, 1, none⟩ = some (.int .u64 0) := BW1_2.cell 1 rfl
  have fW1_2 := BW1_2.free
  refine (HG.out _).mono ?_
  rintro e W2 ⟨rfl, hkW2⟩
  have kW2 := kW1.trans hkW2
  have BW2_0 := BW1_0.kept hkW2
  have BW2_1 := BW1_1.kept hkW2
  have BW2_2 := BW1_2.kept hkW2
  clear cW1_0_0 cW1_0_1 cW1_1_0 cW1_1_1 cW1_2_0 cW1_2_1 fW1_0 fW1_1 fW1_2 BW1_0 BW1_1 BW1_2 kW1 hkW2
  have cW2_0_0 : W2.cell? ⟨w.heap.size, 0, none⟩ = some (.int .u64 a0) := BW2_0.cell 0 rfl
  have cW2_0_1 : W2.cell? ⟨w.heap.size, 1, none⟩ = some (.int .u64 a1) := BW2_0.cell 1 rfl
  have fW2_0 := BW2_0.free
  have cW2_1_0 : W2.cell? ⟨w.heap.size + 1, 0, none⟩ = some (.int .u64 b0) := BW2_1.cell 0 rfl
  have cW2_1_1 : W2.cell? ⟨w.heap.size + 1, 1, none⟩ = some (.int .u64 b1) := BW2_1.cell 1 rfl
  have fW2_1 := BW2_1.free
  have cW2_2_0 : W2.cell? ⟨w.heap.size + 1 + 1, 0, none⟩ = some (.int .u64 0) := BW2_2.cell 0 rfl
  have cW2_2_1 : W2.cell? ⟨w.heap.size + 1 + 1, 1, none⟩ = some (.int .u64 0) := BW2_2.cell 1 rfl
  have fW2_2 := BW2_2.free
  go_wp2_with fail
  refine bodyPost_ret (v := .agg #[.int .u64 r, .int .u64 0]) (by simp [results, Try.results99, go_sem, *]) rfl ⟨rfl, ?_⟩
  repeat (first | exact kW2 | (refine Kept.setCell ?_ (kept_side (by first | assumption | omega)) _) | apply Kept.alloc | apply Kept.drew)

set_option maxRecDepth 100000 in
set_option maxHeartbeats 4000000 in
theorem f_Add_l (a0 a1 b0 b1 r0 r1 : Int) (hG : Pure Try.prog 50 #[.agg #[.int .u64 a0, .int .u64 a1], .agg #[.int .u64 b0, .int .u64 b1]] (.agg #[.int .u64 r0, .int .u64 r1])) : Pure Try.prog 99 #[.int .u8 2, .agg #[.int .u64 a0, .int .u64 a1], .agg #[.int .u64 b0, .int .u64 b1]] (.agg #[.int .u64 r0, .int .u64 r1]) := fun w => by
  have HG := Lib.hid hG
  clear hG
  have ne0_2 : w.heap.size ≠ w.heap.size + 1 + 1 := by omega
  have ne2_0 : w.heap.size + 1 + 1 ≠ w.heap.size := by omega
  go_enter Try.func99, Try.ntmps99
  go_wp2_with fail
  refine abs_calls (fun W => Kept w W ∧ Blk W (w.heap.size) 28 #[.int .u64 a0, .int .u64 a1] ∧ Blk W (w.heap.size + 1) 28 #[.int .u64 b0, .int .u64 b1] ∧ Blk W (w.heap.size + 1 + 1) 28 #[.int .u64 0, .int .u64 0]) ?_ ?_
  · refine ⟨?_, ?_, ?_, ?_⟩
    · repeat (first | exact Kept.refl _ | (refine Kept.setCell ?_ (kept_side (by first | assumption | omega)) _) | apply Kept.alloc | apply Kept.drew)
    · simp [Blk, *] <;> (intros; omega)
    · simp [Blk, *] <;> (intros; omega)
    · simp [Blk, *] <;> (intros; omega)
  rintro W1 ⟨kW1, BW1_0, BW1_1, BW1_2⟩
  have cW1_0_0 : W1.cell? ⟨w.heap.size, 0, none⟩ = some (.int .u64 a0) := BW1_0.cell 0 rfl
  have cW1_0_1 : W1.cell? ⟨w.heap.size, 1, none⟩ = some (.int .u64 a1) := BW1_0.cell 1 rfl
  have fW1_0 := BW1_0.free
  have cW1_1_0 : W1.cell? ⟨w.heap.size + 1, 0, none⟩ = some (.int .u64 b0) := BW1_1.cell 0 rfl
  have cW1_1_1 : W1.cell? ⟨w.heap.size + 1, 1, none⟩ = some (.int .u64 b1) := BW1_1.cell 1 rfl
  have fW1_1 := BW1_1.free
  have cW1_2_0 : W1.cell? ⟨w.heap.size + 1 + 1, 0, none⟩ = some (.int .u64 0) := BW1_2.cell 0 rfl
  have cW1_2_1 : W1.cell? ⟨w.heap.size + 1 + 1, 1, none⟩ = some (.int .u64 0) := BW1_2.cell 1 rfl
  have fW1_2 := BW1_2.free
  refine (HG.out _).mono ?_
  rintro e W2 ⟨rfl, hkW2⟩
  have kW2 := kW1.trans hkW2
  have BW2_0 := BW1_0.kept hkW2
  have BW2_1 := BW1_1.kept hkW2
  have BW2_2 := BW1_2.kept hkW2
  clear cW1_0_0 cW1_0_1 cW1_1_0 cW1_1_1 cW1_2_0 cW1_2_1 fW1_0 fW1_1 fW1_2 BW1_0 BW1_1 BW1_2 kW1 hkW2
  have cW2_0_0 : W2.cell? ⟨w.heap.size, 0, none⟩ = some (.int .u64 a0) := BW2_0.cell 0 rfl
  have cW2_0_1 : W2.cell? ⟨w.heap.size, 1, none⟩ = some (.int .u64 a1) := BW2_0.cell 1 rfl
  have fW2_0 := BW2_0.free
  have cW2_1_0 : W2.cell? ⟨w.heap.size + 1, 0, none⟩ = some (.int .u64 b0) := BW2_1.cell 0 rfl
  have cW2_1_1 : W2.cell? ⟨w.heap.size + 1, 1, none⟩ = some (.int .u64 b1) := BW2_1.cell 1 rfl
  have fW2_1 := BW2_1.free
  have cW2_2_0 : W2.cell? ⟨w.heap.size + 1 + 1, 0, none⟩ = some (.int .u64 0) := BW2_2.cell 0 rfl
  have cW2_2_1 : W2.cell? ⟨w.heap.size + 1 + 1, 1, none⟩ = some (.int .u64 0) := BW2_2.cell 1 rfl
  have fW2_2 := BW2_2.free
  go_wp2_with fail
  refine bodyPost_ret (v := .agg #[.int .u64 r0, .int .u64 r1]) (by simp [results, Try.results99, go_sem, *]) rfl ⟨rfl, ?_⟩
  repeat (first | exact kW2 | (refine Kept.setCell ?_ (kept_side (by first | assumption | omega)) _) | apply Kept.alloc | apply Kept.drew)

set_option maxRecDepth 100000 in
set_option maxHeartbeats 4000000 in
theorem f_Add_n (f : Int) (h1b : (f == 1) = false) (h2b : (f == 2) = false) (a0 a1 b0 b1 : Int) : Pure Try.prog 99 #[.int .u8 f, .agg #[.int .u64 a0, .int .u64 a1], .agg #[.int .u64 b0, .int .u64 b1]] (.agg #[.int .u64 0, .int .u64 0]) := fun w => by

  have ne0_2 : w.heap.size ≠ w.heap.size + 1 + 1 := by omega
  have ne2_0 : w.heap.size + 1 + 1 ≠ w.heap.size := by omega
  go_enter Try.func99, Try.ntmps99
  go_wp2_with fail
  refine bodyPost_ret (v := .agg #[.int .u64 0, .int .u64 0]) (by simp [results, Try.results99, go_sem, *]) rfl ⟨rfl, ?_⟩
  repeat (first | exact Kept.refl _ | (refine Kept.setCell ?_ (kept_side (by first | assumption | omega)) _) | apply Kept.alloc | apply Kept.drew)

set_option maxRecDepth 100000 in
set_option maxHeartbeats 4000000 in
theorem f_Sub_s (a0 a1 b0 b1 r : Int) (hG : Pure Try.prog 30 #[.int .u64 a0, .int .u64 b0] (.int .u64 r)) : Pure Try.prog 100 #[.int .u8 1, .agg #[.int .u64 a0, .int .u64 a1], .agg #[.int .u64 b0, .int .u64 b1]] (.agg #[.int .u64 r, .int .u64 0]) := fun w => by
  have HG := Lib.hid hG
  clear hG
  have ne0_2 : w.heap.size ≠ w.heap.size + 1 + 1 := by omega
  have ne2_0 : w.heap.size + 1 + 1 ≠ w.heap.size := by omega
  go_enter Try.func100, Try.ntmps100
  go_wp2_with fail
  refine abs_calls (fun W => Kept w W ∧ Blk W (w.heap.size) 28 #[.int .u64 a0, .int .u64 a1] ∧ Blk W (w.heap.size + 1) 28 #[.int .u64 b0, .int .u64 b1] ∧ Blk W (w.heap.size + 1 + 1) 28 #[.int .u64 0, .int .u64 0]) ?_ ?_
  · refine ⟨?_, ?_, ?_, ?_⟩
    · repeat (first | exact Kept.refl _ | (refine Kept.setCell ?_ (kept_side (by first | assumption | omega)) _) | apply Kept.alloc | apply Kept.drew)
    · simp [Blk, *] <;> (intros; omega)
    · simp [Blk, *] <;> (intros; omega)
    · simp [Blk, *] <;> (intros; omega)
  rintro W1 ⟨kW1, BW1_0, BW1_1, BW1_2⟩
  have cW1_0_0 : W1.cell? ⟨w.heap.size, 0, none⟩ = some (.int .u64 a0) := BW1_0.cell 0 rfl
  have cW1_0_1 : W1.cell? ⟨w.heap.size, 1, none⟩ = some (.int .u64 a1) := BW1_0.cell 1 rfl
  have fW1_0 := BW1_0.free
  have cW1_1_0 : W1.cell? ⟨w.heap.size + 1, 0, none⟩ = some (.int .u64 b0) := BW1_1.cell 0 rfl
  have cW1_1_1 : W1.cell? ⟨w.heap.size + 1, 1, none⟩ = some (.int .u64 b1) := BW1_1.cell 1 rfl
  have fW1_1 := BW1_1.free
  have cW1_2_0 : W1.cell? ⟨w.heap.size + 1 + 1, 0, none⟩ = some (.int .u64 0) := BW1_2.cell 0 rfl
  have cW1_2_1 : W1.cell? ⟨w.heap.size + 1 + 1, 1, none⟩ = some (.int .u64 0) := BW1_2.cell 1 rfl
  have fW1_2 := BW1_2.free
  refine (HG.out _).mono ?_
  rintro e W2 ⟨rfl, hkW2⟩
  have kW2 := kW1.trans hkW2
  have BW2_0 := BW1_0.kept hkW2
  have BW2_1 := BW1_1.kept hkW2
  have BW2_2 := BW1_2.kept hkW2
  clear cW1_0_0 cW1_0_1 cW1_1_0 cW1_1_1 cW1_2_0 cW1_2_1 fW1_0 fW1_1 fW1_2 BW1_0 BW1_1 BW1_2 kW1 hkW2
  have cW2_0_0 : W2.cell? ⟨w.heap.size, 0, none⟩ = some (.int .u64 a0) := BW2_0.cell 0 rfl
  have cW2_0_1 : W2.cell? ⟨w.heap.size, 1, none⟩ = some (.int .u64 a1) := BW2_0.cell 1 rfl
  have fW2_0 := BW2_0.free
  have cW2_1_0 : W2.cell? ⟨w.heap.size + 1, 0, none⟩ = some (.int .u64 b0) := BW2_1.cell 0 rfl
  have cW2_1_1 : W2.cell? ⟨w.heap.size + 1, 1, none⟩ = some (.int .u64 b1) := BW2_1.cell 1 rfl
  have fW2_1 := BW2_1.free
  have cW2_2_0 : W2.cell? ⟨w.heap.size + 1 + 1, 0, none⟩ = some (.int .u64 0) := BW2_2.cell 0 rfl
  have cW2_2_1 : W2.cell? ⟨w.heap.size + 1 + 1, 1, none⟩ = some (.int .u64 0) := BW2_2.cell 1 rfl
  have fW2_2 := BW2_2.free
  go_wp2_with fail
  refine bodyPost_ret (v := .agg #[.int .u64 r, .int .u64 0]) (by simp [results, Try.results100, go_sem, *]) rfl ⟨rfl, ?_⟩
  repeat (first | exact kW2 | (refine Kept.setCell ?_ (kept_side (by first | assumption | omega)) _) | apply Kept.alloc | apply Kept.drew)

set_option maxRecDepth 100000 in
set_option maxHeartbeats 4000000 in
theorem f_Sub_l (a0 a1 b0 b1 r0 r1 : Int) (hG : Pure Try.prog 51 #[.agg #[.int .u64 a0, .int .u64 a1], .agg #[.int .u64 b0, .int .u64 b1]] (.agg #[.int .u64 r0, .int .u64 r1])) : Pure Try.prog 100 #[.int .u8 2, .agg #[.int .u64 a0, .int .u64 a1], .agg #[.int .u64 b0, .int .u64 b1]] (.agg #[.int .u64 r0, .int .u64 r1]) := fun w => by
  have HG := Lib.hid hG
  clear hG
  have ne0_2 : w.heap.size ≠ w.heap.size + 1 + 1 := by omega
  have ne2_0 : w.heap.size + 1 + 1 ≠ w.heap.size := by omega
  go_enter Try.func100, Try.ntmps100
  go_wp2_with fail
  refine abs_calls (fun W => Kept w W ∧ Blk W (w.heap.size) 28 #[.int .u64 a0, .int .u64 a1] ∧ Blk W (w.heap.size + 1) 28 #[.int .u64 b0, .int .u64 b1] ∧ Blk W (w.heap.size + 1 + 1) 28 #[.int .u64 0, .int .u64 0]) ?_ ?_
  · refine ⟨?_, ?_, ?_, ?_⟩
    · repeat (first | exact Kept.refl _ | (refine Kept.setCell ?_ (kept_side (by first | assumption | omega)) _) | apply Kept.alloc | apply Kept.drew)
    · simp [Blk, *] <;> (intros; omega)
    · simp [Blk, *] <;> (intros; omega)
    · simp [Blk, *] <;> (intros; omega)
  rintro W1 ⟨kW1, BW1_0, BW1_1, BW1_2⟩
  have cW1_0_0 : W1.cell? ⟨w.heap.size, 0, none⟩ = some (.int .u64 a0) := BW1_0.cell 0 rfl
  have cW1_0_1 : W1.cell? ⟨w.heap.size, 1, none⟩ = some (.int .u64 a1) := BW1_0.cell 1 rfl
  have fW1_0 := BW1_0.free
  have cW1_1_0 : W1.cell? ⟨w.heap.size + 1, 0, none⟩ = some (.int .u64 b0) := BW1_1.cell 0 rfl
  have cW1_1_1 : W1.cell? ⟨w.heap.size + 1, 1, none⟩ = some (.int .u64 b1) := BW1_1.cell 1 rfl
  have fW1_1 := BW1_1.free
  have cW1_2_0 : W1.cell? ⟨w.heap.size + 1 + 1, 0, none⟩ = some (.int .u64 0) := BW1_2.cell 0 rfl
  have cW1_2_1 : W1.cell? ⟨w.heap.size + 1 + 1, 1, none⟩ = some (.int .u64 0) := BW1_2.cell 1 rfl
  have fW1_2 := BW1_2.free
  refine (HG.out _).mono ?_
  rintro e W2 ⟨rfl, hkW2⟩
  have kW2 := kW1.trans hkW2
  have BW2_0 := BW1_0.kept hkW2
  have BW2_1 := BW1_1.kept hkW2
  have BW2_2 := BW1_2.kept hkW2
  clear cW1_0_0 cW1_0_1 cW1_1_0 cW1_1_1 cW1_2_0 cW1_2_1 fW1_0 fW1_1 fW1_2 BW1_0 BW1_1 BW1_2 kW1 hkW2
  have cW2_0_0 : W2.cell? ⟨w.heap.size, 0, none⟩ = some (.int .u64 a0) := BW2_0.cell 0 rfl
  have cW2_0_1 : W2.cell? ⟨w.heap.size, 1, none⟩ = some (.int .u64 a1) := BW2_0.cell 1 rfl
  have fW2_0 := BW2_0.free
  have cW2_1_0 : W2.cell? ⟨w.heap.size + 1, 0, none⟩ = some (.int .u64 b0) := BW2_1.cell 0 rfl
  have cW2_1_1 : W2.cell? ⟨w.heap.size + 1, 1, none⟩ = some (.int .u64 b1) := BW2_1.cell 1 rfl
  have fW2_1 := BW2_1.free
  have cW2_2_0 : W2.cell? ⟨w.heap.size + 1 + 1, 0, none⟩ = some (.int .u64 0) := BW2_2.cell 0 rfl
  have cW2_2_1 : W2.cell? ⟨w.heap.size + 1 + 1, 1, none⟩ = some (.int .u64 0) := BW2_2.cell 1 rfl
  have fW2_2 := BW2_2.free
  go_wp2_with fail
  refine bodyPost_ret (v := .agg #[.int .u64 r0, .int .u64 r1]) (by simp [results, Try.results100, go_sem, *]) rfl ⟨rfl, ?_⟩
  repeat (first | exact kW2 | (refine Kept.setCell ?_ (kept_side (by first | assumption | omega)) _) | apply Kept.alloc | apply Kept.drew)

set_option maxRecDepth 100000 in
set_option maxHeartbeats 4000000 in
theorem f_Sub_n (f : Int) (h1b : (f == 1) = false) (h2b : (f == 2) = false) (a0 a1 b0 b1 : Int) : Pure Try.prog 100 #[.int .u8 f, .agg #[.int .u64 a0, .int .u64 a1], .agg #[.int .u64 b0, .int .u64 b1]] (.agg #[.int .u64 0, .int .u64 0]) := fun w => by

  have ne0_2 : w.heap.size ≠ w.heap.size + 1 + 1 := by omega
  have ne2_0 : w.heap.size + 1 + 1 ≠ w.heap.size := by omega
  go_enter Try.func100, Try.ntmps100
  go_wp2_with fail
  refine bodyPost_ret (v := .agg #[.int .u64 0, .int .u64 0]) (by simp [results, Try.results100, go_sem, *]) rfl ⟨rfl, ?_⟩
  repeat (first | exact Kept.refl _ | (refine Kept.setCell ?_ (kept_side (by first | assumption | omega)) _) | apply Kept.alloc | apply Kept.drew)

set_option maxRecDepth 100000 in
set_option maxHeartbeats 4000000 in
theorem f_Mul_s (a0 a1 b0 b1 r : Int) (hG : Pure Try.prog 28 #[.int .u64 a0, .int .u64 b0] (.int .u64 r)) : Pure Try.prog 102 #[.int .u8 1, .agg #[.int .u64 a0, .int .u64 a1], .agg #[.int .u64 b0, .int .u64 b1]] (.agg #[.int .u64 r, .int .u64 0]) := fun w => by
  have HG := Lib.hid hG
  clear hG
  have ne0_2 : w.heap.size ≠ w.heap.size + 1 + 1 := by omega
  have ne2_0 : w.heap.size + 1 + 1 ≠ w.heap.size := by omega
  go_enter Try.func102, Try.ntmps102
  go_wp2_with fail
  refine abs_calls (fun W => Kept w W ∧ Blk W (w.heap.size) 28 #[.int .u64 a0, .int .u64 a1] ∧ Blk W (w.heap.size + 1) 28 #[.int .u64 b0, .int .u64 b1] ∧ Blk W (w.heap.size + 1 + 1) 28 #[.int .u64 0, .int .u64 0]) ?_ ?_
  · refine ⟨?_, ?_, ?_, ?_⟩
    · repeat (first | exact Kept.refl _ | (refine Kept.setCell ?_ (kept_side (by first | assumption | omega)) _) | apply Kept.alloc | apply Kept.drew)
    · simp [Blk, *] <;> (intros; omega)
    · simp [Blk, *] <;> (intros; omega)
    · simp [Blk, *] <;> (intros; omega)
  rintro W1 ⟨kW1, BW1_0, BW1_1, BW1_2⟩
  have cW1_0_0 : W1.cell? ⟨w.heap.size, 0, none⟩ = some (.int .u64 a0) := BW1_0.cell 0 rfl
  have cW1_0_1 : W1.cell? ⟨w.heap.size, 1, none⟩ = some (.int .u64 a1) := BW1_0.cell 1 rfl
  have fW1_0 := BW1_0.free
  have cW1_1_0 : W1.cell? ⟨w.heap.size + 1, 0, none⟩ = some (.int .u64 b0) := BW1_1.cell 0 rfl
  have cW1_1_1 : W1.cell? ⟨w.heap.size + 1, 1, none⟩ = some (.int .u64 b1) := BW1_1.cell 1 rfl
  have fW1_1 := BW1_1.free
  have cW1_2_0 : W1.cell? ⟨w.heap.size + 1 + 1, 0, none⟩ = some (.int .u64 0) := BW1_2.cell 0 rfl
  have cW1_2_1 : W1.cell? ⟨w.heap.size + 1 + 1, 1, none⟩ = some (.int .u64 0) := BW1_2.cell 1 rfl
  have fW1_2 := BW1_2.free
  refine (HG.out _).mono ?_
  rintro e W2 ⟨rfl, hkW2⟩
  have kW2 := kW1.trans hkW2
  have BW2_0 := BW1_0.kept hkW2
  have BW2_1 := BW1_1.kept hkW2
  have BW2_2 := BW1_2.kept hkW2
  clear cW1_0_0 cW1_0_1 cW1_1_0 cW1_1_1 cW1_2_0 cW1_2_1 fW1_0 fW1_1 fW1_2 BW1_0 BW1_1 BW1_2 kW1 hkW2
  have cW2_0_0 : W2.cell? ⟨w.heap.size, 0, none⟩ = some (.int .u64 a0) := BW2_0.cell 0 rfl
  have cW2_0_1 : W2.cell? ⟨w.heap.size, 1, none⟩ = some (.int .u64 a1) := BW2_0.cell 1 rfl
  have fW2_0 := BW2_0.free
  have cW2_1_0 : W2.cell? ⟨w.heap.size + 1, 0, none⟩ = some (.int .u64 b0) := BW2_1.cell 0 rfl
  have cW2_1_1 : W2.cell? ⟨w.heap.size + 1, 1, none⟩ = some (.int .u64 b1) := BW2_1.cell 1 rfl
  have fW2_1 := BW2_1.free
  have cW2_2_0 : W2.cell? ⟨w.heap.size + 1 + 1, 0, none⟩ = some (.int .u64 0) := BW2_2.cell 0 rfl
  have cW2_2_1 : W2.cell? ⟨w.heap.size + 1 + 1, 1, none⟩ = some (.int .u64 0) := BW2_2.cell 1 rfl
  have fW2_2 := BW2_2.free
  go_wp2_with fail
  refine bodyPost_ret (v := .agg #[.int .u64 r, .int .u64 0]) (by simp [results, Try.results102, go_sem, *]) rfl ⟨rfl, ?_⟩
  repeat (first | exact kW2 | (refine Kept.setCell ?_ (kept_side (by first | assumption | omega)) _) | apply Kept.alloc | apply Kept.drew)

set_option maxRecDepth 100000 in
set_option maxHeartbeats 4000000 in
theorem f_Mul_l (a0 a1 b0 b1 r0 r1 : Int) (hG : Pure Try.prog 53 #[.agg #[.int .u64 a0, .int .u64 a1], .agg #[.int .u64 b0, .int .u64 b1]] (.agg #[.int .u64 r0, .int .u64 r1])) : Pure Try.prog 102 #[.int .u8 2, .agg #[.int .u64 a0, .int .u64 a1], .agg #[.int .u64 b0, .int .u64 b1]] (.agg #[.int .u64 r0, .int .u64 r1]) := fun w => by
  have HG := Lib.hid hG
  clear hG
  have ne0_2 : w.heap.size ≠ w.heap.size + 1 + 1 := by omega
  have ne2_0 : w.heap.size + 1 + 1 ≠ w.heap.size := by omega
  go_enter Try.func102, Try.ntmps102
  go_wp2_with fail
  refine abs_calls (fun W => Kept w W ∧ Blk W (w.heap.size) 28 #[.int .u64 a0, .int .u64 a1] ∧ Blk W (w.heap.size + 1) 28 #[.int .u64 b0, .int .u64 b1] ∧ Blk W (w.heap.size + 1 + 1) 28 #[.int .u64 0, .int .u64 0]) ?_ ?_
  · refine ⟨?_, ?_, ?_, ?_⟩
    · repeat (first | exact Kept.refl _ | (refine Kept.setCell ?_ (kept_side (by first | assumption | omega)) _) | apply Kept.alloc | apply Kept.drew)
    · simp [Blk, *] <;> (intros; omega)
    · simp [Blk, *] <;> (intros; omega)
    · simp [Blk, *] <;> (intros; omega)
  rintro W1 ⟨kW1, BW1_0, BW1_1, BW1_2⟩
  have cW1_0_0 : W1.cell? ⟨w.heap.size, 0, none⟩ = some (.int .u64 a0) := BW1_0.cell 0 rfl
  have cW1_0_1 : W1.cell? ⟨w.heap.size, 1, none⟩ = some (.int .u64 a1) := BW1_0.cell 1 rfl
  have fW1_0 := BW1_0.free
  have cW1_1_0 : W1.cell? ⟨w.heap.size + 1, 0, none⟩ = some (.int .u64 b0) := BW1_1.cell 0 rfl
  have cW1_1_1 : W1.cell? ⟨w.heap.size + 1, 1, none⟩ = some (.int .u64 b1) := BW1_1.cell 1 rfl
  have fW1_1 := BW1_1.free
  have cW1_2_0 : W1.cell? ⟨w.heap.size + 1 + 1, 0, none⟩ = some (.int .u64 0) := BW1_2.cell 0 rfl
  have cW1_2_1 : W1.cell? ⟨w.heap.size + 1 + 1, 1, none⟩ = some (.int .u64 0) := BW1_2.cell 1 rfl
  have fW1_2 := BW1_2.free
  refine (HG.out _).mono ?_
  rintro e W2 ⟨rfl, hkW2⟩
  have kW2 := kW1.trans hkW2
  have BW2_0 := BW1_0.kept hkW2
  have BW2_1 := BW1_1.kept hkW2
  have BW2_2 := BW1_2.kept hkW2
  clear cW1_0_0 cW1_0_1 cW1_1_0 cW1_1_1 cW1_2_0 cW1_2_1 fW1_0 fW1_1 fW1_2 BW1_0 BW1_1 BW1_2 kW1 hkW2
  have cW2_0_0 : W2.cell? ⟨w.heap.size, 0, none⟩ = some (.int .u64 a0) := BW2_0.cell 0 rfl
  have cW2_0_1 : W2.cell? ⟨w.heap.size, 1, none⟩ = some (.int .u64 a1) := BW2_0.cell 1 rfl
  have fW2_0 := BW2_0.free
  have cW2_1_0 : W2.cell? ⟨w.heap.size + 1, 0, none⟩ = some (.int .u64 b0) := BW2_1.cell 0 rfl
  have cW2_1_1 : W2.cell? ⟨w.heap.size + 1, 1, none⟩ = some (.int .u64 b1) := BW2_1.cell 1 rfl
  have fW2_1 := BW2_1.free
  have cW2_2_0 : W2.cell? ⟨w.heap.size + 1 + 1, 0, none⟩ = some (.int .u64 0) := BW2_2.cell 0 rfl
  have cW2_2_1 : W2.cell? ⟨w.heap.size + 1 + 1, 1, none⟩ = some (.int .u64 0) := BW2_2.cell 1 rfl
  have fW2_2 := BW2_2.free
  go_wp2_with fail
  refine bodyPost_ret (v := .agg #[.int .u64 r0, .int .u64 r1]) (by simp [results, Try.results102, go_sem, *]) rfl ⟨rfl, ?_⟩
  repeat (first | exact kW2 | (refine Kept.setCell ?_ (kept_side (by first | assumption | omega)) _) | apply Kept.alloc | apply Kept.drew)

set_option maxRecDepth 100000 in
set_option maxHeartbeats 4000000 in
theorem f_Mul_n (f : Int) (h1b : (f == 1) = false) (h2b : (f == 2) = false) (a0 a1 b0 b1 : Int) : Pure Try.prog 102 #[.int .u8 f, .agg #[.int .u64 a0, .int .u64 a1], .agg #[.int .u64 b0, .int .u64 b1]] (.agg #[.int .u64 0, .int .u64 0]) := fun w => by

  have ne0_2 : w.heap.size ≠ w.heap.size + 1 + 1 := by omega
  have ne2_0 : w.heap.size + 1 + 1 ≠ w.heap.size := by omega
  go_enter Try.func102, Try.ntmps102
  go_wp2_with fail
  refine bodyPost_ret (v := .agg #[.int .u64 0, .int .u64 0]) (by simp [results, Try.results102, go_sem, *]) rfl ⟨rfl, ?_⟩
  repeat (first | exact Kept.refl _ | (refine Kept.setCell ?_ (kept_side (by first | assumption | omega)) _) | apply Kept.alloc | apply Kept.drew)

set_option maxRecDepth 100000 in
set_option maxHeartbeats 4000000 in
theorem f_Neg_r (f a0 a1 r0 r1 : Int) (hG : Pure Try.prog 100 #[.int .u8 f, .agg #[.int .u64 0, .int .u64 0], .agg #[.int .u64 a0, .int .u64 a1]] (.agg #[.int .u64 r0, .int .u64 r1])) : Pure Try.prog 101 #[.int .u8 f, .agg #[.int .u64 a0, .int .u64 a1]] (.agg #[.int .u64 r0, .int .u64 r1]) := fun w => by
  have HG := Lib.hid hG
  clear hG
  go_enter Try.func101, Try.ntmps101
  go_wp2_with fail
  refine abs_calls (fun W => Kept w W ∧ Blk W (w.heap.size) 28 #[.int .u64 a0, .int .u64 a1] ∧ Blk W (w.heap.size + 1) 28 #[.int .u64 0, .int .u64 0]) ?_ ?_
  · refine ⟨?_, ?_, ?_⟩
    · repeat (first | exact Kept.refl _ | (refine Kept.setCell ?_ (kept_side (by first | assumption | omega)) _) | apply Kept.alloc | apply Kept.drew)
    · simp [Blk, *] <;> (intros; omega)
    · simp [Blk, *] <;> (intros; omega)
  rintro W1 ⟨kW1, BW1_0, BW1_1⟩
  have cW1_0_0 : W1.cell? ⟨w.heap.size, 0, none⟩ = some (.int .u64 a0) := BW1_0.cell 0 rfl
  have cW1_0_1 : W1.cell? ⟨w.heap.size, 1, none⟩ = some (.int .u64 a1) := BW1_0.cell 1 rfl
  have fW1_0 := BW1_0.free
  have cW1_1_0 : W1.cell? ⟨w.heap.size + 1, 0, none⟩ = some (.int .u64 0) := BW1_1.cell 0 rfl
  have cW1_1_1 : W1.cell? ⟨w.heap.size + 1, 1, none⟩ = some (.int .u64 0) := BW1_1.cell 1 rfl
  have fW1_1 := BW1_1.free
  refine (HG.out _).mono ?_
  rintro e W2 ⟨rfl, hkW2⟩
  have kW2 := kW1.trans hkW2
  have BW2_0 := BW1_0.kept hkW2
  have BW2_1 := BW1_1.kept hkW2
  clear cW1_0_0 cW1_0_1 cW1_1_0 cW1_1_1 fW1_0 fW1_1 BW1_0 BW1_1 kW1 hkW2
  have cW2_0_0 : W2.cell? ⟨w.heap.size, 0, none⟩ = some (.int .u64 a0) := BW2_0.cell 0 rfl
  have cW2_0_1 : W2.cell? ⟨w.heap.size, 1, none⟩ = some (.int .u64 a1) := BW2_0.cell 1 rfl
  have fW2_0 := BW2_0.free
  have cW2_1_0 : W2.cell? ⟨w.heap.size + 1, 0, none⟩ = some (.int .u64 0) := BW2_1.cell 0 rfl
  have cW2_1_1 : W2.cell? ⟨w.heap.size + 1, 1, none⟩ = some (.int .u64 0) := BW2_1.cell 1 rfl
  have fW2_1 := BW2_1.free
  go_wp2_with fail
  refine bodyPost_ret (v := .agg #[.int .u64 r0, .int .u64 r1]) (by simp [results, Try.results101, go_sem, *]) rfl ⟨rfl, ?_⟩
  repeat (first | exact kW2 | (refine Kept.setCell ?_ (kept_side (by first | assumption | omega)) _) | apply Kept.alloc | apply Kept.drew)

set_option maxRecDepth 100000 in
set_option maxHeartbeats 4000000 in
theorem f_Pow_s (a0 a1 n r : Int) (hG : Pure Try.prog 39 #[.int .u64 a0, .int .u64 n] (.int .u64 r)) : Pure Try.prog 103 #[.int .u8 1, .agg #[.int .u64 a0, .int .u64 a1], .int .u64 n] (.agg #[.int .u64 r, .int .u64 0]) := fun w => by
  have HG := Lib.hid hG
  clear hG
  go_enter Try.func103, Try.ntmps103
  go_wp2_with fail
  refine abs_calls (fun W => Kept w W ∧ Blk W (w.heap.size) 28 #[.int .u64 a0, .int .u64 a1] ∧ Blk W (w.heap.size + 1) 28 #[.int .u64 0, .int .u64 0]) ?_ ?_
  · refine ⟨?_, ?_, ?_⟩
    · repeat (first | exact Kept.refl _ | (refine Kept.setCell ?_ (kept_side (by first | assumption | omega)) _) | apply Kept.alloc | apply Kept.drew)
    · simp [Blk, *] <;> (intros; omega)
    · simp [Blk, *] <;> (intros; omega)
  rintro W1 ⟨kW1, BW1_0, BW1_1⟩
  have cW1_0_0 : W1.cell? ⟨w.heap.size, 0, none⟩ = some (.int .u64 a0) := BW1_0.cell 0 rfl
  have cW1_0_1 : W1.cell? ⟨w.heap.size, 1, none⟩ = some (.int .u64 a1) := BW1_0.cell 1 rfl
  have fW1_0 := BW1_0.free
  have cW1_1_0 : W1.cell? ⟨w.heap.size + 1, 0, none⟩ = some (.int .u64 0) := BW1_1.cell 0 rfl
  have cW1_1_1 : W1.cell? ⟨w.heap.size + 1, 1, none⟩ = some (.int .u64 0) := BW1_1.cell 1 rfl
  have fW1_1 := BW1_1.free
  refine (HG.out _).mono ?_
  rintro e W2 ⟨rfl, hkW2⟩
  have kW2 := kW1.trans hkW2
  have BW2_0 := BW1_0.kept hkW2
  have BW2_1 := BW1_1.kept hkW2
  clear cW1_0_0 cW1_0_1 cW1_1_0 cW1_1_1 fW1_0 fW1_1 BW1_0 BW1_1 kW1 hkW2
  have cW2_0_0 : W2.cell? ⟨w.heap.size, 0, none⟩ = some (.int .u64 a0) := BW2_0.cell 0 rfl
  have cW2_0_1 : W2.cell? ⟨w.heap.size, 1, none⟩ = some (.int .u64 a1) := BW2_0.cell 1 rfl
  have fW2_0 := BW2_0.free
  have cW2_1_0 : W2.cell? ⟨w.heap.size + 1, 0, none⟩ = some (.int .u64 0) := BW2_1.cell 0 rfl
  have cW2_1_1 : W2.cell? ⟨w.heap.size + 1, 1, none⟩ = some (.int .u64 0) := BW2_1.cell 1 rfl
  have fW2_1 := BW2_1.free
  go_wp2_with fail
  refine bodyPost_ret (v := .agg #[.int .u64 r, .int .u64 0]) (by simp [results, Try.results103, go_sem, *]) rfl ⟨rfl, ?_⟩
  repeat (first | exact kW2 | (refine Kept.setCell ?_ (kept_side (by first | assumption | omega)) _) | apply Kept.alloc | apply Kept.drew)

set_option maxRecDepth 100000 in
set_option maxHeartbeats 4000000 in
theorem f_Pow_l (a0 a1 n r0 r1 : Int) (hG : Pure Try.prog 54 #[.agg #[.int .u64 a0, .int .u64 a1], .agg #[.int .u64 n, .int .u64 0]] (.agg #[.int .u64 r0, .int .u64 r1])) : Pure Try.prog 103 #[.int .u8 2, .agg #[.int .u64 a0, .int .u64 a1], .int .u64 n] (.agg #[.int .u64 r0, .int .u64 r1]) := fun w => by
  have HG := Lib.hid hG
  clear hG
  go_enter Try.func103, Try.ntmps103
  go_wp2_with fail
  refine abs_calls (fun W => Kept w W ∧ Blk W (w.heap.size) 28 #[.int .u64 a0, .int .u64 a1] ∧ Blk W (w.heap.size + 1) 28 #[.int .u64 0, .int .u64 0]) ?_ ?_
  · refine ⟨?_, ?_, ?_⟩
    · repeat (first | exact Kept.refl _ | (refine Kept.setCell ?_ (kept_side (by first | assumption | omega)) _) | apply Kept.alloc | apply Kept.drew)
    · simp [Blk, *] <;> (intros; omega)
    · simp [Blk, *] <;> (intros; omega)
  rintro W1 ⟨kW1, BW1_0, BW1_1⟩
  have cW1_0_0 : W1.cell? ⟨w.heap.size, 0, none⟩ = some (.int .u64 a0) := BW1_0.cell 0 rfl
  have cW1_0_1 : W1.cell? ⟨w.heap.size, 1, none⟩ = some (.int .u64 a1) := BW1_0.cell 1 rfl
  have fW1_0 := BW1_0.free
  have cW1_1_0 : W1.cell? ⟨w.heap.size + 1, 0, none⟩ = some (.int .u64 0) := BW1_1.cell 0 rfl
  have cW1_1_1 : W1.cell? ⟨w.heap.size + 1, 1, none⟩ = some (.int .u64 0) := BW1_1.cell 1 rfl
  have fW1_1 := BW1_1.free
  refine (HG.out _).mono ?_
  rintro e W2 ⟨rfl, hkW2⟩
  have kW2 := kW1.trans hkW2
  have BW2_0 := BW1_0.kept hkW2
  have BW2_1 := BW1_1.kept hkW2
  clear cW1_0_0 cW1_0_1 cW1_1_0 cW1_1_1 fW1_0 fW1_1 BW1_0 BW1_1 kW1 hkW2
  have cW2_0_0 : W2.cell? ⟨w.heap.size, 0, none⟩ = some (.int .u64 a0) := BW2_0.cell 0 rfl
  have cW2_0_1 : W2.cell? ⟨w.heap.size, 1, none⟩ = some (.int .u64 a1) := BW2_0.cell 1 rfl
  have fW2_0 := BW2_0.free
  have cW2_1_0 : W2.cell? ⟨w.heap.size + 1, 0, none⟩ = some (.int .u64 0) := BW2_1.cell 0 rfl
  have cW2_1_1 : W2.cell? ⟨w.heap.size + 1, 1, none⟩ = some (.int .u64 0) := BW2_1.cell 1 rfl
  have fW2_1 := BW2_1.free
  go_wp2_with fail
  refine bodyPost_ret (v := .agg #[.int .u64 r0, .int .u64 r1]) (by simp [results, Try.results103, go_sem, *]) rfl ⟨rfl, ?_⟩
  repeat (first | exact kW2 | (refine Kept.setCell ?_ (kept_side (by first | assumption | omega)) _) | apply Kept.alloc | apply Kept.drew)

set_option maxRecDepth 100000 in
set_option maxHeartbeats 4000000 in
theorem f_Pow_n (f : Int) (h1b : (f == 1) = false) (h2b : (f == 2) = false) (a0 a1 n : Int) : Pure Try.prog 103 #[.int .u8 f, .agg #[.int .u64 a0, .int .u64 a1], .int .u64 n] (.agg #[.int .u64 0, .int .u64 0]) := fun w => by

  go_enter Try.func103, Try.ntmps103
  go_wp2_with fail
  refine bodyPost_ret (v := .agg #[.int .u64 0, .int .u64 0]) (by simp [results, Try.results103, go_sem, *]) rfl ⟨rfl, ?_⟩
  repeat (first | exact Kept.refl _ | (refine Kept.setCell ?_ (kept_side (by first | assumption | omega)) _) | apply Kept.alloc | apply Kept.drew)

set_option maxRecDepth 100000 in
set_option maxHeartbeats 4000000 in
theorem f_Of_s (n r : Int) (hG : Pure Try.prog 31 #[.int .u64 n] (.int .u64 r)) : Pure Try.prog 104 #[.int .u8 1, .int .u64 n] (.agg #[.int .u64 r, .int .u64 0]) := fun w => by
  have HG := Lib.hid hG
  clear hG
  go_enter Try.func104, Try.ntmps104
  go_wp2_with fail
  refine abs_calls (fun W => Kept w W ∧ Blk W (w.heap.size) 28 #[.int .u64 0, .int .u64 0]) ?_ ?_
  · refine ⟨?_, ?_⟩
    · repeat (first | exact Kept.refl _ | (refine Kept.setCell ?_ (kept_side (by first | assumption | omega)) _) | apply Kept.alloc | apply Kept.drew)
    · simp [Blk, *] <;> (intros; omega)
  rintro W1 ⟨kW1, BW1_0⟩
  have cW1_0_0 : W1.cell? ⟨w.heap.size, 0, none⟩ = some (.int .u64 0) := BW1_0.cell 0 rfl
  have cW1_0_1 : W1.cell? ⟨w.heap.size, 1, none⟩ = some (.int .u64 0) := BW1_0.cell 1 rfl
  have fW1_0 := BW1_0.free
  refine (HG.out _).mono ?_
  rintro e W2 ⟨rfl, hkW2⟩
  have kW2 := kW1.trans hkW2
  have BW2_0 := BW1_0.kept hkW2
  clear cW1_0_0 cW1_0_1 fW1_0 BW1_0 kW1 hkW2
  have cW2_0_0 : W2.cell? ⟨w.heap.size, 0, none⟩ = some (.int .u64 0) := BW2_0.cell 0 rfl
  have cW2_0_1 : W2.cell? ⟨w.heap.size, 1, none⟩ = some (.int .u64 0) := BW2_0.cell 1 rfl
  have fW2_0 := BW2_0.free
  go_wp2_with fail
  refine bodyPost_ret (v := .agg #[.int .u64 r, .int .u64 0]) (by simp [results, Try.results104, go_sem, *]) rfl ⟨rfl, ?_⟩
  repeat (first | exact kW2 | (refine Kept.setCell ?_ (kept_side (by first | assumption | omega)) _) | apply Kept.alloc | apply Kept.drew)

set_option maxRecDepth 100000 in
set_option maxHeartbeats 4000000 in
theorem f_Of_l (n : Int) : Pure Try.prog 104 #[.int .u8 2, .int .u64 n] (.agg #[.int .u64 n, .int .u64 0]) := fun w => by

  go_enter Try.func104, Try.ntmps104
  go_wp2_with fail
  refine bodyPost_ret (v := .agg #[.int .u64 n, .int .u64 0]) (by simp [results, Try.results104, go_sem, *]) rfl ⟨rfl, ?_⟩
  repeat (first | exact Kept.refl _ | (refine Kept.setCell ?_ (kept_side (by first | assumption | omega)) _) | apply Kept.alloc | apply Kept.drew)

set_option maxRecDepth 100000 in
set_option maxHeartbeats 4000000 in
theorem f_Of_n (f : Int) (h1b : (f == 1) = false) (h2b : (f == 2) = false) (n : Int) : Pure Try.prog 104 #[.int .u8 f, .int .u64 n] (.agg #[.int .u64 0, .int .u64 0]) := fun w => by

  go_enter Try.func104, Try.ntmps104
  go_wp2_with fail
  refine bodyPost_ret (v := .agg #[.int .u64 0, .int .u64 0]) (by simp [results, Try.results104, go_sem, *]) rfl ⟨rfl, ?_⟩
  repeat (first | exact Kept.refl _ | (refine Kept.setCell ?_ (kept_side (by first | assumption | omega)) _) | apply Kept.alloc | apply Kept.drew)

set_option maxRecDepth 100000 in
set_option maxHeartbeats 4000000 in
theorem f_One_r (f r0 r1 : Int) (hG : Pure Try.prog 104 #[.int .u8 f, .int .u64 1] (.agg #[.int .u64 r0, .int .u64 r1])) : Pure Try.prog 105 #[.int .u8 f] (.agg #[.int .u64 r0, .int .u64 r1]) := fun w => by
  have HG := Lib.hid hG
  clear hG
  go_enter Try.func105, Try.ntmps105
  go_wp2_with fail
  refine abs_calls (fun W => Kept w W ∧ Blk W (w.heap.size) 28 #[.int .u64 0, .int .u64 0]) ?_ ?_
  · refine ⟨?_, ?_⟩
    · repeat (first | exact Kept.refl _ | (refine Kept.setCell ?_ (kept_side (by first | assumption | omega)) _) | apply Kept.alloc | apply Kept.drew)
    · simp [Blk, *] <;> (intros; omega)
  rintro W1 ⟨kW1, BW1_0⟩
  have cW1_0_0 : W1.cell? ⟨w.heap.size, 0, none⟩ = some (.int .u64 0) := BW1_0.cell 0 rfl
  have cW1_0_1 : W1.cell? ⟨w.heap.size, 1, none⟩ = some (.int .u64 0) := BW1_0.cell 1 rfl
  have fW1_0 := BW1_0.free
  refine (HG.out _).mono ?_
  rintro e W2 ⟨rfl, hkW2⟩
  have kW2 := kW1.trans hkW2
  have BW2_0 := BW1_0.kept hkW2
  clear cW1_0_0 cW1_0_1 fW1_0 BW1_0 kW1 hkW2
  have cW2_0_0 : W2.cell? ⟨w.heap.size, 0, none⟩ = some (.int .u64 0) := BW2_0.cell 0 rfl
  have cW2_0_1 : W2.cell? ⟨w.heap.size, 1, none⟩ = some (.int .u64 0) := BW2_0.cell 1 rfl
  have fW2_0 := BW2_0.free
  go_wp2_with fail
  refine bodyPost_ret (v := .agg #[.int .u64 r0, .int .u64 r1]) (by simp [results, Try.results105, go_sem, *]) rfl ⟨rfl, ?_⟩
  repeat (first | exact kW2 | (refine Kept.setCell ?_ (kept_side (by first | assumption | omega)) _) | apply Kept.alloc | apply Kept.drew)

set_option maxRecDepth 100000 in
set_option maxHeartbeats 4000000 in
theorem f_In_s (a0 : Int) (b : Bool) (hG : Pure Try.prog 34 #[.int .u64 a0] (.bool b)) : Pure Try.prog 106 #[.int .u8 1, .agg #[.int .u64 a0, .int .u64 0]] (.bool b) := fun w => by
  have HG := Lib.hid hG
  clear hG
  go_enter Try.func106, Try.ntmps106
  go_wp2_with fail
  refine abs_calls (fun W => Kept w W ∧ Blk W (w.heap.size) 28 #[.int .u64 a0, .int .u64 0]) ?_ ?_
  · refine ⟨?_, ?_⟩
    · repeat (first | exact Kept.refl _ | (refine Kept.setCell ?_ (kept_side (by first | assumption | omega)) _) | apply Kept.alloc | apply Kept.drew)
    · simp [Blk, *] <;> (intros; omega)
  rintro W1 ⟨kW1, BW1_0⟩
  have cW1_0_0 : W1.cell? ⟨w.heap.size, 0, none⟩ = some (.int .u64 a0) := BW1_0.cell 0 rfl
  have cW1_0_1 : W1.cell? ⟨w.heap.size, 1, none⟩ = some (.int .u64 0) := BW1_0.cell 1 rfl
  have fW1_0 := BW1_0.free
  refine (HG.out _).mono ?_
  rintro e W2 ⟨rfl, hkW2⟩
  have kW2 := kW1.trans hkW2
  have BW2_0 := BW1_0.kept hkW2
  clear cW1_0_0 cW1_0_1 fW1_0 BW1_0 kW1 hkW2
  have cW2_0_0 : W2.cell? ⟨w.heap.size, 0, none⟩ = some (.int .u64 a0) := BW2_0.cell 0 rfl
  have cW2_0_1 : W2.cell? ⟨w.heap.size, 1, none⟩ = some (.int .u64 0) := BW2_0.cell 1 rfl
  have fW2_0 := BW2_0.free
  go_wp2_with fail
  refine bodyPost_ret (v := .bool b) (by simp [results, Try.results106, go_sem, *]) rfl ⟨rfl, ?_⟩
  repeat (first | exact kW2 | (refine Kept.setCell ?_ (kept_side (by first | assumption | omega)) _) | apply Kept.alloc | apply Kept.drew)

set_option maxRecDepth 100000 in
set_option maxHeartbeats 4000000 in
theorem f_In_s0 (a0 a1 : Int) (h0 : (a1 == 0) = false) : Pure Try.prog 106 #[.int .u8 1, .agg #[.int .u64 a0, .int .u64 a1]] (.bool false) := fun w => by

  go_enter Try.func106, Try.ntmps106
  go_wp2_with fail
  refine bodyPost_ret (v := .bool false) (by simp [results, Try.results106, go_sem, *]) rfl ⟨rfl, ?_⟩
  repeat (first | exact Kept.refl _ | (refine Kept.setCell ?_ (kept_side (by first | assumption | omega)) _) | apply Kept.alloc | apply Kept.drew)

set_option maxRecDepth 100000 in
set_option maxHeartbeats 4000000 in
theorem f_In_l (a0 a1 : Int) (b : Bool) (hG : Pure Try.prog 49 #[.agg #[.int .u64 a0, .int .u64 a1]] (.bool b)) : Pure Try.prog 106 #[.int .u8 2, .agg #[.int .u64 a0, .int .u64 a1]] (.bool b) := fun w => by
  have HG := Lib.hid hG
  clear hG
  go_enter Try.func106, Try.ntmps106
  go_wp2_with fail
  refine abs_calls (fun W => Kept w W ∧ Blk W (w.heap.size) 28 #[.int .u64 a0, .int .u64 a1]) ?_ ?_
  · refine ⟨?_, ?_⟩
    · repeat (first | exact Kept.refl _ | (refine Kept.setCell ?_ (kept_side (by first | assumption | omega)) _) | apply Kept.alloc | apply Kept.drew)
    · simp [Blk, *] <;> (intros; omega)
  rintro W1 ⟨kW1, BW1_0⟩
  have cW1_0_0 : W1.cell? ⟨w.heap.size, 0, none⟩ = some (.int .u64 a0) := BW1_0.cell 0 rfl
  have cW1_0_1 : W1.cell? ⟨w.heap.size, 1, none⟩ = some (.int .u64 a1) := BW1_0.cell 1 rfl
  have fW1_0 := BW1_0.free
  refine (HG.out _).mono ?_
  rintro e W2 ⟨rfl, hkW2⟩
  have kW2 := kW1.trans hkW2
  have BW2_0 := BW1_0.kept hkW2
  clear cW1_0_0 cW1_0_1 fW1_0 BW1_0 kW1 hkW2
  have cW2_0_0 : W2.cell? ⟨w.heap.size, 0, none⟩ = some (.int .u64 a0) := BW2_0.cell 0 rfl
  have cW2_0_1 : W2.cell? ⟨w.heap.size, 1, none⟩ = some (.int .u64 a1) := BW2_0.cell 1 rfl
  have fW2_0 := BW2_0.free
  go_wp2_with fail
  refine bodyPost_ret (v := .bool b) (by simp [results, Try.results106, go_sem, *]) rfl ⟨rfl, ?_⟩
  repeat (first | exact kW2 | (refine Kept.setCell ?_ (kept_side (by first | assumption | omega)) _) | apply Kept.alloc | apply Kept.drew)

set_option maxRecDepth 100000 in
set_option maxHeartbeats 4000000 in
theorem f_In_n (f : Int) (h1b : (f == 1) = false) (h2b : (f == 2) = false) (a0 a1 : Int) : Pure Try.prog 106 #[.int .u8 f, .agg #[.int .u64 a0, .int .u64 a1]] (.bool false) := fun w => by

  go_enter Try.func106, Try.ntmps106
  go_wp2_with fail
  refine bodyPost_ret (v := .bool false) (by simp [results, Try.results106, go_sem, *]) rfl ⟨rfl, ?_⟩
  repeat (first | exact Kept.refl _ | (refine Kept.setCell ?_ (kept_side (by first | assumption | omega)) _) | apply Kept.alloc | apply Kept.drew)

set_option maxRecDepth 100000 in
set_option maxHeartbeats 4000000 in
theorem f_Size_s  : Pure Try.prog 89 #[.int .u8 1] (.int .i64 8) := fun w => by

  go_enter Try.func89, Try.ntmps89
  go_wp2_with fail
  refine bodyPost_ret (v := .int .i64 8) (by simp [results, Try.results89, go_sem, *]) rfl ⟨rfl, ?_⟩
  repeat (first | exact Kept.refl _ | (refine Kept.setCell ?_ (kept_side (by first | assumption | omega)) _) | apply Kept.alloc | apply Kept.drew)

set_option maxRecDepth 100000 in
set_option maxHeartbeats 4000000 in
theorem f_Size_l  : Pure Try.prog 89 #[.int .u8 2] (.int .i64 16) := fun w => by

  go_enter Try.func89, Try.ntmps89
  go_wp2_with fail
  refine bodyPost_ret (v := .int .i64 16) (by simp [results, Try.results89, go_sem, *]) rfl ⟨rfl, ?_⟩
  repeat (first | exact Kept.refl _ | (refine Kept.setCell ?_ (kept_side (by first | assumption | omega)) _) | apply Kept.alloc | apply Kept.drew)

set_option maxRecDepth 100000 in
set_option maxHeartbeats 4000000 in
theorem f_Size_n (f : Int) (h1b : (f == 1) = false) (h2b : (f == 2) = false) : Pure Try.prog 89 #[.int .u8 f] (.int .i64 0) := fun w => by

  go_enter Try.func89, Try.ntmps89
  go_wp2_with fail
  refine bodyPost_ret (v := .int .i64 0) (by simp [results, Try.results89, go_sem, *]) rfl ⟨rfl, ?_⟩
  repeat (first | exact Kept.refl _ | (refine Kept.setCell ?_ (kept_side (by first | assumption | omega)) _) | apply Kept.alloc | apply Kept.drew)

set_option maxRecDepth 100000 in
set_option maxHeartbeats 4000000 in
theorem f_Valid_s  : Pure Try.prog 108 #[.int .u8 1] (.bool true) := fun w => by

  go_enter Try.func108, Try.ntmps108
  go_wp2_with fail
  refine bodyPost_ret (v := .bool true) (by simp [results, Try.results108, go_sem, *]) rfl ⟨rfl, ?_⟩
  repeat (first | exact Kept.refl _ | (refine Kept.setCell ?_ (kept_side (by first | assumption | omega)) _) | apply Kept.alloc | apply Kept.drew)

set_option maxRecDepth 100000 in
set_option maxHeartbeats 4000000 in
theorem f_Valid_l  : Pure Try.prog 108 #[.int .u8 2] (.bool true) := fun w => by

  go_enter Try.func108, Try.ntmps108
  go_wp2_with fail
  refine bodyPost_ret (v := .bool true) (by simp [results, Try.results108, go_sem, *]) rfl ⟨rfl, ?_⟩
  repeat (first | exact Kept.refl _ | (refine Kept.setCell ?_ (kept_side (by first | assumption | omega)) _) | apply Kept.alloc | apply Kept.drew)

set_option maxRecDepth 100000 in
set_option maxHeartbeats 4000000 in
theorem f_Valid_n (f : Int) (h1b : (f == 1) = false) (h2b : (f == 2) = false) : Pure Try.prog 108 #[.int .u8 f] (.bool false) := fun w => by

  go_enter Try.func108, Try.ntmps108
  go_wp2_with fail
  refine bodyPost_ret (v := .bool false) (by simp [results, Try.results108, go_sem, *]) rfl ⟨rfl, ?_⟩
  repeat (first | exact Kept.refl _ | (refine Kept.setCell ?_ (kept_side (by first | assumption | omega)) _) | apply Kept.alloc | apply Kept.drew)

set_option maxRecDepth 100000 in
set_option maxHeartbeats 4000000 in
theorem f_Roots_s  : Pure Try.prog 84 #[.int .u8 1] (.int .i64 32) := fun w => by

  go_enter Try.func84, Try.ntmps84
  go_wp2_with fail
  refine bodyPost_ret (v := .int .i64 32) (by simp [results, Try.results84, go_sem, *]) rfl ⟨rfl, ?_⟩
  repeat (first | exact Kept.refl _ | (refine Kept.setCell ?_ (kept_side (by first | assumption | omega)) _) | apply Kept.alloc | apply Kept.drew)

set_option maxRecDepth 100000 in
set_option maxHeartbeats 4000000 in
theorem f_Roots_l  : Pure Try.prog 84 #[.int .u8 2] (.int .i64 66) := fun w => by

  go_enter Try.func84, Try.ntmps84
  go_wp2_with fail
  refine bodyPost_ret (v := .int .i64 66) (by simp [results, Try.results84, go_sem, *]) rfl ⟨rfl, ?_⟩
  repeat (first | exact Kept.refl _ | (refine Kept.setCell ?_ (kept_side (by first | assumption | omega)) _) | apply Kept.alloc | apply Kept.drew)

set_option maxRecDepth 100000 in
set_option maxHeartbeats 4000000 in
theorem f_Roots_n (f : Int) (h1b : (f == 1) = false) (h2b : (f == 2) = false) : Pure Try.prog 84 #[.int .u8 f] (.int .i64 0) := fun w => by

  go_enter Try.func84, Try.ntmps84
  go_wp2_with fail
  refine bodyPost_ret (v := .int .i64 0) (by simp [results, Try.results84, go_sem, *]) rfl ⟨rfl, ?_⟩
  repeat (first | exact Kept.refl _ | (refine Kept.setCell ?_ (kept_side (by first | assumption | omega)) _) | apply Kept.alloc | apply Kept.drew)

set_option maxRecDepth 100000 in
set_option maxHeartbeats 4000000 in
theorem f_Inv_s (a0 a1 n e : Int) (hG : Pure Try.prog 41 #[.int .u64 a0] (.tuple #[.int .u64 n, .int .i64 e])) : Pure Try.prog 98 #[.int .u8 1, .agg #[.int .u64 a0, .int .u64 a1]] (.tuple #[.agg #[.int .u64 n, .int .u64 0], .int .i64 e]) := fun w => by
  have HG := Lib.hid hG
  clear hG
  go_enter Try.func98, Try.ntmps98
  go_wp2_with fail
  refine abs_calls (fun W => Kept w W ∧ Blk W (w.heap.size) 28 #[.int .u64 a0, .int .u64 a1] ∧ Blk W (w.heap.size + 1) 28 #[.int .u64 0, .int .u64 0]) ?_ ?_
  · refine ⟨?_, ?_, ?_⟩
    · repeat (first | exact Kept.refl _ | (refine Kept.setCell ?_ (kept_side (by first | assumption | omega)) _) | apply Kept.alloc | apply Kept.drew)
    · simp [Blk, *] <;> (intros; omega)
    · simp [Blk, *] <;> (intros; omega)
  rintro W1 ⟨kW1, BW1_0, BW1_1⟩
  have cW1_0_0 : W1.cell? ⟨w.heap.size, 0, none⟩ = some (.int .u64 a0) := BW1_0.cell 0 rfl
  have cW1_0_1 : W1.cell? ⟨w.heap.size, 1, none⟩ = some (.int .u64 a1) := BW1_0.cell 1 rfl
  have fW1_0 := BW1_0.free
  have cW1_1_0 : W1.cell? ⟨w.heap.size + 1, 0, none⟩ = some (.int .u64 0) := BW1_1.cell 0 rfl
  have cW1_1_1 : W1.cell? ⟨w.heap.size + 1, 1, none⟩ = some (.int .u64 0) := BW1_1.cell 1 rfl
  have fW1_1 := BW1_1.free
  refine (HG.out _).mono ?_
  rintro e W2 ⟨rfl, hkW2⟩
  have kW2 := kW1.trans hkW2
  have BW2_0 := BW1_0.kept hkW2
  have BW2_1 := BW1_1.kept hkW2
  clear cW1_0_0 cW1_0_1 cW1_1_0 cW1_1_1 fW1_0 fW1_1 BW1_0 BW1_1 kW1 hkW2
  have cW2_0_0 : W2.cell? ⟨w.heap.size, 0, none⟩ = some (.int .u64 a0) := BW2_0.cell 0 rfl
  have cW2_0_1 : W2.cell? ⟨w.heap.size, 1, none⟩ = some (.int .u64 a1) := BW2_0.cell 1 rfl
  have fW2_0 := BW2_0.free
  have cW2_1_0 : W2.cell? ⟨w.heap.size + 1, 0, none⟩ = some (.int .u64 0) := BW2_1.cell 0 rfl
  have cW2_1_1 : W2.cell? ⟨w.heap.size + 1, 1, none⟩ = some (.int .u64 0) := BW2_1.cell 1 rfl
  have fW2_1 := BW2_1.free
  go_wp2_with fail
  refine bodyPost_ret (v := .tuple #[.agg #[.int .u64 n, .int .u64 0], .int .i64 e]) (by simp [results, Try.results98, go_sem, *]) rfl ⟨rfl, ?_⟩
  repeat (first | exact kW2 | (refine Kept.setCell ?_ (kept_side (by first | assumption | omega)) _) | apply Kept.alloc | apply Kept.drew)

set_option maxRecDepth 100000 in
set_option maxHeartbeats 4000000 in
theorem f_Inv_l (a0 a1 r0 r1 e : Int) (hG : Pure Try.prog 55 #[.agg #[.int .u64 a0, .int .u64 a1]] (.tuple #[.agg #[.int .u64 r0, .int .u64 r1], .int .i64 e])) : Pure Try.prog 98 #[.int .u8 2, .agg #[.int .u64 a0, .int .u64 a1]] (.tuple #[.agg #[.int .u64 r0, .int .u64 r1], .int .i64 e]) := fun w => by
  have HG := Lib.hid hG
  clear hG
  go_enter Try.func98, Try.ntmps98
  go_wp2_with fail
  refine abs_calls (fun W => Kept w W ∧ Blk W (w.heap.size) 28 #[.int .u64 a0, .int .u64 a1] ∧ Blk W (w.heap.size + 1) 28 #[.int .u64 0, .int .u64 0]) ?_ ?_
  · refine ⟨?_, ?_, ?_⟩
    · repeat (first | exact Kept.refl _ | (refine Kept.setCell ?_ (kept_side (by first | assumption | omega)) _) | apply Kept.alloc | apply Kept.drew)
    · simp [Blk, *] <;> (intros; omega)
    · simp [Blk, *] <;> (intros; omega)
  rintro W1 ⟨kW1, BW1_0, BW1_1⟩
  have cW1_0_0 : W1.cell? ⟨w.heap.size, 0, none⟩ = some (.int .u64 a0) := BW1_0.cell 0 rfl
  have cW1_0_1 : W1.cell? ⟨w.heap.size, 1, none⟩ = some (.int .u64 a1) := BW1_0.cell 1 rfl
  have fW1_0 := BW1_0.free
  have cW1_1_0 : W1.cell? ⟨w.heap.size + 1, 0, none⟩ = some (.int .u64 0) := BW1_1.cell 0 rfl
  have cW1_1_1 : W1.cell? ⟨w.heap.size + 1, 1, none⟩ = some (.int .u64 0) := BW1_1.cell 1 rfl
  have fW1_1 := BW1_1.free
  refine (HG.out _).mono ?_
  rintro e W2 ⟨rfl, hkW2⟩
  have kW2 := kW1.trans hkW2
  have BW2_0 := BW1_0.kept hkW2
  have BW2_1 := BW1_1.kept hkW2
  clear cW1_0_0 cW1_0_1 cW1_1_0 cW1_1_1 fW1_0 fW1_1 BW1_0 BW1_1 kW1 hkW2
  have cW2_0_0 : W2.cell? ⟨w.heap.size, 0, none⟩ = some (.int .u64 a0) := BW2_0.cell 0 rfl
  have cW2_0_1 : W2.cell? ⟨w.heap.size, 1, none⟩ = some (.int .u64 a1) := BW2_0.cell 1 rfl
  have fW2_0 := BW2_0.free
  have cW2_1_0 : W2.cell? ⟨w.heap.size + 1, 0, none⟩ = some (.int .u64 0) := BW2_1.cell 0 rfl
  have cW2_1_1 : W2.cell? ⟨w.heap.size + 1, 1, none⟩ = some (.int .u64 0) := BW2_1.cell 1 rfl
  have fW2_1 := BW2_1.free
  go_wp2_with fail
  refine bodyPost_ret (v := .tuple #[.agg #[.int .u64 r0, .int .u64 r1], .int .i64 e]) (by simp [results, Try.results98, go_sem, *]) rfl ⟨rfl, ?_⟩
  repeat (first | exact kW2 | (refine Kept.setCell ?_ (kept_side (by first | assumption | omega)) _) | apply Kept.alloc | apply Kept.drew)

set_option maxRecDepth 100000 in
set_option maxHeartbeats 4000000 in
theorem f_Inv_n (f : Int) (h1b : (f == 1) = false) (h2b : (f == 2) = false) (a0 a1 : Int) : Pure Try.prog 98 #[.int .u8 f, .agg #[.int .u64 a0, .int .u64 a1]] (.tuple #[.agg #[.int .u64 0, .int .u64 0], .int .i64 10]) := fun w => by

  go_enter Try.func98, Try.ntmps98
  go_wp2_with fail
  refine bodyPost_ret (v := .tuple #[.agg #[.int .u64 0, .int .u64 0], .int .i64 10]) (by simp [results, Try.results98, go_sem, *]) rfl ⟨rfl, ?_⟩
  repeat (first | exact Kept.refl _ | (refine Kept.setCell ?_ (kept_side (by first | assumption | omega)) _) | apply Kept.alloc | apply Kept.drew)

set_option maxRecDepth 100000 in
set_option maxHeartbeats 4000000 in
theorem f_Root_s (l n e : Int) (hG : Pure Try.prog 46 #[.int .i64 l] (.tuple #[.int .u64 n, .int .i64 e])) : Pure Try.prog 83 #[.int .u8 1, .int .i64 l] (.tuple #[.agg #[.int .u64 n, .int .u64 0], .int .i64 e]) := fun w => by
  have HG := Lib.hid hG
  clear hG
  go_enter Try.func83, Try.ntmps83
  go_wp2_with fail
  refine abs_calls (fun W => Kept w W ∧ Blk W (w.heap.size) 28 #[.int .u64 0, .int .u64 0]) ?_ ?_
  · refine ⟨?_, ?_⟩
    · repeat (first | exact Kept.refl _ | (refine Kept.setCell ?_ (kept_side (by first | assumption | omega)) _) | apply Kept.alloc | apply Kept.drew)
    · simp [Blk, *] <;> (intros; omega)
  rintro W1 ⟨kW1, BW1_0⟩
  have cW1_0_0 : W1.cell? ⟨w.heap.size, 0, none⟩ = some (.int .u64 0) := BW1_0.cell 0 rfl
  have cW1_0_1 : W1.cell? ⟨w.heap.size, 1, none⟩ = some (.int .u64 0) := BW1_0.cell 1 rfl
  have fW1_0 := BW1_0.free
  refine (HG.out _).mono ?_
  rintro e W2 ⟨rfl, hkW2⟩
  have kW2 := kW1.trans hkW2
  have BW2_0 := BW1_0.kept hkW2
  clear cW1_0_0 cW1_0_1 fW1_0 BW1_0 kW1 hkW2
  have cW2_0_0 : W2.cell? ⟨w.heap.size, 0, none⟩ = some (.int .u64 0) := BW2_0.cell 0 rfl
  have cW2_0_1 : W2.cell? ⟨w.heap.size, 1, none⟩ = some (.int .u64 0) := BW2_0.cell 1 rfl
  have fW2_0 := BW2_0.free
  go_wp2_with fail
  refine bodyPost_ret (v := .tuple #[.agg #[.int .u64 n, .int .u64 0], .int .i64 e]) (by simp [results, Try.results83, go_sem, *]) rfl ⟨rfl, ?_⟩
  repeat (first | exact kW2 | (refine Kept.setCell ?_ (kept_side (by first | assumption | omega)) _) | apply Kept.alloc | apply Kept.drew)

set_option maxRecDepth 100000 in
set_option maxHeartbeats 4000000 in
theorem f_Root_l (l r0 r1 e : Int) (hG : Pure Try.prog 68 #[.int .i64 l] (.tuple #[.agg #[.int .u64 r0, .int .u64 r1], .int .i64 e])) : Pure Try.prog 83 #[.int .u8 2, .int .i64 l] (.tuple #[.agg #[.int .u64 r0, .int .u64 r1], .int .i64 e]) := fun w => by
  have HG := Lib.hid hG
  clear hG
  go_enter Try.func83, Try.ntmps83
  go_wp2_with fail
  refine abs_calls (fun W => Kept w W ∧ Blk W (w.heap.size) 28 #[.int .u64 0, .int .u64 0]) ?_ ?_
  · refine ⟨?_, ?_⟩
    · repeat (first | exact Kept.refl _ | (refine Kept.setCell ?_ (kept_side (by first | assumption | omega)) _) | apply Kept.alloc | apply Kept.drew)
    · simp [Blk, *] <;> (intros; omega)
  rintro W1 ⟨kW1, BW1_0⟩
  have cW1_0_0 : W1.cell? ⟨w.heap.size, 0, none⟩ = some (.int .u64 0) := BW1_0.cell 0 rfl
  have cW1_0_1 : W1.cell? ⟨w.heap.size, 1, none⟩ = some (.int .u64 0) := BW1_0.cell 1 rfl
  have fW1_0 := BW1_0.free
  refine (HG.out _).mono ?_
  rintro e W2 ⟨rfl, hkW2⟩
  have kW2 := kW1.trans hkW2
  have BW2_0 := BW1_0.kept hkW2
  clear cW1_0_0 cW1_0_1 fW1_0 BW1_0 kW1 hkW2
  have cW2_0_0 : W2.cell? ⟨w.heap.size, 0, none⟩ = some (.int .u64 0) := BW2_0.cell 0 rfl
  have cW2_0_1 : W2.cell? ⟨w.heap.size, 1, none⟩ = some (.int .u64 0) := BW2_0.cell 1 rfl
  have fW2_0 := BW2_0.free
  go_wp2_with fail
  refine bodyPost_ret (v := .tuple #[.agg #[.int .u64 r0, .int .u64 r1], .int .i64 e]) (by simp [results, Try.results83, go_sem, *]) rfl ⟨rfl, ?_⟩
  repeat (first | exact kW2 | (refine Kept.setCell ?_ (kept_side (by first | assumption | omega)) _) | apply Kept.alloc | apply Kept.drew)

set_option maxRecDepth 100000 in
set_option maxHeartbeats 4000000 in
theorem f_Root_n (f : Int) (h1b : (f == 1) = false) (h2b : (f == 2) = false) (l : Int) : Pure Try.prog 83 #[.int .u8 f, .int .i64 l] (.tuple #[.agg #[.int .u64 0, .int .u64 0], .int .i64 10]) := fun w => by

  go_enter Try.func83, Try.ntmps83
  go_wp2_with fail
  refine bodyPost_ret (v := .tuple #[.agg #[.int .u64 0, .int .u64 0], .int .i64 10]) (by simp [results, Try.results83, go_sem, *]) rfl ⟨rfl, ?_⟩
  repeat (first | exact Kept.refl _ | (refine Kept.setCell ?_ (kept_side (by first | assumption | omega)) _) | apply Kept.alloc | apply Kept.drew)

end Go.Proofs.Ytnajihlhcdedgaa

namespace Go.Proofs.Ytnajihlhcdedgaa
open Go.RowKit
set_option linter.unusedVariables false

theorem rOf1' (a : Int) : rOf 1 a = a % 18446744073709551616 % gP := by unfold rOf; rw [if_pos rfl]
theorem E_nought : E 0 = .agg #[.int .u64 0, .int .u64 0] := E_small (by unfold is64; omega)
theorem E_one : E 1 = .agg #[.int .u64 1, .int .u64 0] := E_small (by unfold is64; omega)
theorem is128_0 : is128 0 := by unfold is128; omega
theorem is128_1 : is128 1 := by unfold is128; omega
theorem f_Add {f a b : Int} (hf : isF f) (ha : is128 a) (hb : is128 b) : Pure Try.prog 99 #[.int .u8 f, E a, E b] (E ((rOf f a + rOf f b) % rP f)) := by
  rcases hf with rfl | rfl
  · have h := f_Add_s (a % 18446744073709551616) (a / 18446744073709551616) (b % 18446744073709551616) (b / 18446744073709551616) _ (g_Add (is64_lo a) (is64_lo b)).pure
    refine Pure.to h ?_
    rw [rOf1', rOf1', rP1, ← Int.add_emod, E_small (is64_emod _)]
  · have h := f_Add_l (a % 18446744073709551616) (a / 18446744073709551616) (b % 18446744073709551616) (b / 18446744073709551616) _ _ (w_Add ha hb)
    refine Pure.to h ?_
    rw [rOf2, rOf2, rP2, ← Int.add_emod]
    rfl
theorem f_Sub {f a b : Int} (hf : isF f) (ha : is128 a) (hb : is128 b) : Pure Try.prog 100 #[.int .u8 f, E a, E b] (E ((rOf f a - rOf f b) % rP f)) := by
  rcases hf with rfl | rfl
  · have h := f_Sub_s (a % 18446744073709551616) (a / 18446744073709551616) (b % 18446744073709551616) (b / 18446744073709551616) _ (g_Sub (is64_lo a) (is64_lo b)).pure
    refine Pure.to h ?_
    rw [rOf1', rOf1', rP1, ← Int.sub_emod, E_small (is64_emod _)]
  · have h := f_Sub_l (a % 18446744073709551616) (a / 18446744073709551616) (b % 18446744073709551616) (b / 18446744073709551616) _ _ (w_Sub ha hb)
    refine Pure.to h ?_
    rw [rOf2, rOf2, rP2, ← Int.sub_emod]
    rfl
theorem f_Mul {f a b : Int} (hf : isF f) (ha : is128 a) (hb : is128 b) : Pure Try.prog 102 #[.int .u8 f, E a, E b] (E ((rOf f a * rOf f b) % rP f)) := by
  rcases hf with rfl | rfl
  · have h := f_Mul_s (a % 18446744073709551616) (a / 18446744073709551616) (b % 18446744073709551616) (b / 18446744073709551616) _ (g_Mul (is64_lo a) (is64_lo b)).pure
    refine Pure.to h ?_
    rw [rOf1', rOf1', rP1, ← Int.mul_emod, E_small (is64_emod _)]
  · have h := f_Mul_l (a % 18446744073709551616) (a / 18446744073709551616) (b % 18446744073709551616) (b / 18446744073709551616) _ _ (w_Mul ha hb)
    refine Pure.to h ?_
    rw [rOf2, rOf2, rP2, ← Int.mul_emod]
    rfl
theorem rOf_zero {f : Int} (hf : isF f) : rOf f 0 = 0 := by rcases hf with rfl | rfl <;> decide
theorem rOf_one {f : Int} (hf : isF f) : rOf f 1 = 1 := by rcases hf with rfl | rfl <;> decide
theorem f_Neg {f a : Int} (hf : isF f) (ha : is128 a) : Pure Try.prog 101 #[.int .u8 f, E a] (E ((-rOf f a) % rP f)) := by
  have h := f_Sub hf is128_0 ha
  rw [rOf_zero hf, Int.zero_sub, E_nought] at h
  exact f_Neg_r f (a % 18446744073709551616) (a / 18446744073709551616) _ _ h
theorem f_Pow {f a n : Int} (hf : isF f) (ha : is128 a) (hn : is64 n) : Pure Try.prog 103 #[.int .u8 f, E a, .int .u64 n] (E ((rOf f a ^ n.toNat) % rP f)) := by
  rcases hf with rfl | rfl
  · have h := f_Pow_s (a % 18446744073709551616) (a / 18446744073709551616) n _ (g_Pow (is64_lo a) hn).pure
    refine Pure.to h ?_
    rw [rOf1', rP1, emod_pow, E_small (is64_emod _)]
  · have h1 := w_Pow (n := n.toNat) ha (by rw [Int.toNat_of_nonneg hn.1]; exact is128_of64 hn)
    rw [Int.toNat_of_nonneg hn.1, E_small hn] at h1
    have h := f_Pow_l (a % 18446744073709551616) (a / 18446744073709551616) n _ _ h1
    refine Pure.to h ?_
    rw [rOf2, rP2, emod_pow]
    rfl
theorem f_Of {f n : Int} (hf : isF f) (hn : is64 n) : Pure Try.prog 104 #[.int .u8 f, .int .u64 n] (E (rOf f n)) := by
  rcases hf with rfl | rfl
  · refine Pure.to (f_Of_s n _ (g_Of hn).pure) ?_
    rw [rOf1 hn, E_small (is64_emod _)]
  · refine Pure.to (f_Of_l n) ?_
    rw [rOf2, show n % wP = n by unfold is64 at hn; unfold wP; omega, E_small hn]
theorem f_One {f : Int} (hf : isF f) : Pure Try.prog 105 #[.int .u8 f] (E 1) := by
  have h := f_Of (n := 1) hf (by unfold is64; omega)
  rw [rOf_one hf, E_one] at h
  rw [E_one]
  exact f_One_r f 1 0 h
theorem g_In {a : Int} : Pure Try.prog 34 #[.int .u64 a] (.bool (decide (a < gP))) := fun w => (gold_In a w).mono fun e w' ⟨h1, h2⟩ => ⟨h1, h2 ▸ Kept.refl w⟩
theorem f_In {f a : Int} (hf : isF f) (ha : is128 a) : Pure Try.prog 106 #[.int .u8 f, E a] (.bool (decide (a < rP f))) := by
  rcases hf with rfl | rfl
  · by_cases h1 : a / 18446744073709551616 = 0
    · have h := f_In_s (a % 18446744073709551616) _ g_In
      have e : E a = .agg #[.int .u64 (a % 18446744073709551616), .int .u64 0] := by unfold E; rw [h1]
      rw [e]
      refine Pure.to h ?_
      rw [rP1, show a % 18446744073709551616 = a by unfold is128 at ha; omega]
    · have h := f_In_s0 (a % 18446744073709551616) (a / 18446744073709551616) (by simp [h1])
      refine Pure.to h ?_
      rw [rP1, decide_eq_false (by unfold is128 at ha; unfold gP; omega)]
  · refine Pure.to (f_In_l (a % 18446744073709551616) (a / 18446744073709551616) _ (w_In ha)) ?_
    rw [rP2]
theorem f_Size {f : Int} (hf : isF f) : Pure Try.prog 89 #[.int .u8 f] (.int .i64 (8 * f)) := by
  rcases hf with rfl | rfl
  · exact f_Size_s
  · exact f_Size_l
theorem f_Valid {f : Int} (hf : isF f) : Pure Try.prog 108 #[.int .u8 f] (.bool true) := by
  rcases hf with rfl | rfl
  · exact f_Valid_s
  · exact f_Valid_l
theorem f_Inv {f a : Int} (hf : isF f) (ha : is128 a) (h : rOf f a ≠ 0) : ∃ y, 0 ≤ y ∧ y < rP f ∧ rOf f a * y % rP f = 1 ∧ Pure Try.prog 98 #[.int .u8 f, E a] (.tuple #[E y, .int .i64 0]) := by
  rcases hf with rfl | rfl
  · rw [rOf1'] at h ⊢
    rw [rP1]
    have hl := is64_lo a
    have hp := g_Pow (n := 18446744069414584319) hl (by unfold is64; omega)
    rw [show Int.toNat 18446744069414584319 = eG from rfl] at hp
    have hf := fermat_goldI _ hl.1 h
    have hR : isG ((a % 18446744073709551616) ^ eG % gP) := isG_emod _
    rw [Int.mul_emod] at hf
    generalize (a % 18446744073709551616) ^ eG % gP = R at *
    refine ⟨R, hR.1, hR.2, ?_, ?_⟩
    · rw [Int.mul_emod, Int.emod_emod]; exact hf
    · rw [E_small hR.is64]
      exact f_Inv_s _ _ _ _ (gold_Inv_yes _ _ R (by simp [h]) (g_Of hl) hp).pure
  · rw [rOf2] at h ⊢
    rw [rP2]
    have hf := fermat_wideI a ha.1 h
    have h0 := Int.emod_nonneg (a ^ eW) (b := wP) (by unfold wP; omega)
    have h1 := Int.emod_lt_of_pos (a ^ eW) (b := wP) (by unfold wP; omega)
    have hi := w_Inv ha h
    generalize a ^ eW % wP = R at *
    refine ⟨R, h0, h1, ?_, f_Inv_l _ _ _ _ _ hi⟩
    rw [Int.mul_emod, Int.emod_emod, ← Int.mul_emod]; exact hf
theorem f_Inv_no {f a : Int} (hf : isF f) (ha : is128 a) (h : rOf f a = 0) : Pure Try.prog 98 #[.int .u8 f, E a] (.tuple #[E 0, .int .i64 8]) := by
  rw [E_nought]
  rcases hf with rfl | rfl
  · rw [rOf1'] at h
    exact f_Inv_s _ _ _ _ (g_Inv_no (is64_lo a) h).pure
  · rw [rOf2] at h
    exact f_Inv_l _ _ _ _ _ (w_Inv_nought ha h)
end Go.Proofs.Ytnajihlhcdedgaa

namespace Go.Proofs.Ytnajihlhcdedgaa
open Go.RowKit
set_option linter.unusedVariables false
set_option linter.unusedSimpArgs false

/-- A slice whose cells lie in blocks below N reads as the elements of the halves C0 0, C1 0; C0 1, C1 1; .. -/
structure SlE (w : World) (a : Option Addr) (n cap N : Nat) (C0 C1 : Nat → Int) : Prop where
  at' : ∀ j, j < n → ∃ p : Addr, (∀ w', (Instr.indexAt 90 (.slice a n cap) (.int .i64 (j : Int))).run Try.prog w' = .ok (.pointer (some p)) w') ∧ w.cell? p = some (.int .u64 (C0 j)) ∧ w.cell? (p.add 1) = some (.int .u64 (C1 j)) ∧ p.block < N
theorem SlE.kept {w w' : World} {a : Option Addr} {n cap N : Nat} {C0 C1 : Nat → Int} (h : SlE w a n cap N C0 C1) (k : Kept w w') : SlE w' a n cap N C0 C1 :=
  ⟨fun j hj => let ⟨p, h1, h2, h3, h4⟩ := h.at' j hj; ⟨p, h1, k.cell h2, k.cell h3, h4⟩⟩
theorem SlE.mono {w : World} {a : Option Addr} {n cap N M : Nat} {C0 C1 : Nat → Int} (h : SlE w a n cap N C0 C1) (hM : N ≤ M) : SlE w a n cap M C0 C1 :=
  ⟨fun j hj => let ⟨p, h1, h2, h3, h4⟩ := h.at' j hj; ⟨p, h1, h2, h3, Nat.lt_of_lt_of_le h4 hM⟩⟩
theorem SlE.congr {w : World} {a : Option Addr} {n cap N : Nat} {C0 C1 D0 D1 : Nat → Int} (h : SlE w a n cap N C0 C1) (h0 : ∀ j, j < n → C0 j = D0 j) (h1 : ∀ j, j < n → C1 j = D1 j) : SlE w a n cap N D0 D1 :=
  ⟨fun j hj => let ⟨p, e1, e2, e3, e4⟩ := h.at' j hj; ⟨p, e1, by rw [← h0 j hj]; exact e2, by rw [← h1 j hj]; exact e3, e4⟩⟩

theorem size28 : (Try.prog.info? 28).map (fun i => i.size) = some 2 := by kernel_rfl
theorem run_loadVar28 (w : World) (p : Addr) {c0 c1 : Value} (h0 : w.cell? p = some c0) (h1 : w.cell? (p.add 1) = some c1) : (loadVar 28 p).run Try.prog w = .ok (.agg #[c0, c1]) w := by
  have hl : (loadCells p 2).run Try.prog w = .ok #[c0, c1] w := run_loadCells_list (P := Try.prog) w p [c0, c1] (fun j v hv => by
    match j, hv with
    | 0, hv => simp at hv; subst hv; simpa [Addr.add] using h0
    | 1, hv => simp at hv; subst hv; exact h1)
  cases hq : Try.prog.info? 28 with
  | none => have := size28; simp [hq] at this
  | some i =>
    have hs : i.size = 2 := by have := size28; simpa [hq] using this
    have hagg : (isAgg 28).run Try.prog w = .ok true w := by
      unfold isAgg
      rw [Sem.run_bind, run_underlying Try.underlying28 w]
      rfl
    simp [loadVar, Sem.run_bind, hagg, sizeOf, typeInfo, hq, hs, hl]
/-- An element is read. -/
theorem calm_load_elem {a : Act} {w : World} {o : Oper} (x : Operand) {p : Addr} {c0 c1 : Value} (h0 : w.cell? p = some c0) (h1 : w.cell? (p.add 1) = some c1) (ho : o.op = .load 28 x) (hx : a.eval x = .pointer (some p)) : calm Try.prog o a w (.agg #[c0, c1]) :=
  calm_run _ fun w' hk => by
    obtain ⟨dst, op, type, pos, after, guard⟩ := o
    simp only at ho
    subst ho
    simp only [execOp, hx, Instr.loadAt, Instr.sureAddr, Sem.run_bind, Sem.run_pure, Result.andThen_ok, run_loadVar28 w' p (hk.cell h0) (hk.cell h1)]
theorem wpList_load_elem {ops : Array Oper} {rest : List Oper} {o : Oper} {a : Act} {w : World} {Q : Exit → Act → World → Prop} (x : Operand) {p : Addr} {c0 c1 : Value} (h0 : w.cell? p = some c0) (h1 : w.cell? (p.add 1) = some c1)
    (hgd : o.guard = none) (ho : o.op = .load 28 x) (hx : a.eval x = .pointer (some p))
    (h : wpList Try.prog ops Q rest (a.put o.dst (.agg #[c0, c1])) w) : wpList Try.prog ops Q (o :: rest) a w := by
  refine wpList_plain hgd fun _ hK => ?_
  unfold Oper.wp execOp
  simp only [ho, hx, Instr.loadAt, Instr.sureAddr, Sem.run_bind, Sem.run_pure, Result.andThen_ok, run_loadVar28 w p h0 h1]
  exact hK _ _ h

theorem info28 : (Try.prog.info? 28).map (fun i => (i.zero, i.size, i.bytes)) = some (some (.agg #[.int .u64 0, .int .u64 0]), 2, 16) := by kernel_rfl
theorem run_index_at90 {ad : Addr} {n cap j : Nat} (hj : j < n) (w : World) :
    (Instr.indexAt 90 (.slice (some ad) n cap) (.int .i64 (j : Int))).run Try.prog w = .ok (.pointer (some (ad.add (j * 2)))) w := by
  cases hq : Try.prog.info? 28 with
  | none => have := size28; simp [hq] at this
  | some i =>
    have hs : i.size = 2 := by have := size28; simpa [hq] using this
    have h1 : (0 : Int) ≤ (j : Int) := by omega
    have h2 : (j : Int) < (n : Int) := by omega
    simp [Instr.indexAt, run_underlying Try.underlying90, asIntOf, sizeOf, typeInfo, hq, hs, hj]
/-- The cells of a row of elements. -/
def elemC (C0 C1 : Nat → Int) (c : Nat) : Int := if c % 2 = 0 then C0 (c / 2) else C1 (c / 2)
theorem elemC_0 (C0 C1 : Nat → Int) (j : Nat) : elemC C0 C1 (j * 2) = C0 j := by
  unfold elemC
  rw [if_pos (by omega), show j * 2 / 2 = j by omega]
theorem elemC_1 (C0 C1 : Nat → Int) (j : Nat) : elemC C0 C1 (j * 2 + 1) = C1 j := by
  unfold elemC
  rw [if_neg (by omega), show (j * 2 + 1) / 2 = j by omega]
theorem SlE.of_blk {w : World} {g n cap m : Nat} {t : TypeId} {C0 C1 : Nat → Int} (B : Blk w g t (rowF m (fun c => .int .u64 (elemC C0 C1 c)))) (hm : n * 2 ≤ m) : SlE w (some ⟨g, 0, none⟩) n cap (g + 1) C0 C1 :=
  ⟨fun j hj => by
    have a0 : (⟨g, 0, none⟩ : Addr).add (j * 2) = ⟨g, j * 2, none⟩ := by rw [Addr.add_lit]; simp
    refine ⟨⟨g, j * 2, none⟩, fun w' => by rw [run_index_at90 hj w', a0], ?_, ?_, Nat.lt_succ_self g⟩
    · have := B.at (i := j * 2) (by omega)
      rw [elemC_0] at this
      exact this
    · have := B.at (i := j * 2 + 1) (by omega)
      rw [elemC_1] at this
      rw [Addr.add_lit]
      exact this⟩
theorem makes_zero2 (n : Nat) : madeCells (Value.agg #[.int .u64 0, .int .u64 0]).cells (n * 2) = rowF (n * 2) (fun _ => .int .u64 0) := by
  unfold madeCells rowF
  apply Array.ext'
  apply List.ext_getElem?
  intro i
  simp only [Array.toList_map, List.getElem?_map, Array.toList_range]
  rcases Nat.lt_or_ge i (n * 2) with h | h
  · rw [List.getElem?_range h]
    have h2 : i % 2 = 0 ∨ i % 2 = 1 := by omega
    rcases h2 with h2 | h2 <;> simp [Value.cells, h2]
  · rw [List.getElem?_eq_none (by simpa using h)]
    rfl
theorem makefull90 (c : Nat) (h63 : (c : Int) ≤ 4096) (w : World) : (Instr.makeSlice 90 (.int .i64 (c : Int)) (.int .i64 (c : Int))).run Try.prog w = .ok (.slice (some ⟨w.heap.size, 0, none⟩) c c) (w.alloc (.cells (rowF (c * 2) (fun _ => .int .u64 0)) 28)) := by
  obtain ⟨i, hi, hz0, hz1, hz2⟩ := info_parts info28
  have hr := run_make (P := Try.prog) w 90 28 i _ Try.underlying90 hi hz0 .i64 .i64 c c (by omega) (by omega) (by rw [hz2]; omega) (by omega)
  simp only [Int.toNat_natCast] at hr
  rw [hr, hz1, makes_zero2]

set_option maxRecDepth 100000 in
set_option maxHeartbeats 4000000 in
theorem f_pair_long (v : Value) (a : Option Addr) (n cap : Nat) (b : Option Addr) (m capb : Nat) (hnm : n ≠ m) (h1 : (n : Int) ≤ 9223372036854775807) (h2 : (m : Int) ≤ 9223372036854775807) : Pure Try.prog 132 #[.slice a n cap, .slice b m capb, v] (.tuple #[.slice none 0 0, .int .i64 9]) := fun w => by
  have hne : (n : Int) ≠ (m : Int) := by omega
  go_enter Try.func132, Try.ntmps132
  go_wp2_with fail
  go_ret2
  exact ⟨rfl, Kept.refl w⟩

theorem enters99 (args : Array Value) (w : World) : (callFunc 99 args).run Try.prog w = .ok (.enter 99 args) w := by go_simp
theorem enters100 (args : Array Value) (w : World) : (callFunc 100 args).run Try.prog w = .ok (.enter 100 args) w := by go_simp
theorem enters102 (args : Array Value) (w : World) : (callFunc 102 args).run Try.prog w = .ok (.enter 102 args) w := by go_simp
set_option maxRecDepth 100000 in
set_option maxHeartbeats 4000000 in
theorem f_pair (w : World) (G : FuncId) (hcf : ∀ args w, (callFunc G args).run Try.prog w = .ok (.enter G args) w) (f : Int) (a : Option Addr) (n cap N : Nat) (b : Option Addr) (capb : Nat) (A0 A1 B0 B1 R0 R1 : Nat → Int) (hn : n ≤ 4096) (hA : SlE w a n cap N A0 A1) (hB : SlE w b n capb N B0 B1)
    (hG : Hid (∀ j, j < n → Pure Try.prog G #[.int .u8 f, .agg #[.int .u64 (A0 j), .int .u64 (A1 j)], .agg #[.int .u64 (B0 j), .int .u64 (B1 j)]] (.agg #[.int .u64 (R0 j), .int .u64 (R1 j)]))) :
    Calls Try.prog 132 #[.slice a n cap, .slice b n capb, .func (.func G) #[.int .u8 f] #[]] w fun e w' => ∃ g, e = .returned (.tuple #[.slice (some ⟨g, 0, none⟩) n n, .int .i64 0]) ∧ w.heap.size ≤ g ∧ Kept w w' ∧ Blk w' g 28 (rowF (n * 2) (fun c => .int .u64 (elemC R0 R1 c))) := by
  obtain ⟨g, hg⟩ : ∃ g, w.heap.size = g := ⟨_, rfl⟩
  have hmk := makefull90 n (by omega) w
  rw [hg] at hmk
  have hnn : (n : Int) ≤ 4096 := by omega
  go_enter Try.func132, Try.ntmps132
  go_upto_region 4 with (fail)
  refine abs_world (fun W => Kept w W ∧ Blk W g 28 (rowF (n * 2) (fun c => .int .u64 (if c < 0 * 2 then elemC R0 R1 c else 0)))) ⟨(Kept.refl w).alloc _, by rw [← hg]; exact Blk.new _ _ _⟩ ?_
  clear hmk
  rintro W1 ⟨k1, B1'⟩
  have nw : w.heap.size ≤ g := by omega
  go_wp2_with fail
  go_loopw [20] (fun t wr => ∃ i : Nat, i ≤ n ∧ t = .int .i64 i ∧ Kept w wr ∧ Blk wr g 28 (rowF (n * 2) (fun c => .int .u64 (if c < i * 2 then elemC R0 R1 c else 0)))) (fun t _ => n - (intOf t).toNat)
  case atStart => exact ⟨0, Nat.zero_le _, rfl, k1, B1'⟩
  case round =>
    clear k1 B1'
    obtain ⟨i, hi, rfl, k, B⟩ := hrel
    have zi : (0 : Int) ≤ (i : Int) := by omega
    rcases Nat.lt_or_ge i n with hlt | hge
    · have yi : (i : Int) < (n : Int) := by omega
      obtain ⟨p, hip, cp0, cp1, _⟩ := (hA.kept k).at' i hlt
      obtain ⟨q, hiq, cq0, cq1, _⟩ := (hB.kept k).at' i hlt
      have HG := Lib.hid (hG.out i hlt)
      have HR : Hid (∀ c, c < n * 2 → (if c < (i + 1) * 2 then elemC R0 R1 c else 0) = if c = i * 2 + 1 then R1 i else if c = i * 2 then R0 i else if c < i * 2 then elemC R0 R1 c else 0) := Lib.hid fun c hc => by
        by_cases h1 : c = i * 2 + 1
        · subst h1; rw [if_pos (by omega), if_pos rfl, elemC_1]
        · by_cases h2 : c = i * 2
          · subst h2; rw [if_pos (by omega), if_neg (by omega), if_pos rfl, elemC_0]
          · rw [if_neg h1, if_neg h2]
            by_cases h3 : c < i * 2
            · rw [if_pos (by omega), if_pos h3]
            · rw [if_neg (by omega), if_neg h3]
      generalize R0 i = r0 at HG HR
      generalize R1 i = r1 at HG HR
      generalize A0 i = a0 at *
      generalize A1 i = a1 at *
      generalize B0 i = b0 at *
      generalize B1 i = b1 at *
      go_upto_region 7 with (fail)
      refine wp_region_calm 13 (by kernel_rfl) (by kernel_rfl) ?_
      simp only [List.take_succ_cons, List.take_zero, List.drop_succ_cons, List.drop_zero]
      repeat (first
        | (refine calm_skip rfl ?_; simp only [Act.put, List.setIfInBounds_toArray, List.set_cons_zero, List.set_cons_succ])
        | (refine calm_step _ rfl (calm_load_elem (.tmp 28) cp0 cp1 rfl rfl) ?_; simp only [Act.put, List.setIfInBounds_toArray, List.set_cons_zero, List.set_cons_succ])
        | (refine calm_step _ rfl (calm_load_elem (.tmp 32) cq0 cq1 rfl rfl) ?_; simp only [Act.put, List.setIfInBounds_toArray, List.set_cons_zero, List.set_cons_succ])
        | (refine calm_ex rfl ?_; apply Exists.intro; refine And.intro (fun w' hk => ?_) ?_; (focus (have q0 := hk.cell cp0; have q1 := hk.cell cp1; have q2 := hk.cell cq0; have q3 := hk.cell cq1; clear hk; go_simp; exact rfl)); simp only [Act.put, List.setIfInBounds_toArray, List.set_cons_zero, List.set_cons_succ])
        | (refine calm_step _ rfl (HG.out.call ?_) ?_; (focus (intro w'; go_simp; done)); simp only [Act.put, List.setIfInBounds_toArray, List.set_cons_zero, List.set_cons_succ]))
      refine calm_nil ?_
      intro W2 hkW2
      have k2 := k.trans hkW2
      have B2 := B.kept hkW2
      clear cp0 cp1 cq0 cq1 k B hkW2
      have cl0 := B2.at (i := i * 2) (by omega)
      have cl1 := B2.at (i := i * 2 + 1) (by omega)
      have fr := B2.free
      go_wp2_with fail
      go_roundw
      case rel =>
        refine ⟨i + 1, by omega, by go_num, (k2.setCell (kept_side nw) _).setCell (kept_side nw) _, ?_⟩
        refine (B2.set (g := fun c => .int .u64 (if c = i * 2 then r0 else if c < i * 2 then elemC R0 R1 c else 0)) (by omega) fun c hc => ?_).set (by omega) fun c hc => ?_
        · split <;> rfl
        · rw [HR.out c hc]; split <;> rfl
      case measure => simp [intOf]; omega
    · have yi : (n : Int) ≤ (i : Int) := by omega
      obtain rfl : i = n := by omega
      have B9 : Blk wr g 28 (rowF (i * 2) (fun c => .int .u64 (elemC R0 R1 c))) := by rw [rowF_congr (g := fun c => Value.int .u64 (if c < i * 2 then elemC R0 R1 c else 0)) fun c hc => by rw [if_pos hc]]; exact B
      go_wp2_with fail
      go_ret2
      exact ⟨g, rfl, by omega, k, B9⟩
end Go.Proofs.Ytnajihlhcdedgaa

namespace Go.Proofs.Ytnajihlhcdedgaa
open Go.RowKit
set_option linter.unusedVariables false
set_option linter.unusedSimpArgs false
attribute [local simp] blkAt_setCell blkAt_alloc blkAt_drew Obj.put_cells

set_option maxRecDepth 100000 in
set_option maxHeartbeats 4000000 in
theorem f_Sum_r (w : World) (f : Int) (a : Option Addr) (n cap N : Nat) (C0 C1 S0 S1 : Nat → Int) (hn : n ≤ 4096) (hA : SlE w a n cap N C0 C1) (h00 : S0 0 = 0) (h01 : S1 0 = 0)
    (HG : Hid (∀ j, j < n → Pure Try.prog 99 #[.int .u8 f, .agg #[.int .u64 (S0 j), .int .u64 (S1 j)], .agg #[.int .u64 (C0 j), .int .u64 (C1 j)]] (.agg #[.int .u64 (S0 (j + 1)), .int .u64 (S1 (j + 1))]))) :
    Calls Try.prog 82 #[.int .u8 f, .slice a n cap] w fun e w' => e = .returned (.agg #[.int .u64 (S0 n), .int .u64 (S1 n)]) ∧ Kept w w' := by
  go_enter Try.func82, Try.ntmps82
  go_wp2_with fail
  refine abs_world (fun W => Kept w W ∧ Blk W (w.heap.size) 28 #[.int .u64 0, .int .u64 0] ∧ Blk W (w.heap.size + 1) 28 #[.int .u64 0, .int .u64 0]) ?_ ?_
  · refine ⟨?_, ?_, ?_⟩
    · repeat (first | exact Kept.refl _ | (refine Kept.setCell ?_ (kept_side (by first | assumption | omega)) _) | apply Kept.alloc | apply Kept.drew)
    · simp [Blk, *] <;> (intros; omega)
    · simp [Blk, *] <;> (intros; omega)
  rintro W1 ⟨kW1, BW1_0, BW1_1⟩
  have cW1_0_0 : W1.cell? ⟨w.heap.size, 0, none⟩ = some (.int .u64 0) := BW1_0.cell 0 rfl
  have cW1_0_1 : W1.cell? ⟨w.heap.size, 1, none⟩ = some (.int .u64 0) := BW1_0.cell 1 rfl
  have fW1_0 := BW1_0.free
  have cW1_1_0 : W1.cell? ⟨w.heap.size + 1, 0, none⟩ = some (.int .u64 0) := BW1_1.cell 0 rfl
  have cW1_1_1 : W1.cell? ⟨w.heap.size + 1, 1, none⟩ = some (.int .u64 0) := BW1_1.cell 1 rfl
  have fW1_1 := BW1_1.free
  have hz2 : w.heap.size + 1 + 1 ≤ W1.heap.size := by have := BW1_1.lt; omega
  go_loopw [10] (fun t wr => ∃ i : Nat, i ≤ n ∧ t = .int .i64 i ∧ Kept w wr ∧ Blk wr (w.heap.size) 28 #[.int .u64 0, .int .u64 0] ∧ Blk wr (w.heap.size + 1) 28 #[.int .u64 (S0 i), .int .u64 (S1 i)]) (fun t _ => n - (intOf t).toNat)
  case atStart => exact ⟨0, Nat.zero_le _, rfl, kW1, BW1_0, by rw [h00, h01]; exact BW1_1⟩
  case round =>
    obtain ⟨i, hi, rfl, kwr, Bwr_0, Bwr_1⟩ := hrel
    clear cW1_0_0 cW1_0_1 cW1_1_0 cW1_1_1 fW1_0 BW1_0 fW1_1 BW1_1 kW1 hz2
    have zi : (0 : Int) ≤ (i : Int) := by omega
    rcases Nat.lt_or_ge i n with hlt | hge
    · have yi : (i : Int) < (n : Int) := by omega
      obtain ⟨p, hip, cp0, cp1, _⟩ := (hA.kept kwr).at' i hlt
      have HGi := Lib.hid (HG.out i hlt)
      generalize C0 i = c0 at *
      generalize C1 i = c1 at *
      generalize S0 i = s0 at *
      generalize S1 i = s1 at *
      have HS0 : Hid (S0 (i + 1) = S0 (i + 1)) := Lib.hid rfl
      obtain ⟨s2, hs2⟩ : ∃ x, S0 (i + 1) = x := ⟨_, rfl⟩
      obtain ⟨s3, hs3⟩ : ∃ x, S1 (i + 1) = x := ⟨_, rfl⟩
      rw [hs2, hs3] at HGi
      have HS2 := Lib.hid hs2
      have HS3 := Lib.hid hs3
      clear hs2 hs3 HS0
      have cwr_0_0 : wr.cell? ⟨w.heap.size, 0, none⟩ = some (.int .u64 0) := Bwr_0.cell 0 rfl
      have cwr_0_1 : wr.cell? ⟨w.heap.size, 1, none⟩ = some (.int .u64 0) := Bwr_0.cell 1 rfl
      have fwr_0 := Bwr_0.free
      have cwr_1_0 : wr.cell? ⟨w.heap.size + 1, 0, none⟩ = some (.int .u64 s0) := Bwr_1.cell 0 rfl
      have cwr_1_1 : wr.cell? ⟨w.heap.size + 1, 1, none⟩ = some (.int .u64 s1) := Bwr_1.cell 1 rfl
      have fwr_1 := Bwr_1.free
      obtain ⟨g7, hg7⟩ : ∃ b, wr.heap.size = b := ⟨_, rfl⟩
      have neg7_0 : w.heap.size ≠ g7 := by have := Bwr_0.lt; omega
      have eng7_0 : g7 ≠ w.heap.size := neg7_0.symm
      have neg7_1 : w.heap.size + 1 ≠ g7 := by have := Bwr_1.lt; omega
      have eng7_1 : g7 ≠ w.heap.size + 1 := neg7_1.symm
      have log7 : w.heap.size ≤ g7 := hg7 ▸ kwr.size
      go_upto_region 5 with (refine wpList_load_elem (.tmp 12) cp0 cp1 rfl rfl rfl ?_)
      clear cp0 cp1
      refine abs_world (fun W => Kept w W ∧ Blk W (w.heap.size) 28 #[.int .u64 0, .int .u64 0] ∧ Blk W (w.heap.size + 1) 28 #[.int .u64 s0, .int .u64 s1] ∧ Blk W (g7) 28 #[.int .u64 c0, .int .u64 c1]) ?_ ?_
      · refine ⟨?_, ?_, ?_, ?_⟩
        · repeat (first | exact kwr | (refine Kept.setCell ?_ (kept_side (by first | assumption | omega)) _) | apply Kept.alloc | apply Kept.drew)
        · simp [Blk, *] <;> (intros; omega)
        · simp [Blk, *] <;> (intros; omega)
        · simp [Blk, *] <;> (intros; omega)
      rintro W2 ⟨kW2, BW2_0, BW2_1, BW2_2⟩
      have cW2_0_0 : W2.cell? ⟨w.heap.size, 0, none⟩ = some (.int .u64 0) := BW2_0.cell 0 rfl
      have cW2_0_1 : W2.cell? ⟨w.heap.size, 1, none⟩ = some (.int .u64 0) := BW2_0.cell 1 rfl
      have fW2_0 := BW2_0.free
      have cW2_1_0 : W2.cell? ⟨w.heap.size + 1, 0, none⟩ = some (.int .u64 s0) := BW2_1.cell 0 rfl
      have cW2_1_1 : W2.cell? ⟨w.heap.size + 1, 1, none⟩ = some (.int .u64 s1) := BW2_1.cell 1 rfl
      have fW2_1 := BW2_1.free
      have cW2_2_0 : W2.cell? ⟨g7, 0, none⟩ = some (.int .u64 c0) := BW2_2.cell 0 rfl
      have cW2_2_1 : W2.cell? ⟨g7, 1, none⟩ = some (.int .u64 c1) := BW2_2.cell 1 rfl
      have fW2_2 := BW2_2.free
      go_wp2_with fail
      refine (HGi.out _).mono ?_
      rintro e W3 ⟨rfl, hkW3⟩
      have kW3 := kW2.trans hkW3
      have BW3_0 := BW2_0.kept hkW3
      have BW3_1 := BW2_1.kept hkW3
      have BW3_2 := BW2_2.kept hkW3
      clear cW2_0_0 cW2_0_1 cW2_1_0 cW2_1_1 cW2_2_0 cW2_2_1 fW2_0 fW2_1 fW2_2 BW2_0 BW2_1 BW2_2 kW2 hkW3
      have cW3_0_0 : W3.cell? ⟨w.heap.size, 0, none⟩ = some (.int .u64 0) := BW3_0.cell 0 rfl
      have cW3_0_1 : W3.cell? ⟨w.heap.size, 1, none⟩ = some (.int .u64 0) := BW3_0.cell 1 rfl
      have fW3_0 := BW3_0.free
      have cW3_1_0 : W3.cell? ⟨w.heap.size + 1, 0, none⟩ = some (.int .u64 s0) := BW3_1.cell 0 rfl
      have cW3_1_1 : W3.cell? ⟨w.heap.size + 1, 1, none⟩ = some (.int .u64 s1) := BW3_1.cell 1 rfl
      have fW3_1 := BW3_1.free
      have cW3_2_0 : W3.cell? ⟨g7, 0, none⟩ = some (.int .u64 c0) := BW3_2.cell 0 rfl
      have cW3_2_1 : W3.cell? ⟨g7, 1, none⟩ = some (.int .u64 c1) := BW3_2.cell 1 rfl
      have fW3_2 := BW3_2.free
      go_wp2_with fail
      go_roundw
      case rel =>
        refine ⟨i + 1, by omega, by go_num, ?_, ?_, ?_⟩
        · exact (kW3.setCell (kept_side (by omega)) _).setCell (kept_side (by omega)) _
        · simp [Blk, *]
        · rw [HS2.out, HS3.out]; simp [Blk, *]
      case measure => simp [intOf]; omega
    · have yi : (n : Int) ≤ (i : Int) := by omega
      obtain rfl : i = n := by omega
      have cwr_0_0 : wr.cell? ⟨w.heap.size, 0, none⟩ = some (.int .u64 0) := Bwr_0.cell 0 rfl
      have cwr_0_1 : wr.cell? ⟨w.heap.size, 1, none⟩ = some (.int .u64 0) := Bwr_0.cell 1 rfl
      have fwr_0 := Bwr_0.free
      have cwr_1_0 : wr.cell? ⟨w.heap.size + 1, 0, none⟩ = some (.int .u64 (S0 i)) := Bwr_1.cell 0 rfl
      have cwr_1_1 : wr.cell? ⟨w.heap.size + 1, 1, none⟩ = some (.int .u64 (S1 i)) := Bwr_1.cell 1 rfl
      have fwr_1 := Bwr_1.free
      go_wp2_with fail
      refine bodyPost_ret (v := .agg #[.int .u64 (S0 i), .int .u64 (S1 i)]) (by simp [results, Try.results82, go_sem, *]) rfl ⟨rfl, ?_⟩
      repeat (first | exact kwr | (refine Kept.setCell ?_ (kept_side (by first | assumption | omega)) _) | apply Kept.alloc | apply Kept.drew)

set_option maxRecDepth 100000 in
set_option maxHeartbeats 4000000 in
theorem f_AddVec_long (f : Int) (a : Option Addr) (n cap : Nat) (b : Option Addr) (m capb : Nat) (hnm : n ≠ m) (h1 : (n : Int) ≤ 9223372036854775807) (h2 : (m : Int) ≤ 9223372036854775807) : Pure Try.prog 78 #[.int .u8 f, .slice a n cap, .slice b m capb] (.tuple #[.slice none 0 0, .int .i64 9]) := fun w => by
  have HP := Lib.hid (f_pair_long (.func (.func 99) #[.int .u8 f] #[]) a n cap b m capb hnm h1 h2)
  go_enter Try.func78, Try.ntmps78
  go_wp2_with fail
  refine (HP.out _).mono ?_
  rintro e W1 ⟨rfl, k1⟩
  go_wp2_with fail
  go_ret2
  exact ⟨rfl, k1⟩
set_option maxRecDepth 100000 in
set_option maxHeartbeats 4000000 in
theorem f_AddVec_r (w : World) (f : Int) (a : Option Addr) (n cap N : Nat) (b : Option Addr) (capb : Nat) (A0 A1 B0 B1 R0 R1 : Nat → Int) (hn : n ≤ 4096) (hA : SlE w a n cap N A0 A1) (hB : SlE w b n capb N B0 B1)
    (hG : Hid (∀ j, j < n → Pure Try.prog 99 #[.int .u8 f, .agg #[.int .u64 (A0 j), .int .u64 (A1 j)], .agg #[.int .u64 (B0 j), .int .u64 (B1 j)]] (.agg #[.int .u64 (R0 j), .int .u64 (R1 j)]))) :
    Calls Try.prog 78 #[.int .u8 f, .slice a n cap, .slice b n capb] w fun e w' => ∃ g, e = .returned (.tuple #[.slice (some ⟨g, 0, none⟩) n n, .int .i64 0]) ∧ w.heap.size ≤ g ∧ Kept w w' ∧ Blk w' g 28 (rowF (n * 2) (fun c => .int .u64 (elemC R0 R1 c))) := by
  go_enter Try.func78, Try.ntmps78
  go_wp2_with fail
  refine (f_pair _ 99 enters99 f a n cap N b capb A0 A1 B0 B1 R0 R1 hn hA hB hG).mono ?_
  rintro e W1 ⟨g, rfl, hg, k1, B1⟩
  go_wp2_with fail
  go_ret2
  exact ⟨g, rfl, hg, k1, B1⟩

set_option maxRecDepth 100000 in
set_option maxHeartbeats 4000000 in
theorem f_SubVec_long (f : Int) (a : Option Addr) (n cap : Nat) (b : Option Addr) (m capb : Nat) (hnm : n ≠ m) (h1 : (n : Int) ≤ 9223372036854775807) (h2 : (m : Int) ≤ 9223372036854775807) : Pure Try.prog 79 #[.int .u8 f, .slice a n cap, .slice b m capb] (.tuple #[.slice none 0 0, .int .i64 9]) := fun w => by
  have HP := Lib.hid (f_pair_long (.func (.func 100) #[.int .u8 f] #[]) a n cap b m capb hnm h1 h2)
  go_enter Try.func79, Try.ntmps79
  go_wp2_with fail
  refine (HP.out _).mono ?_
  rintro e W1 ⟨rfl, k1⟩
  go_wp2_with fail
  go_ret2
  exact ⟨rfl, k1⟩
set_option maxRecDepth 100000 in
set_option maxHeartbeats 4000000 in
theorem f_SubVec_r (w : World) (f : Int) (a : Option Addr) (n cap N : Nat) (b : Option Addr) (capb : Nat) (A0 A1 B0 B1 R0 R1 : Nat → Int) (hn : n ≤ 4096) (hA : SlE w a n cap N A0 A1) (hB : SlE w b n capb N B0 B1)
    (hG : Hid (∀ j, j < n → Pure Try.prog 100 #[.int .u8 f, .agg #[.int .u64 (A0 j), .int .u64 (A1 j)], .agg #[.int .u64 (B0 j), .int .u64 (B1 j)]] (.agg #[.int .u64 (R0 j), .int .u64 (R1 j)]))) :
    Calls Try.prog 79 #[.int .u8 f, .slice a n cap, .slice b n capb] w fun e w' => ∃ g, e = .returned (.tuple #[.slice (some ⟨g, 0, none⟩) n n, .int .i64 0]) ∧ w.heap.size ≤ g ∧ Kept w w' ∧ Blk w' g 28 (rowF (n * 2) (fun c => .int .u64 (elemC R0 R1 c))) := by
  go_enter Try.func79, Try.ntmps79
  go_wp2_with fail
  refine (f_pair _ 100 enters100 f a n cap N b capb A0 A1 B0 B1 R0 R1 hn hA hB hG).mono ?_
  rintro e W1 ⟨g, rfl, hg, k1, B1⟩
  go_wp2_with fail
  go_ret2
  exact ⟨g, rfl, hg, k1, B1⟩

set_option maxRecDepth 100000 in
set_option maxHeartbeats 4000000 in
theorem f_Dot_long (f : Int) (a : Option Addr) (n cap : Nat) (b : Option Addr) (m capb : Nat) (hnm : n ≠ m) (h1 : (n : Int) ≤ 9223372036854775807) (h2 : (m : Int) ≤ 9223372036854775807) : Pure Try.prog 80 #[.int .u8 f, .slice a n cap, .slice b m capb] (.tuple #[.agg #[.int .u64 0, .int .u64 0], .int .i64 9]) := fun w => by
  have HP := Lib.hid (f_pair_long (.func (.func 102) #[.int .u8 f] #[]) a n cap b m capb hnm h1 h2)
  go_enter Try.func80, Try.ntmps80
  go_wp2_with fail
  refine abs_calls (fun W => Kept w W ∧ Blk W (w.heap.size) 28 #[.int .u64 0, .int .u64 0]) ?_ ?_
  · refine ⟨?_, ?_⟩
    · repeat (first | exact Kept.refl _ | (refine Kept.setCell ?_ (kept_side (by first | assumption | omega)) _) | apply Kept.alloc | apply Kept.drew)
    · simp [Blk, *] <;> (intros; omega)
  rintro W1 ⟨kW1, BW1_0⟩
  have cW1_0_0 : W1.cell? ⟨w.heap.size, 0, none⟩ = some (.int .u64 0) := BW1_0.cell 0 rfl
  have cW1_0_1 : W1.cell? ⟨w.heap.size, 1, none⟩ = some (.int .u64 0) := BW1_0.cell 1 rfl
  have fW1_0 := BW1_0.free
  refine (HP.out _).mono ?_
  rintro e W2 ⟨rfl, hkW2⟩
  have kW2 := kW1.trans hkW2
  have BW2_0 := BW1_0.kept hkW2
  clear cW1_0_0 cW1_0_1 fW1_0 BW1_0 kW1 hkW2
  have cW2_0_0 : W2.cell? ⟨w.heap.size, 0, none⟩ = some (.int .u64 0) := BW2_0.cell 0 rfl
  have cW2_0_1 : W2.cell? ⟨w.heap.size, 1, none⟩ = some (.int .u64 0) := BW2_0.cell 1 rfl
  have fW2_0 := BW2_0.free
  go_wp2_with fail
  refine bodyPost_ret (v := .tuple #[.agg #[.int .u64 0, .int .u64 0], .int .i64 9]) (by simp [results, Try.results80, go_sem, *]) rfl ⟨rfl, ?_⟩
  repeat (first | exact kW2 | (refine Kept.setCell ?_ (kept_side (by first | assumption | omega)) _) | apply Kept.alloc | apply Kept.drew)
set_option maxRecDepth 100000 in
set_option maxHeartbeats 4000000 in
theorem f_Dot_r (w : World) (f : Int) (a : Option Addr) (n cap N : Nat) (b : Option Addr) (capb : Nat) (A0 A1 B0 B1 M0 M1 S0 S1 : Nat → Int) (hn : n ≤ 4096) (hA : SlE w a n cap N A0 A1) (hB : SlE w b n capb N B0 B1) (h00 : S0 0 = 0) (h01 : S1 0 = 0)
    (hG : Hid (∀ j, j < n → Pure Try.prog 102 #[.int .u8 f, .agg #[.int .u64 (A0 j), .int .u64 (A1 j)], .agg #[.int .u64 (B0 j), .int .u64 (B1 j)]] (.agg #[.int .u64 (M0 j), .int .u64 (M1 j)])))
    (HS : Hid (∀ j, j < n → Pure Try.prog 99 #[.int .u8 f, .agg #[.int .u64 (S0 j), .int .u64 (S1 j)], .agg #[.int .u64 (M0 j), .int .u64 (M1 j)]] (.agg #[.int .u64 (S0 (j + 1)), .int .u64 (S1 (j + 1))]))) :
    Calls Try.prog 80 #[.int .u8 f, .slice a n cap, .slice b n capb] w fun e w' => e = .returned (.tuple #[.agg #[.int .u64 (S0 n), .int .u64 (S1 n)], .int .i64 0]) ∧ Kept w w' := by
  go_enter Try.func80, Try.ntmps80
  go_wp2_with fail
  refine abs_calls (fun W => Kept w W ∧ Blk W (w.heap.size) 28 #[.int .u64 0, .int .u64 0]) ?_ ?_
  · refine ⟨?_, ?_⟩
    · repeat (first | exact Kept.refl _ | (refine Kept.setCell ?_ (kept_side (by first | assumption | omega)) _) | apply Kept.alloc | apply Kept.drew)
    · simp [Blk, *] <;> (intros; omega)
  rintro W1 ⟨kW1, BW1_0⟩
  have cW1_0_0 : W1.cell? ⟨w.heap.size, 0, none⟩ = some (.int .u64 0) := BW1_0.cell 0 rfl
  have cW1_0_1 : W1.cell? ⟨w.heap.size, 1, none⟩ = some (.int .u64 0) := BW1_0.cell 1 rfl
  have fW1_0 := BW1_0.free
  refine (f_pair _ 102 enters102 f a n cap N b capb A0 A1 B0 B1 M0 M1 hn (hA.kept kW1) (hB.kept kW1) hG).mono ?_
  rintro e W2 ⟨g, rfl, hg, hkW2, BB⟩
  have kW2 := kW1.trans hkW2
  have BW2_0 := BW1_0.kept hkW2
  clear cW1_0_0 cW1_0_1 fW1_0 BW1_0 kW1 hkW2
  have cW2_0_0 : W2.cell? ⟨w.heap.size, 0, none⟩ = some (.int .u64 0) := BW2_0.cell 0 rfl
  have cW2_0_1 : W2.cell? ⟨w.heap.size, 1, none⟩ = some (.int .u64 0) := BW2_0.cell 1 rfl
  have fW2_0 := BW2_0.free
  go_wp2_with fail
  refine (f_Sum_r _ f _ n n (g + 1) M0 M1 S0 S1 hn (SlE.of_blk BB (Nat.le_refl _)) h00 h01 HS).mono ?_
  rintro e W3 ⟨rfl, hkW3⟩
  clear BB
  have kW3 := kW2.trans hkW3
  have BW3_0 := BW2_0.kept hkW3
  clear cW2_0_0 cW2_0_1 fW2_0 BW2_0 kW2 hkW3
  have cW3_0_0 : W3.cell? ⟨w.heap.size, 0, none⟩ = some (.int .u64 0) := BW3_0.cell 0 rfl
  have cW3_0_1 : W3.cell? ⟨w.heap.size, 1, none⟩ = some (.int .u64 0) := BW3_0.cell 1 rfl
  have fW3_0 := BW3_0.free
  go_wp2_with fail
  refine bodyPost_ret (v := .tuple #[.agg #[.int .u64 (S0 n), .int .u64 (S1 n)], .int .i64 0]) (by simp [results, Try.results80, go_sem, *]) rfl ⟨rfl, ?_⟩
  repeat (first | exact kW3 | (refine Kept.setCell ?_ (kept_side (by first | assumption | omega)) _) | apply Kept.alloc | apply Kept.drew)

end Go.Proofs.Ytnajihlhcdedgaa

namespace Go.Proofs.Ytnajihlhcdedgaa
open Go.RowKit
set_option linter.unusedVariables false
set_option linter.unusedSimpArgs false
attribute [local simp] blkAt_setCell blkAt_alloc blkAt_drew Obj.put_cells

/-- The cells of the first n elements. -/
def elist (C0 C1 : Nat → Int) (n : Nat) : List Value := (List.range (n * 2)).map fun c => Value.int .u64 (elemC C0 C1 c)
theorem elist_succ (C0 C1 : Nat → Int) (i : Nat) : elist C0 C1 (i + 1) = elist C0 C1 i ++ [.int .u64 (C0 i), .int .u64 (C1 i)] := by
  unfold elist
  rw [show (i + 1) * 2 = i * 2 + 1 + 1 by omega, List.range_succ, List.range_succ, List.map_append, List.map_append, List.map_singleton, List.map_singleton, elemC_0, elemC_1, List.append_assoc]
  rfl
theorem SlE.of_own {w : World} {base n : Nat} {v : Value} {C0 C1 : Nat → Int} (h : w.ownsRow base 28 2 v n (elist C0 C1 n)) : ∃ a c, v = .slice a n c ∧ SlE w a n c w.heap.size C0 C1 := by
  rcases h.2 with ⟨rfl, rfl⟩ | ⟨g, cap, cur, rfl, _⟩
  · exact ⟨none, 0, rfl, ⟨fun j hj => absurd hj (Nat.not_lt_zero _)⟩⟩
  · refine ⟨_, cap, rfl, ⟨fun j hj => ?_⟩⟩
    have c0 := h.cells (g := g) rfl (j * 2) (Value.int .u64 (C0 j)) (by unfold elist; rw [List.getElem?_map, List.getElem?_range (by omega), Option.map_some, elemC_0])
    have c1 := h.cells (g := g) rfl (j * 2 + 1) (Value.int .u64 (C1 j)) (by unfold elist; rw [List.getElem?_map, List.getElem?_range (by omega), Option.map_some, elemC_1])
    have a0 : (⟨g, 0, none⟩ : Addr).add (j * 2) = ⟨g, j * 2, none⟩ := by rw [Addr.add_lit]; simp
    have a1 : (⟨g, 0, none⟩ : Addr).add (j * 2 + 1) = ⟨g, j * 2 + 1, none⟩ := by rw [Addr.add_lit]; simp
    rw [a0] at c0
    rw [a1] at c1
    exact ⟨⟨g, j * 2, none⟩, fun w' => by rw [run_index_at90 hj w', a0], c0, by rw [Addr.add_lit]; exact c1, block_lt_of_cell c0⟩

set_option maxRecDepth 100000 in
set_option maxHeartbeats 4000000 in
theorem f_Powers_pos (w : World) (f a0 a1 : Int) (K : Nat) (hK : K ≤ 4096) (P0 P1 : Nat → Int) (h00 : P0 0 = 1) (h01 : P1 0 = 0) (hO : Pure Try.prog 105 #[.int .u8 f] (.agg #[.int .u64 1, .int .u64 0]))
    (HG : Hid (∀ j, j < K → Pure Try.prog 102 #[.int .u8 f, .agg #[.int .u64 (P0 j), .int .u64 (P1 j)], .agg #[.int .u64 a0, .int .u64 a1]] (.agg #[.int .u64 (P0 (j + 1)), .int .u64 (P1 (j + 1))]))) :
    Calls Try.prog 81 #[.int .u8 f, .agg #[.int .u64 a0, .int .u64 a1], .int .i64 (K : Int)] w fun e w' => ∃ v, e = .returned v ∧ Kept w w' ∧ w'.ownsRow w.heap.size 28 2 v K (elist P0 P1 K) := by
  have HO := Lib.hid hO
  clear hO
  have hK2 : (K : Int) ≤ 4096 := by omega
  have hK0 : (0 : Int) ≤ (K : Int) := by omega
  go_enter Try.func81, Try.ntmps81
  go_wp2_with fail
  refine abs_calls (fun W => Kept w W ∧ Blk W (w.heap.size) 28 #[.int .u64 a0, .int .u64 a1]) ?_ ?_
  · refine ⟨?_, ?_⟩
    · repeat (first | exact Kept.refl _ | (refine Kept.setCell ?_ (kept_side (by first | assumption | omega)) _) | apply Kept.alloc | apply Kept.drew)
    · simp [Blk, *] <;> (intros; omega)
  rintro W1 ⟨kW1, BW1_0⟩
  have cW1_0_0 : W1.cell? ⟨w.heap.size, 0, none⟩ = some (.int .u64 a0) := BW1_0.cell 0 rfl
  have cW1_0_1 : W1.cell? ⟨w.heap.size, 1, none⟩ = some (.int .u64 a1) := BW1_0.cell 1 rfl
  have fW1_0 := BW1_0.free
  refine (HO.out _).mono ?_
  rintro e W2 ⟨rfl, hkW2⟩
  have kW2 := kW1.trans hkW2
  have BW2_0 := BW1_0.kept hkW2
  clear cW1_0_0 cW1_0_1 fW1_0 BW1_0 kW1 hkW2
  have cW2_0_0 : W2.cell? ⟨w.heap.size, 0, none⟩ = some (.int .u64 a0) := BW2_0.cell 0 rfl
  have cW2_0_1 : W2.cell? ⟨w.heap.size, 1, none⟩ = some (.int .u64 a1) := BW2_0.cell 1 rfl
  have fW2_0 := BW2_0.free
  obtain ⟨g8, hg8⟩ : ∃ b, W2.heap.size = b := ⟨_, rfl⟩
  have neg8_0 : w.heap.size ≠ g8 := by have := BW2_0.lt; omega
  have eng8_0 : g8 ≠ w.heap.size := neg8_0.symm
  have log8 : w.heap.size ≤ g8 := hg8 ▸ kW2.size
  go_upto_region 3 with (fail)
  refine abs_world (fun W => Kept w W ∧ Blk W (w.heap.size) 28 #[.int .u64 a0, .int .u64 a1] ∧ Blk W (g8) 28 #[.int .u64 1, .int .u64 0]) ?_ ?_
  · refine ⟨?_, ?_, ?_⟩
    · repeat (first | exact kW2 | (refine Kept.setCell ?_ (kept_side (by first | assumption | omega)) _) | apply Kept.alloc | apply Kept.drew)
    · simp [Blk, *] <;> (intros; omega)
    · simp [Blk, *] <;> (intros; omega)
  rintro W3 ⟨kW3, BW3_0, BW3_1⟩
  have cW3_0_0 : W3.cell? ⟨w.heap.size, 0, none⟩ = some (.int .u64 a0) := BW3_0.cell 0 rfl
  have cW3_0_1 : W3.cell? ⟨w.heap.size, 1, none⟩ = some (.int .u64 a1) := BW3_0.cell 1 rfl
  have fW3_0 := BW3_0.free
  have cW3_1_0 : W3.cell? ⟨g8, 0, none⟩ = some (.int .u64 1) := BW3_1.cell 0 rfl
  have cW3_1_1 : W3.cell? ⟨g8, 1, none⟩ = some (.int .u64 0) := BW3_1.cell 1 rfl
  have fW3_1 := BW3_1.free
  obtain ⟨gb, hgb⟩ : ∃ gb, W3.heap.size = gb := ⟨_, rfl⟩
  have l0 : w.heap.size < gb := hgb ▸ BW3_0.lt
  have l1 : g8 < gb := hgb ▸ BW3_1.lt
  go_wp2_with fail
  go_loopw [7, 14] (fun v t wr => ∃ i : Nat, i ≤ K ∧ t = .int .i64 i ∧ Kept w wr ∧ Blk wr (w.heap.size) 28 #[.int .u64 a0, .int .u64 a1] ∧ Blk wr g8 28 #[.int .u64 (P0 i), .int .u64 (P1 i)] ∧ wr.ownsRow gb 28 2 v i (elist P0 P1 i) ∧ gb ≤ wr.heap.size) (fun _ t _ => K - (intOf t).toNat)
  case atStart => exact ⟨0, Nat.zero_le _, rfl, kW3, BW3_0, by rw [h00, h01]; exact BW3_1, World.ownsRow_nil _ _ _ _, by omega⟩
  case round =>
    obtain ⟨i, hi, rfl, kwr, Bwr_0, Bwr_1, hown, hgs⟩ := hrel
    clear cW3_0_0 cW3_0_1 cW3_1_0 cW3_1_1 fW3_0 BW3_0 fW3_1 BW3_1 kW3 hgb
    have zi : (0 : Int) ≤ (i : Int) := by omega
    rcases Nat.lt_or_ge i K with hlt | hge
    · have yi : (i : Int) < (K : Int) := by omega
      have HGi := Lib.hid (HG.out i hlt)
      have HE := Lib.hid (elist_succ P0 P1 i)
      obtain ⟨s2, hs2⟩ : ∃ x, P0 (i + 1) = x := ⟨_, rfl⟩
      obtain ⟨s3, hs3⟩ : ∃ x, P1 (i + 1) = x := ⟨_, rfl⟩
      rw [hs2, hs3] at HGi
      have HS2 := Lib.hid hs2
      have HS3 := Lib.hid hs3
      clear hs2 hs3
      generalize P0 i = s0 at *
      generalize P1 i = s1 at *
      have cwr_0_0 : wr.cell? ⟨w.heap.size, 0, none⟩ = some (.int .u64 a0) := Bwr_0.cell 0 rfl
      have cwr_0_1 : wr.cell? ⟨w.heap.size, 1, none⟩ = some (.int .u64 a1) := Bwr_0.cell 1 rfl
      have fwr_0 := Bwr_0.free
      have cwr_1_0 : wr.cell? ⟨g8, 0, none⟩ = some (.int .u64 s0) := Bwr_1.cell 0 rfl
      have cwr_1_1 : wr.cell? ⟨g8, 1, none⟩ = some (.int .u64 s1) := Bwr_1.cell 1 rfl
      have fwr_1 := Bwr_1.free
      obtain ⟨va, vn, vc, rfl⟩ := ownsRow_slice hown
      go_upto_region 6 with (at_builtin; refine wpList_append_one 90 28 info28 Try.underlying90 rfl (by decide) hown [.int .u64 s0, .int .u64 s1] rfl (by intro u hu; simp at hu; rcases hu with rfl | rfl <;> rfl) (by omega) (by decide) hgs (.tmp 16) (.tmp 18) rfl rfl rfl rfl ?_; intro v' w1 hown3 hgrow hne)
      have kw1 := grown_kept kwr hown hgrow (by omega)
      have Bw1_0 := grown_blk Bwr_0 hown hgrow (by omega)
      have Bw1_1 := grown_blk Bwr_1 hown hgrow (by omega)
      have hgs1 : gb ≤ w1.heap.size := Nat.le_trans hgs hgrow.size
      clear hown hgrow kwr cwr_0_0 cwr_0_1 cwr_1_0 cwr_1_1 fwr_0 Bwr_0 fwr_1 Bwr_1 hgs
      have cw1_0_0 : w1.cell? ⟨w.heap.size, 0, none⟩ = some (.int .u64 a0) := Bw1_0.cell 0 rfl
      have cw1_0_1 : w1.cell? ⟨w.heap.size, 1, none⟩ = some (.int .u64 a1) := Bw1_0.cell 1 rfl
      have fw1_0 := Bw1_0.free
      have cw1_1_0 : w1.cell? ⟨g8, 0, none⟩ = some (.int .u64 s0) := Bw1_1.cell 0 rfl
      have cw1_1_1 : w1.cell? ⟨g8, 1, none⟩ = some (.int .u64 s1) := Bw1_1.cell 1 rfl
      have fw1_1 := Bw1_1.free
      go_wp2_with fail
      refine (HGi.out _).mono ?_
      rintro e W4 ⟨rfl, hkW4⟩
      have hown4 := ownsRow_kept hown3 hkW4
      have hgs2 : gb ≤ W4.heap.size := Nat.le_trans hgs1 hkW4.size
      clear hown3 hgs1
      have kW4 := kw1.trans hkW4
      have BW4_0 := Bw1_0.kept hkW4
      have BW4_1 := Bw1_1.kept hkW4
      clear cw1_0_0 cw1_0_1 cw1_1_0 cw1_1_1 fw1_0 fw1_1 Bw1_0 Bw1_1 kw1 hkW4
      have cW4_0_0 : W4.cell? ⟨w.heap.size, 0, none⟩ = some (.int .u64 a0) := BW4_0.cell 0 rfl
      have cW4_0_1 : W4.cell? ⟨w.heap.size, 1, none⟩ = some (.int .u64 a1) := BW4_0.cell 1 rfl
      have fW4_0 := BW4_0.free
      have cW4_1_0 : W4.cell? ⟨g8, 0, none⟩ = some (.int .u64 s0) := BW4_1.cell 0 rfl
      have cW4_1_1 : W4.cell? ⟨g8, 1, none⟩ = some (.int .u64 s1) := BW4_1.cell 1 rfl
      have fW4_1 := BW4_1.free
      go_wp2_with fail
      go_roundw
      case rel =>
        refine ⟨i + 1, by omega, by go_num, ?_, ?_, ?_, ?_, ?_⟩
        · exact (kW4.setCell (kept_side (by omega)) _).setCell (kept_side (by omega)) _
        · simp [Blk, *]
        · rw [HS2.out, HS3.out]; simp [Blk, *]
        · rw [HE.out]; exact ownsRow_touch (ownsRow_touch hown4 (Touch.set _ _ _ _) l1) (Touch.set _ _ _ _) l1
        · simpa [World.setCell] using hgs2
      case measure => simp [intOf]; omega
    · have yi : (K : Int) ≤ (i : Int) := by omega
      obtain rfl : i = K := by omega
      clear Bwr_0 Bwr_1
      go_wp2_with fail
      go_ret
      exact ⟨_, rfl, kwr, ownsRow_base hown (by omega)⟩

set_option maxRecDepth 100000 in
set_option maxHeartbeats 4000000 in
theorem f_Powers_neg (w : World) (f a0 a1 : Int) (many : Int) (hm : many < 0) (hO : Pure Try.prog 105 #[.int .u8 f] (.agg #[.int .u64 1, .int .u64 0])) :
    Calls Try.prog 81 #[.int .u8 f, .agg #[.int .u64 a0, .int .u64 a1], .int .i64 many] w fun e w' => ∃ v, e = .returned v ∧ Kept w w' ∧ w'.ownsRow w.heap.size 28 2 v 0 [] := by
  have HO := Lib.hid hO
  clear hO
  go_enter Try.func81, Try.ntmps81
  go_wp2_with fail
  refine abs_calls (fun W => Kept w W ∧ Blk W (w.heap.size) 28 #[.int .u64 a0, .int .u64 a1]) ?_ ?_
  · refine ⟨?_, ?_⟩
    · repeat (first | exact Kept.refl _ | (refine Kept.setCell ?_ (kept_side (by first | assumption | omega)) _) | apply Kept.alloc | apply Kept.drew)
    · simp [Blk, *] <;> (intros; omega)
  rintro W1 ⟨kW1, BW1_0⟩
  have cW1_0_0 : W1.cell? ⟨w.heap.size, 0, none⟩ = some (.int .u64 a0) := BW1_0.cell 0 rfl
  have cW1_0_1 : W1.cell? ⟨w.heap.size, 1, none⟩ = some (.int .u64 a1) := BW1_0.cell 1 rfl
  have fW1_0 := BW1_0.free
  refine (HO.out _).mono ?_
  rintro e W2 ⟨rfl, hkW2⟩
  have kW2 := kW1.trans hkW2
  have BW2_0 := BW1_0.kept hkW2
  clear cW1_0_0 cW1_0_1 fW1_0 BW1_0 kW1 hkW2
  have cW2_0_0 : W2.cell? ⟨w.heap.size, 0, none⟩ = some (.int .u64 a0) := BW2_0.cell 0 rfl
  have cW2_0_1 : W2.cell? ⟨w.heap.size, 1, none⟩ = some (.int .u64 a1) := BW2_0.cell 1 rfl
  have fW2_0 := BW2_0.free
  go_wp2_with fail
  refine wp_loop_rounds 1 ?_; rw [rounds_succ]; go_wp2_with fail
  go_ret
  refine ⟨_, rfl, ?_, World.ownsRow_nil _ _ _ _⟩
  repeat (first | exact kW2 | (refine Kept.setCell ?_ (kept_side (by first | assumption | omega)) _) | apply Kept.alloc | apply Kept.drew)


/-- Which field. -/
def fOf (n : Int) : Int := 1 + n % 2
theorem isF_fOf {n : Int} (h : 0 ≤ n) : isF (fOf n) := by unfold isF fOf; omega
set_option maxRecDepth 100000 in
set_option maxHeartbeats 4000000 in
theorem f_F {n : Int} (h0 : 0 ≤ n) (h1 : n ≤ 255) : Pure Try.prog 77 #[.int .u8 n] (.int .u8 (fOf n)) := fun w => by
  obtain ⟨m, hm, hm2⟩ : ∃ m : Nat, n % 2 = (m : Int) ∧ m < 2 := ⟨(n % 2).toNat, by omega, by omega⟩
  have e1 : n.tmod 2 = (m : Int) := by rw [Int.tmod_eq_emod_of_nonneg h0]; exact hm
  have w1 : IntKind.u8.wrap (m : Int) = (m : Int) := by simp [IntKind.wrap, IntKind.bits, IntKind.signed]; omega
  have w2 : IntKind.u8.wrap (1 + (m : Int)) = 1 + (m : Int) := by simp [IntKind.wrap, IntKind.bits, IntKind.signed]; omega
  have HF : Hid (fOf n = 1 + (m : Int)) := Lib.hid (by unfold fOf; rw [hm])
  go_enter Try.func77, Try.ntmps77
  go_wp2_with fail
  refine bodyPost_ret (v := .int .u8 (fOf n)) (by rw [HF.out]; simp [results, Try.results77, go_sem, *]) rfl ⟨rfl, Kept.refl w⟩

/-! ### Over the elements as numbers -/
/-- A slice that reads as the numbers x 0, .. -/
abbrev SlX (w : World) (a : Option Addr) (n cap N : Nat) (x : Nat → Int) : Prop := SlE w a n cap N (fun j => x j % 18446744073709551616) (fun j => x j / 18446744073709551616)
/-- The sum of the first j. -/
def sumF (f : Int) (x : Nat → Int) : Nat → Int
  | 0 => 0
  | j + 1 => (rOf f (sumF f x j) + rOf f (x j)) % rP f
def mulF (f : Int) (x y : Nat → Int) (j : Nat) : Int := (rOf f (x j) * rOf f (y j)) % rP f
def addF (f : Int) (x y : Nat → Int) (j : Nat) : Int := (rOf f (x j) + rOf f (y j)) % rP f
def subF (f : Int) (x y : Nat → Int) (j : Nat) : Int := (rOf f (x j) - rOf f (y j)) % rP f
def powF (f : Int) (a : Int) : Nat → Int
  | 0 => 1
  | j + 1 => (rOf f (powF f a j) * rOf f a) % rP f
theorem is128_sumF (f : Int) (x : Nat → Int) : ∀ j, is128 (sumF f x j)
  | 0 => is128_0
  | _ + 1 => is128_emod f _
theorem is128_powF (f : Int) (a : Int) : ∀ j, is128 (powF f a j)
  | 0 => is128_1
  | _ + 1 => is128_emod f _
theorem f_Sum {f : Int} (hf : isF f) (w : World) {a : Option Addr} {n cap N : Nat} {x : Nat → Int} (hn : n ≤ 4096) (hx : ∀ j, j < n → is128 (x j)) (hA : SlX w a n cap N x) :
    Calls Try.prog 82 #[.int .u8 f, .slice a n cap] w fun e w' => e = .returned (E (sumF f x n)) ∧ Kept w w' :=
  f_Sum_r w f a n cap N _ _ (fun j => sumF f x j % 18446744073709551616) (fun j => sumF f x j / 18446744073709551616) hn hA rfl rfl (Lib.hid fun j hj => f_Add hf (is128_sumF f x j) (hx j hj))
theorem f_Dot {f : Int} (hf : isF f) (w : World) {a b : Option Addr} {n cap capb N : Nat} {x y : Nat → Int} (hn : n ≤ 4096) (hx : ∀ j, j < n → is128 (x j)) (hy : ∀ j, j < n → is128 (y j)) (hA : SlX w a n cap N x) (hB : SlX w b n capb N y) :
    Calls Try.prog 80 #[.int .u8 f, .slice a n cap, .slice b n capb] w fun e w' => e = .returned (.tuple #[E (sumF f (mulF f x y) n), .int .i64 0]) ∧ Kept w w' :=
  f_Dot_r w f a n cap N b capb _ _ _ _ (fun j => mulF f x y j % 18446744073709551616) (fun j => mulF f x y j / 18446744073709551616) (fun j => sumF f (mulF f x y) j % 18446744073709551616) (fun j => sumF f (mulF f x y) j / 18446744073709551616) hn hA hB rfl rfl
    (Lib.hid fun j hj => f_Mul hf (hx j hj) (hy j hj)) (Lib.hid fun j hj => f_Add hf (is128_sumF f _ j) (is128_emod f _))
theorem f_AddVec {f : Int} (hf : isF f) (w : World) {a b : Option Addr} {n cap capb N : Nat} {x y : Nat → Int} (hn : n ≤ 4096) (hx : ∀ j, j < n → is128 (x j)) (hy : ∀ j, j < n → is128 (y j)) (hA : SlX w a n cap N x) (hB : SlX w b n capb N y) :
    Calls Try.prog 78 #[.int .u8 f, .slice a n cap, .slice b n capb] w fun e w' => ∃ g, e = .returned (.tuple #[.slice (some ⟨g, 0, none⟩) n n, .int .i64 0]) ∧ Kept w w' ∧ SlX w' (some ⟨g, 0, none⟩) n n w'.heap.size (addF f x y) :=
  (f_AddVec_r w f a n cap N b capb _ _ _ _ (fun j => addF f x y j % 18446744073709551616) (fun j => addF f x y j / 18446744073709551616) hn hA hB (Lib.hid fun j hj => f_Add hf (hx j hj) (hy j hj))).mono
    fun e w' ⟨g, h1, h2, h3, h4⟩ => ⟨g, h1, h3, (SlE.of_blk h4 (Nat.le_refl _)).mono h4.lt⟩
theorem f_SubVec {f : Int} (hf : isF f) (w : World) {a b : Option Addr} {n cap capb N : Nat} {x y : Nat → Int} (hn : n ≤ 4096) (hx : ∀ j, j < n → is128 (x j)) (hy : ∀ j, j < n → is128 (y j)) (hA : SlX w a n cap N x) (hB : SlX w b n capb N y) :
    Calls Try.prog 79 #[.int .u8 f, .slice a n cap, .slice b n capb] w fun e w' => ∃ g, e = .returned (.tuple #[.slice (some ⟨g, 0, none⟩) n n, .int .i64 0]) ∧ Kept w w' ∧ SlX w' (some ⟨g, 0, none⟩) n n w'.heap.size (subF f x y) :=
  (f_SubVec_r w f a n cap N b capb _ _ _ _ (fun j => subF f x y j % 18446744073709551616) (fun j => subF f x y j / 18446744073709551616) hn hA hB (Lib.hid fun j hj => f_Sub hf (hx j hj) (hy j hj))).mono
    fun e w' ⟨g, h1, h2, h3, h4⟩ => ⟨g, h1, h3, (SlE.of_blk h4 (Nat.le_refl _)).mono h4.lt⟩
theorem f_Powers {f : Int} (hf : isF f) (w : World) {a many : Int} (ha : is128 a) (hm : many ≤ 4096) :
    Calls Try.prog 81 #[.int .u8 f, E a, .int .i64 many] w fun e w' => ∃ ad c, e = .returned (.slice ad many.toNat c) ∧ Kept w w' ∧ SlX w' ad many.toNat c w'.heap.size (powF f a) := by
  have hO := f_One hf
  rw [E_one] at hO
  by_cases h : many < 0
  · refine (f_Powers_neg w f (a % 18446744073709551616) (a / 18446744073709551616) many h hO).mono ?_
    rintro e w' ⟨v, rfl, h1, h2⟩
    obtain ⟨ad, c, rfl, h3⟩ := SlE.of_own (C0 := fun j => powF f a j % 18446744073709551616) (C1 := fun j => powF f a j / 18446744073709551616) h2
    rw [show many.toNat = 0 by omega]
    exact ⟨ad, c, rfl, h1, h3⟩
  · obtain ⟨K, rfl⟩ : ∃ K : Nat, many = (K : Int) := ⟨many.toNat, by omega⟩
    refine (f_Powers_pos w f (a % 18446744073709551616) (a / 18446744073709551616) K (by omega) (fun j => powF f a j % 18446744073709551616) (fun j => powF f a j / 18446744073709551616) rfl rfl hO (Lib.hid fun j hj => f_Mul hf (is128_powF f a j) ha)).mono ?_
    rintro e w' ⟨v, rfl, h1, h2⟩
    obtain ⟨ad, c, rfl, h3⟩ := SlE.of_own h2
    exact ⟨ad, c, rfl, h1, h3⟩
end Go.Proofs.Ytnajihlhcdedgaa

namespace Go.Proofs.Ytnajihlhcdedgaa
open Go.RowKit
set_option linter.unusedVariables false
set_option linter.unusedSimpArgs false
attribute [local simp] blkAt_setCell blkAt_alloc blkAt_drew Obj.put_cells

def aw0 (j : Nat) : Int := if j = 0 then 1 else 2
def aw1 (j : Nat) : Int := if j = 0 then 3 else 4
theorem aw_sum : sumF 1 (mulF 1 aw0 aw1) 2 = 11 := by decide +kernel
theorem E_eleven : E 11 = .agg #[.int .u64 11, .int .u64 0] := E_small (by unfold is64; omega)
set_option maxRecDepth 100000 in
set_option maxHeartbeats 4000000 in
theorem f_Awake : Pure Try.prog 76 #[] (.bool true) := fun w => by
  have h0 : ∀ j, j < 2 → is128 (aw0 j) := fun j _ => by unfold aw0 is128; split <;> omega
  have h1 : ∀ j, j < 2 → is128 (aw1 j) := fun j _ => by unfold aw1 is128; split <;> omega
  have HD : Hid (∀ (w : World) (a b : Option Addr) (capa capb N : Nat), SlX w a 2 capa N aw0 → SlX w b 2 capb N aw1 → Calls Try.prog 80 #[.int .u8 1, .slice a 2 capa, .slice b 2 capb] w fun e w' => e = .returned (.tuple #[.agg #[.int .u64 11, .int .u64 0], .int .i64 0]) ∧ Kept w w') := Lib.hid fun w a b capa capb N hA hB => by
    have := f_Dot isF1 w (by omega) h0 h1 hA hB
    rw [aw_sum, E_eleven] at this
    exact this
  have heq := fun w => run_eql28 11 0 11 0 w
  simp only [decide_true, and_self] at heq
  clear h0 h1
  obtain ⟨g1, hg1⟩ : ∃ g, w.heap.size = g := ⟨_, rfl⟩
  obtain ⟨g2, hg2⟩ : ∃ g, g1 + 1 = g := ⟨_, rfl⟩
  have nw1 : w.heap.size ≤ g1 := by omega
  have nw2 : w.heap.size ≤ g2 := by omega
  have n12 : g1 < g2 := by omega
  go_enter Try.func76, Try.ntmps76
  go_wp2_with fail
  try simp only [hg1]
  try simp only [hg2]
  refine abs_calls (fun W => Kept w W ∧ Blk W g1 28 (rowF 4 (fun c => .int .u64 (elemC (fun j => aw0 j % 18446744073709551616) (fun j => aw0 j / 18446744073709551616) c))) ∧ Blk W g2 28 (rowF 4 (fun c => .int .u64 (elemC (fun j => aw1 j % 18446744073709551616) (fun j => aw1 j / 18446744073709551616) c)))) ⟨((Kept.refl w).alloc _).alloc _, ?_, ?_⟩ ?_
  · rw [← hg1]; exact (Blk.new _ _ _).alloc _
  · rw [← hg2, ← hg1]; exact heap_alloc2_new w _ _
  rintro W1 ⟨k1, B1, B2⟩
  refine (HD.out W1 _ _ 2 2 (g2 + 1) ((SlE.of_blk B1 (by omega)).mono (by omega)) (SlE.of_blk B2 (by omega))).mono ?_
  rintro e W2 ⟨rfl, hk2⟩
  have k2 := k1.trans hk2
  clear k1 B1 B2 hk2 hg1 hg2
  obtain ⟨g3, hg3⟩ : ∃ g, W2.heap.size = g := ⟨_, rfl⟩
  go_upto_region 2 with (fail)
  try simp only [hg3]
  have nw3 : w.heap.size ≤ g3 := by have := k2.size; omega
  refine abs_world (fun W => Kept w W ∧ Blk W g3 28 #[.int .u64 11, .int .u64 0]) ⟨?_, ?_⟩ ?_
  · repeat (first | exact k2 | (refine Kept.setCell ?_ (kept_side (by first | assumption | omega)) _) | apply Kept.alloc | apply Kept.drew)
  · simp [Blk, *]
  rintro W3 ⟨k3, B3⟩
  have c0 := B3.cell 0 rfl
  have c1 := B3.cell 1 rfl
  go_wp2_with fail
  go_ret
  exact ⟨rfl, k3⟩
end Go.Proofs.Ytnajihlhcdedgaa

namespace Go.Proofs.Ytnajihlhcdedgaa
open Go.RowKit
set_option linter.unusedVariables false
set_option linter.unusedSimpArgs false
attribute [local simp] blkAt_setCell blkAt_alloc blkAt_drew Obj.put_cells

theorem eql28_selfF (s t : Int) (w : World) : (binOp .eql 28 (.agg #[.int .u64 s, .int .u64 t]) (.agg #[.int .u64 s, .int .u64 t])).run Try.prog w = .ok (.bool true) w := by rw [run_eql28]; simp
set_option maxRecDepth 100000 in
set_option maxHeartbeats 4000000 in
theorem field_roots_r (l n e m0 m1 k : Int) (hS : Pure Try.prog 83 #[.int .u8 1, .int .i64 l] (.tuple #[.agg #[.int .u64 n, .int .u64 0], .int .i64 e])) (hG : Pure Try.prog 46 #[.int .i64 l] (.tuple #[.int .u64 n, .int .i64 e]))
    (hL : Pure Try.prog 83 #[.int .u8 2, .int .i64 l] (.tuple #[.agg #[.int .u64 m0, .int .u64 m1], .int .i64 k])) (hW : Pure Try.prog 68 #[.int .i64 l] (.tuple #[.agg #[.int .u64 m0, .int .u64 m1], .int .i64 k])) (w : World) :
    Calls Try.prog 18 #[.int .i64 l] w fun e w' => e = .returned (.bool true) ∧ Kept w w' := by
  have HA := Lib.hid f_Awake
  have HS := Lib.hid hS
  have HG := Lib.hid hG
  have HL := Lib.hid hL
  have HW := Lib.hid hW
  have HR1 := Lib.hid f_Roots_s
  have HR2 := Lib.hid f_Roots_l
  clear hS hG hL hW
  have hs := eql28_selfF
  go_enter Try.func18, Try.ntmps18
  go_wp2_with fail
  refine (HA.out _).mono ?_
  rintro e W1 ⟨rfl, kW1⟩
  go_wp2_with fail
  refine (HS.out _).mono ?_
  rintro e W2 ⟨rfl, hkW2⟩
  have kW2 := kW1.trans hkW2
  clear kW1 hkW2
  obtain ⟨g3, hg3⟩ : ∃ b, W2.heap.size = b := ⟨_, rfl⟩
  have log3 : w.heap.size ≤ g3 := hg3 ▸ kW2.size
  go_upto_region 4 with (fail)
  refine abs_world (fun W => Kept w W ∧ Blk W (g3) 28 #[.int .u64 n, .int .u64 0]) ?_ ?_
  · refine ⟨?_, ?_⟩
    · repeat (first | exact kW2 | (refine Kept.setCell ?_ (kept_side (by first | assumption | omega)) _) | apply Kept.alloc | apply Kept.drew)
    · simp [Blk, *] <;> (intros; omega)
  rintro W3 ⟨kW3, BW3_0⟩
  have cW3_0_0 : W3.cell? ⟨g3, 0, none⟩ = some (.int .u64 n) := BW3_0.cell 0 rfl
  have cW3_0_1 : W3.cell? ⟨g3, 1, none⟩ = some (.int .u64 0) := BW3_0.cell 1 rfl
  have fW3_0 := BW3_0.free
  go_wp2_with fail
  refine (HG.out _).mono ?_
  rintro e W4 ⟨rfl, hkW4⟩
  have kW4 := kW3.trans hkW4
  have BW4_0 := BW3_0.kept hkW4
  clear cW3_0_0 cW3_0_1 fW3_0 BW3_0 kW3 hkW4
  have cW4_0_0 : W4.cell? ⟨g3, 0, none⟩ = some (.int .u64 n) := BW4_0.cell 0 rfl
  have cW4_0_1 : W4.cell? ⟨g3, 1, none⟩ = some (.int .u64 0) := BW4_0.cell 1 rfl
  have fW4_0 := BW4_0.free
  go_wp2_with fail
  refine (HL.out _).mono ?_
  rintro e W5 ⟨rfl, hkW5⟩
  have kW5 := kW4.trans hkW5
  have BW5_0 := BW4_0.kept hkW5
  clear cW4_0_0 cW4_0_1 fW4_0 BW4_0 kW4 hkW5
  have cW5_0_0 : W5.cell? ⟨g3, 0, none⟩ = some (.int .u64 n) := BW5_0.cell 0 rfl
  have cW5_0_1 : W5.cell? ⟨g3, 1, none⟩ = some (.int .u64 0) := BW5_0.cell 1 rfl
  have fW5_0 := BW5_0.free
  obtain ⟨g7, hg7⟩ : ∃ b, W5.heap.size = b := ⟨_, rfl⟩
  have neg7_0 : g3 ≠ g7 := by have := BW5_0.lt; omega
  have eng7_0 : g7 ≠ g3 := neg7_0.symm
  have log7 : w.heap.size ≤ g7 := hg7 ▸ kW5.size
  go_upto_region 6 with (fail)
  refine abs_world (fun W => Kept w W ∧ Blk W (g3) 28 #[.int .u64 n, .int .u64 0] ∧ Blk W (g7) 28 #[.int .u64 m0, .int .u64 m1]) ?_ ?_
  · refine ⟨?_, ?_, ?_⟩
    · repeat (first | exact kW5 | (refine Kept.setCell ?_ (kept_side (by first | assumption | omega)) _) | apply Kept.alloc | apply Kept.drew)
    · simp [Blk, *] <;> (intros; omega)
    · simp [Blk, *] <;> (intros; omega)
  rintro W6 ⟨kW6, BW6_0, BW6_1⟩
  have cW6_0_0 : W6.cell? ⟨g3, 0, none⟩ = some (.int .u64 n) := BW6_0.cell 0 rfl
  have cW6_0_1 : W6.cell? ⟨g3, 1, none⟩ = some (.int .u64 0) := BW6_0.cell 1 rfl
  have fW6_0 := BW6_0.free
  have cW6_1_0 : W6.cell? ⟨g7, 0, none⟩ = some (.int .u64 m0) := BW6_1.cell 0 rfl
  have cW6_1_1 : W6.cell? ⟨g7, 1, none⟩ = some (.int .u64 m1) := BW6_1.cell 1 rfl
  have fW6_1 := BW6_1.free
  go_wp2_with fail
  refine (HW.out _).mono ?_
  rintro e W7 ⟨rfl, hkW7⟩
  have kW7 := kW6.trans hkW7
  have BW7_0 := BW6_0.kept hkW7
  have BW7_1 := BW6_1.kept hkW7
  clear cW6_0_0 cW6_0_1 cW6_1_0 cW6_1_1 fW6_0 fW6_1 BW6_0 BW6_1 kW6 hkW7
  have cW7_0_0 : W7.cell? ⟨g3, 0, none⟩ = some (.int .u64 n) := BW7_0.cell 0 rfl
  have cW7_0_1 : W7.cell? ⟨g3, 1, none⟩ = some (.int .u64 0) := BW7_0.cell 1 rfl
  have fW7_0 := BW7_0.free
  have cW7_1_0 : W7.cell? ⟨g7, 0, none⟩ = some (.int .u64 m0) := BW7_1.cell 0 rfl
  have cW7_1_1 : W7.cell? ⟨g7, 1, none⟩ = some (.int .u64 m1) := BW7_1.cell 1 rfl
  have fW7_1 := BW7_1.free
  obtain ⟨g9, hg9⟩ : ∃ b, W7.heap.size = b := ⟨_, rfl⟩
  have neg9_0 : g3 ≠ g9 := by have := BW7_0.lt; omega
  have eng9_0 : g9 ≠ g3 := neg9_0.symm
  have neg9_1 : g7 ≠ g9 := by have := BW7_1.lt; omega
  have eng9_1 : g9 ≠ g7 := neg9_1.symm
  have log9 : w.heap.size ≤ g9 := hg9 ▸ kW7.size
  go_upto_region 7 with (fail)
  refine abs_world (fun W => Kept w W ∧ Blk W (g3) 28 #[.int .u64 n, .int .u64 0] ∧ Blk W (g7) 28 #[.int .u64 m0, .int .u64 m1] ∧ Blk W (g9) 28 #[.int .u64 m0, .int .u64 m1]) ?_ ?_
  · refine ⟨?_, ?_, ?_, ?_⟩
    · repeat (first | exact kW7 | (refine Kept.setCell ?_ (kept_side (by first | assumption | omega)) _) | apply Kept.alloc | apply Kept.drew)
    · simp [Blk, *] <;> (intros; omega)
    · simp [Blk, *] <;> (intros; omega)
    · simp [Blk, *] <;> (intros; omega)
  rintro W8 ⟨kW8, BW8_0, BW8_1, BW8_2⟩
  have cW8_0_0 : W8.cell? ⟨g3, 0, none⟩ = some (.int .u64 n) := BW8_0.cell 0 rfl
  have cW8_0_1 : W8.cell? ⟨g3, 1, none⟩ = some (.int .u64 0) := BW8_0.cell 1 rfl
  have fW8_0 := BW8_0.free
  have cW8_1_0 : W8.cell? ⟨g7, 0, none⟩ = some (.int .u64 m0) := BW8_1.cell 0 rfl
  have cW8_1_1 : W8.cell? ⟨g7, 1, none⟩ = some (.int .u64 m1) := BW8_1.cell 1 rfl
  have fW8_1 := BW8_1.free
  have cW8_2_0 : W8.cell? ⟨g9, 0, none⟩ = some (.int .u64 m0) := BW8_2.cell 0 rfl
  have cW8_2_1 : W8.cell? ⟨g9, 1, none⟩ = some (.int .u64 m1) := BW8_2.cell 1 rfl
  have fW8_2 := BW8_2.free
  go_wp2_with fail
  refine (HR1.out _).mono ?_
  rintro e W9 ⟨rfl, hkW9⟩
  have kW9 := kW8.trans hkW9
  have BW9_0 := BW8_0.kept hkW9
  have BW9_1 := BW8_1.kept hkW9
  have BW9_2 := BW8_2.kept hkW9
  clear cW8_0_0 cW8_0_1 cW8_1_0 cW8_1_1 cW8_2_0 cW8_2_1 fW8_0 fW8_1 fW8_2 BW8_0 BW8_1 BW8_2 kW8 hkW9
  have cW9_0_0 : W9.cell? ⟨g3, 0, none⟩ = some (.int .u64 n) := BW9_0.cell 0 rfl
  have cW9_0_1 : W9.cell? ⟨g3, 1, none⟩ = some (.int .u64 0) := BW9_0.cell 1 rfl
  have fW9_0 := BW9_0.free
  have cW9_1_0 : W9.cell? ⟨g7, 0, none⟩ = some (.int .u64 m0) := BW9_1.cell 0 rfl
  have cW9_1_1 : W9.cell? ⟨g7, 1, none⟩ = some (.int .u64 m1) := BW9_1.cell 1 rfl
  have fW9_1 := BW9_1.free
  have cW9_2_0 : W9.cell? ⟨g9, 0, none⟩ = some (.int .u64 m0) := BW9_2.cell 0 rfl
  have cW9_2_1 : W9.cell? ⟨g9, 1, none⟩ = some (.int .u64 m1) := BW9_2.cell 1 rfl
  have fW9_2 := BW9_2.free
  go_wp2_with fail
  refine (HR2.out _).mono ?_
  rintro e W10 ⟨rfl, hkW10⟩
  have kW10 := kW9.trans hkW10
  have BW10_0 := BW9_0.kept hkW10
  have BW10_1 := BW9_1.kept hkW10
  have BW10_2 := BW9_2.kept hkW10
  clear cW9_0_0 cW9_0_1 cW9_1_0 cW9_1_1 cW9_2_0 cW9_2_1 fW9_0 fW9_1 fW9_2 BW9_0 BW9_1 BW9_2 kW9 hkW10
  have cW10_0_0 : W10.cell? ⟨g3, 0, none⟩ = some (.int .u64 n) := BW10_0.cell 0 rfl
  have cW10_0_1 : W10.cell? ⟨g3, 1, none⟩ = some (.int .u64 0) := BW10_0.cell 1 rfl
  have fW10_0 := BW10_0.free
  have cW10_1_0 : W10.cell? ⟨g7, 0, none⟩ = some (.int .u64 m0) := BW10_1.cell 0 rfl
  have cW10_1_1 : W10.cell? ⟨g7, 1, none⟩ = some (.int .u64 m1) := BW10_1.cell 1 rfl
  have fW10_1 := BW10_1.free
  have cW10_2_0 : W10.cell? ⟨g9, 0, none⟩ = some (.int .u64 m0) := BW10_2.cell 0 rfl
  have cW10_2_1 : W10.cell? ⟨g9, 1, none⟩ = some (.int .u64 m1) := BW10_2.cell 1 rfl
  have fW10_2 := BW10_2.free
  go_wp2_with fail
  go_ret
  exact ⟨rfl, kW10⟩
theorem fieldRoots_walk (l : Int) (wl : (Lit.int .i64 l).wf = true) (w : World) : Calls Try.prog 18 #[.int .i64 l] w fun e w' => e = .returned (.bool true) ∧ Kept w w' := by
  obtain ⟨n, e, hG⟩ : ∃ n e, Pure Try.prog 46 #[.int .i64 l] (.tuple #[.int .u64 n, .int .i64 e]) := by
    by_cases h : 0 ≤ l ∧ l ≤ 32
    · exact ⟨_, _, (g_Root h.1 h.2).pure⟩
    · exact ⟨_, _, (g_Root_no (by omega)).pure⟩
  obtain ⟨m0, m1, k, hW⟩ : ∃ m0 m1 k, Pure Try.prog 68 #[.int .i64 l] (.tuple #[.agg #[.int .u64 m0, .int .u64 m1], .int .i64 k]) := by
    by_cases h : 0 ≤ l ∧ l ≤ 66
    · exact ⟨_, _, _, w_Root h.1 h.2⟩
    · exact ⟨_, _, _, w_Root_no l (by omega)⟩
  exact field_roots_r l n e m0 m1 k (f_Root_s _ _ _ hG) hG (f_Root_l _ _ _ _ hW) hW w
end Go.Proofs.Ytnajihlhcdedgaa

namespace Go.Proofs.Ytnajihlhcdedgaa
open Go.RowKit
set_option linter.unusedVariables false
set_option linter.unusedSimpArgs false
theorem add_block (p : Addr) (n : Nat) : (p.add n).block = p.block := by
  unfold Addr.add
  split <;> rfl
theorem cell_far {w : World} {p : Addr} {v : Value} (h : w.cell? p = some v) {b : Nat} (hb : p.block ≠ b) (i : Nat) (u : Value) : (w.setCell ⟨b, i, none⟩ u).cell? p = some v := by
  have hlt := block_lt_of_cell h
  unfold World.cell? at h ⊢
  rw [(Touch.set b w i u).block p.block hlt hb]
  exact h
theorem SlE.setCell {w : World} {a : Option Addr} {n cap N : Nat} {C0 C1 : Nat → Int} (h : SlE w a n cap N C0 C1) {b i : Nat} (hb : N ≤ b) (v : Value) : SlE (w.setCell ⟨b, i, none⟩ v) a n cap N C0 C1 :=
  ⟨fun j hj => let ⟨p, h1, h2, h3, h4⟩ := h.at' j hj; ⟨p, h1, cell_far h2 (by omega) i v, cell_far h3 (by rw [add_block]; omega) i v, h4⟩⟩
theorem SlE.alloc {w : World} {a : Option Addr} {n cap N : Nat} {C0 C1 : Nat → Int} (h : SlE w a n cap N C0 C1) (o : Obj) : SlE (w.alloc o) a n cap N C0 C1 := h.kept ((Kept.refl w).alloc o)
end Go.Proofs.Ytnajihlhcdedgaa

namespace Go.Proofs.Ytnajihlhcdedgaa
open Go.ChangeShapes Go.WideShapes Go.ChangeAt Go.RowKit Go.Deep
set_option linter.unusedVariables false

section
variable {H : Type} {enc : TypeId × Value → H} {W : World} {base : Nat} {spare : Nat → Bool} {held : Bool}
set_option maxRecDepth 100000 in
theorem trod_pair {n : Nat} {cs : List Value} {x : DataW H × List MemPlace} (h : DataW.trod enc Try.prog W base spare held n 28 cs = some x) : ∃ z, is128 z ∧ cs = [.int .u64 (z % 18446744073709551616), .int .u64 (z / 18446744073709551616)] := by
  obtain ⟨xs, m, _, _, hl, hxl, hall⟩ := DataW.trod_array Try.underlying28 h
  have hc28 : Try.prog.cellsOf 28 = 2 := by kernel_rfl
  rw [hc28] at hl
  rw [cells22] at hall
  match cs, hl with
  | [v0, v1], _ =>
    have a0 := hall 0 (by omega)
    have a1 := hall 1 (by omega)
    rw [List.getElem?_eq_getElem (by omega)] at a0 a1
    simp only [Nat.zero_mul, Nat.one_mul, List.drop_zero, List.take_succ_cons, List.take_zero, List.drop_succ_cons] at a0 a1
    obtain ⟨z0, e0, _, w0⟩ := DataW.trod_int Try.underlying22 a0
    obtain ⟨z1, e1, _, w1⟩ := DataW.trod_int Try.underlying22 a1
    simp only [List.cons.injEq, and_true] at e0 e1
    subst e0 e1
    have h0 := is64_mk w0
    have h1 := is64_mk w1
    refine ⟨z0 + z1 * 18446744073709551616, ?_, ?_⟩
    · unfold is64 at h0 h1; unfold is128; omega
    · unfold is64 at h0 h1
      rw [show (z0 + z1 * 18446744073709551616) % 18446744073709551616 = z0 by omega, show (z0 + z1 * 18446744073709551616) / 18446744073709551616 = z1 by omega]
set_option maxRecDepth 100000 in
theorem open_elems {r : Reach} {b : Nat} {v : Value} {d : DataW H} {p : List MemPlace} (hv : Value.okWide Try.prog W r b 90 v) (h : DataW.Trod enc Try.prog W base spare held 90 v d p) :
    ∃ (a : Option Addr) (n cap : Nat) (x : Nat → Int), v = .slice a n cap ∧ ((n : Int) ≤ 9223372036854775807 ∧ (∀ j, j < n → is128 (x j)) ∧ SlX W a n cap W.heap.size x) := by
  obtain ⟨a, n, cap, rfl⟩ : ∃ a n cap, v = .slice a n cap := okWide_slice Try.underlying90 hv
  obtain ⟨fuel, hf⟩ := h
  rcases open_slice Try.underlying90 (by simpa [Value.cells] using hf) with ⟨h0, _⟩ | ⟨a', n', cap', m, k, D, Pl, hc, _, hle, hmax, hmm, _, hx⟩
  · simp only [List.cons.injEq, and_true, Value.slice.injEq] at h0
    obtain ⟨rfl, rfl, rfl⟩ := h0
    exact ⟨none, 0, 0, fun _ => 0, rfl, by omega, fun j hj => absurd hj (Nat.not_lt_zero _), ⟨fun j hj => absurd hj (Nat.not_lt_zero _)⟩⟩
  · simp only [List.cons.injEq, and_true, Value.slice.injEq] at hc
    obtain ⟨rfl, rfl, rfl⟩ := hc
    have hnm : n ≤ m := by rw [hmm]; split <;> omega
    have hc28 : Try.prog.cellsOf 28 = 2 := by kernel_rfl
    rw [hc28] at hx
    obtain ⟨x, hX⟩ := choose_lt (n := n) (p := fun i z => is128 z ∧ W.cell? (a'.add (i * 2)) = some (.int .u64 (z % 18446744073709551616)) ∧ W.cell? ((a'.add (i * 2)).add 1) = some (.int .u64 (z / 18446744073709551616))) (fun i hi => by
      obtain ⟨cs', h1, h2⟩ := hx i (by omega)
      obtain ⟨z, hz, rfl⟩ := trod_pair h2
      obtain ⟨_, _, hcell⟩ := World.cells?_some h1
      have c0 := hcell 0 (by omega)
      have c1 := hcell 1 (by omega)
      refine ⟨z, hz, by simpa [Addr.add] using c0, by simpa using c1⟩)
    refine ⟨some a', n, cap, x, rfl, by unfold maxLen at hmax; omega, fun j hj => (hX j hj).1, ⟨fun j hj => ⟨a'.add (j * 2), fun w' => run_index_at90 hj w', (hX j hj).2.1, (hX j hj).2.2, block_lt_of_cell (hX j hj).2.1⟩⟩⟩
end
end Go.Proofs.Ytnajihlhcdedgaa
