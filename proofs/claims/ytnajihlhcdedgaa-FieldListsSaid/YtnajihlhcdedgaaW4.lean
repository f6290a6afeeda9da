/-
  The walks of wide: fold.
-/
import Derived.Test.YtnajihlhcdedgaaW3
import Derived.Deep.Cut
namespace Go.Proofs.Ytnajihlhcdedgaa
open Go.RowKit
set_option linter.unusedVariables false
set_option linter.unusedSimpArgs false
attribute [local simp] blkAt_setCell blkAt_alloc blkAt_drew Obj.put_cells

set_option maxRecDepth 100000 in
set_option maxHeartbeats 8000000 in
theorem w_fold_raw (q0 q1 q2 q3 m0 m1 m2 m3 s0 c0 s1 c1 s2 c2 s3 c3 r0 d0 r1 d1 r2 d2 r3 d3 : Int)
    (hPr : Pure Try.prog 119 #[.agg #[.int .u64 q2, .int .u64 q3], .agg #[.int .u64 0, .int .u64 28]] (.agg #[.int .u64 m0, .int .u64 m1, .int .u64 m2, .int .u64 m3]))
    (SA0 : ∀ w, (callFunc 110 #[.int .u64 q0, .int .u64 m0, .int .u64 0]).run Try.prog w = .ok (.value (.tuple #[.int .u64 s0, .int .u64 c0])) w)
    (SA1 : ∀ w, (callFunc 110 #[.int .u64 q1, .int .u64 m1, .int .u64 c0]).run Try.prog w = .ok (.value (.tuple #[.int .u64 s1, .int .u64 c1])) w)
    (SA2 : ∀ w, (callFunc 110 #[.int .u64 0, .int .u64 m2, .int .u64 c1]).run Try.prog w = .ok (.value (.tuple #[.int .u64 s2, .int .u64 c2])) w)
    (SA3 : ∀ w, (callFunc 110 #[.int .u64 0, .int .u64 m3, .int .u64 c2]).run Try.prog w = .ok (.value (.tuple #[.int .u64 s3, .int .u64 c3])) w)
    (SB0 : ∀ w, (callFunc 133 #[.int .u64 s0, .int .u64 q2, .int .u64 0]).run Try.prog w = .ok (.value (.tuple #[.int .u64 r0, .int .u64 d0])) w)
    (SB1 : ∀ w, (callFunc 133 #[.int .u64 s1, .int .u64 q3, .int .u64 d0]).run Try.prog w = .ok (.value (.tuple #[.int .u64 r1, .int .u64 d1])) w)
    (SB2 : ∀ w, (callFunc 133 #[.int .u64 s2, .int .u64 0, .int .u64 d1]).run Try.prog w = .ok (.value (.tuple #[.int .u64 r2, .int .u64 d2])) w)
    (SB3 : ∀ w, (callFunc 133 #[.int .u64 s3, .int .u64 0, .int .u64 d2]).run Try.prog w = .ok (.value (.tuple #[.int .u64 r3, .int .u64 d3])) w) :
    Pure Try.prog 120 #[.agg #[.int .u64 q0, .int .u64 q1, .int .u64 q2, .int .u64 q3]] (.agg #[.int .u64 r0, .int .u64 r1, .int .u64 r2, .int .u64 r3]) := fun w => by
  have HPr := Lib.hid hPr
  clear hPr
  have ne0_2 : w.heap.size ≠ w.heap.size + 1 + 1 := by omega
  have ne2_0 : w.heap.size + 1 + 1 ≠ w.heap.size := by omega
  go_enter Try.func120, Try.ntmps120
  go_wp2_with fail
  refine abs_calls (fun W => Kept w W ∧ Blk W (w.heap.size) 131 #[.int .u64 q0, .int .u64 q1, .int .u64 q2, .int .u64 q3] ∧ Blk W (w.heap.size + 1) 131 #[.int .u64 0, .int .u64 0, .int .u64 0, .int .u64 0] ∧ Blk W (w.heap.size + 1 + 1) 28 #[.int .u64 q2, .int .u64 q3]) ?_ ?_
  · refine ⟨?_, ?_, ?_, ?_⟩
    · repeat (first | exact Kept.refl _ | (refine Kept.setCell ?_ (kept_side (by first | assumption | omega)) _) | apply Kept.alloc | apply Kept.drew)
    · simp [Blk, *] <;> (intros; omega)
    · simp [Blk, *] <;> (intros; omega)
    · simp [Blk, *] <;> (intros; omega)
  rintro W1 ⟨kW1, BW1_0, BW1_1, BW1_2⟩
  have cW1_0_0 : W1.cell? ⟨w.heap.size, 0, none⟩ = some (.int .u64 q0) := BW1_0.cell 0 rfl
  have cW1_0_1 : W1.cell? ⟨w.heap.size, 1, none⟩ = some (.int .u64 q1) := BW1_0.cell 1 rfl
  have cW1_0_2 : W1.cell? ⟨w.heap.size, 2, none⟩ = some (.int .u64 q2) := BW1_0.cell 2 rfl
  have cW1_0_3 : W1.cell? ⟨w.heap.size, 3, none⟩ = some (.int .u64 q3) := BW1_0.cell 3 rfl
  have fW1_0 := BW1_0.free
  have cW1_1_0 : W1.cell? ⟨w.heap.size + 1, 0, none⟩ = some (.int .u64 0) := BW1_1.cell 0 rfl
  have cW1_1_1 : W1.cell? ⟨w.heap.size + 1, 1, none⟩ = some (.int .u64 0) := BW1_1.cell 1 rfl
  have cW1_1_2 : W1.cell? ⟨w.heap.size + 1, 2, none⟩ = some (.int .u64 0) := BW1_1.cell 2 rfl
  have cW1_1_3 : W1.cell? ⟨w.heap.size + 1, 3, none⟩ = some (.int .u64 0) := BW1_1.cell 3 rfl
  have fW1_1 := BW1_1.free
  have cW1_2_0 : W1.cell? ⟨w.heap.size + 1 + 1, 0, none⟩ = some (.int .u64 q2) := BW1_2.cell 0 rfl
  have cW1_2_1 : W1.cell? ⟨w.heap.size + 1 + 1, 1, none⟩ = some (.int .u64 q3) := BW1_2.cell 1 rfl
  have fW1_2 := BW1_2.free
  refine (HPr.out _).mono ?_
  rintro e W2 ⟨rfl, hkW2⟩
  have kW2 := kW1.trans hkW2
  have BW2_0 := BW1_0.kept hkW2
  have BW2_1 := BW1_1.kept hkW2
  have BW2_2 := BW1_2.kept hkW2
  clear cW1_0_0 cW1_0_1 cW1_0_2 cW1_0_3 cW1_1_0 cW1_1_1 cW1_1_2 cW1_1_3 cW1_2_0 cW1_2_1 fW1_0 fW1_1 fW1_2 BW1_0 BW1_1 BW1_2 kW1 hkW2
  have cW2_0_0 : W2.cell? ⟨w.heap.size, 0, none⟩ = some (.int .u64 q0) := BW2_0.cell 0 rfl
  have cW2_0_1 : W2.cell? ⟨w.heap.size, 1, none⟩ = some (.int .u64 q1) := BW2_0.cell 1 rfl
  have cW2_0_2 : W2.cell? ⟨w.heap.size, 2, none⟩ = some (.int .u64 q2) := BW2_0.cell 2 rfl
  have cW2_0_3 : W2.cell? ⟨w.heap.size, 3, none⟩ = some (.int .u64 q3) := BW2_0.cell 3 rfl
  have fW2_0 := BW2_0.free
  have cW2_1_0 : W2.cell? ⟨w.heap.size + 1, 0, none⟩ = some (.int .u64 0) := BW2_1.cell 0 rfl
  have cW2_1_1 : W2.cell? ⟨w.heap.size + 1, 1, none⟩ = some (.int .u64 0) := BW2_1.cell 1 rfl
  have cW2_1_2 : W2.cell? ⟨w.heap.size + 1, 2, none⟩ = some (.int .u64 0) := BW2_1.cell 2 rfl
  have cW2_1_3 : W2.cell? ⟨w.heap.size + 1, 3, none⟩ = some (.int .u64 0) := BW2_1.cell 3 rfl
  have fW2_1 := BW2_1.free
  have cW2_2_0 : W2.cell? ⟨w.heap.size + 1 + 1, 0, none⟩ = some (.int .u64 q2) := BW2_2.cell 0 rfl
  have cW2_2_1 : W2.cell? ⟨w.heap.size + 1 + 1, 1, none⟩ = some (.int .u64 q3) := BW2_2.cell 1 rfl
  have fW2_2 := BW2_2.free
  obtain ⟨e4, he4⟩ : ∃ b, W2.heap.size = b := ⟨_, rfl⟩
  have nee4_0 : w.heap.size ≠ e4 := by have := BW2_0.lt; omega
  have ene4_0 : e4 ≠ w.heap.size := nee4_0.symm
  have nee4_1 : w.heap.size + 1 ≠ e4 := by have := BW2_1.lt; omega
  have ene4_1 : e4 ≠ w.heap.size + 1 := nee4_1.symm
  have nee4_2 : w.heap.size + 1 + 1 ≠ e4 := by have := BW2_2.lt; omega
  have ene4_2 : e4 ≠ w.heap.size + 1 + 1 := nee4_2.symm
  have loe4 : w.heap.size ≤ e4 := he4 ▸ kW2.size
  have lo5 : w.heap.size ≤ e4 + 1 := by omega
  have nn0_1 : w.heap.size ≠ e4 + 1 := by have := BW2_0.lt; omega
  have mm0_1 : e4 + 1 ≠ w.heap.size := nn0_1.symm
  have nn1_1 : w.heap.size + 1 ≠ e4 + 1 := by have := BW2_1.lt; omega
  have mm1_1 : e4 + 1 ≠ w.heap.size + 1 := nn1_1.symm
  have nn2_1 : w.heap.size + 1 + 1 ≠ e4 + 1 := by have := BW2_2.lt; omega
  have mm2_1 : e4 + 1 ≠ w.heap.size + 1 + 1 := nn2_1.symm
  go_upto_region 5 with (fail)
  refine abs_world (fun W => Kept w W ∧ Blk W (w.heap.size) 131 #[.int .u64 q0, .int .u64 q1, .int .u64 q2, .int .u64 q3] ∧ Blk W (w.heap.size + 1) 131 #[.int .u64 0, .int .u64 0, .int .u64 0, .int .u64 0] ∧ Blk W (w.heap.size + 1 + 1) 28 #[.int .u64 q2, .int .u64 q3] ∧ Blk W (e4) 131 #[.int .u64 m0, .int .u64 m1, .int .u64 m2, .int .u64 m3] ∧ Blk W (e4 + 1) 131 #[.int .u64 0, .int .u64 0, .int .u64 0, .int .u64 0]) ?_ ?_
  · refine ⟨?_, ?_, ?_, ?_, ?_, ?_⟩
    · repeat (first | exact kW2 | (refine Kept.setCell ?_ (kept_side (by first | assumption | omega)) _) | apply Kept.alloc | apply Kept.drew)
    · simp [Blk, *] <;> (intros; omega)
    · simp [Blk, *] <;> (intros; omega)
    · simp [Blk, *] <;> (intros; omega)
    · simp [Blk, *] <;> (intros; omega)
    · simp [Blk, *] <;> (intros; omega)
  rintro W3 ⟨kW3, BW3_0, BW3_1, BW3_2, BW3_3, BW3_4⟩
  have cW3_0_0 : W3.cell? ⟨w.heap.size, 0, none⟩ = some (.int .u64 q0) := BW3_0.cell 0 rfl
  have cW3_0_1 : W3.cell? ⟨w.heap.size, 1, none⟩ = some (.int .u64 q1) := BW3_0.cell 1 rfl
  have cW3_0_2 : W3.cell? ⟨w.heap.size, 2, none⟩ = some (.int .u64 q2) := BW3_0.cell 2 rfl
  have cW3_0_3 : W3.cell? ⟨w.heap.size, 3, none⟩ = some (.int .u64 q3) := BW3_0.cell 3 rfl
  have fW3_0 := BW3_0.free
  have cW3_1_0 : W3.cell? ⟨w.heap.size + 1, 0, none⟩ = some (.int .u64 0) := BW3_1.cell 0 rfl
  have cW3_1_1 : W3.cell? ⟨w.heap.size + 1, 1, none⟩ = some (.int .u64 0) := BW3_1.cell 1 rfl
  have cW3_1_2 : W3.cell? ⟨w.heap.size + 1, 2, none⟩ = some (.int .u64 0) := BW3_1.cell 2 rfl
  have cW3_1_3 : W3.cell? ⟨w.heap.size + 1, 3, none⟩ = some (.int .u64 0) := BW3_1.cell 3 rfl
  have fW3_1 := BW3_1.free
  have cW3_2_0 : W3.cell? ⟨w.heap.size + 1 + 1, 0, none⟩ = some (.int .u64 q2) := BW3_2.cell 0 rfl
  have cW3_2_1 : W3.cell? ⟨w.heap.size + 1 + 1, 1, none⟩ = some (.int .u64 q3) := BW3_2.cell 1 rfl
  have fW3_2 := BW3_2.free
  have cW3_3_0 : W3.cell? ⟨e4, 0, none⟩ = some (.int .u64 m0) := BW3_3.cell 0 rfl
  have cW3_3_1 : W3.cell? ⟨e4, 1, none⟩ = some (.int .u64 m1) := BW3_3.cell 1 rfl
  have cW3_3_2 : W3.cell? ⟨e4, 2, none⟩ = some (.int .u64 m2) := BW3_3.cell 2 rfl
  have cW3_3_3 : W3.cell? ⟨e4, 3, none⟩ = some (.int .u64 m3) := BW3_3.cell 3 rfl
  have fW3_3 := BW3_3.free
  have cW3_4_0 : W3.cell? ⟨e4 + 1, 0, none⟩ = some (.int .u64 0) := BW3_4.cell 0 rfl
  have cW3_4_1 : W3.cell? ⟨e4 + 1, 1, none⟩ = some (.int .u64 0) := BW3_4.cell 1 rfl
  have cW3_4_2 : W3.cell? ⟨e4 + 1, 2, none⟩ = some (.int .u64 0) := BW3_4.cell 2 rfl
  have cW3_4_3 : W3.cell? ⟨e4 + 1, 3, none⟩ = some (.int .u64 0) := BW3_4.cell 3 rfl
  have fW3_4 := BW3_4.free
  obtain ⟨e6, he6⟩ : ∃ b, W3.heap.size = b := ⟨_, rfl⟩
  have nee6_0 : w.heap.size ≠ e6 := by have := BW3_0.lt; omega
  have ene6_0 : e6 ≠ w.heap.size := nee6_0.symm
  have nee6_1 : w.heap.size + 1 ≠ e6 := by have := BW3_1.lt; omega
  have ene6_1 : e6 ≠ w.heap.size + 1 := nee6_1.symm
  have nee6_2 : w.heap.size + 1 + 1 ≠ e6 := by have := BW3_2.lt; omega
  have ene6_2 : e6 ≠ w.heap.size + 1 + 1 := nee6_2.symm
  have nee6_3 : e4 ≠ e6 := by have := BW3_3.lt; omega
  have ene6_3 : e6 ≠ e4 := nee6_3.symm
  have nee6_4 : e4 + 1 ≠ e6 := by have := BW3_4.lt; omega
  have ene6_4 : e6 ≠ e4 + 1 := nee6_4.symm
  have loe6 : w.heap.size ≤ e6 := he6 ▸ kW3.size
  go_wp2_with fail
  refine wp_loop_rounds 5 ?_
  rw [rounds_succ]
  go_wp2_with fail
  refine abs_world (fun W => Kept w W ∧ Blk W (w.heap.size) 131 #[.int .u64 q0, .int .u64 q1, .int .u64 q2, .int .u64 q3] ∧ Blk W (w.heap.size + 1) 131 #[.int .u64 0, .int .u64 0, .int .u64 0, .int .u64 0] ∧ Blk W (w.heap.size + 1 + 1) 28 #[.int .u64 q2, .int .u64 q3] ∧ Blk W (e4) 131 #[.int .u64 m0, .int .u64 m1, .int .u64 m2, .int .u64 m3] ∧ Blk W (e4 + 1) 131 #[.int .u64 0, .int .u64 0, .int .u64 0, .int .u64 0] ∧ Blk W (e6) 131 #[.int .u64 q0, .int .u64 q1, .int .u64 0, .int .u64 0]) ?_ ?_
  · refine ⟨?_, ?_, ?_, ?_, ?_, ?_, ?_⟩
    · repeat (first | exact kW3 | (refine Kept.setCell ?_ (kept_side (by first | assumption | omega)) _) | apply Kept.alloc | apply Kept.drew)
    · simp [Blk, *] <;> (intros; omega)
    · simp [Blk, *] <;> (intros; omega)
    · simp [Blk, *] <;> (intros; omega)
    · simp [Blk, *] <;> (intros; omega)
    · simp [Blk, *] <;> (intros; omega)
    · simp [Blk, *] <;> (intros; omega)
  rintro W4 ⟨kW4, BW4_0, BW4_1, BW4_2, BW4_3, BW4_4, BW4_5⟩
  have cW4_0_0 : W4.cell? ⟨w.heap.size, 0, none⟩ = some (.int .u64 q0) := BW4_0.cell 0 rfl
  have cW4_0_1 : W4.cell? ⟨w.heap.size, 1, none⟩ = some (.int .u64 q1) := BW4_0.cell 1 rfl
  have cW4_0_2 : W4.cell? ⟨w.heap.size, 2, none⟩ = some (.int .u64 q2) := BW4_0.cell 2 rfl
  have cW4_0_3 : W4.cell? ⟨w.heap.size, 3, none⟩ = some (.int .u64 q3) := BW4_0.cell 3 rfl
  have fW4_0 := BW4_0.free
  have cW4_1_0 : W4.cell? ⟨w.heap.size + 1, 0, none⟩ = some (.int .u64 0) := BW4_1.cell 0 rfl
  have cW4_1_1 : W4.cell? ⟨w.heap.size + 1, 1, none⟩ = some (.int .u64 0) := BW4_1.cell 1 rfl
  have cW4_1_2 : W4.cell? ⟨w.heap.size + 1, 2, none⟩ = some (.int .u64 0) := BW4_1.cell 2 rfl
  have cW4_1_3 : W4.cell? ⟨w.heap.size + 1, 3, none⟩ = some (.int .u64 0) := BW4_1.cell 3 rfl
  have fW4_1 := BW4_1.free
  have cW4_2_0 : W4.cell? ⟨w.heap.size + 1 + 1, 0, none⟩ = some (.int .u64 q2) := BW4_2.cell 0 rfl
  have cW4_2_1 : W4.cell? ⟨w.heap.size + 1 + 1, 1, none⟩ = some (.int .u64 q3) := BW4_2.cell 1 rfl
  have fW4_2 := BW4_2.free
  have cW4_3_0 : W4.cell? ⟨e4, 0, none⟩ = some (.int .u64 m0) := BW4_3.cell 0 rfl
  have cW4_3_1 : W4.cell? ⟨e4, 1, none⟩ = some (.int .u64 m1) := BW4_3.cell 1 rfl
  have cW4_3_2 : W4.cell? ⟨e4, 2, none⟩ = some (.int .u64 m2) := BW4_3.cell 2 rfl
  have cW4_3_3 : W4.cell? ⟨e4, 3, none⟩ = some (.int .u64 m3) := BW4_3.cell 3 rfl
  have fW4_3 := BW4_3.free
  have cW4_4_0 : W4.cell? ⟨e4 + 1, 0, none⟩ = some (.int .u64 0) := BW4_4.cell 0 rfl
  have cW4_4_1 : W4.cell? ⟨e4 + 1, 1, none⟩ = some (.int .u64 0) := BW4_4.cell 1 rfl
  have cW4_4_2 : W4.cell? ⟨e4 + 1, 2, none⟩ = some (.int .u64 0) := BW4_4.cell 2 rfl
  have cW4_4_3 : W4.cell? ⟨e4 + 1, 3, none⟩ = some (.int .u64 0) := BW4_4.cell 3 rfl
  have fW4_4 := BW4_4.free
  have cW4_5_0 : W4.cell? ⟨e6, 0, none⟩ = some (.int .u64 q0) := BW4_5.cell 0 rfl
  have cW4_5_1 : W4.cell? ⟨e6, 1, none⟩ = some (.int .u64 q1) := BW4_5.cell 1 rfl
  have cW4_5_2 : W4.cell? ⟨e6, 2, none⟩ = some (.int .u64 0) := BW4_5.cell 2 rfl
  have cW4_5_3 : W4.cell? ⟨e6, 3, none⟩ = some (.int .u64 0) := BW4_5.cell 3 rfl
  have fW4_5 := BW4_5.free
  go_region
  go_wp2_with fail
  rw [rounds_succ]
  go_wp2_with fail
  refine abs_world (fun W => Kept w W ∧ Blk W (w.heap.size) 131 #[.int .u64 q0, .int .u64 q1, .int .u64 q2, .int .u64 q3] ∧ Blk W (w.heap.size + 1) 131 #[.int .u64 0, .int .u64 0, .int .u64 0, .int .u64 0] ∧ Blk W (w.heap.size + 1 + 1) 28 #[.int .u64 q2, .int .u64 q3] ∧ Blk W (e4) 131 #[.int .u64 m0, .int .u64 m1, .int .u64 m2, .int .u64 m3] ∧ Blk W (e4 + 1) 131 #[.int .u64 s0, .int .u64 0, .int .u64 0, .int .u64 0] ∧ Blk W (e6) 131 #[.int .u64 q0, .int .u64 q1, .int .u64 0, .int .u64 0]) ?_ ?_
  · refine ⟨?_, ?_, ?_, ?_, ?_, ?_, ?_⟩
    · repeat (first | exact kW4 | (refine Kept.setCell ?_ (kept_side (by first | assumption | omega)) _) | apply Kept.alloc | apply Kept.drew)
    · simp [Blk, *] <;> (intros; omega)
    · simp [Blk, *] <;> (intros; omega)
    · simp [Blk, *] <;> (intros; omega)
    · simp [Blk, *] <;> (intros; omega)
    · simp [Blk, *] <;> (intros; omega)
    · simp [Blk, *] <;> (intros; omega)
  rintro W5 ⟨kW5, BW5_0, BW5_1, BW5_2, BW5_3, BW5_4, BW5_5⟩
  have cW5_0_0 : W5.cell? ⟨w.heap.size, 0, none⟩ = some (.int .u64 q0) := BW5_0.cell 0 rfl
  have cW5_0_1 : W5.cell? ⟨w.heap.size, 1, none⟩ = some (.int .u64 q1) := BW5_0.cell 1 rfl
  have cW5_0_2 : W5.cell? ⟨w.heap.size, 2, none⟩ = some (.int .u64 q2) := BW5_0.cell 2 rfl
  have cW5_0_3 : W5.cell? ⟨w.heap.size, 3, none⟩ = some (.int .u64 q3) := BW5_0.cell 3 rfl
  have fW5_0 := BW5_0.free
  have cW5_1_0 : W5.cell? ⟨w.heap.size + 1, 0, none⟩ = some (.int .u64 0) := BW5_1.cell 0 rfl
  have cW5_1_1 : W5.cell? ⟨w.heap.size + 1, 1, none⟩ = some (.int .u64 0) := BW5_1.cell 1 rfl
  have cW5_1_2 : W5.cell? ⟨w.heap.size + 1, 2, none⟩ = some (.int .u64 0) := BW5_1.cell 2 rfl
  have cW5_1_3 : W5.cell? ⟨w.heap.size + 1, 3, none⟩ = some (.int .u64 0) := BW5_1.cell 3 rfl
  have fW5_1 := BW5_1.free
  have cW5_2_0 : W5.cell? ⟨w.heap.size + 1 + 1, 0, none⟩ = some (.int .u64 q2) := BW5_2.cell 0 rfl
  have cW5_2_1 : W5.cell? ⟨w.heap.size + 1 + 1, 1, none⟩ = some (.int .u64 q3) := BW5_2.cell 1 rfl
  have fW5_2 := BW5_2.free
  have cW5_3_0 : W5.cell? ⟨e4, 0, none⟩ = some (.int .u64 m0) := BW5_3.cell 0 rfl
  have cW5_3_1 : W5.cell? ⟨e4, 1, none⟩ = some (.int .u64 m1) := BW5_3.cell 1 rfl
  have cW5_3_2 : W5.cell? ⟨e4, 2, none⟩ = some (.int .u64 m2) := BW5_3.cell 2 rfl
  have cW5_3_3 : W5.cell? ⟨e4, 3, none⟩ = some (.int .u64 m3) := BW5_3.cell 3 rfl
  have fW5_3 := BW5_3.free
  have cW5_4_0 : W5.cell? ⟨e4 + 1, 0, none⟩ = some (.int .u64 s0) := BW5_4.cell 0 rfl
  have cW5_4_1 : W5.cell? ⟨e4 + 1, 1, none⟩ = some (.int .u64 0) := BW5_4.cell 1 rfl
  have cW5_4_2 : W5.cell? ⟨e4 + 1, 2, none⟩ = some (.int .u64 0) := BW5_4.cell 2 rfl
  have cW5_4_3 : W5.cell? ⟨e4 + 1, 3, none⟩ = some (.int .u64 0) := BW5_4.cell 3 rfl
  have fW5_4 := BW5_4.free
  have cW5_5_0 : W5.cell? ⟨e6, 0, none⟩ = some (.int .u64 q0) := BW5_5.cell 0 rfl
  have cW5_5_1 : W5.cell? ⟨e6, 1, none⟩ = some (.int .u64 q1) := BW5_5.cell 1 rfl
  have cW5_5_2 : W5.cell? ⟨e6, 2, none⟩ = some (.int .u64 0) := BW5_5.cell 2 rfl
  have cW5_5_3 : W5.cell? ⟨e6, 3, none⟩ = some (.int .u64 0) := BW5_5.cell 3 rfl
  have fW5_5 := BW5_5.free
  go_region
  go_wp2_with fail
  rw [rounds_succ]
  go_wp2_with fail
  refine abs_world (fun W => Kept w W ∧ Blk W (w.heap.size) 131 #[.int .u64 q0, .int .u64 q1, .int .u64 q2, .int .u64 q3] ∧ Blk W (w.heap.size + 1) 131 #[.int .u64 0, .int .u64 0, .int .u64 0, .int .u64 0] ∧ Blk W (w.heap.size + 1 + 1) 28 #[.int .u64 q2, .int .u64 q3] ∧ Blk W (e4) 131 #[.int .u64 m0, .int .u64 m1, .int .u64 m2, .int .u64 m3] ∧ Blk W (e4 + 1) 131 #[.int .u64 s0, .int .u64 s1, .int .u64 0, .int .u64 0] ∧ Blk W (e6) 131 #[.int .u64 q0, .int .u64 q1, .int .u64 0, .int .u64 0]) ?_ ?_
  · refine ⟨?_, ?_, ?_, ?_, ?_, ?_, ?_⟩
    · repeat (first | exact kW5 | (refine Kept.setCell ?_ (kept_side (by first | assumption | omega)) _) | apply Kept.alloc | apply Kept.drew)
    · simp [Blk, *] <;> (intros; omega)
    · simp [Blk, *] <;> (intros; omega)
    · simp [Blk, *] <;> (intros; omega)
    · simp [Blk, *] <;> (intros; omega)
    · simp [Blk, *] <;> (intros; omega)
    · simp [Blk, *] <;> (intros; omega)
  rintro W6 ⟨kW6, BW6_0, BW6_1, BW6_2, BW6_3, BW6_4, BW6_5⟩
  have cW6_0_0 : W6.cell? ⟨w.heap.size, 0, none⟩ = some (.int .u64 q0) := BW6_0.cell 0 rfl
  have cW6_0_1 : W6.cell? ⟨w.heap.size, 1, none⟩ = some (.int .u64 q1) := BW6_0.cell 1 rfl
  have cW6_0_2 : W6.cell? ⟨w.heap.size, 2, none⟩ = some (.int .u64 q2) := BW6_0.cell 2 rfl
  have cW6_0_3 : W6.cell? ⟨w.heap.size, 3, none⟩ = some (.int .u64 q3) := BW6_0.cell 3 rfl
  have fW6_0 := BW6_0.free
  have cW6_1_0 : W6.cell? ⟨w.heap.size + 1, 0, none⟩ = some (.int .u64 0) := BW6_1.cell 0 rfl
  have cW6_1_1 : W6.cell? ⟨w.heap.size + 1, 1, none⟩ = some (.int .u64 0) := BW6_1.cell 1 rfl
  have cW6_1_2 : W6.cell? ⟨w.heap.size + 1, 2, none⟩ = some (.int .u64 0) := BW6_1.cell 2 rfl
  have cW6_1_3 : W6.cell? ⟨w.heap.size + 1, 3, none⟩ = some (.int .u64 0) := BW6_1.cell 3 rfl
  have fW6_1 := BW6_1.free
  have cW6_2_0 : W6.cell? ⟨w.heap.size + 1 + 1, 0, none⟩ = some (.int .u64 q2) := BW6_2.cell 0 rfl
  have cW6_2_1 : W6.cell? ⟨w.heap.size + 1 + 1, 1, none⟩ = some (.int .u64 q3) := BW6_2.cell 1 rfl
  have fW6_2 := BW6_2.free
  have cW6_3_0 : W6.cell? ⟨e4, 0, none⟩ = some (.int .u64 m0) := BW6_3.cell 0 rfl
  have cW6_3_1 : W6.cell? ⟨e4, 1, none⟩ = some (.int .u64 m1) := BW6_3.cell 1 rfl
  have cW6_3_2 : W6.cell? ⟨e4, 2, none⟩ = some (.int .u64 m2) := BW6_3.cell 2 rfl
  have cW6_3_3 : W6.cell? ⟨e4, 3, none⟩ = some (.int .u64 m3) := BW6_3.cell 3 rfl
  have fW6_3 := BW6_3.free
  have cW6_4_0 : W6.cell? ⟨e4 + 1, 0, none⟩ = some (.int .u64 s0) := BW6_4.cell 0 rfl
  have cW6_4_1 : W6.cell? ⟨e4 + 1, 1, none⟩ = some (.int .u64 s1) := BW6_4.cell 1 rfl
  have cW6_4_2 : W6.cell? ⟨e4 + 1, 2, none⟩ = some (.int .u64 0) := BW6_4.cell 2 rfl
  have cW6_4_3 : W6.cell? ⟨e4 + 1, 3, none⟩ = some (.int .u64 0) := BW6_4.cell 3 rfl
  have fW6_4 := BW6_4.free
  have cW6_5_0 : W6.cell? ⟨e6, 0, none⟩ = some (.int .u64 q0) := BW6_5.cell 0 rfl
  have cW6_5_1 : W6.cell? ⟨e6, 1, none⟩ = some (.int .u64 q1) := BW6_5.cell 1 rfl
  have cW6_5_2 : W6.cell? ⟨e6, 2, none⟩ = some (.int .u64 0) := BW6_5.cell 2 rfl
  have cW6_5_3 : W6.cell? ⟨e6, 3, none⟩ = some (.int .u64 0) := BW6_5.cell 3 rfl
  have fW6_5 := BW6_5.free
  go_region
  go_wp2_with fail
  rw [rounds_succ]
  go_wp2_with fail
  refine abs_world (fun W => Kept w W ∧ Blk W (w.heap.size) 131 #[.int .u64 q0, .int .u64 q1, .int .u64 q2, .int .u64 q3] ∧ Blk W (w.heap.size + 1) 131 #[.int .u64 0, .int .u64 0, .int .u64 0, .int .u64 0] ∧ Blk W (w.heap.size + 1 + 1) 28 #[.int .u64 q2, .int .u64 q3] ∧ Blk W (e4) 131 #[.int .u64 m0, .int .u64 m1, .int .u64 m2, .int .u64 m3] ∧ Blk W (e4 + 1) 131 #[.int .u64 s0, .int .u64 s1, .int .u64 s2, .int .u64 0] ∧ Blk W (e6) 131 #[.int .u64 q0, .int .u64 q1, .int .u64 0, .int .u64 0]) ?_ ?_
  · refine ⟨?_, ?_, ?_, ?_, ?_, ?_, ?_⟩
    · repeat (first | exact kW6 | (refine Kept.setCell ?_ (kept_side (by first | assumption | omega)) _) | apply Kept.alloc | apply Kept.drew)
    · simp [Blk, *] <;> (intros; omega)
    · simp [Blk, *] <;> (intros; omega)
    · simp [Blk, *] <;> (intros; omega)
    · simp [Blk, *] <;> (intros; omega)
    · simp [Blk, *] <;> (intros; omega)
    · simp [Blk, *] <;> (intros; omega)
  rintro W7 ⟨kW7, BW7_0, BW7_1, BW7_2, BW7_3, BW7_4, BW7_5⟩
  have cW7_0_0 : W7.cell? ⟨w.heap.size, 0, none⟩ = some (.int .u64 q0) := BW7_0.cell 0 rfl
  have cW7_0_1 : W7.cell? ⟨w.heap.size, 1, none⟩ = some (.int .u64 q1) := BW7_0.cell 1 rfl
  have cW7_0_2 : W7.cell? ⟨w.heap.size, 2, none⟩ = some (.int .u64 q2) := BW7_0.cell 2 rfl
  have cW7_0_3 : W7.cell? ⟨w.heap.size, 3, none⟩ = some (.int .u64 q3) := BW7_0.cell 3 rfl
  have fW7_0 := BW7_0.free
  have cW7_1_0 : W7.cell? ⟨w.heap.size + 1, 0, none⟩ = some (.int .u64 0) := BW7_1.cell 0 rfl
  have cW7_1_1 : W7.cell? ⟨w.heap.size + 1, 1, none⟩ = some (.int .u64 0) := BW7_1.cell 1 rfl
  have cW7_1_2 : W7.cell? ⟨w.heap.size + 1, 2, none⟩ = some (.int .u64 0) := BW7_1.cell 2 rfl
  have cW7_1_3 : W7.cell? ⟨w.heap.size + 1, 3, none⟩ = some (.int .u64 0) := BW7_1.cell 3 rfl
  have fW7_1 := BW7_1.free
  have cW7_2_0 : W7.cell? ⟨w.heap.size + 1 + 1, 0, none⟩ = some (.int .u64 q2) := BW7_2.cell 0 rfl
  have cW7_2_1 : W7.cell? ⟨w.heap.size + 1 + 1, 1, none⟩ = some (.int .u64 q3) := BW7_2.cell 1 rfl
  have fW7_2 := BW7_2.free
  have cW7_3_0 : W7.cell? ⟨e4, 0, none⟩ = some (.int .u64 m0) := BW7_3.cell 0 rfl
  have cW7_3_1 : W7.cell? ⟨e4, 1, none⟩ = some (.int .u64 m1) := BW7_3.cell 1 rfl
  have cW7_3_2 : W7.cell? ⟨e4, 2, none⟩ = some (.int .u64 m2) := BW7_3.cell 2 rfl
  have cW7_3_3 : W7.cell? ⟨e4, 3, none⟩ = some (.int .u64 m3) := BW7_3.cell 3 rfl
  have fW7_3 := BW7_3.free
  have cW7_4_0 : W7.cell? ⟨e4 + 1, 0, none⟩ = some (.int .u64 s0) := BW7_4.cell 0 rfl
  have cW7_4_1 : W7.cell? ⟨e4 + 1, 1, none⟩ = some (.int .u64 s1) := BW7_4.cell 1 rfl
  have cW7_4_2 : W7.cell? ⟨e4 + 1, 2, none⟩ = some (.int .u64 s2) := BW7_4.cell 2 rfl
  have cW7_4_3 : W7.cell? ⟨e4 + 1, 3, none⟩ = some (.int .u64 0) := BW7_4.cell 3 rfl
  have fW7_4 := BW7_4.free
  have cW7_5_0 : W7.cell? ⟨e6, 0, none⟩ = some (.int .u64 q0) := BW7_5.cell 0 rfl
  have cW7_5_1 : W7.cell? ⟨e6, 1, none⟩ = some (.int .u64 q1) := BW7_5.cell 1 rfl
  have cW7_5_2 : W7.cell? ⟨e6, 2, none⟩ = some (.int .u64 0) := BW7_5.cell 2 rfl
  have cW7_5_3 : W7.cell? ⟨e6, 3, none⟩ = some (.int .u64 0) := BW7_5.cell 3 rfl
  have fW7_5 := BW7_5.free
  go_region
  go_wp2_with fail
  rw [rounds_succ]
  obtain ⟨e9, he9⟩ : ∃ b, W7.heap.size = b := ⟨_, rfl⟩
  have nee9_0 : w.heap.size ≠ e9 := by have := BW7_0.lt; omega
  have ene9_0 : e9 ≠ w.heap.size := nee9_0.symm
  have nee9_1 : w.heap.size + 1 ≠ e9 := by have := BW7_1.lt; omega
  have ene9_1 : e9 ≠ w.heap.size + 1 := nee9_1.symm
  have nee9_2 : w.heap.size + 1 + 1 ≠ e9 := by have := BW7_2.lt; omega
  have ene9_2 : e9 ≠ w.heap.size + 1 + 1 := nee9_2.symm
  have nee9_3 : e4 ≠ e9 := by have := BW7_3.lt; omega
  have ene9_3 : e9 ≠ e4 := nee9_3.symm
  have nee9_4 : e4 + 1 ≠ e9 := by have := BW7_4.lt; omega
  have ene9_4 : e9 ≠ e4 + 1 := nee9_4.symm
  have nee9_5 : e6 ≠ e9 := by have := BW7_5.lt; omega
  have ene9_5 : e9 ≠ e6 := nee9_5.symm
  have loe9 : w.heap.size ≤ e9 := he9 ▸ kW7.size
  go_wp2_with fail
  refine wp_loop_rounds 5 ?_
  rw [rounds_succ]
  go_wp2_with fail
  refine abs_world (fun W => Kept w W ∧ Blk W (w.heap.size) 131 #[.int .u64 q0, .int .u64 q1, .int .u64 q2, .int .u64 q3] ∧ Blk W (w.heap.size + 1) 131 #[.int .u64 0, .int .u64 0, .int .u64 0, .int .u64 0] ∧ Blk W (w.heap.size + 1 + 1) 28 #[.int .u64 q2, .int .u64 q3] ∧ Blk W (e4) 131 #[.int .u64 m0, .int .u64 m1, .int .u64 m2, .int .u64 m3] ∧ Blk W (e4 + 1) 131 #[.int .u64 s0, .int .u64 s1, .int .u64 s2, .int .u64 s3] ∧ Blk W (e6) 131 #[.int .u64 q0, .int .u64 q1, .int .u64 0, .int .u64 0] ∧ Blk W (e9) 131 #[.int .u64 q2, .int .u64 q3, .int .u64 0, .int .u64 0]) ?_ ?_
  · refine ⟨?_, ?_, ?_, ?_, ?_, ?_, ?_, ?_⟩
    · repeat (first | exact kW7 | (refine Kept.setCell ?_ (kept_side (by first | assumption | omega)) _) | apply Kept.alloc | apply Kept.drew)
    · simp [Blk, *] <;> (intros; omega)
    · simp [Blk, *] <;> (intros; omega)
    · simp [Blk, *] <;> (intros; omega)
    · simp [Blk, *] <;> (intros; omega)
    · simp [Blk, *] <;> (intros; omega)
    · simp [Blk, *] <;> (intros; omega)
    · simp [Blk, *] <;> (intros; omega)
  rintro W8 ⟨kW8, BW8_0, BW8_1, BW8_2, BW8_3, BW8_4, BW8_5, BW8_6⟩
  have cW8_0_0 : W8.cell? ⟨w.heap.size, 0, none⟩ = some (.int .u64 q0) := BW8_0.cell 0 rfl
  have cW8_0_1 : W8.cell? ⟨w.heap.size, 1, none⟩ = some (.int .u64 q1) := BW8_0.cell 1 rfl
  have cW8_0_2 : W8.cell? ⟨w.heap.size, 2, none⟩ = some (.int .u64 q2) := BW8_0.cell 2 rfl
  have cW8_0_3 : W8.cell? ⟨w.heap.size, 3, none⟩ = some (.int .u64 q3) := BW8_0.cell 3 rfl
  have fW8_0 := BW8_0.free
  have cW8_1_0 : W8.cell? ⟨w.heap.size + 1, 0, none⟩ = some (.int .u64 0) := BW8_1.cell 0 rfl
  have cW8_1_1 : W8.cell? ⟨w.heap.size + 1, 1, none⟩ = some (.int .u64 0) := BW8_1.cell 1 rfl
  have cW8_1_2 : W8.cell? ⟨w.heap.size + 1, 2, none⟩ = some (.int .u64 0) := BW8_1.cell 2 rfl
  have cW8_1_3 : W8.cell? ⟨w.heap.size + 1, 3, none⟩ = some (.int .u64 0) := BW8_1.cell 3 rfl
  have fW8_1 := BW8_1.free
  have cW8_2_0 : W8.cell? ⟨w.heap.size + 1 + 1, 0, none⟩ = some (.int .u64 q2) := BW8_2.cell 0 rfl
  have cW8_2_1 : W8.cell? ⟨w.heap.size + 1 + 1, 1, none⟩ = some (.int .u64 q3) := BW8_2.cell 1 rfl
  have fW8_2 := BW8_2.free
  have cW8_3_0 : W8.cell? ⟨e4, 0, none⟩ = some (.int .u64 m0) := BW8_3.cell 0 rfl
  have cW8_3_1 : W8.cell? ⟨e4, 1, none⟩ = some (.int .u64 m1) := BW8_3.cell 1 rfl
  have cW8_3_2 : W8.cell? ⟨e4, 2, none⟩ = some (.int .u64 m2) := BW8_3.cell 2 rfl
  have cW8_3_3 : W8.cell? ⟨e4, 3, none⟩ = some (.int .u64 m3) := BW8_3.cell 3 rfl
  have fW8_3 := BW8_3.free
  have cW8_4_0 : W8.cell? ⟨e4 + 1, 0, none⟩ = some (.int .u64 s0) := BW8_4.cell 0 rfl
  have cW8_4_1 : W8.cell? ⟨e4 + 1, 1, none⟩ = some (.int .u64 s1) := BW8_4.cell 1 rfl
  have cW8_4_2 : W8.cell? ⟨e4 + 1, 2, none⟩ = some (.int .u64 s2) := BW8_4.cell 2 rfl
  have cW8_4_3 : W8.cell? ⟨e4 + 1, 3, none⟩ = some (.int .u64 s3) := BW8_4.cell 3 rfl
  have fW8_4 := BW8_4.free
  have cW8_5_0 : W8.cell? ⟨e6, 0, none⟩ = some (.int .u64 q0) := BW8_5.cell 0 rfl
  have cW8_5_1 : W8.cell? ⟨e6, 1, none⟩ = some (.int .u64 q1) := BW8_5.cell 1 rfl
  have cW8_5_2 : W8.cell? ⟨e6, 2, none⟩ = some (.int .u64 0) := BW8_5.cell 2 rfl
  have cW8_5_3 : W8.cell? ⟨e6, 3, none⟩ = some (.int .u64 0) := BW8_5.cell 3 rfl
  have fW8_5 := BW8_5.free
  have cW8_6_0 : W8.cell? ⟨e9, 0, none⟩ = some (.int .u64 q2) := BW8_6.cell 0 rfl
  have cW8_6_1 : W8.cell? ⟨e9, 1, none⟩ = some (.int .u64 q3) := BW8_6.cell 1 rfl
  have cW8_6_2 : W8.cell? ⟨e9, 2, none⟩ = some (.int .u64 0) := BW8_6.cell 2 rfl
  have cW8_6_3 : W8.cell? ⟨e9, 3, none⟩ = some (.int .u64 0) := BW8_6.cell 3 rfl
  have fW8_6 := BW8_6.free
  go_region
  go_wp2_with fail
  rw [rounds_succ]
  go_wp2_with fail
  refine abs_world (fun W => Kept w W ∧ Blk W (w.heap.size) 131 #[.int .u64 q0, .int .u64 q1, .int .u64 q2, .int .u64 q3] ∧ Blk W (w.heap.size + 1) 131 #[.int .u64 0, .int .u64 0, .int .u64 0, .int .u64 0] ∧ Blk W (w.heap.size + 1 + 1) 28 #[.int .u64 q2, .int .u64 q3] ∧ Blk W (e4) 131 #[.int .u64 m0, .int .u64 m1, .int .u64 m2, .int .u64 m3] ∧ Blk W (e4 + 1) 131 #[.int .u64 r0, .int .u64 s1, .int .u64 s2, .int .u64 s3] ∧ Blk W (e6) 131 #[.int .u64 q0, .int .u64 q1, .int .u64 0, .int .u64 0] ∧ Blk W (e9) 131 #[.int .u64 q2, .int .u64 q3, .int .u64 0, .int .u64 0]) ?_ ?_
  · refine ⟨?_, ?_, ?_, ?_, ?_, ?_, ?_, ?_⟩
    · repeat (first | exact kW8 | (refine Kept.setCell ?_ (kept_side (by first | assumption | omega)) _) | apply Kept.alloc | apply Kept.drew)
    · simp [Blk, *] <;> (intros; omega)
    · simp [Blk, *] <;> (intros; omega)
    · simp [Blk, *] <;> (intros; omega)
    · simp [Blk, *] <;> (intros; omega)
    · simp [Blk, *] <;> (intros; omega)
    · simp [Blk, *] <;> (intros; omega)
    · simp [Blk, *] <;> (intros; omega)
  rintro W9 ⟨kW9, BW9_0, BW9_1, BW9_2, BW9_3, BW9_4, BW9_5, BW9_6⟩
  have cW9_0_0 : W9.cell? ⟨w.heap.size, 0, none⟩ = some (.int .u64 q0) := BW9_0.cell 0 rfl
  have cW9_0_1 : W9.cell? ⟨w.heap.size, 1, none⟩ = some (.int .u64 q1) := BW9_0.cell 1 rfl
  have cW9_0_2 : W9.cell? ⟨w.heap.size, 2, none⟩ = some (.int .u64 q2) := BW9_0.cell 2 rfl
  have cW9_0_3 : W9.cell? ⟨w.heap.size, 3, none⟩ = some (.int .u64 q3) := BW9_0.cell 3 rfl
  have fW9_0 := BW9_0.free
  have cW9_1_0 : W9.cell? ⟨w.heap.size + 1, 0, none⟩ = some (.int .u64 0) := BW9_1.cell 0 rfl
  have cW9_1_1 : W9.cell? ⟨w.heap.size + 1, 1, none⟩ = some (.int .u64 0) := BW9_1.cell 1 rfl
  have cW9_1_2 : W9.cell? ⟨w.heap.size + 1, 2, none⟩ = some (.int .u64 0) := BW9_1.cell 2 rfl
  have cW9_1_3 : W9.cell? ⟨w.heap.size + 1, 3, none⟩ = some (.int .u64 0) := BW9_1.cell 3 rfl
  have fW9_1 := BW9_1.free
  have cW9_2_0 : W9.cell? ⟨w.heap.size + 1 + 1, 0, none⟩ = some (.int .u64 q2) := BW9_2.cell 0 rfl
  have cW9_2_1 : W9.cell? ⟨w.heap.size + 1 + 1, 1, none⟩ = some (.int .u64 q3) := BW9_2.cell 1 rfl
  have fW9_2 := BW9_2.free
  have cW9_3_0 : W9.cell? ⟨e4, 0, none⟩ = some (.int .u64 m0) := BW9_3.cell 0 rfl
  have cW9_3_1 : W9.cell? ⟨e4, 1, none⟩ = some (.int .u64 m1) := BW9_3.cell 1 rfl
  have cW9_3_2 : W9.cell? ⟨e4, 2, none⟩ = some (.int .u64 m2) := BW9_3.cell 2 rfl
  have cW9_3_3 : W9.cell? ⟨e4, 3, none⟩ = some (.int .u64 m3) := BW9_3.cell 3 rfl
  have fW9_3 := BW9_3.free
  have cW9_4_0 : W9.cell? ⟨e4 + 1, 0, none⟩ = some (.int .u64 r0) := BW9_4.cell 0 rfl
  have cW9_4_1 : W9.cell? ⟨e4 + 1, 1, none⟩ = some (.int .u64 s1) := BW9_4.cell 1 rfl
  have cW9_4_2 : W9.cell? ⟨e4 + 1, 2, none⟩ = some (.int .u64 s2) := BW9_4.cell 2 rfl
  have cW9_4_3 : W9.cell? ⟨e4 + 1, 3, none⟩ = some (.int .u64 s3) := BW9_4.cell 3 rfl
  have fW9_4 := BW9_4.free
  have cW9_5_0 : W9.cell? ⟨e6, 0, none⟩ = some (.int .u64 q0) := BW9_5.cell 0 rfl
  have cW9_5_1 : W9.cell? ⟨e6, 1, none⟩ = some (.int .u64 q1) := BW9_5.cell 1 rfl
  have cW9_5_2 : W9.cell? ⟨e6, 2, none⟩ = some (.int .u64 0) := BW9_5.cell 2 rfl
  have cW9_5_3 : W9.cell? ⟨e6, 3, none⟩ = some (.int .u64 0) := BW9_5.cell 3 rfl
  have fW9_5 := BW9_5.free
  have cW9_6_0 : W9.cell? ⟨e9, 0, none⟩ = some (.int .u64 q2) := BW9_6.cell 0 rfl
  have cW9_6_1 : W9.cell? ⟨e9, 1, none⟩ = some (.int .u64 q3) := BW9_6.cell 1 rfl
  have cW9_6_2 : W9.cell? ⟨e9, 2, none⟩ = some (.int .u64 0) := BW9_6.cell 2 rfl
  have cW9_6_3 : W9.cell? ⟨e9, 3, none⟩ = some (.int .u64 0) := BW9_6.cell 3 rfl
  have fW9_6 := BW9_6.free
  go_region
  go_wp2_with fail
  rw [rounds_succ]
  go_wp2_with fail
  refine abs_world (fun W => Kept w W ∧ Blk W (w.heap.size) 131 #[.int .u64 q0, .int .u64 q1, .int .u64 q2, .int .u64 q3] ∧ Blk W (w.heap.size + 1) 131 #[.int .u64 0, .int .u64 0, .int .u64 0, .int .u64 0] ∧ Blk W (w.heap.size + 1 + 1) 28 #[.int .u64 q2, .int .u64 q3] ∧ Blk W (e4) 131 #[.int .u64 m0, .int .u64 m1, .int .u64 m2, .int .u64 m3] ∧ Blk W (e4 + 1) 131 #[.int .u64 r0, .int .u64 r1, .int .u64 s2, .int .u64 s3] ∧ Blk W (e6) 131 #[.int .u64 q0, .int .u64 q1, .int .u64 0, .int .u64 0] ∧ Blk W (e9) 131 #[.int .u64 q2, .int .u64 q3, .int .u64 0, .int .u64 0]) ?_ ?_
  · refine ⟨?_, ?_, ?_, ?_, ?_, ?_, ?_, ?_⟩
    · repeat (first | exact kW9 | (refine Kept.setCell ?_ (kept_side (by first | assumption | omega)) _) | apply Kept.alloc | apply Kept.drew)
    · simp [Blk, *] <;> (intros; omega)
    · simp [Blk, *] <;> (intros; omega)
    · simp [Blk, *] <;> (intros; omega)
    · simp [Blk, *] <;> (intros; omega)
    · simp [Blk, *] <;> (intros; omega)
    · simp [Blk, *] <;> (intros; omega)
    · simp [Blk, *] <;> (intros; omega)
  rintro W10 ⟨kW10, BW10_0, BW10_1, BW10_2, BW10_3, BW10_4, BW10_5, BW10_6⟩
  have cW10_0_0 : W10.cell? ⟨w.heap.size, 0, none⟩ = some (.int .u64 q0) := BW10_0.cell 0 rfl
  have cW10_0_1 : W10.cell? ⟨w.heap.size, 1, none⟩ = some (.int .u64 q1) := BW10_0.cell 1 rfl
  have cW10_0_2 : W10.cell? ⟨w.heap.size, 2, none⟩ = some (.int .u64 q2) := BW10_0.cell 2 rfl
  have cW10_0_3 : W10.cell? ⟨w.heap.size, 3, none⟩ = some (.int .u64 q3) := BW10_0.cell 3 rfl
  have fW10_0 := BW10_0.free
  have cW10_1_0 : W10.cell? ⟨w.heap.size + 1, 0, none⟩ = some (.int .u64 0) := BW10_1.cell 0 rfl
  have cW10_1_1 : W10.cell? ⟨w.heap.size + 1, 1, none⟩ = some (.int .u64 0) := BW10_1.cell 1 rfl
  have cW10_1_2 : W10.cell? ⟨w.heap.size + 1, 2, none⟩ = some (.int .u64 0) := BW10_1.cell 2 rfl
  have cW10_1_3 : W10.cell? ⟨w.heap.size + 1, 3, none⟩ = some (.int .u64 0) := BW10_1.cell 3 rfl
  have fW10_1 := BW10_1.free
  have cW10_2_0 : W10.cell? ⟨w.heap.size + 1 + 1, 0, none⟩ = some (.int .u64 q2) := BW10_2.cell 0 rfl
  have cW10_2_1 : W10.cell? ⟨w.heap.size + 1 + 1, 1, none⟩ = some (.int .u64 q3) := BW10_2.cell 1 rfl
  have fW10_2 := BW10_2.free
  have cW10_3_0 : W10.cell? ⟨e4, 0, none⟩ = some (.int .u64 m0) := BW10_3.cell 0 rfl
  have cW10_3_1 : W10.cell? ⟨e4, 1, none⟩ = some (.int .u64 m1) := BW10_3.cell 1 rfl
  have cW10_3_2 : W10.cell? ⟨e4, 2, none⟩ = some (.int .u64 m2) := BW10_3.cell 2 rfl
  have cW10_3_3 : W10.cell? ⟨e4, 3, none⟩ = some (.int .u64 m3) := BW10_3.cell 3 rfl
  have fW10_3 := BW10_3.free
  have cW10_4_0 : W10.cell? ⟨e4 + 1, 0, none⟩ = some (.int .u64 r0) := BW10_4.cell 0 rfl
  have cW10_4_1 : W10.cell? ⟨e4 + 1, 1, none⟩ = some (.int .u64 r1) := BW10_4.cell 1 rfl
  have cW10_4_2 : W10.cell? ⟨e4 + 1, 2, none⟩ = some (.int .u64 s2) := BW10_4.cell 2 rfl
  have cW10_4_3 : W10.cell? ⟨e4 + 1, 3, none⟩ = some (.int .u64 s3) := BW10_4.cell 3 rfl
  have fW10_4 := BW10_4.free
  have cW10_5_0 : W10.cell? ⟨e6, 0, none⟩ = some (.int .u64 q0) := BW10_5.cell 0 rfl
  have cW10_5_1 : W10.cell? ⟨e6, 1, none⟩ = some (.int .u64 q1) := BW10_5.cell 1 rfl
  have cW10_5_2 : W10.cell? ⟨e6, 2, none⟩ = some (.int .u64 0) := BW10_5.cell 2 rfl
  have cW10_5_3 : W10.cell? ⟨e6, 3, none⟩ = some (.int .u64 0) := BW10_5.cell 3 rfl
  have fW10_5 := BW10_5.free
  have cW10_6_0 : W10.cell? ⟨e9, 0, none⟩ = some (.int .u64 q2) := BW10_6.cell 0 rfl
  have cW10_6_1 : W10.cell? ⟨e9, 1, none⟩ = some (.int .u64 q3) := BW10_6.cell 1 rfl
  have cW10_6_2 : W10.cell? ⟨e9, 2, none⟩ = some (.int .u64 0) := BW10_6.cell 2 rfl
  have cW10_6_3 : W10.cell? ⟨e9, 3, none⟩ = some (.int .u64 0) := BW10_6.cell 3 rfl
  have fW10_6 := BW10_6.free
  go_region
  go_wp2_with fail
  rw [rounds_succ]
  go_wp2_with fail
  refine abs_world (fun W => Kept w W ∧ Blk W (w.heap.size) 131 #[.int .u64 q0, .int .u64 q1, .int .u64 q2, .int .u64 q3] ∧ Blk W (w.heap.size + 1) 131 #[.int .u64 0, .int .u64 0, .int .u64 0, .int .u64 0] ∧ Blk W (w.heap.size + 1 + 1) 28 #[.int .u64 q2, .int .u64 q3] ∧ Blk W (e4) 131 #[.int .u64 m0, .int .u64 m1, .int .u64 m2, .int .u64 m3] ∧ Blk W (e4 + 1) 131 #[.int .u64 r0, .int .u64 r1, .int .u64 r2, .int .u64 s3] ∧ Blk W (e6) 131 #[.int .u64 q0, .int .u64 q1, .int .u64 0, .int .u64 0] ∧ Blk W (e9) 131 #[.int .u64 q2, .int .u64 q3, .int .u64 0, .int .u64 0]) ?_ ?_
  · refine ⟨?_, ?_, ?_, ?_, ?_, ?_, ?_, ?_⟩
    · repeat (first | exact kW10 | (refine Kept.setCell ?_ (kept_side (by first | assumption | omega)) _) | apply Kept.alloc | apply Kept.drew)
    · simp [Blk, *] <;> (intros; omega)
    · simp [Blk, *] <;> (intros; omega)
    · simp [Blk, *] <;> (intros; omega)
    · simp [Blk, *] <;> (intros; omega)
    · simp [Blk, *] <;> (intros; omega)
    · simp [Blk, *] <;> (intros; omega)
    · simp [Blk, *] <;> (intros; omega)
  rintro W11 ⟨kW11, BW11_0, BW11_1, BW11_2, BW11_3, BW11_4, BW11_5, BW11_6⟩
  have cW11_0_0 : W11.cell? ⟨w.heap.size, 0, none⟩ = some (.int .u64 q0) := BW11_0.cell 0 rfl
  have cW11_0_1 : W11.cell? ⟨w.heap.size, 1, none⟩ = some (.int .u64 q1) := BW11_0.cell 1 rfl
  have cW11_0_2 : W11.cell? ⟨w.heap.size, 2, none⟩ = some (.int .u64 q2) := BW11_0.cell 2 rfl
  have cW11_0_3 : W11.cell? ⟨w.heap.size, 3, none⟩ = some (.int .u64 q3) := BW11_0.cell 3 rfl
  have fW11_0 := BW11_0.free
  have cW11_1_0 : W11.cell? ⟨w.heap.size + 1, 0, none⟩ = some (.int .u64 0) := BW11_1.cell 0 rfl
  have cW11_1_1 : W11.cell? ⟨w.heap.size + 1, 1, none⟩ = some (.int .u64 0) := BW11_1.cell 1 rfl
  have cW11_1_2 : W11.cell? ⟨w.heap.size + 1, 2, none⟩ = some (.int .u64 0) := BW11_1.cell 2 rfl
  have cW11_1_3 : W11.cell? ⟨w.heap.size + 1, 3, none⟩ = some (.int .u64 0) := BW11_1.cell 3 rfl
  have fW11_1 := BW11_1.free
  have cW11_2_0 : W11.cell? ⟨w.heap.size + 1 + 1, 0, none⟩ = some (.int .u64 q2) := BW11_2.cell 0 rfl
  have cW11_2_1 : W11.cell? ⟨w.heap.size + 1 + 1, 1, none⟩ = some (.int .u64 q3) := BW11_2.cell 1 rfl
  have fW11_2 := BW11_2.free
  have cW11_3_0 : W11.cell? ⟨e4, 0, none⟩ = some (.int .u64 m0) := BW11_3.cell 0 rfl
  have cW11_3_1 : W11.cell? ⟨e4, 1, none⟩ = some (.int .u64 m1) := BW11_3.cell 1 rfl
  have cW11_3_2 : W11.cell? ⟨e4, 2, none⟩ = some (.int .u64 m2) := BW11_3.cell 2 rfl
  have cW11_3_3 : W11.cell? ⟨e4, 3, none⟩ = some (.int .u64 m3) := BW11_3.cell 3 rfl
  have fW11_3 := BW11_3.free
  have cW11_4_0 : W11.cell? ⟨e4 + 1, 0, none⟩ = some (.int .u64 r0) := BW11_4.cell 0 rfl
  have cW11_4_1 : W11.cell? ⟨e4 + 1, 1, none⟩ = some (.int .u64 r1) := BW11_4.cell 1 rfl
  have cW11_4_2 : W11.cell? ⟨e4 + 1, 2, none⟩ = some (.int .u64 r2) := BW11_4.cell 2 rfl
  have cW11_4_3 : W11.cell? ⟨e4 + 1, 3, none⟩ = some (.int .u64 s3) := BW11_4.cell 3 rfl
  have fW11_4 := BW11_4.free
  have cW11_5_0 : W11.cell? ⟨e6, 0, none⟩ = some (.int .u64 q0) := BW11_5.cell 0 rfl
  have cW11_5_1 : W11.cell? ⟨e6, 1, none⟩ = some (.int .u64 q1) := BW11_5.cell 1 rfl
  have cW11_5_2 : W11.cell? ⟨e6, 2, none⟩ = some (.int .u64 0) := BW11_5.cell 2 rfl
  have cW11_5_3 : W11.cell? ⟨e6, 3, none⟩ = some (.int .u64 0) := BW11_5.cell 3 rfl
  have fW11_5 := BW11_5.free
  have cW11_6_0 : W11.cell? ⟨e9, 0, none⟩ = some (.int .u64 q2) := BW11_6.cell 0 rfl
  have cW11_6_1 : W11.cell? ⟨e9, 1, none⟩ = some (.int .u64 q3) := BW11_6.cell 1 rfl
  have cW11_6_2 : W11.cell? ⟨e9, 2, none⟩ = some (.int .u64 0) := BW11_6.cell 2 rfl
  have cW11_6_3 : W11.cell? ⟨e9, 3, none⟩ = some (.int .u64 0) := BW11_6.cell 3 rfl
  have fW11_6 := BW11_6.free
  go_region
  go_wp2_with fail
  rw [rounds_succ]
  go_wp2_with fail
  refine bodyPost_ret (v := .agg #[.int .u64 r0, .int .u64 r1, .int .u64 r2, .int .u64 r3]) (by simp [results, Try.results120, go_sem, *]) rfl ⟨rfl, ?_⟩
  repeat (first | exact kW11 | (refine Kept.setCell ?_ (kept_side (by first | assumption | omega)) _) | apply Kept.alloc | apply Kept.drew)

end Go.Proofs.Ytnajihlhcdedgaa
