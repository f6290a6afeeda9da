/-
  The walks of wide: product.
-/
import Derived.Test.YtnajihlhcdedgaaW1
namespace Go.Proofs.Ytnajihlhcdedgaa
open Go.RowKit
set_option linter.unusedVariables false
set_option linter.unusedSimpArgs false
attribute [local simp] blkAt_setCell blkAt_alloc blkAt_drew Obj.put_cells

set_option maxRecDepth 100000 in
set_option maxHeartbeats 8000000 in
theorem w_product_raw (a0 a1 b0 b1 h00 l00 m00 c00 j00 o00 d00 k00 h01 l01 m01 c01 j01 o01 d01 k01 h10 l10 m10 c10 j10 o10 d10 k10 h11 l11 m11 c11 j11 o11 d11 k11 : Int)
    (hM00 : Pure Try.prog 111 #[.int .u64 a0, .int .u64 b0] (.tuple #[.int .u64 h00, .int .u64 l00]))
    (SA00 : ∀ w, (callFunc 110 #[.int .u64 l00, .int .u64 0, .int .u64 0]).run Try.prog w = .ok (.value (.tuple #[.int .u64 m00, .int .u64 c00])) w)
    (w100 : IntKind.u64.wrap (h00 + c00) = j00)
    (SB00 : ∀ w, (callFunc 110 #[.int .u64 m00, .int .u64 0, .int .u64 0]).run Try.prog w = .ok (.value (.tuple #[.int .u64 o00, .int .u64 d00])) w)
    (w200 : IntKind.u64.wrap (j00 + d00) = k00)
    (hM01 : Pure Try.prog 111 #[.int .u64 a0, .int .u64 b1] (.tuple #[.int .u64 h01, .int .u64 l01]))
    (SA01 : ∀ w, (callFunc 110 #[.int .u64 l01, .int .u64 0, .int .u64 0]).run Try.prog w = .ok (.value (.tuple #[.int .u64 m01, .int .u64 c01])) w)
    (w101 : IntKind.u64.wrap (h01 + c01) = j01)
    (SB01 : ∀ w, (callFunc 110 #[.int .u64 m01, .int .u64 k00, .int .u64 0]).run Try.prog w = .ok (.value (.tuple #[.int .u64 o01, .int .u64 d01])) w)
    (w201 : IntKind.u64.wrap (j01 + d01) = k01)
    (hM10 : Pure Try.prog 111 #[.int .u64 a1, .int .u64 b0] (.tuple #[.int .u64 h10, .int .u64 l10]))
    (SA10 : ∀ w, (callFunc 110 #[.int .u64 l10, .int .u64 o01, .int .u64 0]).run Try.prog w = .ok (.value (.tuple #[.int .u64 m10, .int .u64 c10])) w)
    (w110 : IntKind.u64.wrap (h10 + c10) = j10)
    (SB10 : ∀ w, (callFunc 110 #[.int .u64 m10, .int .u64 0, .int .u64 0]).run Try.prog w = .ok (.value (.tuple #[.int .u64 o10, .int .u64 d10])) w)
    (w210 : IntKind.u64.wrap (j10 + d10) = k10)
    (hM11 : Pure Try.prog 111 #[.int .u64 a1, .int .u64 b1] (.tuple #[.int .u64 h11, .int .u64 l11]))
    (SA11 : ∀ w, (callFunc 110 #[.int .u64 l11, .int .u64 k01, .int .u64 0]).run Try.prog w = .ok (.value (.tuple #[.int .u64 m11, .int .u64 c11])) w)
    (w111 : IntKind.u64.wrap (h11 + c11) = j11)
    (SB11 : ∀ w, (callFunc 110 #[.int .u64 m11, .int .u64 k10, .int .u64 0]).run Try.prog w = .ok (.value (.tuple #[.int .u64 o11, .int .u64 d11])) w)
    (w211 : IntKind.u64.wrap (j11 + d11) = k11) :
    Pure Try.prog 119 #[.agg #[.int .u64 a0, .int .u64 a1], .agg #[.int .u64 b0, .int .u64 b1]] (.agg #[.int .u64 o00, .int .u64 o10, .int .u64 o11, .int .u64 k11]) := fun w => by
  have HM00 := Lib.hid hM00
  have HM01 := Lib.hid hM01
  have HM10 := Lib.hid hM10
  have HM11 := Lib.hid hM11
  clear hM00 hM01 hM10 hM11
  have ne0_2 : w.heap.size ≠ w.heap.size + 1 + 1 := by omega
  have ne2_0 : w.heap.size + 1 + 1 ≠ w.heap.size := by omega
  have ne0_3 : w.heap.size ≠ w.heap.size + 1 + 1 + 1 := by omega
  have ne3_0 : w.heap.size + 1 + 1 + 1 ≠ w.heap.size := by omega
  have ne1_3 : w.heap.size + 1 ≠ w.heap.size + 1 + 1 + 1 := by omega
  have ne3_1 : w.heap.size + 1 + 1 + 1 ≠ w.heap.size + 1 := by omega
  go_enter Try.func119, Try.ntmps119
  go_wp2_with fail
  refine wp_loop_rounds 3 ?_
  rw [rounds_succ]
  go_wp2_with fail
  refine wp_loop_rounds 3 ?_
  rw [rounds_succ]
  go_wp2_with fail
  refine abs_world (fun W => Kept w W ∧ Blk W (w.heap.size) 28 #[.int .u64 a0, .int .u64 a1] ∧ Blk W (w.heap.size + 1) 28 #[.int .u64 b0, .int .u64 b1] ∧ Blk W (w.heap.size + 1 + 1) 131 #[.int .u64 0, .int .u64 0, .int .u64 0, .int .u64 0] ∧ Blk W (w.heap.size + 1 + 1 + 1) 131 #[.int .u64 0, .int .u64 0, .int .u64 0, .int .u64 0]) ?_ ?_
  · refine ⟨?_, ?_, ?_, ?_, ?_⟩
    · repeat (first | exact Kept.refl _ | (refine Kept.setCell ?_ (kept_side (by first | assumption | omega)) _) | apply Kept.alloc)
    · simp [Blk, *] <;> (intros; omega)
    · simp [Blk, *] <;> (intros; omega)
    · simp [Blk, *] <;> (intros; omega)
    · simp [Blk, *] <;> (intros; omega)
  rintro W1 ⟨kW1, BW1_0, BW1_1, BW1_2, BW1_3⟩
  have cW1_0_0 : W1.cell? ⟨w.heap.size, 0, none⟩ = some (.int .u64 a0) := BW1_0.cell 0 rfl
  have cW1_0_1 : W1.cell? ⟨w.heap.size, 1, none⟩ = some (.int .u64 a1) := BW1_0.cell 1 rfl
  have fW1_0 := BW1_0.free
  have cW1_1_0 : W1.cell? ⟨w.heap.size + 1, 0, none⟩ = some (.int .u64 b0) := BW1_1.cell 0 rfl
  have cW1_1_1 : W1.cell? ⟨w.heap.size + 1, 1, none⟩ = some (.int .u64 b1) := BW1_1.cell 1 rfl
  have fW1_1 := BW1_1.free
  have cW1_2_0 : W1.cell? ⟨w.heap.size + 1 + 1, 0, none⟩ = some (.int .u64 0) := BW1_2.cell 0 rfl
  have cW1_2_1 : W1.cell? ⟨w.heap.size + 1 + 1, 1, none⟩ = some (.int .u64 0) := BW1_2.cell 1 rfl
  have cW1_2_2 : W1.cell? ⟨w.heap.size + 1 + 1, 2, none⟩ = some (.int .u64 0) := BW1_2.cell 2 rfl
  have cW1_2_3 : W1.cell? ⟨w.heap.size + 1 + 1, 3, none⟩ = some (.int .u64 0) := BW1_2.cell 3 rfl
  have fW1_2 := BW1_2.free
  have cW1_3_0 : W1.cell? ⟨w.heap.size + 1 + 1 + 1, 0, none⟩ = some (.int .u64 0) := BW1_3.cell 0 rfl
  have cW1_3_1 : W1.cell? ⟨w.heap.size + 1 + 1 + 1, 1, none⟩ = some (.int .u64 0) := BW1_3.cell 1 rfl
  have cW1_3_2 : W1.cell? ⟨w.heap.size + 1 + 1 + 1, 2, none⟩ = some (.int .u64 0) := BW1_3.cell 2 rfl
  have cW1_3_3 : W1.cell? ⟨w.heap.size + 1 + 1 + 1, 3, none⟩ = some (.int .u64 0) := BW1_3.cell 3 rfl
  have fW1_3 := BW1_3.free
  refine wp_region_calm 12 (by kernel_rfl) (by kernel_rfl) ?_
  simp only [List.take_succ_cons, List.take_zero, List.drop_succ_cons, List.drop_zero]
  repeat (first
    | (refine calm_skip rfl ?_; simp only [Act.put, List.setIfInBounds_toArray, List.set_cons_zero, List.set_cons_succ])
    | (refine calm_ex rfl ?_; apply Exists.intro; refine And.intro (fun w' hk => ?_) ?_; (focus (have q0 := hk.cell cW1_0_0; have q1 := hk.cell cW1_0_1; have q2 := hk.cell cW1_1_0; have q3 := hk.cell cW1_1_1; have q4 := hk.cell cW1_2_0; have q5 := hk.cell cW1_2_1; have q6 := hk.cell cW1_2_2; have q7 := hk.cell cW1_2_3; have q8 := hk.cell cW1_3_0; have q9 := hk.cell cW1_3_1; have q10 := hk.cell cW1_3_2; have q11 := hk.cell cW1_3_3; clear hk; go_simp; exact rfl)); simp only [Act.put, List.setIfInBounds_toArray, List.set_cons_zero, List.set_cons_succ])
    | (refine calm_step _ rfl (HM00.out.call ?_) ?_; (focus (intro w'; go_simp; done)); simp only [Act.put, List.setIfInBounds_toArray, List.set_cons_zero, List.set_cons_succ]))
  refine calm_nil ?_
  intro W2 hkW2
  have kW2 := kW1.trans hkW2
  have BW2_0 := BW1_0.kept hkW2
  have BW2_1 := BW1_1.kept hkW2
  have BW2_2 := BW1_2.kept hkW2
  have BW2_3 := BW1_3.kept hkW2
  clear cW1_0_0 cW1_0_1 cW1_1_0 cW1_1_1 cW1_2_0 cW1_2_1 cW1_2_2 cW1_2_3 cW1_3_0 cW1_3_1 cW1_3_2 cW1_3_3 fW1_0 fW1_1 fW1_2 fW1_3 BW1_0 BW1_1 BW1_2 BW1_3 kW1 hkW2
  have cW2_0_0 : W2.cell? ⟨w.heap.size, 0, none⟩ = some (.int .u64 a0) := BW2_0.cell 0 rfl
  have cW2_0_1 : W2.cell? ⟨w.heap.size, 1, none⟩ = some (.int .u64 a1) := BW2_0.cell 1 rfl
  have fW2_0 := BW2_0.free
  have cW2_1_0 : W2.cell? ⟨w.heap.size + 1, 0, none⟩ = some (.int .u64 b0) := BW2_1.cell 0 rfl
  have cW2_1_1 : W2.cell? ⟨w.heap.size + 1, 1, none⟩ = some (.int .u64 b1) := BW2_1.cell 1 rfl
  have fW2_1 := BW2_1.free
  have cW2_2_0 : W2.cell? ⟨w.heap.size + 1 + 1, 0, none⟩ = some (.int .u64 0) := BW2_2.cell 0 rfl
  have cW2_2_1 : W2.cell? ⟨w.heap.size + 1 + 1, 1, none⟩ = some (.int .u64 0) := BW2_2.cell 1 rfl
  have cW2_2_2 : W2.cell? ⟨w.heap.size + 1 + 1, 2, none⟩ = some (.int .u64 0) := BW2_2.cell 2 rfl
  have cW2_2_3 : W2.cell? ⟨w.heap.size + 1 + 1, 3, none⟩ = some (.int .u64 0) := BW2_2.cell 3 rfl
  have fW2_2 := BW2_2.free
  have cW2_3_0 : W2.cell? ⟨w.heap.size + 1 + 1 + 1, 0, none⟩ = some (.int .u64 0) := BW2_3.cell 0 rfl
  have cW2_3_1 : W2.cell? ⟨w.heap.size + 1 + 1 + 1, 1, none⟩ = some (.int .u64 0) := BW2_3.cell 1 rfl
  have cW2_3_2 : W2.cell? ⟨w.heap.size + 1 + 1 + 1, 2, none⟩ = some (.int .u64 0) := BW2_3.cell 2 rfl
  have cW2_3_3 : W2.cell? ⟨w.heap.size + 1 + 1 + 1, 3, none⟩ = some (.int .u64 0) := BW2_3.cell 3 rfl
  have fW2_3 := BW2_3.free
  go_wp2_with fail
  rw [rounds_succ]
  go_wp2_with fail
  refine abs_world (fun W => Kept w W ∧ Blk W (w.heap.size) 28 #[.int .u64 a0, .int .u64 a1] ∧ Blk W (w.heap.size + 1) 28 #[.int .u64 b0, .int .u64 b1] ∧ Blk W (w.heap.size + 1 + 1) 131 #[.int .u64 0, .int .u64 0, .int .u64 0, .int .u64 0] ∧ Blk W (w.heap.size + 1 + 1 + 1) 131 #[.int .u64 o00, .int .u64 0, .int .u64 0, .int .u64 0]) ?_ ?_
  · refine ⟨?_, ?_, ?_, ?_, ?_⟩
    · repeat (first | exact kW2 | (refine Kept.setCell ?_ (kept_side (by first | assumption | omega)) _) | apply Kept.alloc)
    · simp [Blk, *] <;> (intros; omega)
    · simp [Blk, *] <;> (intros; omega)
    · simp [Blk, *] <;> (intros; omega)
    · simp [Blk, *] <;> (intros; omega)
  rintro W3 ⟨kW3, BW3_0, BW3_1, BW3_2, BW3_3⟩
  have cW3_0_0 : W3.cell? ⟨w.heap.size, 0, none⟩ = some (.int .u64 a0) := BW3_0.cell 0 rfl
  have cW3_0_1 : W3.cell? ⟨w.heap.size, 1, none⟩ = some (.int .u64 a1) := BW3_0.cell 1 rfl
  have fW3_0 := BW3_0.free
  have cW3_1_0 : W3.cell? ⟨w.heap.size + 1, 0, none⟩ = some (.int .u64 b0) := BW3_1.cell 0 rfl
  have cW3_1_1 : W3.cell? ⟨w.heap.size + 1, 1, none⟩ = some (.int .u64 b1) := BW3_1.cell 1 rfl
  have fW3_1 := BW3_1.free
  have cW3_2_0 : W3.cell? ⟨w.heap.size + 1 + 1, 0, none⟩ = some (.int .u64 0) := BW3_2.cell 0 rfl
  have cW3_2_1 : W3.cell? ⟨w.heap.size + 1 + 1, 1, none⟩ = some (.int .u64 0) := BW3_2.cell 1 rfl
  have cW3_2_2 : W3.cell? ⟨w.heap.size + 1 + 1, 2, none⟩ = some (.int .u64 0) := BW3_2.cell 2 rfl
  have cW3_2_3 : W3.cell? ⟨w.heap.size + 1 + 1, 3, none⟩ = some (.int .u64 0) := BW3_2.cell 3 rfl
  have fW3_2 := BW3_2.free
  have cW3_3_0 : W3.cell? ⟨w.heap.size + 1 + 1 + 1, 0, none⟩ = some (.int .u64 o00) := BW3_3.cell 0 rfl
  have cW3_3_1 : W3.cell? ⟨w.heap.size + 1 + 1 + 1, 1, none⟩ = some (.int .u64 0) := BW3_3.cell 1 rfl
  have cW3_3_2 : W3.cell? ⟨w.heap.size + 1 + 1 + 1, 2, none⟩ = some (.int .u64 0) := BW3_3.cell 2 rfl
  have cW3_3_3 : W3.cell? ⟨w.heap.size + 1 + 1 + 1, 3, none⟩ = some (.int .u64 0) := BW3_3.cell 3 rfl
  have fW3_3 := BW3_3.free
  refine wp_region_calm 12 (by kernel_rfl) (by kernel_rfl) ?_
  simp only [List.take_succ_cons, List.take_zero, List.drop_succ_cons, List.drop_zero]
  repeat (first
    | (refine calm_skip rfl ?_; simp only [Act.put, List.setIfInBounds_toArray, List.set_cons_zero, List.set_cons_succ])
    | (refine calm_ex rfl ?_; apply Exists.intro; refine And.intro (fun w' hk => ?_) ?_; (focus (have q0 := hk.cell cW3_0_0; have q1 := hk.cell cW3_0_1; have q2 := hk.cell cW3_1_0; have q3 := hk.cell cW3_1_1; have q4 := hk.cell cW3_2_0; have q5 := hk.cell cW3_2_1; have q6 := hk.cell cW3_2_2; have q7 := hk.cell cW3_2_3; have q8 := hk.cell cW3_3_0; have q9 := hk.cell cW3_3_1; have q10 := hk.cell cW3_3_2; have q11 := hk.cell cW3_3_3; clear hk; go_simp; exact rfl)); simp only [Act.put, List.setIfInBounds_toArray, List.set_cons_zero, List.set_cons_succ])
    | (refine calm_step _ rfl (HM01.out.call ?_) ?_; (focus (intro w'; go_simp; done)); simp only [Act.put, List.setIfInBounds_toArray, List.set_cons_zero, List.set_cons_succ]))
  refine calm_nil ?_
  intro W4 hkW4
  have kW4 := kW3.trans hkW4
  have BW4_0 := BW3_0.kept hkW4
  have BW4_1 := BW3_1.kept hkW4
  have BW4_2 := BW3_2.kept hkW4
  have BW4_3 := BW3_3.kept hkW4
  clear cW3_0_0 cW3_0_1 cW3_1_0 cW3_1_1 cW3_2_0 cW3_2_1 cW3_2_2 cW3_2_3 cW3_3_0 cW3_3_1 cW3_3_2 cW3_3_3 fW3_0 fW3_1 fW3_2 fW3_3 BW3_0 BW3_1 BW3_2 BW3_3 kW3 hkW4
  have cW4_0_0 : W4.cell? ⟨w.heap.size, 0, none⟩ = some (.int .u64 a0) := BW4_0.cell 0 rfl
  have cW4_0_1 : W4.cell? ⟨w.heap.size, 1, none⟩ = some (.int .u64 a1) := BW4_0.cell 1 rfl
  have fW4_0 := BW4_0.free
  have cW4_1_0 : W4.cell? ⟨w.heap.size + 1, 0, none⟩ = some (.int .u64 b0) := BW4_1.cell 0 rfl
  have cW4_1_1 : W4.cell? ⟨w.heap.size + 1, 1, none⟩ = some (.int .u64 b1) := BW4_1.cell 1 rfl
  have fW4_1 := BW4_1.free
  have cW4_2_0 : W4.cell? ⟨w.heap.size + 1 + 1, 0, none⟩ = some (.int .u64 0) := BW4_2.cell 0 rfl
  have cW4_2_1 : W4.cell? ⟨w.heap.size + 1 + 1, 1, none⟩ = some (.int .u64 0) := BW4_2.cell 1 rfl
  have cW4_2_2 : W4.cell? ⟨w.heap.size + 1 + 1, 2, none⟩ = some (.int .u64 0) := BW4_2.cell 2 rfl
  have cW4_2_3 : W4.cell? ⟨w.heap.size + 1 + 1, 3, none⟩ = some (.int .u64 0) := BW4_2.cell 3 rfl
  have fW4_2 := BW4_2.free
  have cW4_3_0 : W4.cell? ⟨w.heap.size + 1 + 1 + 1, 0, none⟩ = some (.int .u64 o00) := BW4_3.cell 0 rfl
  have cW4_3_1 : W4.cell? ⟨w.heap.size + 1 + 1 + 1, 1, none⟩ = some (.int .u64 0) := BW4_3.cell 1 rfl
  have cW4_3_2 : W4.cell? ⟨w.heap.size + 1 + 1 + 1, 2, none⟩ = some (.int .u64 0) := BW4_3.cell 2 rfl
  have cW4_3_3 : W4.cell? ⟨w.heap.size + 1 + 1 + 1, 3, none⟩ = some (.int .u64 0) := BW4_3.cell 3 rfl
  have fW4_3 := BW4_3.free
  go_wp2_with fail
  rw [rounds_succ]
  go_wp2_with fail
  rw [rounds_succ]
  go_wp2_with fail
  refine wp_loop_rounds 3 ?_
  rw [rounds_succ]
  go_wp2_with fail
  refine abs_world (fun W => Kept w W ∧ Blk W (w.heap.size) 28 #[.int .u64 a0, .int .u64 a1] ∧ Blk W (w.heap.size + 1) 28 #[.int .u64 b0, .int .u64 b1] ∧ Blk W (w.heap.size + 1 + 1) 131 #[.int .u64 0, .int .u64 0, .int .u64 0, .int .u64 0] ∧ Blk W (w.heap.size + 1 + 1 + 1) 131 #[.int .u64 o00, .int .u64 o01, .int .u64 k01, .int .u64 0]) ?_ ?_
  · refine ⟨?_, ?_, ?_, ?_, ?_⟩
    · repeat (first | exact kW4 | (refine Kept.setCell ?_ (kept_side (by first | assumption | omega)) _) | apply Kept.alloc)
    · simp [Blk, *] <;> (intros; omega)
    · simp [Blk, *] <;> (intros; omega)
    · simp [Blk, *] <;> (intros; omega)
    · simp [Blk, *] <;> (intros; omega)
  rintro W5 ⟨kW5, BW5_0, BW5_1, BW5_2, BW5_3⟩
  have cW5_0_0 : W5.cell? ⟨w.heap.size, 0, none⟩ = some (.int .u64 a0) := BW5_0.cell 0 rfl
  have cW5_0_1 : W5.cell? ⟨w.heap.size, 1, none⟩ = some (.int .u64 a1) := BW5_0.cell 1 rfl
  have fW5_0 := BW5_0.free
  have cW5_1_0 : W5.cell? ⟨w.heap.size + 1, 0, none⟩ = some (.int .u64 b0) := BW5_1.cell 0 rfl
  have cW5_1_1 : W5.cell? ⟨w.heap.size + 1, 1, none⟩ = some (.int .u64 b1) := BW5_1.cell 1 rfl
  have fW5_1 := BW5_1.free
  have cW5_2_0 : W5.cell? ⟨w.heap.size + 1 + 1, 0, none⟩ = some (.int .u64 0) := BW5_2.cell 0 rfl
  have cW5_2_1 : W5.cell? ⟨w.heap.size + 1 + 1, 1, none⟩ = some (.int .u64 0) := BW5_2.cell 1 rfl
  have cW5_2_2 : W5.cell? ⟨w.heap.size + 1 + 1, 2, none⟩ = some (.int .u64 0) := BW5_2.cell 2 rfl
  have cW5_2_3 : W5.cell? ⟨w.heap.size + 1 + 1, 3, none⟩ = some (.int .u64 0) := BW5_2.cell 3 rfl
  have fW5_2 := BW5_2.free
  have cW5_3_0 : W5.cell? ⟨w.heap.size + 1 + 1 + 1, 0, none⟩ = some (.int .u64 o00) := BW5_3.cell 0 rfl
  have cW5_3_1 : W5.cell? ⟨w.heap.size + 1 + 1 + 1, 1, none⟩ = some (.int .u64 o01) := BW5_3.cell 1 rfl
  have cW5_3_2 : W5.cell? ⟨w.heap.size + 1 + 1 + 1, 2, none⟩ = some (.int .u64 k01) := BW5_3.cell 2 rfl
  have cW5_3_3 : W5.cell? ⟨w.heap.size + 1 + 1 + 1, 3, none⟩ = some (.int .u64 0) := BW5_3.cell 3 rfl
  have fW5_3 := BW5_3.free
  refine wp_region_calm 12 (by kernel_rfl) (by kernel_rfl) ?_
  simp only [List.take_succ_cons, List.take_zero, List.drop_succ_cons, List.drop_zero]
  repeat (first
    | (refine calm_skip rfl ?_; simp only [Act.put, List.setIfInBounds_toArray, List.set_cons_zero, List.set_cons_succ])
    | (refine calm_ex rfl ?_; apply Exists.intro; refine And.intro (fun w' hk => ?_) ?_; (focus (have q0 := hk.cell cW5_0_0; have q1 := hk.cell cW5_0_1; have q2 := hk.cell cW5_1_0; have q3 := hk.cell cW5_1_1; have q4 := hk.cell cW5_2_0; have q5 := hk.cell cW5_2_1; have q6 := hk.cell cW5_2_2; have q7 := hk.cell cW5_2_3; have q8 := hk.cell cW5_3_0; have q9 := hk.cell cW5_3_1; have q10 := hk.cell cW5_3_2; have q11 := hk.cell cW5_3_3; clear hk; go_simp; exact rfl)); simp only [Act.put, List.setIfInBounds_toArray, List.set_cons_zero, List.set_cons_succ])
    | (refine calm_step _ rfl (HM10.out.call ?_) ?_; (focus (intro w'; go_simp; done)); simp only [Act.put, List.setIfInBounds_toArray, List.set_cons_zero, List.set_cons_succ]))
  refine calm_nil ?_
  intro W6 hkW6
  have kW6 := kW5.trans hkW6
  have BW6_0 := BW5_0.kept hkW6
  have BW6_1 := BW5_1.kept hkW6
  have BW6_2 := BW5_2.kept hkW6
  have BW6_3 := BW5_3.kept hkW6
  clear cW5_0_0 cW5_0_1 cW5_1_0 cW5_1_1 cW5_2_0 cW5_2_1 cW5_2_2 cW5_2_3 cW5_3_0 cW5_3_1 cW5_3_2 cW5_3_3 fW5_0 fW5_1 fW5_2 fW5_3 BW5_0 BW5_1 BW5_2 BW5_3 kW5 hkW6
  have cW6_0_0 : W6.cell? ⟨w.heap.size, 0, none⟩ = some (.int .u64 a0) := BW6_0.cell 0 rfl
  have cW6_0_1 : W6.cell? ⟨w.heap.size, 1, none⟩ = some (.int .u64 a1) := BW6_0.cell 1 rfl
  have fW6_0 := BW6_0.free
  have cW6_1_0 : W6.cell? ⟨w.heap.size + 1, 0, none⟩ = some (.int .u64 b0) := BW6_1.cell 0 rfl
  have cW6_1_1 : W6.cell? ⟨w.heap.size + 1, 1, none⟩ = some (.int .u64 b1) := BW6_1.cell 1 rfl
  have fW6_1 := BW6_1.free
  have cW6_2_0 : W6.cell? ⟨w.heap.size + 1 + 1, 0, none⟩ = some (.int .u64 0) := BW6_2.cell 0 rfl
  have cW6_2_1 : W6.cell? ⟨w.heap.size + 1 + 1, 1, none⟩ = some (.int .u64 0) := BW6_2.cell 1 rfl
  have cW6_2_2 : W6.cell? ⟨w.heap.size + 1 + 1, 2, none⟩ = some (.int .u64 0) := BW6_2.cell 2 rfl
  have cW6_2_3 : W6.cell? ⟨w.heap.size + 1 + 1, 3, none⟩ = some (.int .u64 0) := BW6_2.cell 3 rfl
  have fW6_2 := BW6_2.free
  have cW6_3_0 : W6.cell? ⟨w.heap.size + 1 + 1 + 1, 0, none⟩ = some (.int .u64 o00) := BW6_3.cell 0 rfl
  have cW6_3_1 : W6.cell? ⟨w.heap.size + 1 + 1 + 1, 1, none⟩ = some (.int .u64 o01) := BW6_3.cell 1 rfl
  have cW6_3_2 : W6.cell? ⟨w.heap.size + 1 + 1 + 1, 2, none⟩ = some (.int .u64 k01) := BW6_3.cell 2 rfl
  have cW6_3_3 : W6.cell? ⟨w.heap.size + 1 + 1 + 1, 3, none⟩ = some (.int .u64 0) := BW6_3.cell 3 rfl
  have fW6_3 := BW6_3.free
  go_wp2_with fail
  rw [rounds_succ]
  go_wp2_with fail
  refine abs_world (fun W => Kept w W ∧ Blk W (w.heap.size) 28 #[.int .u64 a0, .int .u64 a1] ∧ Blk W (w.heap.size + 1) 28 #[.int .u64 b0, .int .u64 b1] ∧ Blk W (w.heap.size + 1 + 1) 131 #[.int .u64 0, .int .u64 0, .int .u64 0, .int .u64 0] ∧ Blk W (w.heap.size + 1 + 1 + 1) 131 #[.int .u64 o00, .int .u64 o10, .int .u64 k01, .int .u64 0]) ?_ ?_
  · refine ⟨?_, ?_, ?_, ?_, ?_⟩
    · repeat (first | exact kW6 | (refine Kept.setCell ?_ (kept_side (by first | assumption | omega)) _) | apply Kept.alloc)
    · simp [Blk, *] <;> (intros; omega)
    · simp [Blk, *] <;> (intros; omega)
    · simp [Blk, *] <;> (intros; omega)
    · simp [Blk, *] <;> (intros; omega)
  rintro W7 ⟨kW7, BW7_0, BW7_1, BW7_2, BW7_3⟩
  have cW7_0_0 : W7.cell? ⟨w.heap.size, 0, none⟩ = some (.int .u64 a0) := BW7_0.cell 0 rfl
  have cW7_0_1 : W7.cell? ⟨w.heap.size, 1, none⟩ = some (.int .u64 a1) := BW7_0.cell 1 rfl
  have fW7_0 := BW7_0.free
  have cW7_1_0 : W7.cell? ⟨w.heap.size + 1, 0, none⟩ = some (.int .u64 b0) := BW7_1.cell 0 rfl
  have cW7_1_1 : W7.cell? ⟨w.heap.size + 1, 1, none⟩ = some (.int .u64 b1) := BW7_1.cell 1 rfl
  have fW7_1 := BW7_1.free
  have cW7_2_0 : W7.cell? ⟨w.heap.size + 1 + 1, 0, none⟩ = some (.int .u64 0) := BW7_2.cell 0 rfl
  have cW7_2_1 : W7.cell? ⟨w.heap.size + 1 + 1, 1, none⟩ = some (.int .u64 0) := BW7_2.cell 1 rfl
  have cW7_2_2 : W7.cell? ⟨w.heap.size + 1 + 1, 2, none⟩ = some (.int .u64 0) := BW7_2.cell 2 rfl
  have cW7_2_3 : W7.cell? ⟨w.heap.size + 1 + 1, 3, none⟩ = some (.int .u64 0) := BW7_2.cell 3 rfl
  have fW7_2 := BW7_2.free
  have cW7_3_0 : W7.cell? ⟨w.heap.size + 1 + 1 + 1, 0, none⟩ = some (.int .u64 o00) := BW7_3.cell 0 rfl
  have cW7_3_1 : W7.cell? ⟨w.heap.size + 1 + 1 + 1, 1, none⟩ = some (.int .u64 o10) := BW7_3.cell 1 rfl
  have cW7_3_2 : W7.cell? ⟨w.heap.size + 1 + 1 + 1, 2, none⟩ = some (.int .u64 k01) := BW7_3.cell 2 rfl
  have cW7_3_3 : W7.cell? ⟨w.heap.size + 1 + 1 + 1, 3, none⟩ = some (.int .u64 0) := BW7_3.cell 3 rfl
  have fW7_3 := BW7_3.free
  refine wp_region_calm 12 (by kernel_rfl) (by kernel_rfl) ?_
  simp only [List.take_succ_cons, List.take_zero, List.drop_succ_cons, List.drop_zero]
  repeat (first
    | (refine calm_skip rfl ?_; simp only [Act.put, List.setIfInBounds_toArray, List.set_cons_zero, List.set_cons_succ])
    | (refine calm_ex rfl ?_; apply Exists.intro; refine And.intro (fun w' hk => ?_) ?_; (focus (have q0 := hk.cell cW7_0_0; have q1 := hk.cell cW7_0_1; have q2 := hk.cell cW7_1_0; have q3 := hk.cell cW7_1_1; have q4 := hk.cell cW7_2_0; have q5 := hk.cell cW7_2_1; have q6 := hk.cell cW7_2_2; have q7 := hk.cell cW7_2_3; have q8 := hk.cell cW7_3_0; have q9 := hk.cell cW7_3_1; have q10 := hk.cell cW7_3_2; have q11 := hk.cell cW7_3_3; clear hk; go_simp; exact rfl)); simp only [Act.put, List.setIfInBounds_toArray, List.set_cons_zero, List.set_cons_succ])
    | (refine calm_step _ rfl (HM11.out.call ?_) ?_; (focus (intro w'; go_simp; done)); simp only [Act.put, List.setIfInBounds_toArray, List.set_cons_zero, List.set_cons_succ]))
  refine calm_nil ?_
  intro W8 hkW8
  have kW8 := kW7.trans hkW8
  have BW8_0 := BW7_0.kept hkW8
  have BW8_1 := BW7_1.kept hkW8
  have BW8_2 := BW7_2.kept hkW8
  have BW8_3 := BW7_3.kept hkW8
  clear cW7_0_0 cW7_0_1 cW7_1_0 cW7_1_1 cW7_2_0 cW7_2_1 cW7_2_2 cW7_2_3 cW7_3_0 cW7_3_1 cW7_3_2 cW7_3_3 fW7_0 fW7_1 fW7_2 fW7_3 BW7_0 BW7_1 BW7_2 BW7_3 kW7 hkW8
  have cW8_0_0 : W8.cell? ⟨w.heap.size, 0, none⟩ = some (.int .u64 a0) := BW8_0.cell 0 rfl
  have cW8_0_1 : W8.cell? ⟨w.heap.size, 1, none⟩ = some (.int .u64 a1) := BW8_0.cell 1 rfl
  have fW8_0 := BW8_0.free
  have cW8_1_0 : W8.cell? ⟨w.heap.size + 1, 0, none⟩ = some (.int .u64 b0) := BW8_1.cell 0 rfl
  have cW8_1_1 : W8.cell? ⟨w.heap.size + 1, 1, none⟩ = some (.int .u64 b1) := BW8_1.cell 1 rfl
  have fW8_1 := BW8_1.free
  have cW8_2_0 : W8.cell? ⟨w.heap.size + 1 + 1, 0, none⟩ = some (.int .u64 0) := BW8_2.cell 0 rfl
  have cW8_2_1 : W8.cell? ⟨w.heap.size + 1 + 1, 1, none⟩ = some (.int .u64 0) := BW8_2.cell 1 rfl
  have cW8_2_2 : W8.cell? ⟨w.heap.size + 1 + 1, 2, none⟩ = some (.int .u64 0) := BW8_2.cell 2 rfl
  have cW8_2_3 : W8.cell? ⟨w.heap.size + 1 + 1, 3, none⟩ = some (.int .u64 0) := BW8_2.cell 3 rfl
  have fW8_2 := BW8_2.free
  have cW8_3_0 : W8.cell? ⟨w.heap.size + 1 + 1 + 1, 0, none⟩ = some (.int .u64 o00) := BW8_3.cell 0 rfl
  have cW8_3_1 : W8.cell? ⟨w.heap.size + 1 + 1 + 1, 1, none⟩ = some (.int .u64 o10) := BW8_3.cell 1 rfl
  have cW8_3_2 : W8.cell? ⟨w.heap.size + 1 + 1 + 1, 2, none⟩ = some (.int .u64 k01) := BW8_3.cell 2 rfl
  have cW8_3_3 : W8.cell? ⟨w.heap.size + 1 + 1 + 1, 3, none⟩ = some (.int .u64 0) := BW8_3.cell 3 rfl
  have fW8_3 := BW8_3.free
  go_wp2_with fail
  rw [rounds_succ]
  go_wp2_with fail
  rw [rounds_succ]
  go_wp2_with fail
  refine bodyPost_ret (v := .agg #[.int .u64 o00, .int .u64 o10, .int .u64 o11, .int .u64 k11]) (by simp [results, Try.results119, go_sem, *]) rfl ⟨rfl, ?_⟩
  repeat (first | exact kW8 | (refine Kept.setCell ?_ (kept_side (by first | assumption | omega)) _) | apply Kept.alloc)

end Go.Proofs.Ytnajihlhcdedgaa
