/-
  Texts joined: WB2.
-/
import Derived.Test.YtnajihlhcdedgaaYN1
import Derived.Deep.Cut
import Derived.Outline
namespace Go.Proofs.Ytnajihlhcdedgaa
open Go.RowKit
set_option linter.unusedVariables false
set_option linter.unusedSimpArgs false
attribute [local simp] blkAt_setCell blkAt_alloc blkAt_drew Obj.put_cells
set_option maxRecDepth 100000 in
set_option maxHeartbeats 8000000 in
theorem wide_Take_yes (b0 v0 b1 v1 b2 v2 b3 v3 b4 v4 b5 v5 b6 v6 b7 v7 b8 v8 b9 v9 b10 v10 b11 v11 b12 v12 b13 v13 b14 v14 b15 v15 : Int) (w : World) (l0 : 0 ≤ b0) (u0 : b0 ≤ 255) (l1 : 0 ≤ b1) (u1 : b1 ≤ 255) (l2 : 0 ≤ b2) (u2 : b2 ≤ 255) (l3 : 0 ≤ b3) (u3 : b3 ≤ 255) (l4 : 0 ≤ b4) (u4 : b4 ≤ 255) (l5 : 0 ≤ b5) (u5 : b5 ≤ 255) (l6 : 0 ≤ b6) (u6 : b6 ≤ 255) (l7 : 0 ≤ b7) (u7 : b7 ≤ 255) (l8 : 0 ≤ b8) (u8 : b8 ≤ 255) (l9 : 0 ≤ b9) (u9 : b9 ≤ 255) (l10 : 0 ≤ b10) (u10 : b10 ≤ 255) (l11 : 0 ≤ b11) (u11 : b11 ≤ 255) (l12 : 0 ≤ b12) (u12 : b12 ≤ 255) (l13 : 0 ≤ b13) (u13 : b13 ≤ 255) (l14 : 0 ≤ b14) (u14 : b14 ≤ 255) (l15 : 0 ≤ b15) (u15 : b15 ≤ 255)
    (o0 : bits .or .u64 0 b0 = v0) (o1 : bits .or .u64 v0 (b1 * 256) = v1) (o2 : bits .or .u64 v1 (b2 * 65536) = v2) (o3 : bits .or .u64 v2 (b3 * 16777216) = v3) (o4 : bits .or .u64 v3 (b4 * 4294967296) = v4) (o5 : bits .or .u64 v4 (b5 * 1099511627776) = v5) (o6 : bits .or .u64 v5 (b6 * 281474976710656) = v6) (o7 : bits .or .u64 v6 (b7 * 72057594037927936) = v7) (o8 : bits .or .u64 0 b8 = v8) (o9 : bits .or .u64 v8 (b9 * 256) = v9) (o10 : bits .or .u64 v9 (b10 * 65536) = v10) (o11 : bits .or .u64 v10 (b11 * 16777216) = v11) (o12 : bits .or .u64 v11 (b12 * 4294967296) = v12) (o13 : bits .or .u64 v12 (b13 * 1099511627776) = v13) (o14 : bits .or .u64 v13 (b14 * 281474976710656) = v14) (o15 : bits .or .u64 v14 (b15 * 72057594037927936) = v15) (HI : Hid (Pure Try.prog 49 #[.agg #[.int .u64 v7, .int .u64 v15]] (.bool true))) :
    Calls Try.prog 57 #[.agg #[.int .u8 b0, .int .u8 b1, .int .u8 b2, .int .u8 b3, .int .u8 b4, .int .u8 b5, .int .u8 b6, .int .u8 b7, .int .u8 b8, .int .u8 b9, .int .u8 b10, .int .u8 b11, .int .u8 b12, .int .u8 b13, .int .u8 b14, .int .u8 b15]] w fun e w' => e = .returned (.tuple #[.agg #[.int .u64 v7, .int .u64 v15], .int .i64 0]) ∧ Kept w w' := by
  have i0 : ∀ w, (Instr.index 54 (.agg #[.int .u8 b0, .int .u8 b1, .int .u8 b2, .int .u8 b3, .int .u8 b4, .int .u8 b5, .int .u8 b6, .int .u8 b7, .int .u8 b8, .int .u8 b9, .int .u8 b10, .int .u8 b11, .int .u8 b12, .int .u8 b13, .int .u8 b14, .int .u8 b15]) (.int .i64 0)).run Try.prog w = .ok (.int .u8 b0) w := fun _ => by kernel_rfl
  have i1 : ∀ w, (Instr.index 54 (.agg #[.int .u8 b0, .int .u8 b1, .int .u8 b2, .int .u8 b3, .int .u8 b4, .int .u8 b5, .int .u8 b6, .int .u8 b7, .int .u8 b8, .int .u8 b9, .int .u8 b10, .int .u8 b11, .int .u8 b12, .int .u8 b13, .int .u8 b14, .int .u8 b15]) (.int .i64 1)).run Try.prog w = .ok (.int .u8 b1) w := fun _ => by kernel_rfl
  have i2 : ∀ w, (Instr.index 54 (.agg #[.int .u8 b0, .int .u8 b1, .int .u8 b2, .int .u8 b3, .int .u8 b4, .int .u8 b5, .int .u8 b6, .int .u8 b7, .int .u8 b8, .int .u8 b9, .int .u8 b10, .int .u8 b11, .int .u8 b12, .int .u8 b13, .int .u8 b14, .int .u8 b15]) (.int .i64 2)).run Try.prog w = .ok (.int .u8 b2) w := fun _ => by kernel_rfl
  have i3 : ∀ w, (Instr.index 54 (.agg #[.int .u8 b0, .int .u8 b1, .int .u8 b2, .int .u8 b3, .int .u8 b4, .int .u8 b5, .int .u8 b6, .int .u8 b7, .int .u8 b8, .int .u8 b9, .int .u8 b10, .int .u8 b11, .int .u8 b12, .int .u8 b13, .int .u8 b14, .int .u8 b15]) (.int .i64 3)).run Try.prog w = .ok (.int .u8 b3) w := fun _ => by kernel_rfl
  have i4 : ∀ w, (Instr.index 54 (.agg #[.int .u8 b0, .int .u8 b1, .int .u8 b2, .int .u8 b3, .int .u8 b4, .int .u8 b5, .int .u8 b6, .int .u8 b7, .int .u8 b8, .int .u8 b9, .int .u8 b10, .int .u8 b11, .int .u8 b12, .int .u8 b13, .int .u8 b14, .int .u8 b15]) (.int .i64 4)).run Try.prog w = .ok (.int .u8 b4) w := fun _ => by kernel_rfl
  have i5 : ∀ w, (Instr.index 54 (.agg #[.int .u8 b0, .int .u8 b1, .int .u8 b2, .int .u8 b3, .int .u8 b4, .int .u8 b5, .int .u8 b6, .int .u8 b7, .int .u8 b8, .int .u8 b9, .int .u8 b10, .int .u8 b11, .int .u8 b12, .int .u8 b13, .int .u8 b14, .int .u8 b15]) (.int .i64 5)).run Try.prog w = .ok (.int .u8 b5) w := fun _ => by kernel_rfl
  have i6 : ∀ w, (Instr.index 54 (.agg #[.int .u8 b0, .int .u8 b1, .int .u8 b2, .int .u8 b3, .int .u8 b4, .int .u8 b5, .int .u8 b6, .int .u8 b7, .int .u8 b8, .int .u8 b9, .int .u8 b10, .int .u8 b11, .int .u8 b12, .int .u8 b13, .int .u8 b14, .int .u8 b15]) (.int .i64 6)).run Try.prog w = .ok (.int .u8 b6) w := fun _ => by kernel_rfl
  have i7 : ∀ w, (Instr.index 54 (.agg #[.int .u8 b0, .int .u8 b1, .int .u8 b2, .int .u8 b3, .int .u8 b4, .int .u8 b5, .int .u8 b6, .int .u8 b7, .int .u8 b8, .int .u8 b9, .int .u8 b10, .int .u8 b11, .int .u8 b12, .int .u8 b13, .int .u8 b14, .int .u8 b15]) (.int .i64 7)).run Try.prog w = .ok (.int .u8 b7) w := fun _ => by kernel_rfl
  have i8 : ∀ w, (Instr.index 54 (.agg #[.int .u8 b0, .int .u8 b1, .int .u8 b2, .int .u8 b3, .int .u8 b4, .int .u8 b5, .int .u8 b6, .int .u8 b7, .int .u8 b8, .int .u8 b9, .int .u8 b10, .int .u8 b11, .int .u8 b12, .int .u8 b13, .int .u8 b14, .int .u8 b15]) (.int .i64 8)).run Try.prog w = .ok (.int .u8 b8) w := fun _ => by kernel_rfl
  have i9 : ∀ w, (Instr.index 54 (.agg #[.int .u8 b0, .int .u8 b1, .int .u8 b2, .int .u8 b3, .int .u8 b4, .int .u8 b5, .int .u8 b6, .int .u8 b7, .int .u8 b8, .int .u8 b9, .int .u8 b10, .int .u8 b11, .int .u8 b12, .int .u8 b13, .int .u8 b14, .int .u8 b15]) (.int .i64 9)).run Try.prog w = .ok (.int .u8 b9) w := fun _ => by kernel_rfl
  have i10 : ∀ w, (Instr.index 54 (.agg #[.int .u8 b0, .int .u8 b1, .int .u8 b2, .int .u8 b3, .int .u8 b4, .int .u8 b5, .int .u8 b6, .int .u8 b7, .int .u8 b8, .int .u8 b9, .int .u8 b10, .int .u8 b11, .int .u8 b12, .int .u8 b13, .int .u8 b14, .int .u8 b15]) (.int .i64 10)).run Try.prog w = .ok (.int .u8 b10) w := fun _ => by kernel_rfl
  have i11 : ∀ w, (Instr.index 54 (.agg #[.int .u8 b0, .int .u8 b1, .int .u8 b2, .int .u8 b3, .int .u8 b4, .int .u8 b5, .int .u8 b6, .int .u8 b7, .int .u8 b8, .int .u8 b9, .int .u8 b10, .int .u8 b11, .int .u8 b12, .int .u8 b13, .int .u8 b14, .int .u8 b15]) (.int .i64 11)).run Try.prog w = .ok (.int .u8 b11) w := fun _ => by kernel_rfl
  have i12 : ∀ w, (Instr.index 54 (.agg #[.int .u8 b0, .int .u8 b1, .int .u8 b2, .int .u8 b3, .int .u8 b4, .int .u8 b5, .int .u8 b6, .int .u8 b7, .int .u8 b8, .int .u8 b9, .int .u8 b10, .int .u8 b11, .int .u8 b12, .int .u8 b13, .int .u8 b14, .int .u8 b15]) (.int .i64 12)).run Try.prog w = .ok (.int .u8 b12) w := fun _ => by kernel_rfl
  have i13 : ∀ w, (Instr.index 54 (.agg #[.int .u8 b0, .int .u8 b1, .int .u8 b2, .int .u8 b3, .int .u8 b4, .int .u8 b5, .int .u8 b6, .int .u8 b7, .int .u8 b8, .int .u8 b9, .int .u8 b10, .int .u8 b11, .int .u8 b12, .int .u8 b13, .int .u8 b14, .int .u8 b15]) (.int .i64 13)).run Try.prog w = .ok (.int .u8 b13) w := fun _ => by kernel_rfl
  have i14 : ∀ w, (Instr.index 54 (.agg #[.int .u8 b0, .int .u8 b1, .int .u8 b2, .int .u8 b3, .int .u8 b4, .int .u8 b5, .int .u8 b6, .int .u8 b7, .int .u8 b8, .int .u8 b9, .int .u8 b10, .int .u8 b11, .int .u8 b12, .int .u8 b13, .int .u8 b14, .int .u8 b15]) (.int .i64 14)).run Try.prog w = .ok (.int .u8 b14) w := fun _ => by kernel_rfl
  have i15 : ∀ w, (Instr.index 54 (.agg #[.int .u8 b0, .int .u8 b1, .int .u8 b2, .int .u8 b3, .int .u8 b4, .int .u8 b5, .int .u8 b6, .int .u8 b7, .int .u8 b8, .int .u8 b9, .int .u8 b10, .int .u8 b11, .int .u8 b12, .int .u8 b13, .int .u8 b14, .int .u8 b15]) (.int .i64 15)).run Try.prog w = .ok (.int .u8 b15) w := fun _ => by kernel_rfl
  have ne0_2 : w.heap.size ≠ w.heap.size + 1 + 1 := by omega
  have ne2_0 : w.heap.size + 1 + 1 ≠ w.heap.size := by omega
  go_enter Try.func57, Try.ntmps57
  go_wp2_with fail
  have zw0 : IntKind.i64.wrap 0 = 0 := by decide
  have zw1 : IntKind.i64.wrap 1 = 1 := by decide
  have zw2 : IntKind.i64.wrap 2 = 2 := by decide
  have zw3 : IntKind.i64.wrap 3 = 3 := by decide
  have zw4 : IntKind.i64.wrap 4 = 4 := by decide
  have zw5 : IntKind.i64.wrap 5 = 5 := by decide
  have zw6 : IntKind.i64.wrap 6 = 6 := by decide
  have zw7 : IntKind.i64.wrap 7 = 7 := by decide
  have zw8 : IntKind.i64.wrap 8 = 8 := by decide
  have zw16 : IntKind.i64.wrap 16 = 16 := by decide
  have zw24 : IntKind.i64.wrap 24 = 24 := by decide
  have zw32 : IntKind.i64.wrap 32 = 32 := by decide
  have zw40 : IntKind.i64.wrap 40 = 40 := by decide
  have zw48 : IntKind.i64.wrap 48 = 48 := by decide
  have zw56 : IntKind.i64.wrap 56 = 56 := by decide
  refine wp_loop_rounds 17 ?_
  rw [rounds_succ]
  refine abs_world (fun W => Kept w W ∧ Blk W (w.heap.size) 54 #[.int .u8 b0, .int .u8 b1, .int .u8 b2, .int .u8 b3, .int .u8 b4, .int .u8 b5, .int .u8 b6, .int .u8 b7, .int .u8 b8, .int .u8 b9, .int .u8 b10, .int .u8 b11, .int .u8 b12, .int .u8 b13, .int .u8 b14, .int .u8 b15] ∧ Blk W (w.heap.size + 1) 28 #[.int .u64 0, .int .u64 0] ∧ Blk W (w.heap.size + 1 + 1) 28 #[.int .u64 0, .int .u64 0]) ?_ ?_
  · refine ⟨?_, ?_, ?_, ?_⟩
    · repeat (first | exact Kept.refl _ | (refine Kept.setCell ?_ (kept_side (by first | assumption | omega)) _) | apply Kept.alloc | apply Kept.drew)
    · simp [Blk, *] <;> (intros; omega)
    · simp [Blk, *] <;> (intros; omega)
    · simp [Blk, *] <;> (intros; omega)
  rintro W1 ⟨kW1, BW1_0, BW1_1, BW1_2⟩
  have cW1_0_0 : W1.cell? ⟨w.heap.size, 0, none⟩ = some (.int .u8 b0) := BW1_0.cell 0 rfl
  have cW1_0_1 : W1.cell? ⟨w.heap.size, 1, none⟩ = some (.int .u8 b1) := BW1_0.cell 1 rfl
  have cW1_0_2 : W1.cell? ⟨w.heap.size, 2, none⟩ = some (.int .u8 b2) := BW1_0.cell 2 rfl
  have cW1_0_3 : W1.cell? ⟨w.heap.size, 3, none⟩ = some (.int .u8 b3) := BW1_0.cell 3 rfl
  have cW1_0_4 : W1.cell? ⟨w.heap.size, 4, none⟩ = some (.int .u8 b4) := BW1_0.cell 4 rfl
  have cW1_0_5 : W1.cell? ⟨w.heap.size, 5, none⟩ = some (.int .u8 b5) := BW1_0.cell 5 rfl
  have cW1_0_6 : W1.cell? ⟨w.heap.size, 6, none⟩ = some (.int .u8 b6) := BW1_0.cell 6 rfl
  have cW1_0_7 : W1.cell? ⟨w.heap.size, 7, none⟩ = some (.int .u8 b7) := BW1_0.cell 7 rfl
  have cW1_0_8 : W1.cell? ⟨w.heap.size, 8, none⟩ = some (.int .u8 b8) := BW1_0.cell 8 rfl
  have cW1_0_9 : W1.cell? ⟨w.heap.size, 9, none⟩ = some (.int .u8 b9) := BW1_0.cell 9 rfl
  have cW1_0_10 : W1.cell? ⟨w.heap.size, 10, none⟩ = some (.int .u8 b10) := BW1_0.cell 10 rfl
  have cW1_0_11 : W1.cell? ⟨w.heap.size, 11, none⟩ = some (.int .u8 b11) := BW1_0.cell 11 rfl
  have cW1_0_12 : W1.cell? ⟨w.heap.size, 12, none⟩ = some (.int .u8 b12) := BW1_0.cell 12 rfl
  have cW1_0_13 : W1.cell? ⟨w.heap.size, 13, none⟩ = some (.int .u8 b13) := BW1_0.cell 13 rfl
  have cW1_0_14 : W1.cell? ⟨w.heap.size, 14, none⟩ = some (.int .u8 b14) := BW1_0.cell 14 rfl
  have cW1_0_15 : W1.cell? ⟨w.heap.size, 15, none⟩ = some (.int .u8 b15) := BW1_0.cell 15 rfl
  have fW1_0 := BW1_0.free
  have cW1_1_0 : W1.cell? ⟨w.heap.size + 1, 0, none⟩ = some (.int .u64 0) := BW1_1.cell 0 rfl
  have cW1_1_1 : W1.cell? ⟨w.heap.size + 1, 1, none⟩ = some (.int .u64 0) := BW1_1.cell 1 rfl
  have fW1_1 := BW1_1.free
  have cW1_2_0 : W1.cell? ⟨w.heap.size + 1 + 1, 0, none⟩ = some (.int .u64 0) := BW1_2.cell 0 rfl
  have cW1_2_1 : W1.cell? ⟨w.heap.size + 1 + 1, 1, none⟩ = some (.int .u64 0) := BW1_2.cell 1 rfl
  have fW1_2 := BW1_2.free
  go_wp2_with fail
  refine wp_region_calm 12 (by kernel_rfl) (by kernel_rfl) ?_
  simp only [List.take_succ_cons, List.take_zero, List.drop_succ_cons, List.drop_zero]
  repeat (first
    | (refine calm_skip rfl ?_; simp only [Act.put, List.setIfInBounds_toArray, List.set_cons_zero, List.set_cons_succ])
    | (refine calm_ex rfl ?_; apply Exists.intro; refine And.intro (fun w' hk => ?_) ?_; (focus (have q0 := hk.cell cW1_0_0; have q1 := hk.cell cW1_0_1; have q2 := hk.cell cW1_0_2; have q3 := hk.cell cW1_0_3; have q4 := hk.cell cW1_0_4; have q5 := hk.cell cW1_0_5; have q6 := hk.cell cW1_0_6; have q7 := hk.cell cW1_0_7; have q8 := hk.cell cW1_0_8; have q9 := hk.cell cW1_0_9; have q10 := hk.cell cW1_0_10; have q11 := hk.cell cW1_0_11; have q12 := hk.cell cW1_0_12; have q13 := hk.cell cW1_0_13; have q14 := hk.cell cW1_0_14; have q15 := hk.cell cW1_0_15; have q16 := hk.cell cW1_1_0; have q17 := hk.cell cW1_1_1; have q18 := hk.cell cW1_2_0; have q19 := hk.cell cW1_2_1; clear hk; go_simp; exact rfl)); simp only [Act.put, List.setIfInBounds_toArray, List.set_cons_zero, List.set_cons_succ]))
  refine calm_nil ?_
  intro W2 hkW2
  have kW2 := kW1.trans hkW2
  have BW2_0 := BW1_0.kept hkW2
  have BW2_1 := BW1_1.kept hkW2
  have BW2_2 := BW1_2.kept hkW2
  clear cW1_0_0 cW1_0_1 cW1_0_2 cW1_0_3 cW1_0_4 cW1_0_5 cW1_0_6 cW1_0_7 cW1_0_8 cW1_0_9 cW1_0_10 cW1_0_11 cW1_0_12 cW1_0_13 cW1_0_14 cW1_0_15 cW1_1_0 cW1_1_1 cW1_2_0 cW1_2_1 fW1_0 fW1_1 fW1_2 BW1_0 BW1_1 BW1_2 kW1 hkW2
  have cW2_0_0 : W2.cell? ⟨w.heap.size, 0, none⟩ = some (.int .u8 b0) := BW2_0.cell 0 rfl
  have cW2_0_1 : W2.cell? ⟨w.heap.size, 1, none⟩ = some (.int .u8 b1) := BW2_0.cell 1 rfl
  have cW2_0_2 : W2.cell? ⟨w.heap.size, 2, none⟩ = some (.int .u8 b2) := BW2_0.cell 2 rfl
  have cW2_0_3 : W2.cell? ⟨w.heap.size, 3, none⟩ = some (.int .u8 b3) := BW2_0.cell 3 rfl
  have cW2_0_4 : W2.cell? ⟨w.heap.size, 4, none⟩ = some (.int .u8 b4) := BW2_0.cell 4 rfl
  have cW2_0_5 : W2.cell? ⟨w.heap.size, 5, none⟩ = some (.int .u8 b5) := BW2_0.cell 5 rfl
  have cW2_0_6 : W2.cell? ⟨w.heap.size, 6, none⟩ = some (.int .u8 b6) := BW2_0.cell 6 rfl
  have cW2_0_7 : W2.cell? ⟨w.heap.size, 7, none⟩ = some (.int .u8 b7) := BW2_0.cell 7 rfl
  have cW2_0_8 : W2.cell? ⟨w.heap.size, 8, none⟩ = some (.int .u8 b8) := BW2_0.cell 8 rfl
  have cW2_0_9 : W2.cell? ⟨w.heap.size, 9, none⟩ = some (.int .u8 b9) := BW2_0.cell 9 rfl
  have cW2_0_10 : W2.cell? ⟨w.heap.size, 10, none⟩ = some (.int .u8 b10) := BW2_0.cell 10 rfl
  have cW2_0_11 : W2.cell? ⟨w.heap.size, 11, none⟩ = some (.int .u8 b11) := BW2_0.cell 11 rfl
  have cW2_0_12 : W2.cell? ⟨w.heap.size, 12, none⟩ = some (.int .u8 b12) := BW2_0.cell 12 rfl
  have cW2_0_13 : W2.cell? ⟨w.heap.size, 13, none⟩ = some (.int .u8 b13) := BW2_0.cell 13 rfl
  have cW2_0_14 : W2.cell? ⟨w.heap.size, 14, none⟩ = some (.int .u8 b14) := BW2_0.cell 14 rfl
  have cW2_0_15 : W2.cell? ⟨w.heap.size, 15, none⟩ = some (.int .u8 b15) := BW2_0.cell 15 rfl
  have fW2_0 := BW2_0.free
  have cW2_1_0 : W2.cell? ⟨w.heap.size + 1, 0, none⟩ = some (.int .u64 0) := BW2_1.cell 0 rfl
  have cW2_1_1 : W2.cell? ⟨w.heap.size + 1, 1, none⟩ = some (.int .u64 0) := BW2_1.cell 1 rfl
  have fW2_1 := BW2_1.free
  have cW2_2_0 : W2.cell? ⟨w.heap.size + 1 + 1, 0, none⟩ = some (.int .u64 0) := BW2_2.cell 0 rfl
  have cW2_2_1 : W2.cell? ⟨w.heap.size + 1 + 1, 1, none⟩ = some (.int .u64 0) := BW2_2.cell 1 rfl
  have fW2_2 := BW2_2.free
  go_wp2_with fail
  rw [rounds_succ]
  refine abs_world (fun W => Kept w W ∧ Blk W (w.heap.size) 54 #[.int .u8 b0, .int .u8 b1, .int .u8 b2, .int .u8 b3, .int .u8 b4, .int .u8 b5, .int .u8 b6, .int .u8 b7, .int .u8 b8, .int .u8 b9, .int .u8 b10, .int .u8 b11, .int .u8 b12, .int .u8 b13, .int .u8 b14, .int .u8 b15] ∧ Blk W (w.heap.size + 1) 28 #[.int .u64 0, .int .u64 0] ∧ Blk W (w.heap.size + 1 + 1) 28 #[.int .u64 v0, .int .u64 0]) ?_ ?_
  · refine ⟨?_, ?_, ?_, ?_⟩
    · repeat (first | exact kW2 | (refine Kept.setCell ?_ (kept_side (by first | assumption | omega)) _) | apply Kept.alloc | apply Kept.drew)
    · simp [Blk, *] <;> (intros; omega)
    · simp [Blk, *] <;> (intros; omega)
    · simp [Blk, *] <;> (intros; omega)
  rintro W3 ⟨kW3, BW3_0, BW3_1, BW3_2⟩
  have cW3_0_0 : W3.cell? ⟨w.heap.size, 0, none⟩ = some (.int .u8 b0) := BW3_0.cell 0 rfl
  have cW3_0_1 : W3.cell? ⟨w.heap.size, 1, none⟩ = some (.int .u8 b1) := BW3_0.cell 1 rfl
  have cW3_0_2 : W3.cell? ⟨w.heap.size, 2, none⟩ = some (.int .u8 b2) := BW3_0.cell 2 rfl
  have cW3_0_3 : W3.cell? ⟨w.heap.size, 3, none⟩ = some (.int .u8 b3) := BW3_0.cell 3 rfl
  have cW3_0_4 : W3.cell? ⟨w.heap.size, 4, none⟩ = some (.int .u8 b4) := BW3_0.cell 4 rfl
  have cW3_0_5 : W3.cell? ⟨w.heap.size, 5, none⟩ = some (.int .u8 b5) := BW3_0.cell 5 rfl
  have cW3_0_6 : W3.cell? ⟨w.heap.size, 6, none⟩ = some (.int .u8 b6) := BW3_0.cell 6 rfl
  have cW3_0_7 : W3.cell? ⟨w.heap.size, 7, none⟩ = some (.int .u8 b7) := BW3_0.cell 7 rfl
  have cW3_0_8 : W3.cell? ⟨w.heap.size, 8, none⟩ = some (.int .u8 b8) := BW3_0.cell 8 rfl
  have cW3_0_9 : W3.cell? ⟨w.heap.size, 9, none⟩ = some (.int .u8 b9) := BW3_0.cell 9 rfl
  have cW3_0_10 : W3.cell? ⟨w.heap.size, 10, none⟩ = some (.int .u8 b10) := BW3_0.cell 10 rfl
  have cW3_0_11 : W3.cell? ⟨w.heap.size, 11, none⟩ = some (.int .u8 b11) := BW3_0.cell 11 rfl
  have cW3_0_12 : W3.cell? ⟨w.heap.size, 12, none⟩ = some (.int .u8 b12) := BW3_0.cell 12 rfl
  have cW3_0_13 : W3.cell? ⟨w.heap.size, 13, none⟩ = some (.int .u8 b13) := BW3_0.cell 13 rfl
  have cW3_0_14 : W3.cell? ⟨w.heap.size, 14, none⟩ = some (.int .u8 b14) := BW3_0.cell 14 rfl
  have cW3_0_15 : W3.cell? ⟨w.heap.size, 15, none⟩ = some (.int .u8 b15) := BW3_0.cell 15 rfl
  have fW3_0 := BW3_0.free
  have cW3_1_0 : W3.cell? ⟨w.heap.size + 1, 0, none⟩ = some (.int .u64 0) := BW3_1.cell 0 rfl
  have cW3_1_1 : W3.cell? ⟨w.heap.size + 1, 1, none⟩ = some (.int .u64 0) := BW3_1.cell 1 rfl
  have fW3_1 := BW3_1.free
  have cW3_2_0 : W3.cell? ⟨w.heap.size + 1 + 1, 0, none⟩ = some (.int .u64 v0) := BW3_2.cell 0 rfl
  have cW3_2_1 : W3.cell? ⟨w.heap.size + 1 + 1, 1, none⟩ = some (.int .u64 0) := BW3_2.cell 1 rfl
  have fW3_2 := BW3_2.free
  go_wp2_with fail
  refine wp_region_calm 12 (by kernel_rfl) (by kernel_rfl) ?_
  simp only [List.take_succ_cons, List.take_zero, List.drop_succ_cons, List.drop_zero]
  repeat (first
    | (refine calm_skip rfl ?_; simp only [Act.put, List.setIfInBounds_toArray, List.set_cons_zero, List.set_cons_succ])
    | (refine calm_ex rfl ?_; apply Exists.intro; refine And.intro (fun w' hk => ?_) ?_; (focus (have q0 := hk.cell cW3_0_0; have q1 := hk.cell cW3_0_1; have q2 := hk.cell cW3_0_2; have q3 := hk.cell cW3_0_3; have q4 := hk.cell cW3_0_4; have q5 := hk.cell cW3_0_5; have q6 := hk.cell cW3_0_6; have q7 := hk.cell cW3_0_7; have q8 := hk.cell cW3_0_8; have q9 := hk.cell cW3_0_9; have q10 := hk.cell cW3_0_10; have q11 := hk.cell cW3_0_11; have q12 := hk.cell cW3_0_12; have q13 := hk.cell cW3_0_13; have q14 := hk.cell cW3_0_14; have q15 := hk.cell cW3_0_15; have q16 := hk.cell cW3_1_0; have q17 := hk.cell cW3_1_1; have q18 := hk.cell cW3_2_0; have q19 := hk.cell cW3_2_1; clear hk; go_simp; exact rfl)); simp only [Act.put, List.setIfInBounds_toArray, List.set_cons_zero, List.set_cons_succ]))
  refine calm_nil ?_
  intro W4 hkW4
  have kW4 := kW3.trans hkW4
  have BW4_0 := BW3_0.kept hkW4
  have BW4_1 := BW3_1.kept hkW4
  have BW4_2 := BW3_2.kept hkW4
  clear cW3_0_0 cW3_0_1 cW3_0_2 cW3_0_3 cW3_0_4 cW3_0_5 cW3_0_6 cW3_0_7 cW3_0_8 cW3_0_9 cW3_0_10 cW3_0_11 cW3_0_12 cW3_0_13 cW3_0_14 cW3_0_15 cW3_1_0 cW3_1_1 cW3_2_0 cW3_2_1 fW3_0 fW3_1 fW3_2 BW3_0 BW3_1 BW3_2 kW3 hkW4
  have cW4_0_0 : W4.cell? ⟨w.heap.size, 0, none⟩ = some (.int .u8 b0) := BW4_0.cell 0 rfl
  have cW4_0_1 : W4.cell? ⟨w.heap.size, 1, none⟩ = some (.int .u8 b1) := BW4_0.cell 1 rfl
  have cW4_0_2 : W4.cell? ⟨w.heap.size, 2, none⟩ = some (.int .u8 b2) := BW4_0.cell 2 rfl
  have cW4_0_3 : W4.cell? ⟨w.heap.size, 3, none⟩ = some (.int .u8 b3) := BW4_0.cell 3 rfl
  have cW4_0_4 : W4.cell? ⟨w.heap.size, 4, none⟩ = some (.int .u8 b4) := BW4_0.cell 4 rfl
  have cW4_0_5 : W4.cell? ⟨w.heap.size, 5, none⟩ = some (.int .u8 b5) := BW4_0.cell 5 rfl
  have cW4_0_6 : W4.cell? ⟨w.heap.size, 6, none⟩ = some (.int .u8 b6) := BW4_0.cell 6 rfl
  have cW4_0_7 : W4.cell? ⟨w.heap.size, 7, none⟩ = some (.int .u8 b7) := BW4_0.cell 7 rfl
  have cW4_0_8 : W4.cell? ⟨w.heap.size, 8, none⟩ = some (.int .u8 b8) := BW4_0.cell 8 rfl
  have cW4_0_9 : W4.cell? ⟨w.heap.size, 9, none⟩ = some (.int .u8 b9) := BW4_0.cell 9 rfl
  have cW4_0_10 : W4.cell? ⟨w.heap.size, 10, none⟩ = some (.int .u8 b10) := BW4_0.cell 10 rfl
  have cW4_0_11 : W4.cell? ⟨w.heap.size, 11, none⟩ = some (.int .u8 b11) := BW4_0.cell 11 rfl
  have cW4_0_12 : W4.cell? ⟨w.heap.size, 12, none⟩ = some (.int .u8 b12) := BW4_0.cell 12 rfl
  have cW4_0_13 : W4.cell? ⟨w.heap.size, 13, none⟩ = some (.int .u8 b13) := BW4_0.cell 13 rfl
  have cW4_0_14 : W4.cell? ⟨w.heap.size, 14, none⟩ = some (.int .u8 b14) := BW4_0.cell 14 rfl
  have cW4_0_15 : W4.cell? ⟨w.heap.size, 15, none⟩ = some (.int .u8 b15) := BW4_0.cell 15 rfl
  have fW4_0 := BW4_0.free
  have cW4_1_0 : W4.cell? ⟨w.heap.size + 1, 0, none⟩ = some (.int .u64 0) := BW4_1.cell 0 rfl
  have cW4_1_1 : W4.cell? ⟨w.heap.size + 1, 1, none⟩ = some (.int .u64 0) := BW4_1.cell 1 rfl
  have fW4_1 := BW4_1.free
  have cW4_2_0 : W4.cell? ⟨w.heap.size + 1 + 1, 0, none⟩ = some (.int .u64 v0) := BW4_2.cell 0 rfl
  have cW4_2_1 : W4.cell? ⟨w.heap.size + 1 + 1, 1, none⟩ = some (.int .u64 0) := BW4_2.cell 1 rfl
  have fW4_2 := BW4_2.free
  go_wp2_with fail
  rw [rounds_succ]
  refine abs_world (fun W => Kept w W ∧ Blk W (w.heap.size) 54 #[.int .u8 b0, .int .u8 b1, .int .u8 b2, .int .u8 b3, .int .u8 b4, .int .u8 b5, .int .u8 b6, .int .u8 b7, .int .u8 b8, .int .u8 b9, .int .u8 b10, .int .u8 b11, .int .u8 b12, .int .u8 b13, .int .u8 b14, .int .u8 b15] ∧ Blk W (w.heap.size + 1) 28 #[.int .u64 0, .int .u64 0] ∧ Blk W (w.heap.size + 1 + 1) 28 #[.int .u64 v1, .int .u64 0]) ?_ ?_
  · refine ⟨?_, ?_, ?_, ?_⟩
    · repeat (first | exact kW4 | (refine Kept.setCell ?_ (kept_side (by first | assumption | omega)) _) | apply Kept.alloc | apply Kept.drew)
    · simp [Blk, *] <;> (intros; omega)
    · simp [Blk, *] <;> (intros; omega)
    · simp [Blk, *] <;> (intros; omega)
  rintro W5 ⟨kW5, BW5_0, BW5_1, BW5_2⟩
  have cW5_0_0 : W5.cell? ⟨w.heap.size, 0, none⟩ = some (.int .u8 b0) := BW5_0.cell 0 rfl
  have cW5_0_1 : W5.cell? ⟨w.heap.size, 1, none⟩ = some (.int .u8 b1) := BW5_0.cell 1 rfl
  have cW5_0_2 : W5.cell? ⟨w.heap.size, 2, none⟩ = some (.int .u8 b2) := BW5_0.cell 2 rfl
  have cW5_0_3 : W5.cell? ⟨w.heap.size, 3, none⟩ = some (.int .u8 b3) := BW5_0.cell 3 rfl
  have cW5_0_4 : W5.cell? ⟨w.heap.size, 4, none⟩ = some (.int .u8 b4) := BW5_0.cell 4 rfl
  have cW5_0_5 : W5.cell? ⟨w.heap.size, 5, none⟩ = some (.int .u8 b5) := BW5_0.cell 5 rfl
  have cW5_0_6 : W5.cell? ⟨w.heap.size, 6, none⟩ = some (.int .u8 b6) := BW5_0.cell 6 rfl
  have cW5_0_7 : W5.cell? ⟨w.heap.size, 7, none⟩ = some (.int .u8 b7) := BW5_0.cell 7 rfl
  have cW5_0_8 : W5.cell? ⟨w.heap.size, 8, none⟩ = some (.int .u8 b8) := BW5_0.cell 8 rfl
  have cW5_0_9 : W5.cell? ⟨w.heap.size, 9, none⟩ = some (.int .u8 b9) := BW5_0.cell 9 rfl
  have cW5_0_10 : W5.cell? ⟨w.heap.size, 10, none⟩ = some (.int .u8 b10) := BW5_0.cell 10 rfl
  have cW5_0_11 : W5.cell? ⟨w.heap.size, 11, none⟩ = some (.int .u8 b11) := BW5_0.cell 11 rfl
  have cW5_0_12 : W5.cell? ⟨w.heap.size, 12, none⟩ = some (.int .u8 b12) := BW5_0.cell 12 rfl
  have cW5_0_13 : W5.cell? ⟨w.heap.size, 13, none⟩ = some (.int .u8 b13) := BW5_0.cell 13 rfl
  have cW5_0_14 : W5.cell? ⟨w.heap.size, 14, none⟩ = some (.int .u8 b14) := BW5_0.cell 14 rfl
  have cW5_0_15 : W5.cell? ⟨w.heap.size, 15, none⟩ = some (.int .u8 b15) := BW5_0.cell 15 rfl
  have fW5_0 := BW5_0.free
  have cW5_1_0 : W5.cell? ⟨w.heap.size + 1, 0, none⟩ = some (.int .u64 0) := BW5_1.cell 0 rfl
  have cW5_1_1 : W5.cell? ⟨w.heap.size + 1, 1, none⟩ = some (.int .u64 0) := BW5_1.cell 1 rfl
  have fW5_1 := BW5_1.free
  have cW5_2_0 : W5.cell? ⟨w.heap.size + 1 + 1, 0, none⟩ = some (.int .u64 v1) := BW5_2.cell 0 rfl
  have cW5_2_1 : W5.cell? ⟨w.heap.size + 1 + 1, 1, none⟩ = some (.int .u64 0) := BW5_2.cell 1 rfl
  have fW5_2 := BW5_2.free
  go_wp2_with fail
  refine wp_region_calm 12 (by kernel_rfl) (by kernel_rfl) ?_
  simp only [List.take_succ_cons, List.take_zero, List.drop_succ_cons, List.drop_zero]
  repeat (first
    | (refine calm_skip rfl ?_; simp only [Act.put, List.setIfInBounds_toArray, List.set_cons_zero, List.set_cons_succ])
    | (refine calm_ex rfl ?_; apply Exists.intro; refine And.intro (fun w' hk => ?_) ?_; (focus (have q0 := hk.cell cW5_0_0; have q1 := hk.cell cW5_0_1; have q2 := hk.cell cW5_0_2; have q3 := hk.cell cW5_0_3; have q4 := hk.cell cW5_0_4; have q5 := hk.cell cW5_0_5; have q6 := hk.cell cW5_0_6; have q7 := hk.cell cW5_0_7; have q8 := hk.cell cW5_0_8; have q9 := hk.cell cW5_0_9; have q10 := hk.cell cW5_0_10; have q11 := hk.cell cW5_0_11; have q12 := hk.cell cW5_0_12; have q13 := hk.cell cW5_0_13; have q14 := hk.cell cW5_0_14; have q15 := hk.cell cW5_0_15; have q16 := hk.cell cW5_1_0; have q17 := hk.cell cW5_1_1; have q18 := hk.cell cW5_2_0; have q19 := hk.cell cW5_2_1; clear hk; go_simp; exact rfl)); simp only [Act.put, List.setIfInBounds_toArray, List.set_cons_zero, List.set_cons_succ]))
  refine calm_nil ?_
  intro W6 hkW6
  have kW6 := kW5.trans hkW6
  have BW6_0 := BW5_0.kept hkW6
  have BW6_1 := BW5_1.kept hkW6
  have BW6_2 := BW5_2.kept hkW6
  clear cW5_0_0 cW5_0_1 cW5_0_2 cW5_0_3 cW5_0_4 cW5_0_5 cW5_0_6 cW5_0_7 cW5_0_8 cW5_0_9 cW5_0_10 cW5_0_11 cW5_0_12 cW5_0_13 cW5_0_14 cW5_0_15 cW5_1_0 cW5_1_1 cW5_2_0 cW5_2_1 fW5_0 fW5_1 fW5_2 BW5_0 BW5_1 BW5_2 kW5 hkW6
  have cW6_0_0 : W6.cell? ⟨w.heap.size, 0, none⟩ = some (.int .u8 b0) := BW6_0.cell 0 rfl
  have cW6_0_1 : W6.cell? ⟨w.heap.size, 1, none⟩ = some (.int .u8 b1) := BW6_0.cell 1 rfl
  have cW6_0_2 : W6.cell? ⟨w.heap.size, 2, none⟩ = some (.int .u8 b2) := BW6_0.cell 2 rfl
  have cW6_0_3 : W6.cell? ⟨w.heap.size, 3, none⟩ = some (.int .u8 b3) := BW6_0.cell 3 rfl
  have cW6_0_4 : W6.cell? ⟨w.heap.size, 4, none⟩ = some (.int .u8 b4) := BW6_0.cell 4 rfl
  have cW6_0_5 : W6.cell? ⟨w.heap.size, 5, none⟩ = some (.int .u8 b5) := BW6_0.cell 5 rfl
  have cW6_0_6 : W6.cell? ⟨w.heap.size, 6, none⟩ = some (.int .u8 b6) := BW6_0.cell 6 rfl
  have cW6_0_7 : W6.cell? ⟨w.heap.size, 7, none⟩ = some (.int .u8 b7) := BW6_0.cell 7 rfl
  have cW6_0_8 : W6.cell? ⟨w.heap.size, 8, none⟩ = some (.int .u8 b8) := BW6_0.cell 8 rfl
  have cW6_0_9 : W6.cell? ⟨w.heap.size, 9, none⟩ = some (.int .u8 b9) := BW6_0.cell 9 rfl
  have cW6_0_10 : W6.cell? ⟨w.heap.size, 10, none⟩ = some (.int .u8 b10) := BW6_0.cell 10 rfl
  have cW6_0_11 : W6.cell? ⟨w.heap.size, 11, none⟩ = some (.int .u8 b11) := BW6_0.cell 11 rfl
  have cW6_0_12 : W6.cell? ⟨w.heap.size, 12, none⟩ = some (.int .u8 b12) := BW6_0.cell 12 rfl
  have cW6_0_13 : W6.cell? ⟨w.heap.size, 13, none⟩ = some (.int .u8 b13) := BW6_0.cell 13 rfl
  have cW6_0_14 : W6.cell? ⟨w.heap.size, 14, none⟩ = some (.int .u8 b14) := BW6_0.cell 14 rfl
  have cW6_0_15 : W6.cell? ⟨w.heap.size, 15, none⟩ = some (.int .u8 b15) := BW6_0.cell 15 rfl
  have fW6_0 := BW6_0.free
  have cW6_1_0 : W6.cell? ⟨w.heap.size + 1, 0, none⟩ = some (.int .u64 0) := BW6_1.cell 0 rfl
  have cW6_1_1 : W6.cell? ⟨w.heap.size + 1, 1, none⟩ = some (.int .u64 0) := BW6_1.cell 1 rfl
  have fW6_1 := BW6_1.free
  have cW6_2_0 : W6.cell? ⟨w.heap.size + 1 + 1, 0, none⟩ = some (.int .u64 v1) := BW6_2.cell 0 rfl
  have cW6_2_1 : W6.cell? ⟨w.heap.size + 1 + 1, 1, none⟩ = some (.int .u64 0) := BW6_2.cell 1 rfl
  have fW6_2 := BW6_2.free
  go_wp2_with fail
  rw [rounds_succ]
  refine abs_world (fun W => Kept w W ∧ Blk W (w.heap.size) 54 #[.int .u8 b0, .int .u8 b1, .int .u8 b2, .int .u8 b3, .int .u8 b4, .int .u8 b5, .int .u8 b6, .int .u8 b7, .int .u8 b8, .int .u8 b9, .int .u8 b10, .int .u8 b11, .int .u8 b12, .int .u8 b13, .int .u8 b14, .int .u8 b15] ∧ Blk W (w.heap.size + 1) 28 #[.int .u64 0, .int .u64 0] ∧ Blk W (w.heap.size + 1 + 1) 28 #[.int .u64 v2, .int .u64 0]) ?_ ?_
  · refine ⟨?_, ?_, ?_, ?_⟩
    · repeat (first | exact kW6 | (refine Kept.setCell ?_ (kept_side (by first | assumption | omega)) _) | apply Kept.alloc | apply Kept.drew)
    · simp [Blk, *] <;> (intros; omega)
    · simp [Blk, *] <;> (intros; omega)
    · simp [Blk, *] <;> (intros; omega)
  rintro W7 ⟨kW7, BW7_0, BW7_1, BW7_2⟩
  have cW7_0_0 : W7.cell? ⟨w.heap.size, 0, none⟩ = some (.int .u8 b0) := BW7_0.cell 0 rfl
  have cW7_0_1 : W7.cell? ⟨w.heap.size, 1, none⟩ = some (.int .u8 b1) := BW7_0.cell 1 rfl
  have cW7_0_2 : W7.cell? ⟨w.heap.size, 2, none⟩ = some (.int .u8 b2) := BW7_0.cell 2 rfl
  have cW7_0_3 : W7.cell? ⟨w.heap.size, 3, none⟩ = some (.int .u8 b3) := BW7_0.cell 3 rfl
  have cW7_0_4 : W7.cell? ⟨w.heap.size, 4, none⟩ = some (.int .u8 b4) := BW7_0.cell 4 rfl
  have cW7_0_5 : W7.cell? ⟨w.heap.size, 5, none⟩ = some (.int .u8 b5) := BW7_0.cell 5 rfl
  have cW7_0_6 : W7.cell? ⟨w.heap.size, 6, none⟩ = some (.int .u8 b6) := BW7_0.cell 6 rfl
  have cW7_0_7 : W7.cell? ⟨w.heap.size, 7, none⟩ = some (.int .u8 b7) := BW7_0.cell 7 rfl
  have cW7_0_8 : W7.cell? ⟨w.heap.size, 8, none⟩ = some (.int .u8 b8) := BW7_0.cell 8 rfl
  have cW7_0_9 : W7.cell? ⟨w.heap.size, 9, none⟩ = some (.int .u8 b9) := BW7_0.cell 9 rfl
  have cW7_0_10 : W7.cell? ⟨w.heap.size, 10, none⟩ = some (.int .u8 b10) := BW7_0.cell 10 rfl
  have cW7_0_11 : W7.cell? ⟨w.heap.size, 11, none⟩ = some (.int .u8 b11) := BW7_0.cell 11 rfl
  have cW7_0_12 : W7.cell? ⟨w.heap.size, 12, none⟩ = some (.int .u8 b12) := BW7_0.cell 12 rfl
  have cW7_0_13 : W7.cell? ⟨w.heap.size, 13, none⟩ = some (.int .u8 b13) := BW7_0.cell 13 rfl
  have cW7_0_14 : W7.cell? ⟨w.heap.size, 14, none⟩ = some (.int .u8 b14) := BW7_0.cell 14 rfl
  have cW7_0_15 : W7.cell? ⟨w.heap.size, 15, none⟩ = some (.int .u8 b15) := BW7_0.cell 15 rfl
  have fW7_0 := BW7_0.free
  have cW7_1_0 : W7.cell? ⟨w.heap.size + 1, 0, none⟩ = some (.int .u64 0) := BW7_1.cell 0 rfl
  have cW7_1_1 : W7.cell? ⟨w.heap.size + 1, 1, none⟩ = some (.int .u64 0) := BW7_1.cell 1 rfl
  have fW7_1 := BW7_1.free
  have cW7_2_0 : W7.cell? ⟨w.heap.size + 1 + 1, 0, none⟩ = some (.int .u64 v2) := BW7_2.cell 0 rfl
  have cW7_2_1 : W7.cell? ⟨w.heap.size + 1 + 1, 1, none⟩ = some (.int .u64 0) := BW7_2.cell 1 rfl
  have fW7_2 := BW7_2.free
  go_wp2_with fail
  refine wp_region_calm 12 (by kernel_rfl) (by kernel_rfl) ?_
  simp only [List.take_succ_cons, List.take_zero, List.drop_succ_cons, List.drop_zero]
  repeat (first
    | (refine calm_skip rfl ?_; simp only [Act.put, List.setIfInBounds_toArray, List.set_cons_zero, List.set_cons_succ])
    | (refine calm_ex rfl ?_; apply Exists.intro; refine And.intro (fun w' hk => ?_) ?_; (focus (have q0 := hk.cell cW7_0_0; have q1 := hk.cell cW7_0_1; have q2 := hk.cell cW7_0_2; have q3 := hk.cell cW7_0_3; have q4 := hk.cell cW7_0_4; have q5 := hk.cell cW7_0_5; have q6 := hk.cell cW7_0_6; have q7 := hk.cell cW7_0_7; have q8 := hk.cell cW7_0_8; have q9 := hk.cell cW7_0_9; have q10 := hk.cell cW7_0_10; have q11 := hk.cell cW7_0_11; have q12 := hk.cell cW7_0_12; have q13 := hk.cell cW7_0_13; have q14 := hk.cell cW7_0_14; have q15 := hk.cell cW7_0_15; have q16 := hk.cell cW7_1_0; have q17 := hk.cell cW7_1_1; have q18 := hk.cell cW7_2_0; have q19 := hk.cell cW7_2_1; clear hk; go_simp; exact rfl)); simp only [Act.put, List.setIfInBounds_toArray, List.set_cons_zero, List.set_cons_succ]))
  refine calm_nil ?_
  intro W8 hkW8
  have kW8 := kW7.trans hkW8
  have BW8_0 := BW7_0.kept hkW8
  have BW8_1 := BW7_1.kept hkW8
  have BW8_2 := BW7_2.kept hkW8
  clear cW7_0_0 cW7_0_1 cW7_0_2 cW7_0_3 cW7_0_4 cW7_0_5 cW7_0_6 cW7_0_7 cW7_0_8 cW7_0_9 cW7_0_10 cW7_0_11 cW7_0_12 cW7_0_13 cW7_0_14 cW7_0_15 cW7_1_0 cW7_1_1 cW7_2_0 cW7_2_1 fW7_0 fW7_1 fW7_2 BW7_0 BW7_1 BW7_2 kW7 hkW8
  have cW8_0_0 : W8.cell? ⟨w.heap.size, 0, none⟩ = some (.int .u8 b0) := BW8_0.cell 0 rfl
  have cW8_0_1 : W8.cell? ⟨w.heap.size, 1, none⟩ = some (.int .u8 b1) := BW8_0.cell 1 rfl
  have cW8_0_2 : W8.cell? ⟨w.heap.size, 2, none⟩ = some (.int .u8 b2) := BW8_0.cell 2 rfl
  have cW8_0_3 : W8.cell? ⟨w.heap.size, 3, none⟩ = some (.int .u8 b3) := BW8_0.cell 3 rfl
  have cW8_0_4 : W8.cell? ⟨w.heap.size, 4, none⟩ = some (.int .u8 b4) := BW8_0.cell 4 rfl
  have cW8_0_5 : W8.cell? ⟨w.heap.size, 5, none⟩ = some (.int .u8 b5) := BW8_0.cell 5 rfl
  have cW8_0_6 : W8.cell? ⟨w.heap.size, 6, none⟩ = some (.int .u8 b6) := BW8_0.cell 6 rfl
  have cW8_0_7 : W8.cell? ⟨w.heap.size, 7, none⟩ = some (.int .u8 b7) := BW8_0.cell 7 rfl
  have cW8_0_8 : W8.cell? ⟨w.heap.size, 8, none⟩ = some (.int .u8 b8) := BW8_0.cell 8 rfl
  have cW8_0_9 : W8.cell? ⟨w.heap.size, 9, none⟩ = some (.int .u8 b9) := BW8_0.cell 9 rfl
  have cW8_0_10 : W8.cell? ⟨w.heap.size, 10, none⟩ = some (.int .u8 b10) := BW8_0.cell 10 rfl
  have cW8_0_11 : W8.cell? ⟨w.heap.size, 11, none⟩ = some (.int .u8 b11) := BW8_0.cell 11 rfl
  have cW8_0_12 : W8.cell? ⟨w.heap.size, 12, none⟩ = some (.int .u8 b12) := BW8_0.cell 12 rfl
  have cW8_0_13 : W8.cell? ⟨w.heap.size, 13, none⟩ = some (.int .u8 b13) := BW8_0.cell 13 rfl
  have cW8_0_14 : W8.cell? ⟨w.heap.size, 14, none⟩ = some (.int .u8 b14) := BW8_0.cell 14 rfl
  have cW8_0_15 : W8.cell? ⟨w.heap.size, 15, none⟩ = some (.int .u8 b15) := BW8_0.cell 15 rfl
  have fW8_0 := BW8_0.free
  have cW8_1_0 : W8.cell? ⟨w.heap.size + 1, 0, none⟩ = some (.int .u64 0) := BW8_1.cell 0 rfl
  have cW8_1_1 : W8.cell? ⟨w.heap.size + 1, 1, none⟩ = some (.int .u64 0) := BW8_1.cell 1 rfl
  have fW8_1 := BW8_1.free
  have cW8_2_0 : W8.cell? ⟨w.heap.size + 1 + 1, 0, none⟩ = some (.int .u64 v2) := BW8_2.cell 0 rfl
  have cW8_2_1 : W8.cell? ⟨w.heap.size + 1 + 1, 1, none⟩ = some (.int .u64 0) := BW8_2.cell 1 rfl
  have fW8_2 := BW8_2.free
  go_wp2_with fail
  rw [rounds_succ]
  refine abs_world (fun W => Kept w W ∧ Blk W (w.heap.size) 54 #[.int .u8 b0, .int .u8 b1, .int .u8 b2, .int .u8 b3, .int .u8 b4, .int .u8 b5, .int .u8 b6, .int .u8 b7, .int .u8 b8, .int .u8 b9, .int .u8 b10, .int .u8 b11, .int .u8 b12, .int .u8 b13, .int .u8 b14, .int .u8 b15] ∧ Blk W (w.heap.size + 1) 28 #[.int .u64 0, .int .u64 0] ∧ Blk W (w.heap.size + 1 + 1) 28 #[.int .u64 v3, .int .u64 0]) ?_ ?_
  · refine ⟨?_, ?_, ?_, ?_⟩
    · repeat (first | exact kW8 | (refine Kept.setCell ?_ (kept_side (by first | assumption | omega)) _) | apply Kept.alloc | apply Kept.drew)
    · simp [Blk, *] <;> (intros; omega)
    · simp [Blk, *] <;> (intros; omega)
    · simp [Blk, *] <;> (intros; omega)
  rintro W9 ⟨kW9, BW9_0, BW9_1, BW9_2⟩
  have cW9_0_0 : W9.cell? ⟨w.heap.size, 0, none⟩ = some (.int .u8 b0) := BW9_0.cell 0 rfl
  have cW9_0_1 : W9.cell? ⟨w.heap.size, 1, none⟩ = some (.int .u8 b1) := BW9_0.cell 1 rfl
  have cW9_0_2 : W9.cell? ⟨w.heap.size, 2, none⟩ = some (.int .u8 b2) := BW9_0.cell 2 rfl
  have cW9_0_3 : W9.cell? ⟨w.heap.size, 3, none⟩ = some (.int .u8 b3) := BW9_0.cell 3 rfl
  have cW9_0_4 : W9.cell? ⟨w.heap.size, 4, none⟩ = some (.int .u8 b4) := BW9_0.cell 4 rfl
  have cW9_0_5 : W9.cell? ⟨w.heap.size, 5, none⟩ = some (.int .u8 b5) := BW9_0.cell 5 rfl
  have cW9_0_6 : W9.cell? ⟨w.heap.size, 6, none⟩ = some (.int .u8 b6) := BW9_0.cell 6 rfl
  have cW9_0_7 : W9.cell? ⟨w.heap.size, 7, none⟩ = some (.int .u8 b7) := BW9_0.cell 7 rfl
  have cW9_0_8 : W9.cell? ⟨w.heap.size, 8, none⟩ = some (.int .u8 b8) := BW9_0.cell 8 rfl
  have cW9_0_9 : W9.cell? ⟨w.heap.size, 9, none⟩ = some (.int .u8 b9) := BW9_0.cell 9 rfl
  have cW9_0_10 : W9.cell? ⟨w.heap.size, 10, none⟩ = some (.int .u8 b10) := BW9_0.cell 10 rfl
  have cW9_0_11 : W9.cell? ⟨w.heap.size, 11, none⟩ = some (.int .u8 b11) := BW9_0.cell 11 rfl
  have cW9_0_12 : W9.cell? ⟨w.heap.size, 12, none⟩ = some (.int .u8 b12) := BW9_0.cell 12 rfl
  have cW9_0_13 : W9.cell? ⟨w.heap.size, 13, none⟩ = some (.int .u8 b13) := BW9_0.cell 13 rfl
  have cW9_0_14 : W9.cell? ⟨w.heap.size, 14, none⟩ = some (.int .u8 b14) := BW9_0.cell 14 rfl
  have cW9_0_15 : W9.cell? ⟨w.heap.size, 15, none⟩ = some (.int .u8 b15) := BW9_0.cell 15 rfl
  have fW9_0 := BW9_0.free
  have cW9_1_0 : W9.cell? ⟨w.heap.size + 1, 0, none⟩ = some (.int .u64 0) := BW9_1.cell 0 rfl
  have cW9_1_1 : W9.cell? ⟨w.heap.size + 1, 1, none⟩ = some (.int .u64 0) := BW9_1.cell 1 rfl
  have fW9_1 := BW9_1.free
  have cW9_2_0 : W9.cell? ⟨w.heap.size + 1 + 1, 0, none⟩ = some (.int .u64 v3) := BW9_2.cell 0 rfl
  have cW9_2_1 : W9.cell? ⟨w.heap.size + 1 + 1, 1, none⟩ = some (.int .u64 0) := BW9_2.cell 1 rfl
  have fW9_2 := BW9_2.free
  go_wp2_with fail
  refine wp_region_calm 12 (by kernel_rfl) (by kernel_rfl) ?_
  simp only [List.take_succ_cons, List.take_zero, List.drop_succ_cons, List.drop_zero]
  repeat (first
    | (refine calm_skip rfl ?_; simp only [Act.put, List.setIfInBounds_toArray, List.set_cons_zero, List.set_cons_succ])
    | (refine calm_ex rfl ?_; apply Exists.intro; refine And.intro (fun w' hk => ?_) ?_; (focus (have q0 := hk.cell cW9_0_0; have q1 := hk.cell cW9_0_1; have q2 := hk.cell cW9_0_2; have q3 := hk.cell cW9_0_3; have q4 := hk.cell cW9_0_4; have q5 := hk.cell cW9_0_5; have q6 := hk.cell cW9_0_6; have q7 := hk.cell cW9_0_7; have q8 := hk.cell cW9_0_8; have q9 := hk.cell cW9_0_9; have q10 := hk.cell cW9_0_10; have q11 := hk.cell cW9_0_11; have q12 := hk.cell cW9_0_12; have q13 := hk.cell cW9_0_13; have q14 := hk.cell cW9_0_14; have q15 := hk.cell cW9_0_15; have q16 := hk.cell cW9_1_0; have q17 := hk.cell cW9_1_1; have q18 := hk.cell cW9_2_0; have q19 := hk.cell cW9_2_1; clear hk; go_simp; exact rfl)); simp only [Act.put, List.setIfInBounds_toArray, List.set_cons_zero, List.set_cons_succ]))
  refine calm_nil ?_
  intro W10 hkW10
  have kW10 := kW9.trans hkW10
  have BW10_0 := BW9_0.kept hkW10
  have BW10_1 := BW9_1.kept hkW10
  have BW10_2 := BW9_2.kept hkW10
  clear cW9_0_0 cW9_0_1 cW9_0_2 cW9_0_3 cW9_0_4 cW9_0_5 cW9_0_6 cW9_0_7 cW9_0_8 cW9_0_9 cW9_0_10 cW9_0_11 cW9_0_12 cW9_0_13 cW9_0_14 cW9_0_15 cW9_1_0 cW9_1_1 cW9_2_0 cW9_2_1 fW9_0 fW9_1 fW9_2 BW9_0 BW9_1 BW9_2 kW9 hkW10
  have cW10_0_0 : W10.cell? ⟨w.heap.size, 0, none⟩ = some (.int .u8 b0) := BW10_0.cell 0 rfl
  have cW10_0_1 : W10.cell? ⟨w.heap.size, 1, none⟩ = some (.int .u8 b1) := BW10_0.cell 1 rfl
  have cW10_0_2 : W10.cell? ⟨w.heap.size, 2, none⟩ = some (.int .u8 b2) := BW10_0.cell 2 rfl
  have cW10_0_3 : W10.cell? ⟨w.heap.size, 3, none⟩ = some (.int .u8 b3) := BW10_0.cell 3 rfl
  have cW10_0_4 : W10.cell? ⟨w.heap.size, 4, none⟩ = some (.int .u8 b4) := BW10_0.cell 4 rfl
  have cW10_0_5 : W10.cell? ⟨w.heap.size, 5, none⟩ = some (.int .u8 b5) := BW10_0.cell 5 rfl
  have cW10_0_6 : W10.cell? ⟨w.heap.size, 6, none⟩ = some (.int .u8 b6) := BW10_0.cell 6 rfl
  have cW10_0_7 : W10.cell? ⟨w.heap.size, 7, none⟩ = some (.int .u8 b7) := BW10_0.cell 7 rfl
  have cW10_0_8 : W10.cell? ⟨w.heap.size, 8, none⟩ = some (.int .u8 b8) := BW10_0.cell 8 rfl
  have cW10_0_9 : W10.cell? ⟨w.heap.size, 9, none⟩ = some (.int .u8 b9) := BW10_0.cell 9 rfl
  have cW10_0_10 : W10.cell? ⟨w.heap.size, 10, none⟩ = some (.int .u8 b10) := BW10_0.cell 10 rfl
  have cW10_0_11 : W10.cell? ⟨w.heap.size, 11, none⟩ = some (.int .u8 b11) := BW10_0.cell 11 rfl
  have cW10_0_12 : W10.cell? ⟨w.heap.size, 12, none⟩ = some (.int .u8 b12) := BW10_0.cell 12 rfl
  have cW10_0_13 : W10.cell? ⟨w.heap.size, 13, none⟩ = some (.int .u8 b13) := BW10_0.cell 13 rfl
  have cW10_0_14 : W10.cell? ⟨w.heap.size, 14, none⟩ = some (.int .u8 b14) := BW10_0.cell 14 rfl
  have cW10_0_15 : W10.cell? ⟨w.heap.size, 15, none⟩ = some (.int .u8 b15) := BW10_0.cell 15 rfl
  have fW10_0 := BW10_0.free
  have cW10_1_0 : W10.cell? ⟨w.heap.size + 1, 0, none⟩ = some (.int .u64 0) := BW10_1.cell 0 rfl
  have cW10_1_1 : W10.cell? ⟨w.heap.size + 1, 1, none⟩ = some (.int .u64 0) := BW10_1.cell 1 rfl
  have fW10_1 := BW10_1.free
  have cW10_2_0 : W10.cell? ⟨w.heap.size + 1 + 1, 0, none⟩ = some (.int .u64 v3) := BW10_2.cell 0 rfl
  have cW10_2_1 : W10.cell? ⟨w.heap.size + 1 + 1, 1, none⟩ = some (.int .u64 0) := BW10_2.cell 1 rfl
  have fW10_2 := BW10_2.free
  go_wp2_with fail
  rw [rounds_succ]
  refine abs_world (fun W => Kept w W ∧ Blk W (w.heap.size) 54 #[.int .u8 b0, .int .u8 b1, .int .u8 b2, .int .u8 b3, .int .u8 b4, .int .u8 b5, .int .u8 b6, .int .u8 b7, .int .u8 b8, .int .u8 b9, .int .u8 b10, .int .u8 b11, .int .u8 b12, .int .u8 b13, .int .u8 b14, .int .u8 b15] ∧ Blk W (w.heap.size + 1) 28 #[.int .u64 0, .int .u64 0] ∧ Blk W (w.heap.size + 1 + 1) 28 #[.int .u64 v4, .int .u64 0]) ?_ ?_
  · refine ⟨?_, ?_, ?_, ?_⟩
    · repeat (first | exact kW10 | (refine Kept.setCell ?_ (kept_side (by first | assumption | omega)) _) | apply Kept.alloc | apply Kept.drew)
    · simp [Blk, *] <;> (intros; omega)
    · simp [Blk, *] <;> (intros; omega)
    · simp [Blk, *] <;> (intros; omega)
  rintro W11 ⟨kW11, BW11_0, BW11_1, BW11_2⟩
  have cW11_0_0 : W11.cell? ⟨w.heap.size, 0, none⟩ = some (.int .u8 b0) := BW11_0.cell 0 rfl
  have cW11_0_1 : W11.cell? ⟨w.heap.size, 1, none⟩ = some (.int .u8 b1) := BW11_0.cell 1 rfl
  have cW11_0_2 : W11.cell? ⟨w.heap.size, 2, none⟩ = some (.int .u8 b2) := BW11_0.cell 2 rfl
  have cW11_0_3 : W11.cell? ⟨w.heap.size, 3, none⟩ = some (.int .u8 b3) := BW11_0.cell 3 rfl
  have cW11_0_4 : W11.cell? ⟨w.heap.size, 4, none⟩ = some (.int .u8 b4) := BW11_0.cell 4 rfl
  have cW11_0_5 : W11.cell? ⟨w.heap.size, 5, none⟩ = some (.int .u8 b5) := BW11_0.cell 5 rfl
  have cW11_0_6 : W11.cell? ⟨w.heap.size, 6, none⟩ = some (.int .u8 b6) := BW11_0.cell 6 rfl
  have cW11_0_7 : W11.cell? ⟨w.heap.size, 7, none⟩ = some (.int .u8 b7) := BW11_0.cell 7 rfl
  have cW11_0_8 : W11.cell? ⟨w.heap.size, 8, none⟩ = some (.int .u8 b8) := BW11_0.cell 8 rfl
  have cW11_0_9 : W11.cell? ⟨w.heap.size, 9, none⟩ = some (.int .u8 b9) := BW11_0.cell 9 rfl
  have cW11_0_10 : W11.cell? ⟨w.heap.size, 10, none⟩ = some (.int .u8 b10) := BW11_0.cell 10 rfl
  have cW11_0_11 : W11.cell? ⟨w.heap.size, 11, none⟩ = some (.int .u8 b11) := BW11_0.cell 11 rfl
  have cW11_0_12 : W11.cell? ⟨w.heap.size, 12, none⟩ = some (.int .u8 b12) := BW11_0.cell 12 rfl
  have cW11_0_13 : W11.cell? ⟨w.heap.size, 13, none⟩ = some (.int .u8 b13) := BW11_0.cell 13 rfl
  have cW11_0_14 : W11.cell? ⟨w.heap.size, 14, none⟩ = some (.int .u8 b14) := BW11_0.cell 14 rfl
  have cW11_0_15 : W11.cell? ⟨w.heap.size, 15, none⟩ = some (.int .u8 b15) := BW11_0.cell 15 rfl
  have fW11_0 := BW11_0.free
  have cW11_1_0 : W11.cell? ⟨w.heap.size + 1, 0, none⟩ = some (.int .u64 0) := BW11_1.cell 0 rfl
  have cW11_1_1 : W11.cell? ⟨w.heap.size + 1, 1, none⟩ = some (.int .u64 0) := BW11_1.cell 1 rfl
  have fW11_1 := BW11_1.free
  have cW11_2_0 : W11.cell? ⟨w.heap.size + 1 + 1, 0, none⟩ = some (.int .u64 v4) := BW11_2.cell 0 rfl
  have cW11_2_1 : W11.cell? ⟨w.heap.size + 1 + 1, 1, none⟩ = some (.int .u64 0) := BW11_2.cell 1 rfl
  have fW11_2 := BW11_2.free
  go_wp2_with fail
  refine wp_region_calm 12 (by kernel_rfl) (by kernel_rfl) ?_
  simp only [List.take_succ_cons, List.take_zero, List.drop_succ_cons, List.drop_zero]
  repeat (first
    | (refine calm_skip rfl ?_; simp only [Act.put, List.setIfInBounds_toArray, List.set_cons_zero, List.set_cons_succ])
    | (refine calm_ex rfl ?_; apply Exists.intro; refine And.intro (fun w' hk => ?_) ?_; (focus (have q0 := hk.cell cW11_0_0; have q1 := hk.cell cW11_0_1; have q2 := hk.cell cW11_0_2; have q3 := hk.cell cW11_0_3; have q4 := hk.cell cW11_0_4; have q5 := hk.cell cW11_0_5; have q6 := hk.cell cW11_0_6; have q7 := hk.cell cW11_0_7; have q8 := hk.cell cW11_0_8; have q9 := hk.cell cW11_0_9; have q10 := hk.cell cW11_0_10; have q11 := hk.cell cW11_0_11; have q12 := hk.cell cW11_0_12; have q13 := hk.cell cW11_0_13; have q14 := hk.cell cW11_0_14; have q15 := hk.cell cW11_0_15; have q16 := hk.cell cW11_1_0; have q17 := hk.cell cW11_1_1; have q18 := hk.cell cW11_2_0; have q19 := hk.cell cW11_2_1; clear hk; go_simp; exact rfl)); simp only [Act.put, List.setIfInBounds_toArray, List.set_cons_zero, List.set_cons_succ]))
  refine calm_nil ?_
  intro W12 hkW12
  have kW12 := kW11.trans hkW12
  have BW12_0 := BW11_0.kept hkW12
  have BW12_1 := BW11_1.kept hkW12
  have BW12_2 := BW11_2.kept hkW12
  clear cW11_0_0 cW11_0_1 cW11_0_2 cW11_0_3 cW11_0_4 cW11_0_5 cW11_0_6 cW11_0_7 cW11_0_8 cW11_0_9 cW11_0_10 cW11_0_11 cW11_0_12 cW11_0_13 cW11_0_14 cW11_0_15 cW11_1_0 cW11_1_1 cW11_2_0 cW11_2_1 fW11_0 fW11_1 fW11_2 BW11_0 BW11_1 BW11_2 kW11 hkW12
  have cW12_0_0 : W12.cell? ⟨w.heap.size, 0, none⟩ = some (.int .u8 b0) := BW12_0.cell 0 rfl
  have cW12_0_1 : W12.cell? ⟨w.heap.size, 1, none⟩ = some (.int .u8 b1) := BW12_0.cell 1 rfl
  have cW12_0_2 : W12.cell? ⟨w.heap.size, 2, none⟩ = some (.int .u8 b2) := BW12_0.cell 2 rfl
  have cW12_0_3 : W12.cell? ⟨w.heap.size, 3, none⟩ = some (.int .u8 b3) := BW12_0.cell 3 rfl
  have cW12_0_4 : W12.cell? ⟨w.heap.size, 4, none⟩ = some (.int .u8 b4) := BW12_0.cell 4 rfl
  have cW12_0_5 : W12.cell? ⟨w.heap.size, 5, none⟩ = some (.int .u8 b5) := BW12_0.cell 5 rfl
  have cW12_0_6 : W12.cell? ⟨w.heap.size, 6, none⟩ = some (.int .u8 b6) := BW12_0.cell 6 rfl
  have cW12_0_7 : W12.cell? ⟨w.heap.size, 7, none⟩ = some (.int .u8 b7) := BW12_0.cell 7 rfl
  have cW12_0_8 : W12.cell? ⟨w.heap.size, 8, none⟩ = some (.int .u8 b8) := BW12_0.cell 8 rfl
  have cW12_0_9 : W12.cell? ⟨w.heap.size, 9, none⟩ = some (.int .u8 b9) := BW12_0.cell 9 rfl
  have cW12_0_10 : W12.cell? ⟨w.heap.size, 10, none⟩ = some (.int .u8 b10) := BW12_0.cell 10 rfl
  have cW12_0_11 : W12.cell? ⟨w.heap.size, 11, none⟩ = some (.int .u8 b11) := BW12_0.cell 11 rfl
  have cW12_0_12 : W12.cell? ⟨w.heap.size, 12, none⟩ = some (.int .u8 b12) := BW12_0.cell 12 rfl
  have cW12_0_13 : W12.cell? ⟨w.heap.size, 13, none⟩ = some (.int .u8 b13) := BW12_0.cell 13 rfl
  have cW12_0_14 : W12.cell? ⟨w.heap.size, 14, none⟩ = some (.int .u8 b14) := BW12_0.cell 14 rfl
  have cW12_0_15 : W12.cell? ⟨w.heap.size, 15, none⟩ = some (.int .u8 b15) := BW12_0.cell 15 rfl
  have fW12_0 := BW12_0.free
  have cW12_1_0 : W12.cell? ⟨w.heap.size + 1, 0, none⟩ = some (.int .u64 0) := BW12_1.cell 0 rfl
  have cW12_1_1 : W12.cell? ⟨w.heap.size + 1, 1, none⟩ = some (.int .u64 0) := BW12_1.cell 1 rfl
  have fW12_1 := BW12_1.free
  have cW12_2_0 : W12.cell? ⟨w.heap.size + 1 + 1, 0, none⟩ = some (.int .u64 v4) := BW12_2.cell 0 rfl
  have cW12_2_1 : W12.cell? ⟨w.heap.size + 1 + 1, 1, none⟩ = some (.int .u64 0) := BW12_2.cell 1 rfl
  have fW12_2 := BW12_2.free
  go_wp2_with fail
  rw [rounds_succ]
  refine abs_world (fun W => Kept w W ∧ Blk W (w.heap.size) 54 #[.int .u8 b0, .int .u8 b1, .int .u8 b2, .int .u8 b3, .int .u8 b4, .int .u8 b5, .int .u8 b6, .int .u8 b7, .int .u8 b8, .int .u8 b9, .int .u8 b10, .int .u8 b11, .int .u8 b12, .int .u8 b13, .int .u8 b14, .int .u8 b15] ∧ Blk W (w.heap.size + 1) 28 #[.int .u64 0, .int .u64 0] ∧ Blk W (w.heap.size + 1 + 1) 28 #[.int .u64 v5, .int .u64 0]) ?_ ?_
  · refine ⟨?_, ?_, ?_, ?_⟩
    · repeat (first | exact kW12 | (refine Kept.setCell ?_ (kept_side (by first | assumption | omega)) _) | apply Kept.alloc | apply Kept.drew)
    · simp [Blk, *] <;> (intros; omega)
    · simp [Blk, *] <;> (intros; omega)
    · simp [Blk, *] <;> (intros; omega)
  rintro W13 ⟨kW13, BW13_0, BW13_1, BW13_2⟩
  have cW13_0_0 : W13.cell? ⟨w.heap.size, 0, none⟩ = some (.int .u8 b0) := BW13_0.cell 0 rfl
  have cW13_0_1 : W13.cell? ⟨w.heap.size, 1, none⟩ = some (.int .u8 b1) := BW13_0.cell 1 rfl
  have cW13_0_2 : W13.cell? ⟨w.heap.size, 2, none⟩ = some (.int .u8 b2) := BW13_0.cell 2 rfl
  have cW13_0_3 : W13.cell? ⟨w.heap.size, 3, none⟩ = some (.int .u8 b3) := BW13_0.cell 3 rfl
  have cW13_0_4 : W13.cell? ⟨w.heap.size, 4, none⟩ = some (.int .u8 b4) := BW13_0.cell 4 rfl
  have cW13_0_5 : W13.cell? ⟨w.heap.size, 5, none⟩ = some (.int .u8 b5) := BW13_0.cell 5 rfl
  have cW13_0_6 : W13.cell? ⟨w.heap.size, 6, none⟩ = some (.int .u8 b6) := BW13_0.cell 6 rfl
  have cW13_0_7 : W13.cell? ⟨w.heap.size, 7, none⟩ = some (.int .u8 b7) := BW13_0.cell 7 rfl
  have cW13_0_8 : W13.cell? ⟨w.heap.size, 8, none⟩ = some (.int .u8 b8) := BW13_0.cell 8 rfl
  have cW13_0_9 : W13.cell? ⟨w.heap.size, 9, none⟩ = some (.int .u8 b9) := BW13_0.cell 9 rfl
  have cW13_0_10 : W13.cell? ⟨w.heap.size, 10, none⟩ = some (.int .u8 b10) := BW13_0.cell 10 rfl
  have cW13_0_11 : W13.cell? ⟨w.heap.size, 11, none⟩ = some (.int .u8 b11) := BW13_0.cell 11 rfl
  have cW13_0_12 : W13.cell? ⟨w.heap.size, 12, none⟩ = some (.int .u8 b12) := BW13_0.cell 12 rfl
  have cW13_0_13 : W13.cell? ⟨w.heap.size, 13, none⟩ = some (.int .u8 b13) := BW13_0.cell 13 rfl
  have cW13_0_14 : W13.cell? ⟨w.heap.size, 14, none⟩ = some (.int .u8 b14) := BW13_0.cell 14 rfl
  have cW13_0_15 : W13.cell? ⟨w.heap.size, 15, none⟩ = some (.int .u8 b15) := BW13_0.cell 15 rfl
  have fW13_0 := BW13_0.free
  have cW13_1_0 : W13.cell? ⟨w.heap.size + 1, 0, none⟩ = some (.int .u64 0) := BW13_1.cell 0 rfl
  have cW13_1_1 : W13.cell? ⟨w.heap.size + 1, 1, none⟩ = some (.int .u64 0) := BW13_1.cell 1 rfl
  have fW13_1 := BW13_1.free
  have cW13_2_0 : W13.cell? ⟨w.heap.size + 1 + 1, 0, none⟩ = some (.int .u64 v5) := BW13_2.cell 0 rfl
  have cW13_2_1 : W13.cell? ⟨w.heap.size + 1 + 1, 1, none⟩ = some (.int .u64 0) := BW13_2.cell 1 rfl
  have fW13_2 := BW13_2.free
  go_wp2_with fail
  refine wp_region_calm 12 (by kernel_rfl) (by kernel_rfl) ?_
  simp only [List.take_succ_cons, List.take_zero, List.drop_succ_cons, List.drop_zero]
  repeat (first
    | (refine calm_skip rfl ?_; simp only [Act.put, List.setIfInBounds_toArray, List.set_cons_zero, List.set_cons_succ])
    | (refine calm_ex rfl ?_; apply Exists.intro; refine And.intro (fun w' hk => ?_) ?_; (focus (have q0 := hk.cell cW13_0_0; have q1 := hk.cell cW13_0_1; have q2 := hk.cell cW13_0_2; have q3 := hk.cell cW13_0_3; have q4 := hk.cell cW13_0_4; have q5 := hk.cell cW13_0_5; have q6 := hk.cell cW13_0_6; have q7 := hk.cell cW13_0_7; have q8 := hk.cell cW13_0_8; have q9 := hk.cell cW13_0_9; have q10 := hk.cell cW13_0_10; have q11 := hk.cell cW13_0_11; have q12 := hk.cell cW13_0_12; have q13 := hk.cell cW13_0_13; have q14 := hk.cell cW13_0_14; have q15 := hk.cell cW13_0_15; have q16 := hk.cell cW13_1_0; have q17 := hk.cell cW13_1_1; have q18 := hk.cell cW13_2_0; have q19 := hk.cell cW13_2_1; clear hk; go_simp; exact rfl)); simp only [Act.put, List.setIfInBounds_toArray, List.set_cons_zero, List.set_cons_succ]))
  refine calm_nil ?_
  intro W14 hkW14
  have kW14 := kW13.trans hkW14
  have BW14_0 := BW13_0.kept hkW14
  have BW14_1 := BW13_1.kept hkW14
  have BW14_2 := BW13_2.kept hkW14
  clear cW13_0_0 cW13_0_1 cW13_0_2 cW13_0_3 cW13_0_4 cW13_0_5 cW13_0_6 cW13_0_7 cW13_0_8 cW13_0_9 cW13_0_10 cW13_0_11 cW13_0_12 cW13_0_13 cW13_0_14 cW13_0_15 cW13_1_0 cW13_1_1 cW13_2_0 cW13_2_1 fW13_0 fW13_1 fW13_2 BW13_0 BW13_1 BW13_2 kW13 hkW14
  have cW14_0_0 : W14.cell? ⟨w.heap.size, 0, none⟩ = some (.int .u8 b0) := BW14_0.cell 0 rfl
  have cW14_0_1 : W14.cell? ⟨w.heap.size, 1, none⟩ = some (.int .u8 b1) := BW14_0.cell 1 rfl
  have cW14_0_2 : W14.cell? ⟨w.heap.size, 2, none⟩ = some (.int .u8 b2) := BW14_0.cell 2 rfl
  have cW14_0_3 : W14.cell? ⟨w.heap.size, 3, none⟩ = some (.int .u8 b3) := BW14_0.cell 3 rfl
  have cW14_0_4 : W14.cell? ⟨w.heap.size, 4, none⟩ = some (.int .u8 b4) := BW14_0.cell 4 rfl
  have cW14_0_5 : W14.cell? ⟨w.heap.size, 5, none⟩ = some (.int .u8 b5) := BW14_0.cell 5 rfl
  have cW14_0_6 : W14.cell? ⟨w.heap.size, 6, none⟩ = some (.int .u8 b6) := BW14_0.cell 6 rfl
  have cW14_0_7 : W14.cell? ⟨w.heap.size, 7, none⟩ = some (.int .u8 b7) := BW14_0.cell 7 rfl
  have cW14_0_8 : W14.cell? ⟨w.heap.size, 8, none⟩ = some (.int .u8 b8) := BW14_0.cell 8 rfl
  have cW14_0_9 : W14.cell? ⟨w.heap.size, 9, none⟩ = some (.int .u8 b9) := BW14_0.cell 9 rfl
  have cW14_0_10 : W14.cell? ⟨w.heap.size, 10, none⟩ = some (.int .u8 b10) := BW14_0.cell 10 rfl
  have cW14_0_11 : W14.cell? ⟨w.heap.size, 11, none⟩ = some (.int .u8 b11) := BW14_0.cell 11 rfl
  have cW14_0_12 : W14.cell? ⟨w.heap.size, 12, none⟩ = some (.int .u8 b12) := BW14_0.cell 12 rfl
  have cW14_0_13 : W14.cell? ⟨w.heap.size, 13, none⟩ = some (.int .u8 b13) := BW14_0.cell 13 rfl
  have cW14_0_14 : W14.cell? ⟨w.heap.size, 14, none⟩ = some (.int .u8 b14) := BW14_0.cell 14 rfl
  have cW14_0_15 : W14.cell? ⟨w.heap.size, 15, none⟩ = some (.int .u8 b15) := BW14_0.cell 15 rfl
  have fW14_0 := BW14_0.free
  have cW14_1_0 : W14.cell? ⟨w.heap.size + 1, 0, none⟩ = some (.int .u64 0) := BW14_1.cell 0 rfl
  have cW14_1_1 : W14.cell? ⟨w.heap.size + 1, 1, none⟩ = some (.int .u64 0) := BW14_1.cell 1 rfl
  have fW14_1 := BW14_1.free
  have cW14_2_0 : W14.cell? ⟨w.heap.size + 1 + 1, 0, none⟩ = some (.int .u64 v5) := BW14_2.cell 0 rfl
  have cW14_2_1 : W14.cell? ⟨w.heap.size + 1 + 1, 1, none⟩ = some (.int .u64 0) := BW14_2.cell 1 rfl
  have fW14_2 := BW14_2.free
  go_wp2_with fail
  rw [rounds_succ]
  refine abs_world (fun W => Kept w W ∧ Blk W (w.heap.size) 54 #[.int .u8 b0, .int .u8 b1, .int .u8 b2, .int .u8 b3, .int .u8 b4, .int .u8 b5, .int .u8 b6, .int .u8 b7, .int .u8 b8, .int .u8 b9, .int .u8 b10, .int .u8 b11, .int .u8 b12, .int .u8 b13, .int .u8 b14, .int .u8 b15] ∧ Blk W (w.heap.size + 1) 28 #[.int .u64 0, .int .u64 0] ∧ Blk W (w.heap.size + 1 + 1) 28 #[.int .u64 v6, .int .u64 0]) ?_ ?_
  · refine ⟨?_, ?_, ?_, ?_⟩
    · repeat (first | exact kW14 | (refine Kept.setCell ?_ (kept_side (by first | assumption | omega)) _) | apply Kept.alloc | apply Kept.drew)
    · simp [Blk, *] <;> (intros; omega)
    · simp [Blk, *] <;> (intros; omega)
    · simp [Blk, *] <;> (intros; omega)
  rintro W15 ⟨kW15, BW15_0, BW15_1, BW15_2⟩
  have cW15_0_0 : W15.cell? ⟨w.heap.size, 0, none⟩ = some (.int .u8 b0) := BW15_0.cell 0 rfl
  have cW15_0_1 : W15.cell? ⟨w.heap.size, 1, none⟩ = some (.int .u8 b1) := BW15_0.cell 1 rfl
  have cW15_0_2 : W15.cell? ⟨w.heap.size, 2, none⟩ = some (.int .u8 b2) := BW15_0.cell 2 rfl
  have cW15_0_3 : W15.cell? ⟨w.heap.size, 3, none⟩ = some (.int .u8 b3) := BW15_0.cell 3 rfl
  have cW15_0_4 : W15.cell? ⟨w.heap.size, 4, none⟩ = some (.int .u8 b4) := BW15_0.cell 4 rfl
  have cW15_0_5 : W15.cell? ⟨w.heap.size, 5, none⟩ = some (.int .u8 b5) := BW15_0.cell 5 rfl
  have cW15_0_6 : W15.cell? ⟨w.heap.size, 6, none⟩ = some (.int .u8 b6) := BW15_0.cell 6 rfl
  have cW15_0_7 : W15.cell? ⟨w.heap.size, 7, none⟩ = some (.int .u8 b7) := BW15_0.cell 7 rfl
  have cW15_0_8 : W15.cell? ⟨w.heap.size, 8, none⟩ = some (.int .u8 b8) := BW15_0.cell 8 rfl
  have cW15_0_9 : W15.cell? ⟨w.heap.size, 9, none⟩ = some (.int .u8 b9) := BW15_0.cell 9 rfl
  have cW15_0_10 : W15.cell? ⟨w.heap.size, 10, none⟩ = some (.int .u8 b10) := BW15_0.cell 10 rfl
  have cW15_0_11 : W15.cell? ⟨w.heap.size, 11, none⟩ = some (.int .u8 b11) := BW15_0.cell 11 rfl
  have cW15_0_12 : W15.cell? ⟨w.heap.size, 12, none⟩ = some (.int .u8 b12) := BW15_0.cell 12 rfl
  have cW15_0_13 : W15.cell? ⟨w.heap.size, 13, none⟩ = some (.int .u8 b13) := BW15_0.cell 13 rfl
  have cW15_0_14 : W15.cell? ⟨w.heap.size, 14, none⟩ = some (.int .u8 b14) := BW15_0.cell 14 rfl
  have cW15_0_15 : W15.cell? ⟨w.heap.size, 15, none⟩ = some (.int .u8 b15) := BW15_0.cell 15 rfl
  have fW15_0 := BW15_0.free
  have cW15_1_0 : W15.cell? ⟨w.heap.size + 1, 0, none⟩ = some (.int .u64 0) := BW15_1.cell 0 rfl
  have cW15_1_1 : W15.cell? ⟨w.heap.size + 1, 1, none⟩ = some (.int .u64 0) := BW15_1.cell 1 rfl
  have fW15_1 := BW15_1.free
  have cW15_2_0 : W15.cell? ⟨w.heap.size + 1 + 1, 0, none⟩ = some (.int .u64 v6) := BW15_2.cell 0 rfl
  have cW15_2_1 : W15.cell? ⟨w.heap.size + 1 + 1, 1, none⟩ = some (.int .u64 0) := BW15_2.cell 1 rfl
  have fW15_2 := BW15_2.free
  go_wp2_with fail
  refine wp_region_calm 12 (by kernel_rfl) (by kernel_rfl) ?_
  simp only [List.take_succ_cons, List.take_zero, List.drop_succ_cons, List.drop_zero]
  repeat (first
    | (refine calm_skip rfl ?_; simp only [Act.put, List.setIfInBounds_toArray, List.set_cons_zero, List.set_cons_succ])
    | (refine calm_ex rfl ?_; apply Exists.intro; refine And.intro (fun w' hk => ?_) ?_; (focus (have q0 := hk.cell cW15_0_0; have q1 := hk.cell cW15_0_1; have q2 := hk.cell cW15_0_2; have q3 := hk.cell cW15_0_3; have q4 := hk.cell cW15_0_4; have q5 := hk.cell cW15_0_5; have q6 := hk.cell cW15_0_6; have q7 := hk.cell cW15_0_7; have q8 := hk.cell cW15_0_8; have q9 := hk.cell cW15_0_9; have q10 := hk.cell cW15_0_10; have q11 := hk.cell cW15_0_11; have q12 := hk.cell cW15_0_12; have q13 := hk.cell cW15_0_13; have q14 := hk.cell cW15_0_14; have q15 := hk.cell cW15_0_15; have q16 := hk.cell cW15_1_0; have q17 := hk.cell cW15_1_1; have q18 := hk.cell cW15_2_0; have q19 := hk.cell cW15_2_1; clear hk; go_simp; exact rfl)); simp only [Act.put, List.setIfInBounds_toArray, List.set_cons_zero, List.set_cons_succ]))
  refine calm_nil ?_
  intro W16 hkW16
  have kW16 := kW15.trans hkW16
  have BW16_0 := BW15_0.kept hkW16
  have BW16_1 := BW15_1.kept hkW16
  have BW16_2 := BW15_2.kept hkW16
  clear cW15_0_0 cW15_0_1 cW15_0_2 cW15_0_3 cW15_0_4 cW15_0_5 cW15_0_6 cW15_0_7 cW15_0_8 cW15_0_9 cW15_0_10 cW15_0_11 cW15_0_12 cW15_0_13 cW15_0_14 cW15_0_15 cW15_1_0 cW15_1_1 cW15_2_0 cW15_2_1 fW15_0 fW15_1 fW15_2 BW15_0 BW15_1 BW15_2 kW15 hkW16
  have cW16_0_0 : W16.cell? ⟨w.heap.size, 0, none⟩ = some (.int .u8 b0) := BW16_0.cell 0 rfl
  have cW16_0_1 : W16.cell? ⟨w.heap.size, 1, none⟩ = some (.int .u8 b1) := BW16_0.cell 1 rfl
  have cW16_0_2 : W16.cell? ⟨w.heap.size, 2, none⟩ = some (.int .u8 b2) := BW16_0.cell 2 rfl
  have cW16_0_3 : W16.cell? ⟨w.heap.size, 3, none⟩ = some (.int .u8 b3) := BW16_0.cell 3 rfl
  have cW16_0_4 : W16.cell? ⟨w.heap.size, 4, none⟩ = some (.int .u8 b4) := BW16_0.cell 4 rfl
  have cW16_0_5 : W16.cell? ⟨w.heap.size, 5, none⟩ = some (.int .u8 b5) := BW16_0.cell 5 rfl
  have cW16_0_6 : W16.cell? ⟨w.heap.size, 6, none⟩ = some (.int .u8 b6) := BW16_0.cell 6 rfl
  have cW16_0_7 : W16.cell? ⟨w.heap.size, 7, none⟩ = some (.int .u8 b7) := BW16_0.cell 7 rfl
  have cW16_0_8 : W16.cell? ⟨w.heap.size, 8, none⟩ = some (.int .u8 b8) := BW16_0.cell 8 rfl
  have cW16_0_9 : W16.cell? ⟨w.heap.size, 9, none⟩ = some (.int .u8 b9) := BW16_0.cell 9 rfl
  have cW16_0_10 : W16.cell? ⟨w.heap.size, 10, none⟩ = some (.int .u8 b10) := BW16_0.cell 10 rfl
  have cW16_0_11 : W16.cell? ⟨w.heap.size, 11, none⟩ = some (.int .u8 b11) := BW16_0.cell 11 rfl
  have cW16_0_12 : W16.cell? ⟨w.heap.size, 12, none⟩ = some (.int .u8 b12) := BW16_0.cell 12 rfl
  have cW16_0_13 : W16.cell? ⟨w.heap.size, 13, none⟩ = some (.int .u8 b13) := BW16_0.cell 13 rfl
  have cW16_0_14 : W16.cell? ⟨w.heap.size, 14, none⟩ = some (.int .u8 b14) := BW16_0.cell 14 rfl
  have cW16_0_15 : W16.cell? ⟨w.heap.size, 15, none⟩ = some (.int .u8 b15) := BW16_0.cell 15 rfl
  have fW16_0 := BW16_0.free
  have cW16_1_0 : W16.cell? ⟨w.heap.size + 1, 0, none⟩ = some (.int .u64 0) := BW16_1.cell 0 rfl
  have cW16_1_1 : W16.cell? ⟨w.heap.size + 1, 1, none⟩ = some (.int .u64 0) := BW16_1.cell 1 rfl
  have fW16_1 := BW16_1.free
  have cW16_2_0 : W16.cell? ⟨w.heap.size + 1 + 1, 0, none⟩ = some (.int .u64 v6) := BW16_2.cell 0 rfl
  have cW16_2_1 : W16.cell? ⟨w.heap.size + 1 + 1, 1, none⟩ = some (.int .u64 0) := BW16_2.cell 1 rfl
  have fW16_2 := BW16_2.free
  go_wp2_with fail
  rw [rounds_succ]
  refine abs_world (fun W => Kept w W ∧ Blk W (w.heap.size) 54 #[.int .u8 b0, .int .u8 b1, .int .u8 b2, .int .u8 b3, .int .u8 b4, .int .u8 b5, .int .u8 b6, .int .u8 b7, .int .u8 b8, .int .u8 b9, .int .u8 b10, .int .u8 b11, .int .u8 b12, .int .u8 b13, .int .u8 b14, .int .u8 b15] ∧ Blk W (w.heap.size + 1) 28 #[.int .u64 0, .int .u64 0] ∧ Blk W (w.heap.size + 1 + 1) 28 #[.int .u64 v7, .int .u64 0]) ?_ ?_
  · refine ⟨?_, ?_, ?_, ?_⟩
    · repeat (first | exact kW16 | (refine Kept.setCell ?_ (kept_side (by first | assumption | omega)) _) | apply Kept.alloc | apply Kept.drew)
    · simp [Blk, *] <;> (intros; omega)
    · simp [Blk, *] <;> (intros; omega)
    · simp [Blk, *] <;> (intros; omega)
  rintro W17 ⟨kW17, BW17_0, BW17_1, BW17_2⟩
  have cW17_0_0 : W17.cell? ⟨w.heap.size, 0, none⟩ = some (.int .u8 b0) := BW17_0.cell 0 rfl
  have cW17_0_1 : W17.cell? ⟨w.heap.size, 1, none⟩ = some (.int .u8 b1) := BW17_0.cell 1 rfl
  have cW17_0_2 : W17.cell? ⟨w.heap.size, 2, none⟩ = some (.int .u8 b2) := BW17_0.cell 2 rfl
  have cW17_0_3 : W17.cell? ⟨w.heap.size, 3, none⟩ = some (.int .u8 b3) := BW17_0.cell 3 rfl
  have cW17_0_4 : W17.cell? ⟨w.heap.size, 4, none⟩ = some (.int .u8 b4) := BW17_0.cell 4 rfl
  have cW17_0_5 : W17.cell? ⟨w.heap.size, 5, none⟩ = some (.int .u8 b5) := BW17_0.cell 5 rfl
  have cW17_0_6 : W17.cell? ⟨w.heap.size, 6, none⟩ = some (.int .u8 b6) := BW17_0.cell 6 rfl
  have cW17_0_7 : W17.cell? ⟨w.heap.size, 7, none⟩ = some (.int .u8 b7) := BW17_0.cell 7 rfl
  have cW17_0_8 : W17.cell? ⟨w.heap.size, 8, none⟩ = some (.int .u8 b8) := BW17_0.cell 8 rfl
  have cW17_0_9 : W17.cell? ⟨w.heap.size, 9, none⟩ = some (.int .u8 b9) := BW17_0.cell 9 rfl
  have cW17_0_10 : W17.cell? ⟨w.heap.size, 10, none⟩ = some (.int .u8 b10) := BW17_0.cell 10 rfl
  have cW17_0_11 : W17.cell? ⟨w.heap.size, 11, none⟩ = some (.int .u8 b11) := BW17_0.cell 11 rfl
  have cW17_0_12 : W17.cell? ⟨w.heap.size, 12, none⟩ = some (.int .u8 b12) := BW17_0.cell 12 rfl
  have cW17_0_13 : W17.cell? ⟨w.heap.size, 13, none⟩ = some (.int .u8 b13) := BW17_0.cell 13 rfl
  have cW17_0_14 : W17.cell? ⟨w.heap.size, 14, none⟩ = some (.int .u8 b14) := BW17_0.cell 14 rfl
  have cW17_0_15 : W17.cell? ⟨w.heap.size, 15, none⟩ = some (.int .u8 b15) := BW17_0.cell 15 rfl
  have fW17_0 := BW17_0.free
  have cW17_1_0 : W17.cell? ⟨w.heap.size + 1, 0, none⟩ = some (.int .u64 0) := BW17_1.cell 0 rfl
  have cW17_1_1 : W17.cell? ⟨w.heap.size + 1, 1, none⟩ = some (.int .u64 0) := BW17_1.cell 1 rfl
  have fW17_1 := BW17_1.free
  have cW17_2_0 : W17.cell? ⟨w.heap.size + 1 + 1, 0, none⟩ = some (.int .u64 v7) := BW17_2.cell 0 rfl
  have cW17_2_1 : W17.cell? ⟨w.heap.size + 1 + 1, 1, none⟩ = some (.int .u64 0) := BW17_2.cell 1 rfl
  have fW17_2 := BW17_2.free
  go_wp2_with fail
  refine wp_region_calm 12 (by kernel_rfl) (by kernel_rfl) ?_
  simp only [List.take_succ_cons, List.take_zero, List.drop_succ_cons, List.drop_zero]
  repeat (first
    | (refine calm_skip rfl ?_; simp only [Act.put, List.setIfInBounds_toArray, List.set_cons_zero, List.set_cons_succ])
    | (refine calm_ex rfl ?_; apply Exists.intro; refine And.intro (fun w' hk => ?_) ?_; (focus (have q0 := hk.cell cW17_0_0; have q1 := hk.cell cW17_0_1; have q2 := hk.cell cW17_0_2; have q3 := hk.cell cW17_0_3; have q4 := hk.cell cW17_0_4; have q5 := hk.cell cW17_0_5; have q6 := hk.cell cW17_0_6; have q7 := hk.cell cW17_0_7; have q8 := hk.cell cW17_0_8; have q9 := hk.cell cW17_0_9; have q10 := hk.cell cW17_0_10; have q11 := hk.cell cW17_0_11; have q12 := hk.cell cW17_0_12; have q13 := hk.cell cW17_0_13; have q14 := hk.cell cW17_0_14; have q15 := hk.cell cW17_0_15; have q16 := hk.cell cW17_1_0; have q17 := hk.cell cW17_1_1; have q18 := hk.cell cW17_2_0; have q19 := hk.cell cW17_2_1; clear hk; go_simp; exact rfl)); simp only [Act.put, List.setIfInBounds_toArray, List.set_cons_zero, List.set_cons_succ]))
  refine calm_nil ?_
  intro W18 hkW18
  have kW18 := kW17.trans hkW18
  have BW18_0 := BW17_0.kept hkW18
  have BW18_1 := BW17_1.kept hkW18
  have BW18_2 := BW17_2.kept hkW18
  clear cW17_0_0 cW17_0_1 cW17_0_2 cW17_0_3 cW17_0_4 cW17_0_5 cW17_0_6 cW17_0_7 cW17_0_8 cW17_0_9 cW17_0_10 cW17_0_11 cW17_0_12 cW17_0_13 cW17_0_14 cW17_0_15 cW17_1_0 cW17_1_1 cW17_2_0 cW17_2_1 fW17_0 fW17_1 fW17_2 BW17_0 BW17_1 BW17_2 kW17 hkW18
  have cW18_0_0 : W18.cell? ⟨w.heap.size, 0, none⟩ = some (.int .u8 b0) := BW18_0.cell 0 rfl
  have cW18_0_1 : W18.cell? ⟨w.heap.size, 1, none⟩ = some (.int .u8 b1) := BW18_0.cell 1 rfl
  have cW18_0_2 : W18.cell? ⟨w.heap.size, 2, none⟩ = some (.int .u8 b2) := BW18_0.cell 2 rfl
  have cW18_0_3 : W18.cell? ⟨w.heap.size, 3, none⟩ = some (.int .u8 b3) := BW18_0.cell 3 rfl
  have cW18_0_4 : W18.cell? ⟨w.heap.size, 4, none⟩ = some (.int .u8 b4) := BW18_0.cell 4 rfl
  have cW18_0_5 : W18.cell? ⟨w.heap.size, 5, none⟩ = some (.int .u8 b5) := BW18_0.cell 5 rfl
  have cW18_0_6 : W18.cell? ⟨w.heap.size, 6, none⟩ = some (.int .u8 b6) := BW18_0.cell 6 rfl
  have cW18_0_7 : W18.cell? ⟨w.heap.size, 7, none⟩ = some (.int .u8 b7) := BW18_0.cell 7 rfl
  have cW18_0_8 : W18.cell? ⟨w.heap.size, 8, none⟩ = some (.int .u8 b8) := BW18_0.cell 8 rfl
  have cW18_0_9 : W18.cell? ⟨w.heap.size, 9, none⟩ = some (.int .u8 b9) := BW18_0.cell 9 rfl
  have cW18_0_10 : W18.cell? ⟨w.heap.size, 10, none⟩ = some (.int .u8 b10) := BW18_0.cell 10 rfl
  have cW18_0_11 : W18.cell? ⟨w.heap.size, 11, none⟩ = some (.int .u8 b11) := BW18_0.cell 11 rfl
  have cW18_0_12 : W18.cell? ⟨w.heap.size, 12, none⟩ = some (.int .u8 b12) := BW18_0.cell 12 rfl
  have cW18_0_13 : W18.cell? ⟨w.heap.size, 13, none⟩ = some (.int .u8 b13) := BW18_0.cell 13 rfl
  have cW18_0_14 : W18.cell? ⟨w.heap.size, 14, none⟩ = some (.int .u8 b14) := BW18_0.cell 14 rfl
  have cW18_0_15 : W18.cell? ⟨w.heap.size, 15, none⟩ = some (.int .u8 b15) := BW18_0.cell 15 rfl
  have fW18_0 := BW18_0.free
  have cW18_1_0 : W18.cell? ⟨w.heap.size + 1, 0, none⟩ = some (.int .u64 0) := BW18_1.cell 0 rfl
  have cW18_1_1 : W18.cell? ⟨w.heap.size + 1, 1, none⟩ = some (.int .u64 0) := BW18_1.cell 1 rfl
  have fW18_1 := BW18_1.free
  have cW18_2_0 : W18.cell? ⟨w.heap.size + 1 + 1, 0, none⟩ = some (.int .u64 v7) := BW18_2.cell 0 rfl
  have cW18_2_1 : W18.cell? ⟨w.heap.size + 1 + 1, 1, none⟩ = some (.int .u64 0) := BW18_2.cell 1 rfl
  have fW18_2 := BW18_2.free
  go_wp2_with fail
  rw [rounds_succ]
  refine abs_world (fun W => Kept w W ∧ Blk W (w.heap.size) 54 #[.int .u8 b0, .int .u8 b1, .int .u8 b2, .int .u8 b3, .int .u8 b4, .int .u8 b5, .int .u8 b6, .int .u8 b7, .int .u8 b8, .int .u8 b9, .int .u8 b10, .int .u8 b11, .int .u8 b12, .int .u8 b13, .int .u8 b14, .int .u8 b15] ∧ Blk W (w.heap.size + 1) 28 #[.int .u64 0, .int .u64 0] ∧ Blk W (w.heap.size + 1 + 1) 28 #[.int .u64 v7, .int .u64 v8]) ?_ ?_
  · refine ⟨?_, ?_, ?_, ?_⟩
    · repeat (first | exact kW18 | (refine Kept.setCell ?_ (kept_side (by first | assumption | omega)) _) | apply Kept.alloc | apply Kept.drew)
    · simp [Blk, *] <;> (intros; omega)
    · simp [Blk, *] <;> (intros; omega)
    · simp [Blk, *] <;> (intros; omega)
  rintro W19 ⟨kW19, BW19_0, BW19_1, BW19_2⟩
  have cW19_0_0 : W19.cell? ⟨w.heap.size, 0, none⟩ = some (.int .u8 b0) := BW19_0.cell 0 rfl
  have cW19_0_1 : W19.cell? ⟨w.heap.size, 1, none⟩ = some (.int .u8 b1) := BW19_0.cell 1 rfl
  have cW19_0_2 : W19.cell? ⟨w.heap.size, 2, none⟩ = some (.int .u8 b2) := BW19_0.cell 2 rfl
  have cW19_0_3 : W19.cell? ⟨w.heap.size, 3, none⟩ = some (.int .u8 b3) := BW19_0.cell 3 rfl
  have cW19_0_4 : W19.cell? ⟨w.heap.size, 4, none⟩ = some (.int .u8 b4) := BW19_0.cell 4 rfl
  have cW19_0_5 : W19.cell? ⟨w.heap.size, 5, none⟩ = some (.int .u8 b5) := BW19_0.cell 5 rfl
  have cW19_0_6 : W19.cell? ⟨w.heap.size, 6, none⟩ = some (.int .u8 b6) := BW19_0.cell 6 rfl
  have cW19_0_7 : W19.cell? ⟨w.heap.size, 7, none⟩ = some (.int .u8 b7) := BW19_0.cell 7 rfl
  have cW19_0_8 : W19.cell? ⟨w.heap.size, 8, none⟩ = some (.int .u8 b8) := BW19_0.cell 8 rfl
  have cW19_0_9 : W19.cell? ⟨w.heap.size, 9, none⟩ = some (.int .u8 b9) := BW19_0.cell 9 rfl
  have cW19_0_10 : W19.cell? ⟨w.heap.size, 10, none⟩ = some (.int .u8 b10) := BW19_0.cell 10 rfl
  have cW19_0_11 : W19.cell? ⟨w.heap.size, 11, none⟩ = some (.int .u8 b11) := BW19_0.cell 11 rfl
  have cW19_0_12 : W19.cell? ⟨w.heap.size, 12, none⟩ = some (.int .u8 b12) := BW19_0.cell 12 rfl
  have cW19_0_13 : W19.cell? ⟨w.heap.size, 13, none⟩ = some (.int .u8 b13) := BW19_0.cell 13 rfl
  have cW19_0_14 : W19.cell? ⟨w.heap.size, 14, none⟩ = some (.int .u8 b14) := BW19_0.cell 14 rfl
  have cW19_0_15 : W19.cell? ⟨w.heap.size, 15, none⟩ = some (.int .u8 b15) := BW19_0.cell 15 rfl
  have fW19_0 := BW19_0.free
  have cW19_1_0 : W19.cell? ⟨w.heap.size + 1, 0, none⟩ = some (.int .u64 0) := BW19_1.cell 0 rfl
  have cW19_1_1 : W19.cell? ⟨w.heap.size + 1, 1, none⟩ = some (.int .u64 0) := BW19_1.cell 1 rfl
  have fW19_1 := BW19_1.free
  have cW19_2_0 : W19.cell? ⟨w.heap.size + 1 + 1, 0, none⟩ = some (.int .u64 v7) := BW19_2.cell 0 rfl
  have cW19_2_1 : W19.cell? ⟨w.heap.size + 1 + 1, 1, none⟩ = some (.int .u64 v8) := BW19_2.cell 1 rfl
  have fW19_2 := BW19_2.free
  go_wp2_with fail
  refine wp_region_calm 12 (by kernel_rfl) (by kernel_rfl) ?_
  simp only [List.take_succ_cons, List.take_zero, List.drop_succ_cons, List.drop_zero]
  repeat (first
    | (refine calm_skip rfl ?_; simp only [Act.put, List.setIfInBounds_toArray, List.set_cons_zero, List.set_cons_succ])
    | (refine calm_ex rfl ?_; apply Exists.intro; refine And.intro (fun w' hk => ?_) ?_; (focus (have q0 := hk.cell cW19_0_0; have q1 := hk.cell cW19_0_1; have q2 := hk.cell cW19_0_2; have q3 := hk.cell cW19_0_3; have q4 := hk.cell cW19_0_4; have q5 := hk.cell cW19_0_5; have q6 := hk.cell cW19_0_6; have q7 := hk.cell cW19_0_7; have q8 := hk.cell cW19_0_8; have q9 := hk.cell cW19_0_9; have q10 := hk.cell cW19_0_10; have q11 := hk.cell cW19_0_11; have q12 := hk.cell cW19_0_12; have q13 := hk.cell cW19_0_13; have q14 := hk.cell cW19_0_14; have q15 := hk.cell cW19_0_15; have q16 := hk.cell cW19_1_0; have q17 := hk.cell cW19_1_1; have q18 := hk.cell cW19_2_0; have q19 := hk.cell cW19_2_1; clear hk; go_simp; exact rfl)); simp only [Act.put, List.setIfInBounds_toArray, List.set_cons_zero, List.set_cons_succ]))
  refine calm_nil ?_
  intro W20 hkW20
  have kW20 := kW19.trans hkW20
  have BW20_0 := BW19_0.kept hkW20
  have BW20_1 := BW19_1.kept hkW20
  have BW20_2 := BW19_2.kept hkW20
  clear cW19_0_0 cW19_0_1 cW19_0_2 cW19_0_3 cW19_0_4 cW19_0_5 cW19_0_6 cW19_0_7 cW19_0_8 cW19_0_9 cW19_0_10 cW19_0_11 cW19_0_12 cW19_0_13 cW19_0_14 cW19_0_15 cW19_1_0 cW19_1_1 cW19_2_0 cW19_2_1 fW19_0 fW19_1 fW19_2 BW19_0 BW19_1 BW19_2 kW19 hkW20
  have cW20_0_0 : W20.cell? ⟨w.heap.size, 0, none⟩ = some (.int .u8 b0) := BW20_0.cell 0 rfl
  have cW20_0_1 : W20.cell? ⟨w.heap.size, 1, none⟩ = some (.int .u8 b1) := BW20_0.cell 1 rfl
  have cW20_0_2 : W20.cell? ⟨w.heap.size, 2, none⟩ = some (.int .u8 b2) := BW20_0.cell 2 rfl
  have cW20_0_3 : W20.cell? ⟨w.heap.size, 3, none⟩ = some (.int .u8 b3) := BW20_0.cell 3 rfl
  have cW20_0_4 : W20.cell? ⟨w.heap.size, 4, none⟩ = some (.int .u8 b4) := BW20_0.cell 4 rfl
  have cW20_0_5 : W20.cell? ⟨w.heap.size, 5, none⟩ = some (.int .u8 b5) := BW20_0.cell 5 rfl
  have cW20_0_6 : W20.cell? ⟨w.heap.size, 6, none⟩ = some (.int .u8 b6) := BW20_0.cell 6 rfl
  have cW20_0_7 : W20.cell? ⟨w.heap.size, 7, none⟩ = some (.int .u8 b7) := BW20_0.cell 7 rfl
  have cW20_0_8 : W20.cell? ⟨w.heap.size, 8, none⟩ = some (.int .u8 b8) := BW20_0.cell 8 rfl
  have cW20_0_9 : W20.cell? ⟨w.heap.size, 9, none⟩ = some (.int .u8 b9) := BW20_0.cell 9 rfl
  have cW20_0_10 : W20.cell? ⟨w.heap.size, 10, none⟩ = some (.int .u8 b10) := BW20_0.cell 10 rfl
  have cW20_0_11 : W20.cell? ⟨w.heap.size, 11, none⟩ = some (.int .u8 b11) := BW20_0.cell 11 rfl
  have cW20_0_12 : W20.cell? ⟨w.heap.size, 12, none⟩ = some (.int .u8 b12) := BW20_0.cell 12 rfl
  have cW20_0_13 : W20.cell? ⟨w.heap.size, 13, none⟩ = some (.int .u8 b13) := BW20_0.cell 13 rfl
  have cW20_0_14 : W20.cell? ⟨w.heap.size, 14, none⟩ = some (.int .u8 b14) := BW20_0.cell 14 rfl
  have cW20_0_15 : W20.cell? ⟨w.heap.size, 15, none⟩ = some (.int .u8 b15) := BW20_0.cell 15 rfl
  have fW20_0 := BW20_0.free
  have cW20_1_0 : W20.cell? ⟨w.heap.size + 1, 0, none⟩ = some (.int .u64 0) := BW20_1.cell 0 rfl
  have cW20_1_1 : W20.cell? ⟨w.heap.size + 1, 1, none⟩ = some (.int .u64 0) := BW20_1.cell 1 rfl
  have fW20_1 := BW20_1.free
  have cW20_2_0 : W20.cell? ⟨w.heap.size + 1 + 1, 0, none⟩ = some (.int .u64 v7) := BW20_2.cell 0 rfl
  have cW20_2_1 : W20.cell? ⟨w.heap.size + 1 + 1, 1, none⟩ = some (.int .u64 v8) := BW20_2.cell 1 rfl
  have fW20_2 := BW20_2.free
  go_wp2_with fail
  rw [rounds_succ]
  refine abs_world (fun W => Kept w W ∧ Blk W (w.heap.size) 54 #[.int .u8 b0, .int .u8 b1, .int .u8 b2, .int .u8 b3, .int .u8 b4, .int .u8 b5, .int .u8 b6, .int .u8 b7, .int .u8 b8, .int .u8 b9, .int .u8 b10, .int .u8 b11, .int .u8 b12, .int .u8 b13, .int .u8 b14, .int .u8 b15] ∧ Blk W (w.heap.size + 1) 28 #[.int .u64 0, .int .u64 0] ∧ Blk W (w.heap.size + 1 + 1) 28 #[.int .u64 v7, .int .u64 v9]) ?_ ?_
  · refine ⟨?_, ?_, ?_, ?_⟩
    · repeat (first | exact kW20 | (refine Kept.setCell ?_ (kept_side (by first | assumption | omega)) _) | apply Kept.alloc | apply Kept.drew)
    · simp [Blk, *] <;> (intros; omega)
    · simp [Blk, *] <;> (intros; omega)
    · simp [Blk, *] <;> (intros; omega)
  rintro W21 ⟨kW21, BW21_0, BW21_1, BW21_2⟩
  have cW21_0_0 : W21.cell? ⟨w.heap.size, 0, none⟩ = some (.int .u8 b0) := BW21_0.cell 0 rfl
  have cW21_0_1 : W21.cell? ⟨w.heap.size, 1, none⟩ = some (.int .u8 b1) := BW21_0.cell 1 rfl
  have cW21_0_2 : W21.cell? ⟨w.heap.size, 2, none⟩ = some (.int .u8 b2) := BW21_0.cell 2 rfl
  have cW21_0_3 : W21.cell? ⟨w.heap.size, 3, none⟩ = some (.int .u8 b3) := BW21_0.cell 3 rfl
  have cW21_0_4 : W21.cell? ⟨w.heap.size, 4, none⟩ = some (.int .u8 b4) := BW21_0.cell 4 rfl
  have cW21_0_5 : W21.cell? ⟨w.heap.size, 5, none⟩ = some (.int .u8 b5) := BW21_0.cell 5 rfl
  have cW21_0_6 : W21.cell? ⟨w.heap.size, 6, none⟩ = some (.int .u8 b6) := BW21_0.cell 6 rfl
  have cW21_0_7 : W21.cell? ⟨w.heap.size, 7, none⟩ = some (.int .u8 b7) := BW21_0.cell 7 rfl
  have cW21_0_8 : W21.cell? ⟨w.heap.size, 8, none⟩ = some (.int .u8 b8) := BW21_0.cell 8 rfl
  have cW21_0_9 : W21.cell? ⟨w.heap.size, 9, none⟩ = some (.int .u8 b9) := BW21_0.cell 9 rfl
  have cW21_0_10 : W21.cell? ⟨w.heap.size, 10, none⟩ = some (.int .u8 b10) := BW21_0.cell 10 rfl
  have cW21_0_11 : W21.cell? ⟨w.heap.size, 11, none⟩ = some (.int .u8 b11) := BW21_0.cell 11 rfl
  have cW21_0_12 : W21.cell? ⟨w.heap.size, 12, none⟩ = some (.int .u8 b12) := BW21_0.cell 12 rfl
  have cW21_0_13 : W21.cell? ⟨w.heap.size, 13, none⟩ = some (.int .u8 b13) := BW21_0.cell 13 rfl
  have cW21_0_14 : W21.cell? ⟨w.heap.size, 14, none⟩ = some (.int .u8 b14) := BW21_0.cell 14 rfl
  have cW21_0_15 : W21.cell? ⟨w.heap.size, 15, none⟩ = some (.int .u8 b15) := BW21_0.cell 15 rfl
  have fW21_0 := BW21_0.free
  have cW21_1_0 : W21.cell? ⟨w.heap.size + 1, 0, none⟩ = some (.int .u64 0) := BW21_1.cell 0 rfl
  have cW21_1_1 : W21.cell? ⟨w.heap.size + 1, 1, none⟩ = some (.int .u64 0) := BW21_1.cell 1 rfl
  have fW21_1 := BW21_1.free
  have cW21_2_0 : W21.cell? ⟨w.heap.size + 1 + 1, 0, none⟩ = some (.int .u64 v7) := BW21_2.cell 0 rfl
  have cW21_2_1 : W21.cell? ⟨w.heap.size + 1 + 1, 1, none⟩ = some (.int .u64 v9) := BW21_2.cell 1 rfl
  have fW21_2 := BW21_2.free
  go_wp2_with fail
  refine wp_region_calm 12 (by kernel_rfl) (by kernel_rfl) ?_
  simp only [List.take_succ_cons, List.take_zero, List.drop_succ_cons, List.drop_zero]
  repeat (first
    | (refine calm_skip rfl ?_; simp only [Act.put, List.setIfInBounds_toArray, List.set_cons_zero, List.set_cons_succ])
    | (refine calm_ex rfl ?_; apply Exists.intro; refine And.intro (fun w' hk => ?_) ?_; (focus (have q0 := hk.cell cW21_0_0; have q1 := hk.cell cW21_0_1; have q2 := hk.cell cW21_0_2; have q3 := hk.cell cW21_0_3; have q4 := hk.cell cW21_0_4; have q5 := hk.cell cW21_0_5; have q6 := hk.cell cW21_0_6; have q7 := hk.cell cW21_0_7; have q8 := hk.cell cW21_0_8; have q9 := hk.cell cW21_0_9; have q10 := hk.cell cW21_0_10; have q11 := hk.cell cW21_0_11; have q12 := hk.cell cW21_0_12; have q13 := hk.cell cW21_0_13; have q14 := hk.cell cW21_0_14; have q15 := hk.cell cW21_0_15; have q16 := hk.cell cW21_1_0; have q17 := hk.cell cW21_1_1; have q18 := hk.cell cW21_2_0; have q19 := hk.cell cW21_2_1; clear hk; go_simp; exact rfl)); simp only [Act.put, List.setIfInBounds_toArray, List.set_cons_zero, List.set_cons_succ]))
  refine calm_nil ?_
  intro W22 hkW22
  have kW22 := kW21.trans hkW22
  have BW22_0 := BW21_0.kept hkW22
  have BW22_1 := BW21_1.kept hkW22
  have BW22_2 := BW21_2.kept hkW22
  clear cW21_0_0 cW21_0_1 cW21_0_2 cW21_0_3 cW21_0_4 cW21_0_5 cW21_0_6 cW21_0_7 cW21_0_8 cW21_0_9 cW21_0_10 cW21_0_11 cW21_0_12 cW21_0_13 cW21_0_14 cW21_0_15 cW21_1_0 cW21_1_1 cW21_2_0 cW21_2_1 fW21_0 fW21_1 fW21_2 BW21_0 BW21_1 BW21_2 kW21 hkW22
  have cW22_0_0 : W22.cell? ⟨w.heap.size, 0, none⟩ = some (.int .u8 b0) := BW22_0.cell 0 rfl
  have cW22_0_1 : W22.cell? ⟨w.heap.size, 1, none⟩ = some (.int .u8 b1) := BW22_0.cell 1 rfl
  have cW22_0_2 : W22.cell? ⟨w.heap.size, 2, none⟩ = some (.int .u8 b2) := BW22_0.cell 2 rfl
  have cW22_0_3 : W22.cell? ⟨w.heap.size, 3, none⟩ = some (.int .u8 b3) := BW22_0.cell 3 rfl
  have cW22_0_4 : W22.cell? ⟨w.heap.size, 4, none⟩ = some (.int .u8 b4) := BW22_0.cell 4 rfl
  have cW22_0_5 : W22.cell? ⟨w.heap.size, 5, none⟩ = some (.int .u8 b5) := BW22_0.cell 5 rfl
  have cW22_0_6 : W22.cell? ⟨w.heap.size, 6, none⟩ = some (.int .u8 b6) := BW22_0.cell 6 rfl
  have cW22_0_7 : W22.cell? ⟨w.heap.size, 7, none⟩ = some (.int .u8 b7) := BW22_0.cell 7 rfl
  have cW22_0_8 : W22.cell? ⟨w.heap.size, 8, none⟩ = some (.int .u8 b8) := BW22_0.cell 8 rfl
  have cW22_0_9 : W22.cell? ⟨w.heap.size, 9, none⟩ = some (.int .u8 b9) := BW22_0.cell 9 rfl
  have cW22_0_10 : W22.cell? ⟨w.heap.size, 10, none⟩ = some (.int .u8 b10) := BW22_0.cell 10 rfl
  have cW22_0_11 : W22.cell? ⟨w.heap.size, 11, none⟩ = some (.int .u8 b11) := BW22_0.cell 11 rfl
  have cW22_0_12 : W22.cell? ⟨w.heap.size, 12, none⟩ = some (.int .u8 b12) := BW22_0.cell 12 rfl
  have cW22_0_13 : W22.cell? ⟨w.heap.size, 13, none⟩ = some (.int .u8 b13) := BW22_0.cell 13 rfl
  have cW22_0_14 : W22.cell? ⟨w.heap.size, 14, none⟩ = some (.int .u8 b14) := BW22_0.cell 14 rfl
  have cW22_0_15 : W22.cell? ⟨w.heap.size, 15, none⟩ = some (.int .u8 b15) := BW22_0.cell 15 rfl
  have fW22_0 := BW22_0.free
  have cW22_1_0 : W22.cell? ⟨w.heap.size + 1, 0, none⟩ = some (.int .u64 0) := BW22_1.cell 0 rfl
  have cW22_1_1 : W22.cell? ⟨w.heap.size + 1, 1, none⟩ = some (.int .u64 0) := BW22_1.cell 1 rfl
  have fW22_1 := BW22_1.free
  have cW22_2_0 : W22.cell? ⟨w.heap.size + 1 + 1, 0, none⟩ = some (.int .u64 v7) := BW22_2.cell 0 rfl
  have cW22_2_1 : W22.cell? ⟨w.heap.size + 1 + 1, 1, none⟩ = some (.int .u64 v9) := BW22_2.cell 1 rfl
  have fW22_2 := BW22_2.free
  go_wp2_with fail
  rw [rounds_succ]
  refine abs_world (fun W => Kept w W ∧ Blk W (w.heap.size) 54 #[.int .u8 b0, .int .u8 b1, .int .u8 b2, .int .u8 b3, .int .u8 b4, .int .u8 b5, .int .u8 b6, .int .u8 b7, .int .u8 b8, .int .u8 b9, .int .u8 b10, .int .u8 b11, .int .u8 b12, .int .u8 b13, .int .u8 b14, .int .u8 b15] ∧ Blk W (w.heap.size + 1) 28 #[.int .u64 0, .int .u64 0] ∧ Blk W (w.heap.size + 1 + 1) 28 #[.int .u64 v7, .int .u64 v10]) ?_ ?_
  · refine ⟨?_, ?_, ?_, ?_⟩
    · repeat (first | exact kW22 | (refine Kept.setCell ?_ (kept_side (by first | assumption | omega)) _) | apply Kept.alloc | apply Kept.drew)
    · simp [Blk, *] <;> (intros; omega)
    · simp [Blk, *] <;> (intros; omega)
    · simp [Blk, *] <;> (intros; omega)
  rintro W23 ⟨kW23, BW23_0, BW23_1, BW23_2⟩
  have cW23_0_0 : W23.cell? ⟨w.heap.size, 0, none⟩ = some (.int .u8 b0) := BW23_0.cell 0 rfl
  have cW23_0_1 : W23.cell? ⟨w.heap.size, 1, none⟩ = some (.int .u8 b1) := BW23_0.cell 1 rfl
  have cW23_0_2 : W23.cell? ⟨w.heap.size, 2, none⟩ = some (.int .u8 b2) := BW23_0.cell 2 rfl
  have cW23_0_3 : W23.cell? ⟨w.heap.size, 3, none⟩ = some (.int .u8 b3) := BW23_0.cell 3 rfl
  have cW23_0_4 : W23.cell? ⟨w.heap.size, 4, none⟩ = some (.int .u8 b4) := BW23_0.cell 4 rfl
  have cW23_0_5 : W23.cell? ⟨w.heap.size, 5, none⟩ = some (.int .u8 b5) := BW23_0.cell 5 rfl
  have cW23_0_6 : W23.cell? ⟨w.heap.size, 6, none⟩ = some (.int .u8 b6) := BW23_0.cell 6 rfl
  have cW23_0_7 : W23.cell? ⟨w.heap.size, 7, none⟩ = some (.int .u8 b7) := BW23_0.cell 7 rfl
  have cW23_0_8 : W23.cell? ⟨w.heap.size, 8, none⟩ = some (.int .u8 b8) := BW23_0.cell 8 rfl
  have cW23_0_9 : W23.cell? ⟨w.heap.size, 9, none⟩ = some (.int .u8 b9) := BW23_0.cell 9 rfl
  have cW23_0_10 : W23.cell? ⟨w.heap.size, 10, none⟩ = some (.int .u8 b10) := BW23_0.cell 10 rfl
  have cW23_0_11 : W23.cell? ⟨w.heap.size, 11, none⟩ = some (.int .u8 b11) := BW23_0.cell 11 rfl
  have cW23_0_12 : W23.cell? ⟨w.heap.size, 12, none⟩ = some (.int .u8 b12) := BW23_0.cell 12 rfl
  have cW23_0_13 : W23.cell? ⟨w.heap.size, 13, none⟩ = some (.int .u8 b13) := BW23_0.cell 13 rfl
  have cW23_0_14 : W23.cell? ⟨w.heap.size, 14, none⟩ = some (.int .u8 b14) := BW23_0.cell 14 rfl
  have cW23_0_15 : W23.cell? ⟨w.heap.size, 15, none⟩ = some (.int .u8 b15) := BW23_0.cell 15 rfl
  have fW23_0 := BW23_0.free
  have cW23_1_0 : W23.cell? ⟨w.heap.size + 1, 0, none⟩ = some (.int .u64 0) := BW23_1.cell 0 rfl
  have cW23_1_1 : W23.cell? ⟨w.heap.size + 1, 1, none⟩ = some (.int .u64 0) := BW23_1.cell 1 rfl
  have fW23_1 := BW23_1.free
  have cW23_2_0 : W23.cell? ⟨w.heap.size + 1 + 1, 0, none⟩ = some (.int .u64 v7) := BW23_2.cell 0 rfl
  have cW23_2_1 : W23.cell? ⟨w.heap.size + 1 + 1, 1, none⟩ = some (.int .u64 v10) := BW23_2.cell 1 rfl
  have fW23_2 := BW23_2.free
  go_wp2_with fail
  refine wp_region_calm 12 (by kernel_rfl) (by kernel_rfl) ?_
  simp only [List.take_succ_cons, List.take_zero, List.drop_succ_cons, List.drop_zero]
  repeat (first
    | (refine calm_skip rfl ?_; simp only [Act.put, List.setIfInBounds_toArray, List.set_cons_zero, List.set_cons_succ])
    | (refine calm_ex rfl ?_; apply Exists.intro; refine And.intro (fun w' hk => ?_) ?_; (focus (have q0 := hk.cell cW23_0_0; have q1 := hk.cell cW23_0_1; have q2 := hk.cell cW23_0_2; have q3 := hk.cell cW23_0_3; have q4 := hk.cell cW23_0_4; have q5 := hk.cell cW23_0_5; have q6 := hk.cell cW23_0_6; have q7 := hk.cell cW23_0_7; have q8 := hk.cell cW23_0_8; have q9 := hk.cell cW23_0_9; have q10 := hk.cell cW23_0_10; have q11 := hk.cell cW23_0_11; have q12 := hk.cell cW23_0_12; have q13 := hk.cell cW23_0_13; have q14 := hk.cell cW23_0_14; have q15 := hk.cell cW23_0_15; have q16 := hk.cell cW23_1_0; have q17 := hk.cell cW23_1_1; have q18 := hk.cell cW23_2_0; have q19 := hk.cell cW23_2_1; clear hk; go_simp; exact rfl)); simp only [Act.put, List.setIfInBounds_toArray, List.set_cons_zero, List.set_cons_succ]))
  refine calm_nil ?_
  intro W24 hkW24
  have kW24 := kW23.trans hkW24
  have BW24_0 := BW23_0.kept hkW24
  have BW24_1 := BW23_1.kept hkW24
  have BW24_2 := BW23_2.kept hkW24
  clear cW23_0_0 cW23_0_1 cW23_0_2 cW23_0_3 cW23_0_4 cW23_0_5 cW23_0_6 cW23_0_7 cW23_0_8 cW23_0_9 cW23_0_10 cW23_0_11 cW23_0_12 cW23_0_13 cW23_0_14 cW23_0_15 cW23_1_0 cW23_1_1 cW23_2_0 cW23_2_1 fW23_0 fW23_1 fW23_2 BW23_0 BW23_1 BW23_2 kW23 hkW24
  have cW24_0_0 : W24.cell? ⟨w.heap.size, 0, none⟩ = some (.int .u8 b0) := BW24_0.cell 0 rfl
  have cW24_0_1 : W24.cell? ⟨w.heap.size, 1, none⟩ = some (.int .u8 b1) := BW24_0.cell 1 rfl
  have cW24_0_2 : W24.cell? ⟨w.heap.size, 2, none⟩ = some (.int .u8 b2) := BW24_0.cell 2 rfl
  have cW24_0_3 : W24.cell? ⟨w.heap.size, 3, none⟩ = some (.int .u8 b3) := BW24_0.cell 3 rfl
  have cW24_0_4 : W24.cell? ⟨w.heap.size, 4, none⟩ = some (.int .u8 b4) := BW24_0.cell 4 rfl
  have cW24_0_5 : W24.cell? ⟨w.heap.size, 5, none⟩ = some (.int .u8 b5) := BW24_0.cell 5 rfl
  have cW24_0_6 : W24.cell? ⟨w.heap.size, 6, none⟩ = some (.int .u8 b6) := BW24_0.cell 6 rfl
  have cW24_0_7 : W24.cell? ⟨w.heap.size, 7, none⟩ = some (.int .u8 b7) := BW24_0.cell 7 rfl
  have cW24_0_8 : W24.cell? ⟨w.heap.size, 8, none⟩ = some (.int .u8 b8) := BW24_0.cell 8 rfl
  have cW24_0_9 : W24.cell? ⟨w.heap.size, 9, none⟩ = some (.int .u8 b9) := BW24_0.cell 9 rfl
  have cW24_0_10 : W24.cell? ⟨w.heap.size, 10, none⟩ = some (.int .u8 b10) := BW24_0.cell 10 rfl
  have cW24_0_11 : W24.cell? ⟨w.heap.size, 11, none⟩ = some (.int .u8 b11) := BW24_0.cell 11 rfl
  have cW24_0_12 : W24.cell? ⟨w.heap.size, 12, none⟩ = some (.int .u8 b12) := BW24_0.cell 12 rfl
  have cW24_0_13 : W24.cell? ⟨w.heap.size, 13, none⟩ = some (.int .u8 b13) := BW24_0.cell 13 rfl
  have cW24_0_14 : W24.cell? ⟨w.heap.size, 14, none⟩ = some (.int .u8 b14) := BW24_0.cell 14 rfl
  have cW24_0_15 : W24.cell? ⟨w.heap.size, 15, none⟩ = some (.int .u8 b15) := BW24_0.cell 15 rfl
  have fW24_0 := BW24_0.free
  have cW24_1_0 : W24.cell? ⟨w.heap.size + 1, 0, none⟩ = some (.int .u64 0) := BW24_1.cell 0 rfl
  have cW24_1_1 : W24.cell? ⟨w.heap.size + 1, 1, none⟩ = some (.int .u64 0) := BW24_1.cell 1 rfl
  have fW24_1 := BW24_1.free
  have cW24_2_0 : W24.cell? ⟨w.heap.size + 1 + 1, 0, none⟩ = some (.int .u64 v7) := BW24_2.cell 0 rfl
  have cW24_2_1 : W24.cell? ⟨w.heap.size + 1 + 1, 1, none⟩ = some (.int .u64 v10) := BW24_2.cell 1 rfl
  have fW24_2 := BW24_2.free
  go_wp2_with fail
  rw [rounds_succ]
  refine abs_world (fun W => Kept w W ∧ Blk W (w.heap.size) 54 #[.int .u8 b0, .int .u8 b1, .int .u8 b2, .int .u8 b3, .int .u8 b4, .int .u8 b5, .int .u8 b6, .int .u8 b7, .int .u8 b8, .int .u8 b9, .int .u8 b10, .int .u8 b11, .int .u8 b12, .int .u8 b13, .int .u8 b14, .int .u8 b15] ∧ Blk W (w.heap.size + 1) 28 #[.int .u64 0, .int .u64 0] ∧ Blk W (w.heap.size + 1 + 1) 28 #[.int .u64 v7, .int .u64 v11]) ?_ ?_
  · refine ⟨?_, ?_, ?_, ?_⟩
    · repeat (first | exact kW24 | (refine Kept.setCell ?_ (kept_side (by first | assumption | omega)) _) | apply Kept.alloc | apply Kept.drew)
    · simp [Blk, *] <;> (intros; omega)
    · simp [Blk, *] <;> (intros; omega)
    · simp [Blk, *] <;> (intros; omega)
  rintro W25 ⟨kW25, BW25_0, BW25_1, BW25_2⟩
  have cW25_0_0 : W25.cell? ⟨w.heap.size, 0, none⟩ = some (.int .u8 b0) := BW25_0.cell 0 rfl
  have cW25_0_1 : W25.cell? ⟨w.heap.size, 1, none⟩ = some (.int .u8 b1) := BW25_0.cell 1 rfl
  have cW25_0_2 : W25.cell? ⟨w.heap.size, 2, none⟩ = some (.int .u8 b2) := BW25_0.cell 2 rfl
  have cW25_0_3 : W25.cell? ⟨w.heap.size, 3, none⟩ = some (.int .u8 b3) := BW25_0.cell 3 rfl
  have cW25_0_4 : W25.cell? ⟨w.heap.size, 4, none⟩ = some (.int .u8 b4) := BW25_0.cell 4 rfl
  have cW25_0_5 : W25.cell? ⟨w.heap.size, 5, none⟩ = some (.int .u8 b5) := BW25_0.cell 5 rfl
  have cW25_0_6 : W25.cell? ⟨w.heap.size, 6, none⟩ = some (.int .u8 b6) := BW25_0.cell 6 rfl
  have cW25_0_7 : W25.cell? ⟨w.heap.size, 7, none⟩ = some (.int .u8 b7) := BW25_0.cell 7 rfl
  have cW25_0_8 : W25.cell? ⟨w.heap.size, 8, none⟩ = some (.int .u8 b8) := BW25_0.cell 8 rfl
  have cW25_0_9 : W25.cell? ⟨w.heap.size, 9, none⟩ = some (.int .u8 b9) := BW25_0.cell 9 rfl
  have cW25_0_10 : W25.cell? ⟨w.heap.size, 10, none⟩ = some (.int .u8 b10) := BW25_0.cell 10 rfl
  have cW25_0_11 : W25.cell? ⟨w.heap.size, 11, none⟩ = some (.int .u8 b11) := BW25_0.cell 11 rfl
  have cW25_0_12 : W25.cell? ⟨w.heap.size, 12, none⟩ = some (.int .u8 b12) := BW25_0.cell 12 rfl
  have cW25_0_13 : W25.cell? ⟨w.heap.size, 13, none⟩ = some (.int .u8 b13) := BW25_0.cell 13 rfl
  have cW25_0_14 : W25.cell? ⟨w.heap.size, 14, none⟩ = some (.int .u8 b14) := BW25_0.cell 14 rfl
  have cW25_0_15 : W25.cell? ⟨w.heap.size, 15, none⟩ = some (.int .u8 b15) := BW25_0.cell 15 rfl
  have fW25_0 := BW25_0.free
  have cW25_1_0 : W25.cell? ⟨w.heap.size + 1, 0, none⟩ = some (.int .u64 0) := BW25_1.cell 0 rfl
  have cW25_1_1 : W25.cell? ⟨w.heap.size + 1, 1, none⟩ = some (.int .u64 0) := BW25_1.cell 1 rfl
  have fW25_1 := BW25_1.free
  have cW25_2_0 : W25.cell? ⟨w.heap.size + 1 + 1, 0, none⟩ = some (.int .u64 v7) := BW25_2.cell 0 rfl
  have cW25_2_1 : W25.cell? ⟨w.heap.size + 1 + 1, 1, none⟩ = some (.int .u64 v11) := BW25_2.cell 1 rfl
  have fW25_2 := BW25_2.free
  go_wp2_with fail
  refine wp_region_calm 12 (by kernel_rfl) (by kernel_rfl) ?_
  simp only [List.take_succ_cons, List.take_zero, List.drop_succ_cons, List.drop_zero]
  repeat (first
    | (refine calm_skip rfl ?_; simp only [Act.put, List.setIfInBounds_toArray, List.set_cons_zero, List.set_cons_succ])
    | (refine calm_ex rfl ?_; apply Exists.intro; refine And.intro (fun w' hk => ?_) ?_; (focus (have q0 := hk.cell cW25_0_0; have q1 := hk.cell cW25_0_1; have q2 := hk.cell cW25_0_2; have q3 := hk.cell cW25_0_3; have q4 := hk.cell cW25_0_4; have q5 := hk.cell cW25_0_5; have q6 := hk.cell cW25_0_6; have q7 := hk.cell cW25_0_7; have q8 := hk.cell cW25_0_8; have q9 := hk.cell cW25_0_9; have q10 := hk.cell cW25_0_10; have q11 := hk.cell cW25_0_11; have q12 := hk.cell cW25_0_12; have q13 := hk.cell cW25_0_13; have q14 := hk.cell cW25_0_14; have q15 := hk.cell cW25_0_15; have q16 := hk.cell cW25_1_0; have q17 := hk.cell cW25_1_1; have q18 := hk.cell cW25_2_0; have q19 := hk.cell cW25_2_1; clear hk; go_simp; exact rfl)); simp only [Act.put, List.setIfInBounds_toArray, List.set_cons_zero, List.set_cons_succ]))
  refine calm_nil ?_
  intro W26 hkW26
  have kW26 := kW25.trans hkW26
  have BW26_0 := BW25_0.kept hkW26
  have BW26_1 := BW25_1.kept hkW26
  have BW26_2 := BW25_2.kept hkW26
  clear cW25_0_0 cW25_0_1 cW25_0_2 cW25_0_3 cW25_0_4 cW25_0_5 cW25_0_6 cW25_0_7 cW25_0_8 cW25_0_9 cW25_0_10 cW25_0_11 cW25_0_12 cW25_0_13 cW25_0_14 cW25_0_15 cW25_1_0 cW25_1_1 cW25_2_0 cW25_2_1 fW25_0 fW25_1 fW25_2 BW25_0 BW25_1 BW25_2 kW25 hkW26
  have cW26_0_0 : W26.cell? ⟨w.heap.size, 0, none⟩ = some (.int .u8 b0) := BW26_0.cell 0 rfl
  have cW26_0_1 : W26.cell? ⟨w.heap.size, 1, none⟩ = some (.int .u8 b1) := BW26_0.cell 1 rfl
  have cW26_0_2 : W26.cell? ⟨w.heap.size, 2, none⟩ = some (.int .u8 b2) := BW26_0.cell 2 rfl
  have cW26_0_3 : W26.cell? ⟨w.heap.size, 3, none⟩ = some (.int .u8 b3) := BW26_0.cell 3 rfl
  have cW26_0_4 : W26.cell? ⟨w.heap.size, 4, none⟩ = some (.int .u8 b4) := BW26_0.cell 4 rfl
  have cW26_0_5 : W26.cell? ⟨w.heap.size, 5, none⟩ = some (.int .u8 b5) := BW26_0.cell 5 rfl
  have cW26_0_6 : W26.cell? ⟨w.heap.size, 6, none⟩ = some (.int .u8 b6) := BW26_0.cell 6 rfl
  have cW26_0_7 : W26.cell? ⟨w.heap.size, 7, none⟩ = some (.int .u8 b7) := BW26_0.cell 7 rfl
  have cW26_0_8 : W26.cell? ⟨w.heap.size, 8, none⟩ = some (.int .u8 b8) := BW26_0.cell 8 rfl
  have cW26_0_9 : W26.cell? ⟨w.heap.size, 9, none⟩ = some (.int .u8 b9) := BW26_0.cell 9 rfl
  have cW26_0_10 : W26.cell? ⟨w.heap.size, 10, none⟩ = some (.int .u8 b10) := BW26_0.cell 10 rfl
  have cW26_0_11 : W26.cell? ⟨w.heap.size, 11, none⟩ = some (.int .u8 b11) := BW26_0.cell 11 rfl
  have cW26_0_12 : W26.cell? ⟨w.heap.size, 12, none⟩ = some (.int .u8 b12) := BW26_0.cell 12 rfl
  have cW26_0_13 : W26.cell? ⟨w.heap.size, 13, none⟩ = some (.int .u8 b13) := BW26_0.cell 13 rfl
  have cW26_0_14 : W26.cell? ⟨w.heap.size, 14, none⟩ = some (.int .u8 b14) := BW26_0.cell 14 rfl
  have cW26_0_15 : W26.cell? ⟨w.heap.size, 15, none⟩ = some (.int .u8 b15) := BW26_0.cell 15 rfl
  have fW26_0 := BW26_0.free
  have cW26_1_0 : W26.cell? ⟨w.heap.size + 1, 0, none⟩ = some (.int .u64 0) := BW26_1.cell 0 rfl
  have cW26_1_1 : W26.cell? ⟨w.heap.size + 1, 1, none⟩ = some (.int .u64 0) := BW26_1.cell 1 rfl
  have fW26_1 := BW26_1.free
  have cW26_2_0 : W26.cell? ⟨w.heap.size + 1 + 1, 0, none⟩ = some (.int .u64 v7) := BW26_2.cell 0 rfl
  have cW26_2_1 : W26.cell? ⟨w.heap.size + 1 + 1, 1, none⟩ = some (.int .u64 v11) := BW26_2.cell 1 rfl
  have fW26_2 := BW26_2.free
  go_wp2_with fail
  rw [rounds_succ]
  refine abs_world (fun W => Kept w W ∧ Blk W (w.heap.size) 54 #[.int .u8 b0, .int .u8 b1, .int .u8 b2, .int .u8 b3, .int .u8 b4, .int .u8 b5, .int .u8 b6, .int .u8 b7, .int .u8 b8, .int .u8 b9, .int .u8 b10, .int .u8 b11, .int .u8 b12, .int .u8 b13, .int .u8 b14, .int .u8 b15] ∧ Blk W (w.heap.size + 1) 28 #[.int .u64 0, .int .u64 0] ∧ Blk W (w.heap.size + 1 + 1) 28 #[.int .u64 v7, .int .u64 v12]) ?_ ?_
  · refine ⟨?_, ?_, ?_, ?_⟩
    · repeat (first | exact kW26 | (refine Kept.setCell ?_ (kept_side (by first | assumption | omega)) _) | apply Kept.alloc | apply Kept.drew)
    · simp [Blk, *] <;> (intros; omega)
    · simp [Blk, *] <;> (intros; omega)
    · simp [Blk, *] <;> (intros; omega)
  rintro W27 ⟨kW27, BW27_0, BW27_1, BW27_2⟩
  have cW27_0_0 : W27.cell? ⟨w.heap.size, 0, none⟩ = some (.int .u8 b0) := BW27_0.cell 0 rfl
  have cW27_0_1 : W27.cell? ⟨w.heap.size, 1, none⟩ = some (.int .u8 b1) := BW27_0.cell 1 rfl
  have cW27_0_2 : W27.cell? ⟨w.heap.size, 2, none⟩ = some (.int .u8 b2) := BW27_0.cell 2 rfl
  have cW27_0_3 : W27.cell? ⟨w.heap.size, 3, none⟩ = some (.int .u8 b3) := BW27_0.cell 3 rfl
  have cW27_0_4 : W27.cell? ⟨w.heap.size, 4, none⟩ = some (.int .u8 b4) := BW27_0.cell 4 rfl
  have cW27_0_5 : W27.cell? ⟨w.heap.size, 5, none⟩ = some (.int .u8 b5) := BW27_0.cell 5 rfl
  have cW27_0_6 : W27.cell? ⟨w.heap.size, 6, none⟩ = some (.int .u8 b6) := BW27_0.cell 6 rfl
  have cW27_0_7 : W27.cell? ⟨w.heap.size, 7, none⟩ = some (.int .u8 b7) := BW27_0.cell 7 rfl
  have cW27_0_8 : W27.cell? ⟨w.heap.size, 8, none⟩ = some (.int .u8 b8) := BW27_0.cell 8 rfl
  have cW27_0_9 : W27.cell? ⟨w.heap.size, 9, none⟩ = some (.int .u8 b9) := BW27_0.cell 9 rfl
  have cW27_0_10 : W27.cell? ⟨w.heap.size, 10, none⟩ = some (.int .u8 b10) := BW27_0.cell 10 rfl
  have cW27_0_11 : W27.cell? ⟨w.heap.size, 11, none⟩ = some (.int .u8 b11) := BW27_0.cell 11 rfl
  have cW27_0_12 : W27.cell? ⟨w.heap.size, 12, none⟩ = some (.int .u8 b12) := BW27_0.cell 12 rfl
  have cW27_0_13 : W27.cell? ⟨w.heap.size, 13, none⟩ = some (.int .u8 b13) := BW27_0.cell 13 rfl
  have cW27_0_14 : W27.cell? ⟨w.heap.size, 14, none⟩ = some (.int .u8 b14) := BW27_0.cell 14 rfl
  have cW27_0_15 : W27.cell? ⟨w.heap.size, 15, none⟩ = some (.int .u8 b15) := BW27_0.cell 15 rfl
  have fW27_0 := BW27_0.free
  have cW27_1_0 : W27.cell? ⟨w.heap.size + 1, 0, none⟩ = some (.int .u64 0) := BW27_1.cell 0 rfl
  have cW27_1_1 : W27.cell? ⟨w.heap.size + 1, 1, none⟩ = some (.int .u64 0) := BW27_1.cell 1 rfl
  have fW27_1 := BW27_1.free
  have cW27_2_0 : W27.cell? ⟨w.heap.size + 1 + 1, 0, none⟩ = some (.int .u64 v7) := BW27_2.cell 0 rfl
  have cW27_2_1 : W27.cell? ⟨w.heap.size + 1 + 1, 1, none⟩ = some (.int .u64 v12) := BW27_2.cell 1 rfl
  have fW27_2 := BW27_2.free
  go_wp2_with fail
  refine wp_region_calm 12 (by kernel_rfl) (by kernel_rfl) ?_
  simp only [List.take_succ_cons, List.take_zero, List.drop_succ_cons, List.drop_zero]
  repeat (first
    | (refine calm_skip rfl ?_; simp only [Act.put, List.setIfInBounds_toArray, List.set_cons_zero, List.set_cons_succ])
    | (refine calm_ex rfl ?_; apply Exists.intro; refine And.intro (fun w' hk => ?_) ?_; (focus (have q0 := hk.cell cW27_0_0; have q1 := hk.cell cW27_0_1; have q2 := hk.cell cW27_0_2; have q3 := hk.cell cW27_0_3; have q4 := hk.cell cW27_0_4; have q5 := hk.cell cW27_0_5; have q6 := hk.cell cW27_0_6; have q7 := hk.cell cW27_0_7; have q8 := hk.cell cW27_0_8; have q9 := hk.cell cW27_0_9; have q10 := hk.cell cW27_0_10; have q11 := hk.cell cW27_0_11; have q12 := hk.cell cW27_0_12; have q13 := hk.cell cW27_0_13; have q14 := hk.cell cW27_0_14; have q15 := hk.cell cW27_0_15; have q16 := hk.cell cW27_1_0; have q17 := hk.cell cW27_1_1; have q18 := hk.cell cW27_2_0; have q19 := hk.cell cW27_2_1; clear hk; go_simp; exact rfl)); simp only [Act.put, List.setIfInBounds_toArray, List.set_cons_zero, List.set_cons_succ]))
  refine calm_nil ?_
  intro W28 hkW28
  have kW28 := kW27.trans hkW28
  have BW28_0 := BW27_0.kept hkW28
  have BW28_1 := BW27_1.kept hkW28
  have BW28_2 := BW27_2.kept hkW28
  clear cW27_0_0 cW27_0_1 cW27_0_2 cW27_0_3 cW27_0_4 cW27_0_5 cW27_0_6 cW27_0_7 cW27_0_8 cW27_0_9 cW27_0_10 cW27_0_11 cW27_0_12 cW27_0_13 cW27_0_14 cW27_0_15 cW27_1_0 cW27_1_1 cW27_2_0 cW27_2_1 fW27_0 fW27_1 fW27_2 BW27_0 BW27_1 BW27_2 kW27 hkW28
  have cW28_0_0 : W28.cell? ⟨w.heap.size, 0, none⟩ = some (.int .u8 b0) := BW28_0.cell 0 rfl
  have cW28_0_1 : W28.cell? ⟨w.heap.size, 1, none⟩ = some (.int .u8 b1) := BW28_0.cell 1 rfl
  have cW28_0_2 : W28.cell? ⟨w.heap.size, 2, none⟩ = some (.int .u8 b2) := BW28_0.cell 2 rfl
  have cW28_0_3 : W28.cell? ⟨w.heap.size, 3, none⟩ = some (.int .u8 b3) := BW28_0.cell 3 rfl
  have cW28_0_4 : W28.cell? ⟨w.heap.size, 4, none⟩ = some (.int .u8 b4) := BW28_0.cell 4 rfl
  have cW28_0_5 : W28.cell? ⟨w.heap.size, 5, none⟩ = some (.int .u8 b5) := BW28_0.cell 5 rfl
  have cW28_0_6 : W28.cell? ⟨w.heap.size, 6, none⟩ = some (.int .u8 b6) := BW28_0.cell 6 rfl
  have cW28_0_7 : W28.cell? ⟨w.heap.size, 7, none⟩ = some (.int .u8 b7) := BW28_0.cell 7 rfl
  have cW28_0_8 : W28.cell? ⟨w.heap.size, 8, none⟩ = some (.int .u8 b8) := BW28_0.cell 8 rfl
  have cW28_0_9 : W28.cell? ⟨w.heap.size, 9, none⟩ = some (.int .u8 b9) := BW28_0.cell 9 rfl
  have cW28_0_10 : W28.cell? ⟨w.heap.size, 10, none⟩ = some (.int .u8 b10) := BW28_0.cell 10 rfl
  have cW28_0_11 : W28.cell? ⟨w.heap.size, 11, none⟩ = some (.int .u8 b11) := BW28_0.cell 11 rfl
  have cW28_0_12 : W28.cell? ⟨w.heap.size, 12, none⟩ = some (.int .u8 b12) := BW28_0.cell 12 rfl
  have cW28_0_13 : W28.cell? ⟨w.heap.size, 13, none⟩ = some (.int .u8 b13) := BW28_0.cell 13 rfl
  have cW28_0_14 : W28.cell? ⟨w.heap.size, 14, none⟩ = some (.int .u8 b14) := BW28_0.cell 14 rfl
  have cW28_0_15 : W28.cell? ⟨w.heap.size, 15, none⟩ = some (.int .u8 b15) := BW28_0.cell 15 rfl
  have fW28_0 := BW28_0.free
  have cW28_1_0 : W28.cell? ⟨w.heap.size + 1, 0, none⟩ = some (.int .u64 0) := BW28_1.cell 0 rfl
  have cW28_1_1 : W28.cell? ⟨w.heap.size + 1, 1, none⟩ = some (.int .u64 0) := BW28_1.cell 1 rfl
  have fW28_1 := BW28_1.free
  have cW28_2_0 : W28.cell? ⟨w.heap.size + 1 + 1, 0, none⟩ = some (.int .u64 v7) := BW28_2.cell 0 rfl
  have cW28_2_1 : W28.cell? ⟨w.heap.size + 1 + 1, 1, none⟩ = some (.int .u64 v12) := BW28_2.cell 1 rfl
  have fW28_2 := BW28_2.free
  go_wp2_with fail
  rw [rounds_succ]
  refine abs_world (fun W => Kept w W ∧ Blk W (w.heap.size) 54 #[.int .u8 b0, .int .u8 b1, .int .u8 b2, .int .u8 b3, .int .u8 b4, .int .u8 b5, .int .u8 b6, .int .u8 b7, .int .u8 b8, .int .u8 b9, .int .u8 b10, .int .u8 b11, .int .u8 b12, .int .u8 b13, .int .u8 b14, .int .u8 b15] ∧ Blk W (w.heap.size + 1) 28 #[.int .u64 0, .int .u64 0] ∧ Blk W (w.heap.size + 1 + 1) 28 #[.int .u64 v7, .int .u64 v13]) ?_ ?_
  · refine ⟨?_, ?_, ?_, ?_⟩
    · repeat (first | exact kW28 | (refine Kept.setCell ?_ (kept_side (by first | assumption | omega)) _) | apply Kept.alloc | apply Kept.drew)
    · simp [Blk, *] <;> (intros; omega)
    · simp [Blk, *] <;> (intros; omega)
    · simp [Blk, *] <;> (intros; omega)
  rintro W29 ⟨kW29, BW29_0, BW29_1, BW29_2⟩
  have cW29_0_0 : W29.cell? ⟨w.heap.size, 0, none⟩ = some (.int .u8 b0) := BW29_0.cell 0 rfl
  have cW29_0_1 : W29.cell? ⟨w.heap.size, 1, none⟩ = some (.int .u8 b1) := BW29_0.cell 1 rfl
  have cW29_0_2 : W29.cell? ⟨w.heap.size, 2, none⟩ = some (.int .u8 b2) := BW29_0.cell 2 rfl
  have cW29_0_3 : W29.cell? ⟨w.heap.size, 3, none⟩ = some (.int .u8 b3) := BW29_0.cell 3 rfl
  have cW29_0_4 : W29.cell? ⟨w.heap.size, 4, none⟩ = some (.int .u8 b4) := BW29_0.cell 4 rfl
  have cW29_0_5 : W29.cell? ⟨w.heap.size, 5, none⟩ = some (.int .u8 b5) := BW29_0.cell 5 rfl
  have cW29_0_6 : W29.cell? ⟨w.heap.size, 6, none⟩ = some (.int .u8 b6) := BW29_0.cell 6 rfl
  have cW29_0_7 : W29.cell? ⟨w.heap.size, 7, none⟩ = some (.int .u8 b7) := BW29_0.cell 7 rfl
  have cW29_0_8 : W29.cell? ⟨w.heap.size, 8, none⟩ = some (.int .u8 b8) := BW29_0.cell 8 rfl
  have cW29_0_9 : W29.cell? ⟨w.heap.size, 9, none⟩ = some (.int .u8 b9) := BW29_0.cell 9 rfl
  have cW29_0_10 : W29.cell? ⟨w.heap.size, 10, none⟩ = some (.int .u8 b10) := BW29_0.cell 10 rfl
  have cW29_0_11 : W29.cell? ⟨w.heap.size, 11, none⟩ = some (.int .u8 b11) := BW29_0.cell 11 rfl
  have cW29_0_12 : W29.cell? ⟨w.heap.size, 12, none⟩ = some (.int .u8 b12) := BW29_0.cell 12 rfl
  have cW29_0_13 : W29.cell? ⟨w.heap.size, 13, none⟩ = some (.int .u8 b13) := BW29_0.cell 13 rfl
  have cW29_0_14 : W29.cell? ⟨w.heap.size, 14, none⟩ = some (.int .u8 b14) := BW29_0.cell 14 rfl
  have cW29_0_15 : W29.cell? ⟨w.heap.size, 15, none⟩ = some (.int .u8 b15) := BW29_0.cell 15 rfl
  have fW29_0 := BW29_0.free
  have cW29_1_0 : W29.cell? ⟨w.heap.size + 1, 0, none⟩ = some (.int .u64 0) := BW29_1.cell 0 rfl
  have cW29_1_1 : W29.cell? ⟨w.heap.size + 1, 1, none⟩ = some (.int .u64 0) := BW29_1.cell 1 rfl
  have fW29_1 := BW29_1.free
  have cW29_2_0 : W29.cell? ⟨w.heap.size + 1 + 1, 0, none⟩ = some (.int .u64 v7) := BW29_2.cell 0 rfl
  have cW29_2_1 : W29.cell? ⟨w.heap.size + 1 + 1, 1, none⟩ = some (.int .u64 v13) := BW29_2.cell 1 rfl
  have fW29_2 := BW29_2.free
  go_wp2_with fail
  refine wp_region_calm 12 (by kernel_rfl) (by kernel_rfl) ?_
  simp only [List.take_succ_cons, List.take_zero, List.drop_succ_cons, List.drop_zero]
  repeat (first
    | (refine calm_skip rfl ?_; simp only [Act.put, List.setIfInBounds_toArray, List.set_cons_zero, List.set_cons_succ])
    | (refine calm_ex rfl ?_; apply Exists.intro; refine And.intro (fun w' hk => ?_) ?_; (focus (have q0 := hk.cell cW29_0_0; have q1 := hk.cell cW29_0_1; have q2 := hk.cell cW29_0_2; have q3 := hk.cell cW29_0_3; have q4 := hk.cell cW29_0_4; have q5 := hk.cell cW29_0_5; have q6 := hk.cell cW29_0_6; have q7 := hk.cell cW29_0_7; have q8 := hk.cell cW29_0_8; have q9 := hk.cell cW29_0_9; have q10 := hk.cell cW29_0_10; have q11 := hk.cell cW29_0_11; have q12 := hk.cell cW29_0_12; have q13 := hk.cell cW29_0_13; have q14 := hk.cell cW29_0_14; have q15 := hk.cell cW29_0_15; have q16 := hk.cell cW29_1_0; have q17 := hk.cell cW29_1_1; have q18 := hk.cell cW29_2_0; have q19 := hk.cell cW29_2_1; clear hk; go_simp; exact rfl)); simp only [Act.put, List.setIfInBounds_toArray, List.set_cons_zero, List.set_cons_succ]))
  refine calm_nil ?_
  intro W30 hkW30
  have kW30 := kW29.trans hkW30
  have BW30_0 := BW29_0.kept hkW30
  have BW30_1 := BW29_1.kept hkW30
  have BW30_2 := BW29_2.kept hkW30
  clear cW29_0_0 cW29_0_1 cW29_0_2 cW29_0_3 cW29_0_4 cW29_0_5 cW29_0_6 cW29_0_7 cW29_0_8 cW29_0_9 cW29_0_10 cW29_0_11 cW29_0_12 cW29_0_13 cW29_0_14 cW29_0_15 cW29_1_0 cW29_1_1 cW29_2_0 cW29_2_1 fW29_0 fW29_1 fW29_2 BW29_0 BW29_1 BW29_2 kW29 hkW30
  have cW30_0_0 : W30.cell? ⟨w.heap.size, 0, none⟩ = some (.int .u8 b0) := BW30_0.cell 0 rfl
  have cW30_0_1 : W30.cell? ⟨w.heap.size, 1, none⟩ = some (.int .u8 b1) := BW30_0.cell 1 rfl
  have cW30_0_2 : W30.cell? ⟨w.heap.size, 2, none⟩ = some (.int .u8 b2) := BW30_0.cell 2 rfl
  have cW30_0_3 : W30.cell? ⟨w.heap.size, 3, none⟩ = some (.int .u8 b3) := BW30_0.cell 3 rfl
  have cW30_0_4 : W30.cell? ⟨w.heap.size, 4, none⟩ = some (.int .u8 b4) := BW30_0.cell 4 rfl
  have cW30_0_5 : W30.cell? ⟨w.heap.size, 5, none⟩ = some (.int .u8 b5) := BW30_0.cell 5 rfl
  have cW30_0_6 : W30.cell? ⟨w.heap.size, 6, none⟩ = some (.int .u8 b6) := BW30_0.cell 6 rfl
  have cW30_0_7 : W30.cell? ⟨w.heap.size, 7, none⟩ = some (.int .u8 b7) := BW30_0.cell 7 rfl
  have cW30_0_8 : W30.cell? ⟨w.heap.size, 8, none⟩ = some (.int .u8 b8) := BW30_0.cell 8 rfl
  have cW30_0_9 : W30.cell? ⟨w.heap.size, 9, none⟩ = some (.int .u8 b9) := BW30_0.cell 9 rfl
  have cW30_0_10 : W30.cell? ⟨w.heap.size, 10, none⟩ = some (.int .u8 b10) := BW30_0.cell 10 rfl
  have cW30_0_11 : W30.cell? ⟨w.heap.size, 11, none⟩ = some (.int .u8 b11) := BW30_0.cell 11 rfl
  have cW30_0_12 : W30.cell? ⟨w.heap.size, 12, none⟩ = some (.int .u8 b12) := BW30_0.cell 12 rfl
  have cW30_0_13 : W30.cell? ⟨w.heap.size, 13, none⟩ = some (.int .u8 b13) := BW30_0.cell 13 rfl
  have cW30_0_14 : W30.cell? ⟨w.heap.size, 14, none⟩ = some (.int .u8 b14) := BW30_0.cell 14 rfl
  have cW30_0_15 : W30.cell? ⟨w.heap.size, 15, none⟩ = some (.int .u8 b15) := BW30_0.cell 15 rfl
  have fW30_0 := BW30_0.free
  have cW30_1_0 : W30.cell? ⟨w.heap.size + 1, 0, none⟩ = some (.int .u64 0) := BW30_1.cell 0 rfl
  have cW30_1_1 : W30.cell? ⟨w.heap.size + 1, 1, none⟩ = some (.int .u64 0) := BW30_1.cell 1 rfl
  have fW30_1 := BW30_1.free
  have cW30_2_0 : W30.cell? ⟨w.heap.size + 1 + 1, 0, none⟩ = some (.int .u64 v7) := BW30_2.cell 0 rfl
  have cW30_2_1 : W30.cell? ⟨w.heap.size + 1 + 1, 1, none⟩ = some (.int .u64 v13) := BW30_2.cell 1 rfl
  have fW30_2 := BW30_2.free
  go_wp2_with fail
  rw [rounds_succ]
  refine abs_world (fun W => Kept w W ∧ Blk W (w.heap.size) 54 #[.int .u8 b0, .int .u8 b1, .int .u8 b2, .int .u8 b3, .int .u8 b4, .int .u8 b5, .int .u8 b6, .int .u8 b7, .int .u8 b8, .int .u8 b9, .int .u8 b10, .int .u8 b11, .int .u8 b12, .int .u8 b13, .int .u8 b14, .int .u8 b15] ∧ Blk W (w.heap.size + 1) 28 #[.int .u64 0, .int .u64 0] ∧ Blk W (w.heap.size + 1 + 1) 28 #[.int .u64 v7, .int .u64 v14]) ?_ ?_
  · refine ⟨?_, ?_, ?_, ?_⟩
    · repeat (first | exact kW30 | (refine Kept.setCell ?_ (kept_side (by first | assumption | omega)) _) | apply Kept.alloc | apply Kept.drew)
    · simp [Blk, *] <;> (intros; omega)
    · simp [Blk, *] <;> (intros; omega)
    · simp [Blk, *] <;> (intros; omega)
  rintro W31 ⟨kW31, BW31_0, BW31_1, BW31_2⟩
  have cW31_0_0 : W31.cell? ⟨w.heap.size, 0, none⟩ = some (.int .u8 b0) := BW31_0.cell 0 rfl
  have cW31_0_1 : W31.cell? ⟨w.heap.size, 1, none⟩ = some (.int .u8 b1) := BW31_0.cell 1 rfl
  have cW31_0_2 : W31.cell? ⟨w.heap.size, 2, none⟩ = some (.int .u8 b2) := BW31_0.cell 2 rfl
  have cW31_0_3 : W31.cell? ⟨w.heap.size, 3, none⟩ = some (.int .u8 b3) := BW31_0.cell 3 rfl
  have cW31_0_4 : W31.cell? ⟨w.heap.size, 4, none⟩ = some (.int .u8 b4) := BW31_0.cell 4 rfl
  have cW31_0_5 : W31.cell? ⟨w.heap.size, 5, none⟩ = some (.int .u8 b5) := BW31_0.cell 5 rfl
  have cW31_0_6 : W31.cell? ⟨w.heap.size, 6, none⟩ = some (.int .u8 b6) := BW31_0.cell 6 rfl
  have cW31_0_7 : W31.cell? ⟨w.heap.size, 7, none⟩ = some (.int .u8 b7) := BW31_0.cell 7 rfl
  have cW31_0_8 : W31.cell? ⟨w.heap.size, 8, none⟩ = some (.int .u8 b8) := BW31_0.cell 8 rfl
  have cW31_0_9 : W31.cell? ⟨w.heap.size, 9, none⟩ = some (.int .u8 b9) := BW31_0.cell 9 rfl
  have cW31_0_10 : W31.cell? ⟨w.heap.size, 10, none⟩ = some (.int .u8 b10) := BW31_0.cell 10 rfl
  have cW31_0_11 : W31.cell? ⟨w.heap.size, 11, none⟩ = some (.int .u8 b11) := BW31_0.cell 11 rfl
  have cW31_0_12 : W31.cell? ⟨w.heap.size, 12, none⟩ = some (.int .u8 b12) := BW31_0.cell 12 rfl
  have cW31_0_13 : W31.cell? ⟨w.heap.size, 13, none⟩ = some (.int .u8 b13) := BW31_0.cell 13 rfl
  have cW31_0_14 : W31.cell? ⟨w.heap.size, 14, none⟩ = some (.int .u8 b14) := BW31_0.cell 14 rfl
  have cW31_0_15 : W31.cell? ⟨w.heap.size, 15, none⟩ = some (.int .u8 b15) := BW31_0.cell 15 rfl
  have fW31_0 := BW31_0.free
  have cW31_1_0 : W31.cell? ⟨w.heap.size + 1, 0, none⟩ = some (.int .u64 0) := BW31_1.cell 0 rfl
  have cW31_1_1 : W31.cell? ⟨w.heap.size + 1, 1, none⟩ = some (.int .u64 0) := BW31_1.cell 1 rfl
  have fW31_1 := BW31_1.free
  have cW31_2_0 : W31.cell? ⟨w.heap.size + 1 + 1, 0, none⟩ = some (.int .u64 v7) := BW31_2.cell 0 rfl
  have cW31_2_1 : W31.cell? ⟨w.heap.size + 1 + 1, 1, none⟩ = some (.int .u64 v14) := BW31_2.cell 1 rfl
  have fW31_2 := BW31_2.free
  go_wp2_with fail
  refine wp_region_calm 12 (by kernel_rfl) (by kernel_rfl) ?_
  simp only [List.take_succ_cons, List.take_zero, List.drop_succ_cons, List.drop_zero]
  repeat (first
    | (refine calm_skip rfl ?_; simp only [Act.put, List.setIfInBounds_toArray, List.set_cons_zero, List.set_cons_succ])
    | (refine calm_ex rfl ?_; apply Exists.intro; refine And.intro (fun w' hk => ?_) ?_; (focus (have q0 := hk.cell cW31_0_0; have q1 := hk.cell cW31_0_1; have q2 := hk.cell cW31_0_2; have q3 := hk.cell cW31_0_3; have q4 := hk.cell cW31_0_4; have q5 := hk.cell cW31_0_5; have q6 := hk.cell cW31_0_6; have q7 := hk.cell cW31_0_7; have q8 := hk.cell cW31_0_8; have q9 := hk.cell cW31_0_9; have q10 := hk.cell cW31_0_10; have q11 := hk.cell cW31_0_11; have q12 := hk.cell cW31_0_12; have q13 := hk.cell cW31_0_13; have q14 := hk.cell cW31_0_14; have q15 := hk.cell cW31_0_15; have q16 := hk.cell cW31_1_0; have q17 := hk.cell cW31_1_1; have q18 := hk.cell cW31_2_0; have q19 := hk.cell cW31_2_1; clear hk; go_simp; exact rfl)); simp only [Act.put, List.setIfInBounds_toArray, List.set_cons_zero, List.set_cons_succ]))
  refine calm_nil ?_
  intro W32 hkW32
  have kW32 := kW31.trans hkW32
  have BW32_0 := BW31_0.kept hkW32
  have BW32_1 := BW31_1.kept hkW32
  have BW32_2 := BW31_2.kept hkW32
  clear cW31_0_0 cW31_0_1 cW31_0_2 cW31_0_3 cW31_0_4 cW31_0_5 cW31_0_6 cW31_0_7 cW31_0_8 cW31_0_9 cW31_0_10 cW31_0_11 cW31_0_12 cW31_0_13 cW31_0_14 cW31_0_15 cW31_1_0 cW31_1_1 cW31_2_0 cW31_2_1 fW31_0 fW31_1 fW31_2 BW31_0 BW31_1 BW31_2 kW31 hkW32
  have cW32_0_0 : W32.cell? ⟨w.heap.size, 0, none⟩ = some (.int .u8 b0) := BW32_0.cell 0 rfl
  have cW32_0_1 : W32.cell? ⟨w.heap.size, 1, none⟩ = some (.int .u8 b1) := BW32_0.cell 1 rfl
  have cW32_0_2 : W32.cell? ⟨w.heap.size, 2, none⟩ = some (.int .u8 b2) := BW32_0.cell 2 rfl
  have cW32_0_3 : W32.cell? ⟨w.heap.size, 3, none⟩ = some (.int .u8 b3) := BW32_0.cell 3 rfl
  have cW32_0_4 : W32.cell? ⟨w.heap.size, 4, none⟩ = some (.int .u8 b4) := BW32_0.cell 4 rfl
  have cW32_0_5 : W32.cell? ⟨w.heap.size, 5, none⟩ = some (.int .u8 b5) := BW32_0.cell 5 rfl
  have cW32_0_6 : W32.cell? ⟨w.heap.size, 6, none⟩ = some (.int .u8 b6) := BW32_0.cell 6 rfl
  have cW32_0_7 : W32.cell? ⟨w.heap.size, 7, none⟩ = some (.int .u8 b7) := BW32_0.cell 7 rfl
  have cW32_0_8 : W32.cell? ⟨w.heap.size, 8, none⟩ = some (.int .u8 b8) := BW32_0.cell 8 rfl
  have cW32_0_9 : W32.cell? ⟨w.heap.size, 9, none⟩ = some (.int .u8 b9) := BW32_0.cell 9 rfl
  have cW32_0_10 : W32.cell? ⟨w.heap.size, 10, none⟩ = some (.int .u8 b10) := BW32_0.cell 10 rfl
  have cW32_0_11 : W32.cell? ⟨w.heap.size, 11, none⟩ = some (.int .u8 b11) := BW32_0.cell 11 rfl
  have cW32_0_12 : W32.cell? ⟨w.heap.size, 12, none⟩ = some (.int .u8 b12) := BW32_0.cell 12 rfl
  have cW32_0_13 : W32.cell? ⟨w.heap.size, 13, none⟩ = some (.int .u8 b13) := BW32_0.cell 13 rfl
  have cW32_0_14 : W32.cell? ⟨w.heap.size, 14, none⟩ = some (.int .u8 b14) := BW32_0.cell 14 rfl
  have cW32_0_15 : W32.cell? ⟨w.heap.size, 15, none⟩ = some (.int .u8 b15) := BW32_0.cell 15 rfl
  have fW32_0 := BW32_0.free
  have cW32_1_0 : W32.cell? ⟨w.heap.size + 1, 0, none⟩ = some (.int .u64 0) := BW32_1.cell 0 rfl
  have cW32_1_1 : W32.cell? ⟨w.heap.size + 1, 1, none⟩ = some (.int .u64 0) := BW32_1.cell 1 rfl
  have fW32_1 := BW32_1.free
  have cW32_2_0 : W32.cell? ⟨w.heap.size + 1 + 1, 0, none⟩ = some (.int .u64 v7) := BW32_2.cell 0 rfl
  have cW32_2_1 : W32.cell? ⟨w.heap.size + 1 + 1, 1, none⟩ = some (.int .u64 v14) := BW32_2.cell 1 rfl
  have fW32_2 := BW32_2.free
  go_wp2_with fail
  rw [rounds_succ]
  refine abs_world (fun W => Kept w W ∧ Blk W (w.heap.size) 54 #[.int .u8 b0, .int .u8 b1, .int .u8 b2, .int .u8 b3, .int .u8 b4, .int .u8 b5, .int .u8 b6, .int .u8 b7, .int .u8 b8, .int .u8 b9, .int .u8 b10, .int .u8 b11, .int .u8 b12, .int .u8 b13, .int .u8 b14, .int .u8 b15] ∧ Blk W (w.heap.size + 1) 28 #[.int .u64 0, .int .u64 0] ∧ Blk W (w.heap.size + 1 + 1) 28 #[.int .u64 v7, .int .u64 v15]) ?_ ?_
  · refine ⟨?_, ?_, ?_, ?_⟩
    · repeat (first | exact kW32 | (refine Kept.setCell ?_ (kept_side (by first | assumption | omega)) _) | apply Kept.alloc | apply Kept.drew)
    · simp [Blk, *] <;> (intros; omega)
    · simp [Blk, *] <;> (intros; omega)
    · simp [Blk, *] <;> (intros; omega)
  rintro W33 ⟨kW33, BW33_0, BW33_1, BW33_2⟩
  have cW33_0_0 : W33.cell? ⟨w.heap.size, 0, none⟩ = some (.int .u8 b0) := BW33_0.cell 0 rfl
  have cW33_0_1 : W33.cell? ⟨w.heap.size, 1, none⟩ = some (.int .u8 b1) := BW33_0.cell 1 rfl
  have cW33_0_2 : W33.cell? ⟨w.heap.size, 2, none⟩ = some (.int .u8 b2) := BW33_0.cell 2 rfl
  have cW33_0_3 : W33.cell? ⟨w.heap.size, 3, none⟩ = some (.int .u8 b3) := BW33_0.cell 3 rfl
  have cW33_0_4 : W33.cell? ⟨w.heap.size, 4, none⟩ = some (.int .u8 b4) := BW33_0.cell 4 rfl
  have cW33_0_5 : W33.cell? ⟨w.heap.size, 5, none⟩ = some (.int .u8 b5) := BW33_0.cell 5 rfl
  have cW33_0_6 : W33.cell? ⟨w.heap.size, 6, none⟩ = some (.int .u8 b6) := BW33_0.cell 6 rfl
  have cW33_0_7 : W33.cell? ⟨w.heap.size, 7, none⟩ = some (.int .u8 b7) := BW33_0.cell 7 rfl
  have cW33_0_8 : W33.cell? ⟨w.heap.size, 8, none⟩ = some (.int .u8 b8) := BW33_0.cell 8 rfl
  have cW33_0_9 : W33.cell? ⟨w.heap.size, 9, none⟩ = some (.int .u8 b9) := BW33_0.cell 9 rfl
  have cW33_0_10 : W33.cell? ⟨w.heap.size, 10, none⟩ = some (.int .u8 b10) := BW33_0.cell 10 rfl
  have cW33_0_11 : W33.cell? ⟨w.heap.size, 11, none⟩ = some (.int .u8 b11) := BW33_0.cell 11 rfl
  have cW33_0_12 : W33.cell? ⟨w.heap.size, 12, none⟩ = some (.int .u8 b12) := BW33_0.cell 12 rfl
  have cW33_0_13 : W33.cell? ⟨w.heap.size, 13, none⟩ = some (.int .u8 b13) := BW33_0.cell 13 rfl
  have cW33_0_14 : W33.cell? ⟨w.heap.size, 14, none⟩ = some (.int .u8 b14) := BW33_0.cell 14 rfl
  have cW33_0_15 : W33.cell? ⟨w.heap.size, 15, none⟩ = some (.int .u8 b15) := BW33_0.cell 15 rfl
  have fW33_0 := BW33_0.free
  have cW33_1_0 : W33.cell? ⟨w.heap.size + 1, 0, none⟩ = some (.int .u64 0) := BW33_1.cell 0 rfl
  have cW33_1_1 : W33.cell? ⟨w.heap.size + 1, 1, none⟩ = some (.int .u64 0) := BW33_1.cell 1 rfl
  have fW33_1 := BW33_1.free
  have cW33_2_0 : W33.cell? ⟨w.heap.size + 1 + 1, 0, none⟩ = some (.int .u64 v7) := BW33_2.cell 0 rfl
  have cW33_2_1 : W33.cell? ⟨w.heap.size + 1 + 1, 1, none⟩ = some (.int .u64 v15) := BW33_2.cell 1 rfl
  have fW33_2 := BW33_2.free
  go_wp2_with fail
  refine (HI.out _).mono ?_
  rintro e W34 ⟨rfl, hkW34⟩
  have kW34 := kW33.trans hkW34
  have BW34_0 := BW33_0.kept hkW34
  have BW34_1 := BW33_1.kept hkW34
  have BW34_2 := BW33_2.kept hkW34
  clear cW33_0_0 cW33_0_1 cW33_0_2 cW33_0_3 cW33_0_4 cW33_0_5 cW33_0_6 cW33_0_7 cW33_0_8 cW33_0_9 cW33_0_10 cW33_0_11 cW33_0_12 cW33_0_13 cW33_0_14 cW33_0_15 cW33_1_0 cW33_1_1 cW33_2_0 cW33_2_1 fW33_0 fW33_1 fW33_2 BW33_0 BW33_1 BW33_2 kW33 hkW34
  have cW34_0_0 : W34.cell? ⟨w.heap.size, 0, none⟩ = some (.int .u8 b0) := BW34_0.cell 0 rfl
  have cW34_0_1 : W34.cell? ⟨w.heap.size, 1, none⟩ = some (.int .u8 b1) := BW34_0.cell 1 rfl
  have cW34_0_2 : W34.cell? ⟨w.heap.size, 2, none⟩ = some (.int .u8 b2) := BW34_0.cell 2 rfl
  have cW34_0_3 : W34.cell? ⟨w.heap.size, 3, none⟩ = some (.int .u8 b3) := BW34_0.cell 3 rfl
  have cW34_0_4 : W34.cell? ⟨w.heap.size, 4, none⟩ = some (.int .u8 b4) := BW34_0.cell 4 rfl
  have cW34_0_5 : W34.cell? ⟨w.heap.size, 5, none⟩ = some (.int .u8 b5) := BW34_0.cell 5 rfl
  have cW34_0_6 : W34.cell? ⟨w.heap.size, 6, none⟩ = some (.int .u8 b6) := BW34_0.cell 6 rfl
  have cW34_0_7 : W34.cell? ⟨w.heap.size, 7, none⟩ = some (.int .u8 b7) := BW34_0.cell 7 rfl
  have cW34_0_8 : W34.cell? ⟨w.heap.size, 8, none⟩ = some (.int .u8 b8) := BW34_0.cell 8 rfl
  have cW34_0_9 : W34.cell? ⟨w.heap.size, 9, none⟩ = some (.int .u8 b9) := BW34_0.cell 9 rfl
  have cW34_0_10 : W34.cell? ⟨w.heap.size, 10, none⟩ = some (.int .u8 b10) := BW34_0.cell 10 rfl
  have cW34_0_11 : W34.cell? ⟨w.heap.size, 11, none⟩ = some (.int .u8 b11) := BW34_0.cell 11 rfl
  have cW34_0_12 : W34.cell? ⟨w.heap.size, 12, none⟩ = some (.int .u8 b12) := BW34_0.cell 12 rfl
  have cW34_0_13 : W34.cell? ⟨w.heap.size, 13, none⟩ = some (.int .u8 b13) := BW34_0.cell 13 rfl
  have cW34_0_14 : W34.cell? ⟨w.heap.size, 14, none⟩ = some (.int .u8 b14) := BW34_0.cell 14 rfl
  have cW34_0_15 : W34.cell? ⟨w.heap.size, 15, none⟩ = some (.int .u8 b15) := BW34_0.cell 15 rfl
  have fW34_0 := BW34_0.free
  have cW34_1_0 : W34.cell? ⟨w.heap.size + 1, 0, none⟩ = some (.int .u64 0) := BW34_1.cell 0 rfl
  have cW34_1_1 : W34.cell? ⟨w.heap.size + 1, 1, none⟩ = some (.int .u64 0) := BW34_1.cell 1 rfl
  have fW34_1 := BW34_1.free
  have cW34_2_0 : W34.cell? ⟨w.heap.size + 1 + 1, 0, none⟩ = some (.int .u64 v7) := BW34_2.cell 0 rfl
  have cW34_2_1 : W34.cell? ⟨w.heap.size + 1 + 1, 1, none⟩ = some (.int .u64 v15) := BW34_2.cell 1 rfl
  have fW34_2 := BW34_2.free
  go_wp2_with fail
  go_wp2_with fail
  refine bodyPost_ret (v := .tuple #[.agg #[.int .u64 v7, .int .u64 v15], .int .i64 0]) (by simp [results, Try.results57, go_sem, *]) rfl ⟨rfl, ?_⟩
  repeat (first | exact kW34 | (refine Kept.setCell ?_ (kept_side (by first | assumption | omega)) _) | apply Kept.alloc | apply Kept.drew)
end Go.Proofs.Ytnajihlhcdedgaa
