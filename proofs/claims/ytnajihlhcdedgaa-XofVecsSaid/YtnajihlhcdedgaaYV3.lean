/-
  Texts joined: WB3 GBytes WB4 K2 K3 K4 K5 K6 K10 K11 Frame M2 FV3 Mark5 FLx X1 X2 X6 X7 X8 X9 X13 K12 K13 K14 X4 X5 X14.
-/
import Derived.Test.YtnajihlhcdedgaaYV2
import Derived.Deep.Cut
import Derived.Outline
import Derived.Deep.LoopGhost
import Derived.Test.YtnajihlhcdedgaaRows
import Derived.WalkKit
import Derived.ProofKit
import Derived.OpenShut
import Derived.ShutString
import Derived.ChangeOld
import Derived.Below
import Derived.Laws.MakeOwn
import Derived.Lib.AppendStr
import Derived.Laws.AppendOwnNone
import Derived.Maps.AppendAt
import Derived.MapFrom
import Derived.Deep.RegionHeld3
import Derived.Deep.AppendLies
import Derived.Carry
import Derived.Deep.DrawnRows
import Derived.IntWalk
import Derived.Laws.CopyOwn
import Derived.RegionTactic
namespace Go.Proofs.Ytnajihlhcdedgaa
open Go.RowKit
set_option linter.unusedVariables false
set_option linter.unusedSimpArgs false
attribute [local simp] blkAt_setCell blkAt_alloc blkAt_drew Obj.put_cells
set_option maxRecDepth 100000 in
set_option maxHeartbeats 8000000 in
theorem wide_Take_no (b0 v0 b1 v1 b2 v2 b3 v3 b4 v4 b5 v5 b6 v6 b7 v7 b8 v8 b9 v9 b10 v10 b11 v11 b12 v12 b13 v13 b14 v14 b15 v15 : Int) (w : World) (l0 : 0 ≤ b0) (u0 : b0 ≤ 255) (l1 : 0 ≤ b1) (u1 : b1 ≤ 255) (l2 : 0 ≤ b2) (u2 : b2 ≤ 255) (l3 : 0 ≤ b3) (u3 : b3 ≤ 255) (l4 : 0 ≤ b4) (u4 : b4 ≤ 255) (l5 : 0 ≤ b5) (u5 : b5 ≤ 255) (l6 : 0 ≤ b6) (u6 : b6 ≤ 255) (l7 : 0 ≤ b7) (u7 : b7 ≤ 255) (l8 : 0 ≤ b8) (u8 : b8 ≤ 255) (l9 : 0 ≤ b9) (u9 : b9 ≤ 255) (l10 : 0 ≤ b10) (u10 : b10 ≤ 255) (l11 : 0 ≤ b11) (u11 : b11 ≤ 255) (l12 : 0 ≤ b12) (u12 : b12 ≤ 255) (l13 : 0 ≤ b13) (u13 : b13 ≤ 255) (l14 : 0 ≤ b14) (u14 : b14 ≤ 255) (l15 : 0 ≤ b15) (u15 : b15 ≤ 255)
    (o0 : bits .or .u64 0 b0 = v0) (o1 : bits .or .u64 v0 (b1 * 256) = v1) (o2 : bits .or .u64 v1 (b2 * 65536) = v2) (o3 : bits .or .u64 v2 (b3 * 16777216) = v3) (o4 : bits .or .u64 v3 (b4 * 4294967296) = v4) (o5 : bits .or .u64 v4 (b5 * 1099511627776) = v5) (o6 : bits .or .u64 v5 (b6 * 281474976710656) = v6) (o7 : bits .or .u64 v6 (b7 * 72057594037927936) = v7) (o8 : bits .or .u64 0 b8 = v8) (o9 : bits .or .u64 v8 (b9 * 256) = v9) (o10 : bits .or .u64 v9 (b10 * 65536) = v10) (o11 : bits .or .u64 v10 (b11 * 16777216) = v11) (o12 : bits .or .u64 v11 (b12 * 4294967296) = v12) (o13 : bits .or .u64 v12 (b13 * 1099511627776) = v13) (o14 : bits .or .u64 v13 (b14 * 281474976710656) = v14) (o15 : bits .or .u64 v14 (b15 * 72057594037927936) = v15) (HI : Hid (Pure Try.prog 49 #[.agg #[.int .u64 v7, .int .u64 v15]] (.bool false))) :
    Calls Try.prog 57 #[.agg #[.int .u8 b0, .int .u8 b1, .int .u8 b2, .int .u8 b3, .int .u8 b4, .int .u8 b5, .int .u8 b6, .int .u8 b7, .int .u8 b8, .int .u8 b9, .int .u8 b10, .int .u8 b11, .int .u8 b12, .int .u8 b13, .int .u8 b14, .int .u8 b15]] w fun e w' => e = .returned (.tuple #[.agg #[.int .u64 0, .int .u64 0], .int .i64 7]) ∧ Kept w w' := by
  have i0 : ∀ w, (Instr.index 54 (.agg #[.int .u8 b0, .int .u8 b1, .int .u8 b2, .int .u8 b3, .int .u8 b4, .int .u8 b5, .int .u8 b6, .int .u8 b7, .int .u8 b8, .int .u8 b9, .int .u8 b10, .int .u8 b11, .int .u8 b12, .int .u8 b13, .int .u8 b14, .int .u8 b15]) (.int .i64 0)).run Try.prog w = .ok (.int .u8 b0) w := fun _ => by kernel_rfl
  have i1 : ∀ w, (Instr.index 54 (.agg #[.int .u8 b0, .int .u8 b1, .int .u8 b2, .int .u8 b3, .int .u8 b4, .int .u8 b5, .int .u8 b6, .int .u8 b7, .int .u8 b8, .int .u8 b9, .int .u8 b10, .int .u8 b11, .int .u8 b12, .int .u8 b13, .int .u8 b14, .int .u8 b15]) (.int .i64 1)).run Try.prog w = .ok (.int .u8 b1) w := fun _ => by kernel_rfl
  have i2 : ∀ w, (Instr.index 54 (.agg #[.int .u8 b0, .int .u8 b1, .int .u8 b2, .int .u8 b3, .int .u8 b4, .int .u8 b5, .int .u8 b6, .int .u8 b7, .int .u8 b8, .int .u8 b9, .int .u8 b10, .int .u8 b11, .int .u8 b12, .int .u8 b13, .int .u8 b14, .int .u8 b15]) (.int .i64 2)).run Try.prog w = .ok (.int .u8 b2) w := fun _ => by kernel_rfl
  have i3 : ∀ w, (Instr.index 54 (.agg #[.int .u8 b0, .int .u8 b1, .int .u8 b2, .int .u8 b3, .int .u8 b4, .int .u8 b5, .int .u8 b6, .int .u8 b7, .int .u8 b8, .int .u8 b9, .int .u8 b10, .int .u8 b11, .int .u8 b12, .int .u8 b13, .int .u8 b14, .int .u8 b15]) (.int .i64 3)).run Try.prog w = .ok (.int .u8 b3) w := fun _ => by kernel_rfl
  have i4 : ∀ w, (Instr.index 54 (.agg #[.int .u8 b0, .int .u8 b1, .int .u8 b2, .int .u8 b3, .int .u8 b4, .int .u8 b5, .int .u8 b6, .int .u8 b7, .int .u8 b8, .int .u8 b9, .int .u8 b10, .int .u8 b11, .int .u8 b12, .int .u8 b13, .int .u8 b14, .int .u8 b15]) (.int .i64 4)).run Try.prog w = .ok (.int .u8 b4) w := fun _ => by kernel_rfl
  have i5 : ∀ w, (Instr.index 54 (.agg #[.int .u8 b0, .int .u8 b1, .int .u8 b2, .int .u8 b3, .int .u8 b4, .int .u8 b5, .int .u8 b6, .int .u8 b7, .int .u8 b8, .int .u8 b9, .int .u8 b10, .int .u8 b11, .int .u8 b12, .int .u8 b13, .int .u8 b14, .int .u8 b15]) (.int .i64 5)).run Try.prog w = .ok (.int .u8 b5) w := fun _ => by kernel_rfl
  have i6 : ∀ w, (Instr.index 54 (.agg #[.int .u8 b0, .int .u8 b1, .int .u8 b2, .int .u8 b3, .int .u8 b4, .int .u8 b5, .int .u8 b6, .int .u8 b7, .int .u8 b8, .int .u8 b9, .int .u8 b10, .int .u8 b11, .int .u8 b12, .int .u8 b13, .int .u8 b14, .int .u8 b15]) (.int .i64 6)).run Try.prog w = .ok (.int .u8 b6) w := fun _ => by kernel_rfl
  have i7 : ∀ w, (Instr.index 54 (.agg #[.int .u8 b0, .int .u8 b1, .int .u8 b2, .int .u8 b3, .int .u8 b4, .int .u8 b5, .int .u8 b6, .int .u8 b7, .int .u8 b8, .int .u8 b9, .int .u8 b10, .int .u8 b11, .int .u8 b12, .int .u8 b13, .int .u8 b14, .int .u8 b15]) (.int .i64 7)).run Try.prog w = .ok (.int .u8 b7) w := fun _ => by kernel_rfl
  have i8 : ∀ w, (Instr.index 54 (.agg #[.int .u8 b0, .int .u8 b1, .int .u8 b2, .int .u8 b3, .int .u8 b4, .int .u8 b5, .int .u8 b6, .int .u8 b7, .int .u8 b8, .int .u8 b9, .int .u8 b10, .int .u8 b11, .int .u8 b12, .int .u8 b13, .int .u8 b14, .int .u8 b15]) (.int .i64 8)).run Try.prog w = .ok (.int .u8 b8) w := fun _ => by kernel_rfl
  have i9 : ∀ w, (Instr.index 54 (.agg #[.int .u8 b0, .int .u8 b1, .int .u8 b2, .int .u8 b3, .int .u8 b4, .int .u8 b5, .int .u8 b6, .int .u8 b7, .int .u8 b8, .int .u8 b9, .int .u8 b10, .int .u8 b11, .int .u8 b12, .int .u8 b13, .int .u8 b14, .int .u8 b15]) (.int .i64 9)).run Try.prog w = .ok (.int .u8 b9) w := fun _ => by kernel_rfl
  have i10 : ∀ w, (Instr.index 54 (.agg #[.int .u8 b0, .int .u8 b1, .int .u8 b2, .int .u8 b3, .int .u8 b4, .int .u8 b5, .int .u8 b6, .int .u8 b7, .int .u8 b8, .int .u8 b9, .int .u8 b10, .int .u8 b11, .int .u8 b12, .int .u8 b13, .int .u8 b14, .int .u8 b15]) (.int .i64 10)).run Try.prog w = .ok (.int .u8 b10) w := fun _ => by kernel_rfl
  have i11 : ∀ w, (Instr.index 54 (.agg #[.int .u8 b0, .int .u8 b1, .int .u8 b2, .int .u8 b3, .int .u8 b4, .int .u8 b5, .int .u8 b6, .int .u8 b7, .int .u8 b8, .int .u8 b9, .int .u8 b10, .int .u8 b11, .int .u8 b12, .int .u8 b13, .int .u8 b14, .int .u8 b15]) (.int .i64 11)).run Try.prog w = .ok (.int .u8 b11) w := fun _ => by kernel_rfl
  have i12 : ∀ w, (Instr.index 54 (.agg #[.int .u8 b0, .int .u8 b1, .int .u8 b2, .int .u8 b3, .int .u8 b4, .int .u8 b5, .int .u8 b6, .int .u8 b7, .int .u8 b8, .int .u8 b9, .int .u8 b10, .int .u8 b11, .int .u8 b12, .int .u8 b13, .int .u8 b14, .int .u8 b15]) (.int .i64 12)).run Try.prog w = .ok (.int .u8 b12) w := fun _ => by kernel_rfl
  have i13 : ∀ w, (Instr.index 54 (.agg #[.int .u8 b0, .int .u8 b1, .int .u8 b2, .int .u8 b3, .int .u8 b4, .int .u8 b5, .int .u8 b6, .int .u8 b7, .int .u8 b8, .int .u8 b9, .int .u8 b10, .int .u8 b11, .int .u8 b12, .int .u8 b13, .int .u8 b14, .int .u8 b15]) (.int .i64 13)).run Try.prog w = .ok (.int .u8 b13) w := fun _ => by kernel_rfl
  have i14 : ∀ w, (Instr.index 54 (.agg #[.int .u8 b0, .int .u8 b1, .int .u8 b2, .int .u8 b3, .int .u8 b4, .int .u8 b5, .int .u8 b6, .int .u8 b7, .int .u8 b8, .int .u8 b9, .int .u8 b10, .int .u8 b11, .int .u8 b12, .int .u8 b13, .int .u8 b14, .int .u8 b15]) (.int .i64 14)).run Try.prog w = .ok (.int .u8 b14) w := fun _ => by kernel_rfl
  have i15 : ∀ w, (Instr.index 54 (.agg #[.int .u8 b0, .int .u8 b1, .int .u8 b2, .int .u8 b3, .int .u8 b4, .int .u8 b5, .int .u8 b6, .int .u8 b7, .int .u8 b8, .int .u8 b9, .int .u8 b10, .int .u8 b11, .int .u8 b12, .int .u8 b13, .int .u8 b14, .int .u8 b15]) (.int .i64 15)).run Try.prog w = .ok (.int .u8 b15) w := fun _ => by kernel_rfl
  have ne0_2 : w.heap.size ≠ w.heap.size + 1 + 1 := by omega
  have ne2_0 : w.heap.size + 1 + 1 ≠ w.heap.size := by omega
  go_enter Try.func57, Try.ntmps57
  go_wp2_with fail
  have zw0 : IntKind.i64.wrap 0 = 0 := by decide
  have zw1 : IntKind.i64.wrap 1 = 1 := by decide
  have zw2 : IntKind.i64.wrap 2 = 2 := by decide
  have zw3 : IntKind.i64.wrap 3 = 3 := by decide
  have zw4 : IntKind.i64.wrap 4 = 4 := by decide
  have zw5 : IntKind.i64.wrap 5 = 5 := by decide
  have zw6 : IntKind.i64.wrap 6 = 6 := by decide
  have zw7 : IntKind.i64.wrap 7 = 7 := by decide
  have zw8 : IntKind.i64.wrap 8 = 8 := by decide
  have zw16 : IntKind.i64.wrap 16 = 16 := by decide
  have zw24 : IntKind.i64.wrap 24 = 24 := by decide
  have zw32 : IntKind.i64.wrap 32 = 32 := by decide
  have zw40 : IntKind.i64.wrap 40 = 40 := by decide
  have zw48 : IntKind.i64.wrap 48 = 48 := by decide
  have zw56 : IntKind.i64.wrap 56 = 56 := by decide
  refine wp_loop_rounds 17 ?_
  rw [rounds_succ]
  refine abs_world (fun W => Kept w W ∧ Blk W (w.heap.size) 54 #[.int .u8 b0, .int .u8 b1, .int .u8 b2, .int .u8 b3, .int .u8 b4, .int .u8 b5, .int .u8 b6, .int .u8 b7, .int .u8 b8, .int .u8 b9, .int .u8 b10, .int .u8 b11, .int .u8 b12, .int .u8 b13, .int .u8 b14, .int .u8 b15] ∧ Blk W (w.heap.size + 1) 28 #[.int .u64 0, .int .u64 0] ∧ Blk W (w.heap.size + 1 + 1) 28 #[.int .u64 0, .int .u64 0]) ?_ ?_
  · refine ⟨?_, ?_, ?_, ?_⟩
    · repeat (first | exact Kept.refl _ | (refine Kept.setCell ?_ (kept_side (by first | assumption | omega)) _) | apply Kept.alloc | apply Kept.drew)
    · simp [Blk, *] <;> (intros; omega)
    · simp [Blk, *] <;> (intros; omega)
    · simp [Blk, *] <;> (intros; omega)
  rintro W1 ⟨kW1, BW1_0, BW1_1, BW1_2⟩
  have cW1_0_0 : W1.cell? ⟨w.heap.size, 0, none⟩ = some (.int .u8 b0) := BW1_0.cell 0 rfl
  have cW1_0_1 : W1.cell? ⟨w.heap.size, 1, none⟩ = some (.int .u8 b1) := BW1_0.cell 1 rfl
  have cW1_0_2 : W1.cell? ⟨w.heap.size, 2, none⟩ = some (.int .u8 b2) := BW1_0.cell 2 rfl
  have cW1_0_3 : W1.cell? ⟨w.heap.size, 3, none⟩ = some (.int .u8 b3) := BW1_0.cell 3 rfl
  have cW1_0_4 : W1.cell? ⟨w.heap.size, 4, none⟩ = some (.int .u8 b4) := BW1_0.cell 4 rfl
  have cW1_0_5 : W1.cell? ⟨w.heap.size, 5, none⟩ = some (.int .u8 b5) := BW1_0.cell 5 rfl
  have cW1_0_6 : W1.cell? ⟨w.heap.size, 6, none⟩ = some (.int .u8 b6) := BW1_0.cell 6 rfl
  have cW1_0_7 : W1.cell? ⟨w.heap.size, 7, none⟩ = some (.int .u8 b7) := BW1_0.cell 7 rfl
  have cW1_0_8 : W1.cell? ⟨w.heap.size, 8, none⟩ = some (.int .u8 b8) := BW1_0.cell 8 rfl
  have cW1_0_9 : W1.cell? ⟨w.heap.size, 9, none⟩ = some (.int .u8 b9) := BW1_0.cell 9 rfl
  have cW1_0_10 : W1.cell? ⟨w.heap.size, 10, none⟩ = some (.int .u8 b10) := BW1_0.cell 10 rfl
  have cW1_0_11 : W1.cell? ⟨w.heap.size, 11, none⟩ = some (.int .u8 b11) := BW1_0.cell 11 rfl
  have cW1_0_12 : W1.cell? ⟨w.heap.size, 12, none⟩ = some (.int .u8 b12) := BW1_0.cell 12 rfl
  have cW1_0_13 : W1.cell? ⟨w.heap.size, 13, none⟩ = some (.int .u8 b13) := BW1_0.cell 13 rfl
  have cW1_0_14 : W1.cell? ⟨w.heap.size, 14, none⟩ = some (.int .u8 b14) := BW1_0.cell 14 rfl
  have cW1_0_15 : W1.cell? ⟨w.heap.size, 15, none⟩ = some (.int .u8 b15) := BW1_0.cell 15 rfl
  have fW1_0 := BW1_0.free
  have cW1_1_0 : W1.cell? ⟨w.heap.size + 1, 0, none⟩ = some (.int .u64 0) := BW1_1.cell 0 rfl
  have cW1_1_1 : W1.cell? ⟨w.heap.size + 1, 1, none⟩ = some (.int .u64 0) := BW1_1.cell 1 rfl
  have fW1_1 := BW1_1.free
  have cW1_2_0 : W1.cell? ⟨w.heap.size + 1 + 1, 0, none⟩ = some (.int .u64 0) := BW1_2.cell 0 rfl
  have cW1_2_1 : W1.cell? ⟨w.heap.size + 1 + 1, 1, none⟩ = some (.int .u64 0) := BW1_2.cell 1 rfl
  have fW1_2 := BW1_2.free
  go_wp2_with fail
  refine wp_region_calm 12 (by kernel_rfl) (by kernel_rfl) ?_
  simp only [List.take_succ_cons, List.take_zero, List.drop_succ_cons, List.drop_zero]
  repeat (first
    | (refine calm_skip rfl ?_; simp only [Act.put, List.setIfInBounds_toArray, List.set_cons_zero, List.set_cons_succ])
    | (refine calm_ex rfl ?_; apply Exists.intro; refine And.intro (fun w' hk => ?_) ?_; (focus (have q0 := hk.cell cW1_0_0; have q1 := hk.cell cW1_0_1; have q2 := hk.cell cW1_0_2; have q3 := hk.cell cW1_0_3; have q4 := hk.cell cW1_0_4; have q5 := hk.cell cW1_0_5; have q6 := hk.cell cW1_0_6; have q7 := hk.cell cW1_0_7; have q8 := hk.cell cW1_0_8; have q9 := hk.cell cW1_0_9; have q10 := hk.cell cW1_0_10; have q11 := hk.cell cW1_0_11; have q12 := hk.cell cW1_0_12; have q13 := hk.cell cW1_0_13; have q14 := hk.cell cW1_0_14; have q15 := hk.cell cW1_0_15; have q16 := hk.cell cW1_1_0; have q17 := hk.cell cW1_1_1; have q18 := hk.cell cW1_2_0; have q19 := hk.cell cW1_2_1; clear hk; go_simp; exact rfl)); simp only [Act.put, List.setIfInBounds_toArray, List.set_cons_zero, List.set_cons_succ]))
  refine calm_nil ?_
  intro W2 hkW2
  have kW2 := kW1.trans hkW2
  have BW2_0 := BW1_0.kept hkW2
  have BW2_1 := BW1_1.kept hkW2
  have BW2_2 := BW1_2.kept hkW2
  clear cW1_0_0 cW1_0_1 cW1_0_2 cW1_0_3 cW1_0_4 cW1_0_5 cW1_0_6 cW1_0_7 cW1_0_8 cW1_0_9 cW1_0_10 cW1_0_11 cW1_0_12 cW1_0_13 cW1_0_14 cW1_0_15 cW1_1_0 cW1_1_1 cW1_2_0 cW1_2_1 fW1_0 fW1_1 fW1_2 BW1_0 BW1_1 BW1_2 kW1 hkW2
  have cW2_0_0 : W2.cell? ⟨w.heap.size, 0, none⟩ = some (.int .u8 b0) := BW2_0.cell 0 rfl
  have cW2_0_1 : W2.cell? ⟨w.heap.size, 1, none⟩ = some (.int .u8 b1) := BW2_0.cell 1 rfl
  have cW2_0_2 : W2.cell? ⟨w.heap.size, 2, none⟩ = some (.int .u8 b2) := BW2_0.cell 2 rfl
  have cW2_0_3 : W2.cell? ⟨w.heap.size, 3, none⟩ = some (.int .u8 b3) := BW2_0.cell 3 rfl
  have cW2_0_4 : W2.cell? ⟨w.heap.size, 4, none⟩ = some (.int .u8 b4) := BW2_0.cell 4 rfl
  have cW2_0_5 : W2.cell? ⟨w.heap.size, 5, none⟩ = some (.int .u8 b5) := BW2_0.cell 5 rfl
  have cW2_0_6 : W2.cell? ⟨w.heap.size, 6, none⟩ = some (.int .u8 b6) := BW2_0.cell 6 rfl
  have cW2_0_7 : W2.cell? ⟨w.heap.size, 7, none⟩ = some (.int .u8 b7) := BW2_0.cell 7 rfl
  have cW2_0_8 : W2.cell? ⟨w.heap.size, 8, none⟩ = some (.int .u8 b8) := BW2_0.cell 8 rfl
  have cW2_0_9 : W2.cell? ⟨w.heap.size, 9, none⟩ = some (.int .u8 b9) := BW2_0.cell 9 rfl
  have cW2_0_10 : W2.cell? ⟨w.heap.size, 10, none⟩ = some (.int .u8 b10) := BW2_0.cell 10 rfl
  have cW2_0_11 : W2.cell? ⟨w.heap.size, 11, none⟩ = some (.int .u8 b11) := BW2_0.cell 11 rfl
  have cW2_0_12 : W2.cell? ⟨w.heap.size, 12, none⟩ = some (.int .u8 b12) := BW2_0.cell 12 rfl
  have cW2_0_13 : W2.cell? ⟨w.heap.size, 13, none⟩ = some (.int .u8 b13) := BW2_0.cell 13 rfl
  have cW2_0_14 : W2.cell? ⟨w.heap.size, 14, none⟩ = some (.int .u8 b14) := BW2_0.cell 14 rfl
  have cW2_0_15 : W2.cell? ⟨w.heap.size, 15, none⟩ = some (.int .u8 b15) := BW2_0.cell 15 rfl
  have fW2_0 := BW2_0.free
  have cW2_1_0 : W2.cell? ⟨w.heap.size + 1, 0, none⟩ = some (.int .u64 0) := BW2_1.cell 0 rfl
  have cW2_1_1 : W2.cell? ⟨w.heap.size + 1, 1, none⟩ = some (.int .u64 0) := BW2_1.cell 1 rfl
  have fW2_1 := BW2_1.free
  have cW2_2_0 : W2.cell? ⟨w.heap.size + 1 + 1, 0, none⟩ = some (.int .u64 0) := BW2_2.cell 0 rfl
  have cW2_2_1 : W2.cell? ⟨w.heap.size + 1 + 1, 1, none⟩ = some (.int .u64 0) := BW2_2.cell 1 rfl
  have fW2_2 := BW2_2.free
  go_wp2_with fail
  rw [rounds_succ]
  refine abs_world (fun W => Kept w W ∧ Blk W (w.heap.size) 54 #[.int .u8 b0, .int .u8 b1, .int .u8 b2, .int .u8 b3, .int .u8 b4, .int .u8 b5, .int .u8 b6, .int .u8 b7, .int .u8 b8, .int .u8 b9, .int .u8 b10, .int .u8 b11, .int .u8 b12, .int .u8 b13, .int .u8 b14, .int .u8 b15] ∧ Blk W (w.heap.size + 1) 28 #[.int .u64 0, .int .u64 0] ∧ Blk W (w.heap.size + 1 + 1) 28 #[.int .u64 v0, .int .u64 0]) ?_ ?_
  · refine ⟨?_, ?_, ?_, ?_⟩
    · repeat (first | exact kW2 | (refine Kept.setCell ?_ (kept_side (by first | assumption | omega)) _) | apply Kept.alloc | apply Kept.drew)
    · simp [Blk, *] <;> (intros; omega)
    · simp [Blk, *] <;> (intros; omega)
    · simp [Blk, *] <;> (intros; omega)
  rintro W3 ⟨kW3, BW3_0, BW3_1, BW3_2⟩
  have cW3_0_0 : W3.cell? ⟨w.heap.size, 0, none⟩ = some (.int .u8 b0) := BW3_0.cell 0 rfl
  have cW3_0_1 : W3.cell? ⟨w.heap.size, 1, none⟩ = some (.int .u8 b1) := BW3_0.cell 1 rfl
  have cW3_0_2 : W3.cell? ⟨w.heap.size, 2, none⟩ = some (.int .u8 b2) := BW3_0.cell 2 rfl
  have cW3_0_3 : W3.cell? ⟨w.heap.size, 3, none⟩ = some (.int .u8 b3) := BW3_0.cell 3 rfl
  have cW3_0_4 : W3.cell? ⟨w.heap.size, 4, none⟩ = some (.int .u8 b4) := BW3_0.cell 4 rfl
  have cW3_0_5 : W3.cell? ⟨w.heap.size, 5, none⟩ = some (.int .u8 b5) := BW3_0.cell 5 rfl
  have cW3_0_6 : W3.cell? ⟨w.heap.size, 6, none⟩ = some (.int .u8 b6) := BW3_0.cell 6 rfl
  have cW3_0_7 : W3.cell? ⟨w.heap.size, 7, none⟩ = some (.int .u8 b7) := BW3_0.cell 7 rfl
  have cW3_0_8 : W3.cell? ⟨w.heap.size, 8, none⟩ = some (.int .u8 b8) := BW3_0.cell 8 rfl
  have cW3_0_9 : W3.cell? ⟨w.heap.size, 9, none⟩ = some (.int .u8 b9) := BW3_0.cell 9 rfl
  have cW3_0_10 : W3.cell? ⟨w.heap.size, 10, none⟩ = some (.int .u8 b10) := BW3_0.cell 10 rfl
  have cW3_0_11 : W3.cell? ⟨w.heap.size, 11, none⟩ = some (.int .u8 b11) := BW3_0.cell 11 rfl
  have cW3_0_12 : W3.cell? ⟨w.heap.size, 12, none⟩ = some (.int .u8 b12) := BW3_0.cell 12 rfl
  have cW3_0_13 : W3.cell? ⟨w.heap.size, 13, none⟩ = some (.int .u8 b13) := BW3_0.cell 13 rfl
  have cW3_0_14 : W3.cell? ⟨w.heap.size, 14, none⟩ = some (.int .u8 b14) := BW3_0.cell 14 rfl
  have cW3_0_15 : W3.cell? ⟨w.heap.size, 15, none⟩ = some (.int .u8 b15) := BW3_0.cell 15 rfl
  have fW3_0 := BW3_0.free
  have cW3_1_0 : W3.cell? ⟨w.heap.size + 1, 0, none⟩ = some (.int .u64 0) := BW3_1.cell 0 rfl
  have cW3_1_1 : W3.cell? ⟨w.heap.size + 1, 1, none⟩ = some (.int .u64 0) := BW3_1.cell 1 rfl
  have fW3_1 := BW3_1.free
  have cW3_2_0 : W3.cell? ⟨w.heap.size + 1 + 1, 0, none⟩ = some (.int .u64 v0) := BW3_2.cell 0 rfl
  have cW3_2_1 : W3.cell? ⟨w.heap.size + 1 + 1, 1, none⟩ = some (.int .u64 0) := BW3_2.cell 1 rfl
  have fW3_2 := BW3_2.free
  go_wp2_with fail
  refine wp_region_calm 12 (by kernel_rfl) (by kernel_rfl) ?_
  simp only [List.take_succ_cons, List.take_zero, List.drop_succ_cons, List.drop_zero]
  repeat (first
    | (refine calm_skip rfl ?_; simp only [Act.put, List.setIfInBounds_toArray, List.set_cons_zero, List.set_cons_succ])
    | (refine calm_ex rfl ?_; apply Exists.intro; refine And.intro (fun w' hk => ?_) ?_; (focus (have q0 := hk.cell cW3_0_0; have q1 := hk.cell cW3_0_1; have q2 := hk.cell cW3_0_2; have q3 := hk.cell cW3_0_3; have q4 := hk.cell cW3_0_4; have q5 := hk.cell cW3_0_5; have q6 := hk.cell cW3_0_6; have q7 := hk.cell cW3_0_7; have q8 := hk.cell cW3_0_8; have q9 := hk.cell cW3_0_9; have q10 := hk.cell cW3_0_10; have q11 := hk.cell cW3_0_11; have q12 := hk.cell cW3_0_12; have q13 := hk.cell cW3_0_13; have q14 := hk.cell cW3_0_14; have q15 := hk.cell cW3_0_15; have q16 := hk.cell cW3_1_0; have q17 := hk.cell cW3_1_1; have q18 := hk.cell cW3_2_0; have q19 := hk.cell cW3_2_1; clear hk; go_simp; exact rfl)); simp only [Act.put, List.setIfInBounds_toArray, List.set_cons_zero, List.set_cons_succ]))
  refine calm_nil ?_
  intro W4 hkW4
  have kW4 := kW3.trans hkW4
  have BW4_0 := BW3_0.kept hkW4
  have BW4_1 := BW3_1.kept hkW4
  have BW4_2 := BW3_2.kept hkW4
  clear cW3_0_0 cW3_0_1 cW3_0_2 cW3_0_3 cW3_0_4 cW3_0_5 cW3_0_6 cW3_0_7 cW3_0_8 cW3_0_9 cW3_0_10 cW3_0_11 cW3_0_12 cW3_0_13 cW3_0_14 cW3_0_15 cW3_1_0 cW3_1_1 cW3_2_0 cW3_2_1 fW3_0 fW3_1 fW3_2 BW3_0 BW3_1 BW3_2 kW3 hkW4
  have cW4_0_0 : W4.cell? ⟨w.heap.size, 0, none⟩ = some (.int .u8 b0) := BW4_0.cell 0 rfl
  have cW4_0_1 : W4.cell? ⟨w.heap.size, 1, none⟩ = some (.int .u8 b1) := BW4_0.cell 1 rfl
  have cW4_0_2 : W4.cell? ⟨w.heap.size, 2, none⟩ = some (.int .u8 b2) := BW4_0.cell 2 rfl
  have cW4_0_3 : W4.cell? ⟨w.heap.size, 3, none⟩ = some (.int .u8 b3) := BW4_0.cell 3 rfl
  have cW4_0_4 : W4.cell? ⟨w.heap.size, 4, none⟩ = some (.int .u8 b4) := BW4_0.cell 4 rfl
  have cW4_0_5 : W4.cell? ⟨w.heap.size, 5, none⟩ = some (.int .u8 b5) := BW4_0.cell 5 rfl
  have cW4_0_6 : W4.cell? ⟨w.heap.size, 6, none⟩ = some (.int .u8 b6) := BW4_0.cell 6 rfl
  have cW4_0_7 : W4.cell? ⟨w.heap.size, 7, none⟩ = some (.int .u8 b7) := BW4_0.cell 7 rfl
  have cW4_0_8 : W4.cell? ⟨w.heap.size, 8, none⟩ = some (.int .u8 b8) := BW4_0.cell 8 rfl
  have cW4_0_9 : W4.cell? ⟨w.heap.size, 9, none⟩ = some (.int .u8 b9) := BW4_0.cell 9 rfl
  have cW4_0_10 : W4.cell? ⟨w.heap.size, 10, none⟩ = some (.int .u8 b10) := BW4_0.cell 10 rfl
  have cW4_0_11 : W4.cell? ⟨w.heap.size, 11, none⟩ = some (.int .u8 b11) := BW4_0.cell 11 rfl
  have cW4_0_12 : W4.cell? ⟨w.heap.size, 12, none⟩ = some (.int .u8 b12) := BW4_0.cell 12 rfl
  have cW4_0_13 : W4.cell? ⟨w.heap.size, 13, none⟩ = some (.int .u8 b13) := BW4_0.cell 13 rfl
  have cW4_0_14 : W4.cell? ⟨w.heap.size, 14, none⟩ = some (.int .u8 b14) := BW4_0.cell 14 rfl
  have cW4_0_15 : W4.cell? ⟨w.heap.size, 15, none⟩ = some (.int .u8 b15) := BW4_0.cell 15 rfl
  have fW4_0 := BW4_0.free
  have cW4_1_0 : W4.cell? ⟨w.heap.size + 1, 0, none⟩ = some (.int .u64 0) := BW4_1.cell 0 rfl
  have cW4_1_1 : W4.cell? ⟨w.heap.size + 1, 1, none⟩ = some (.int .u64 0) := BW4_1.cell 1 rfl
  have fW4_1 := BW4_1.free
  have cW4_2_0 : W4.cell? ⟨w.heap.size + 1 + 1, 0, none⟩ = some (.int .u64 v0) := BW4_2.cell 0 rfl
  have cW4_2_1 : W4.cell? ⟨w.heap.size + 1 + 1, 1, none⟩ = some (.int .u64 0) := BW4_2.cell 1 rfl
  have fW4_2 := BW4_2.free
  go_wp2_with fail
  rw [rounds_succ]
  refine abs_world (fun W => Kept w W ∧ Blk W (w.heap.size) 54 #[.int .u8 b0, .int .u8 b1, .int .u8 b2, .int .u8 b3, .int .u8 b4, .int .u8 b5, .int .u8 b6, .int .u8 b7, .int .u8 b8, .int .u8 b9, .int .u8 b10, .int .u8 b11, .int .u8 b12, .int .u8 b13, .int .u8 b14, .int .u8 b15] ∧ Blk W (w.heap.size + 1) 28 #[.int .u64 0, .int .u64 0] ∧ Blk W (w.heap.size + 1 + 1) 28 #[.int .u64 v1, .int .u64 0]) ?_ ?_
  · refine ⟨?_, ?_, ?_, ?_⟩
    · repeat (first | exact kW4 | (refine Kept.setCell ?_ (kept_side (by first | assumption | omega)) _) | apply Kept.alloc | apply Kept.drew)
    · simp [Blk, *] <;> (intros; omega)
    · simp [Blk, *] <;> (intros; omega)
    · simp [Blk, *] <;> (intros; omega)
  rintro W5 ⟨kW5, BW5_0, BW5_1, BW5_2⟩
  have cW5_0_0 : W5.cell? ⟨w.heap.size, 0, none⟩ = some (.int .u8 b0) := BW5_0.cell 0 rfl
  have cW5_0_1 : W5.cell? ⟨w.heap.size, 1, none⟩ = some (.int .u8 b1) := BW5_0.cell 1 rfl
  have cW5_0_2 : W5.cell? ⟨w.heap.size, 2, none⟩ = some (.int .u8 b2) := BW5_0.cell 2 rfl
  have cW5_0_3 : W5.cell? ⟨w.heap.size, 3, none⟩ = some (.int .u8 b3) := BW5_0.cell 3 rfl
  have cW5_0_4 : W5.cell? ⟨w.heap.size, 4, none⟩ = some (.int .u8 b4) := BW5_0.cell 4 rfl
  have cW5_0_5 : W5.cell? ⟨w.heap.size, 5, none⟩ = some (.int .u8 b5) := BW5_0.cell 5 rfl
  have cW5_0_6 : W5.cell? ⟨w.heap.size, 6, none⟩ = some (.int .u8 b6) := BW5_0.cell 6 rfl
  have cW5_0_7 : W5.cell? ⟨w.heap.size, 7, none⟩ = some (.int .u8 b7) := BW5_0.cell 7 rfl
  have cW5_0_8 : W5.cell? ⟨w.heap.size, 8, none⟩ = some (.int .u8 b8) := BW5_0.cell 8 rfl
  have cW5_0_9 : W5.cell? ⟨w.heap.size, 9, none⟩ = some (.int .u8 b9) := BW5_0.cell 9 rfl
  have cW5_0_10 : W5.cell? ⟨w.heap.size, 10, none⟩ = some (.int .u8 b10) := BW5_0.cell 10 rfl
  have cW5_0_11 : W5.cell? ⟨w.heap.size, 11, none⟩ = some (.int .u8 b11) := BW5_0.cell 11 rfl
  have cW5_0_12 : W5.cell? ⟨w.heap.size, 12, none⟩ = some (.int .u8 b12) := BW5_0.cell 12 rfl
  have cW5_0_13 : W5.cell? ⟨w.heap.size, 13, none⟩ = some (.int .u8 b13) := BW5_0.cell 13 rfl
  have cW5_0_14 : W5.cell? ⟨w.heap.size, 14, none⟩ = some (.int .u8 b14) := BW5_0.cell 14 rfl
  have cW5_0_15 : W5.cell? ⟨w.heap.size, 15, none⟩ = some (.int .u8 b15) := BW5_0.cell 15 rfl
  have fW5_0 := BW5_0.free
  have cW5_1_0 : W5.cell? ⟨w.heap.size + 1, 0, none⟩ = some (.int .u64 0) := BW5_1.cell 0 rfl
  have cW5_1_1 : W5.cell? ⟨w.heap.size + 1, 1, none⟩ = some (.int .u64 0) := BW5_1.cell 1 rfl
  have fW5_1 := BW5_1.free
  have cW5_2_0 : W5.cell? ⟨w.heap.size + 1 + 1, 0, none⟩ = some (.int .u64 v1) := BW5_2.cell 0 rfl
  have cW5_2_1 : W5.cell? ⟨w.heap.size + 1 + 1, 1, none⟩ = some (.int .u64 0) := BW5_2.cell 1 rfl
  have fW5_2 := BW5_2.free
  go_wp2_with fail
  refine wp_region_calm 12 (by kernel_rfl) (by kernel_rfl) ?_
  simp only [List.take_succ_cons, List.take_zero, List.drop_succ_cons, List.drop_zero]
  repeat (first
    | (refine calm_skip rfl ?_; simp only [Act.put, List.setIfInBounds_toArray, List.set_cons_zero, List.set_cons_succ])
    | (refine calm_ex rfl ?_; apply Exists.intro; refine And.intro (fun w' hk => ?_) ?_; (focus (have q0 := hk.cell cW5_0_0; have q1 := hk.cell cW5_0_1; have q2 := hk.cell cW5_0_2; have q3 := hk.cell cW5_0_3; have q4 := hk.cell cW5_0_4; have q5 := hk.cell cW5_0_5; have q6 := hk.cell cW5_0_6; have q7 := hk.cell cW5_0_7; have q8 := hk.cell cW5_0_8; have q9 := hk.cell cW5_0_9; have q10 := hk.cell cW5_0_10; have q11 := hk.cell cW5_0_11; have q12 := hk.cell cW5_0_12; have q13 := hk.cell cW5_0_13; have q14 := hk.cell cW5_0_14; have q15 := hk.cell cW5_0_15; have q16 := hk.cell cW5_1_0; have q17 := hk.cell cW5_1_1; have q18 := hk.cell cW5_2_0; have q19 := hk.cell cW5_2_1; clear hk; go_simp; exact rfl)); simp only [Act.put, List.setIfInBounds_toArray, List.set_cons_zero, List.set_cons_succ]))
  refine calm_nil ?_
  intro W6 hkW6
  have kW6 := kW5.trans hkW6
  have BW6_0 := BW5_0.kept hkW6
  have BW6_1 := BW5_1.kept hkW6
  have BW6_2 := BW5_2.kept hkW6
  clear cW5_0_0 cW5_0_1 cW5_0_2 cW5_0_3 cW5_0_4 cW5_0_5 cW5_0_6 cW5_0_7 cW5_0_8 cW5_0_9 cW5_0_10 cW5_0_11 cW5_0_12 cW5_0_13 cW5_0_14 cW5_0_15 cW5_1_0 cW5_1_1 cW5_2_0 cW5_2_1 fW5_0 fW5_1 fW5_2 BW5_0 BW5_1 BW5_2 kW5 hkW6
  have cW6_0_0 : W6.cell? ⟨w.heap.size, 0, none⟩ = some (.int .u8 b0) := BW6_0.cell 0 rfl
  have cW6_0_1 : W6.cell? ⟨w.heap.size, 1, none⟩ = some (.int .u8 b1) := BW6_0.cell 1 rfl
  have cW6_0_2 : W6.cell? ⟨w.heap.size, 2, none⟩ = some (.int .u8 b2) := BW6_0.cell 2 rfl
  have cW6_0_3 : W6.cell? ⟨w.heap.size, 3, none⟩ = some (.int .u8 b3) := BW6_0.cell 3 rfl
  have cW6_0_4 : W6.cell? ⟨w.heap.size, 4, none⟩ = some (.int .u8 b4) := BW6_0.cell 4 rfl
  have cW6_0_5 : W6.cell? ⟨w.heap.size, 5, none⟩ = some (.int .u8 b5) := BW6_0.cell 5 rfl
  have cW6_0_6 : W6.cell? ⟨w.heap.size, 6, none⟩ = some (.int .u8 b6) := BW6_0.cell 6 rfl
  have cW6_0_7 : W6.cell? ⟨w.heap.size, 7, none⟩ = some (.int .u8 b7) := BW6_0.cell 7 rfl
  have cW6_0_8 : W6.cell? ⟨w.heap.size, 8, none⟩ = some (.int .u8 b8) := BW6_0.cell 8 rfl
  have cW6_0_9 : W6.cell? ⟨w.heap.size, 9, none⟩ = some (.int .u8 b9) := BW6_0.cell 9 rfl
  have cW6_0_10 : W6.cell? ⟨w.heap.size, 10, none⟩ = some (.int .u8 b10) := BW6_0.cell 10 rfl
  have cW6_0_11 : W6.cell? ⟨w.heap.size, 11, none⟩ = some (.int .u8 b11) := BW6_0.cell 11 rfl
  have cW6_0_12 : W6.cell? ⟨w.heap.size, 12, none⟩ = some (.int .u8 b12) := BW6_0.cell 12 rfl
  have cW6_0_13 : W6.cell? ⟨w.heap.size, 13, none⟩ = some (.int .u8 b13) := BW6_0.cell 13 rfl
  have cW6_0_14 : W6.cell? ⟨w.heap.size, 14, none⟩ = some (.int .u8 b14) := BW6_0.cell 14 rfl
  have cW6_0_15 : W6.cell? ⟨w.heap.size, 15, none⟩ = some (.int .u8 b15) := BW6_0.cell 15 rfl
  have fW6_0 := BW6_0.free
  have cW6_1_0 : W6.cell? ⟨w.heap.size + 1, 0, none⟩ = some (.int .u64 0) := BW6_1.cell 0 rfl
  have cW6_1_1 : W6.cell? ⟨w.heap.size + 1, 1, none⟩ = some (.int .u64 0) := BW6_1.cell 1 rfl
  have fW6_1 := BW6_1.free
  have cW6_2_0 : W6.cell? ⟨w.heap.size + 1 + 1, 0, none⟩ = some (.int .u64 v1) := BW6_2.cell 0 rfl
  have cW6_2_1 : W6.cell? ⟨w.heap.size + 1 + 1, 1, none⟩ = some (.int .u64 0) := BW6_2.cell 1 rfl
  have fW6_2 := BW6_2.free
  go_wp2_with fail
  rw [rounds_succ]
  refine abs_world (fun W => Kept w W ∧ Blk W (w.heap.size) 54 #[.int .u8 b0, .int .u8 b1, .int .u8 b2, .int .u8 b3, .int .u8 b4, .int .u8 b5, .int .u8 b6, .int .u8 b7, .int .u8 b8, .int .u8 b9, .int .u8 b10, .int .u8 b11, .int .u8 b12, .int .u8 b13, .int .u8 b14, .int .u8 b15] ∧ Blk W (w.heap.size + 1) 28 #[.int .u64 0, .int .u64 0] ∧ Blk W (w.heap.size + 1 + 1) 28 #[.int .u64 v2, .int .u64 0]) ?_ ?_
  · refine ⟨?_, ?_, ?_, ?_⟩
    · repeat (first | exact kW6 | (refine Kept.setCell ?_ (kept_side (by first | assumption | omega)) _) | apply Kept.alloc | apply Kept.drew)
    · simp [Blk, *] <;> (intros; omega)
    · simp [Blk, *] <;> (intros; omega)
    · simp [Blk, *] <;> (intros; omega)
  rintro W7 ⟨kW7, BW7_0, BW7_1, BW7_2⟩
  have cW7_0_0 : W7.cell? ⟨w.heap.size, 0, none⟩ = some (.int .u8 b0) := BW7_0.cell 0 rfl
  have cW7_0_1 : W7.cell? ⟨w.heap.size, 1, none⟩ = some (.int .u8 b1) := BW7_0.cell 1 rfl
  have cW7_0_2 : W7.cell? ⟨w.heap.size, 2, none⟩ = some (.int .u8 b2) := BW7_0.cell 2 rfl
  have cW7_0_3 : W7.cell? ⟨w.heap.size, 3, none⟩ = some (.int .u8 b3) := BW7_0.cell 3 rfl
  have cW7_0_4 : W7.cell? ⟨w.heap.size, 4, none⟩ = some (.int .u8 b4) := BW7_0.cell 4 rfl
  have cW7_0_5 : W7.cell? ⟨w.heap.size, 5, none⟩ = some (.int .u8 b5) := BW7_0.cell 5 rfl
  have cW7_0_6 : W7.cell? ⟨w.heap.size, 6, none⟩ = some (.int .u8 b6) := BW7_0.cell 6 rfl
  have cW7_0_7 : W7.cell? ⟨w.heap.size, 7, none⟩ = some (.int .u8 b7) := BW7_0.cell 7 rfl
  have cW7_0_8 : W7.cell? ⟨w.heap.size, 8, none⟩ = some (.int .u8 b8) := BW7_0.cell 8 rfl
  have cW7_0_9 : W7.cell? ⟨w.heap.size, 9, none⟩ = some (.int .u8 b9) := BW7_0.cell 9 rfl
  have cW7_0_10 : W7.cell? ⟨w.heap.size, 10, none⟩ = some (.int .u8 b10) := BW7_0.cell 10 rfl
  have cW7_0_11 : W7.cell? ⟨w.heap.size, 11, none⟩ = some (.int .u8 b11) := BW7_0.cell 11 rfl
  have cW7_0_12 : W7.cell? ⟨w.heap.size, 12, none⟩ = some (.int .u8 b12) := BW7_0.cell 12 rfl
  have cW7_0_13 : W7.cell? ⟨w.heap.size, 13, none⟩ = some (.int .u8 b13) := BW7_0.cell 13 rfl
  have cW7_0_14 : W7.cell? ⟨w.heap.size, 14, none⟩ = some (.int .u8 b14) := BW7_0.cell 14 rfl
  have cW7_0_15 : W7.cell? ⟨w.heap.size, 15, none⟩ = some (.int .u8 b15) := BW7_0.cell 15 rfl
  have fW7_0 := BW7_0.free
  have cW7_1_0 : W7.cell? ⟨w.heap.size + 1, 0, none⟩ = some (.int .u64 0) := BW7_1.cell 0 rfl
  have cW7_1_1 : W7.cell? ⟨w.heap.size + 1, 1, none⟩ = some (.int .u64 0) := BW7_1.cell 1 rfl
  have fW7_1 := BW7_1.free
  have cW7_2_0 : W7.cell? ⟨w.heap.size + 1 + 1, 0, none⟩ = some (.int .u64 v2) := BW7_2.cell 0 rfl
  have cW7_2_1 : W7.cell? ⟨w.heap.size + 1 + 1, 1, none⟩ = some (.int .u64 0) := BW7_2.cell 1 rfl
  have fW7_2 := BW7_2.free
  go_wp2_with fail
  refine wp_region_calm 12 (by kernel_rfl) (by kernel_rfl) ?_
  simp only [List.take_succ_cons, List.take_zero, List.drop_succ_cons, List.drop_zero]
  repeat (first
    | (refine calm_skip rfl ?_; simp only [Act.put, List.setIfInBounds_toArray, List.set_cons_zero, List.set_cons_succ])
    | (refine calm_ex rfl ?_; apply Exists.intro; refine And.intro (fun w' hk => ?_) ?_; (focus (have q0 := hk.cell cW7_0_0; have q1 := hk.cell cW7_0_1; have q2 := hk.cell cW7_0_2; have q3 := hk.cell cW7_0_3; have q4 := hk.cell cW7_0_4; have q5 := hk.cell cW7_0_5; have q6 := hk.cell cW7_0_6; have q7 := hk.cell cW7_0_7; have q8 := hk.cell cW7_0_8; have q9 := hk.cell cW7_0_9; have q10 := hk.cell cW7_0_10; have q11 := hk.cell cW7_0_11; have q12 := hk.cell cW7_0_12; have q13 := hk.cell cW7_0_13; have q14 := hk.cell cW7_0_14; have q15 := hk.cell cW7_0_15; have q16 := hk.cell cW7_1_0; have q17 := hk.cell cW7_1_1; have q18 := hk.cell cW7_2_0; have q19 := hk.cell cW7_2_1; clear hk; go_simp; exact rfl)); simp only [Act.put, List.setIfInBounds_toArray, List.set_cons_zero, List.set_cons_succ]))
  refine calm_nil ?_
  intro W8 hkW8
  have kW8 := kW7.trans hkW8
  have BW8_0 := BW7_0.kept hkW8
  have BW8_1 := BW7_1.kept hkW8
  have BW8_2 := BW7_2.kept hkW8
  clear cW7_0_0 cW7_0_1 cW7_0_2 cW7_0_3 cW7_0_4 cW7_0_5 cW7_0_6 cW7_0_7 cW7_0_8 cW7_0_9 cW7_0_10 cW7_0_11 cW7_0_12 cW7_0_13 cW7_0_14 cW7_0_15 cW7_1_0 cW7_1_1 cW7_2_0 cW7_2_1 fW7_0 fW7_1 fW7_2 BW7_0 BW7_1 BW7_2 kW7 hkW8
  have cW8_0_0 : W8.cell? ⟨w.heap.size, 0, none⟩ = some (.int .u8 b0) := BW8_0.cell 0 rfl
  have cW8_0_1 : W8.cell? ⟨w.heap.size, 1, none⟩ = some (.int .u8 b1) := BW8_0.cell 1 rfl
  have cW8_0_2 : W8.cell? ⟨w.heap.size, 2, none⟩ = some (.int .u8 b2) := BW8_0.cell 2 rfl
  have cW8_0_3 : W8.cell? ⟨w.heap.size, 3, none⟩ = some (.int .u8 b3) := BW8_0.cell 3 rfl
  have cW8_0_4 : W8.cell? ⟨w.heap.size, 4, none⟩ = some (.int .u8 b4) := BW8_0.cell 4 rfl
  have cW8_0_5 : W8.cell? ⟨w.heap.size, 5, none⟩ = some (.int .u8 b5) := BW8_0.cell 5 rfl
  have cW8_0_6 : W8.cell? ⟨w.heap.size, 6, none⟩ = some (.int .u8 b6) := BW8_0.cell 6 rfl
  have cW8_0_7 : W8.cell? ⟨w.heap.size, 7, none⟩ = some (.int .u8 b7) := BW8_0.cell 7 rfl
  have cW8_0_8 : W8.cell? ⟨w.heap.size, 8, none⟩ = some (.int .u8 b8) := BW8_0.cell 8 rfl
  have cW8_0_9 : W8.cell? ⟨w.heap.size, 9, none⟩ = some (.int .u8 b9) := BW8_0.cell 9 rfl
  have cW8_0_10 : W8.cell? ⟨w.heap.size, 10, none⟩ = some (.int .u8 b10) := BW8_0.cell 10 rfl
  have cW8_0_11 : W8.cell? ⟨w.heap.size, 11, none⟩ = some (.int .u8 b11) := BW8_0.cell 11 rfl
  have cW8_0_12 : W8.cell? ⟨w.heap.size, 12, none⟩ = some (.int .u8 b12) := BW8_0.cell 12 rfl
  have cW8_0_13 : W8.cell? ⟨w.heap.size, 13, none⟩ = some (.int .u8 b13) := BW8_0.cell 13 rfl
  have cW8_0_14 : W8.cell? ⟨w.heap.size, 14, none⟩ = some (.int .u8 b14) := BW8_0.cell 14 rfl
  have cW8_0_15 : W8.cell? ⟨w.heap.size, 15, none⟩ = some (.int .u8 b15) := BW8_0.cell 15 rfl
  have fW8_0 := BW8_0.free
  have cW8_1_0 : W8.cell? ⟨w.heap.size + 1, 0, none⟩ = some (.int .u64 0) := BW8_1.cell 0 rfl
  have cW8_1_1 : W8.cell? ⟨w.heap.size + 1, 1, none⟩ = some (.int .u64 0) := BW8_1.cell 1 rfl
  have fW8_1 := BW8_1.free
  have cW8_2_0 : W8.cell? ⟨w.heap.size + 1 + 1, 0, none⟩ = some (.int .u64 v2) := BW8_2.cell 0 rfl
  have cW8_2_1 : W8.cell? ⟨w.heap.size + 1 + 1, 1, none⟩ = some (.int .u64 0) := BW8_2.cell 1 rfl
  have fW8_2 := BW8_2.free
  go_wp2_with fail
  rw [rounds_succ]
  refine abs_world (fun W => Kept w W ∧ Blk W (w.heap.size) 54 #[.int .u8 b0, .int .u8 b1, .int .u8 b2, .int .u8 b3, .int .u8 b4, .int .u8 b5, .int .u8 b6, .int .u8 b7, .int .u8 b8, .int .u8 b9, .int .u8 b10, .int .u8 b11, .int .u8 b12, .int .u8 b13, .int .u8 b14, .int .u8 b15] ∧ Blk W (w.heap.size + 1) 28 #[.int .u64 0, .int .u64 0] ∧ Blk W (w.heap.size + 1 + 1) 28 #[.int .u64 v3, .int .u64 0]) ?_ ?_
  · refine ⟨?_, ?_, ?_, ?_⟩
    · repeat (first | exact kW8 | (refine Kept.setCell ?_ (kept_side (by first | assumption | omega)) _) | apply Kept.alloc | apply Kept.drew)
    · simp [Blk, *] <;> (intros; omega)
    · simp [Blk, *] <;> (intros; omega)
    · simp [Blk, *] <;> (intros; omega)
  rintro W9 ⟨kW9, BW9_0, BW9_1, BW9_2⟩
  have cW9_0_0 : W9.cell? ⟨w.heap.size, 0, none⟩ = some (.int .u8 b0) := BW9_0.cell 0 rfl
  have cW9_0_1 : W9.cell? ⟨w.heap.size, 1, none⟩ = some (.int .u8 b1) := BW9_0.cell 1 rfl
  have cW9_0_2 : W9.cell? ⟨w.heap.size, 2, none⟩ = some (.int .u8 b2) := BW9_0.cell 2 rfl
  have cW9_0_3 : W9.cell? ⟨w.heap.size, 3, none⟩ = some (.int .u8 b3) := BW9_0.cell 3 rfl
  have cW9_0_4 : W9.cell? ⟨w.heap.size, 4, none⟩ = some (.int .u8 b4) := BW9_0.cell 4 rfl
  have cW9_0_5 : W9.cell? ⟨w.heap.size, 5, none⟩ = some (.int .u8 b5) := BW9_0.cell 5 rfl
  have cW9_0_6 : W9.cell? ⟨w.heap.size, 6, none⟩ = some (.int .u8 b6) := BW9_0.cell 6 rfl
  have cW9_0_7 : W9.cell? ⟨w.heap.size, 7, none⟩ = some (.int .u8 b7) := BW9_0.cell 7 rfl
  have cW9_0_8 : W9.cell? ⟨w.heap.size, 8, none⟩ = some (.int .u8 b8) := BW9_0.cell 8 rfl
  have cW9_0_9 : W9.cell? ⟨w.heap.size, 9, none⟩ = some (.int .u8 b9) := BW9_0.cell 9 rfl
  have cW9_0_10 : W9.cell? ⟨w.heap.size, 10, none⟩ = some (.int .u8 b10) := BW9_0.cell 10 rfl
  have cW9_0_11 : W9.cell? ⟨w.heap.size, 11, none⟩ = some (.int .u8 b11) := BW9_0.cell 11 rfl
  have cW9_0_12 : W9.cell? ⟨w.heap.size, 12, none⟩ = some (.int .u8 b12) := BW9_0.cell 12 rfl
  have cW9_0_13 : W9.cell? ⟨w.heap.size, 13, none⟩ = some (.int .u8 b13) := BW9_0.cell 13 rfl
  have cW9_0_14 : W9.cell? ⟨w.heap.size, 14, none⟩ = some (.int .u8 b14) := BW9_0.cell 14 rfl
  have cW9_0_15 : W9.cell? ⟨w.heap.size, 15, none⟩ = some (.int .u8 b15) := BW9_0.cell 15 rfl
  have fW9_0 := BW9_0.free
  have cW9_1_0 : W9.cell? ⟨w.heap.size + 1, 0, none⟩ = some (.int .u64 0) := BW9_1.cell 0 rfl
  have cW9_1_1 : W9.cell? ⟨w.heap.size + 1, 1, none⟩ = some (.int .u64 0) := BW9_1.cell 1 rfl
  have fW9_1 := BW9_1.free
  have cW9_2_0 : W9.cell? ⟨w.heap.size + 1 + 1, 0, none⟩ = some (.int .u64 v3) := BW9_2.cell 0 rfl
  have cW9_2_1 : W9.cell? ⟨w.heap.size + 1 + 1, 1, none⟩ = some (.int .u64 0) := BW9_2.cell 1 rfl
  have fW9_2 := BW9_2.free
  go_wp2_with fail
  refine wp_region_calm 12 (by kernel_rfl) (by kernel_rfl) ?_
  simp only [List.take_succ_cons, List.take_zero, List.drop_succ_cons, List.drop_zero]
  repeat (first
    | (refine calm_skip rfl ?_; simp only [Act.put, List.setIfInBounds_toArray, List.set_cons_zero, List.set_cons_succ])
    | (refine calm_ex rfl ?_; apply Exists.intro; refine And.intro (fun w' hk => ?_) ?_; (focus (have q0 := hk.cell cW9_0_0; have q1 := hk.cell cW9_0_1; have q2 := hk.cell cW9_0_2; have q3 := hk.cell cW9_0_3; have q4 := hk.cell cW9_0_4; have q5 := hk.cell cW9_0_5; have q6 := hk.cell cW9_0_6; have q7 := hk.cell cW9_0_7; have q8 := hk.cell cW9_0_8; have q9 := hk.cell cW9_0_9; have q10 := hk.cell cW9_0_10; have q11 := hk.cell cW9_0_11; have q12 := hk.cell cW9_0_12; have q13 := hk.cell cW9_0_13; have q14 := hk.cell cW9_0_14; have q15 := hk.cell cW9_0_15; have q16 := hk.cell cW9_1_0; have q17 := hk.cell cW9_1_1; have q18 := hk.cell cW9_2_0; have q19 := hk.cell cW9_2_1; clear hk; go_simp; exact rfl)); simp only [Act.put, List.setIfInBounds_toArray, List.set_cons_zero, List.set_cons_succ]))
  refine calm_nil ?_
  intro W10 hkW10
  have kW10 := kW9.trans hkW10
  have BW10_0 := BW9_0.kept hkW10
  have BW10_1 := BW9_1.kept hkW10
  have BW10_2 := BW9_2.kept hkW10
  clear cW9_0_0 cW9_0_1 cW9_0_2 cW9_0_3 cW9_0_4 cW9_0_5 cW9_0_6 cW9_0_7 cW9_0_8 cW9_0_9 cW9_0_10 cW9_0_11 cW9_0_12 cW9_0_13 cW9_0_14 cW9_0_15 cW9_1_0 cW9_1_1 cW9_2_0 cW9_2_1 fW9_0 fW9_1 fW9_2 BW9_0 BW9_1 BW9_2 kW9 hkW10
  have cW10_0_0 : W10.cell? ⟨w.heap.size, 0, none⟩ = some (.int .u8 b0) := BW10_0.cell 0 rfl
  have cW10_0_1 : W10.cell? ⟨w.heap.size, 1, none⟩ = some (.int .u8 b1) := BW10_0.cell 1 rfl
  have cW10_0_2 : W10.cell? ⟨w.heap.size, 2, none⟩ = some (.int .u8 b2) := BW10_0.cell 2 rfl
  have cW10_0_3 : W10.cell? ⟨w.heap.size, 3, none⟩ = some (.int .u8 b3) := BW10_0.cell 3 rfl
  have cW10_0_4 : W10.cell? ⟨w.heap.size, 4, none⟩ = some (.int .u8 b4) := BW10_0.cell 4 rfl
  have cW10_0_5 : W10.cell? ⟨w.heap.size, 5, none⟩ = some (.int .u8 b5) := BW10_0.cell 5 rfl
  have cW10_0_6 : W10.cell? ⟨w.heap.size, 6, none⟩ = some (.int .u8 b6) := BW10_0.cell 6 rfl
  have cW10_0_7 : W10.cell? ⟨w.heap.size, 7, none⟩ = some (.int .u8 b7) := BW10_0.cell 7 rfl
  have cW10_0_8 : W10.cell? ⟨w.heap.size, 8, none⟩ = some (.int .u8 b8) := BW10_0.cell 8 rfl
  have cW10_0_9 : W10.cell? ⟨w.heap.size, 9, none⟩ = some (.int .u8 b9) := BW10_0.cell 9 rfl
  have cW10_0_10 : W10.cell? ⟨w.heap.size, 10, none⟩ = some (.int .u8 b10) := BW10_0.cell 10 rfl
  have cW10_0_11 : W10.cell? ⟨w.heap.size, 11, none⟩ = some (.int .u8 b11) := BW10_0.cell 11 rfl
  have cW10_0_12 : W10.cell? ⟨w.heap.size, 12, none⟩ = some (.int .u8 b12) := BW10_0.cell 12 rfl
  have cW10_0_13 : W10.cell? ⟨w.heap.size, 13, none⟩ = some (.int .u8 b13) := BW10_0.cell 13 rfl
  have cW10_0_14 : W10.cell? ⟨w.heap.size, 14, none⟩ = some (.int .u8 b14) := BW10_0.cell 14 rfl
  have cW10_0_15 : W10.cell? ⟨w.heap.size, 15, none⟩ = some (.int .u8 b15) := BW10_0.cell 15 rfl
  have fW10_0 := BW10_0.free
  have cW10_1_0 : W10.cell? ⟨w.heap.size + 1, 0, none⟩ = some (.int .u64 0) := BW10_1.cell 0 rfl
  have cW10_1_1 : W10.cell? ⟨w.heap.size + 1, 1, none⟩ = some (.int .u64 0) := BW10_1.cell 1 rfl
  have fW10_1 := BW10_1.free
  have cW10_2_0 : W10.cell? ⟨w.heap.size + 1 + 1, 0, none⟩ = some (.int .u64 v3) := BW10_2.cell 0 rfl
  have cW10_2_1 : W10.cell? ⟨w.heap.size + 1 + 1, 1, none⟩ = some (.int .u64 0) := BW10_2.cell 1 rfl
  have fW10_2 := BW10_2.free
  go_wp2_with fail
  rw [rounds_succ]
  refine abs_world (fun W => Kept w W ∧ Blk W (w.heap.size) 54 #[.int .u8 b0, .int .u8 b1, .int .u8 b2, .int .u8 b3, .int .u8 b4, .int .u8 b5, .int .u8 b6, .int .u8 b7, .int .u8 b8, .int .u8 b9, .int .u8 b10, .int .u8 b11, .int .u8 b12, .int .u8 b13, .int .u8 b14, .int .u8 b15] ∧ Blk W (w.heap.size + 1) 28 #[.int .u64 0, .int .u64 0] ∧ Blk W (w.heap.size + 1 + 1) 28 #[.int .u64 v4, .int .u64 0]) ?_ ?_
  · refine ⟨?_, ?_, ?_, ?_⟩
    · repeat (first | exact kW10 | (refine Kept.setCell ?_ (kept_side (by first | assumption | omega)) _) | apply Kept.alloc | apply Kept.drew)
    · simp [Blk, *] <;> (intros; omega)
    · simp [Blk, *] <;> (intros; omega)
    · simp [Blk, *] <;> (intros; omega)
  rintro W11 ⟨kW11, BW11_0, BW11_1, BW11_2⟩
  have cW11_0_0 : W11.cell? ⟨w.heap.size, 0, none⟩ = some (.int .u8 b0) := BW11_0.cell 0 rfl
  have cW11_0_1 : W11.cell? ⟨w.heap.size, 1, none⟩ = some (.int .u8 b1) := BW11_0.cell 1 rfl
  have cW11_0_2 : W11.cell? ⟨w.heap.size, 2, none⟩ = some (.int .u8 b2) := BW11_0.cell 2 rfl
  have cW11_0_3 : W11.cell? ⟨w.heap.size, 3, none⟩ = some (.int .u8 b3) := BW11_0.cell 3 rfl
  have cW11_0_4 : W11.cell? ⟨w.heap.size, 4, none⟩ = some (.int .u8 b4) := BW11_0.cell 4 rfl
  have cW11_0_5 : W11.cell? ⟨w.heap.size, 5, none⟩ = some (.int .u8 b5) := BW11_0.cell 5 rfl
  have cW11_0_6 : W11.cell? ⟨w.heap.size, 6, none⟩ = some (.int .u8 b6) := BW11_0.cell 6 rfl
  have cW11_0_7 : W11.cell? ⟨w.heap.size, 7, none⟩ = some (.int .u8 b7) := BW11_0.cell 7 rfl
  have cW11_0_8 : W11.cell? ⟨w.heap.size, 8, none⟩ = some (.int .u8 b8) := BW11_0.cell 8 rfl
  have cW11_0_9 : W11.cell? ⟨w.heap.size, 9, none⟩ = some (.int .u8 b9) := BW11_0.cell 9 rfl
  have cW11_0_10 : W11.cell? ⟨w.heap.size, 10, none⟩ = some (.int .u8 b10) := BW11_0.cell 10 rfl
  have cW11_0_11 : W11.cell? ⟨w.heap.size, 11, none⟩ = some (.int .u8 b11) := BW11_0.cell 11 rfl
  have cW11_0_12 : W11.cell? ⟨w.heap.size, 12, none⟩ = some (.int .u8 b12) := BW11_0.cell 12 rfl
  have cW11_0_13 : W11.cell? ⟨w.heap.size, 13, none⟩ = some (.int .u8 b13) := BW11_0.cell 13 rfl
  have cW11_0_14 : W11.cell? ⟨w.heap.size, 14, none⟩ = some (.int .u8 b14) := BW11_0.cell 14 rfl
  have cW11_0_15 : W11.cell? ⟨w.heap.size, 15, none⟩ = some (.int .u8 b15) := BW11_0.cell 15 rfl
  have fW11_0 := BW11_0.free
  have cW11_1_0 : W11.cell? ⟨w.heap.size + 1, 0, none⟩ = some (.int .u64 0) := BW11_1.cell 0 rfl
  have cW11_1_1 : W11.cell? ⟨w.heap.size + 1, 1, none⟩ = some (.int .u64 0) := BW11_1.cell 1 rfl
  have fW11_1 := BW11_1.free
  have cW11_2_0 : W11.cell? ⟨w.heap.size + 1 + 1, 0, none⟩ = some (.int .u64 v4) := BW11_2.cell 0 rfl
  have cW11_2_1 : W11.cell? ⟨w.heap.size + 1 + 1, 1, none⟩ = some (.int .u64 0) := BW11_2.cell 1 rfl
  have fW11_2 := BW11_2.free
  go_wp2_with fail
  refine wp_region_calm 12 (by kernel_rfl) (by kernel_rfl) ?_
  simp only [List.take_succ_cons, List.take_zero, List.drop_succ_cons, List.drop_zero]
  repeat (first
    | (refine calm_skip rfl ?_; simp only [Act.put, List.setIfInBounds_toArray, List.set_cons_zero, List.set_cons_succ])
    | (refine calm_ex rfl ?_; apply Exists.intro; refine And.intro (fun w' hk => ?_) ?_; (focus (have q0 := hk.cell cW11_0_0; have q1 := hk.cell cW11_0_1; have q2 := hk.cell cW11_0_2; have q3 := hk.cell cW11_0_3; have q4 := hk.cell cW11_0_4; have q5 := hk.cell cW11_0_5; have q6 := hk.cell cW11_0_6; have q7 := hk.cell cW11_0_7; have q8 := hk.cell cW11_0_8; have q9 := hk.cell cW11_0_9; have q10 := hk.cell cW11_0_10; have q11 := hk.cell cW11_0_11; have q12 := hk.cell cW11_0_12; have q13 := hk.cell cW11_0_13; have q14 := hk.cell cW11_0_14; have q15 := hk.cell cW11_0_15; have q16 := hk.cell cW11_1_0; have q17 := hk.cell cW11_1_1; have q18 := hk.cell cW11_2_0; have q19 := hk.cell cW11_2_1; clear hk; go_simp; exact rfl)); simp only [Act.put, List.setIfInBounds_toArray, List.set_cons_zero, List.set_cons_succ]))
  refine calm_nil ?_
  intro W12 hkW12
  have kW12 := kW11.trans hkW12
  have BW12_0 := BW11_0.kept hkW12
  have BW12_1 := BW11_1.kept hkW12
  have BW12_2 := BW11_2.kept hkW12
  clear cW11_0_0 cW11_0_1 cW11_0_2 cW11_0_3 cW11_0_4 cW11_0_5 cW11_0_6 cW11_0_7 cW11_0_8 cW11_0_9 cW11_0_10 cW11_0_11 cW11_0_12 cW11_0_13 cW11_0_14 cW11_0_15 cW11_1_0 cW11_1_1 cW11_2_0 cW11_2_1 fW11_0 fW11_1 fW11_2 BW11_0 BW11_1 BW11_2 kW11 hkW12
  have cW12_0_0 : W12.cell? ⟨w.heap.size, 0, none⟩ = some (.int .u8 b0) := BW12_0.cell 0 rfl
  have cW12_0_1 : W12.cell? ⟨w.heap.size, 1, none⟩ = some (.int .u8 b1) := BW12_0.cell 1 rfl
  have cW12_0_2 : W12.cell? ⟨w.heap.size, 2, none⟩ = some (.int .u8 b2) := BW12_0.cell 2 rfl
  have cW12_0_3 : W12.cell? ⟨w.heap.size, 3, none⟩ = some (.int .u8 b3) := BW12_0.cell 3 rfl
  have cW12_0_4 : W12.cell? ⟨w.heap.size, 4, none⟩ = some (.int .u8 b4) := BW12_0.cell 4 rfl
  have cW12_0_5 : W12.cell? ⟨w.heap.size, 5, none⟩ = some (.int .u8 b5) := BW12_0.cell 5 rfl
  have cW12_0_6 : W12.cell? ⟨w.heap.size, 6, none⟩ = some (.int .u8 b6) := BW12_0.cell 6 rfl
  have cW12_0_7 : W12.cell? ⟨w.heap.size, 7, none⟩ = some (.int .u8 b7) := BW12_0.cell 7 rfl
  have cW12_0_8 : W12.cell? ⟨w.heap.size, 8, none⟩ = some (.int .u8 b8) := BW12_0.cell 8 rfl
  have cW12_0_9 : W12.cell? ⟨w.heap.size, 9, none⟩ = some (.int .u8 b9) := BW12_0.cell 9 rfl
  have cW12_0_10 : W12.cell? ⟨w.heap.size, 10, none⟩ = some (.int .u8 b10) := BW12_0.cell 10 rfl
  have cW12_0_11 : W12.cell? ⟨w.heap.size, 11, none⟩ = some (.int .u8 b11) := BW12_0.cell 11 rfl
  have cW12_0_12 : W12.cell? ⟨w.heap.size, 12, none⟩ = some (.int .u8 b12) := BW12_0.cell 12 rfl
  have cW12_0_13 : W12.cell? ⟨w.heap.size, 13, none⟩ = some (.int .u8 b13) := BW12_0.cell 13 rfl
  have cW12_0_14 : W12.cell? ⟨w.heap.size, 14, none⟩ = some (.int .u8 b14) := BW12_0.cell 14 rfl
  have cW12_0_15 : W12.cell? ⟨w.heap.size, 15, none⟩ = some (.int .u8 b15) := BW12_0.cell 15 rfl
  have fW12_0 := BW12_0.free
  have cW12_1_0 : W12.cell? ⟨w.heap.size + 1, 0, none⟩ = some (.int .u64 0) := BW12_1.cell 0 rfl
  have cW12_1_1 : W12.cell? ⟨w.heap.size + 1, 1, none⟩ = some (.int .u64 0) := BW12_1.cell 1 rfl
  have fW12_1 := BW12_1.free
  have cW12_2_0 : W12.cell? ⟨w.heap.size + 1 + 1, 0, none⟩ = some (.int .u64 v4) := BW12_2.cell 0 rfl
  have cW12_2_1 : W12.cell? ⟨w.heap.size + 1 + 1, 1, none⟩ = some (.int .u64 0) := BW12_2.cell 1 rfl
  have fW12_2 := BW12_2.free
  go_wp2_with fail
  rw [rounds_succ]
  refine abs_world (fun W => Kept w W ∧ Blk W (w.heap.size) 54 #[.int .u8 b0, .int .u8 b1, .int .u8 b2, .int .u8 b3, .int .u8 b4, .int .u8 b5, .int .u8 b6, .int .u8 b7, .int .u8 b8, .int .u8 b9, .int .u8 b10, .int .u8 b11, .int .u8 b12, .int .u8 b13, .int .u8 b14, .int .u8 b15] ∧ Blk W (w.heap.size + 1) 28 #[.int .u64 0, .int .u64 0] ∧ Blk W (w.heap.size + 1 + 1) 28 #[.int .u64 v5, .int .u64 0]) ?_ ?_
  · refine ⟨?_, ?_, ?_, ?_⟩
    · repeat (first | exact kW12 | (refine Kept.setCell ?_ (kept_side (by first | assumption | omega)) _) | apply Kept.alloc | apply Kept.drew)
    · simp [Blk, *] <;> (intros; omega)
    · simp [Blk, *] <;> (intros; omega)
    · simp [Blk, *] <;> (intros; omega)
  rintro W13 ⟨kW13, BW13_0, BW13_1, BW13_2⟩
  have cW13_0_0 : W13.cell? ⟨w.heap.size, 0, none⟩ = some (.int .u8 b0) := BW13_0.cell 0 rfl
  have cW13_0_1 : W13.cell? ⟨w.heap.size, 1, none⟩ = some (.int .u8 b1) := BW13_0.cell 1 rfl
  have cW13_0_2 : W13.cell? ⟨w.heap.size, 2, none⟩ = some (.int .u8 b2) := BW13_0.cell 2 rfl
  have cW13_0_3 : W13.cell? ⟨w.heap.size, 3, none⟩ = some (.int .u8 b3) := BW13_0.cell 3 rfl
  have cW13_0_4 : W13.cell? ⟨w.heap.size, 4, none⟩ = some (.int .u8 b4) := BW13_0.cell 4 rfl
  have cW13_0_5 : W13.cell? ⟨w.heap.size, 5, none⟩ = some (.int .u8 b5) := BW13_0.cell 5 rfl
  have cW13_0_6 : W13.cell? ⟨w.heap.size, 6, none⟩ = some (.int .u8 b6) := BW13_0.cell 6 rfl
  have cW13_0_7 : W13.cell? ⟨w.heap.size, 7, none⟩ = some (.int .u8 b7) := BW13_0.cell 7 rfl
  have cW13_0_8 : W13.cell? ⟨w.heap.size, 8, none⟩ = some (.int .u8 b8) := BW13_0.cell 8 rfl
  have cW13_0_9 : W13.cell? ⟨w.heap.size, 9, none⟩ = some (.int .u8 b9) := BW13_0.cell 9 rfl
  have cW13_0_10 : W13.cell? ⟨w.heap.size, 10, none⟩ = some (.int .u8 b10) := BW13_0.cell 10 rfl
  have cW13_0_11 : W13.cell? ⟨w.heap.size, 11, none⟩ = some (.int .u8 b11) := BW13_0.cell 11 rfl
  have cW13_0_12 : W13.cell? ⟨w.heap.size, 12, none⟩ = some (.int .u8 b12) := BW13_0.cell 12 rfl
  have cW13_0_13 : W13.cell? ⟨w.heap.size, 13, none⟩ = some (.int .u8 b13) := BW13_0.cell 13 rfl
  have cW13_0_14 : W13.cell? ⟨w.heap.size, 14, none⟩ = some (.int .u8 b14) := BW13_0.cell 14 rfl
  have cW13_0_15 : W13.cell? ⟨w.heap.size, 15, none⟩ = some (.int .u8 b15) := BW13_0.cell 15 rfl
  have fW13_0 := BW13_0.free
  have cW13_1_0 : W13.cell? ⟨w.heap.size + 1, 0, none⟩ = some (.int .u64 0) := BW13_1.cell 0 rfl
  have cW13_1_1 : W13.cell? ⟨w.heap.size + 1, 1, none⟩ = some (.int .u64 0) := BW13_1.cell 1 rfl
  have fW13_1 := BW13_1.free
  have cW13_2_0 : W13.cell? ⟨w.heap.size + 1 + 1, 0, none⟩ = some (.int .u64 v5) := BW13_2.cell 0 rfl
  have cW13_2_1 : W13.cell? ⟨w.heap.size + 1 + 1, 1, none⟩ = some (.int .u64 0) := BW13_2.cell 1 rfl
  have fW13_2 := BW13_2.free
  go_wp2_with fail
  refine wp_region_calm 12 (by kernel_rfl) (by kernel_rfl) ?_
  simp only [List.take_succ_cons, List.take_zero, List.drop_succ_cons, List.drop_zero]
  repeat (first
    | (refine calm_skip rfl ?_; simp only [Act.put, List.setIfInBounds_toArray, List.set_cons_zero, List.set_cons_succ])
    | (refine calm_ex rfl ?_; apply Exists.intro; refine And.intro (fun w' hk => ?_) ?_; (focus (have q0 := hk.cell cW13_0_0; have q1 := hk.cell cW13_0_1; have q2 := hk.cell cW13_0_2; have q3 := hk.cell cW13_0_3; have q4 := hk.cell cW13_0_4; have q5 := hk.cell cW13_0_5; have q6 := hk.cell cW13_0_6; have q7 := hk.cell cW13_0_7; have q8 := hk.cell cW13_0_8; have q9 := hk.cell cW13_0_9; have q10 := hk.cell cW13_0_10; have q11 := hk.cell cW13_0_11; have q12 := hk.cell cW13_0_12; have q13 := hk.cell cW13_0_13; have q14 := hk.cell cW13_0_14; have q15 := hk.cell cW13_0_15; have q16 := hk.cell cW13_1_0; have q17 := hk.cell cW13_1_1; have q18 := hk.cell cW13_2_0; have q19 := hk.cell cW13_2_1; clear hk; go_simp; exact rfl)); simp only [Act.put, List.setIfInBounds_toArray, List.set_cons_zero, List.set_cons_succ]))
  refine calm_nil ?_
  intro W14 hkW14
  have kW14 := kW13.trans hkW14
  have BW14_0 := BW13_0.kept hkW14
  have BW14_1 := BW13_1.kept hkW14
  have BW14_2 := BW13_2.kept hkW14
  clear cW13_0_0 cW13_0_1 cW13_0_2 cW13_0_3 cW13_0_4 cW13_0_5 cW13_0_6 cW13_0_7 cW13_0_8 cW13_0_9 cW13_0_10 cW13_0_11 cW13_0_12 cW13_0_13 cW13_0_14 cW13_0_15 cW13_1_0 cW13_1_1 cW13_2_0 cW13_2_1 fW13_0 fW13_1 fW13_2 BW13_0 BW13_1 BW13_2 kW13 hkW14
  have cW14_0_0 : W14.cell? ⟨w.heap.size, 0, none⟩ = some (.int .u8 b0) := BW14_0.cell 0 rfl
  have cW14_0_1 : W14.cell? ⟨w.heap.size, 1, none⟩ = some (.int .u8 b1) := BW14_0.cell 1 rfl
  have cW14_0_2 : W14.cell? ⟨w.heap.size, 2, none⟩ = some (.int .u8 b2) := BW14_0.cell 2 rfl
  have cW14_0_3 : W14.cell? ⟨w.heap.size, 3, none⟩ = some (.int .u8 b3) := BW14_0.cell 3 rfl
  have cW14_0_4 : W14.cell? ⟨w.heap.size, 4, none⟩ = some (.int .u8 b4) := BW14_0.cell 4 rfl
  have cW14_0_5 : W14.cell? ⟨w.heap.size, 5, none⟩ = some (.int .u8 b5) := BW14_0.cell 5 rfl
  have cW14_0_6 : W14.cell? ⟨w.heap.size, 6, none⟩ = some (.int .u8 b6) := BW14_0.cell 6 rfl
  have cW14_0_7 : W14.cell? ⟨w.heap.size, 7, none⟩ = some (.int .u8 b7) := BW14_0.cell 7 rfl
  have cW14_0_8 : W14.cell? ⟨w.heap.size, 8, none⟩ = some (.int .u8 b8) := BW14_0.cell 8 rfl
  have cW14_0_9 : W14.cell? ⟨w.heap.size, 9, none⟩ = some (.int .u8 b9) := BW14_0.cell 9 rfl
  have cW14_0_10 : W14.cell? ⟨w.heap.size, 10, none⟩ = some (.int .u8 b10) := BW14_0.cell 10 rfl
  have cW14_0_11 : W14.cell? ⟨w.heap.size, 11, none⟩ = some (.int .u8 b11) := BW14_0.cell 11 rfl
  have cW14_0_12 : W14.cell? ⟨w.heap.size, 12, none⟩ = some (.int .u8 b12) := BW14_0.cell 12 rfl
  have cW14_0_13 : W14.cell? ⟨w.heap.size, 13, none⟩ = some (.int .u8 b13) := BW14_0.cell 13 rfl
  have cW14_0_14 : W14.cell? ⟨w.heap.size, 14, none⟩ = some (.int .u8 b14) := BW14_0.cell 14 rfl
  have cW14_0_15 : W14.cell? ⟨w.heap.size, 15, none⟩ = some (.int .u8 b15) := BW14_0.cell 15 rfl
  have fW14_0 := BW14_0.free
  have cW14_1_0 : W14.cell? ⟨w.heap.size + 1, 0, none⟩ = some (.int .u64 0) := BW14_1.cell 0 rfl
  have cW14_1_1 : W14.cell? ⟨w.heap.size + 1, 1, none⟩ = some (.int .u64 0) := BW14_1.cell 1 rfl
  have fW14_1 := BW14_1.free
  have cW14_2_0 : W14.cell? ⟨w.heap.size + 1 + 1, 0, none⟩ = some (.int .u64 v5) := BW14_2.cell 0 rfl
  have cW14_2_1 : W14.cell? ⟨w.heap.size + 1 + 1, 1, none⟩ = some (.int .u64 0) := BW14_2.cell 1 rfl
  have fW14_2 := BW14_2.free
  go_wp2_with fail
  rw [rounds_succ]
  refine abs_world (fun W => Kept w W ∧ Blk W (w.heap.size) 54 #[.int .u8 b0, .int .u8 b1, .int .u8 b2, .int .u8 b3, .int .u8 b4, .int .u8 b5, .int .u8 b6, .int .u8 b7, .int .u8 b8, .int .u8 b9, .int .u8 b10, .int .u8 b11, .int .u8 b12, .int .u8 b13, .int .u8 b14, .int .u8 b15] ∧ Blk W (w.heap.size + 1) 28 #[.int .u64 0, .int .u64 0] ∧ Blk W (w.heap.size + 1 + 1) 28 #[.int .u64 v6, .int .u64 0]) ?_ ?_
  · refine ⟨?_, ?_, ?_, ?_⟩
    · repeat (first | exact kW14 | (refine Kept.setCell ?_ (kept_side (by first | assumption | omega)) _) | apply Kept.alloc | apply Kept.drew)
    · simp [Blk, *] <;> (intros; omega)
    · simp [Blk, *] <;> (intros; omega)
    · simp [Blk, *] <;> (intros; omega)
  rintro W15 ⟨kW15, BW15_0, BW15_1, BW15_2⟩
  have cW15_0_0 : W15.cell? ⟨w.heap.size, 0, none⟩ = some (.int .u8 b0) := BW15_0.cell 0 rfl
  have cW15_0_1 : W15.cell? ⟨w.heap.size, 1, none⟩ = some (.int .u8 b1) := BW15_0.cell 1 rfl
  have cW15_0_2 : W15.cell? ⟨w.heap.size, 2, none⟩ = some (.int .u8 b2) := BW15_0.cell 2 rfl
  have cW15_0_3 : W15.cell? ⟨w.heap.size, 3, none⟩ = some (.int .u8 b3) := BW15_0.cell 3 rfl
  have cW15_0_4 : W15.cell? ⟨w.heap.size, 4, none⟩ = some (.int .u8 b4) := BW15_0.cell 4 rfl
  have cW15_0_5 : W15.cell? ⟨w.heap.size, 5, none⟩ = some (.int .u8 b5) := BW15_0.cell 5 rfl
  have cW15_0_6 : W15.cell? ⟨w.heap.size, 6, none⟩ = some (.int .u8 b6) := BW15_0.cell 6 rfl
  have cW15_0_7 : W15.cell? ⟨w.heap.size, 7, none⟩ = some (.int .u8 b7) := BW15_0.cell 7 rfl
  have cW15_0_8 : W15.cell? ⟨w.heap.size, 8, none⟩ = some (.int .u8 b8) := BW15_0.cell 8 rfl
  have cW15_0_9 : W15.cell? ⟨w.heap.size, 9, none⟩ = some (.int .u8 b9) := BW15_0.cell 9 rfl
  have cW15_0_10 : W15.cell? ⟨w.heap.size, 10, none⟩ = some (.int .u8 b10) := BW15_0.cell 10 rfl
  have cW15_0_11 : W15.cell? ⟨w.heap.size, 11, none⟩ = some (.int .u8 b11) := BW15_0.cell 11 rfl
  have cW15_0_12 : W15.cell? ⟨w.heap.size, 12, none⟩ = some (.int .u8 b12) := BW15_0.cell 12 rfl
  have cW15_0_13 : W15.cell? ⟨w.heap.size, 13, none⟩ = some (.int .u8 b13) := BW15_0.cell 13 rfl
  have cW15_0_14 : W15.cell? ⟨w.heap.size, 14, none⟩ = some (.int .u8 b14) := BW15_0.cell 14 rfl
  have cW15_0_15 : W15.cell? ⟨w.heap.size, 15, none⟩ = some (.int .u8 b15) := BW15_0.cell 15 rfl
  have fW15_0 := BW15_0.free
  have cW15_1_0 : W15.cell? ⟨w.heap.size + 1, 0, none⟩ = some (.int .u64 0) := BW15_1.cell 0 rfl
  have cW15_1_1 : W15.cell? ⟨w.heap.size + 1, 1, none⟩ = some (.int .u64 0) := BW15_1.cell 1 rfl
  have fW15_1 := BW15_1.free
  have cW15_2_0 : W15.cell? ⟨w.heap.size + 1 + 1, 0, none⟩ = some (.int .u64 v6) := BW15_2.cell 0 rfl
  have cW15_2_1 : W15.cell? ⟨w.heap.size + 1 + 1, 1, none⟩ = some (.int .u64 0) := BW15_2.cell 1 rfl
  have fW15_2 := BW15_2.free
  go_wp2_with fail
  refine wp_region_calm 12 (by kernel_rfl) (by kernel_rfl) ?_
  simp only [List.take_succ_cons, List.take_zero, List.drop_succ_cons, List.drop_zero]
  repeat (first
    | (refine calm_skip rfl ?_; simp only [Act.put, List.setIfInBounds_toArray, List.set_cons_zero, List.set_cons_succ])
    | (refine calm_ex rfl ?_; apply Exists.intro; refine And.intro (fun w' hk => ?_) ?_; (focus (have q0 := hk.cell cW15_0_0; have q1 := hk.cell cW15_0_1; have q2 := hk.cell cW15_0_2; have q3 := hk.cell cW15_0_3; have q4 := hk.cell cW15_0_4; have q5 := hk.cell cW15_0_5; have q6 := hk.cell cW15_0_6; have q7 := hk.cell cW15_0_7; have q8 := hk.cell cW15_0_8; have q9 := hk.cell cW15_0_9; have q10 := hk.cell cW15_0_10; have q11 := hk.cell cW15_0_11; have q12 := hk.cell cW15_0_12; have q13 := hk.cell cW15_0_13; have q14 := hk.cell cW15_0_14; have q15 := hk.cell cW15_0_15; have q16 := hk.cell cW15_1_0; have q17 := hk.cell cW15_1_1; have q18 := hk.cell cW15_2_0; have q19 := hk.cell cW15_2_1; clear hk; go_simp; exact rfl)); simp only [Act.put, List.setIfInBounds_toArray, List.set_cons_zero, List.set_cons_succ]))
  refine calm_nil ?_
  intro W16 hkW16
  have kW16 := kW15.trans hkW16
  have BW16_0 := BW15_0.kept hkW16
  have BW16_1 := BW15_1.kept hkW16
  have BW16_2 := BW15_2.kept hkW16
  clear cW15_0_0 cW15_0_1 cW15_0_2 cW15_0_3 cW15_0_4 cW15_0_5 cW15_0_6 cW15_0_7 cW15_0_8 cW15_0_9 cW15_0_10 cW15_0_11 cW15_0_12 cW15_0_13 cW15_0_14 cW15_0_15 cW15_1_0 cW15_1_1 cW15_2_0 cW15_2_1 fW15_0 fW15_1 fW15_2 BW15_0 BW15_1 BW15_2 kW15 hkW16
  have cW16_0_0 : W16.cell? ⟨w.heap.size, 0, none⟩ = some (.int .u8 b0) := BW16_0.cell 0 rfl
  have cW16_0_1 : W16.cell? ⟨w.heap.size, 1, none⟩ = some (.int .u8 b1) := BW16_0.cell 1 rfl
  have cW16_0_2 : W16.cell? ⟨w.heap.size, 2, none⟩ = some (.int .u8 b2) := BW16_0.cell 2 rfl
  have cW16_0_3 : W16.cell? ⟨w.heap.size, 3, none⟩ = some (.int .u8 b3) := BW16_0.cell 3 rfl
  have cW16_0_4 : W16.cell? ⟨w.heap.size, 4, none⟩ = some (.int .u8 b4) := BW16_0.cell 4 rfl
  have cW16_0_5 : W16.cell? ⟨w.heap.size, 5, none⟩ = some (.int .u8 b5) := BW16_0.cell 5 rfl
  have cW16_0_6 : W16.cell? ⟨w.heap.size, 6, none⟩ = some (.int .u8 b6) := BW16_0.cell 6 rfl
  have cW16_0_7 : W16.cell? ⟨w.heap.size, 7, none⟩ = some (.int .u8 b7) := BW16_0.cell 7 rfl
  have cW16_0_8 : W16.cell? ⟨w.heap.size, 8, none⟩ = some (.int .u8 b8) := BW16_0.cell 8 rfl
  have cW16_0_9 : W16.cell? ⟨w.heap.size, 9, none⟩ = some (.int .u8 b9) := BW16_0.cell 9 rfl
  have cW16_0_10 : W16.cell? ⟨w.heap.size, 10, none⟩ = some (.int .u8 b10) := BW16_0.cell 10 rfl
  have cW16_0_11 : W16.cell? ⟨w.heap.size, 11, none⟩ = some (.int .u8 b11) := BW16_0.cell 11 rfl
  have cW16_0_12 : W16.cell? ⟨w.heap.size, 12, none⟩ = some (.int .u8 b12) := BW16_0.cell 12 rfl
  have cW16_0_13 : W16.cell? ⟨w.heap.size, 13, none⟩ = some (.int .u8 b13) := BW16_0.cell 13 rfl
  have cW16_0_14 : W16.cell? ⟨w.heap.size, 14, none⟩ = some (.int .u8 b14) := BW16_0.cell 14 rfl
  have cW16_0_15 : W16.cell? ⟨w.heap.size, 15, none⟩ = some (.int .u8 b15) := BW16_0.cell 15 rfl
  have fW16_0 := BW16_0.free
  have cW16_1_0 : W16.cell? ⟨w.heap.size + 1, 0, none⟩ = some (.int .u64 0) := BW16_1.cell 0 rfl
  have cW16_1_1 : W16.cell? ⟨w.heap.size + 1, 1, none⟩ = some (.int .u64 0) := BW16_1.cell 1 rfl
  have fW16_1 := BW16_1.free
  have cW16_2_0 : W16.cell? ⟨w.heap.size + 1 + 1, 0, none⟩ = some (.int .u64 v6) := BW16_2.cell 0 rfl
  have cW16_2_1 : W16.cell? ⟨w.heap.size + 1 + 1, 1, none⟩ = some (.int .u64 0) := BW16_2.cell 1 rfl
  have fW16_2 := BW16_2.free
  go_wp2_with fail
  rw [rounds_succ]
  refine abs_world (fun W => Kept w W ∧ Blk W (w.heap.size) 54 #[.int .u8 b0, .int .u8 b1, .int .u8 b2, .int .u8 b3, .int .u8 b4, .int .u8 b5, .int .u8 b6, .int .u8 b7, .int .u8 b8, .int .u8 b9, .int .u8 b10, .int .u8 b11, .int .u8 b12, .int .u8 b13, .int .u8 b14, .int .u8 b15] ∧ Blk W (w.heap.size + 1) 28 #[.int .u64 0, .int .u64 0] ∧ Blk W (w.heap.size + 1 + 1) 28 #[.int .u64 v7, .int .u64 0]) ?_ ?_
  · refine ⟨?_, ?_, ?_, ?_⟩
    · repeat (first | exact kW16 | (refine Kept.setCell ?_ (kept_side (by first | assumption | omega)) _) | apply Kept.alloc | apply Kept.drew)
    · simp [Blk, *] <;> (intros; omega)
    · simp [Blk, *] <;> (intros; omega)
    · simp [Blk, *] <;> (intros; omega)
  rintro W17 ⟨kW17, BW17_0, BW17_1, BW17_2⟩
  have cW17_0_0 : W17.cell? ⟨w.heap.size, 0, none⟩ = some (.int .u8 b0) := BW17_0.cell 0 rfl
  have cW17_0_1 : W17.cell? ⟨w.heap.size, 1, none⟩ = some (.int .u8 b1) := BW17_0.cell 1 rfl
  have cW17_0_2 : W17.cell? ⟨w.heap.size, 2, none⟩ = some (.int .u8 b2) := BW17_0.cell 2 rfl
  have cW17_0_3 : W17.cell? ⟨w.heap.size, 3, none⟩ = some (.int .u8 b3) := BW17_0.cell 3 rfl
  have cW17_0_4 : W17.cell? ⟨w.heap.size, 4, none⟩ = some (.int .u8 b4) := BW17_0.cell 4 rfl
  have cW17_0_5 : W17.cell? ⟨w.heap.size, 5, none⟩ = some (.int .u8 b5) := BW17_0.cell 5 rfl
  have cW17_0_6 : W17.cell? ⟨w.heap.size, 6, none⟩ = some (.int .u8 b6) := BW17_0.cell 6 rfl
  have cW17_0_7 : W17.cell? ⟨w.heap.size, 7, none⟩ = some (.int .u8 b7) := BW17_0.cell 7 rfl
  have cW17_0_8 : W17.cell? ⟨w.heap.size, 8, none⟩ = some (.int .u8 b8) := BW17_0.cell 8 rfl
  have cW17_0_9 : W17.cell? ⟨w.heap.size, 9, none⟩ = some (.int .u8 b9) := BW17_0.cell 9 rfl
  have cW17_0_10 : W17.cell? ⟨w.heap.size, 10, none⟩ = some (.int .u8 b10) := BW17_0.cell 10 rfl
  have cW17_0_11 : W17.cell? ⟨w.heap.size, 11, none⟩ = some (.int .u8 b11) := BW17_0.cell 11 rfl
  have cW17_0_12 : W17.cell? ⟨w.heap.size, 12, none⟩ = some (.int .u8 b12) := BW17_0.cell 12 rfl
  have cW17_0_13 : W17.cell? ⟨w.heap.size, 13, none⟩ = some (.int .u8 b13) := BW17_0.cell 13 rfl
  have cW17_0_14 : W17.cell? ⟨w.heap.size, 14, none⟩ = some (.int .u8 b14) := BW17_0.cell 14 rfl
  have cW17_0_15 : W17.cell? ⟨w.heap.size, 15, none⟩ = some (.int .u8 b15) := BW17_0.cell 15 rfl
  have fW17_0 := BW17_0.free
  have cW17_1_0 : W17.cell? ⟨w.heap.size + 1, 0, none⟩ = some (.int .u64 0) := BW17_1.cell 0 rfl
  have cW17_1_1 : W17.cell? ⟨w.heap.size + 1, 1, none⟩ = some (.int .u64 0) := BW17_1.cell 1 rfl
  have fW17_1 := BW17_1.free
  have cW17_2_0 : W17.cell? ⟨w.heap.size + 1 + 1, 0, none⟩ = some (.int .u64 v7) := BW17_2.cell 0 rfl
  have cW17_2_1 : W17.cell? ⟨w.heap.size + 1 + 1, 1, none⟩ = some (.int .u64 0) := BW17_2.cell 1 rfl
  have fW17_2 := BW17_2.free
  go_wp2_with fail
  refine wp_region_calm 12 (by kernel_rfl) (by kernel_rfl) ?_
  simp only [List.take_succ_cons, List.take_zero, List.drop_succ_cons, List.drop_zero]
  repeat (first
    | (refine calm_skip rfl ?_; simp only [Act.put, List.setIfInBounds_toArray, List.set_cons_zero, List.set_cons_succ])
    | (refine calm_ex rfl ?_; apply Exists.intro; refine And.intro (fun w' hk => ?_) ?_; (focus (have q0 := hk.cell cW17_0_0; have q1 := hk.cell cW17_0_1; have q2 := hk.cell cW17_0_2; have q3 := hk.cell cW17_0_3; have q4 := hk.cell cW17_0_4; have q5 := hk.cell cW17_0_5; have q6 := hk.cell cW17_0_6; have q7 := hk.cell cW17_0_7; have q8 := hk.cell cW17_0_8; have q9 := hk.cell cW17_0_9; have q10 := hk.cell cW17_0_10; have q11 := hk.cell cW17_0_11; have q12 := hk.cell cW17_0_12; have q13 := hk.cell cW17_0_13; have q14 := hk.cell cW17_0_14; have q15 := hk.cell cW17_0_15; have q16 := hk.cell cW17_1_0; have q17 := hk.cell cW17_1_1; have q18 := hk.cell cW17_2_0; have q19 := hk.cell cW17_2_1; clear hk; go_simp; exact rfl)); simp only [Act.put, List.setIfInBounds_toArray, List.set_cons_zero, List.set_cons_succ]))
  refine calm_nil ?_
  intro W18 hkW18
  have kW18 := kW17.trans hkW18
  have BW18_0 := BW17_0.kept hkW18
  have BW18_1 := BW17_1.kept hkW18
  have BW18_2 := BW17_2.kept hkW18
  clear cW17_0_0 cW17_0_1 cW17_0_2 cW17_0_3 cW17_0_4 cW17_0_5 cW17_0_6 cW17_0_7 cW17_0_8 cW17_0_9 cW17_0_10 cW17_0_11 cW17_0_12 cW17_0_13 cW17_0_14 cW17_0_15 cW17_1_0 cW17_1_1 cW17_2_0 cW17_2_1 fW17_0 fW17_1 fW17_2 BW17_0 BW17_1 BW17_2 kW17 hkW18
  have cW18_0_0 : W18.cell? ⟨w.heap.size, 0, none⟩ = some (.int .u8 b0) := BW18_0.cell 0 rfl
  have cW18_0_1 : W18.cell? ⟨w.heap.size, 1, none⟩ = some (.int .u8 b1) := BW18_0.cell 1 rfl
  have cW18_0_2 : W18.cell? ⟨w.heap.size, 2, none⟩ = some (.int .u8 b2) := BW18_0.cell 2 rfl
  have cW18_0_3 : W18.cell? ⟨w.heap.size, 3, none⟩ = some (.int .u8 b3) := BW18_0.cell 3 rfl
  have cW18_0_4 : W18.cell? ⟨w.heap.size, 4, none⟩ = some (.int .u8 b4) := BW18_0.cell 4 rfl
  have cW18_0_5 : W18.cell? ⟨w.heap.size, 5, none⟩ = some (.int .u8 b5) := BW18_0.cell 5 rfl
  have cW18_0_6 : W18.cell? ⟨w.heap.size, 6, none⟩ = some (.int .u8 b6) := BW18_0.cell 6 rfl
  have cW18_0_7 : W18.cell? ⟨w.heap.size, 7, none⟩ = some (.int .u8 b7) := BW18_0.cell 7 rfl
  have cW18_0_8 : W18.cell? ⟨w.heap.size, 8, none⟩ = some (.int .u8 b8) := BW18_0.cell 8 rfl
  have cW18_0_9 : W18.cell? ⟨w.heap.size, 9, none⟩ = some (.int .u8 b9) := BW18_0.cell 9 rfl
  have cW18_0_10 : W18.cell? ⟨w.heap.size, 10, none⟩ = some (.int .u8 b10) := BW18_0.cell 10 rfl
  have cW18_0_11 : W18.cell? ⟨w.heap.size, 11, none⟩ = some (.int .u8 b11) := BW18_0.cell 11 rfl
  have cW18_0_12 : W18.cell? ⟨w.heap.size, 12, none⟩ = some (.int .u8 b12) := BW18_0.cell 12 rfl
  have cW18_0_13 : W18.cell? ⟨w.heap.size, 13, none⟩ = some (.int .u8 b13) := BW18_0.cell 13 rfl
  have cW18_0_14 : W18.cell? ⟨w.heap.size, 14, none⟩ = some (.int .u8 b14) := BW18_0.cell 14 rfl
  have cW18_0_15 : W18.cell? ⟨w.heap.size, 15, none⟩ = some (.int .u8 b15) := BW18_0.cell 15 rfl
  have fW18_0 := BW18_0.free
  have cW18_1_0 : W18.cell? ⟨w.heap.size + 1, 0, none⟩ = some (.int .u64 0) := BW18_1.cell 0 rfl
  have cW18_1_1 : W18.cell? ⟨w.heap.size + 1, 1, none⟩ = some (.int .u64 0) := BW18_1.cell 1 rfl
  have fW18_1 := BW18_1.free
  have cW18_2_0 : W18.cell? ⟨w.heap.size + 1 + 1, 0, none⟩ = some (.int .u64 v7) := BW18_2.cell 0 rfl
  have cW18_2_1 : W18.cell? ⟨w.heap.size + 1 + 1, 1, none⟩ = some (.int .u64 0) := BW18_2.cell 1 rfl
  have fW18_2 := BW18_2.free
  go_wp2_with fail
  rw [rounds_succ]
  refine abs_world (fun W => Kept w W ∧ Blk W (w.heap.size) 54 #[.int .u8 b0, .int .u8 b1, .int .u8 b2, .int .u8 b3, .int .u8 b4, .int .u8 b5, .int .u8 b6, .int .u8 b7, .int .u8 b8, .int .u8 b9, .int .u8 b10, .int .u8 b11, .int .u8 b12, .int .u8 b13, .int .u8 b14, .int .u8 b15] ∧ Blk W (w.heap.size + 1) 28 #[.int .u64 0, .int .u64 0] ∧ Blk W (w.heap.size + 1 + 1) 28 #[.int .u64 v7, .int .u64 v8]) ?_ ?_
  · refine ⟨?_, ?_, ?_, ?_⟩
    · repeat (first | exact kW18 | (refine Kept.setCell ?_ (kept_side (by first | assumption | omega)) _) | apply Kept.alloc | apply Kept.drew)
    · simp [Blk, *] <;> (intros; omega)
    · simp [Blk, *] <;> (intros; omega)
    · simp [Blk, *] <;> (intros; omega)
  rintro W19 ⟨kW19, BW19_0, BW19_1, BW19_2⟩
  have cW19_0_0 : W19.cell? ⟨w.heap.size, 0, none⟩ = some (.int .u8 b0) := BW19_0.cell 0 rfl
  have cW19_0_1 : W19.cell? ⟨w.heap.size, 1, none⟩ = some (.int .u8 b1) := BW19_0.cell 1 rfl
  have cW19_0_2 : W19.cell? ⟨w.heap.size, 2, none⟩ = some (.int .u8 b2) := BW19_0.cell 2 rfl
  have cW19_0_3 : W19.cell? ⟨w.heap.size, 3, none⟩ = some (.int .u8 b3) := BW19_0.cell 3 rfl
  have cW19_0_4 : W19.cell? ⟨w.heap.size, 4, none⟩ = some (.int .u8 b4) := BW19_0.cell 4 rfl
  have cW19_0_5 : W19.cell? ⟨w.heap.size, 5, none⟩ = some (.int .u8 b5) := BW19_0.cell 5 rfl
  have cW19_0_6 : W19.cell? ⟨w.heap.size, 6, none⟩ = some (.int .u8 b6) := BW19_0.cell 6 rfl
  have cW19_0_7 : W19.cell? ⟨w.heap.size, 7, none⟩ = some (.int .u8 b7) := BW19_0.cell 7 rfl
  have cW19_0_8 : W19.cell? ⟨w.heap.size, 8, none⟩ = some (.int .u8 b8) := BW19_0.cell 8 rfl
  have cW19_0_9 : W19.cell? ⟨w.heap.size, 9, none⟩ = some (.int .u8 b9) := BW19_0.cell 9 rfl
  have cW19_0_10 : W19.cell? ⟨w.heap.size, 10, none⟩ = some (.int .u8 b10) := BW19_0.cell 10 rfl
  have cW19_0_11 : W19.cell? ⟨w.heap.size, 11, none⟩ = some (.int .u8 b11) := BW19_0.cell 11 rfl
  have cW19_0_12 : W19.cell? ⟨w.heap.size, 12, none⟩ = some (.int .u8 b12) := BW19_0.cell 12 rfl
  have cW19_0_13 : W19.cell? ⟨w.heap.size, 13, none⟩ = some (.int .u8 b13) := BW19_0.cell 13 rfl
  have cW19_0_14 : W19.cell? ⟨w.heap.size, 14, none⟩ = some (.int .u8 b14) := BW19_0.cell 14 rfl
  have cW19_0_15 : W19.cell? ⟨w.heap.size, 15, none⟩ = some (.int .u8 b15) := BW19_0.cell 15 rfl
  have fW19_0 := BW19_0.free
  have cW19_1_0 : W19.cell? ⟨w.heap.size + 1, 0, none⟩ = some (.int .u64 0) := BW19_1.cell 0 rfl
  have cW19_1_1 : W19.cell? ⟨w.heap.size + 1, 1, none⟩ = some (.int .u64 0) := BW19_1.cell 1 rfl
  have fW19_1 := BW19_1.free
  have cW19_2_0 : W19.cell? ⟨w.heap.size + 1 + 1, 0, none⟩ = some (.int .u64 v7) := BW19_2.cell 0 rfl
  have cW19_2_1 : W19.cell? ⟨w.heap.size + 1 + 1, 1, none⟩ = some (.int .u64 v8) := BW19_2.cell 1 rfl
  have fW19_2 := BW19_2.free
  go_wp2_with fail
  refine wp_region_calm 12 (by kernel_rfl) (by kernel_rfl) ?_
  simp only [List.take_succ_cons, List.take_zero, List.drop_succ_cons, List.drop_zero]
  repeat (first
    | (refine calm_skip rfl ?_; simp only [Act.put, List.setIfInBounds_toArray, List.set_cons_zero, List.set_cons_succ])
    | (refine calm_ex rfl ?_; apply Exists.intro; refine And.intro (fun w' hk => ?_) ?_; (focus (have q0 := hk.cell cW19_0_0; have q1 := hk.cell cW19_0_1; have q2 := hk.cell cW19_0_2; have q3 := hk.cell cW19_0_3; have q4 := hk.cell cW19_0_4; have q5 := hk.cell cW19_0_5; have q6 := hk.cell cW19_0_6; have q7 := hk.cell cW19_0_7; have q8 := hk.cell cW19_0_8; have q9 := hk.cell cW19_0_9; have q10 := hk.cell cW19_0_10; have q11 := hk.cell cW19_0_11; have q12 := hk.cell cW19_0_12; have q13 := hk.cell cW19_0_13; have q14 := hk.cell cW19_0_14; have q15 := hk.cell cW19_0_15; have q16 := hk.cell cW19_1_0; have q17 := hk.cell cW19_1_1; have q18 := hk.cell cW19_2_0; have q19 := hk.cell cW19_2_1; clear hk; go_simp; exact rfl)); simp only [Act.put, List.setIfInBounds_toArray, List.set_cons_zero, List.set_cons_succ]))
  refine calm_nil ?_
  intro W20 hkW20
  have kW20 := kW19.trans hkW20
  have BW20_0 := BW19_0.kept hkW20
  have BW20_1 := BW19_1.kept hkW20
  have BW20_2 := BW19_2.kept hkW20
  clear cW19_0_0 cW19_0_1 cW19_0_2 cW19_0_3 cW19_0_4 cW19_0_5 cW19_0_6 cW19_0_7 cW19_0_8 cW19_0_9 cW19_0_10 cW19_0_11 cW19_0_12 cW19_0_13 cW19_0_14 cW19_0_15 cW19_1_0 cW19_1_1 cW19_2_0 cW19_2_1 fW19_0 fW19_1 fW19_2 BW19_0 BW19_1 BW19_2 kW19 hkW20
  have cW20_0_0 : W20.cell? ⟨w.heap.size, 0, none⟩ = some (.int .u8 b0) := BW20_0.cell 0 rfl
  have cW20_0_1 : W20.cell? ⟨w.heap.size, 1, none⟩ = some (.int .u8 b1) := BW20_0.cell 1 rfl
  have cW20_0_2 : W20.cell? ⟨w.heap.size, 2, none⟩ = some (.int .u8 b2) := BW20_0.cell 2 rfl
  have cW20_0_3 : W20.cell? ⟨w.heap.size, 3, none⟩ = some (.int .u8 b3) := BW20_0.cell 3 rfl
  have cW20_0_4 : W20.cell? ⟨w.heap.size, 4, none⟩ = some (.int .u8 b4) := BW20_0.cell 4 rfl
  have cW20_0_5 : W20.cell? ⟨w.heap.size, 5, none⟩ = some (.int .u8 b5) := BW20_0.cell 5 rfl
  have cW20_0_6 : W20.cell? ⟨w.heap.size, 6, none⟩ = some (.int .u8 b6) := BW20_0.cell 6 rfl
  have cW20_0_7 : W20.cell? ⟨w.heap.size, 7, none⟩ = some (.int .u8 b7) := BW20_0.cell 7 rfl
  have cW20_0_8 : W20.cell? ⟨w.heap.size, 8, none⟩ = some (.int .u8 b8) := BW20_0.cell 8 rfl
  have cW20_0_9 : W20.cell? ⟨w.heap.size, 9, none⟩ = some (.int .u8 b9) := BW20_0.cell 9 rfl
  have cW20_0_10 : W20.cell? ⟨w.heap.size, 10, none⟩ = some (.int .u8 b10) := BW20_0.cell 10 rfl
  have cW20_0_11 : W20.cell? ⟨w.heap.size, 11, none⟩ = some (.int .u8 b11) := BW20_0.cell 11 rfl
  have cW20_0_12 : W20.cell? ⟨w.heap.size, 12, none⟩ = some (.int .u8 b12) := BW20_0.cell 12 rfl
  have cW20_0_13 : W20.cell? ⟨w.heap.size, 13, none⟩ = some (.int .u8 b13) := BW20_0.cell 13 rfl
  have cW20_0_14 : W20.cell? ⟨w.heap.size, 14, none⟩ = some (.int .u8 b14) := BW20_0.cell 14 rfl
  have cW20_0_15 : W20.cell? ⟨w.heap.size, 15, none⟩ = some (.int .u8 b15) := BW20_0.cell 15 rfl
  have fW20_0 := BW20_0.free
  have cW20_1_0 : W20.cell? ⟨w.heap.size + 1, 0, none⟩ = some (.int .u64 0) := BW20_1.cell 0 rfl
  have cW20_1_1 : W20.cell? ⟨w.heap.size + 1, 1, none⟩ = some (.int .u64 0) := BW20_1.cell 1 rfl
  have fW20_1 := BW20_1.free
  have cW20_2_0 : W20.cell? ⟨w.heap.size + 1 + 1, 0, none⟩ = some (.int .u64 v7) := BW20_2.cell 0 rfl
  have cW20_2_1 : W20.cell? ⟨w.heap.size + 1 + 1, 1, none⟩ = some (.int .u64 v8) := BW20_2.cell 1 rfl
  have fW20_2 := BW20_2.free
  go_wp2_with fail
  rw [rounds_succ]
  refine abs_world (fun W => Kept w W ∧ Blk W (w.heap.size) 54 #[.int .u8 b0, .int .u8 b1, .int .u8 b2, .int .u8 b3, .int .u8 b4, .int .u8 b5, .int .u8 b6, .int .u8 b7, .int .u8 b8, .int .u8 b9, .int .u8 b10, .int .u8 b11, .int .u8 b12, .int .u8 b13, .int .u8 b14, .int .u8 b15] ∧ Blk W (w.heap.size + 1) 28 #[.int .u64 0, .int .u64 0] ∧ Blk W (w.heap.size + 1 + 1) 28 #[.int .u64 v7, .int .u64 v9]) ?_ ?_
  · refine ⟨?_, ?_, ?_, ?_⟩
    · repeat (first | exact kW20 | (refine Kept.setCell ?_ (kept_side (by first | assumption | omega)) _) | apply Kept.alloc | apply Kept.drew)
    · simp [Blk, *] <;> (intros; omega)
    · simp [Blk, *] <;> (intros; omega)
    · simp [Blk, *] <;> (intros; omega)
  rintro W21 ⟨kW21, BW21_0, BW21_1, BW21_2⟩
  have cW21_0_0 : W21.cell? ⟨w.heap.size, 0, none⟩ = some (.int .u8 b0) := BW21_0.cell 0 rfl
  have cW21_0_1 : W21.cell? ⟨w.heap.size, 1, none⟩ = some (.int .u8 b1) := BW21_0.cell 1 rfl
  have cW21_0_2 : W21.cell? ⟨w.heap.size, 2, none⟩ = some (.int .u8 b2) := BW21_0.cell 2 rfl
  have cW21_0_3 : W21.cell? ⟨w.heap.size, 3, none⟩ = some (.int .u8 b3) := BW21_0.cell 3 rfl
  have cW21_0_4 : W21.cell? ⟨w.heap.size, 4, none⟩ = some (.int .u8 b4) := BW21_0.cell 4 rfl
  have cW21_0_5 : W21.cell? ⟨w.heap.size, 5, none⟩ = some (.int .u8 b5) := BW21_0.cell 5 rfl
  have cW21_0_6 : W21.cell? ⟨w.heap.size, 6, none⟩ = some (.int .u8 b6) := BW21_0.cell 6 rfl
  have cW21_0_7 : W21.cell? ⟨w.heap.size, 7, none⟩ = some (.int .u8 b7) := BW21_0.cell 7 rfl
  have cW21_0_8 : W21.cell? ⟨w.heap.size, 8, none⟩ = some (.int .u8 b8) := BW21_0.cell 8 rfl
  have cW21_0_9 : W21.cell? ⟨w.heap.size, 9, none⟩ = some (.int .u8 b9) := BW21_0.cell 9 rfl
  have cW21_0_10 : W21.cell? ⟨w.heap.size, 10, none⟩ = some (.int .u8 b10) := BW21_0.cell 10 rfl
  have cW21_0_11 : W21.cell? ⟨w.heap.size, 11, none⟩ = some (.int .u8 b11) := BW21_0.cell 11 rfl
  have cW21_0_12 : W21.cell? ⟨w.heap.size, 12, none⟩ = some (.int .u8 b12) := BW21_0.cell 12 rfl
  have cW21_0_13 : W21.cell? ⟨w.heap.size, 13, none⟩ = some (.int .u8 b13) := BW21_0.cell 13 rfl
  have cW21_0_14 : W21.cell? ⟨w.heap.size, 14, none⟩ = some (.int .u8 b14) := BW21_0.cell 14 rfl
  have cW21_0_15 : W21.cell? ⟨w.heap.size, 15, none⟩ = some (.int .u8 b15) := BW21_0.cell 15 rfl
  have fW21_0 := BW21_0.free
  have cW21_1_0 : W21.cell? ⟨w.heap.size + 1, 0, none⟩ = some (.int .u64 0) := BW21_1.cell 0 rfl
  have cW21_1_1 : W21.cell? ⟨w.heap.size + 1, 1, none⟩ = some (.int .u64 0) := BW21_1.cell 1 rfl
  have fW21_1 := BW21_1.free
  have cW21_2_0 : W21.cell? ⟨w.heap.size + 1 + 1, 0, none⟩ = some (.int .u64 v7) := BW21_2.cell 0 rfl
  have cW21_2_1 : W21.cell? ⟨w.heap.size + 1 + 1, 1, none⟩ = some (.int .u64 v9) := BW21_2.cell 1 rfl
  have fW21_2 := BW21_2.free
  go_wp2_with fail
  refine wp_region_calm 12 (by kernel_rfl) (by kernel_rfl) ?_
  simp only [List.take_succ_cons, List.take_zero, List.drop_succ_cons, List.drop_zero]
  repeat (first
    | (refine calm_skip rfl ?_; simp only [Act.put, List.setIfInBounds_toArray, List.set_cons_zero, List.set_cons_succ])
    | (refine calm_ex rfl ?_; apply Exists.intro; refine And.intro (fun w' hk => ?_) ?_; (focus (have q0 := hk.cell cW21_0_0; have q1 := hk.cell cW21_0_1; have q2 := hk.cell cW21_0_2; have q3 := hk.cell cW21_0_3; have q4 := hk.cell cW21_0_4; have q5 := hk.cell cW21_0_5; have q6 := hk.cell cW21_0_6; have q7 := hk.cell cW21_0_7; have q8 := hk.cell cW21_0_8; have q9 := hk.cell cW21_0_9; have q10 := hk.cell cW21_0_10; have q11 := hk.cell cW21_0_11; have q12 := hk.cell cW21_0_12; have q13 := hk.cell cW21_0_13; have q14 := hk.cell cW21_0_14; have q15 := hk.cell cW21_0_15; have q16 := hk.cell cW21_1_0; have q17 := hk.cell cW21_1_1; have q18 := hk.cell cW21_2_0; have q19 := hk.cell cW21_2_1; clear hk; go_simp; exact rfl)); simp only [Act.put, List.setIfInBounds_toArray, List.set_cons_zero, List.set_cons_succ]))
  refine calm_nil ?_
  intro W22 hkW22
  have kW22 := kW21.trans hkW22
  have BW22_0 := BW21_0.kept hkW22
  have BW22_1 := BW21_1.kept hkW22
  have BW22_2 := BW21_2.kept hkW22
  clear cW21_0_0 cW21_0_1 cW21_0_2 cW21_0_3 cW21_0_4 cW21_0_5 cW21_0_6 cW21_0_7 cW21_0_8 cW21_0_9 cW21_0_10 cW21_0_11 cW21_0_12 cW21_0_13 cW21_0_14 cW21_0_15 cW21_1_0 cW21_1_1 cW21_2_0 cW21_2_1 fW21_0 fW21_1 fW21_2 BW21_0 BW21_1 BW21_2 kW21 hkW22
  have cW22_0_0 : W22.cell? ⟨w.heap.size, 0, none⟩ = some (.int .u8 b0) := BW22_0.cell 0 rfl
  have cW22_0_1 : W22.cell? ⟨w.heap.size, 1, none⟩ = some (.int .u8 b1) := BW22_0.cell 1 rfl
  have cW22_0_2 : W22.cell? ⟨w.heap.size, 2, none⟩ = some (.int .u8 b2) := BW22_0.cell 2 rfl
  have cW22_0_3 : W22.cell? ⟨w.heap.size, 3, none⟩ = some (.int .u8 b3) := BW22_0.cell 3 rfl
  have cW22_0_4 : W22.cell? ⟨w.heap.size, 4, none⟩ = some (.int .u8 b4) := BW22_0.cell 4 rfl
  have cW22_0_5 : W22.cell? ⟨w.heap.size, 5, none⟩ = some (.int .u8 b5) := BW22_0.cell 5 rfl
  have cW22_0_6 : W22.cell? ⟨w.heap.size, 6, none⟩ = some (.int .u8 b6) := BW22_0.cell 6 rfl
  have cW22_0_7 : W22.cell? ⟨w.heap.size, 7, none⟩ = some (.int .u8 b7) := BW22_0.cell 7 rfl
  have cW22_0_8 : W22.cell? ⟨w.heap.size, 8, none⟩ = some (.int .u8 b8) := BW22_0.cell 8 rfl
  have cW22_0_9 : W22.cell? ⟨w.heap.size, 9, none⟩ = some (.int .u8 b9) := BW22_0.cell 9 rfl
  have cW22_0_10 : W22.cell? ⟨w.heap.size, 10, none⟩ = some (.int .u8 b10) := BW22_0.cell 10 rfl
  have cW22_0_11 : W22.cell? ⟨w.heap.size, 11, none⟩ = some (.int .u8 b11) := BW22_0.cell 11 rfl
  have cW22_0_12 : W22.cell? ⟨w.heap.size, 12, none⟩ = some (.int .u8 b12) := BW22_0.cell 12 rfl
  have cW22_0_13 : W22.cell? ⟨w.heap.size, 13, none⟩ = some (.int .u8 b13) := BW22_0.cell 13 rfl
  have cW22_0_14 : W22.cell? ⟨w.heap.size, 14, none⟩ = some (.int .u8 b14) := BW22_0.cell 14 rfl
  have cW22_0_15 : W22.cell? ⟨w.heap.size, 15, none⟩ = some (.int .u8 b15) := BW22_0.cell 15 rfl
  have fW22_0 := BW22_0.free
  have cW22_1_0 : W22.cell? ⟨w.heap.size + 1, 0, none⟩ = some (.int .u64 0) := BW22_1.cell 0 rfl
  have cW22_1_1 : W22.cell? ⟨w.heap.size + 1, 1, none⟩ = some (.int .u64 0) := BW22_1.cell 1 rfl
  have fW22_1 := BW22_1.free
  have cW22_2_0 : W22.cell? ⟨w.heap.size + 1 + 1, 0, none⟩ = some (.int .u64 v7) := BW22_2.cell 0 rfl
  have cW22_2_1 : W22.cell? ⟨w.heap.size + 1 + 1, 1, none⟩ = some (.int .u64 v9) := BW22_2.cell 1 rfl
  have fW22_2 := BW22_2.free
  go_wp2_with fail
  rw [rounds_succ]
  refine abs_world (fun W => Kept w W ∧ Blk W (w.heap.size) 54 #[.int .u8 b0, .int .u8 b1, .int .u8 b2, .int .u8 b3, .int .u8 b4, .int .u8 b5, .int .u8 b6, .int .u8 b7, .int .u8 b8, .int .u8 b9, .int .u8 b10, .int .u8 b11, .int .u8 b12, .int .u8 b13, .int .u8 b14, .int .u8 b15] ∧ Blk W (w.heap.size + 1) 28 #[.int .u64 0, .int .u64 0] ∧ Blk W (w.heap.size + 1 + 1) 28 #[.int .u64 v7, .int .u64 v10]) ?_ ?_
  · refine ⟨?_, ?_, ?_, ?_⟩
    · repeat (first | exact kW22 | (refine Kept.setCell ?_ (kept_side (by first | assumption | omega)) _) | apply Kept.alloc | apply Kept.drew)
    · simp [Blk, *] <;> (intros; omega)
    · simp [Blk, *] <;> (intros; omega)
    · simp [Blk, *] <;> (intros; omega)
  rintro W23 ⟨kW23, BW23_0, BW23_1, BW23_2⟩
  have cW23_0_0 : W23.cell? ⟨w.heap.size, 0, none⟩ = some (.int .u8 b0) := BW23_0.cell 0 rfl
  have cW23_0_1 : W23.cell? ⟨w.heap.size, 1, none⟩ = some (.int .u8 b1) := BW23_0.cell 1 rfl
  have cW23_0_2 : W23.cell? ⟨w.heap.size, 2, none⟩ = some (.int .u8 b2) := BW23_0.cell 2 rfl
  have cW23_0_3 : W23.cell? ⟨w.heap.size, 3, none⟩ = some (.int .u8 b3) := BW23_0.cell 3 rfl
  have cW23_0_4 : W23.cell? ⟨w.heap.size, 4, none⟩ = some (.int .u8 b4) := BW23_0.cell 4 rfl
  have cW23_0_5 : W23.cell? ⟨w.heap.size, 5, none⟩ = some (.int .u8 b5) := BW23_0.cell 5 rfl
  have cW23_0_6 : W23.cell? ⟨w.heap.size, 6, none⟩ = some (.int .u8 b6) := BW23_0.cell 6 rfl
  have cW23_0_7 : W23.cell? ⟨w.heap.size, 7, none⟩ = some (.int .u8 b7) := BW23_0.cell 7 rfl
  have cW23_0_8 : W23.cell? ⟨w.heap.size, 8, none⟩ = some (.int .u8 b8) := BW23_0.cell 8 rfl
  have cW23_0_9 : W23.cell? ⟨w.heap.size, 9, none⟩ = some (.int .u8 b9) := BW23_0.cell 9 rfl
  have cW23_0_10 : W23.cell? ⟨w.heap.size, 10, none⟩ = some (.int .u8 b10) := BW23_0.cell 10 rfl
  have cW23_0_11 : W23.cell? ⟨w.heap.size, 11, none⟩ = some (.int .u8 b11) := BW23_0.cell 11 rfl
  have cW23_0_12 : W23.cell? ⟨w.heap.size, 12, none⟩ = some (.int .u8 b12) := BW23_0.cell 12 rfl
  have cW23_0_13 : W23.cell? ⟨w.heap.size, 13, none⟩ = some (.int .u8 b13) := BW23_0.cell 13 rfl
  have cW23_0_14 : W23.cell? ⟨w.heap.size, 14, none⟩ = some (.int .u8 b14) := BW23_0.cell 14 rfl
  have cW23_0_15 : W23.cell? ⟨w.heap.size, 15, none⟩ = some (.int .u8 b15) := BW23_0.cell 15 rfl
  have fW23_0 := BW23_0.free
  have cW23_1_0 : W23.cell? ⟨w.heap.size + 1, 0, none⟩ = some (.int .u64 0) := BW23_1.cell 0 rfl
  have cW23_1_1 : W23.cell? ⟨w.heap.size + 1, 1, none⟩ = some (.int .u64 0) := BW23_1.cell 1 rfl
  have fW23_1 := BW23_1.free
  have cW23_2_0 : W23.cell? ⟨w.heap.size + 1 + 1, 0, none⟩ = some (.int .u64 v7) := BW23_2.cell 0 rfl
  have cW23_2_1 : W23.cell? ⟨w.heap.size + 1 + 1, 1, none⟩ = some (.int .u64 v10) := BW23_2.cell 1 rfl
  have fW23_2 := BW23_2.free
  go_wp2_with fail
  refine wp_region_calm 12 (by kernel_rfl) (by kernel_rfl) ?_
  simp only [List.take_succ_cons, List.take_zero, List.drop_succ_cons, List.drop_zero]
  repeat (first
    | (refine calm_skip rfl ?_; simp only [Act.put, List.setIfInBounds_toArray, List.set_cons_zero, List.set_cons_succ])
    | (refine calm_ex rfl ?_; apply Exists.intro; refine And.intro (fun w' hk => ?_) ?_; (focus (have q0 := hk.cell cW23_0_0; have q1 := hk.cell cW23_0_1; have q2 := hk.cell cW23_0_2; have q3 := hk.cell cW23_0_3; have q4 := hk.cell cW23_0_4; have q5 := hk.cell cW23_0_5; have q6 := hk.cell cW23_0_6; have q7 := hk.cell cW23_0_7; have q8 := hk.cell cW23_0_8; have q9 := hk.cell cW23_0_9; have q10 := hk.cell cW23_0_10; have q11 := hk.cell cW23_0_11; have q12 := hk.cell cW23_0_12; have q13 := hk.cell cW23_0_13; have q14 := hk.cell cW23_0_14; have q15 := hk.cell cW23_0_15; have q16 := hk.cell cW23_1_0; have q17 := hk.cell cW23_1_1; have q18 := hk.cell cW23_2_0; have q19 := hk.cell cW23_2_1; clear hk; go_simp; exact rfl)); simp only [Act.put, List.setIfInBounds_toArray, List.set_cons_zero, List.set_cons_succ]))
  refine calm_nil ?_
  intro W24 hkW24
  have kW24 := kW23.trans hkW24
  have BW24_0 := BW23_0.kept hkW24
  have BW24_1 := BW23_1.kept hkW24
  have BW24_2 := BW23_2.kept hkW24
  clear cW23_0_0 cW23_0_1 cW23_0_2 cW23_0_3 cW23_0_4 cW23_0_5 cW23_0_6 cW23_0_7 cW23_0_8 cW23_0_9 cW23_0_10 cW23_0_11 cW23_0_12 cW23_0_13 cW23_0_14 cW23_0_15 cW23_1_0 cW23_1_1 cW23_2_0 cW23_2_1 fW23_0 fW23_1 fW23_2 BW23_0 BW23_1 BW23_2 kW23 hkW24
  have cW24_0_0 : W24.cell? ⟨w.heap.size, 0, none⟩ = some (.int .u8 b0) := BW24_0.cell 0 rfl
  have cW24_0_1 : W24.cell? ⟨w.heap.size, 1, none⟩ = some (.int .u8 b1) := BW24_0.cell 1 rfl
  have cW24_0_2 : W24.cell? ⟨w.heap.size, 2, none⟩ = some (.int .u8 b2) := BW24_0.cell 2 rfl
  have cW24_0_3 : W24.cell? ⟨w.heap.size, 3, none⟩ = some (.int .u8 b3) := BW24_0.cell 3 rfl
  have cW24_0_4 : W24.cell? ⟨w.heap.size, 4, none⟩ = some (.int .u8 b4) := BW24_0.cell 4 rfl
  have cW24_0_5 : W24.cell? ⟨w.heap.size, 5, none⟩ = some (.int .u8 b5) := BW24_0.cell 5 rfl
  have cW24_0_6 : W24.cell? ⟨w.heap.size, 6, none⟩ = some (.int .u8 b6) := BW24_0.cell 6 rfl
  have cW24_0_7 : W24.cell? ⟨w.heap.size, 7, none⟩ = some (.int .u8 b7) := BW24_0.cell 7 rfl
  have cW24_0_8 : W24.cell? ⟨w.heap.size, 8, none⟩ = some (.int .u8 b8) := BW24_0.cell 8 rfl
  have cW24_0_9 : W24.cell? ⟨w.heap.size, 9, none⟩ = some (.int .u8 b9) := BW24_0.cell 9 rfl
  have cW24_0_10 : W24.cell? ⟨w.heap.size, 10, none⟩ = some (.int .u8 b10) := BW24_0.cell 10 rfl
  have cW24_0_11 : W24.cell? ⟨w.heap.size, 11, none⟩ = some (.int .u8 b11) := BW24_0.cell 11 rfl
  have cW24_0_12 : W24.cell? ⟨w.heap.size, 12, none⟩ = some (.int .u8 b12) := BW24_0.cell 12 rfl
  have cW24_0_13 : W24.cell? ⟨w.heap.size, 13, none⟩ = some (.int .u8 b13) := BW24_0.cell 13 rfl
  have cW24_0_14 : W24.cell? ⟨w.heap.size, 14, none⟩ = some (.int .u8 b14) := BW24_0.cell 14 rfl
  have cW24_0_15 : W24.cell? ⟨w.heap.size, 15, none⟩ = some (.int .u8 b15) := BW24_0.cell 15 rfl
  have fW24_0 := BW24_0.free
  have cW24_1_0 : W24.cell? ⟨w.heap.size + 1, 0, none⟩ = some (.int .u64 0) := BW24_1.cell 0 rfl
  have cW24_1_1 : W24.cell? ⟨w.heap.size + 1, 1, none⟩ = some (.int .u64 0) := BW24_1.cell 1 rfl
  have fW24_1 := BW24_1.free
  have cW24_2_0 : W24.cell? ⟨w.heap.size + 1 + 1, 0, none⟩ = some (.int .u64 v7) := BW24_2.cell 0 rfl
  have cW24_2_1 : W24.cell? ⟨w.heap.size + 1 + 1, 1, none⟩ = some (.int .u64 v10) := BW24_2.cell 1 rfl
  have fW24_2 := BW24_2.free
  go_wp2_with fail
  rw [rounds_succ]
  refine abs_world (fun W => Kept w W ∧ Blk W (w.heap.size) 54 #[.int .u8 b0, .int .u8 b1, .int .u8 b2, .int .u8 b3, .int .u8 b4, .int .u8 b5, .int .u8 b6, .int .u8 b7, .int .u8 b8, .int .u8 b9, .int .u8 b10, .int .u8 b11, .int .u8 b12, .int .u8 b13, .int .u8 b14, .int .u8 b15] ∧ Blk W (w.heap.size + 1) 28 #[.int .u64 0, .int .u64 0] ∧ Blk W (w.heap.size + 1 + 1) 28 #[.int .u64 v7, .int .u64 v11]) ?_ ?_
  · refine ⟨?_, ?_, ?_, ?_⟩
    · repeat (first | exact kW24 | (refine Kept.setCell ?_ (kept_side (by first | assumption | omega)) _) | apply Kept.alloc | apply Kept.drew)
    · simp [Blk, *] <;> (intros; omega)
    · simp [Blk, *] <;> (intros; omega)
    · simp [Blk, *] <;> (intros; omega)
  rintro W25 ⟨kW25, BW25_0, BW25_1, BW25_2⟩
  have cW25_0_0 : W25.cell? ⟨w.heap.size, 0, none⟩ = some (.int .u8 b0) := BW25_0.cell 0 rfl
  have cW25_0_1 : W25.cell? ⟨w.heap.size, 1, none⟩ = some (.int .u8 b1) := BW25_0.cell 1 rfl
  have cW25_0_2 : W25.cell? ⟨w.heap.size, 2, none⟩ = some (.int .u8 b2) := BW25_0.cell 2 rfl
  have cW25_0_3 : W25.cell? ⟨w.heap.size, 3, none⟩ = some (.int .u8 b3) := BW25_0.cell 3 rfl
  have cW25_0_4 : W25.cell? ⟨w.heap.size, 4, none⟩ = some (.int .u8 b4) := BW25_0.cell 4 rfl
  have cW25_0_5 : W25.cell? ⟨w.heap.size, 5, none⟩ = some (.int .u8 b5) := BW25_0.cell 5 rfl
  have cW25_0_6 : W25.cell? ⟨w.heap.size, 6, none⟩ = some (.int .u8 b6) := BW25_0.cell 6 rfl
  have cW25_0_7 : W25.cell? ⟨w.heap.size, 7, none⟩ = some (.int .u8 b7) := BW25_0.cell 7 rfl
  have cW25_0_8 : W25.cell? ⟨w.heap.size, 8, none⟩ = some (.int .u8 b8) := BW25_0.cell 8 rfl
  have cW25_0_9 : W25.cell? ⟨w.heap.size, 9, none⟩ = some (.int .u8 b9) := BW25_0.cell 9 rfl
  have cW25_0_10 : W25.cell? ⟨w.heap.size, 10, none⟩ = some (.int .u8 b10) := BW25_0.cell 10 rfl
  have cW25_0_11 : W25.cell? ⟨w.heap.size, 11, none⟩ = some (.int .u8 b11) := BW25_0.cell 11 rfl
  have cW25_0_12 : W25.cell? ⟨w.heap.size, 12, none⟩ = some (.int .u8 b12) := BW25_0.cell 12 rfl
  have cW25_0_13 : W25.cell? ⟨w.heap.size, 13, none⟩ = some (.int .u8 b13) := BW25_0.cell 13 rfl
  have cW25_0_14 : W25.cell? ⟨w.heap.size, 14, none⟩ = some (.int .u8 b14) := BW25_0.cell 14 rfl
  have cW25_0_15 : W25.cell? ⟨w.heap.size, 15, none⟩ = some (.int .u8 b15) := BW25_0.cell 15 rfl
  have fW25_0 := BW25_0.free
  have cW25_1_0 : W25.cell? ⟨w.heap.size + 1, 0, none⟩ = some (.int .u64 0) := BW25_1.cell 0 rfl
  have cW25_1_1 : W25.cell? ⟨w.heap.size + 1, 1, none⟩ = some (.int .u64 0) := BW25_1.cell 1 rfl
  have fW25_1 := BW25_1.free
  have cW25_2_0 : W25.cell? ⟨w.heap.size + 1 + 1, 0, none⟩ = some (.int .u64 v7) := BW25_2.cell 0 rfl
  have cW25_2_1 : W25.cell? ⟨w.heap.size + 1 + 1, 1, none⟩ = some (.int .u64 v11) := BW25_2.cell 1 rfl
  have fW25_2 := BW25_2.free
  go_wp2_with fail
  refine wp_region_calm 12 (by kernel_rfl) (by kernel_rfl) ?_
  simp only [List.take_succ_cons, List.take_zero, List.drop_succ_cons, List.drop_zero]
  repeat (first
    | (refine calm_skip rfl ?_; simp only [Act.put, List.setIfInBounds_toArray, List.set_cons_zero, List.set_cons_succ])
    | (refine calm_ex rfl ?_; apply Exists.intro; refine And.intro (fun w' hk => ?_) ?_; (focus (have q0 := hk.cell cW25_0_0; have q1 := hk.cell cW25_0_1; have q2 := hk.cell cW25_0_2; have q3 := hk.cell cW25_0_3; have q4 := hk.cell cW25_0_4; have q5 := hk.cell cW25_0_5; have q6 := hk.cell cW25_0_6; have q7 := hk.cell cW25_0_7; have q8 := hk.cell cW25_0_8; have q9 := hk.cell cW25_0_9; have q10 := hk.cell cW25_0_10; have q11 := hk.cell cW25_0_11; have q12 := hk.cell cW25_0_12; have q13 := hk.cell cW25_0_13; have q14 := hk.cell cW25_0_14; have q15 := hk.cell cW25_0_15; have q16 := hk.cell cW25_1_0; have q17 := hk.cell cW25_1_1; have q18 := hk.cell cW25_2_0; have q19 := hk.cell cW25_2_1; clear hk; go_simp; exact rfl)); simp only [Act.put, List.setIfInBounds_toArray, List.set_cons_zero, List.set_cons_succ]))
  refine calm_nil ?_
  intro W26 hkW26
  have kW26 := kW25.trans hkW26
  have BW26_0 := BW25_0.kept hkW26
  have BW26_1 := BW25_1.kept hkW26
  have BW26_2 := BW25_2.kept hkW26
  clear cW25_0_0 cW25_0_1 cW25_0_2 cW25_0_3 cW25_0_4 cW25_0_5 cW25_0_6 cW25_0_7 cW25_0_8 cW25_0_9 cW25_0_10 cW25_0_11 cW25_0_12 cW25_0_13 cW25_0_14 cW25_0_15 cW25_1_0 cW25_1_1 cW25_2_0 cW25_2_1 fW25_0 fW25_1 fW25_2 BW25_0 BW25_1 BW25_2 kW25 hkW26
  have cW26_0_0 : W26.cell? ⟨w.heap.size, 0, none⟩ = some (.int .u8 b0) := BW26_0.cell 0 rfl
  have cW26_0_1 : W26.cell? ⟨w.heap.size, 1, none⟩ = some (.int .u8 b1) := BW26_0.cell 1 rfl
  have cW26_0_2 : W26.cell? ⟨w.heap.size, 2, none⟩ = some (.int .u8 b2) := BW26_0.cell 2 rfl
  have cW26_0_3 : W26.cell? ⟨w.heap.size, 3, none⟩ = some (.int .u8 b3) := BW26_0.cell 3 rfl
  have cW26_0_4 : W26.cell? ⟨w.heap.size, 4, none⟩ = some (.int .u8 b4) := BW26_0.cell 4 rfl
  have cW26_0_5 : W26.cell? ⟨w.heap.size, 5, none⟩ = some (.int .u8 b5) := BW26_0.cell 5 rfl
  have cW26_0_6 : W26.cell? ⟨w.heap.size, 6, none⟩ = some (.int .u8 b6) := BW26_0.cell 6 rfl
  have cW26_0_7 : W26.cell? ⟨w.heap.size, 7, none⟩ = some (.int .u8 b7) := BW26_0.cell 7 rfl
  have cW26_0_8 : W26.cell? ⟨w.heap.size, 8, none⟩ = some (.int .u8 b8) := BW26_0.cell 8 rfl
  have cW26_0_9 : W26.cell? ⟨w.heap.size, 9, none⟩ = some (.int .u8 b9) := BW26_0.cell 9 rfl
  have cW26_0_10 : W26.cell? ⟨w.heap.size, 10, none⟩ = some (.int .u8 b10) := BW26_0.cell 10 rfl
  have cW26_0_11 : W26.cell? ⟨w.heap.size, 11, none⟩ = some (.int .u8 b11) := BW26_0.cell 11 rfl
  have cW26_0_12 : W26.cell? ⟨w.heap.size, 12, none⟩ = some (.int .u8 b12) := BW26_0.cell 12 rfl
  have cW26_0_13 : W26.cell? ⟨w.heap.size, 13, none⟩ = some (.int .u8 b13) := BW26_0.cell 13 rfl
  have cW26_0_14 : W26.cell? ⟨w.heap.size, 14, none⟩ = some (.int .u8 b14) := BW26_0.cell 14 rfl
  have cW26_0_15 : W26.cell? ⟨w.heap.size, 15, none⟩ = some (.int .u8 b15) := BW26_0.cell 15 rfl
  have fW26_0 := BW26_0.free
  have cW26_1_0 : W26.cell? ⟨w.heap.size + 1, 0, none⟩ = some (.int .u64 0) := BW26_1.cell 0 rfl
  have cW26_1_1 : W26.cell? ⟨w.heap.size + 1, 1, none⟩ = some (.int .u64 0) := BW26_1.cell 1 rfl
  have fW26_1 := BW26_1.free
  have cW26_2_0 : W26.cell? ⟨w.heap.size + 1 + 1, 0, none⟩ = some (.int .u64 v7) := BW26_2.cell 0 rfl
  have cW26_2_1 : W26.cell? ⟨w.heap.size + 1 + 1, 1, none⟩ = some (.int .u64 v11) := BW26_2.cell 1 rfl
  have fW26_2 := BW26_2.free
  go_wp2_with fail
  rw [rounds_succ]
  refine abs_world (fun W => Kept w W ∧ Blk W (w.heap.size) 54 #[.int .u8 b0, .int .u8 b1, .int .u8 b2, .int .u8 b3, .int .u8 b4, .int .u8 b5, .int .u8 b6, .int .u8 b7, .int .u8 b8, .int .u8 b9, .int .u8 b10, .int .u8 b11, .int .u8 b12, .int .u8 b13, .int .u8 b14, .int .u8 b15] ∧ Blk W (w.heap.size + 1) 28 #[.int .u64 0, .int .u64 0] ∧ Blk W (w.heap.size + 1 + 1) 28 #[.int .u64 v7, .int .u64 v12]) ?_ ?_
  · refine ⟨?_, ?_, ?_, ?_⟩
    · repeat (first | exact kW26 | (refine Kept.setCell ?_ (kept_side (by first | assumption | omega)) _) | apply Kept.alloc | apply Kept.drew)
    · simp [Blk, *] <;> (intros; omega)
    · simp [Blk, *] <;> (intros; omega)
    · simp [Blk, *] <;> (intros; omega)
  rintro W27 ⟨kW27, BW27_0, BW27_1, BW27_2⟩
  have cW27_0_0 : W27.cell? ⟨w.heap.size, 0, none⟩ = some (.int .u8 b0) := BW27_0.cell 0 rfl
  have cW27_0_1 : W27.cell? ⟨w.heap.size, 1, none⟩ = some (.int .u8 b1) := BW27_0.cell 1 rfl
  have cW27_0_2 : W27.cell? ⟨w.heap.size, 2, none⟩ = some (.int .u8 b2) := BW27_0.cell 2 rfl
  have cW27_0_3 : W27.cell? ⟨w.heap.size, 3, none⟩ = some (.int .u8 b3) := BW27_0.cell 3 rfl
  have cW27_0_4 : W27.cell? ⟨w.heap.size, 4, none⟩ = some (.int .u8 b4) := BW27_0.cell 4 rfl
  have cW27_0_5 : W27.cell? ⟨w.heap.size, 5, none⟩ = some (.int .u8 b5) := BW27_0.cell 5 rfl
  have cW27_0_6 : W27.cell? ⟨w.heap.size, 6, none⟩ = some (.int .u8 b6) := BW27_0.cell 6 rfl
  have cW27_0_7 : W27.cell? ⟨w.heap.size, 7, none⟩ = some (.int .u8 b7) := BW27_0.cell 7 rfl
  have cW27_0_8 : W27.cell? ⟨w.heap.size, 8, none⟩ = some (.int .u8 b8) := BW27_0.cell 8 rfl
  have cW27_0_9 : W27.cell? ⟨w.heap.size, 9, none⟩ = some (.int .u8 b9) := BW27_0.cell 9 rfl
  have cW27_0_10 : W27.cell? ⟨w.heap.size, 10, none⟩ = some (.int .u8 b10) := BW27_0.cell 10 rfl
  have cW27_0_11 : W27.cell? ⟨w.heap.size, 11, none⟩ = some (.int .u8 b11) := BW27_0.cell 11 rfl
  have cW27_0_12 : W27.cell? ⟨w.heap.size, 12, none⟩ = some (.int .u8 b12) := BW27_0.cell 12 rfl
  have cW27_0_13 : W27.cell? ⟨w.heap.size, 13, none⟩ = some (.int .u8 b13) := BW27_0.cell 13 rfl
  have cW27_0_14 : W27.cell? ⟨w.heap.size, 14, none⟩ = some (.int .u8 b14) := BW27_0.cell 14 rfl
  have cW27_0_15 : W27.cell? ⟨w.heap.size, 15, none⟩ = some (.int .u8 b15) := BW27_0.cell 15 rfl
  have fW27_0 := BW27_0.free
  have cW27_1_0 : W27.cell? ⟨w.heap.size + 1, 0, none⟩ = some (.int .u64 0) := BW27_1.cell 0 rfl
  have cW27_1_1 : W27.cell? ⟨w.heap.size + 1, 1, none⟩ = some (.int .u64 0) := BW27_1.cell 1 rfl
  have fW27_1 := BW27_1.free
  have cW27_2_0 : W27.cell? ⟨w.heap.size + 1 + 1, 0, none⟩ = some (.int .u64 v7) := BW27_2.cell 0 rfl
  have cW27_2_1 : W27.cell? ⟨w.heap.size + 1 + 1, 1, none⟩ = some (.int .u64 v12) := BW27_2.cell 1 rfl
  have fW27_2 := BW27_2.free
  go_wp2_with fail
  refine wp_region_calm 12 (by kernel_rfl) (by kernel_rfl) ?_
  simp only [List.take_succ_cons, List.take_zero, List.drop_succ_cons, List.drop_zero]
  repeat (first
    | (refine calm_skip rfl ?_; simp only [Act.put, List.setIfInBounds_toArray, List.set_cons_zero, List.set_cons_succ])
    | (refine calm_ex rfl ?_; apply Exists.intro; refine And.intro (fun w' hk => ?_) ?_; (focus (have q0 := hk.cell cW27_0_0; have q1 := hk.cell cW27_0_1; have q2 := hk.cell cW27_0_2; have q3 := hk.cell cW27_0_3; have q4 := hk.cell cW27_0_4; have q5 := hk.cell cW27_0_5; have q6 := hk.cell cW27_0_6; have q7 := hk.cell cW27_0_7; have q8 := hk.cell cW27_0_8; have q9 := hk.cell cW27_0_9; have q10 := hk.cell cW27_0_10; have q11 := hk.cell cW27_0_11; have q12 := hk.cell cW27_0_12; have q13 := hk.cell cW27_0_13; have q14 := hk.cell cW27_0_14; have q15 := hk.cell cW27_0_15; have q16 := hk.cell cW27_1_0; have q17 := hk.cell cW27_1_1; have q18 := hk.cell cW27_2_0; have q19 := hk.cell cW27_2_1; clear hk; go_simp; exact rfl)); simp only [Act.put, List.setIfInBounds_toArray, List.set_cons_zero, List.set_cons_succ]))
  refine calm_nil ?_
  intro W28 hkW28
  have kW28 := kW27.trans hkW28
  have BW28_0 := BW27_0.kept hkW28
  have BW28_1 := BW27_1.kept hkW28
  have BW28_2 := BW27_2.kept hkW28
  clear cW27_0_0 cW27_0_1 cW27_0_2 cW27_0_3 cW27_0_4 cW27_0_5 cW27_0_6 cW27_0_7 cW27_0_8 cW27_0_9 cW27_0_10 cW27_0_11 cW27_0_12 cW27_0_13 cW27_0_14 cW27_0_15 cW27_1_0 cW27_1_1 cW27_2_0 cW27_2_1 fW27_0 fW27_1 fW27_2 BW27_0 BW27_1 BW27_2 kW27 hkW28
  have cW28_0_0 : W28.cell? ⟨w.heap.size, 0, none⟩ = some (.int .u8 b0) := BW28_0.cell 0 rfl
  have cW28_0_1 : W28.cell? ⟨w.heap.size, 1, none⟩ = some (.int .u8 b1) := BW28_0.cell 1 rfl
  have cW28_0_2 : W28.cell? ⟨w.heap.size, 2, none⟩ = some (.int .u8 b2) := BW28_0.cell 2 rfl
  have cW28_0_3 : W28.cell? ⟨w.heap.size, 3, none⟩ = some (.int .u8 b3) := BW28_0.cell 3 rfl
  have cW28_0_4 : W28.cell? ⟨w.heap.size, 4, none⟩ = some (.int .u8 b4) := BW28_0.cell 4 rfl
  have cW28_0_5 : W28.cell? ⟨w.heap.size, 5, none⟩ = some (.int .u8 b5) := BW28_0.cell 5 rfl
  have cW28_0_6 : W28.cell? ⟨w.heap.size, 6, none⟩ = some (.int .u8 b6) := BW28_0.cell 6 rfl
  have cW28_0_7 : W28.cell? ⟨w.heap.size, 7, none⟩ = some (.int .u8 b7) := BW28_0.cell 7 rfl
  have cW28_0_8 : W28.cell? ⟨w.heap.size, 8, none⟩ = some (.int .u8 b8) := BW28_0.cell 8 rfl
  have cW28_0_9 : W28.cell? ⟨w.heap.size, 9, none⟩ = some (.int .u8 b9) := BW28_0.cell 9 rfl
  have cW28_0_10 : W28.cell? ⟨w.heap.size, 10, none⟩ = some (.int .u8 b10) := BW28_0.cell 10 rfl
  have cW28_0_11 : W28.cell? ⟨w.heap.size, 11, none⟩ = some (.int .u8 b11) := BW28_0.cell 11 rfl
  have cW28_0_12 : W28.cell? ⟨w.heap.size, 12, none⟩ = some (.int .u8 b12) := BW28_0.cell 12 rfl
  have cW28_0_13 : W28.cell? ⟨w.heap.size, 13, none⟩ = some (.int .u8 b13) := BW28_0.cell 13 rfl
  have cW28_0_14 : W28.cell? ⟨w.heap.size, 14, none⟩ = some (.int .u8 b14) := BW28_0.cell 14 rfl
  have cW28_0_15 : W28.cell? ⟨w.heap.size, 15, none⟩ = some (.int .u8 b15) := BW28_0.cell 15 rfl
  have fW28_0 := BW28_0.free
  have cW28_1_0 : W28.cell? ⟨w.heap.size + 1, 0, none⟩ = some (.int .u64 0) := BW28_1.cell 0 rfl
  have cW28_1_1 : W28.cell? ⟨w.heap.size + 1, 1, none⟩ = some (.int .u64 0) := BW28_1.cell 1 rfl
  have fW28_1 := BW28_1.free
  have cW28_2_0 : W28.cell? ⟨w.heap.size + 1 + 1, 0, none⟩ = some (.int .u64 v7) := BW28_2.cell 0 rfl
  have cW28_2_1 : W28.cell? ⟨w.heap.size + 1 + 1, 1, none⟩ = some (.int .u64 v12) := BW28_2.cell 1 rfl
  have fW28_2 := BW28_2.free
  go_wp2_with fail
  rw [rounds_succ]
  refine abs_world (fun W => Kept w W ∧ Blk W (w.heap.size) 54 #[.int .u8 b0, .int .u8 b1, .int .u8 b2, .int .u8 b3, .int .u8 b4, .int .u8 b5, .int .u8 b6, .int .u8 b7, .int .u8 b8, .int .u8 b9, .int .u8 b10, .int .u8 b11, .int .u8 b12, .int .u8 b13, .int .u8 b14, .int .u8 b15] ∧ Blk W (w.heap.size + 1) 28 #[.int .u64 0, .int .u64 0] ∧ Blk W (w.heap.size + 1 + 1) 28 #[.int .u64 v7, .int .u64 v13]) ?_ ?_
  · refine ⟨?_, ?_, ?_, ?_⟩
    · repeat (first | exact kW28 | (refine Kept.setCell ?_ (kept_side (by first | assumption | omega)) _) | apply Kept.alloc | apply Kept.drew)
    · simp [Blk, *] <;> (intros; omega)
    · simp [Blk, *] <;> (intros; omega)
    · simp [Blk, *] <;> (intros; omega)
  rintro W29 ⟨kW29, BW29_0, BW29_1, BW29_2⟩
  have cW29_0_0 : W29.cell? ⟨w.heap.size, 0, none⟩ = some (.int .u8 b0) := BW29_0.cell 0 rfl
  have cW29_0_1 : W29.cell? ⟨w.heap.size, 1, none⟩ = some (.int .u8 b1) := BW29_0.cell 1 rfl
  have cW29_0_2 : W29.cell? ⟨w.heap.size, 2, none⟩ = some (.int .u8 b2) := BW29_0.cell 2 rfl
  have cW29_0_3 : W29.cell? ⟨w.heap.size, 3, none⟩ = some (.int .u8 b3) := BW29_0.cell 3 rfl
  have cW29_0_4 : W29.cell? ⟨w.heap.size, 4, none⟩ = some (.int .u8 b4) := BW29_0.cell 4 rfl
  have cW29_0_5 : W29.cell? ⟨w.heap.size, 5, none⟩ = some (.int .u8 b5) := BW29_0.cell 5 rfl
  have cW29_0_6 : W29.cell? ⟨w.heap.size, 6, none⟩ = some (.int .u8 b6) := BW29_0.cell 6 rfl
  have cW29_0_7 : W29.cell? ⟨w.heap.size, 7, none⟩ = some (.int .u8 b7) := BW29_0.cell 7 rfl
  have cW29_0_8 : W29.cell? ⟨w.heap.size, 8, none⟩ = some (.int .u8 b8) := BW29_0.cell 8 rfl
  have cW29_0_9 : W29.cell? ⟨w.heap.size, 9, none⟩ = some (.int .u8 b9) := BW29_0.cell 9 rfl
  have cW29_0_10 : W29.cell? ⟨w.heap.size, 10, none⟩ = some (.int .u8 b10) := BW29_0.cell 10 rfl
  have cW29_0_11 : W29.cell? ⟨w.heap.size, 11, none⟩ = some (.int .u8 b11) := BW29_0.cell 11 rfl
  have cW29_0_12 : W29.cell? ⟨w.heap.size, 12, none⟩ = some (.int .u8 b12) := BW29_0.cell 12 rfl
  have cW29_0_13 : W29.cell? ⟨w.heap.size, 13, none⟩ = some (.int .u8 b13) := BW29_0.cell 13 rfl
  have cW29_0_14 : W29.cell? ⟨w.heap.size, 14, none⟩ = some (.int .u8 b14) := BW29_0.cell 14 rfl
  have cW29_0_15 : W29.cell? ⟨w.heap.size, 15, none⟩ = some (.int .u8 b15) := BW29_0.cell 15 rfl
  have fW29_0 := BW29_0.free
  have cW29_1_0 : W29.cell? ⟨w.heap.size + 1, 0, none⟩ = some (.int .u64 0) := BW29_1.cell 0 rfl
  have cW29_1_1 : W29.cell? ⟨w.heap.size + 1, 1, none⟩ = some (.int .u64 0) := BW29_1.cell 1 rfl
  have fW29_1 := BW29_1.free
  have cW29_2_0 : W29.cell? ⟨w.heap.size + 1 + 1, 0, none⟩ = some (.int .u64 v7) := BW29_2.cell 0 rfl
  have cW29_2_1 : W29.cell? ⟨w.heap.size + 1 + 1, 1, none⟩ = some (.int .u64 v13) := BW29_2.cell 1 rfl
  have fW29_2 := BW29_2.free
  go_wp2_with fail
  refine wp_region_calm 12 (by kernel_rfl) (by kernel_rfl) ?_
  simp only [List.take_succ_cons, List.take_zero, List.drop_succ_cons, List.drop_zero]
  repeat (first
    | (refine calm_skip rfl ?_; simp only [Act.put, List.setIfInBounds_toArray, List.set_cons_zero, List.set_cons_succ])
    | (refine calm_ex rfl ?_; apply Exists.intro; refine And.intro (fun w' hk => ?_) ?_; (focus (have q0 := hk.cell cW29_0_0; have q1 := hk.cell cW29_0_1; have q2 := hk.cell cW29_0_2; have q3 := hk.cell cW29_0_3; have q4 := hk.cell cW29_0_4; have q5 := hk.cell cW29_0_5; have q6 := hk.cell cW29_0_6; have q7 := hk.cell cW29_0_7; have q8 := hk.cell cW29_0_8; have q9 := hk.cell cW29_0_9; have q10 := hk.cell cW29_0_10; have q11 := hk.cell cW29_0_11; have q12 := hk.cell cW29_0_12; have q13 := hk.cell cW29_0_13; have q14 := hk.cell cW29_0_14; have q15 := hk.cell cW29_0_15; have q16 := hk.cell cW29_1_0; have q17 := hk.cell cW29_1_1; have q18 := hk.cell cW29_2_0; have q19 := hk.cell cW29_2_1; clear hk; go_simp; exact rfl)); simp only [Act.put, List.setIfInBounds_toArray, List.set_cons_zero, List.set_cons_succ]))
  refine calm_nil ?_
  intro W30 hkW30
  have kW30 := kW29.trans hkW30
  have BW30_0 := BW29_0.kept hkW30
  have BW30_1 := BW29_1.kept hkW30
  have BW30_2 := BW29_2.kept hkW30
  clear cW29_0_0 cW29_0_1 cW29_0_2 cW29_0_3 cW29_0_4 cW29_0_5 cW29_0_6 cW29_0_7 cW29_0_8 cW29_0_9 cW29_0_10 cW29_0_11 cW29_0_12 cW29_0_13 cW29_0_14 cW29_0_15 cW29_1_0 cW29_1_1 cW29_2_0 cW29_2_1 fW29_0 fW29_1 fW29_2 BW29_0 BW29_1 BW29_2 kW29 hkW30
  have cW30_0_0 : W30.cell? ⟨w.heap.size, 0, none⟩ = some (.int .u8 b0) := BW30_0.cell 0 rfl
  have cW30_0_1 : W30.cell? ⟨w.heap.size, 1, none⟩ = some (.int .u8 b1) := BW30_0.cell 1 rfl
  have cW30_0_2 : W30.cell? ⟨w.heap.size, 2, none⟩ = some (.int .u8 b2) := BW30_0.cell 2 rfl
  have cW30_0_3 : W30.cell? ⟨w.heap.size, 3, none⟩ = some (.int .u8 b3) := BW30_0.cell 3 rfl
  have cW30_0_4 : W30.cell? ⟨w.heap.size, 4, none⟩ = some (.int .u8 b4) := BW30_0.cell 4 rfl
  have cW30_0_5 : W30.cell? ⟨w.heap.size, 5, none⟩ = some (.int .u8 b5) := BW30_0.cell 5 rfl
  have cW30_0_6 : W30.cell? ⟨w.heap.size, 6, none⟩ = some (.int .u8 b6) := BW30_0.cell 6 rfl
  have cW30_0_7 : W30.cell? ⟨w.heap.size, 7, none⟩ = some (.int .u8 b7) := BW30_0.cell 7 rfl
  have cW30_0_8 : W30.cell? ⟨w.heap.size, 8, none⟩ = some (.int .u8 b8) := BW30_0.cell 8 rfl
  have cW30_0_9 : W30.cell? ⟨w.heap.size, 9, none⟩ = some (.int .u8 b9) := BW30_0.cell 9 rfl
  have cW30_0_10 : W30.cell? ⟨w.heap.size, 10, none⟩ = some (.int .u8 b10) := BW30_0.cell 10 rfl
  have cW30_0_11 : W30.cell? ⟨w.heap.size, 11, none⟩ = some (.int .u8 b11) := BW30_0.cell 11 rfl
  have cW30_0_12 : W30.cell? ⟨w.heap.size, 12, none⟩ = some (.int .u8 b12) := BW30_0.cell 12 rfl
  have cW30_0_13 : W30.cell? ⟨w.heap.size, 13, none⟩ = some (.int .u8 b13) := BW30_0.cell 13 rfl
  have cW30_0_14 : W30.cell? ⟨w.heap.size, 14, none⟩ = some (.int .u8 b14) := BW30_0.cell 14 rfl
  have cW30_0_15 : W30.cell? ⟨w.heap.size, 15, none⟩ = some (.int .u8 b15) := BW30_0.cell 15 rfl
  have fW30_0 := BW30_0.free
  have cW30_1_0 : W30.cell? ⟨w.heap.size + 1, 0, none⟩ = some (.int .u64 0) := BW30_1.cell 0 rfl
  have cW30_1_1 : W30.cell? ⟨w.heap.size + 1, 1, none⟩ = some (.int .u64 0) := BW30_1.cell 1 rfl
  have fW30_1 := BW30_1.free
  have cW30_2_0 : W30.cell? ⟨w.heap.size + 1 + 1, 0, none⟩ = some (.int .u64 v7) := BW30_2.cell 0 rfl
  have cW30_2_1 : W30.cell? ⟨w.heap.size + 1 + 1, 1, none⟩ = some (.int .u64 v13) := BW30_2.cell 1 rfl
  have fW30_2 := BW30_2.free
  go_wp2_with fail
  rw [rounds_succ]
  refine abs_world (fun W => Kept w W ∧ Blk W (w.heap.size) 54 #[.int .u8 b0, .int .u8 b1, .int .u8 b2, .int .u8 b3, .int .u8 b4, .int .u8 b5, .int .u8 b6, .int .u8 b7, .int .u8 b8, .int .u8 b9, .int .u8 b10, .int .u8 b11, .int .u8 b12, .int .u8 b13, .int .u8 b14, .int .u8 b15] ∧ Blk W (w.heap.size + 1) 28 #[.int .u64 0, .int .u64 0] ∧ Blk W (w.heap.size + 1 + 1) 28 #[.int .u64 v7, .int .u64 v14]) ?_ ?_
  · refine ⟨?_, ?_, ?_, ?_⟩
    · repeat (first | exact kW30 | (refine Kept.setCell ?_ (kept_side (by first | assumption | omega)) _) | apply Kept.alloc | apply Kept.drew)
    · simp [Blk, *] <;> (intros; omega)
    · simp [Blk, *] <;> (intros; omega)
    · simp [Blk, *] <;> (intros; omega)
  rintro W31 ⟨kW31, BW31_0, BW31_1, BW31_2⟩
  have cW31_0_0 : W31.cell? ⟨w.heap.size, 0, none⟩ = some (.int .u8 b0) := BW31_0.cell 0 rfl
  have cW31_0_1 : W31.cell? ⟨w.heap.size, 1, none⟩ = some (.int .u8 b1) := BW31_0.cell 1 rfl
  have cW31_0_2 : W31.cell? ⟨w.heap.size, 2, none⟩ = some (.int .u8 b2) := BW31_0.cell 2 rfl
  have cW31_0_3 : W31.cell? ⟨w.heap.size, 3, none⟩ = some (.int .u8 b3) := BW31_0.cell 3 rfl
  have cW31_0_4 : W31.cell? ⟨w.heap.size, 4, none⟩ = some (.int .u8 b4) := BW31_0.cell 4 rfl
  have cW31_0_5 : W31.cell? ⟨w.heap.size, 5, none⟩ = some (.int .u8 b5) := BW31_0.cell 5 rfl
  have cW31_0_6 : W31.cell? ⟨w.heap.size, 6, none⟩ = some (.int .u8 b6) := BW31_0.cell 6 rfl
  have cW31_0_7 : W31.cell? ⟨w.heap.size, 7, none⟩ = some (.int .u8 b7) := BW31_0.cell 7 rfl
  have cW31_0_8 : W31.cell? ⟨w.heap.size, 8, none⟩ = some (.int .u8 b8) := BW31_0.cell 8 rfl
  have cW31_0_9 : W31.cell? ⟨w.heap.size, 9, none⟩ = some (.int .u8 b9) := BW31_0.cell 9 rfl
  have cW31_0_10 : W31.cell? ⟨w.heap.size, 10, none⟩ = some (.int .u8 b10) := BW31_0.cell 10 rfl
  have cW31_0_11 : W31.cell? ⟨w.heap.size, 11, none⟩ = some (.int .u8 b11) := BW31_0.cell 11 rfl
  have cW31_0_12 : W31.cell? ⟨w.heap.size, 12, none⟩ = some (.int .u8 b12) := BW31_0.cell 12 rfl
  have cW31_0_13 : W31.cell? ⟨w.heap.size, 13, none⟩ = some (.int .u8 b13) := BW31_0.cell 13 rfl
  have cW31_0_14 : W31.cell? ⟨w.heap.size, 14, none⟩ = some (.int .u8 b14) := BW31_0.cell 14 rfl
  have cW31_0_15 : W31.cell? ⟨w.heap.size, 15, none⟩ = some (.int .u8 b15) := BW31_0.cell 15 rfl
  have fW31_0 := BW31_0.free
  have cW31_1_0 : W31.cell? ⟨w.heap.size + 1, 0, none⟩ = some (.int .u64 0) := BW31_1.cell 0 rfl
  have cW31_1_1 : W31.cell? ⟨w.heap.size + 1, 1, none⟩ = some (.int .u64 0) := BW31_1.cell 1 rfl
  have fW31_1 := BW31_1.free
  have cW31_2_0 : W31.cell? ⟨w.heap.size + 1 + 1, 0, none⟩ = some (.int .u64 v7) := BW31_2.cell 0 rfl
  have cW31_2_1 : W31.cell? ⟨w.heap.size + 1 + 1, 1, none⟩ = some (.int .u64 v14) := BW31_2.cell 1 rfl
  have fW31_2 := BW31_2.free
  go_wp2_with fail
  refine wp_region_calm 12 (by kernel_rfl) (by kernel_rfl) ?_
  simp only [List.take_succ_cons, List.take_zero, List.drop_succ_cons, List.drop_zero]
  repeat (first
    | (refine calm_skip rfl ?_; simp only [Act.put, List.setIfInBounds_toArray, List.set_cons_zero, List.set_cons_succ])
    | (refine calm_ex rfl ?_; apply Exists.intro; refine And.intro (fun w' hk => ?_) ?_; (focus (have q0 := hk.cell cW31_0_0; have q1 := hk.cell cW31_0_1; have q2 := hk.cell cW31_0_2; have q3 := hk.cell cW31_0_3; have q4 := hk.cell cW31_0_4; have q5 := hk.cell cW31_0_5; have q6 := hk.cell cW31_0_6; have q7 := hk.cell cW31_0_7; have q8 := hk.cell cW31_0_8; have q9 := hk.cell cW31_0_9; have q10 := hk.cell cW31_0_10; have q11 := hk.cell cW31_0_11; have q12 := hk.cell cW31_0_12; have q13 := hk.cell cW31_0_13; have q14 := hk.cell cW31_0_14; have q15 := hk.cell cW31_0_15; have q16 := hk.cell cW31_1_0; have q17 := hk.cell cW31_1_1; have q18 := hk.cell cW31_2_0; have q19 := hk.cell cW31_2_1; clear hk; go_simp; exact rfl)); simp only [Act.put, List.setIfInBounds_toArray, List.set_cons_zero, List.set_cons_succ]))
  refine calm_nil ?_
  intro W32 hkW32
  have kW32 := kW31.trans hkW32
  have BW32_0 := BW31_0.kept hkW32
  have BW32_1 := BW31_1.kept hkW32
  have BW32_2 := BW31_2.kept hkW32
  clear cW31_0_0 cW31_0_1 cW31_0_2 cW31_0_3 cW31_0_4 cW31_0_5 cW31_0_6 cW31_0_7 cW31_0_8 cW31_0_9 cW31_0_10 cW31_0_11 cW31_0_12 cW31_0_13 cW31_0_14 cW31_0_15 cW31_1_0 cW31_1_1 cW31_2_0 cW31_2_1 fW31_0 fW31_1 fW31_2 BW31_0 BW31_1 BW31_2 kW31 hkW32
  have cW32_0_0 : W32.cell? ⟨w.heap.size, 0, none⟩ = some (.int .u8 b0) := BW32_0.cell 0 rfl
  have cW32_0_1 : W32.cell? ⟨w.heap.size, 1, none⟩ = some (.int .u8 b1) := BW32_0.cell 1 rfl
  have cW32_0_2 : W32.cell? ⟨w.heap.size, 2, none⟩ = some (.int .u8 b2) := BW32_0.cell 2 rfl
  have cW32_0_3 : W32.cell? ⟨w.heap.size, 3, none⟩ = some (.int .u8 b3) := BW32_0.cell 3 rfl
  have cW32_0_4 : W32.cell? ⟨w.heap.size, 4, none⟩ = some (.int .u8 b4) := BW32_0.cell 4 rfl
  have cW32_0_5 : W32.cell? ⟨w.heap.size, 5, none⟩ = some (.int .u8 b5) := BW32_0.cell 5 rfl
  have cW32_0_6 : W32.cell? ⟨w.heap.size, 6, none⟩ = some (.int .u8 b6) := BW32_0.cell 6 rfl
  have cW32_0_7 : W32.cell? ⟨w.heap.size, 7, none⟩ = some (.int .u8 b7) := BW32_0.cell 7 rfl
  have cW32_0_8 : W32.cell? ⟨w.heap.size, 8, none⟩ = some (.int .u8 b8) := BW32_0.cell 8 rfl
  have cW32_0_9 : W32.cell? ⟨w.heap.size, 9, none⟩ = some (.int .u8 b9) := BW32_0.cell 9 rfl
  have cW32_0_10 : W32.cell? ⟨w.heap.size, 10, none⟩ = some (.int .u8 b10) := BW32_0.cell 10 rfl
  have cW32_0_11 : W32.cell? ⟨w.heap.size, 11, none⟩ = some (.int .u8 b11) := BW32_0.cell 11 rfl
  have cW32_0_12 : W32.cell? ⟨w.heap.size, 12, none⟩ = some (.int .u8 b12) := BW32_0.cell 12 rfl
  have cW32_0_13 : W32.cell? ⟨w.heap.size, 13, none⟩ = some (.int .u8 b13) := BW32_0.cell 13 rfl
  have cW32_0_14 : W32.cell? ⟨w.heap.size, 14, none⟩ = some (.int .u8 b14) := BW32_0.cell 14 rfl
  have cW32_0_15 : W32.cell? ⟨w.heap.size, 15, none⟩ = some (.int .u8 b15) := BW32_0.cell 15 rfl
  have fW32_0 := BW32_0.free
  have cW32_1_0 : W32.cell? ⟨w.heap.size + 1, 0, none⟩ = some (.int .u64 0) := BW32_1.cell 0 rfl
  have cW32_1_1 : W32.cell? ⟨w.heap.size + 1, 1, none⟩ = some (.int .u64 0) := BW32_1.cell 1 rfl
  have fW32_1 := BW32_1.free
  have cW32_2_0 : W32.cell? ⟨w.heap.size + 1 + 1, 0, none⟩ = some (.int .u64 v7) := BW32_2.cell 0 rfl
  have cW32_2_1 : W32.cell? ⟨w.heap.size + 1 + 1, 1, none⟩ = some (.int .u64 v14) := BW32_2.cell 1 rfl
  have fW32_2 := BW32_2.free
  go_wp2_with fail
  rw [rounds_succ]
  refine abs_world (fun W => Kept w W ∧ Blk W (w.heap.size) 54 #[.int .u8 b0, .int .u8 b1, .int .u8 b2, .int .u8 b3, .int .u8 b4, .int .u8 b5, .int .u8 b6, .int .u8 b7, .int .u8 b8, .int .u8 b9, .int .u8 b10, .int .u8 b11, .int .u8 b12, .int .u8 b13, .int .u8 b14, .int .u8 b15] ∧ Blk W (w.heap.size + 1) 28 #[.int .u64 0, .int .u64 0] ∧ Blk W (w.heap.size + 1 + 1) 28 #[.int .u64 v7, .int .u64 v15]) ?_ ?_
  · refine ⟨?_, ?_, ?_, ?_⟩
    · repeat (first | exact kW32 | (refine Kept.setCell ?_ (kept_side (by first | assumption | omega)) _) | apply Kept.alloc | apply Kept.drew)
    · simp [Blk, *] <;> (intros; omega)
    · simp [Blk, *] <;> (intros; omega)
    · simp [Blk, *] <;> (intros; omega)
  rintro W33 ⟨kW33, BW33_0, BW33_1, BW33_2⟩
  have cW33_0_0 : W33.cell? ⟨w.heap.size, 0, none⟩ = some (.int .u8 b0) := BW33_0.cell 0 rfl
  have cW33_0_1 : W33.cell? ⟨w.heap.size, 1, none⟩ = some (.int .u8 b1) := BW33_0.cell 1 rfl
  have cW33_0_2 : W33.cell? ⟨w.heap.size, 2, none⟩ = some (.int .u8 b2) := BW33_0.cell 2 rfl
  have cW33_0_3 : W33.cell? ⟨w.heap.size, 3, none⟩ = some (.int .u8 b3) := BW33_0.cell 3 rfl
  have cW33_0_4 : W33.cell? ⟨w.heap.size, 4, none⟩ = some (.int .u8 b4) := BW33_0.cell 4 rfl
  have cW33_0_5 : W33.cell? ⟨w.heap.size, 5, none⟩ = some (.int .u8 b5) := BW33_0.cell 5 rfl
  have cW33_0_6 : W33.cell? ⟨w.heap.size, 6, none⟩ = some (.int .u8 b6) := BW33_0.cell 6 rfl
  have cW33_0_7 : W33.cell? ⟨w.heap.size, 7, none⟩ = some (.int .u8 b7) := BW33_0.cell 7 rfl
  have cW33_0_8 : W33.cell? ⟨w.heap.size, 8, none⟩ = some (.int .u8 b8) := BW33_0.cell 8 rfl
  have cW33_0_9 : W33.cell? ⟨w.heap.size, 9, none⟩ = some (.int .u8 b9) := BW33_0.cell 9 rfl
  have cW33_0_10 : W33.cell? ⟨w.heap.size, 10, none⟩ = some (.int .u8 b10) := BW33_0.cell 10 rfl
  have cW33_0_11 : W33.cell? ⟨w.heap.size, 11, none⟩ = some (.int .u8 b11) := BW33_0.cell 11 rfl
  have cW33_0_12 : W33.cell? ⟨w.heap.size, 12, none⟩ = some (.int .u8 b12) := BW33_0.cell 12 rfl
  have cW33_0_13 : W33.cell? ⟨w.heap.size, 13, none⟩ = some (.int .u8 b13) := BW33_0.cell 13 rfl
  have cW33_0_14 : W33.cell? ⟨w.heap.size, 14, none⟩ = some (.int .u8 b14) := BW33_0.cell 14 rfl
  have cW33_0_15 : W33.cell? ⟨w.heap.size, 15, none⟩ = some (.int .u8 b15) := BW33_0.cell 15 rfl
  have fW33_0 := BW33_0.free
  have cW33_1_0 : W33.cell? ⟨w.heap.size + 1, 0, none⟩ = some (.int .u64 0) := BW33_1.cell 0 rfl
  have cW33_1_1 : W33.cell? ⟨w.heap.size + 1, 1, none⟩ = some (.int .u64 0) := BW33_1.cell 1 rfl
  have fW33_1 := BW33_1.free
  have cW33_2_0 : W33.cell? ⟨w.heap.size + 1 + 1, 0, none⟩ = some (.int .u64 v7) := BW33_2.cell 0 rfl
  have cW33_2_1 : W33.cell? ⟨w.heap.size + 1 + 1, 1, none⟩ = some (.int .u64 v15) := BW33_2.cell 1 rfl
  have fW33_2 := BW33_2.free
  go_wp2_with fail
  refine (HI.out _).mono ?_
  rintro e W34 ⟨rfl, hkW34⟩
  have kW34 := kW33.trans hkW34
  have BW34_0 := BW33_0.kept hkW34
  have BW34_1 := BW33_1.kept hkW34
  have BW34_2 := BW33_2.kept hkW34
  clear cW33_0_0 cW33_0_1 cW33_0_2 cW33_0_3 cW33_0_4 cW33_0_5 cW33_0_6 cW33_0_7 cW33_0_8 cW33_0_9 cW33_0_10 cW33_0_11 cW33_0_12 cW33_0_13 cW33_0_14 cW33_0_15 cW33_1_0 cW33_1_1 cW33_2_0 cW33_2_1 fW33_0 fW33_1 fW33_2 BW33_0 BW33_1 BW33_2 kW33 hkW34
  have cW34_0_0 : W34.cell? ⟨w.heap.size, 0, none⟩ = some (.int .u8 b0) := BW34_0.cell 0 rfl
  have cW34_0_1 : W34.cell? ⟨w.heap.size, 1, none⟩ = some (.int .u8 b1) := BW34_0.cell 1 rfl
  have cW34_0_2 : W34.cell? ⟨w.heap.size, 2, none⟩ = some (.int .u8 b2) := BW34_0.cell 2 rfl
  have cW34_0_3 : W34.cell? ⟨w.heap.size, 3, none⟩ = some (.int .u8 b3) := BW34_0.cell 3 rfl
  have cW34_0_4 : W34.cell? ⟨w.heap.size, 4, none⟩ = some (.int .u8 b4) := BW34_0.cell 4 rfl
  have cW34_0_5 : W34.cell? ⟨w.heap.size, 5, none⟩ = some (.int .u8 b5) := BW34_0.cell 5 rfl
  have cW34_0_6 : W34.cell? ⟨w.heap.size, 6, none⟩ = some (.int .u8 b6) := BW34_0.cell 6 rfl
  have cW34_0_7 : W34.cell? ⟨w.heap.size, 7, none⟩ = some (.int .u8 b7) := BW34_0.cell 7 rfl
  have cW34_0_8 : W34.cell? ⟨w.heap.size, 8, none⟩ = some (.int .u8 b8) := BW34_0.cell 8 rfl
  have cW34_0_9 : W34.cell? ⟨w.heap.size, 9, none⟩ = some (.int .u8 b9) := BW34_0.cell 9 rfl
  have cW34_0_10 : W34.cell? ⟨w.heap.size, 10, none⟩ = some (.int .u8 b10) := BW34_0.cell 10 rfl
  have cW34_0_11 : W34.cell? ⟨w.heap.size, 11, none⟩ = some (.int .u8 b11) := BW34_0.cell 11 rfl
  have cW34_0_12 : W34.cell? ⟨w.heap.size, 12, none⟩ = some (.int .u8 b12) := BW34_0.cell 12 rfl
  have cW34_0_13 : W34.cell? ⟨w.heap.size, 13, none⟩ = some (.int .u8 b13) := BW34_0.cell 13 rfl
  have cW34_0_14 : W34.cell? ⟨w.heap.size, 14, none⟩ = some (.int .u8 b14) := BW34_0.cell 14 rfl
  have cW34_0_15 : W34.cell? ⟨w.heap.size, 15, none⟩ = some (.int .u8 b15) := BW34_0.cell 15 rfl
  have fW34_0 := BW34_0.free
  have cW34_1_0 : W34.cell? ⟨w.heap.size + 1, 0, none⟩ = some (.int .u64 0) := BW34_1.cell 0 rfl
  have cW34_1_1 : W34.cell? ⟨w.heap.size + 1, 1, none⟩ = some (.int .u64 0) := BW34_1.cell 1 rfl
  have fW34_1 := BW34_1.free
  have cW34_2_0 : W34.cell? ⟨w.heap.size + 1 + 1, 0, none⟩ = some (.int .u64 v7) := BW34_2.cell 0 rfl
  have cW34_2_1 : W34.cell? ⟨w.heap.size + 1 + 1, 1, none⟩ = some (.int .u64 v15) := BW34_2.cell 1 rfl
  have fW34_2 := BW34_2.free
  go_wp2_with fail
  go_wp2_with fail
  refine bodyPost_ret (v := .tuple #[.agg #[.int .u64 0, .int .u64 0], .int .i64 7]) (by simp [results, Try.results57, go_sem, *]) rfl ⟨rfl, ?_⟩
  repeat (first | exact kW34 | (refine Kept.setCell ?_ (kept_side (by first | assumption | omega)) _) | apply Kept.alloc | apply Kept.drew)
end Go.Proofs.Ytnajihlhcdedgaa

namespace Go.Proofs.Ytnajihlhcdedgaa
open Go.RowKit
set_option linter.unusedVariables false
set_option linter.unusedSimpArgs false
attribute [local simp] blkAt_setCell blkAt_alloc blkAt_drew Obj.put_cells
theorem reads_bytes {w : World} {v : Value} {bs : List Int} (h : Reads w v (bytesV bs)) (hne : bs ≠ []) : ∃ b o cap, v = .slice (some ⟨b, o, none⟩) bs.length cap ∧ bs.length ≤ cap ∧ ∀ j, j < bs.length → w.cell? ⟨b, o + j, none⟩ = some (.int .u8 (bs.getD j 0)) := by
  rcases h with ⟨_, h⟩ | ⟨b, o, cap, h1, h2, h3⟩
  · unfold bytesV at h; exact absurd (List.map_eq_nil_iff.1 h) hne
  · rw [show (bytesV bs).length = bs.length by simp [bytesV]] at h1 h2
    refine ⟨b, o, cap, h1, h2, fun j hj => h3 j _ ?_⟩
    rw [List.getD_eq_getElem?_getD, List.getElem?_eq_getElem hj]
    simp [bytesV, hj]
theorem conv_reads {w : World} {v : Value} {bs : List Int} (h : Reads w v (bytesV bs)) (hne : bs ≠ []) (hb : ∀ x ∈ bs, isByte x) : (convert 42 9 v).run Try.prog w = .ok (.string (strOf bs)) w := by
  obtain ⟨b, o, cap, rfl, _, h3⟩ := reads_bytes h hne
  exact conv_str Try.underlying42 Try.underlying5 Try.underlying9 w hb h3
end Go.Proofs.Ytnajihlhcdedgaa

namespace Go.Proofs.Ytnajihlhcdedgaa
open Go.RowKit
set_option linter.unusedVariables false
theorem list16 {l : List Int} (h : l.length = 16) : ∃ x0 x1 x2 x3 x4 x5 x6 x7 x8 x9 x10 x11 x12 x13 x14 x15, l = [x0, x1, x2, x3, x4, x5, x6, x7, x8, x9, x10, x11, x12, x13, x14, x15] := by
  match l, h with
  | [x0, x1, x2, x3, x4, x5, x6, x7, x8, x9, x10, x11, x12, x13, x14, x15], _ => exact ⟨_, _, _, _, _, _, _, _, _, _, _, _, _, _, _, _, rfl⟩
set_option maxRecDepth 100000 in
set_option maxHeartbeats 4000000 in
theorem w_Take {bs : List Int} (hl : bs.length = 16) (hb : ∀ b ∈ bs, isByte b) :
    Pure Try.prog 57 #[.agg (bytesV bs).toArray] (if leVal bs < wP then .tuple #[E (leVal bs), .int .i64 0] else .tuple #[.agg #[.int .u64 0, .int .u64 0], .int .i64 7]) := fun w => by
  obtain ⟨b0, b1, b2, b3, b4, b5, b6, b7, b8, b9, b10, b11, b12, b13, b14, b15, rfl⟩ := list16 hl
  have h0 := hb b0 (by simp)
  have h1 := hb b1 (by simp)
  have h2 := hb b2 (by simp)
  have h3 := hb b3 (by simp)
  have h4 := hb b4 (by simp)
  have h5 := hb b5 (by simp)
  have h6 := hb b6 (by simp)
  have h7 := hb b7 (by simp)
  have h8 := hb b8 (by simp)
  have h9 := hb b9 (by simp)
  have h10 := hb b10 (by simp)
  have h11 := hb b11 (by simp)
  have h12 := hb b12 (by simp)
  have h13 := hb b13 (by simp)
  have h14 := hb b14 (by simp)
  have h15 := hb b15 (by simp)
  unfold isByte at h0 h1 h2 h3 h4 h5 h6 h7 h8 h9 h10 h11 h12 h13 h14 h15
  clear hb hl
  have e : leVal [b0, b1, b2, b3, b4, b5, b6, b7, b8, b9, b10, b11, b12, b13, b14, b15] = (b0 + b1 * 256 + b2 * 65536 + b3 * 16777216 + b4 * 4294967296 + b5 * 1099511627776 + b6 * 281474976710656 + b7 * 72057594037927936) + (b8 + b9 * 256 + b10 * 65536 + b11 * 16777216 + b12 * 4294967296 + b13 * 1099511627776 + b14 * 281474976710656 + b15 * 72057594037927936) * 18446744073709551616 := by simp only [leVal]; omega
  rw [e]
  have hlo : is64 (b0 + b1 * 256 + b2 * 65536 + b3 * 16777216 + b4 * 4294967296 + b5 * 1099511627776 + b6 * 281474976710656 + b7 * 72057594037927936) := by unfold is64; omega
  have hhi : is64 (b8 + b9 * 256 + b10 * 65536 + b11 * 16777216 + b12 * 4294967296 + b13 * 1099511627776 + b14 * 281474976710656 + b15 * 72057594037927936) := by unfold is64; omega
  have o0 : bits .or .u64 0 b0 = b0 := by
    have := bits_or_add 0 b0 0 (by omega) (by omega) (by omega) (by omega)
    simpa using this
  have o1 : bits .or .u64 (b0) (b1 * 256) = b0 + b1 * 256 := bits_or_add _ b1 8 (by omega) (by omega) (by omega) (by omega)
  have o2 : bits .or .u64 (b0 + b1 * 256) (b2 * 65536) = b0 + b1 * 256 + b2 * 65536 := bits_or_add _ b2 16 (by omega) (by omega) (by omega) (by omega)
  have o3 : bits .or .u64 (b0 + b1 * 256 + b2 * 65536) (b3 * 16777216) = b0 + b1 * 256 + b2 * 65536 + b3 * 16777216 := bits_or_add _ b3 24 (by omega) (by omega) (by omega) (by omega)
  have o4 : bits .or .u64 (b0 + b1 * 256 + b2 * 65536 + b3 * 16777216) (b4 * 4294967296) = b0 + b1 * 256 + b2 * 65536 + b3 * 16777216 + b4 * 4294967296 := bits_or_add _ b4 32 (by omega) (by omega) (by omega) (by omega)
  have o5 : bits .or .u64 (b0 + b1 * 256 + b2 * 65536 + b3 * 16777216 + b4 * 4294967296) (b5 * 1099511627776) = b0 + b1 * 256 + b2 * 65536 + b3 * 16777216 + b4 * 4294967296 + b5 * 1099511627776 := bits_or_add _ b5 40 (by omega) (by omega) (by omega) (by omega)
  have o6 : bits .or .u64 (b0 + b1 * 256 + b2 * 65536 + b3 * 16777216 + b4 * 4294967296 + b5 * 1099511627776) (b6 * 281474976710656) = b0 + b1 * 256 + b2 * 65536 + b3 * 16777216 + b4 * 4294967296 + b5 * 1099511627776 + b6 * 281474976710656 := bits_or_add _ b6 48 (by omega) (by omega) (by omega) (by omega)
  have o7 : bits .or .u64 (b0 + b1 * 256 + b2 * 65536 + b3 * 16777216 + b4 * 4294967296 + b5 * 1099511627776 + b6 * 281474976710656) (b7 * 72057594037927936) = b0 + b1 * 256 + b2 * 65536 + b3 * 16777216 + b4 * 4294967296 + b5 * 1099511627776 + b6 * 281474976710656 + b7 * 72057594037927936 := bits_or_add _ b7 56 (by omega) (by omega) (by omega) (by omega)
  have o8 : bits .or .u64 0 b8 = b8 := by
    have := bits_or_add 0 b8 0 (by omega) (by omega) (by omega) (by omega)
    simpa using this
  have o9 : bits .or .u64 (b8) (b9 * 256) = b8 + b9 * 256 := bits_or_add _ b9 8 (by omega) (by omega) (by omega) (by omega)
  have o10 : bits .or .u64 (b8 + b9 * 256) (b10 * 65536) = b8 + b9 * 256 + b10 * 65536 := bits_or_add _ b10 16 (by omega) (by omega) (by omega) (by omega)
  have o11 : bits .or .u64 (b8 + b9 * 256 + b10 * 65536) (b11 * 16777216) = b8 + b9 * 256 + b10 * 65536 + b11 * 16777216 := bits_or_add _ b11 24 (by omega) (by omega) (by omega) (by omega)
  have o12 : bits .or .u64 (b8 + b9 * 256 + b10 * 65536 + b11 * 16777216) (b12 * 4294967296) = b8 + b9 * 256 + b10 * 65536 + b11 * 16777216 + b12 * 4294967296 := bits_or_add _ b12 32 (by omega) (by omega) (by omega) (by omega)
  have o13 : bits .or .u64 (b8 + b9 * 256 + b10 * 65536 + b11 * 16777216 + b12 * 4294967296) (b13 * 1099511627776) = b8 + b9 * 256 + b10 * 65536 + b11 * 16777216 + b12 * 4294967296 + b13 * 1099511627776 := bits_or_add _ b13 40 (by omega) (by omega) (by omega) (by omega)
  have o14 : bits .or .u64 (b8 + b9 * 256 + b10 * 65536 + b11 * 16777216 + b12 * 4294967296 + b13 * 1099511627776) (b14 * 281474976710656) = b8 + b9 * 256 + b10 * 65536 + b11 * 16777216 + b12 * 4294967296 + b13 * 1099511627776 + b14 * 281474976710656 := bits_or_add _ b14 48 (by omega) (by omega) (by omega) (by omega)
  have o15 : bits .or .u64 (b8 + b9 * 256 + b10 * 65536 + b11 * 16777216 + b12 * 4294967296 + b13 * 1099511627776 + b14 * 281474976710656) (b15 * 72057594037927936) = b8 + b9 * 256 + b10 * 65536 + b11 * 16777216 + b12 * 4294967296 + b13 * 1099511627776 + b14 * 281474976710656 + b15 * 72057594037927936 := bits_or_add _ b15 56 (by omega) (by omega) (by omega) (by omega)
  have hE := E_mk (hi := b8 + b9 * 256 + b10 * 65536 + b11 * 16777216 + b12 * 4294967296 + b13 * 1099511627776 + b14 * 281474976710656 + b15 * 72057594037927936) hlo
  have hI := w_In (a := (b0 + b1 * 256 + b2 * 65536 + b3 * 16777216 + b4 * 4294967296 + b5 * 1099511627776 + b6 * 281474976710656 + b7 * 72057594037927936) + (b8 + b9 * 256 + b10 * 65536 + b11 * 16777216 + b12 * 4294967296 + b13 * 1099511627776 + b14 * 281474976710656 + b15 * 72057594037927936) * 18446744073709551616) (by unfold is64 at hlo hhi; unfold is128; omega)
  rw [hE] at hI ⊢
  by_cases h : (b0 + b1 * 256 + b2 * 65536 + b3 * 16777216 + b4 * 4294967296 + b5 * 1099511627776 + b6 * 281474976710656 + b7 * 72057594037927936) + (b8 + b9 * 256 + b10 * 65536 + b11 * 16777216 + b12 * 4294967296 + b13 * 1099511627776 + b14 * 281474976710656 + b15 * 72057594037927936) * 18446744073709551616 < wP
  · rw [if_pos h]
    rw [decide_eq_true h] at hI
    exact wide_Take_yes b0 _ b1 _ b2 _ b3 _ b4 _ b5 _ b6 _ b7 _ b8 _ b9 _ b10 _ b11 _ b12 _ b13 _ b14 _ b15 _ w h0.1 h0.2 h1.1 h1.2 h2.1 h2.2 h3.1 h3.2 h4.1 h4.2 h5.1 h5.2 h6.1 h6.2 h7.1 h7.2 h8.1 h8.2 h9.1 h9.2 h10.1 h10.2 h11.1 h11.2 h12.1 h12.2 h13.1 h13.2 h14.1 h14.2 h15.1 h15.2 o0 o1 o2 o3 o4 o5 o6 o7 o8 o9 o10 o11 o12 o13 o14 o15 hI
  · rw [if_neg h]
    rw [decide_eq_false h] at hI
    exact wide_Take_no b0 _ b1 _ b2 _ b3 _ b4 _ b5 _ b6 _ b7 _ b8 _ b9 _ b10 _ b11 _ b12 _ b13 _ b14 _ b15 _ w h0.1 h0.2 h1.1 h1.2 h2.1 h2.2 h3.1 h3.2 h4.1 h4.2 h5.1 h5.2 h6.1 h6.2 h7.1 h7.2 h8.1 h8.2 h9.1 h9.2 h10.1 h10.2 h11.1 h11.2 h12.1 h12.2 h13.1 h13.2 h14.1 h14.2 h15.1 h15.2 o0 o1 o2 o3 o4 o5 o6 o7 o8 o9 o10 o11 o12 o13 o14 o15 hI
end Go.Proofs.Ytnajihlhcdedgaa

namespace Go.Proofs.Ytnajihlhcdedgaa
open Go.RowKit
set_option linter.unusedVariables false
set_option linter.unusedSimpArgs false
/-- A number turned by n. -/
def rotL (x : Int) (n : Nat) : Int := x * 2 ^ n % 18446744073709551616 + x / 2 ^ (64 - n)
end Go.Proofs.Ytnajihlhcdedgaa

namespace Go.Proofs.Ytnajihlhcdedgaa
open Go.RowKit
set_option linter.unusedVariables false
set_option linter.unusedSimpArgs false
/-- The sum of column c over the first i lanes. -/
def sumTo (s : Nat → Int) : Nat → Nat → Int
  | 0, _ => 0
  | i + 1, c => if c = i % 5 then bits .xor .u64 (sumTo s i c) (s i) else sumTo s i c
/-- What mix makes of the lanes. -/
def kmix (s : Nat → Int) (i : Nat) : Int := bits .xor .u64 (s i) (bits .xor .u64 (sumTo s 25 ((i + 4) % 5)) (rotL (sumTo s 25 ((i + 1) % 5)) 1))
end Go.Proofs.Ytnajihlhcdedgaa

namespace Go.Proofs.Ytnajihlhcdedgaa
open Go.RowKit
set_option linter.unusedVariables false
set_option linter.unusedSimpArgs false
/-- By how much each lane is turned. -/
def turnL : List Nat := [0, 1, 62, 28, 27, 36, 44, 6, 55, 20, 3, 10, 43, 25, 39, 41, 45, 15, 21, 8, 18, 2, 61, 56, 14]
def turnN (i : Nat) : Nat := turnL.getD i 0
/-- What is added in each round. -/
def conL : List Int := [2147516555, 9223372036854775947, 9223372036854808713, 9223372036854808579, 9223372036854808578, 9223372036854775936, 32778, 9223372039002259466, 9223372039002292353, 9223372036854808704, 2147483649, 9223372039002292232]
def conN (i : Nat) : Int := conL.getD i 0
end Go.Proofs.Ytnajihlhcdedgaa

namespace Go.Proofs.Ytnajihlhcdedgaa
open Go.RowKit
set_option linter.unusedVariables false
set_option linter.unusedSimpArgs false
/-- Whence lane j came. -/
def source (j : Nat) : Nat := 5 * (j % 5) + (j / 5 + 2 * (j % 5)) * 3 % 5
/-- What move makes of the lanes. -/
def kmove (s : Nat → Int) (j : Nat) : Int := rotL (s (source j)) (turnN (source j))
/-- What bend makes of the lanes. -/
def kbend (s : Nat → Int) (i : Nat) : Int := bits .xor .u64 (s i) (bits .and .u64 (bits .xor .u64 18446744073709551615 (s (i / 5 * 5 + (i + 1) % 5))) (s (i / 5 * 5 + (i + 2) % 5)))
end Go.Proofs.Ytnajihlhcdedgaa

namespace Go.Proofs.Ytnajihlhcdedgaa
open Go.RowKit
set_option linter.unusedVariables false
set_option linter.unusedSimpArgs false
/-- A round. -/
def kround (k : Nat) (s : Nat → Int) (i : Nat) : Int := if i = 0 then bits .xor .u64 (kbend (kmove (kmix s)) 0) (conN k) else kbend (kmove (kmix s)) i
/-- The first k rounds. -/
def kperm : Nat → (Nat → Int) → Nat → Int
  | 0, s => s
  | k + 1, s => kround k (kperm k s)
end Go.Proofs.Ytnajihlhcdedgaa

namespace Go.Proofs.Ytnajihlhcdedgaa
open Go.RowKit
set_option linter.unusedVariables false
set_option linter.unusedSimpArgs false
/-- What stands behind the lanes of a sponge. -/
def spF (a d : Int) (g : Bool) (i : Nat) : Value := if i = 25 then .int .i64 a else if i = 26 then .int .u8 d else if i = 27 then .bool g else undef
/-- A sponge. -/
abbrev Sp (w : World) (b : Nat) (s : Nat → Int) (a d : Int) (g : Bool) : Prop := Blk w b 139 (rowF 28 (lanes s (spF a d g)))
/-- A byte added at a place. -/
def kflip (s : Nat → Int) (a : Nat) (c : Int) (i : Nat) : Int := if i = a / 8 then bits .xor .u64 (s (a / 8)) (c * 2 ^ (8 * (a % 8))) else s i
end Go.Proofs.Ytnajihlhcdedgaa

namespace Go.Proofs.Ytnajihlhcdedgaa
open Go.RowKit
set_option linter.unusedVariables false
set_option linter.unusedSimpArgs false
/-- A slice whose cells lie in blocks below N reads as the bytes C 0, .. -/
structure SlB (w : World) (a : Option Addr) (n cap N : Nat) (C : Nat → Int) : Prop where
  at' : ∀ j, j < n → ∃ p : Addr, (∀ w', (Instr.indexAt 42 (.slice a n cap) (.int .i64 (j : Int))).run Try.prog w' = .ok (.pointer (some p)) w') ∧ w.cell? p = some (.int .u8 (C j)) ∧ p.block < N
  byte : ∀ j, j < n → 0 ≤ C j ∧ C j ≤ 255
theorem Touch.cell {b : Nat} {w w' : World} (k : Touch b w w') {p : Addr} {v : Value} (h : w.cell? p = some v) (hb : p.block ≠ b) : w'.cell? p = some v := by
  have hlt := block_lt_of_cell h
  unfold World.cell? at h ⊢
  rw [k.block p.block hlt hb]
  exact h
theorem SlB.kept {w w' : World} {a : Option Addr} {n cap N : Nat} {C : Nat → Int} (h : SlB w a n cap N C) (k : Kept w w') : SlB w' a n cap N C :=
  ⟨fun j hj => let ⟨p, h1, h2, h3⟩ := h.at' j hj; ⟨p, h1, k.cell h2, h3⟩, h.byte⟩
/-- A full block is permuted before more comes. -/
def norm (s : Nat → Int) (a : Nat) : Nat → Int := if a = 168 then kperm 12 s else s
def normA (a : Nat) : Nat := if a = 168 then 0 else a
/-- The lanes, and the place, when i bytes are in. -/
def takes (C : Nat → Int) (s : Nat → Int) (a : Nat) : Nat → (Nat → Int) × Nat
  | 0 => (s, a)
  | i + 1 => (kflip (norm (takes C s a i).1 (takes C s a i).2) (normA (takes C s a i).2) (C i), normA (takes C s a i).2 + 1)
end Go.Proofs.Ytnajihlhcdedgaa

namespace Go.Proofs.Ytnajihlhcdedgaa
open Go.ChangeShapes Go.WideShapes Go.ChangeAt Go.RowKit
open Go.ChangeMaps (open_string shut_string)
set_option linter.unusedVariables false
theorem own : ownKnob Try.prog.godebug = none := by kernel_rfl
theorem laidOut : laidOutB Try.prog = true := by kernel_rfl
section
variable {H : Type} {enc : TypeId × Value → H} {P : Program} {w : World} {base : Nat} {spare : Nat → Bool} {held : Bool} {r : Reach} {b : Nat} {t : TypeId} {v : Value} {d : DataW H} {p : List MemPlace}
end
end Go.Proofs.Ytnajihlhcdedgaa

namespace Go.Proofs.Ytnajihlhcdedgaa
open Go.ChangeShapes Go.WideShapes Go.ChangeAt Go.RowKit
set_option linter.unusedVariables false
theorem run_index_at {t e : TypeId} {ad : Addr} {n cap j : Nat} (ht : Try.prog.underlying t = some (.slice e)) (he : (Try.prog.info? e).map (fun i => i.size) = some 1) (hj : j < n) (w : World) :
    (Instr.indexAt t (.slice (some ad) n cap) (.int .i64 (j : Int))).run Try.prog w = .ok (.pointer (some (ad.add j))) w := by
  cases hq : Try.prog.info? e with
  | none => simp [hq] at he
  | some i =>
    have hs : i.size = 1 := by simpa [hq] using he
    have h1 : (0 : Int) ≤ (j : Int) := by omega
    have h2 : (j : Int) < (n : Int) := by omega
    simp [Instr.indexAt, run_underlying ht, asIntOf, sizeOf, typeInfo, hq, hs, hj]
theorem size5 : (Try.prog.info? 5).map (fun i => i.size) = some 1 := by kernel_rfl
theorem add_zero_at (g j : Nat) : (⟨g, 0, none⟩ : Addr).add j = ⟨g, j, none⟩ := by rw [Addr.add_lit]; simp
theorem SlB.mono {w : World} {a : Option Addr} {n cap N M : Nat} {C : Nat → Int} (h : SlB w a n cap N C) (hM : N ≤ M) : SlB w a n cap M C :=
  ⟨fun j hj => let ⟨p, h1, h2, h3⟩ := h.at' j hj; ⟨p, h1, h2, Nat.lt_of_lt_of_le h3 hM⟩, h.byte⟩
/-- What a slice of bytes of the call's own reads as. -/
theorem SlB.of_own {w : World} {base n : Nat} {a : Option Addr} {cap : Nat} {C : Nat → Int} (h : w.ownsRow base 5 1 (.slice a n cap) n ((List.range n).map fun j => Value.int .u8 (C j))) (hb : ∀ j, j < n → 0 ≤ C j ∧ C j ≤ 255) : SlB w a n cap w.heap.size C := by
  refine ⟨fun j hj => ?_, hb⟩
  rcases h.2 with ⟨h1, rfl⟩ | ⟨g, cap', cur, h1, h2⟩
  · omega
  · injection h1 with h1 h3 h4
    subst h1
    have hc := h.cells (g := g) rfl j (Value.int .u8 (C j)) (by simp [hj])
    exact ⟨_, fun w' => run_index_at Try.underlying42 size5 hj w', hc, block_lt_of_cell hc⟩
/-- Bytes as values. -/
def bytesR (n : Nat) (C : Nat → Int) : List Value := (List.range n).map fun j => Value.int .u8 (C j)
/-- The bytes as a string. -/
def strR (n : Nat) (C : Nat → Int) : ByteArray := strOf ((List.range n).map C)
theorem conv_nil (w : World) : (convert 42 9 (.slice none 0 0)).run Try.prog w = .ok (.string (strOf [])) w := by kernel_rfl
theorem conv_R {w : World} {v : Value} {n : Nat} {C : Nat → Int} (h : Reads w v (bytesR n C)) (hb : ∀ j, j < n → 0 ≤ C j ∧ C j ≤ 255) : (convert 42 9 v).run Try.prog w = .ok (.string (strR n C)) w := by
  rcases h with ⟨rfl, h⟩ | ⟨b, o, cap, h1, h2, h3⟩
  · have h0 : n = 0 := by
      have := congrArg List.length h
      simpa [bytesR] using this
    subst h0
    exact conv_nil w
  · have hl : (bytesR n C).length = ((List.range n).map C).length := by simp [bytesR]
    rw [h1, hl]
    refine conv_str Try.underlying42 Try.underlying5 Try.underlying9 w ?_ ?_
    · intro x hx
      obtain ⟨j, hj, rfl⟩ := List.mem_map.1 hx
      exact hb j (List.mem_range.1 hj)
    · intro j hj
      have hj' : j < n := by simpa using hj
      refine h3 j _ ?_
      rw [List.getD_eq_getElem?_getD]
      simp [bytesR, hj']
section
variable {H : Type} {enc : TypeId × Value → H} {W : World} {base : Nat} {spare : Nat → Bool} {held : Bool} {v : Value} {d : DataW H} {p : List MemPlace}
end
end Go.Proofs.Ytnajihlhcdedgaa

namespace Go.Proofs.Ytnajihlhcdedgaa
open Go.ChangeShapes Go.WideShapes Go.ChangeAt Go.RowKit
set_option linter.unusedVariables false
theorem row_bytes {bs : List Int} {n : Nat} (h : bs.length = n) : (bytesV bs).toArray = rowF n (fun i => .int .u8 (bs.getD i 0)) := by
  unfold rowF bytesV
  congr 1
  apply List.ext_getElem?
  intro i
  rw [List.getElem?_map, List.getElem?_map]
  rcases Nat.lt_or_ge i n with hi | hi
  · simp [hi, h]
  · simp [hi, h]
theorem E_pair (a : Int) : E a = .agg #[.int .u64 (a % 18446744073709551616), .int .u64 (a / 18446744073709551616)] := rfl
/-- Take, over a list of bytes. -/
theorem f_Take {f : Int} (hf : isF f) {bs : List Int} (hl : (bs.length : Int) = 8 * f) (hb : ∀ x ∈ bs, isByte x) (w : World) {g o cap : Nat} (hcap : bs.length ≤ cap) (hc : ∀ j, j < bs.length → w.cell? ⟨g, o + j, none⟩ = some (.int .u8 (bs.getD j 0))) :
    Calls Try.prog 97 #[.int .u8 f, .slice (some ⟨g, o, none⟩) bs.length cap] w fun e w' => e = .returned (if leVal bs < rP f then .tuple #[E (leVal bs), .int .i64 0] else .tuple #[E 0, .int .i64 7]) ∧ Kept w w' := by
  have h0 := leVal_lo bs hb
  rcases hf with rfl | rfl
  · have h8 : bs.length = 8 := by omega
    have hG := g_Take h8 hb
    rw [row_bytes h8] at hG
    rw [rP1]
    rw [h8] at hc hcap ⊢
    by_cases h : leVal bs < gP
    · rw [if_pos h] at hG ⊢
      rw [E_small (a := leVal bs) (by unfold gP at h; unfold is64; omega)]
      exact f_Take_s w g o cap _ _ _ (Lib.hid hc) hcap hG
    · rw [if_neg h] at hG ⊢
      rw [E_nought]
      exact f_Take_s w g o cap _ _ _ (Lib.hid hc) hcap hG
  · have h8 : bs.length = 16 := by omega
    have hG := w_Take h8 hb
    rw [row_bytes h8] at hG
    rw [rP2]
    rw [h8] at hc hcap ⊢
    by_cases h : leVal bs < wP
    · rw [if_pos h] at hG ⊢
      exact f_Take_l w g o cap _ _ _ _ (Lib.hid hc) hcap hG
    · rw [if_neg h] at hG ⊢
      rw [E_nought]
      exact f_Take_l w g o cap _ _ _ _ (Lib.hid hc) hcap hG
section
variable {H : Type} {enc : TypeId × Value → H} {W : World} {base : Nat} {spare : Nat → Bool} {held : Bool} {v : Value} {d : DataW H} {p : List MemPlace}
end
end Go.Proofs.Ytnajihlhcdedgaa

namespace Go.Proofs.Ytnajihlhcdedgaa
open Go.RowKit
set_option linter.unusedVariables false
/-- Is the operation wanted? D: where the operations' results go; ts: the slots. -/
def wantedL (D : List (Option Tmp)) (ts : List Value) (o : Oper) : Bool :=
  match o.guard with
  | none => true
  | some (j, b) => (match ((D[j]?).bind id).bind (ts[·]?) with | some (.bool c) => some c | _ => none) == some b
theorem wanted_L {ops : Array Oper} {D : List (Option Tmp)} (hD : ops.toList.map (·.dst) = D) (ts : List Value) (o : Oper) : Region.wanted o (yielded ops ts.toArray) = wantedL D ts o := by
  unfold Region.wanted wantedL
  cases o.guard with
  | none => rfl
  | some g =>
    obtain ⟨j, b⟩ := g
    have e : (ops[j]?).bind (·.dst) = (D[j]?).bind id := by
      rw [← hD, List.getElem?_map, Array.getElem?_toList]
      cases ops[j]? <;> rfl
    simp only [yielded, e, List.getElem?_toArray]
    rfl
def saneL (ts : List Value) (o : Oper) : Bool := o.op.operands.all fun x => match x with | .tmp t => !isMark (ts.getD t undef) | _ => true
theorem getD_toArray (ts : List Value) (t : Nat) : ts.toArray.getD t undef = ts.getD t undef := by
  simp [Array.getD_eq_getD_getElem?]
theorem sane_L {ts : List Value} {d : List Deferred} {o : Oper} (h : saneL ts o = true) : sane ⟨ts.toArray, d⟩ o = true := by
  unfold sane
  unfold saneL at h
  rw [← h]
  congr 1
  funext x
  cases x <;> simp only [saneAt, getD_toArray]
theorem put_L (ts : List Value) (d : List Deferred) {o : Oper} {t : Tmp} (hd : o.dst = some t) (v : Value) : (⟨ts.toArray, d⟩ : Act).put o.dst v = ⟨(ts.set t v).toArray, d⟩ := by
  rw [hd]
  simp only [Act.put, List.setIfInBounds_toArray]
/-- The head's walk over the slots. -/
structure WL (k0 : Nat) (M : Means) (P : Program) (D : List (Option Tmp)) (w : World) (Q : Act → Prop) (l : List Oper) (ts : List Value) (d : List Deferred) : Prop where
  of :: out : ∀ ops : Array Oper, ops.toList.map (·.dst) = D → wpCalmM (shift k0 M) P ops w Q l ⟨ts.toArray, d⟩
section
variable {P : Program} {Q : Exit → Act → World → Prop} {w : World} {l : List Oper} {id : Nat} {ts : List Value} {d : List Deferred}
/-- A REGION WHOSE ORDER IS DRAWN: one walk of the head (k operations); then the tail. -/
theorem wp_region_wl (M : Means) (k : Nat) (hm : P.follows .mixedOrders = true) (hB : calmB l.toArray k 0 = true) (D : List (Option Tmp)) (hD : l.map (·.dst) = D) (is : List Nat) (his : dstsOf (l.take k) = is) (l1 l2 : List Oper) (h1 : l.take k = l1) (h2 : l.drop k = l2)
    (h : ∀ k0 (Lq : Act → Prop), (∀ a', (∀ a'' w', Kept w w' → RelB (shift k0 M) is a' a'' w' → wpList P l.toArray Q l2 a'' w') → Lq a') → WL k0 M P D w Lq l1 ts d) : (Code.region id l.toArray true).wp P Q ⟨ts.toArray, d⟩ w :=
  wp_region_marks_in M k hm hB fun k0 => by
    rw [h1, h2]
    rw [h1] at his
    exact (h k0 _ fun a' ha a'' w' hk hr => ha a'' w' hk (his ▸ hr)).out _ (by simpa using hD)
end
section
variable {P : Program} {D : List (Option Tmp)} {M : Means} {w : World} {ts : List Value} {d : List Deferred} {o : Oper} {rest : List Oper} {Lq : Act → Prop} {k0 : Nat} {t : Tmp}
theorem WL.nil (h : Lq ⟨ts.toArray, d⟩) : WL k0 M P D w Lq [] ts d := ⟨fun ops _ => marks_nil h⟩
theorem WL.skip (hw : wantedL D ts o = false) (hd : o.dst = some t) (h : WL k0 M P D w Lq rest (ts.set t undef) d) : WL k0 M P D w Lq (o :: rest) ts d :=
  ⟨fun ops hD => marks_skip (by rw [wanted_L hD, hw]) (by rw [put_L ts d hd]; exact h.out ops hD)⟩
theorem WL.step (v : Value) (hw : wantedL D ts o = true) (hd : o.dst = some t) (hc : calmM (shift k0 M) P o ⟨ts.toArray, d⟩ w v) (h : WL k0 M P D w Lq rest (ts.set t v) d) : WL k0 M P D w Lq (o :: rest) ts d :=
  ⟨fun ops hD => marks_step v (by rw [wanted_L hD, hw]) hc (by rw [put_L ts d hd]; exact h.out ops hD)⟩
theorem WL.ex (hw : wantedL D ts o = true) (hsel : noSel o = true) (hs : saneL ts o = true) (hd : o.dst = some t)
    (h : ∃ v, (∀ w', Kept w w' → (execOp (Act.eval ⟨ts.toArray, d⟩) o).run P w' = .ok (.value v) w') ∧ isMark v = false ∧ WL k0 M P D w Lq rest (ts.set t v) d) : WL k0 M P D w Lq (o :: rest) ts d := by
  obtain ⟨v, h1, h2, h3⟩ := h
  exact WL.step v hw hd (calmM_of (noSel_spec hsel) (sane_L hs) h2 (calm_run v h1)) h3
/-- A known value, by a law of its own. -/
theorem WL.law (v : Value) (hw : wantedL D ts o = true) (hsel : noSel o = true) (hs : saneL ts o = true) (hd : o.dst = some t) (hv : isMark v = false) (hc : calm P o ⟨ts.toArray, d⟩ w v) (h : WL k0 M P D w Lq rest (ts.set t v) d) : WL k0 M P D w Lq (o :: rest) ts d :=
  WL.step v hw hd (calmM_of (noSel_spec hsel) (sane_L hs) hv hc) h
/-- A call whose result is known. -/
theorem WL.call {v : Value} {f : FuncId} {args : Array Value} (hw : wantedL D ts o = true) (hsel : noSel o = true) (hs : saneL ts o = true) (hd : o.dst = some t) (hv : isMark v = false) (hp : Pure P f args v)
    (hr : ∀ w', (execOp (Act.eval ⟨ts.toArray, d⟩) o).run P w' = .ok (.enter f args) w') (h : WL k0 M P D w Lq rest (ts.set t v) d) : WL k0 M P D w Lq (o :: rest) ts d :=
  WL.step v hw hd (calmM_of (noSel_spec hsel) (sane_L hs) hv (hp.call hr)) h
/-- An operation on what a mark stands for. -/
theorem WL.on (k s : Nat) (v : Value) (hw : wantedL D ts o = true) (ht : hasTmp o s = true) (hm : ts.getD s undef = .chan (some (k0 + k))) (hd : o.dst = some t) (hv : isMark v = false)
    (hc : ∀ (a' : Act) w', Kept w w' → (M k).is (a'.eval (.tmp s)) w' → (execOp a'.eval o).run P w' = .ok (.value v) w')
    (h : WL k0 M P D w Lq rest (ts.set t v) d) : WL k0 M P D w Lq (o :: rest) ts d :=
  WL.step v hw hd (calmM_on ht (by rw [getD_toArray]; exact hm) v hv fun a' w' hk hi => hc a' w' hk (by rw [shift_at] at hi; exact hi)) h
end
end Go.Proofs.Ytnajihlhcdedgaa

namespace Go.Proofs.Ytnajihlhcdedgaa
open Go.RowKit
set_option linter.unusedVariables false
set_option linter.unusedSimpArgs false
theorem add_block (p : Addr) (n : Nat) : (p.add n).block = p.block := by
  unfold Addr.add
  split <;> rfl
theorem cell_far {w : World} {p : Addr} {v : Value} (h : w.cell? p = some v) {b : Nat} (hb : p.block ≠ b) (i : Nat) (u : Value) : (w.setCell ⟨b, i, none⟩ u).cell? p = some v := by
  have hlt := block_lt_of_cell h
  unfold World.cell? at h ⊢
  rw [(Touch.set b w i u).block p.block hlt hb]
  exact h
theorem SlE.setCell {w : World} {a : Option Addr} {n cap N : Nat} {C0 C1 : Nat → Int} (h : SlE w a n cap N C0 C1) {b i : Nat} (hb : N ≤ b) (v : Value) : SlE (w.setCell ⟨b, i, none⟩ v) a n cap N C0 C1 :=
  ⟨fun j hj => let ⟨p, h1, h2, h3, h4⟩ := h.at' j hj; ⟨p, h1, cell_far h2 (by omega) i v, cell_far h3 (by rw [add_block]; omega) i v, h4⟩⟩
theorem SlE.alloc {w : World} {a : Option Addr} {n cap N : Nat} {C0 C1 : Nat → Int} (h : SlE w a n cap N C0 C1) (o : Obj) : SlE (w.alloc o) a n cap N C0 C1 := h.kept ((Kept.refl w).alloc o)
end Go.Proofs.Ytnajihlhcdedgaa

namespace Go.Proofs.Ytnajihlhcdedgaa
open Go.RowKit
set_option linter.unusedVariables false
/-- All older blocks but those of S are as they were. -/
structure Chg (S : Nat → Prop) (w w' : World) : Prop where
  os : w'.os = w.os
  tape : w'.tape = w.tape
  output : w'.output = w.output
  size : w.heap.size ≤ w'.heap.size
  block : ∀ i, i < w.heap.size → ¬ S i → w'.heap[i]? = w.heap[i]?
section
variable {S T : Nat → Prop} {w w' w'' : World}
theorem Chg.refl (S : Nat → Prop) (w : World) : Chg S w w := ⟨rfl, rfl, rfl, Nat.le_refl _, fun _ _ _ => rfl⟩
theorem Chg.of_kept (k : Kept w w') : Chg S w w' := ⟨k.os, k.tape, k.output, k.size, fun i hi _ => Below.block k i hi⟩
theorem Chg.trans (h : Chg S w w') (k : Chg T w' w'') (hT : ∀ i, i < w.heap.size → T i → S i) : Chg S w w'' :=
  ⟨k.os.trans h.os, k.tape.trans h.tape, k.output.trans h.output, Nat.le_trans h.size k.size, fun i hi hn => (k.block i (Nat.lt_of_lt_of_le hi h.size) fun ht => hn (hT i hi ht)).trans (h.block i hi hn)⟩
theorem Chg.trans_kept (h : Chg S w w') (k : Kept w' w'') : Chg S w w'' := h.trans (T := fun _ => False) (.of_kept k) fun _ _ hf => hf.elim
theorem Chg.mono (h : Chg S w w') (hS : ∀ i, i < w.heap.size → S i → T i) : Chg T w w' := ⟨h.os, h.tape, h.output, h.size, fun i hi hn => h.block i hi fun hs => hn (hS i hi hs)⟩
theorem Chg.kept (h : Chg S w w') (hS : ∀ i, i < w.heap.size → ¬ S i) : Kept w w' := ⟨h.os, h.tape, h.output, h.size, fun i hi => h.block i hi (hS i hi)⟩
theorem Chg.heap (h : Chg S w w') {b : Nat} {o : Obj} (hb : w.heap[b]? = some o) (hn : ¬ S b) : w'.heap[b]? = some o := by
  rw [h.block b (Array.getElem?_eq_some_iff.1 hb).1 hn]
  exact hb
theorem Chg.blk (h : Chg S w w') {b : Nat} {t : TypeId} {cs : Array Value} (B : Blk w b t cs) (hn : ¬ S b) : Blk w' b t cs := Blk.of (h.heap B.heap hn)
theorem Chg.cell (h : Chg S w w') {p : Addr} {v : Value} (hc : w.cell? p = some v) (hn : ¬ S p.block) : w'.cell? p = some v := by
  have hlt := block_lt_of_cell hc
  unfold World.cell? at hc ⊢
  rw [h.block p.block hlt hn]
  exact hc
theorem Chg.frozen (h : Chg S w w') {p : Addr} (hlt : p.block < w.heap.size) (hn : ¬ S p.block) : w'.frozen? p = w.frozen? p := by
  unfold World.frozen?
  rw [h.block p.block hlt hn]
theorem Chg.own (h : Chg S w w') {base : Nat} {e : TypeId} {size : Nat} {v : Value} {n : Nat} {xs : List Value} (ho : w.ownsRow base e size v n xs) (hn : ∀ g, v.ownBlock = some g → ¬ S g) : w'.ownsRow base e size v n xs := by
  refine ⟨ho.1, ?_⟩
  rcases ho.2 with h2 | ⟨g, cap, cur, h1, h2, h3, h4⟩
  · exact .inl h2
  · exact .inr ⟨g, cap, cur, h1, h2, h.heap h3 (hn g (by rw [h1]; rfl)), h4⟩
theorem Chg.slB (h : Chg S w w') {a : Option Addr} {n cap N : Nat} {C : Nat → Int} (hs : SlB w a n cap N C) (hn : ∀ i, i < N → ¬ S i) : SlB w' a n cap N C :=
  ⟨fun j hj => let ⟨p, h1, h2, h3⟩ := hs.at' j hj; ⟨p, h1, h.cell h2 (hn _ h3), h3⟩, hs.byte⟩
theorem Chg.setCell (h : Chg S w w') {b i : Nat} (hb : S b ∨ w.heap.size ≤ b) (v : Value) : Chg S w (w'.setCell ⟨b, i, none⟩ v) := by
  have k := Touch.set b w' i v
  refine ⟨k.os.trans h.os, k.tape.trans h.tape, k.output.trans h.output, Nat.le_trans h.size k.size, fun j hj hn => (k.block j (Nat.lt_of_lt_of_le hj h.size) fun he => ?_).trans (h.block j hj hn)⟩
  subst he
  rcases hb with hb | hb
  · exact hn hb
  · omega
theorem Chg.alloc (h : Chg S w w') (o : Obj) : Chg S w (w'.alloc o) := h.trans_kept ((Kept.refl w').alloc o)
theorem Chg.drew (h : Chg S w w') : Chg S w w'.drew := h.trans_kept ((Kept.refl w').drew)
theorem Chg.grown (h : Chg S w w') {r : Option Nat} (hg : w'.grownBy w'' r) (hr : ∀ g, r = some g → S g ∨ w.heap.size ≤ g) : Chg S w w'' :=
  ⟨hg.os.trans h.os, hg.tape.trans h.tape, hg.output.trans h.output, Nat.le_trans h.size hg.size, fun i hi hn => (hg.block i (Nat.lt_of_lt_of_le hi h.size) fun he => by
    rcases hr i he.symm with hs | hs
    · exact hn hs
    · omega).trans (h.block i hi hn)⟩
end
theorem chg_grown {w w' : World} {v : Value} (hg : w.grownBy w' v.ownBlock) : Chg (fun i => v.ownBlock = some i) w w' := ⟨hg.os, hg.tape, hg.output, hg.size, fun i hi hn => hg.block i hi fun h => hn h.symm⟩
theorem chg_set (w : World) (b i : Nat) (v : Value) : Chg (fun j => j = b) w (w.setCell ⟨b, i, none⟩ v) := (Chg.refl (fun j => j = b) w).setCell (.inl rfl) v
theorem own_lt {w : World} {base : Nat} {e : TypeId} {size : Nat} {v : Value} {n : Nat} {xs : List Value} (h : w.ownsRow base e size v n xs) {g : Nat} (hg : v.ownBlock = some g) : base ≤ g ∧ g < w.heap.size := h.lt g hg
/-! ### A map -/
/-- The world in which block M is o. -/
def putMap (w : World) (M : Nat) (o : Obj) : World := { w with heap := w.heap.setIfInBounds M o }
theorem putMap_size (w : World) (M : Nat) (o : Obj) : (putMap w M o).heap.size = w.heap.size := by simp [putMap]
theorem putMap_at (w : World) {M : Nat} (o : Obj) (h : M < w.heap.size) : (putMap w M o).heap[M]? = some o := by simp [putMap, h]
theorem chg_putMap (w : World) (M : Nat) (o : Obj) : Chg (fun j => j = M) w (putMap w M o) :=
  ⟨rfl, rfl, rfl, by rw [putMap_size]; exact Nat.le_refl _, fun i hi hn => by
    have : ¬ M = i := fun h => hn h.symm
    simp [putMap, this]⟩
theorem run_checkKey9 (b : Bool) (q : ByteArray) (w : World) : (Instr.checkKey b 10000 9 (.string q)).run Try.prog w = .ok () w := by
  have h : ∀ n, (Instr.checkKey b (n + 1) 9 (.string q)).run Try.prog w = .ok () w := fun n => by simp [Instr.checkKey, run_underlying Try.underlying9]
  exact h 9999
/-- m[q], m[q] with ok: of a map known whole. -/
theorem run_lookup_yes {w : World} {M : Nat} {es : Array MapEntry} {ck : Nat} {q : ByteArray} (h : w.heap[M]? = some (.map es ck)) {i : Nat} {v : Value} (hf : Instr.findNow .string (.string q) es.toList 0 = some (some (i, v))) :
    (Instr.lookup 141 (.map (some M)) (.string q) false).run Try.prog w = .ok v w := by
  simp [Instr.lookup, run_underlying Try.underlying141, run_underlying Try.underlying9, MapKept.run_getObj_map h, run_checkKey9, Instr.findKey, hf]
theorem run_lookup_yes_ok {w : World} {M : Nat} {es : Array MapEntry} {ck : Nat} {q : ByteArray} (h : w.heap[M]? = some (.map es ck)) {i : Nat} {v : Value} (hf : Instr.findNow .string (.string q) es.toList 0 = some (some (i, v))) :
    (Instr.lookup 141 (.map (some M)) (.string q) true).run Try.prog w = .ok (.tuple #[v, .bool true]) w := by
  simp [Instr.lookup, run_underlying Try.underlying141, run_underlying Try.underlying9, MapKept.run_getObj_map h, run_checkKey9, Instr.findKey, hf]
theorem run_lookup_no_ok {w : World} {M : Nat} {es : Array MapEntry} {ck : Nat} {q : ByteArray} (h : w.heap[M]? = some (.map es ck)) (hf : Instr.findNow .string (.string q) es.toList 0 = some none) :
    (Instr.lookup 141 (.map (some M)) (.string q) true).run Try.prog w = .ok (.tuple #[.slice none 0 0, .bool false]) w := by
  simp [Instr.lookup, run_underlying Try.underlying141, run_underlying Try.underlying9, MapKept.run_getObj_map h, run_checkKey9, Instr.findKey, hf]
theorem run_putNew {w : World} {M : Nat} {es : Array MapEntry} {ck : Nat} {q : ByteArray} {v : Value} (h : w.heap[M]? = some (.map es ck)) (hf : Instr.findNow .string (.string q) es.toList 0 = some none) :
    (Instr.mapUpdate 141 (.map (some M)) (.string q) v).run Try.prog w = .ok () (putMap w M (.map (es.push { key := .string q, val := v, born := ck }) (ck + 1))) := by
  simp [Instr.mapUpdate, run_underlying Try.underlying141, run_underlying Try.underlying9, MapKept.run_getObj_map h, run_checkKey9, Instr.findKey, hf, MapKept.run_setObj_map _ h, putMap]
theorem run_putOld {w : World} {M : Nat} {es : Array MapEntry} {ck : Nat} {q : ByteArray} {v u : Value} {i : Nat} {e : MapEntry} (h : w.heap[M]? = some (.map es ck)) (hf : Instr.findNow .string (.string q) es.toList 0 = some (some (i, u))) (he : es[i]? = some e) (hk : e.key = .string q) :
    (Instr.mapUpdate 141 (.map (some M)) (.string q) v).run Try.prog w = .ok () (putMap w M (.map (es.modify i fun e => { e with key := .string q, val := v }) ck)) := by
  simp [Instr.mapUpdate, run_underlying Try.underlying141, run_underlying Try.underlying9, MapKept.run_getObj_map h, run_checkKey9, Instr.findKey, hf, MapKept.run_setObj_map _ h, putMap, he, hk, Instr.keyThatStays, Instr.sameBits, (MapKept.bytes_beq q q).2 rfl]
end Go.Proofs.Ytnajihlhcdedgaa

namespace Go.Proofs.Ytnajihlhcdedgaa
open Go.RowKit
set_option linter.unusedVariables false
set_option linter.unusedSimpArgs false
attribute [local simp] blkAt_setCell blkAt_alloc blkAt_drew Obj.put_cells
section
variable {ops : Array Oper} {rest : List Oper} {o : Oper} {a : Act} {Q : Exit → Act → World → Prop} {wr : World} {base : Nat} {v : Value} {n : Nat} {xs : List Value}
/-- Bytes appended, from a place. -/
theorem app_bytes (hown : wr.ownsRow base 5 1 v n xs) (b off m c : Nat) (news : List Value) (hl : news.length = m) (h1 : ∀ u ∈ news, u.oneCell' = true) (hc : ∀ j u, news[j]? = some u → wr.cell? ⟨b, off + j, none⟩ = some u)
    (hn : n + m ≤ 140737488355328) (hbase : base ≤ wr.heap.size) (s x : Operand) (hgd : o.guard = none) (ho : o.op = .call { callee := .builtin .append, args := #[s, x], argTypes := #[42, 42] })
    (hs : a.eval s = v) (hx : a.eval x = .slice (some ⟨b, off, none⟩) m c)
    (h : ∀ v' w', w'.ownsRow base 5 1 v' (n + m) (xs ++ news) → wr.grownBy w' v.ownBlock → (v'.ownBlock = v.ownBlock ∨ v'.ownBlock = some wr.heap.size) → wpList Try.prog ops Q rest (a.put o.dst v') w') :
    wpList Try.prog ops Q (o :: rest) a wr := by
  obtain ⟨i, hi, hz0, hz1, hz2⟩ := info_parts info5
  refine wpList_append_own_at _ hgd s x 42 ho base 5 i _ 1 1 Try.underlying42 hi hz0 hz1 hz2 rfl (by decide) v n xs hs hown ⟨b, off, none⟩ m c news hx (by omega) ?_ h1 (by unfold maxLen; omega) (by omega) hbase ?_
  · intro j u hj
    rw [Addr.add_lit]
    exact hc j u hj
  · intro v' w' h2 h3 _ h5
    exact h v' w' h2 h3 h5
/-- Bytes appended, from wherever. -/
theorem app_bytesA (hown : wr.ownsRow base 5 1 v n xs) (ad : Addr) (m c : Nat) (news : List Value) (hl : news.length = m) (h1 : ∀ u ∈ news, u.oneCell' = true) (hc : ∀ j u, news[j]? = some u → wr.cell? (ad.add j) = some u)
    (hn : n + m ≤ 140737488355328) (hbase : base ≤ wr.heap.size) (s x : Operand) (hgd : o.guard = none) (ho : o.op = .call { callee := .builtin .append, args := #[s, x], argTypes := #[42, 42] })
    (hs : a.eval s = v) (hx : a.eval x = .slice (some ad) m c)
    (h : ∀ v' w', w'.ownsRow base 5 1 v' (n + m) (xs ++ news) → wr.grownBy w' v.ownBlock → (v'.ownBlock = v.ownBlock ∨ v'.ownBlock = some wr.heap.size) → wpList Try.prog ops Q rest (a.put o.dst v') w') :
    wpList Try.prog ops Q (o :: rest) a wr := by
  obtain ⟨i, hi, hz0, hz1, hz2⟩ := info_parts info5
  exact wpList_append_own_at _ hgd s x 42 ho base 5 i _ 1 1 Try.underlying42 hi hz0 hz1 hz2 rfl (by decide) v n xs hs hown ad m c news hx (by omega) hc h1 (by unfold maxLen; omega) (by omega) hbase fun v' w' h2 h3 _ h5 => h v' w' h2 h3 h5
/-- Nothing appended: nil. -/
theorem app_nil (hown : wr.ownsRow base 5 1 v n xs) (s x : Operand) (hgd : o.guard = none) (ho : o.op = .call { callee := .builtin .append, args := #[s, x], argTypes := #[42, 42] })
    (hs : a.eval s = v) (hx : a.eval x = .slice none 0 0) (h : wpList Try.prog ops Q rest (a.put o.dst v) wr) : wpList Try.prog ops Q (o :: rest) a wr := by
  obtain ⟨i, hi, hz0, hz1, hz2⟩ := info_parts info5
  exact wpList_append_own_none hgd s x 42 ho base 5 i 1 Try.underlying42 hi v n xs hs hown hx h
/-- A string's bytes appended. -/
theorem app_str (hown : wr.ownsRow base 5 1 v n xs) (T : ByteArray) (hn : n + T.size ≤ 140737488355328) (hbase : base ≤ wr.heap.size) (s x : Operand) (hgd : o.guard = none) (ho : o.op = .call { callee := .builtin .append, args := #[s, x], argTypes := #[42, 9] })
    (hs : a.eval s = v) (hx : a.eval x = .string T)
    (h : ∀ v' w', w'.ownsRow base 5 1 v' (n + T.size) (xs ++ Lib.strCells T) → wr.grownBy w' v.ownBlock → wpList Try.prog ops Q rest (a.put o.dst v') w') :
    wpList Try.prog ops Q (o :: rest) a wr := by
  obtain ⟨i, hi, hz0, hz1, hz2⟩ := info_parts info5
  exact Lib.wpList_append_own_string _ hgd s x 42 9 ho base 5 i Try.underlying42 Try.underlying9 hi hz0 hz1 hz2 v n xs hs hown T hx (by unfold maxLen; omega) hn hbase fun v' w' h2 h3 _ => h v' w' h2 h3
end
theorem wrap_u8x (x : Int) : IntKind.u8.wrap x = x % 256 := by simp [IntKind.wrap, IntKind.bits, IntKind.signed]
/-- A block of bytes is a row of its own. -/
theorem own_blk {w : World} {g base : Nat} {xs : List Value} (B : Blk w g 5 xs.toArray) (hb : base ≤ g) (hm : xs.length ≤ 140737488355328) : w.ownsRow base 5 1 (.slice (some ⟨g, 0, none⟩) xs.length xs.length) xs.length xs :=
  ⟨by simp, .inr ⟨g, xs.length, xs.toArray, rfl, hb, B.heap, Nat.le_refl _, by unfold maxLen; omega, by simp, by simp⟩⟩
/-- A string's bytes. -/
def tb (T : ByteArray) : List Int := T.data.toList.map fun b => (b.toNat : Int)
theorem strCells_tb (T : ByteArray) : Lib.strCells T = bytesV (tb T) := by simp [Lib.strCells, bytesV, tb]
theorem tb_byte (T : ByteArray) : ∀ x ∈ tb T, isByte x := by
  intro x hx
  obtain ⟨b, _, rfl⟩ := List.mem_map.1 hx
  have := b.toNat_lt
  unfold isByte
  omega
/-- A question's bytes. -/
def qL (T : ByteArray) (u0 u1 : Int) (S : Nat → Int) (C : Nat → Int) (n : Nat) : List Int := (T.size : Int) :: (tb T ++ ([u0, u1] ++ ((List.range 16).map S ++ (List.range n).map C)))
theorem qL_byte {T : ByteArray} (hT : T.size ≤ 255) {u0 u1 : Int} (h0 : isByte u0) (h1 : isByte u1) {S C : Nat → Int} {n : Nat} (hS : ∀ j, j < 16 → isByte (S j)) (hC : ∀ j, j < n → isByte (C j)) : ∀ x ∈ qL T u0 u1 S C n, isByte x := by
  intro x hx
  simp only [qL, List.mem_cons, List.mem_append, List.mem_map, List.mem_range, List.not_mem_nil, or_false] at hx
  rcases hx with rfl | hx | (rfl | rfl) | ⟨j, hj, rfl⟩ | ⟨j, hj, rfl⟩
  · unfold isByte; omega
  · exact tb_byte T _ hx
  · exact h0
  · exact h1
  · exact hS j hj
  · exact hC j hj
theorem qV {T : ByteArray} {u0 u1 : Int} {S C : Nat → Int} {n : Nat} : [Value.int .u8 (T.size : Int)] ++ Lib.strCells T ++ [.int .u8 u0, .int .u8 u1] ++ (List.range 16).map (fun j => Value.int .u8 (S j)) ++ (List.range n).map (fun j => Value.int .u8 (C j)) = bytesV (qL T u0 u1 S C n) := by
  rw [strCells_tb]
  simp [qL, bytesV, Function.comp_def]
theorem conv_own {w : World} {base : Nat} {v : Value} {n : Nat} {l : List Int} (h : w.ownsRow base 5 1 v n (bytesV l)) (hb : ∀ x ∈ l, isByte x) : (convert 42 9 v).run Try.prog w = .ok (.string (strOf l)) w := by
  by_cases hl : l = []
  · subst hl
    rcases h.2 with ⟨rfl, _⟩ | ⟨g, cap, cur, rfl, _⟩
    · exact conv_nil w
    · have hn : n = 0 := by simpa [bytesV] using h.1.symm
      subst hn
      exact conv_str (bs := []) Try.underlying42 Try.underlying5 Try.underlying9 w (by simp) (by simp)
  · exact conv_reads (reads_of_own h) hl hb
theorem ownsRow_slicex {w : World} {base : Nat} {e : TypeId} {v : Value} {n : Nat} {xs : List Value} (h : w.ownsRow base e 1 v n xs) : ∃ a c, v = .slice a n c := by
  rcases h.2 with ⟨rfl, rfl⟩ | ⟨g, cap, cur, rfl, _⟩
  · exact ⟨_, _, rfl⟩
  · exact ⟨_, _, rfl⟩
theorem one8x (L : Nat) (b : Nat → Int) : ∀ u ∈ (List.range L).map (fun c => Value.int .u8 (b c)), u.oneCell' = true := by
  intro u hu
  obtain ⟨c, _, rfl⟩ := List.mem_map.1 hu
  rfl
theorem cells16 {w : World} {g t L : Nat} {b : Nat → Int} (B : Blk w g t (rowF L (fun i => .int .u8 (b i)))) (j : Nat) (u : Value) (hj : ((List.range L).map fun c => Value.int .u8 (b c))[j]? = some u) : w.cell? ⟨g, j, none⟩ = some u := by
  have hlt : j < L := by have := (List.getElem?_eq_some_iff.1 hj).1; simpa using this
  rw [List.getElem?_map, List.getElem?_range hlt] at hj
  simp only [Option.map_some, Option.some.injEq] at hj
  rw [← hj]
  exact B.at hlt
theorem cellsA {w : World} {ad : Addr} {n : Nat} {C : Nat → Int} (hC : ∀ j, j < n → w.cell? (ad.add j) = some (.int .u8 (C j))) (j : Nat) (u : Value) (hj : ((List.range n).map fun c => Value.int .u8 (C c))[j]? = some u) : w.cell? (ad.add j) = some u := by
  have hlt : j < n := by have := (List.getElem?_eq_some_iff.1 hj).1; simpa using this
  rw [List.getElem?_map, List.getElem?_range hlt] at hj
  simp only [Option.map_some, Option.some.injEq] at hj
  rw [← hj]
  exact hC j hlt
theorem cellsN {w : World} {g o n : Nat} {C : Nat → Int} (hC : ∀ j, j < n → w.cell? ⟨g, o + j, none⟩ = some (.int .u8 (C j))) (j : Nat) (u : Value) (hj : ((List.range n).map fun c => Value.int .u8 (C c))[j]? = some u) : w.cell? ⟨g, o + j, none⟩ = some u := by
  have hlt : j < n := by have := (List.getElem?_eq_some_iff.1 hj).1; simpa using this
  rw [List.getElem?_map, List.getElem?_range hlt] at hj
  simp only [Option.map_some, Option.some.injEq] at hj
  rw [← hj]
  exact hC j hlt
set_option maxRecDepth 100000 in
set_option maxHeartbeats 8000000 in
theorem x_question_nil (w : World) (T : ByteArray) (hT : T.size ≤ 255) (U u0 u1 : Int) (hw0 : IntKind.u8.wrap U = u0) (hw1 : IntKind.u8.wrap (U / 256) = u1) (h0 : isByte u0) (h1 : isByte u1) (S : Nat → Int) (hS : Hid (∀ j, j < 16 → isByte (S j)))  (C : Nat → Int)  :
    Calls Try.prog 129 #[.string T, .int .u16 U, .agg (rowF 16 (fun j => .int .u8 (S j))), .slice none 0 0] w fun e w' => e = .returned (.string (strOf (qL T u0 u1 S C 0))) ∧ Kept w w' := by
  obtain ⟨g6, hg6⟩ : ∃ g, w.heap.size = g := ⟨_, rfl⟩
  obtain ⟨g13, hg13⟩ : ∃ g, g6 + 1 = g := ⟨_, rfl⟩
  have nw6 : w.heap.size ≤ g6 := by omega
  have hwT : IntKind.u8.wrap (T.size : Int) = (T.size : Int) := by rw [wrap_u8x]; omega
  have lt6 : g6 < g13 := by omega
  go_enter Try.func129, Try.ntmps129
  go_upto_region 2 with (fail)
  try simp only [hg6, hg13]
  refine abs_world (fun W => Kept w W ∧ Blk W g6 77 (rowF 16 (fun j => .int .u8 (S j))) ∧ Blk W g13 5 [Value.int .u8 (T.size : Int)].toArray ∧ g13 ≤ W.heap.size) ⟨?_, ?_, ?_, ?_⟩ ?_
  · have nw13 : w.heap.size ≤ g13 := by omega
    repeat (first | exact Kept.refl _ | (refine Kept.setCell ?_ (kept_side (by first | assumption | omega)) _) | apply Kept.alloc | apply Kept.drew)
  · simp [Blk, *] <;> omega
  · simp [Blk, *] <;> omega
  · simp; omega
  clear hg6 hg13
  rintro W1 ⟨k1, B6, B13, n1⟩
  have own1 := own_blk (base := g13) B13 (Nat.le_refl _) (by simp)
  have ns1 : 0 + 1 = 1 := rfl
  simp only [List.length_cons, List.length_nil, ns1] at own1
  clear B13 ns1
  go_upto_region 3 with (at_builtin; refine app_str own1 T (by omega) n1 (.tmp 14) (.tmp 15) rfl rfl rfl rfl ?_; intro v2 W2 own2 gr2)
  have k2 := grown_kept k1 own1 gr2 (by omega)
  have B2 := grown_blk B6 own1 gr2 lt6
  have n2 := Nat.le_trans n1 gr2.size
  clear k1 B6 own1 gr2 n1
  obtain ⟨m2, hm2⟩ : ∃ m, 1 + T.size = m := ⟨_, rfl⟩
  have lm2 : m2 ≤ 256 := by omega
  rw [hm2] at own2
  clear hm2
  go_upto_region 4 with (at_builtin; refine app_bytes (own2.alloc _) W2.heap.size 0 2 2 [.int .u8 u0, .int .u8 u1] rfl (by simp [Value.oneCell']) (by intro j u hj; rw [Nat.zero_add, World.cell?_alloc_at _ _ _ _ rfl]; simpa using hj) (by omega) (by simp; omega) (.tmp 17) (.tmp 23) rfl rfl rfl rfl ?_; intro v3 W3 own3 gr3 _)
  have k3 := grown_kept (k2.alloc _) (own2.alloc _) gr3 (by omega)
  have B3 := grown_blk (B2.alloc _) (own2.alloc _) gr3 lt6
  have n3 : g13 ≤ W3.heap.size := Nat.le_trans (Nat.le_trans n2 (by simp)) gr3.size
  clear k2 B2 own2 gr3 n2
  go_upto_region 5 with (at_builtin; refine app_bytes own3 g6 0 16 16 ((List.range 16).map fun j => Value.int .u8 (S j)) (by simp) (one8x 16 S) (by intro j u hj; rw [Nat.zero_add]; exact cells16 B3 j u hj) (by omega) n3 (.tmp 25) (.tmp 26) rfl rfl rfl rfl ?_; intro v4 W4 own4 gr4 _)
  have k4 := grown_kept k3 own3 gr4 (by omega)
  have n4 := Nat.le_trans n3 gr4.size
  clear k3 B3 own3 gr4 n3
  have own5 : W4.ownsRow g13 5 1 v4 (m2 + 2 + 16) (bytesV (qL T u0 u1 S C 0)) := by
    rw [← qV]
    simpa only [List.range_zero, List.map_nil, List.append_nil] using own4
  have hcv := conv_own own5 (qL_byte hT h0 h1 hS.out (fun j hj => absurd hj (Nat.not_lt_zero _)))
  go_wp2_with (at_builtin; refine app_nil own4 (.tmp 28) (.tmp 29) rfl rfl rfl rfl ?_)
  go_ret
  exact ⟨rfl, k4⟩
end Go.Proofs.Ytnajihlhcdedgaa

namespace Go.Proofs.Ytnajihlhcdedgaa
open Go.RowKit
set_option linter.unusedVariables false
set_option linter.unusedSimpArgs false
attribute [local simp] blkAt_setCell blkAt_alloc blkAt_drew Obj.put_cells
/-- An oracle: its block b, its map's block M; its draws D (nd of them) lie in blocks below M. -/
structure Orc (w : World) (b M : Nat) (da : Option Addr) (nd dc : Nat) (D : Nat → Int) (pos : Nat) (es : Array MapEntry) (ck : Nat) (av : Value) : Prop where
  blk : Blk w b 143 #[.bool true, .slice da nd dc, .int .i64 (pos : Int), .map (some M), av]
  map : w.heap[M]? = some (.map es ck)
  lt : M < b
  draws : SlB w da nd dc M D
theorem Orc.kept {w w' : World} {b M : Nat} {da : Option Addr} {nd dc : Nat} {D : Nat → Int} {pos : Nat} {es : Array MapEntry} {ck : Nat} {av : Value} (h : Orc w b M da nd dc D pos es ck av) (k : Kept w w') : Orc w' b M da nd dc D pos es ck av :=
  ⟨h.blk.kept k, k.block h.map, h.lt, h.draws.kept k⟩
set_option maxRecDepth 100000 in
set_option maxHeartbeats 1000000 in
theorem x_Oracle (w : World) (sl : Option Addr) (n cap : Nat) (D : Nat → Int) (hn : n ≤ 65536) (hb : (sl = none ∧ n = 0 ∧ cap = 0) ∨ ∃ ad : Addr, sl = some ad ∧ ∀ j, j < n → w.cell? (ad.add j) = some (.int .u8 (D j))) (hD : ∀ j, j < n → 0 ≤ D j ∧ D j ≤ 255) :
    Calls Try.prog 85 #[.slice sl n cap] w fun e w' => ∃ b M da dc, e = .returned (.pointer (some ⟨b, 0, none⟩)) ∧ w.heap.size ≤ M ∧ Orc w' b M da n dc D 0 #[] 0 (.slice none 0 0) ∧ Kept w w' := by
  have own0 : (w.alloc (.cells #[] 5)).ownsRow w.heap.size 5 1 (.slice (some ⟨w.heap.size, 0, none⟩) 0 0) 0 [] := World.ownsRow_made w #[] 0 (Nat.le_refl _) (by decide) rfl
  have hmm := fun w' => run_makeMap (P := Try.prog) 141 w'
  have fin : ∀ W5 v5, W5.ownsRow w.heap.size 5 1 v5 n ((List.range n).map fun j => Value.int .u8 (D j)) → Kept w W5 → ∃ b M da dc, Ending.returned (.pointer (some ⟨W5.heap.size + 1, 0, none⟩)) = Ending.returned (.pointer (some ⟨b, 0, none⟩)) ∧ w.heap.size ≤ M ∧
      Orc ((W5.alloc (.map #[] 0)).alloc (.cells #[.bool true, v5, .int .i64 0, .map (some W5.heap.size), .slice none 0 0] 143)) b M da n dc D 0 #[] 0 (.slice none 0 0) ∧ Kept w ((W5.alloc (.map #[] 0)).alloc (.cells #[.bool true, v5, .int .i64 0, .map (some W5.heap.size), .slice none 0 0] 143)) := fun W5 v5 own5 k5 => by
    obtain ⟨da, dc, rfl⟩ := ownsRow_slicex own5
    have hs := SlB.of_own own5 hD
    have e : (W5.alloc (.map #[] 0)).heap.size = W5.heap.size + 1 := by simp
    refine ⟨_, W5.heap.size, da, dc, rfl, k5.size, ⟨?_, ?_, Nat.lt_succ_self _, (hs.kept ((Kept.refl W5).alloc _)).kept ((Kept.refl _).alloc _)⟩, (k5.alloc _).alloc _⟩
    · have := Blk.new (W5.alloc (.map #[] 0)) 143 #[.bool true, .slice da n dc, .int .i64 0, .map (some W5.heap.size), .slice none 0 0]
      rw [e] at this
      exact this
    · exact (heap_alloc_old _ _ (by rw [e]; omega)).trans (heap_alloc_new W5 _)
  rcases hb with ⟨rfl, rfl, rfl⟩ | ⟨ad, rfl, hc⟩
  · go_enter Try.func85, Try.ntmps85
    go_wp2_with (at_builtin; refine app_nil own0 (.tmp 3) (.tmp 4) rfl rfl rfl rfl ?_)
    refine ⟨rfl, .pointer (some ⟨w.heap.size + 1 + 1, 0, none⟩), by simp [results, Try.results85, go_sem], ?_⟩
    have f := fin _ _ own0 ((Kept.refl w).alloc _)
    simpa using f
  · go_enter Try.func85, Try.ntmps85
    go_wp2_with (at_builtin; refine app_bytesA own0 ad n cap ((List.range n).map fun j => Value.int .u8 (D j)) (by simp) (one8x n D) (by intro j u hj; exact ((Kept.refl w).alloc _).cell (cellsA hc j u hj)) (by omega) (by simp) (.tmp 3) (.tmp 4) rfl rfl rfl rfl ?_; intro v5 W5 own5 gr5 _; rw [Nat.zero_add, List.nil_append] at own5; obtain ⟨da, dc, rfl⟩ := ownsRow_slicex own5)
    have k5 := grown_kept ((Kept.refl w).alloc _) own0 gr5 (Nat.le_refl _)
    clear own0 gr5
    go_ret
    exact fin _ _ own5 k5
end Go.Proofs.Ytnajihlhcdedgaa

namespace Go.Proofs.Ytnajihlhcdedgaa
open Go.RowKit
set_option linter.unusedVariables false
set_option linter.unusedSimpArgs false
attribute [local simp] blkAt_setCell blkAt_alloc blkAt_drew Obj.put_cells
theorem size77x : (Try.prog.info? 77).map (·.size) = some 16 := by kernel_rfl
theorem info9 : (Try.prog.info? 9).map (fun i => (i.zero, i.size, i.bytes)) = some (some (.string ⟨#[]⟩), 1, 16) := by kernel_rfl
section
variable {ops : Array Oper} {rest : List Oper} {o : Oper} {a : Act} {Q : Exit → Act → World → Prop} {wr : World} {base : Nat} {v : Value} {n : Nat} {xs : List Value}
/-- A string appended to a row of strings; it lies in a block that was just made. -/
theorem append_str1 (hown : wr.ownsRow base 9 1 v n xs) (q : ByteArray) (hn : n ≤ 1000000) (hbase : base ≤ wr.heap.size) (s x : Operand) (hgd : o.guard = none) (ho : o.op = .call { callee := .builtin .append, args := #[s, x], argTypes := #[86, 86] })
    (hs : a.eval s = v) (hx : a.eval x = .slice (some ⟨wr.heap.size, 0, none⟩) 1 1)
    (h : ∀ v' w', w'.ownsRow base 9 1 v' (n + 1) (xs ++ [.string q]) → wr.grownBy w' v.ownBlock → (v'.ownBlock = v.ownBlock ∨ v'.ownBlock = some (wr.heap.size + 1)) → wpList Try.prog ops Q rest (a.put o.dst v') w') :
    wpList Try.prog ops Q (o :: rest) a (wr.alloc (.cells #[.string q] 9)) := by
  obtain ⟨i, hi, hz0, hz1, hz2⟩ := info_parts info9
  refine wpList_append_own_at _ hgd s x 86 ho base 9 i _ 1 16 Try.underlying86 hi hz0 hz1 hz2 rfl (by decide) v n xs hs (hown.alloc _) ⟨wr.heap.size, 0, none⟩ 1 1 [.string q] hx rfl (cell_one_new _ _ _) (by simp [Value.oneCell']) (by unfold maxLen; omega) (by omega) (by simp; omega) ?_
  intro v' w' h2 h3 _ h5
  refine h v' w' h2 ⟨h3.os, h3.tape, h3.output, Nat.le_trans (by simp) h3.size, fun k hk hne => ?_⟩ (by simpa using h5)
  rw [h3.block k (by simp; omega) hne]
  exact heap_alloc_old wr _ hk
end
/-- A stream of an oracle: its block. -/
abbrev OStr (w : World) (x b : Nat) (Q : ByteArray) (at' : Nat) (skip : Int) : Prop := Blk w x 146 #[.pointer (some ⟨b, 0, none⟩), .pointer none, .string Q, .int .i64 (at' : Int), .int .i64 skip]
theorem Orc.chg {S : Nat → Prop} {w w' : World} {b M : Nat} {da : Option Addr} {nd dc : Nat} {D : Nat → Int} {pos : Nat} {es : Array MapEntry} {ck : Nat} {av : Value} (h : Orc w b M da nd dc D pos es ck av) (k : Chg S w w') (hb : ¬ S b) (hM : ∀ i, i ≤ M → ¬ S i) : Orc w' b M da nd dc D pos es ck av :=
  ⟨k.blk h.blk hb, k.heap h.map (hM M (Nat.le_refl _)), h.lt, k.slB h.draws fun i hi => hM i (Nat.le_of_lt hi)⟩
set_option maxRecDepth 100000 in
set_option maxHeartbeats 1000000 in
theorem x_Stream_old (w : World) (b M : Nat) (da : Option Addr) (nd dc : Nat) (D : Nat → Int) (pos : Nat) (es : Array MapEntry) (ck : Nat) (av : Value) (ho : Orc w b M da nd dc D pos es ck av)
    (T : ByteArray) (hT : T.size ≤ 255) (U : Int) (S : Nat → Int) (Qs : ByteArray)
    (HQ : Hid (∀ W, Kept w W → Calls Try.prog 129 #[.string T, .int .u16 U, .agg (rowF 16 (fun j => .int .u8 (S j))), .slice none 0 0] W fun e w' => e = .returned (.string Qs) ∧ Kept W w')) (u : Value) (i : Nat) (hf : Instr.findNow .string (.string Qs) es.toList 0 = some (some (i, u))) :
    Calls Try.prog 71 #[.pointer (some ⟨b, 0, none⟩), .string T, .int .u16 U, .agg (rowF 16 (fun j => .int .u8 (S j))), .slice none 0 0] w fun e w' => ∃ x, e = .returned (.pointer (some ⟨x, 0, none⟩)) ∧ w.heap.size ≤ x ∧ OStr w' x b Qs 0 0 ∧ Kept w w' := by
  obtain ⟨g8, hg8⟩ : ∃ g, w.heap.size = g := ⟨_, rfl⟩
  have nw8 : w.heap.size ≤ g8 := by omega
  have yT : (T.size : Int) ≤ 255 := by omega
  go_enter Try.func71, Try.ntmps71
  go_upto_region 3 with (fail)
  try simp only [hg8]
  refine abs_world (fun W => Kept w W ∧ Blk W g8 77 (rowF 16 (fun j => .int .u8 (S j)))) ⟨?_, ?_⟩ ?_
  · repeat (first | exact Kept.refl _ | (refine Kept.setCell ?_ (kept_side (by first | assumption | omega)) _) | apply Kept.alloc | apply Kept.drew)
  · simp [Blk, *] <;> omega
  clear hg8
  rintro W1 ⟨k1, B1⟩
  go_wp2_with (refine wpList_load_part 77 (.tmp 8) B1 (Nat.le_refl _) Try.underlying77 size77x rfl rfl rfl ?_)
  refine (HQ.out _ k1).mono ?_
  rintro e W2 ⟨rfl, hk⟩
  have k2 := k1.trans hk
  clear k1 B1 hk
  obtain ⟨x, hx⟩ : ∃ g, W2.heap.size = g := ⟨_, rfl⟩
  have nwx : w.heap.size ≤ x := hx ▸ k2.size
  have ltb := ho.blk.lt
  have ltM := ho.lt
  have nex : b ≠ x := by omega
  have nex' : x ≠ b := nex.symm
  go_upto_region 5 with (fail)
  try simp only [hx]
  refine abs_world (fun W => Kept W2 W ∧ Blk W x 146 #[.pointer (some ⟨b, 0, none⟩), .pointer none, .string Qs, .int .i64 0, .int .i64 0]) ⟨?_, ?_⟩ ?_
  · have nw9 : W2.heap.size ≤ x := by omega
    repeat (first | exact Kept.refl _ | (refine Kept.setCell ?_ (kept_side (by first | assumption | omega)) _) | apply Kept.alloc | apply Kept.drew)
  · simp [Blk, *] <;> omega
  clear hx
  rintro W3 ⟨hk, B3⟩
  have k3 := k2.trans hk
  have o3 := ho.kept k3
  clear k2 hk
  have c0 := o3.blk.cell 0 rfl
  have c3 := o3.blk.cell 3 rfl
  have hl := run_lookup_yes_ok o3.map hf
  go_wp2_with fail
  go_ret
  exact ⟨x, rfl, nwx, B3, k3⟩
set_option maxRecDepth 100000 in
set_option maxHeartbeats 1000000 in
theorem x_Stream_new (w : World) (b M : Nat) (da : Option Addr) (nd dc : Nat) (D : Nat → Int) (pos : Nat) (es : Array MapEntry) (ck : Nat) (av : Value) (ho : Orc w b M da nd dc D pos es ck av)
    (T : ByteArray) (hT : T.size ≤ 255) (U : Int) (S : Nat → Int) (Qs : ByteArray)
    (HQ : Hid (∀ W, Kept w W → Calls Try.prog 129 #[.string T, .int .u16 U, .agg (rowF 16 (fun j => .int .u8 (S j))), .slice none 0 0] W fun e w' => e = .returned (.string Qs) ∧ Kept W w')) (hf : Instr.findNow .string (.string Qs) es.toList 0 = some none) (na : Nat) (xa : List Value) (hna : na ≤ 1000000) (hav : w.ownsRow (b + 1) 9 1 av na xa) :
    Calls Try.prog 71 #[.pointer (some ⟨b, 0, none⟩), .string T, .int .u16 U, .agg (rowF 16 (fun j => .int .u8 (S j))), .slice none 0 0] w fun e w' => ∃ x av', e = .returned (.pointer (some ⟨x, 0, none⟩)) ∧ w.heap.size ≤ x ∧ OStr w' x b Qs 0 0 ∧ Orc w' b M da nd dc D pos (es.push { key := .string Qs, val := .slice none 0 0, born := ck }) (ck + 1) av' ∧
      w'.ownsRow (b + 1) 9 1 av' (na + 1) (xa ++ [.string Qs]) ∧ (∀ g, av'.ownBlock = some g → g ≠ x) ∧ Chg (fun i => i = b ∨ i = M ∨ av.ownBlock = some i) w w' := by
  obtain ⟨g8, hg8⟩ : ∃ g, w.heap.size = g := ⟨_, rfl⟩
  have nw8 : w.heap.size ≤ g8 := by omega
  have yT : (T.size : Int) ≤ 255 := by omega
  go_enter Try.func71, Try.ntmps71
  go_upto_region 3 with (fail)
  try simp only [hg8]
  refine abs_world (fun W => Kept w W ∧ Blk W g8 77 (rowF 16 (fun j => .int .u8 (S j)))) ⟨?_, ?_⟩ ?_
  · repeat (first | exact Kept.refl _ | (refine Kept.setCell ?_ (kept_side (by first | assumption | omega)) _) | apply Kept.alloc | apply Kept.drew)
  · simp [Blk, *] <;> omega
  clear hg8
  rintro W1 ⟨k1, B1⟩
  go_wp2_with (refine wpList_load_part 77 (.tmp 8) B1 (Nat.le_refl _) Try.underlying77 size77x rfl rfl rfl ?_)
  refine (HQ.out _ k1).mono ?_
  rintro e W2 ⟨rfl, hk⟩
  have k2 := k1.trans hk
  clear k1 B1 hk
  obtain ⟨x, hx⟩ : ∃ g, W2.heap.size = g := ⟨_, rfl⟩
  have nwx : w.heap.size ≤ x := hx ▸ k2.size
  have ltb := ho.blk.lt
  have ltM := ho.lt
  have nex : b ≠ x := by omega
  have nex' : x ≠ b := nex.symm
  go_upto_region 5 with (fail)
  try simp only [hx]
  refine abs_world (fun W => Kept W2 W ∧ Blk W x 146 #[.pointer (some ⟨b, 0, none⟩), .pointer none, .string Qs, .int .i64 0, .int .i64 0]) ⟨?_, ?_⟩ ?_
  · have nw9 : W2.heap.size ≤ x := by omega
    repeat (first | exact Kept.refl _ | (refine Kept.setCell ?_ (kept_side (by first | assumption | omega)) _) | apply Kept.alloc | apply Kept.drew)
  · simp [Blk, *] <;> omega
  clear hx
  rintro W3 ⟨hk, B3⟩
  have k3 := k2.trans hk
  have o3 := ho.kept k3
  clear k2 hk
  have c0 := o3.blk.cell 0 rfl
  have c3 := o3.blk.cell 3 rfl
  have hl := run_lookup_no_ok o3.map hf
  have hu := run_putNew (v := .slice none 0 0) o3.map hf
  have hav3 := ownsRow_kept hav k3
  have hal : ∀ g, av.ownBlock = some g → b + 1 ≤ g ∧ g < w.heap.size := fun g hg => own_lt hav hg
  go_upto_region 12 with (fail)
  refine abs_world (fun W => Chg (fun i => i = M) W3 W ∧ W.heap[M]? = some (.map (es.push { key := .string Qs, val := .slice none 0 0, born := ck }) (ck + 1))) ⟨chg_putMap _ _ _, putMap_at _ _ (by have := o3.blk.lt; omega)⟩ ?_
  clear hl hu c0 c3
  rintro W4 ⟨k4, hM4⟩
  have B4 := k4.blk o3.blk (by omega)
  have X4 := k4.blk B3 (by omega)
  have d4 := k4.slB o3.draws (fun i hi => by omega)
  have hav4 := k4.own hav3 (fun g hg => by have := hal g hg; omega)
  have kk4 : Chg (fun i => i = b ∨ i = M ∨ av.ownBlock = some i) w W4 := (Chg.of_kept k3).trans k4 fun i _ h => .inr (.inl h)
  have hsz : b + 1 ≤ W4.heap.size := by have := B4.lt; omega
  clear B3 o3 k4 hav3 k3
  have c4 := B4.cell 4 rfl
  go_wp2_with (at_builtin; refine append_str1 hav4 Qs (by omega) hsz (.tmp 73) (.tmp 75) rfl rfl rfl rfl ?_; intro v5 W5 own5 gr5 at5; have B5 := grown_blk B4 hav4 gr5 (Nat.lt_succ_self b); have c5 := B5.cell 4 rfl; have f5 := B5.free; have own6 := own5; obtain ⟨a5, n5, p5, rfl⟩ := ownsRow_slice own5)
  go_ret
  have kg := chg_grown gr5
  have X5 := kg.blk X4 (fun h => by have := hal x h; omega)
  have M5 := kg.heap hM4 (fun h => by have := hal M h; omega)
  have d5 := kg.slB d4 (fun i hi h => by have := hal i h; omega)
  have ks := chg_set W5 b 4 (.slice a5 n5 p5)
  have at6 : ∀ g, (Value.slice a5 n5 p5).ownBlock = some g → g ≠ x ∧ b + 1 ≤ g := fun g hg => by
    have h1 := own_lt own5 hg
    refine ⟨?_, h1.1⟩
    rcases at5 with h | h
    · rw [h] at hg
      have := hal g hg
      omega
    · rw [h] at hg
      have := X4.lt
      injection hg with hg
      omega
  refine ⟨x, _, rfl, nwx, ks.blk X5 nex', ⟨?_, ks.heap M5 (by omega), ho.lt, ks.slB d5 (fun i hi => by omega)⟩, ks.own own5 (fun g hg => by have := at6 g hg; omega), fun g hg => (at6 g hg).1, ?_⟩
  · simp [Blk, *]
  · refine (kk4.grown gr5 fun g hg => .inl (.inr (.inr hg))).trans ks fun i _ h => .inl h
end Go.Proofs.Ytnajihlhcdedgaa

namespace Go.Proofs.Ytnajihlhcdedgaa
open Go.RowKit
set_option linter.unusedVariables false
set_option linter.unusedSimpArgs false
attribute [local simp] blkAt_setCell blkAt_alloc blkAt_drew Obj.put_cells
attribute [local go_sem ↓] Go.wp_at_zero Go.wp_at_succ
/-- The entries, the i-th one q's. -/
def esAt (es : Array MapEntry) (i : Nat) (q : ByteArray) (u : Value) : Array MapEntry := es.modify i fun e => { e with key := .string q, val := u }
theorem find_spec (q : ByteArray) : ∀ (l : List MapEntry) (j i : Nat) (u : Value), Instr.findNow .string (.string q) l j = some (some (i, u)) →
    j ≤ i ∧ (∃ e, l[i - j]? = some e ∧ e.key = .string q ∧ e.val = u) ∧ ∀ v, Instr.findNow .string (.string q) (l.modify (i - j) fun e => { e with key := .string q, val := v }) j = some (some (i, v))
  | [], j, i, u, h => by simp [Instr.findNow] at h
  | e :: l, j, i, u, h => by
    unfold Instr.findNow at h
    split at h
    · rename_i hs
      simp only [Option.some.injEq, Prod.mk.injEq] at h
      obtain ⟨rfl, rfl⟩ := h
      have hk : e.key = .string q := by
        unfold Instr.sameNow at hs
        split at hs <;> simp_all
        exact ((MapKept.bytes_beq _ _).1 hs).symm
      refine ⟨Nat.le_refl _, ⟨e, by simp, hk, rfl⟩, fun v => ?_⟩
      simp [Instr.findNow, Instr.sameNow, (MapKept.bytes_beq q q).2 rfl]
    · rename_i hs
      obtain ⟨h1, ⟨e', h2, h3, h4⟩, h5⟩ := find_spec q l (j + 1) i u h
      obtain ⟨d, hd⟩ : ∃ d, i - j = d + 1 := ⟨i - j - 1, by omega⟩
      have hd2 : i - (j + 1) = d := by omega
      rw [hd2] at h2 h5
      refine ⟨by omega, ⟨e', by rw [hd]; simpa using h2, h3, h4⟩, fun v => ?_⟩
      rw [hd, List.modify_succ_cons]
      unfold Instr.findNow
      rw [hs]
      exact h5 v
    · cases h
theorem esAt_find {es : Array MapEntry} {i : Nat} {q : ByteArray} {u : Value} (h : Instr.findNow .string (.string q) es.toList 0 = some (some (i, u))) (v : Value) : Instr.findNow .string (.string q) (esAt es i q v).toList 0 = some (some (i, v)) := by
  have := (find_spec q es.toList 0 i u h).2.2 v
  unfold esAt
  rw [Array.toList_modify]
  exact this
theorem esAt_self {es : Array MapEntry} {i : Nat} {q : ByteArray} {u : Value} (h : Instr.findNow .string (.string q) es.toList 0 = some (some (i, u))) : esAt es i q u = es := by
  obtain ⟨e, h1, h2, h3⟩ := (find_spec q es.toList 0 i u h).2.1
  unfold esAt
  apply Array.ext'
  rw [Array.toList_modify]
  apply List.ext_getElem?
  intro j
  rw [List.getElem?_modify]
  by_cases hj : i = j
  · subst hj
    rw [Nat.sub_zero] at h1
    rw [h1]
    cases e
    simp only at h2 h3
    subst h2 h3
    simp
  · cases es.toList[j]? <;> simp [hj]
theorem esAt_esAt (es : Array MapEntry) (i : Nat) (q : ByteArray) (u v : Value) : esAt (esAt es i q u) i q v = esAt es i q v := by
  unfold esAt
  apply Array.ext'
  simp only [Array.toList_modify]
  apply List.ext_getElem?
  intro j
  simp only [List.getElem?_modify]
  by_cases hj : i = j
  · cases es.toList[j]? <;> simp [hj]
  · cases es.toList[j]? <;> simp [hj]
theorem esAt_get {es : Array MapEntry} {i : Nat} {q : ByteArray} {u : Value} (h : Instr.findNow .string (.string q) es.toList 0 = some (some (i, u))) (v : Value) : ∃ e, (esAt es i q v)[i]? = some e ∧ e.key = .string q := by
  obtain ⟨e, h1, h2, h3⟩ := (find_spec q (esAt es i q v).toList 0 i v (esAt_find h v)).2.1
  exact ⟨e, by simpa using h1, h2⟩
/-- The p-th draw. -/
def drawn (D : Nat → Int) (nd p : Nat) : Int := if p < nd then D p else 0
theorem bytesR_succ (n : Nat) (C : Nat → Int) : bytesR (n + 1) C = bytesR n C ++ [.int .u8 (C n)] := by
  unfold bytesR
  rw [List.range_succ, List.map_append]
  rfl
set_option maxRecDepth 100000 in
set_option maxHeartbeats 2000000 in
theorem x_more (w : World) (b M : Nat) (da : Option Addr) (nd dc : Nat) (D : Nat → Int) (pos : Nat) (es : Array MapEntry) (ck : Nat) (av : Value) (ho : Orc w b M da nd dc D pos es ck av)
    (q : ByteArray) (i : Nat) (u : Value) (hf : Instr.findNow .string (.string q) es.toList 0 = some (some (i, u))) (B0 c many : Nat) (A : Nat → Int) (hown : w.ownsRow B0 5 1 u c (bytesR c A)) (hB0 : b < B0) (hB1 : B0 ≤ w.heap.size) (hc : c ≤ many) (hm0 : 0 < many) (hm : many ≤ 1000000) (hp : pos ≤ 1000000) (hnd : nd ≤ 1000000)
    (HA : Hid (∀ j, c ≤ j → j < many → A j = drawn D nd (pos + (j - c)))) :
    Calls Try.prog 130 #[.pointer (some ⟨b, 0, none⟩), .string q, .int .i64 (many : Int)] w fun e w' => ∃ u', e = .returned u' ∧ w'.ownsRow B0 5 1 u' many (bytesR many A) ∧ Orc w' b M da nd dc D (pos + (many - c)) (esAt es i q u') ck av ∧
      Chg (fun j => j = b ∨ j = M ∨ u.ownBlock = some j) w w' ∧ (∀ g, u'.ownBlock = some g → u.ownBlock = some g ∨ w.heap.size ≤ g) := by
  obtain ⟨i5, hi5, hz0, hz1, hz2⟩ := info_parts info5
  have hself := esAt_self hf
  have hMb := ho.lt
  have HG := Lib.hid (fun v => esAt_get hf v)
  have HE := Lib.hid (fun v => esAt_find hf v)
  have HEE := Lib.hid (fun x v => esAt_esAt es i q x v)
  have hug : ∀ g, u.ownBlock = some g → b < g := fun g hg => by have := own_lt hown hg; omega
  go_enter Try.func130, Try.ntmps130
  go_wp2_with fail
  go_loopg [] (many - c) (fun gk wr => ∃ (t : Nat) (u' : Value), c + t ≤ many ∧ gk = many - (c + t) ∧ Orc wr b M da nd dc D (pos + t) (esAt es i q u') ck av ∧ wr.ownsRow B0 5 1 u' (c + t) (bytesR (c + t) A) ∧
    Chg (fun j => j = b ∨ j = M ∨ u.ownBlock = some j) w wr ∧ (∀ g, u'.ownBlock = some g → u.ownBlock = some g ∨ w.heap.size ≤ g))
  case atStart => exact ⟨0, u, hc, rfl, by rw [hself]; exact ho, hown, Chg.refl _ _, fun g hg => .inl hg⟩
  case round =>
    obtain ⟨t, u', ht, hgk, o, own, k, hat⟩ := hrel
    obtain ⟨sa, sc, rfl⟩ := ownsRow_slicex own
    obtain ⟨m, hmm⟩ : ∃ m, c + t = m := ⟨_, rfl⟩
    rw [hmm] at own ht hgk o hat
    have hl := run_lookup_yes o.map (HE.out _)
    have c3 := o.blk.cell 3 rfl
    have zm : (0 : Int) ≤ (m : Int) := by omega
    rcases Nat.lt_or_ge m many with hlt | hge
    · have ylt : (m : Int) < (many : Int) := by omega
      go_upto_region 3 with (fail)
      have c1 := o.blk.cell 1 rfl
      have c2 := o.blk.cell 2 rfl
      clear hl c3
      obtain ⟨p, hpt⟩ : ∃ p, pos + t = p := ⟨_, rfl⟩
      have hp2 : p ≤ 2000000 := by omega
      rw [hpt] at o c2
      go_region_held3 (fun w' => w'.cell? ⟨b, 2, none⟩ = some (.int .i64 (p : Int)) ∧ w'.cell? ⟨b, 1, none⟩ = some (.slice da nd dc)) (go_keep) (fail)
      refine abs_world (fun W => Kept wr W) (Kept.refl wr).drew ?_
      clear c1 c2
      rintro W1 hk
      have o1 := o.kept hk
      have own1 := ownsRow_kept own hk
      have kk1 := k.trans_kept hk
      clear o own k hk
      have zp : (0 : Int) ≤ (p : Int) := by omega
      rcases Nat.lt_or_ge p nd with hd | hd
      · have yd : (p : Int) < (nd : Int) := by omega
        obtain ⟨pa, hip, cpa, hpa⟩ := o1.draws.at' p hd
        have HY : Hid (drawn D nd p = D p) := Lib.hid (if_pos hd)
        generalize D p = y at cpa HY
        go_upto_region 4 with (fail)
        have c1 := o1.blk.cell 1 rfl
        have c2 := o1.blk.cell 2 rfl
        go_region_held3 (fun w' => w'.cell? ⟨b, 2, none⟩ = some (.int .i64 (p : Int)) ∧ w'.cell? ⟨b, 1, none⟩ = some (.slice da nd dc) ∧ w'.cell? pa = some (.int .u8 y)) (go_keep) (fail)
        refine abs_world (fun W => Kept W1 W) (Kept.refl W1).drew ?_
        clear c1 c2 cpa
        rintro W2 hk
        have o2 := o1.kept hk
        have own2 := ownsRow_kept own1 hk
        have kk2 := kk1.trans_kept hk
        clear o1 own1 kk1 hk
        have hw1 : IntKind.i64.wrap ((p : Int) + 1) = ((p + 1 : Nat) : Int) := by rw [IntWalk.i64_in _ (by omega)]; simp
        have f2 := o2.blk.free
        have c2 := o2.blk.cell 2 rfl
        go_upto_region 6 with (fail)
        refine abs_world (fun W => Chg (fun j => j = b) W2 W ∧ Blk W b 143 #[.bool true, .slice da nd dc, .int .i64 ((p + 1 : Nat) : Int), .map (some M), av]) ⟨(Chg.refl (fun j => j = b) W2).setCell (.inl rfl) _, by simp [Blk, o2.blk.eq]⟩ ?_
        clear f2 c2
        rintro W3 ⟨k3, B3⟩
        have own3 := k3.own own2 (fun g hg => by have := own_lt own2 hg; omega)
        have M3 := k3.heap o2.map (by omega)
        have D3 := k3.slB o2.draws (fun i hi => by omega)
        have kk3 : Chg (fun j => j = b ∨ j = M ∨ u.ownBlock = some j) w W3 := kk2.trans k3 fun i _ h => .inl h
        have sz3 : B0 ≤ W3.heap.size := Nat.le_trans hB1 kk3.size
        have ltb := B3.lt
        clear k3 own2 o2 kk2
        have c3 := B3.cell 3 rfl
        have hlk : ∀ W, W.heap[M]? = some (.map (esAt es i q (.slice sa m sc)) ck) → (Instr.lookup 141 (.map (some M)) (.string q) false).run Try.prog W = .ok (.slice sa m sc) W := fun W h => run_lookup_yes h (HE.out _)
        have hl := hlk _ M3
        obtain ⟨e0, he0, hk0⟩ := HG.out (.slice sa m sc)
        have hl1 := hlk W3.drew M3
        have hl2 := hlk (W3.alloc (.cells #[.int .u8 y] 5)).drew ((heap_alloc_old W3.drew _ (by simpa using (Nat.lt_trans hMb ltb))).trans M3)
        go_region_held3 (fun w' => w'.cell? ⟨b, 3, none⟩ = some (.map (some M)))
          (((try dsimp only); first | assumption | exact Blk.cell (Blk.drew B3) 3 rfl | exact Blk.cell (Blk.alloc (Blk.drew B3) _) 3 rfl | exact Blk.cell B4 3 rfl | exact (chg_putMap _ _ _).cell (Blk.cell B4 3 rfl) (Nat.ne_of_gt hMb)))
          ((refine step_append_lies _ (by rfl) (.tmp 54) (.tmp 56) 42 (by rfl) B0 5 i5 _ 1 1 Try.underlying42 hi5 hz0 hz1 hz2 rfl (by decide) _ _ _ (by rfl) (World.ownsRow.alloc (w := W3.drew) own3 _) ⟨W3.heap.size, 0, none⟩ 1 1 [.int .u8 y] (by rfl) rfl (cell_one_new _ _ _) (by simp [Value.oneCell']) (by omega) (by unfold maxLen; omega) (by omega) (by simp; omega) (W3.heap.size + 1) (by simp) ?_; intro g cap w1 hown1 hgrow hat1 hlt1; have kg := chg_grown hgrow; have M4 := kg.heap ((heap_alloc_old W3.drew _ (by simpa using (Nat.lt_trans hMb ltb))).trans M3) (fun h => by have := own_lt own3 h; omega); have B4 := kg.blk (Blk.alloc (Blk.drew B3) _) (fun h => by have := own_lt own3 h; omega); have c4 := B4.cell 3 rfl; have hu := run_putOld (v := .slice (some ⟨g, 0, none⟩) (m + 1) cap) M4 (HE.out _) he0 hk0))
        all_goals
          have kp := chg_putMap w1 M (.map (esAt (esAt es i q (.slice sa m sc)) i q (.slice (some ⟨g, 0, none⟩) (m + 1) cap)) ck)
          have hgM : g ≠ M := by
            rcases hat1 with h | h
            · have := own_lt own3 h
              omega
            · omega
          have D5 := kp.slB (kg.slB (D3.kept (((Kept.refl W3).drew).alloc _)) (fun j hj h => by have := own_lt own3 h; omega)) (fun j hj => by omega)
          have B5 := kp.blk B4 (Nat.ne_of_gt hMb)
          have M5 := putMap_at w1 (.map (esAt (esAt es i q (.slice sa m sc)) i q (.slice (some ⟨g, 0, none⟩) (m + 1) cap)) ck) (Array.getElem?_eq_some_iff.1 M4).1
          have own5 := kp.own hown1 (fun g' hg' h => by have e : g = g' := Option.some.inj hg'; omega)
          have kk5 := (((kk3.drew).alloc _).grown hgrow (fun g' hg' => by
            rcases hat g' hg' with h | h
            · exact .inl (.inr (.inr h))
            · exact .inr h)).trans kp fun j _ h => .inr (.inl h)
          have hloc : ∀ g', (Value.slice (some ⟨g, 0, none⟩) (m + 1) cap).ownBlock = some g' → u.ownBlock = some g' ∨ w.heap.size ≤ g' := fun g' hg' => by
            obtain rfl : g = g' := Option.some.inj hg'
            rcases hat1 with h | h
            · exact hat _ h
            · right
              have := kk3.size
              omega
          have HA1 := HA.out m (by omega) hlt
          rw [show pos + (m - c) = p by omega, HY.out] at HA1
          rw [← HA1, ← bytesR_succ] at own5
          clear hl hl1 hl2 hlk hu
          go_wp2_with fail
          go_roundg (many - (m + 1))
          case measure => omega
          case rel =>
            refine ⟨t + 1, .slice (some ⟨g, 0, none⟩) (m + 1) cap, by omega, by omega, ?_, by rw [show c + (t + 1) = m + 1 by omega]; exact own5, kk5, hloc⟩
            rw [← HEE.out (.slice sa m sc) (.slice (some ⟨g, 0, none⟩) (m + 1) cap)]
            exact ⟨by rw [show pos + (t + 1) = p + 1 by omega]; exact B5, M5, hMb, D5⟩
      · have yd : (nd : Int) ≤ (p : Int) := by omega
        have HY : Hid (drawn D nd p = 0) := Lib.hid (if_neg (by omega))
        obtain ⟨y, hy⟩ : ∃ y : Int, 0 = y := ⟨_, rfl⟩
        rw [hy] at HY
        have o2 := o1
        have own2 := own1
        have kk2 := kk1
        clear o1 own1 kk1
        have hw1 : IntKind.i64.wrap ((p : Int) + 1) = ((p + 1 : Nat) : Int) := by rw [IntWalk.i64_in _ (by omega)]; simp
        have f2 := o2.blk.free
        have c2 := o2.blk.cell 2 rfl
        go_upto_region 6 with (fail)
        refine abs_world (fun W => Chg (fun j => j = b) W1 W ∧ Blk W b 143 #[.bool true, .slice da nd dc, .int .i64 ((p + 1 : Nat) : Int), .map (some M), av]) ⟨(Chg.refl (fun j => j = b) W1).setCell (.inl rfl) _, by simp [Blk, o2.blk.eq]⟩ ?_
        clear f2 c2
        rintro W3 ⟨k3, B3⟩
        have own3 := k3.own own2 (fun g hg => by have := own_lt own2 hg; omega)
        have M3 := k3.heap o2.map (by omega)
        have D3 := k3.slB o2.draws (fun i hi => by omega)
        have kk3 : Chg (fun j => j = b ∨ j = M ∨ u.ownBlock = some j) w W3 := kk2.trans k3 fun i _ h => .inl h
        have sz3 : B0 ≤ W3.heap.size := Nat.le_trans hB1 kk3.size
        have ltb := B3.lt
        clear k3 own2 o2 kk2
        have c3 := B3.cell 3 rfl
        have hlk : ∀ W, W.heap[M]? = some (.map (esAt es i q (.slice sa m sc)) ck) → (Instr.lookup 141 (.map (some M)) (.string q) false).run Try.prog W = .ok (.slice sa m sc) W := fun W h => run_lookup_yes h (HE.out _)
        have hl := hlk _ M3
        obtain ⟨e0, he0, hk0⟩ := HG.out (.slice sa m sc)
        have hl1 := hlk W3.drew M3
        have hl2 := hlk (W3.alloc (.cells #[.int .u8 y] 5)).drew ((heap_alloc_old W3.drew _ (by simpa using (Nat.lt_trans hMb ltb))).trans M3)
        go_region_held3 (fun w' => w'.cell? ⟨b, 3, none⟩ = some (.map (some M)))
          (((try dsimp only); first | assumption | exact Blk.cell (Blk.drew B3) 3 rfl | exact Blk.cell (Blk.alloc (Blk.drew B3) _) 3 rfl | exact Blk.cell B4 3 rfl | exact (chg_putMap _ _ _).cell (Blk.cell B4 3 rfl) (Nat.ne_of_gt hMb)))
          ((refine step_append_lies _ (by rfl) (.tmp 54) (.tmp 56) 42 (by rfl) B0 5 i5 _ 1 1 Try.underlying42 hi5 hz0 hz1 hz2 rfl (by decide) _ _ _ (by rfl) (World.ownsRow.alloc (w := W3.drew) own3 _) ⟨W3.heap.size, 0, none⟩ 1 1 [.int .u8 y] (by rfl) rfl (cell_one_new _ _ _) (by simp [Value.oneCell']) (by omega) (by unfold maxLen; omega) (by omega) (by simp; omega) (W3.heap.size + 1) (by simp) ?_; intro g cap w1 hown1 hgrow hat1 hlt1; have kg := chg_grown hgrow; have M4 := kg.heap ((heap_alloc_old W3.drew _ (by simpa using (Nat.lt_trans hMb ltb))).trans M3) (fun h => by have := own_lt own3 h; omega); have B4 := kg.blk (Blk.alloc (Blk.drew B3) _) (fun h => by have := own_lt own3 h; omega); have c4 := B4.cell 3 rfl; have hu := run_putOld (v := .slice (some ⟨g, 0, none⟩) (m + 1) cap) M4 (HE.out _) he0 hk0))
        all_goals
          have kp := chg_putMap w1 M (.map (esAt (esAt es i q (.slice sa m sc)) i q (.slice (some ⟨g, 0, none⟩) (m + 1) cap)) ck)
          have hgM : g ≠ M := by
            rcases hat1 with h | h
            · have := own_lt own3 h
              omega
            · omega
          have D5 := kp.slB (kg.slB (D3.kept (((Kept.refl W3).drew).alloc _)) (fun j hj h => by have := own_lt own3 h; omega)) (fun j hj => by omega)
          have B5 := kp.blk B4 (Nat.ne_of_gt hMb)
          have M5 := putMap_at w1 (.map (esAt (esAt es i q (.slice sa m sc)) i q (.slice (some ⟨g, 0, none⟩) (m + 1) cap)) ck) (Array.getElem?_eq_some_iff.1 M4).1
          have own5 := kp.own hown1 (fun g' hg' h => by have e : g = g' := Option.some.inj hg'; omega)
          have kk5 := (((kk3.drew).alloc _).grown hgrow (fun g' hg' => by
            rcases hat g' hg' with h | h
            · exact .inl (.inr (.inr h))
            · exact .inr h)).trans kp fun j _ h => .inr (.inl h)
          have hloc : ∀ g', (Value.slice (some ⟨g, 0, none⟩) (m + 1) cap).ownBlock = some g' → u.ownBlock = some g' ∨ w.heap.size ≤ g' := fun g' hg' => by
            obtain rfl : g = g' := Option.some.inj hg'
            rcases hat1 with h | h
            · exact hat _ h
            · right
              have := kk3.size
              omega
          have HA1 := HA.out m (by omega) hlt
          rw [show pos + (m - c) = p by omega, HY.out] at HA1
          rw [← HA1, ← bytesR_succ] at own5
          clear hl hl1 hl2 hlk hu
          go_wp2_with fail
          go_roundg (many - (m + 1))
          case measure => omega
          case rel =>
            refine ⟨t + 1, .slice (some ⟨g, 0, none⟩) (m + 1) cap, by omega, by omega, ?_, by rw [show c + (t + 1) = m + 1 by omega]; exact own5, kk5, hloc⟩
            rw [← HEE.out (.slice sa m sc) (.slice (some ⟨g, 0, none⟩) (m + 1) cap)]
            exact ⟨by rw [show pos + (t + 1) = p + 1 by omega]; exact B5, M5, hMb, D5⟩
    · have ylt : (many : Int) ≤ (m : Int) := by omega
      obtain rfl : m = many := by omega
      have own2 := own
      rcases own2.2 with ⟨_, h0⟩ | ⟨gg, cap, cur, hu, _, _, hcap, hcm, _⟩
      · omega
      · injection hu with e1 e2 e3
        subst sa; subst sc
        have ycap : (m : Int) ≤ (cap : Int) := by omega
        have zcap : cap ≠ 0 := by omega
        have ycap2 : (cap : Int) ≤ 9223372036854775807 := by unfold maxLen at hcm; omega
        go_wp2_with fail
        go_ret
        have e : pos + (m - c) = pos + t := by omega
        exact ⟨_, rfl, own, by rw [e]; exact o, k, hat⟩
end Go.Proofs.Ytnajihlhcdedgaa

namespace Go.Proofs.Ytnajihlhcdedgaa
open Go.RowKit
set_option linter.unusedVariables false
set_option linter.unusedSimpArgs false
attribute [local simp] blkAt_setCell blkAt_alloc blkAt_drew Obj.put_cells
theorem own_at {w : World} {base n : Nat} {v : Value} {C : Nat → Int} (h : w.ownsRow base 5 1 v n (bytesR n C)) (hn : 0 < n) : ∃ g cap, v = .slice (some ⟨g, 0, none⟩) n cap ∧ n ≤ cap ∧ (cap : Int) ≤ 9223372036854775807 ∧ base ≤ g ∧ g < w.heap.size ∧ ∀ j, j < n → w.cell? ⟨g, j, none⟩ = some (.int .u8 (C j)) := by
  rcases h.2 with ⟨_, h0⟩ | ⟨g, cap, cur, rfl, hb, hg, hc, hm, _⟩
  · omega
  · refine ⟨g, cap, rfl, hc, by unfold maxLen at hm; omega, hb, (own_lt h (g := g) rfl).2, fun j hj => ?_⟩
    have := h.cells (g := g) rfl j (.int .u8 (C j)) (by simp [bytesR, hj])
    rw [add_zero_at] at this
    exact this
set_option maxRecDepth 100000 in
set_option maxHeartbeats 2000000 in
theorem x_Next_o (w : World) (x b M : Nat) (q : ByteArray) (xat : Nat) (skip : Int) (hx : OStr w x b q xat skip) (da : Option Addr) (nd dc : Nat) (D : Nat → Int) (pos : Nat) (es : Array MapEntry) (ck : Nat) (av : Value) (ho : Orc w b M da nd dc D pos es ck av)
    (i : Nat) (u : Value) (hf : Instr.findNow .string (.string q) es.toList 0 = some (some (i, u))) (B0 c many : Nat) (A : Nat → Int) (hown : w.ownsRow B0 5 1 u c (bytesR c A)) (hB0 : b < B0) (hB1 : B0 ≤ w.heap.size) (hc : c ≤ xat + many) (hm0 : 0 < many) (hm : many ≤ 65536) (hxm : xat + many ≤ 1000000) (hp : pos ≤ 1000000) (hnd : nd ≤ 1000000)
    (HA : Hid (∀ j, c ≤ j → j < xat + many → A j = drawn D nd (pos + (j - c)))) (hxb : x ≠ b) (hxM : M < x) (hxu : u.ownBlock ≠ some x) :
    Calls Try.prog 72 #[.pointer (some ⟨x, 0, none⟩), .int .i64 (many : Int)] w fun e w' => ∃ v u', e = .returned v ∧ w'.ownsRow w.heap.size 5 1 v many (bytesR many fun j => A (xat + j)) ∧ OStr w' x b q (xat + many) skip ∧ Orc w' b M da nd dc D (pos + (xat + many - c)) (esAt es i q u') ck av ∧
      w'.ownsRow B0 5 1 u' (xat + many) (bytesR (xat + many) A) ∧ Chg (fun j => j = b ∨ j = M ∨ j = x ∨ u.ownBlock = some j) w w' ∧ (∀ g, u'.ownBlock = some g → u.ownBlock = some g ∨ w.heap.size ≤ g) ∧ (∀ g g', v.ownBlock = some g → u'.ownBlock = some g' → g' < g) := by
  have zm : (0 : Int) ≤ (many : Int) := by omega
  have ym : (many : Int) ≤ 65536 := by omega
  have c0 := hx.cell 0 rfl
  have c1 := hx.cell 1 rfl
  have c2 := hx.cell 2 rfl
  have c3 := hx.cell 3 rfl
  have ltx := hx.lt
  have hw1 : IntKind.i64.wrap ((xat : Int) + (many : Int)) = ((xat + many : Nat) : Int) := by rw [IntWalk.i64_in _ (by omega)]; simp
  obtain ⟨X, hX⟩ : ∃ X, xat + many = X := ⟨_, rfl⟩
  rw [hX] at hw1 hc hxm HA ⊢
  go_enter Try.func72, Try.ntmps72
  go_upto_region 5 with (fail)
  try simp only [List.append_eq, List.cons_append, List.nil_append]
  refine wp_region_wl (fun _ => oneMean 5 #[]) 14 (by kernel_rfl) (by as_aux_lemma => kernel_rfl) _ rfl _ rfl _ _ rfl rfl (fun k0 Lq hLq => ?_)
  dsimp only [List.map_cons, List.map_nil, List.take_succ_cons, List.take_zero, List.drop_succ_cons, List.drop_zero] at hLq ⊢
  repeat (first
    | (refine WL.skip rfl rfl ?_; dsimp only [List.set_cons_zero, List.set_cons_succ])
    | (refine WL.ex rfl rfl (by kernel_rfl) rfl ?_; apply Exists.intro; refine And.intro (fun w' hk => ?_) (And.intro ?_ ?_); (focus (have q0 := hk.cell c0; have q2 := hk.cell c2; have q3 := hk.cell c3; clear hk; go_simp; exact rfl)); (focus (exact rfl)); dsimp only [List.set_cons_zero, List.set_cons_succ]))
  refine WL.nil (hLq _ ?_)
  clear hLq
  intro a'' V hk hra
  obtain rfl := hra.mark0 (by kernel_rfl)
  clear hra
  try simp only [List.drop_succ_cons, List.drop_zero, List.drop_nil]
  have hxV := hx.kept hk
  have HM := Lib.hid (x_more V b M da nd dc D pos es ck av (ho.kept hk) q i u hf B0 c X A (ownsRow_kept hown hk) hB0 (Nat.le_trans hB1 hk.size) hc (by omega) hxm hp hnd HA)
  clear c0 c1 c2 c3
  go_wp2_with fail
  refine HM.out.mono ?_
  rintro e W1 ⟨u', rfl, own1, o1, k1, hat⟩
  obtain ⟨ug, uc, rfl, huc, huc63, hug, hugl, hcl⟩ := own_at own1 (by omega)
  have hx1 := k1.blk hxV (by rintro (h | h | h); exact hxb h; omega; exact hxu h)
  have kk1 : Chg (fun j => j = b ∨ j = M ∨ u.ownBlock = some j) w W1 := (Chg.of_kept hk).trans k1 fun _ _ h => h
  have own0 : (W1.alloc (.cells #[] 5)).ownsRow W1.heap.size 5 1 (.slice (some ⟨W1.heap.size, 0, none⟩) 0 0) 0 [] := World.ownsRow_made W1 #[] 0 (Nat.le_refl _) (by decide) rfl
  have ltx1 := hx1.lt
  have c3 := hx1.cell 3 rfl
  have d3 := (hx1.alloc (.cells #[] 5)).cell 3 rfl
  have y1 : (xat : Int) ≤ (X : Int) := by omega
  have y2 : (X : Int) ≤ (uc : Int) := by omega
  have y3 : (0 : Int) ≤ (xat : Int) := by omega
  have y4 : uc - xat ≠ 0 := by omega
  have y5 : uc ≠ xat := by omega
  have y6 : uc ≠ 0 := by omega
  have hxx : X - xat = many := by omega
  clear HM
  go_upto_region 7 with (at_builtin; refine app_bytes own0 ug xat many _ ((List.range many).map fun j => Value.int .u8 (A (xat + j))) (by simp) (one8x many _) (by intro j v hj; exact ((Kept.refl W1).alloc _).cell (cellsN (fun j hj => hcl (xat + j) (by omega)) j v hj)) (by omega) (by simp) (.tmp 43) (.tmp 49) rfl rfl rfl rfl ?_; intro v2 W2 own2 gr2 at2)
  rw [Nat.zero_add, List.nil_append] at own2
  have k2 := grown_kept ((Kept.refl W1).alloc _) own0 gr2 (Nat.le_refl _)
  have hx2 := hx1.kept k2
  have o2 := o1.kept k2
  have own12 := ownsRow_kept own1 k2
  have kk2 := kk1.trans_kept k2
  have hMb := ho.lt
  clear own0 gr2 at2 c3 d3
  have c3 := hx2.cell 3 rfl
  have f3 := hx2.free
  go_wp2_with fail
  go_ret
  have ks := chg_set W2 x 3 (.int .i64 (X : Int))
  have hux : ug ≠ x := fun h => by
    subst h
    rcases hat ug rfl with h | h
    · exact hxu h
    · have := hxV.lt
      omega
  have hsz1 := kk1.size
  refine ⟨v2, .slice (some ⟨ug, 0, none⟩) X uc, rfl, ks.own (ownsRow_base own2 hsz1) (fun g hg h => by have := own_lt own2 hg; omega), by show blkAt _ _ = _; rw [blkAt_setCell, if_pos rfl, hx2.eq]; rfl, o2.chg ks (fun h => hxb h.symm) (fun j hj h => by omega), ks.own own12 (fun g hg h => hux ((Option.some.inj hg).trans h)), ?_, ?_, ?_⟩
  · refine (kk2.mono (T := fun j => j = b ∨ j = M ∨ j = x ∨ u.ownBlock = some j) fun j _ h => ?_).trans ks fun j _ h => .inr (.inr (.inl h))
    rcases h with h | h | h
    · exact .inl h
    · exact .inr (.inl h)
    · exact .inr (.inr (.inr h))
  · intro g hg
    rcases hat g hg with h | h
    · exact .inl h
    · exact .inr (Nat.le_trans hk.size h)
  · intro g g' hg hg'
    have h1 := own_lt own2 hg
    have h2 : ug = g' := Option.some.inj hg'
    omega
end Go.Proofs.Ytnajihlhcdedgaa

namespace Go.Proofs.Ytnajihlhcdedgaa
open Go.RowKit
set_option linter.unusedVariables false
set_option linter.unusedSimpArgs false
attribute [local simp] blkAt_setCell blkAt_alloc blkAt_drew Obj.put_cells
/-- The k-th piece of a stream, L bytes, as a number. -/
def pieceL (D : Nat → Int) (L k : Nat) : List Int := (List.range L).map fun j => D (k * L + j)
def tk (D : Nat → Int) (L k : Nat) : Int := leVal (pieceL D L k)
theorem pieceL_length (D : Nat → Int) (L k : Nat) : (pieceL D L k).length = L := by simp [pieceL]
theorem pieceL_getD (D : Nat → Int) (L k : Nat) {j : Nat} (hj : j < L) : (pieceL D L k).getD j 0 = D (k * L + j) := by
  unfold pieceL
  rw [List.getD_eq_getElem?_getD, List.getElem?_map, List.getElem?_range hj]
  rfl
/-- The elements among the first k pieces. -/
def okL (D : Nat → Int) (L : Nat) (f : Int) : Nat → List Int
  | 0 => []
  | k + 1 => if tk D L k < rP f then okL D L f k ++ [tk D L k] else okL D L f k
/-- How many pieces at the end are none. -/
def mis (D : Nat → Int) (L : Nat) (f : Int) : Nat → Nat
  | 0 => 0
  | k + 1 => if tk D L k < rP f then 0 else mis D L f k + 1
theorem okL_le (D : Nat → Int) (L : Nat) (f : Int) : ∀ k, (okL D L f k).length ≤ k
  | 0 => Nat.le_refl _
  | k + 1 => by
    have := okL_le D L f k
    unfold okL
    split
    · simp; omega
    · omega
/-- Elements as values. -/
def elemsV (l : List Int) : List Value := elist (fun j => l.getD j 0 % 18446744073709551616) (fun j => l.getD j 0 / 18446744073709551616) l.length
theorem elist_congr {C0 C1 D0 D1 : Nat → Int} {n : Nat} (h0 : ∀ j, j < n → C0 j = D0 j) (h1 : ∀ j, j < n → C1 j = D1 j) : elist C0 C1 n = elist D0 D1 n := by
  unfold elist
  refine List.map_congr_left fun c hc => ?_
  have hc := List.mem_range.1 hc
  unfold elemC
  rw [h0 (c / 2) (by omega), h1 (c / 2) (by omega)]
theorem elemsV_append (l : List Int) (z : Int) : elemsV (l ++ [z]) = elemsV l ++ [.int .u64 (z % 18446744073709551616), .int .u64 (z / 18446744073709551616)] := by
  unfold elemsV
  rw [List.length_append, List.length_singleton, elist_succ]
  have e : ∀ j, j < l.length → (l ++ [z]).getD j 0 = l.getD j 0 := fun j hj => by simp [List.getD_eq_getElem?_getD, List.getElem?_append_left hj]
  have e2 : (l ++ [z]).getD l.length 0 = z := by simp [List.getD_eq_getElem?_getD]
  rw [elist_congr (fun j hj => by rw [e j hj]) (fun j hj => by rw [e j hj]), e2]
theorem own_form28 {w : World} {base n : Nat} {v : Value} {xs : List Value} (h : w.ownsRow base 28 2 v n xs) : ∃ a c, v = .slice a n c := by
  rcases h.2 with ⟨rfl, rfl⟩ | ⟨g, cap, cur, rfl, _⟩
  · exact ⟨_, _, rfl⟩
  · exact ⟨_, _, rfl⟩
theorem append_elem {ops : Array Oper} {rest : List Oper} {o : Oper} {a : Act} {Q : Exit → Act → World → Prop} {wr : World} {base : Nat} {v : Value} {n : Nat} {xs : List Value} (hown : wr.ownsRow base 28 2 v n xs) (r0 r1 : Int) (hn : n ≤ 1000000) (hbase : base ≤ wr.heap.size) (s x : Operand) (hgd : o.guard = none) (ho : o.op = .call { callee := .builtin .append, args := #[s, x], argTypes := #[90, 90] })
    (hs : a.eval s = v) (hx : a.eval x = .slice (some ⟨wr.heap.size, 0, none⟩) 1 1)
    (h : ∀ v' w', w'.ownsRow base 28 2 v' (n + 1) (xs ++ [.int .u64 r0, .int .u64 r1]) → wr.grownBy w' v.ownBlock → (v'.ownBlock = v.ownBlock ∨ v'.ownBlock = some (wr.heap.size + 1)) → wpList Try.prog ops Q rest (a.put o.dst v') w') :
    wpList Try.prog ops Q (o :: rest) a (wr.alloc (.cells #[.int .u64 r0, .int .u64 r1] 28)) := by
  obtain ⟨i, hi, hz0, hz1, hz2⟩ := info_parts info28
  refine wpList_append_own_at _ hgd s x 90 ho base 28 i _ 2 16 Try.underlying90 hi hz0 hz1 hz2 rfl (by decide) v n xs hs (hown.alloc _) ⟨wr.heap.size, 0, none⟩ 1 1 [.int .u64 r0, .int .u64 r1] hx rfl ?_ (by intro u hu; simp at hu; rcases hu with rfl | rfl <;> rfl) (by unfold maxLen; omega) (by omega) (by simp; omega) ?_
  · intro j u hj
    rw [add_zero_at, World.cell?_alloc_at _ _ _ _ rfl]
    simpa using hj
  · intro v' w' h2 h3 _ h5
    refine h v' w' h2 ⟨h3.os, h3.tape, h3.output, Nat.le_trans (by simp) h3.size, fun k hk hne => ?_⟩ (by simpa using h5)
    rw [h3.block k (by simp; omega) hne]
    exact heap_alloc_old wr _ hk
/-- What a stream at x is, after k pieces, s passed over; its blocks. -/
structure StrLaw (F x : Nat) (L : Nat) (D : Nat → Int) (KM : Nat) (St : Nat → Int → (Nat → Prop) → World → Prop) : Prop where
  lt : ∀ k s S W, St k s S W → ∀ i, S i → i < W.heap.size
  stab : ∀ k s S W W' T, St k s S W → Chg T W W' → (∀ i, S i → ¬ T i) → (∀ i, T i → F ≤ i) → St k s S W'
  next : ∀ k s S W, k < KM → St k s S W → Calls Try.prog 72 #[.pointer (some ⟨x, 0, none⟩), .int .i64 (L : Int)] W fun e W' => ∃ v S', e = .returned v ∧ W'.ownsRow W.heap.size 5 1 v L (bytesR L fun j => D (k * L + j)) ∧ St (k + 1) s S' W' ∧ Chg S W W' ∧ (∀ i, S' i → S i ∨ W.heap.size ≤ i)
  cell : ∀ k s S W, St k s S W → W.cell? ⟨x, 4, none⟩ = some (.int .i64 s)
  free : ∀ k s S W, St k s S W → W.frozen? ⟨x, 4, none⟩ = false
  own : ∀ k s S W, St k s S W → S x
  skip : ∀ k s S W, St k s S W → St k (s + 1) S (W.setCell ⟨x, 4, none⟩ (.int .i64 (s + 1)))
set_option maxRecDepth 100000 in
set_option maxHeartbeats 1000000 in
theorem x_Vec_ok (w : World) (x : Nat) (f : Int) (hf : isF f) (L : Nat) (hL : (L : Int) = 8 * f) (D : Nat → Int) (hD : Hid (∀ j, isByte (D j))) (KM : Nat) (St : Nat → Int → (Nat → Prop) → World → Prop) (F : Nat) (hF : F ≤ w.heap.size) (hS : StrLaw F x L D KM St) (S0 : Nat → Prop) (s0 : Int) (hs0 : 0 ≤ s0 ∧ s0 ≤ 1000000) (h0 : St 0 s0 S0 w) (many K : Nat) (hmany : many ≤ 4096) (hKM : K ≤ KM) (hKb : K ≤ 1000000) (hK : Hid (∀ k, k < K → (okL D L f k).length < many)) (hm : Hid (∀ k, k ≤ K → mis D L f k < 64)) (hend : (okL D L f K).length = many) :
    Calls Try.prog 86 #[.pointer (some ⟨x, 0, none⟩), .int .u8 f, .int .i64 (many : Int)] w fun e w' => ∃ v S', e = .returned (.tuple #[v, .int .i64 0]) ∧ w'.ownsRow w.heap.size 28 2 v many (elemsV (okL D L f K)) ∧ (∀ g, v.ownBlock = some g → ¬ S' g) ∧ St K (s0 + ((K - (okL D L f K).length : Nat) : Int)) S' w' ∧ Chg S0 w w' ∧ (∀ i, S' i → S0 i ∨ w.heap.size ≤ i) := by
  have HV := Lib.hid (f_Valid hf)
  have HS0 := f_Size hf
  rw [← hL] at HS0
  have HS := Lib.hid HS0
  clear HS0
  have hL0 : 0 < L := by unfold isF at hf; omega
  have HL := Lib.hid hL
  clear hL
  have zm : (0 : Int) ≤ (many : Int) := by omega
  have ym : (many : Int) ≤ 4096 := by omega
  go_enter Try.func86, Try.ntmps86
  go_wp2_with fail
  refine (HV.out _).mono ?_
  rintro e W1 ⟨rfl, k1⟩
  go_wp2_with fail
  go_loopg [8, 9] K (fun gk v m wr => ∃ (k : Nat) (S : Nat → Prop), k ≤ K ∧ gk = K - k ∧ St k (s0 + ((k - (okL D L f k).length : Nat) : Int)) S wr ∧ wr.ownsRow w.heap.size 28 2 v ((okL D L f k).length) (elemsV (okL D L f k)) ∧ m = .int .i64 ((mis D L f k : Nat) : Int) ∧ Chg S0 w wr ∧ (∀ i, S i → S0 i ∨ w.heap.size ≤ i) ∧ (∀ g, v.ownBlock = some g → ¬ S g))
  case atStart =>
    refine ⟨0, S0, Nat.zero_le _, rfl, ?_, World.ownsRow_nil _ _ _ _, rfl, Chg.of_kept k1, fun i h => .inl h, fun g hg => by cases hg⟩
    have := hS.stab _ _ _ _ _ (fun _ => False) h0 (Chg.of_kept k1) (fun _ _ h => h) (fun _ h => h.elim)
    simpa [okL] using this
  case round =>
    clear k1
    obtain ⟨k, S, hkK0, hgk, st, own, rfl, kk, hS', hdis⟩ := hrel
    have hlk := okL_le D L f k
    rcases Nat.lt_or_ge k K with hkK | hge
    · have hlt := hK.out k hkK
      have ylt : ((okL D L f k).length : Int) < (many : Int) := by omega
      obtain ⟨va, vc, rfl⟩ := own_form28 own
      go_wp2_with fail
      refine (HS.out _).mono ?_
      rintro e W2 ⟨rfl, hk2⟩
      have st2 := hS.stab _ _ _ _ _ (fun _ => False) st (Chg.of_kept hk2) (fun _ _ h => h) (fun _ h => h.elim)
      have own2 := ownsRow_kept own hk2
      have kk2 := kk.trans_kept hk2
      have sz2 : w.heap.size ≤ W2.heap.size := Nat.le_trans kk.size hk2.size
      clear st own kk hk2
      go_wp2_with fail
      refine (hS.next k _ S W2 (by omega) st2).mono ?_
      rintro e W3 ⟨bv, S3, rfl, ov3, st3, k3, hS3⟩
      have hdis3 : ∀ g, (Value.slice va ((okL D L f k).length) vc).ownBlock = some g → ¬ S3 g := fun g hg h => by
        rcases hS3 g h with h | h
        · exact hdis g hg h
        · have := own_lt own2 hg
          omega
      have own3 := k3.own own2 hdis
      have hS3' : ∀ i, S3 i → S0 i ∨ w.heap.size ≤ i := fun i h => by
        rcases hS3 i h with h | h
        · exact hS' i h
        · right; omega
      have kk3 := kk2.trans k3 (fun i hi h => by
        rcases hS' i h with h | h
        · exact h
        · omega)
      have sz3 := Nat.le_trans sz2 k3.size
      obtain ⟨gb, cb, rfl, hcb, _, _, _, hcl⟩ := own_at ov3 hL0
      have hpl := pieceL_length D L k
      have HT := f_Take hf (bs := pieceL D L k) (by rw [hpl]; exact HL.out) (by
        intro z hz
        obtain ⟨j, _, rfl⟩ := List.mem_map.1 hz
        exact hD.out _) W3 (g := gb) (o := 0) (cap := cb) (by rw [hpl]; exact hcb) (fun j hj => by
        rw [hpl] at hj
        rw [pieceL_getD D L k hj, Nat.zero_add]
        exact hcl j hj)
      rw [hpl] at HT
      have htk : leVal (pieceL D L k) = tk D L k := rfl
      rw [htk] at HT
      clear own2 kk2 k3 hS3 hcl st2
      go_wp2_with fail
      by_cases hok : tk D L k < rP f
      · skip
        have HO : Hid (okL D L f (k + 1) = okL D L f k ++ [tk D L k] ∧ mis D L f (k + 1) = 0) := Lib.hid ⟨if_pos hok, if_pos hok⟩
        rw [if_pos hok] at HT
        obtain ⟨r0, hr0⟩ : ∃ r, tk D L k % 18446744073709551616 = r := ⟨_, rfl⟩
        obtain ⟨r1, hr1⟩ : ∃ r, tk D L k / 18446744073709551616 = r := ⟨_, rfl⟩
        have hE : E (tk D L k) = .agg #[.int .u64 r0, .int .u64 r1] := by rw [E_pair, hr0, hr1]
        rw [hE] at HT
        have HT := Lib.hid HT
        have HR : Hid (elemsV (okL D L f (k + 1)) = elemsV (okL D L f k) ++ [.int .u64 r0, .int .u64 r1]) := Lib.hid (by rw [HO.out.1, elemsV_append, hr0, hr1])
        clear hr0 hr1 hE
        refine HT.out.mono ?_
        rintro e W4 ⟨rfl, hk4⟩
        have st4 := hS.stab _ _ _ _ _ (fun _ => False) st3 (Chg.of_kept hk4) (fun _ _ h => h) (fun _ h => h.elim)
        have own4 := ownsRow_kept own3 hk4
        have kk4 := kk3.trans_kept hk4
        have sz4 := Nat.le_trans sz3 hk4.size
        clear st3 own3 kk3 hk4 HT ov3
        obtain ⟨g10, hg10⟩ : ∃ g, W4.heap.size = g := ⟨_, rfl⟩
        go_upto_region 12 with (fail)
        try simp only [hg10]
        refine abs_world (fun W => Kept W4 W ∧ Blk W g10 28 #[.int .u64 r0, .int .u64 r1]) ⟨?_, ?_⟩ ?_
        · have nw8 : W4.heap.size ≤ g10 := by omega
          repeat (first | exact Kept.refl _ | (refine Kept.setCell ?_ (kept_side (by first | assumption | omega)) _) | apply Kept.alloc | apply Kept.drew)
        · simp [Blk, *]
        clear hg10
        rintro W5 ⟨hk5, B5⟩
        have st5 := hS.stab _ _ _ _ _ (fun _ => False) st4 (Chg.of_kept hk5) (fun _ _ h => h) (fun _ h => h.elim)
        have own5 := ownsRow_kept own4 hk5
        have kk5 := kk4.trans_kept hk5
        have sz5 := Nat.le_trans sz4 hk5.size
        clear st4 own4 kk4 hk5
        have d0 := B5.cell 0 rfl
        have d1 := B5.cell 1 rfl
        go_wp2_with (at_builtin; refine append_elem own5 r0 r1 (by omega) sz5 (.tmp 41) (.tmp 43) rfl rfl rfl rfl ?_; intro v6 W6 own6 gr6 at6)
        have kg := chg_grown gr6
        have st6 := hS.stab _ _ _ _ _ _ st5 kg (fun i hi h => hdis3 i h hi) (fun i h => Nat.le_trans hF (own_lt own5 h).1)
        have lS := hS.lt _ _ _ _ st5
        have kk6 := kk5.grown gr6 (fun g hg => .inr (own_lt own5 hg).1)
        have hdis6 : ∀ g, v6.ownBlock = some g → ¬ S3 g := fun g hg h => by
          rcases at6 with h2 | h2
          · exact hdis3 g (by rw [← h2]; exact hg) h
          · rw [h2] at hg
            have := lS g h
            have e : W5.heap.size + 1 = g := Option.some.inj hg
            omega
        clear st5 own5 kk5 kg gr6 at6 d0 d1 B5
        go_wp2_with fail
        go_roundg (K - (k + 1))
        case measure => omega
        case rel =>
          have hlen : (okL D L f (k + 1)).length = (okL D L f k).length + 1 := by rw [HO.out.1]; simp
          refine ⟨k + 1, S3, by omega, rfl, ?_, ?_, by rw [HO.out.2]; rfl, kk6, hS3', hdis6⟩
          · have e : (k + 1 - (okL D L f (k + 1)).length : Nat) = k - (okL D L f k).length := by rw [hlen]; omega
            rw [e]
            exact st6
          · rw [HR.out, hlen]
            exact own6
      · skip
        have HO : Hid (okL D L f (k + 1) = okL D L f k ∧ mis D L f (k + 1) = mis D L f k + 1) := Lib.hid ⟨if_neg hok, if_neg hok⟩
        rw [if_neg hok, E_nought] at HT
        have HT := Lib.hid HT
        refine HT.out.mono ?_
        rintro e W4 ⟨rfl, hk4⟩
        have st4 := hS.stab _ _ _ _ _ (fun _ => False) st3 (Chg.of_kept hk4) (fun _ _ h => h) (fun _ h => h.elim)
        have own4 := ownsRow_kept own3 hk4
        have kk4 := kk3.trans_kept hk4
        clear st3 own3 kk3 hk4 HT ov3
        obtain ⟨g10, hg10⟩ : ∃ g, W4.heap.size = g := ⟨_, rfl⟩
        go_upto_region 13 with (fail)
        try simp only [hg10]
        refine abs_world (fun W => Kept W4 W) ?_ ?_
        · have nw8 : W4.heap.size ≤ g10 := by omega
          repeat (first | exact Kept.refl _ | (refine Kept.setCell ?_ (kept_side (by first | assumption | omega)) _) | apply Kept.alloc | apply Kept.drew)
        clear hg10
        rintro W5' hk5
        have st5 := hS.stab _ _ _ _ _ (fun _ => False) st4 (Chg.of_kept hk5) (fun _ _ h => h) (fun _ h => h.elim)
        have own5' := ownsRow_kept own4 hk5
        have kk5' := kk4.trans_kept hk5
        clear st4 own4 kk4 hk5
        have cx := hS.cell _ _ _ _ st5
        have fx := hS.free _ _ _ _ st5
        obtain ⟨sk, hsk⟩ : ∃ z : Int, s0 + ((k - (okL D L f k).length : Nat) : Int) = z := ⟨_, rfl⟩
        have hsk1 : s0 + ((k + 1 - (okL D L f k).length : Nat) : Int) = sk + 1 := by have := okL_le D L f k; omega
        have hws : IntKind.i64.wrap (sk + 1) = sk + 1 := IntWalk.i64_in _ (by have := okL_le D L f k; omega)
        rw [hsk] at st5 cx
        have st6 := hS.skip _ _ _ _ st5
        have kx := chg_set W5' x 4 (.int .i64 (sk + 1))
        have hSx := hS.own _ _ _ _ st5
        go_upto_region 14 with (fail)
        refine abs_world (fun W => St (k + 1) (sk + 1) S3 W ∧ W.ownsRow w.heap.size 28 2 (.slice va ((okL D L f k).length) vc) ((okL D L f k).length) (elemsV (okL D L f k)) ∧ Chg S0 w W) ⟨st6, kx.own own5' (fun g hg h => hdis3 g hg (h ▸ hSx)), kk5'.trans kx (fun i hi h => by
          subst h
          rcases hS3' i hSx with h | h
          · exact h
          · omega)⟩ ?_
        clear cx fx st5 st6 own5' kk5' kx
        rintro W5 ⟨st5', own5, kk5⟩
        rw [← hsk1] at st5'
        clear hsk hsk1 hws
        have h64 : mis D L f k + 1 < 64 := by rw [← HO.out.2]; exact hm.out _ hkK
        have y64 : ((mis D L f k : Nat) : Int) + 1 ≠ 64 := by omega
        have y64b : (((mis D L f k : Nat) : Int) + 1 == 64) = false := by simp [y64]
        go_wp2_with fail
        go_roundg (K - (k + 1))
        case measure => omega
        case rel => exact ⟨k + 1, S3, by omega, rfl, by rw [HO.out.1]; exact st5', by rw [HO.out.1]; exact own5, by rw [HO.out.2]; simp, kk5, hS3', hdis3⟩
    · skip
      obtain rfl : k = K := by omega
      rw [hend] at own
      have yl : ((okL D L f k).length : Int) = (many : Int) := by rw [hend]
      obtain ⟨va, vc, rfl⟩ := own_form28 own
      go_wp2_with fail
      go_ret2
      exact ⟨_, S, rfl, own, hdis, st, kk, hS'⟩
end Go.Proofs.Ytnajihlhcdedgaa

namespace Go.Proofs.Ytnajihlhcdedgaa
open Go.RowKit
set_option linter.unusedVariables false
set_option linter.unusedSimpArgs false
/-- The lanes behind the end. -/
def kend (s : Nat → Int) (a : Nat) (d : Int) : Nat → Int := kperm 12 (kflip (kflip (norm s a) (normA a) d) 167 128)
end Go.Proofs.Ytnajihlhcdedgaa

namespace Go.Proofs.Ytnajihlhcdedgaa
open Go.RowKit
set_option linter.unusedVariables false
set_option linter.unusedSimpArgs false
/-- The lanes and the place when i bytes are out. -/
def gives (s : Nat → Int) (a : Nat) : Nat → (Nat → Int) × Nat
  | 0 => (s, a)
  | i + 1 => (norm (gives s a i).1 (gives s a i).2, normA (gives s a i).2 + 1)
end Go.Proofs.Ytnajihlhcdedgaa

namespace Go.Proofs.Ytnajihlhcdedgaa
open Go.RowKit
set_option linter.unusedVariables false
set_option linter.unusedSimpArgs false
/-- The lanes when n bytes are in, and the end. -/
def hashS (C : Nat → Int) (n : Nat) (d : Int) : Nat → Int := kend (takes C (fun _ => 0) 0 n).1 (takes C (fun _ => 0) 0 n).2 d
/-- A nil slice. -/
theorem SlB.nil (w : World) (N : Nat) (C : Nat → Int) : SlB w none 0 0 N C := ⟨fun j hj => absurd hj (by omega), fun j hj => absurd hj (by omega)⟩
end Go.Proofs.Ytnajihlhcdedgaa

namespace Go.Proofs.Ytnajihlhcdedgaa
open Go.RowKit
set_option linter.unusedVariables false
set_option linter.unusedSimpArgs false
attribute [local simp] blkAt_setCell blkAt_alloc blkAt_drew Obj.put_cells
/-- Sponge kb stands at byte j of what the question (n bytes C) gives. -/
def RealAt (w : World) (kb : Nat) (C : Nat → Int) (n j : Nat) : Prop :=
  (j = 0 ∧ Sp w kb (takes C (fun _ => 0) 0 n).1 (takes C (fun _ => 0) 0 n).2 1 false) ∨ Sp w kb (gives (hashS C n 1) 0 j).1 (gives (hashS C n 1) 0 j).2 1 true
/-- A stream that hashes, at byte j. -/
structure RealStr (w : World) (x kb pb : Nat) (Q : ByteArray) (C : Nat → Int) (n j : Nat) (skip : Int) : Prop where
  blk : Blk w x 146 #[.pointer (some ⟨pb, 0, none⟩), .pointer (some ⟨kb, 0, none⟩), .string Q, .int .i64 0, .int .i64 skip]
  at' : RealAt w kb C n j
  ne : x ≠ kb
/-- What a question is bound to. -/
def Bnd (w : World) (sl : Option Addr) (n cap : Nat) (C : Nat → Int) : Prop := (sl = none ∧ n = 0 ∧ cap = 0) ∨ ∃ ad : Addr, sl = some ad ∧ ∀ j, j < n → w.cell? (ad.add j) = some (.int .u8 (C j))
theorem Bnd.kept {w w' : World} {sl : Option Addr} {n cap : Nat} {C : Nat → Int} (h : Bnd w sl n cap C) (k : Kept w w') : Bnd w' sl n cap C := by
  rcases h with h | ⟨ad, h1, h2⟩
  · exact .inl h
  · exact .inr ⟨ad, h1, fun j hj => k.cell (h2 j hj)⟩
end Go.Proofs.Ytnajihlhcdedgaa

namespace Go.Proofs.Ytnajihlhcdedgaa
open Go.RowKit
set_option linter.unusedVariables false
set_option linter.unusedSimpArgs false
attribute [local simp] blkAt_setCell blkAt_alloc blkAt_drew Obj.put_cells
set_option maxRecDepth 100000 in
set_option maxHeartbeats 8000000 in
theorem x_Skipped (w : World) (x : Nat) (skip : Int) (h : w.cell? ⟨x, 4, none⟩ = some (.int .i64 skip)) : Calls Try.prog 91 #[.pointer (some ⟨x, 0, none⟩)] w fun e w' => e = .returned (.int .i64 skip) ∧ Kept w w' := by
  go_enter Try.func91, Try.ntmps91
  go_wp2_with fail
  go_ret
  exact ⟨rfl, Kept.refl w⟩
theorem RealAt.lt {w : World} {kb : Nat} {C : Nat → Int} {n j : Nat} (h : RealAt w kb C n j) : kb < w.heap.size := by
  rcases h with ⟨_, h⟩ | h
  · exact h.lt
  · exact h.lt
theorem RealStr.drew {w : World} {x kb pb : Nat} {Q : ByteArray} {C : Nat → Int} {n j : Nat} {skip : Int} (h : RealStr w x kb pb Q C n j skip) : RealStr w.drew x kb pb Q C n j skip := ⟨h.blk, h.at', h.ne⟩
theorem RealAt.chg {S : Nat → Prop} {w w' : World} {kb : Nat} {C : Nat → Int} {n j : Nat} (h : RealAt w kb C n j) (k : Chg S w w') (hn : ¬ S kb) : RealAt w' kb C n j := by
  rcases h with ⟨h0, h⟩ | h
  · exact .inl ⟨h0, k.blk h hn⟩
  · exact .inr (k.blk h hn)
theorem RealStr.chg {S : Nat → Prop} {w w' : World} {x kb pb : Nat} {Q : ByteArray} {C : Nat → Int} {n j : Nat} {skip : Int} (h : RealStr w x kb pb Q C n j skip) (k : Chg S w w') (hx : ¬ S x) (hn : ¬ S kb) : RealStr w' x kb pb Q C n j skip := ⟨k.blk h.blk hx, h.at'.chg k hn, h.ne⟩
end Go.Proofs.Ytnajihlhcdedgaa

namespace Go.Proofs.Ytnajihlhcdedgaa
open Go.RowKit
set_option linter.unusedVariables false
set_option linter.unusedSimpArgs false
/-- A stream of an oracle that was asked one question, k pieces read. -/
def StO (x b M : Nat) (q : ByteArray) (da : Option Addr) (nd dc : Nat) (D : Nat → Int) (av : Value) (B0 L : Nat) (k : Nat) (s : Int) (S : Nat → Prop) (W : World) : Prop :=
  ∃ u, OStr W x b q (k * L) s ∧ Orc W b M da nd dc D (k * L) (esAt (#[].push { key := .string q, val := .slice none 0 0, born := 0 }) 0 q u) 1 av ∧ W.ownsRow B0 5 1 u (k * L) (bytesR (k * L) (drawn D nd)) ∧ B0 ≤ W.heap.size ∧
    S = (fun j => j = b ∨ j = M ∨ j = x ∨ u.ownBlock = some j)
theorem find_one (q : ByteArray) : Instr.findNow .string (.string q) (#[].push { key := .string q, val := .slice none 0 0, born := 0 } : Array MapEntry).toList 0 = some (some (0, .slice none 0 0)) := by
  simp [Instr.findNow, Instr.sameNow, (MapKept.bytes_beq q q).2 rfl]
theorem strLaw_O {x b M : Nat} {q : ByteArray} {da : Option Addr} {nd dc : Nat} {D : Nat → Int} {av : Value} {B0 L : Nat} (hL0 : 0 < L) (hL : L ≤ 16) (hMb : M < b) (hbx : b < x) (hxB : x < B0) (hnd : nd ≤ 1000000) (F KM : Nat) (hF : M < F) (hKM : (KM + 1) * L ≤ 1000000) : StrLaw F x L (drawn D nd) KM (StO x b M q da nd dc D av B0 L) where
  lt := by
    rintro k s S W ⟨u, hx, ho, hu, hB, rfl⟩ i (rfl | rfl | rfl | h)
    · exact ho.blk.lt
    · have := ho.blk.lt
      omega
    · exact hx.lt
    · exact (own_lt hu h).2
  stab := by
    rintro k s S W W' T ⟨u, hx, ho, hu, hB, rfl⟩ hk hd hT
    refine ⟨u, hk.blk hx (hd x (.inr (.inr (.inl rfl)))), ?_, hk.own hu (fun g hg => hd g (.inr (.inr (.inr hg)))), Nat.le_trans hB hk.size, rfl⟩
    exact ho.chg hk (hd b (.inl rfl)) (fun i hi h => by have := hT i h; omega)
  next := by
    rintro k s S W hkM ⟨u, hx, ho, hu, hB, rfl⟩
    have hk1 : (k + 1) * L ≤ (KM + 1) * L := Nat.mul_le_mul_right L (by omega)
    rw [Nat.succ_mul] at hk1
    have hf := esAt_find (find_one q) u
    refine (x_Next_o W x b M q (k * L) s hx da nd dc D (k * L) _ 1 av ho 0 u hf B0 (k * L) L (drawn D nd) hu (by omega) hB (by omega) hL0 (by omega) (by omega) (by omega) hnd (Lib.hid fun j h1 _ => by rw [show k * L + (j - k * L) = j by omega]) (by omega) (by omega) (fun h => by have := own_lt hu h; omega)).mono ?_
    rintro e W' ⟨v, u', rfl, hv, hx', ho', hu', hc, hloc, _⟩
    rw [esAt_esAt, show k * L + (k * L + L - k * L) = k * L + L by omega] at ho'
    refine ⟨v, _, rfl, hv, ⟨u', ?_, ?_, ?_, Nat.le_trans hB hc.size, rfl⟩, hc, fun i hi => ?_⟩
    · rw [Nat.succ_mul]
      exact hx'
    · rw [Nat.succ_mul]
      exact ho'
    · rw [Nat.succ_mul]
      exact hu'
    · rcases hi with h | h | h | h
      · exact .inl (.inl h)
      · exact .inl (.inr (.inl h))
      · exact .inl (.inr (.inr (.inl h)))
      · rcases hloc i h with h2 | h2
        · exact .inl (.inr (.inr (.inr h2)))
        · exact .inr h2
  cell := by
    rintro k s S W ⟨u, hx, _⟩
    exact hx.cell 4 rfl
  free := by
    rintro k s S W ⟨u, hx, _⟩
    exact hx.free 4
  own := by
    rintro k s S W ⟨u, _, _, _, _, rfl⟩
    exact .inr (.inr (.inl rfl))
  skip := by
    rintro k s S W ⟨u, hx, ho, hu, hB, rfl⟩
    have kc := chg_set W x 4 (.int .i64 (s + 1))
    refine ⟨u, ?_, ho.chg kc (by omega) (fun i hi h => by omega), kc.own hu (fun g hg h => by have := own_lt hu hg; omega), Nat.le_trans hB kc.size, rfl⟩
    show blkAt _ _ = _
    rw [blkAt_setCell, if_pos rfl, hx.eq]
    rfl
end Go.Proofs.Ytnajihlhcdedgaa
