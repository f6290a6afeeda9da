/-
  Texts joined: WB3 GBytes WB4 K2 K3 K4 K5 K6 K9 K10 K11 Frame M2 FV3 Mark5 FLx X1 X2 X6 X7.
-/
import Derived.Test.YtnajihlhcdedgaaYN2
import Derived.Deep.Cut
import Derived.Outline
import Derived.Deep.LoopGhost
import Derived.Test.YtnajihlhcdedgaaRows
import Derived.WalkKit
import Derived.ProofKit
import Derived.OpenShut
import Derived.ShutString
import Derived.ChangeOld
import Derived.Below
import Derived.Laws.MakeOwn
import Derived.Lib.AppendStr
import Derived.Laws.AppendOwnNone
import Derived.Maps.AppendAt
import Derived.MapFrom
import Derived.Deep.RegionHeld3
import Derived.Deep.AppendLies
import Derived.Carry
namespace Go.Proofs.Ytnajihlhcdedgaa
open Go.RowKit
set_option linter.unusedVariables false
set_option linter.unusedSimpArgs false
attribute [local simp] blkAt_setCell blkAt_alloc blkAt_drew Obj.put_cells
set_option maxRecDepth 100000 in
set_option maxHeartbeats 8000000 in
theorem wide_Take_no (b0 v0 b1 v1 b2 v2 b3 v3 b4 v4 b5 v5 b6 v6 b7 v7 b8 v8 b9 v9 b10 v10 b11 v11 b12 v12 b13 v13 b14 v14 b15 v15 : Int) (w : World) (l0 : 0 ≤ b0) (u0 : b0 ≤ 255) (l1 : 0 ≤ b1) (u1 : b1 ≤ 255) (l2 : 0 ≤ b2) (u2 : b2 ≤ 255) (l3 : 0 ≤ b3) (u3 : b3 ≤ 255) (l4 : 0 ≤ b4) (u4 : b4 ≤ 255) (l5 : 0 ≤ b5) (u5 : b5 ≤ 255) (l6 : 0 ≤ b6) (u6 : b6 ≤ 255) (l7 : 0 ≤ b7) (u7 : b7 ≤ 255) (l8 : 0 ≤ b8) (u8 : b8 ≤ 255) (l9 : 0 ≤ b9) (u9 : b9 ≤ 255) (l10 : 0 ≤ b10) (u10 : b10 ≤ 255) (l11 : 0 ≤ b11) (u11 : b11 ≤ 255) (l12 : 0 ≤ b12) (u12 : b12 ≤ 255) (l13 : 0 ≤ b13) (u13 : b13 ≤ 255) (l14 : 0 ≤ b14) (u14 : b14 ≤ 255) (l15 : 0 ≤ b15) (u15 : b15 ≤ 255)
    (o0 : bits .or .u64 0 b0 = v0) (o1 : bits .or .u64 v0 (b1 * 256) = v1) (o2 : bits .or .u64 v1 (b2 * 65536) = v2) (o3 : bits .or .u64 v2 (b3 * 16777216) = v3) (o4 : bits .or .u64 v3 (b4 * 4294967296) = v4) (o5 : bits .or .u64 v4 (b5 * 1099511627776) = v5) (o6 : bits .or .u64 v5 (b6 * 281474976710656) = v6) (o7 : bits .or .u64 v6 (b7 * 72057594037927936) = v7) (o8 : bits .or .u64 0 b8 = v8) (o9 : bits .or .u64 v8 (b9 * 256) = v9) (o10 : bits .or .u64 v9 (b10 * 65536) = v10) (o11 : bits .or .u64 v10 (b11 * 16777216) = v11) (o12 : bits .or .u64 v11 (b12 * 4294967296) = v12) (o13 : bits .or .u64 v12 (b13 * 1099511627776) = v13) (o14 : bits .or .u64 v13 (b14 * 281474976710656) = v14) (o15 : bits .or .u64 v14 (b15 * 72057594037927936) = v15) (HI : Hid (Pure Try.prog 49 #[.agg #[.int .u64 v7, .int .u64 v15]] (.bool false))) :
    Calls Try.prog 57 #[.agg #[.int .u8 b0, .int .u8 b1, .int .u8 b2, .int .u8 b3, .int .u8 b4, .int .u8 b5, .int .u8 b6, .int .u8 b7, .int .u8 b8, .int .u8 b9, .int .u8 b10, .int .u8 b11, .int .u8 b12, .int .u8 b13, .int .u8 b14, .int .u8 b15]] w fun e w' => e = .returned (.tuple #[.agg #[.int .u64 0, .int .u64 0], .int .i64 7]) ∧ Kept w w' := by
  have i0 : ∀ w, (Instr.index 54 (.agg #[.int .u8 b0, .int .u8 b1, .int .u8 b2, .int .u8 b3, .int .u8 b4, .int .u8 b5, .int .u8 b6, .int .u8 b7, .int .u8 b8, .int .u8 b9, .int .u8 b10, .int .u8 b11, .int .u8 b12, .int .u8 b13, .int .u8 b14, .int .u8 b15]) (.int .i64 0)).run Try.prog w = .ok (.int .u8 b0) w := fun _ => by kernel_rfl
  have i1 : ∀ w, (Instr.index 54 (.agg #[.int .u8 b0, .int .u8 b1, .int .u8 b2, .int .u8 b3, .int .u8 b4, .int .u8 b5, .int .u8 b6, .int .u8 b7, .int .u8 b8, .int .u8 b9, .int .u8 b10, .int .u8 b11, .int .u8 b12, .int .u8 b13, .int .u8 b14, .int .u8 b15]) (.int .i64 1)).run Try.prog w = .ok (.int .u8 b1) w := fun _ => by kernel_rfl
  have i2 : ∀ w, (Instr.index 54 (.agg #[.int .u8 b0, .int .u8 b1, .int .u8 b2, .int .u8 b3, .int .u8 b4, .int .u8 b5, .int .u8 b6, .int .u8 b7, .int .u8 b8, .int .u8 b9, .int .u8 b10, .int .u8 b11, .int .u8 b12, .int .u8 b13, .int .u8 b14, .int .u8 b15]) (.int .i64 2)).run Try.prog w = .ok (.int .u8 b2) w := fun _ => by kernel_rfl
  have i3 : ∀ w, (Instr.index 54 (.agg #[.int .u8 b0, .int .u8 b1, .int .u8 b2, .int .u8 b3, .int .u8 b4, .int .u8 b5, .int .u8 b6, .int .u8 b7, .int .u8 b8, .int .u8 b9, .int .u8 b10, .int .u8 b11, .int .u8 b12, .int .u8 b13, .int .u8 b14, .int .u8 b15]) (.int .i64 3)).run Try.prog w = .ok (.int .u8 b3) w := fun _ => by kernel_rfl
  have i4 : ∀ w, (Instr.index 54 (.agg #[.int .u8 b0, .int .u8 b1, .int .u8 b2, .int .u8 b3, .int .u8 b4, .int .u8 b5, .int .u8 b6, .int .u8 b7, .int .u8 b8, .int .u8 b9, .int .u8 b10, .int .u8 b11, .int .u8 b12, .int .u8 b13, .int .u8 b14, .int .u8 b15]) (.int .i64 4)).run Try.prog w = .ok (.int .u8 b4) w := fun _ => by kernel_rfl
  have i5 : ∀ w, (Instr.index 54 (.agg #[.int .u8 b0, .int .u8 b1, .int .u8 b2, .int .u8 b3, .int .u8 b4, .int .u8 b5, .int .u8 b6, .int .u8 b7, .int .u8 b8, .int .u8 b9, .int .u8 b10, .int .u8 b11, .int .u8 b12, .int .u8 b13, .int .u8 b14, .int .u8 b15]) (.int .i64 5)).run Try.prog w = .ok (.int .u8 b5) w := fun _ => by kernel_rfl
  have i6 : ∀ w, (Instr.index 54 (.agg #[.int .u8 b0, .int .u8 b1, .int .u8 b2, .int .u8 b3, .int .u8 b4, .int .u8 b5, .int .u8 b6, .int .u8 b7, .int .u8 b8, .int .u8 b9, .int .u8 b10, .int .u8 b11, .int .u8 b12, .int .u8 b13, .int .u8 b14, .int .u8 b15]) (.int .i64 6)).run Try.prog w = .ok (.int .u8 b6) w := fun _ => by kernel_rfl
  have i7 : ∀ w, (Instr.index 54 (.agg #[.int .u8 b0, .int .u8 b1, .int .u8 b2, .int .u8 b3, .int .u8 b4, .int .u8 b5, .int .u8 b6, .int .u8 b7, .int .u8 b8, .int .u8 b9, .int .u8 b10, .int .u8 b11, .int .u8 b12, .int .u8 b13, .int .u8 b14, .int .u8 b15]) (.int .i64 7)).run Try.prog w = .ok (.int .u8 b7) w := fun _ => by kernel_rfl
  have i8 : ∀ w, (Instr.index 54 (.agg #[.int .u8 b0, .int .u8 b1, .int .u8 b2, .int .u8 b3, .int .u8 b4, .int .u8 b5, .int .u8 b6, .int .u8 b7, .int .u8 b8, .int .u8 b9, .int .u8 b10, .int .u8 b11, .int .u8 b12, .int .u8 b13, .int .u8 b14, .int .u8 b15]) (.int .i64 8)).run Try.prog w = .ok (.int .u8 b8) w := fun _ => by kernel_rfl
  have i9 : ∀ w, (Instr.index 54 (.agg #[.int .u8 b0, .int .u8 b1, .int .u8 b2, .int .u8 b3, .int .u8 b4, .int .u8 b5, .int .u8 b6, .int .u8 b7, .int .u8 b8, .int .u8 b9, .int .u8 b10, .int .u8 b11, .int .u8 b12, .int .u8 b13, .int .u8 b14, .int .u8 b15]) (.int .i64 9)).run Try.prog w = .ok (.int .u8 b9) w := fun _ => by kernel_rfl
  have i10 : ∀ w, (Instr.index 54 (.agg #[.int .u8 b0, .int .u8 b1, .int .u8 b2, .int .u8 b3, .int .u8 b4, .int .u8 b5, .int .u8 b6, .int .u8 b7, .int .u8 b8, .int .u8 b9, .int .u8 b10, .int .u8 b11, .int .u8 b12, .int .u8 b13, .int .u8 b14, .int .u8 b15]) (.int .i64 10)).run Try.prog w = .ok (.int .u8 b10) w := fun _ => by kernel_rfl
  have i11 : ∀ w, (Instr.index 54 (.agg #[.int .u8 b0, .int .u8 b1, .int .u8 b2, .int .u8 b3, .int .u8 b4, .int .u8 b5, .int .u8 b6, .int .u8 b7, .int .u8 b8, .int .u8 b9, .int .u8 b10, .int .u8 b11, .int .u8 b12, .int .u8 b13, .int .u8 b14, .int .u8 b15]) (.int .i64 11)).run Try.prog w = .ok (.int .u8 b11) w := fun _ => by kernel_rfl
  have i12 : ∀ w, (Instr.index 54 (.agg #[.int .u8 b0, .int .u8 b1, .int .u8 b2, .int .u8 b3, .int .u8 b4, .int .u8 b5, .int .u8 b6, .int .u8 b7, .int .u8 b8, .int .u8 b9, .int .u8 b10, .int .u8 b11, .int .u8 b12, .int .u8 b13, .int .u8 b14, .int .u8 b15]) (.int .i64 12)).run Try.prog w = .ok (.int .u8 b12) w := fun _ => by kernel_rfl
  have i13 : ∀ w, (Instr.index 54 (.agg #[.int .u8 b0, .int .u8 b1, .int .u8 b2, .int .u8 b3, .int .u8 b4, .int .u8 b5, .int .u8 b6, .int .u8 b7, .int .u8 b8, .int .u8 b9, .int .u8 b10, .int .u8 b11, .int .u8 b12, .int .u8 b13, .int .u8 b14, .int .u8 b15]) (.int .i64 13)).run Try.prog w = .ok (.int .u8 b13) w := fun _ => by kernel_rfl
  have i14 : ∀ w, (Instr.index 54 (.agg #[.int .u8 b0, .int .u8 b1, .int .u8 b2, .int .u8 b3, .int .u8 b4, .int .u8 b5, .int .u8 b6, .int .u8 b7, .int .u8 b8, .int .u8 b9, .int .u8 b10, .int .u8 b11, .int .u8 b12, .int .u8 b13, .int .u8 b14, .int .u8 b15]) (.int .i64 14)).run Try.prog w = .ok (.int .u8 b14) w := fun _ => by kernel_rfl
  have i15 : ∀ w, (Instr.index 54 (.agg #[.int .u8 b0, .int .u8 b1, .int .u8 b2, .int .u8 b3, .int .u8 b4, .int .u8 b5, .int .u8 b6, .int .u8 b7, .int .u8 b8, .int .u8 b9, .int .u8 b10, .int .u8 b11, .int .u8 b12, .int .u8 b13, .int .u8 b14, .int .u8 b15]) (.int .i64 15)).run Try.prog w = .ok (.int .u8 b15) w := fun _ => by kernel_rfl
  have ne0_2 : w.heap.size ≠ w.heap.size + 1 + 1 := by omega
  have ne2_0 : w.heap.size + 1 + 1 ≠ w.heap.size := by omega
  go_enter Try.func57, Try.ntmps57
  go_wp2_with fail
  have zw0 : IntKind.i64.wrap 0 = 0 := by decide
  have zw1 : IntKind.i64.wrap 1 = 1 := by decide
  have zw2 : IntKind.i64.wrap 2 = 2 := by decide
  have zw3 : IntKind.i64.wrap 3 = 3 := by decide
  have zw4 : IntKind.i64.wrap 4 = 4 := by decide
  have zw5 : IntKind.i64.wrap 5 = 5 := by decide
  have zw6 : IntKind.i64.wrap 6 = 6 := by decide
  have zw7 : IntKind.i64.wrap 7 = 7 := by decide
  have zw8 : IntKind.i64.wrap 8 = 8 := by decide
  have zw16 : IntKind.i64.wrap 16 = 16 := by decide
  have zw24 : IntKind.i64.wrap 24 = 24 := by decide
  have zw32 : IntKind.i64.wrap 32 = 32 := by decide
  have zw40 : IntKind.i64.wrap 40 = 40 := by decide
  have zw48 : IntKind.i64.wrap 48 = 48 := by decide
  have zw56 : IntKind.i64.wrap 56 = 56 := by decide
  refine wp_loop_rounds 17 ?_
  rw [rounds_succ]
  refine abs_world (fun W => Kept w W ∧ Blk W (w.heap.size) 54 #[.int .u8 b0, .int .u8 b1, .int .u8 b2, .int .u8 b3, .int .u8 b4, .int .u8 b5, .int .u8 b6, .int .u8 b7, .int .u8 b8, .int .u8 b9, .int .u8 b10, .int .u8 b11, .int .u8 b12, .int .u8 b13, .int .u8 b14, .int .u8 b15] ∧ Blk W (w.heap.size + 1) 28 #[.int .u64 0, .int .u64 0] ∧ Blk W (w.heap.size + 1 + 1) 28 #[.int .u64 0, .int .u64 0]) ?_ ?_
  · refine ⟨?_, ?_, ?_, ?_⟩
    · repeat (first | exact Kept.refl _ | (refine Kept.setCell ?_ (kept_side (by first | assumption | omega)) _) | apply Kept.alloc | apply Kept.drew)
    · simp [Blk, *] <;> (intros; omega)
    · simp [Blk, *] <;> (intros; omega)
    · simp [Blk, *] <;> (intros; omega)
  rintro W1 ⟨kW1, BW1_0, BW1_1, BW1_2⟩
  have cW1_0_0 : W1.cell? ⟨w.heap.size, 0, none⟩ = some (.int .u8 b0) := BW1_0.cell 0 rfl
  have cW1_0_1 : W1.cell? ⟨w.heap.size, 1, none⟩ = some (.int .u8 b1) := BW1_0.cell 1 rfl
  have cW1_0_2 : W1.cell? ⟨w.heap.size, 2, none⟩ = some (.int .u8 b2) := BW1_0.cell 2 rfl
  have cW1_0_3 : W1.cell? ⟨w.heap.size, 3, none⟩ = some (.int .u8 b3) := BW1_0.cell 3 rfl
  have cW1_0_4 : W1.cell? ⟨w.heap.size, 4, none⟩ = some (.int .u8 b4) := BW1_0.cell 4 rfl
  have cW1_0_5 : W1.cell? ⟨w.heap.size, 5, none⟩ = some (.int .u8 b5) := BW1_0.cell 5 rfl
  have cW1_0_6 : W1.cell? ⟨w.heap.size, 6, none⟩ = some (.int .u8 b6) := BW1_0.cell 6 rfl
  have cW1_0_7 : W1.cell? ⟨w.heap.size, 7, none⟩ = some (.int .u8 b7) := BW1_0.cell 7 rfl
  have cW1_0_8 : W1.cell? ⟨w.heap.size, 8, none⟩ = some (.int .u8 b8) := BW1_0.cell 8 rfl
  have cW1_0_9 : W1.cell? ⟨w.heap.size, 9, none⟩ = some (.int .u8 b9) := BW1_0.cell 9 rfl
  have cW1_0_10 : W1.cell? ⟨w.heap.size, 10, none⟩ = some (.int .u8 b10) := BW1_0.cell 10 rfl
  have cW1_0_11 : W1.cell? ⟨w.heap.size, 11, none⟩ = some (.int .u8 b11) := BW1_0.cell 11 rfl
  have cW1_0_12 : W1.cell? ⟨w.heap.size, 12, none⟩ = some (.int .u8 b12) := BW1_0.cell 12 rfl
  have cW1_0_13 : W1.cell? ⟨w.heap.size, 13, none⟩ = some (.int .u8 b13) := BW1_0.cell 13 rfl
  have cW1_0_14 : W1.cell? ⟨w.heap.size, 14, none⟩ = some (.int .u8 b14) := BW1_0.cell 14 rfl
  have cW1_0_15 : W1.cell? ⟨w.heap.size, 15, none⟩ = some (.int .u8 b15) := BW1_0.cell 15 rfl
  have fW1_0 := BW1_0.free
  have cW1_1_0 : W1.cell? ⟨w.heap.size + 1, 0, none⟩ = some (.int .u64 0) := BW1_1.cell 0 rfl
  have cW1_1_1 : W1.cell? ⟨w.heap.size + 1, 1, none⟩ = some (.int .u64 0) := BW1_1.cell 1 rfl
  have fW1_1 := BW1_1.free
  have cW1_2_0 : W1.cell? ⟨w.heap.size + 1 + 1, 0, none⟩ = some (.int .u64 0) := BW1_2.cell 0 rfl
  have cW1_2_1 : W1.cell? ⟨w.heap.size + 1 + 1, 1, none⟩ = some (.int .u64 0) := BW1_2.cell 1 rfl
  have fW1_2 := BW1_2.free
  go_wp2_with fail
  refine wp_region_calm 12 (by kernel_rfl) (by kernel_rfl) ?_
  simp only [List.take_succ_cons, List.take_zero, List.drop_succ_cons, List.drop_zero]
  repeat (first
    | (refine calm_skip rfl ?_; simp only [Act.put, List.setIfInBounds_toArray, List.set_cons_zero, List.set_cons_succ])
    | (refine calm_ex rfl ?_; apply Exists.intro; refine And.intro (fun w' hk => ?_) ?_; (focus (have q0 := hk.cell cW1_0_0; have q1 := hk.cell cW1_0_1; have q2 := hk.cell cW1_0_2; have q3 := hk.cell cW1_0_3; have q4 := hk.cell cW1_0_4; have q5 := hk.cell cW1_0_5; have q6 := hk.cell cW1_0_6; have q7 := hk.cell cW1_0_7; have q8 := hk.cell cW1_0_8; have q9 := hk.cell cW1_0_9; have q10 := hk.cell cW1_0_10; have q11 := hk.cell cW1_0_11; have q12 := hk.cell cW1_0_12; have q13 := hk.cell cW1_0_13; have q14 := hk.cell cW1_0_14; have q15 := hk.cell cW1_0_15; have q16 := hk.cell cW1_1_0; have q17 := hk.cell cW1_1_1; have q18 := hk.cell cW1_2_0; have q19 := hk.cell cW1_2_1; clear hk; go_simp; exact rfl)); simp only [Act.put, List.setIfInBounds_toArray, List.set_cons_zero, List.set_cons_succ]))
  refine calm_nil ?_
  intro W2 hkW2
  have kW2 := kW1.trans hkW2
  have BW2_0 := BW1_0.kept hkW2
  have BW2_1 := BW1_1.kept hkW2
  have BW2_2 := BW1_2.kept hkW2
  clear cW1_0_0 cW1_0_1 cW1_0_2 cW1_0_3 cW1_0_4 cW1_0_5 cW1_0_6 cW1_0_7 cW1_0_8 cW1_0_9 cW1_0_10 cW1_0_11 cW1_0_12 cW1_0_13 cW1_0_14 cW1_0_15 cW1_1_0 cW1_1_1 cW1_2_0 cW1_2_1 fW1_0 fW1_1 fW1_2 BW1_0 BW1_1 BW1_2 kW1 hkW2
  have cW2_0_0 : W2.cell? ⟨w.heap.size, 0, none⟩ = some (.int .u8 b0) := BW2_0.cell 0 rfl
  have cW2_0_1 : W2.cell? ⟨w.heap.size, 1, none⟩ = some (.int .u8 b1) := BW2_0.cell 1 rfl
  have cW2_0_2 : W2.cell? ⟨w.heap.size, 2, none⟩ = some (.int .u8 b2) := BW2_0.cell 2 rfl
  have cW2_0_3 : W2.cell? ⟨w.heap.size, 3, none⟩ = some (.int .u8 b3) := BW2_0.cell 3 rfl
  have cW2_0_4 : W2.cell? ⟨w.heap.size, 4, none⟩ = some (.int .u8 b4) := BW2_0.cell 4 rfl
  have cW2_0_5 : W2.cell? ⟨w.heap.size, 5, none⟩ = some (.int .u8 b5) := BW2_0.cell 5 rfl
  have cW2_0_6 : W2.cell? ⟨w.heap.size, 6, none⟩ = some (.int .u8 b6) := BW2_0.cell 6 rfl
  have cW2_0_7 : W2.cell? ⟨w.heap.size, 7, none⟩ = some (.int .u8 b7) := BW2_0.cell 7 rfl
  have cW2_0_8 : W2.cell? ⟨w.heap.size, 8, none⟩ = some (.int .u8 b8) := BW2_0.cell 8 rfl
  have cW2_0_9 : W2.cell? ⟨w.heap.size, 9, none⟩ = some (.int .u8 b9) := BW2_0.cell 9 rfl
  have cW2_0_10 : W2.cell? ⟨w.heap.size, 10, none⟩ = some (.int .u8 b10) := BW2_0.cell 10 rfl
  have cW2_0_11 : W2.cell? ⟨w.heap.size, 11, none⟩ = some (.int .u8 b11) := BW2_0.cell 11 rfl
  have cW2_0_12 : W2.cell? ⟨w.heap.size, 12, none⟩ = some (.int .u8 b12) := BW2_0.cell 12 rfl
  have cW2_0_13 : W2.cell? ⟨w.heap.size, 13, none⟩ = some (.int .u8 b13) := BW2_0.cell 13 rfl
  have cW2_0_14 : W2.cell? ⟨w.heap.size, 14, none⟩ = some (.int .u8 b14) := BW2_0.cell 14 rfl
  have cW2_0_15 : W2.cell? ⟨w.heap.size, 15, none⟩ = some (.int .u8 b15) := BW2_0.cell 15 rfl
  have fW2_0 := BW2_0.free
  have cW2_1_0 : W2.cell? ⟨w.heap.size + 1, 0, none⟩ = some (.int .u64 0) := BW2_1.cell 0 rfl
  have cW2_1_1 : W2.cell? ⟨w.heap.size + 1, 1, none⟩ = some (.int .u64 0) := BW2_1.cell 1 rfl
  have fW2_1 := BW2_1.free
  have cW2_2_0 : W2.cell? ⟨w.heap.size + 1 + 1, 0, none⟩ = some (.int .u64 0) := BW2_2.cell 0 rfl
  have cW2_2_1 : W2.cell? ⟨w.heap.size + 1 + 1, 1, none⟩ = some (.int .u64 0) := BW2_2.cell 1 rfl
  have fW2_2 := BW2_2.free
  go_wp2_with fail
  rw [rounds_succ]
  refine abs_world (fun W => Kept w W ∧ Blk W (w.heap.size) 54 #[.int .u8 b0, .int .u8 b1, .int .u8 b2, .int .u8 b3, .int .u8 b4, .int .u8 b5, .int .u8 b6, .int .u8 b7, .int .u8 b8, .int .u8 b9, .int .u8 b10, .int .u8 b11, .int .u8 b12, .int .u8 b13, .int .u8 b14, .int .u8 b15] ∧ Blk W (w.heap.size + 1) 28 #[.int .u64 0, .int .u64 0] ∧ Blk W (w.heap.size + 1 + 1) 28 #[.int .u64 v0, .int .u64 0]) ?_ ?_
  · refine ⟨?_, ?_, ?_, ?_⟩
    · repeat (first | exact kW2 | (refine Kept.setCell ?_ (kept_side (by first | assumption | omega)) _) | apply Kept.alloc | apply Kept.drew)
    · simp [Blk, *] <;> (intros; omega)
    · simp [Blk, *] <;> (intros; omega)
    · simp [Blk, *] <;> (intros; omega)
  rintro W3 ⟨kW3, BW3_0, BW3_1, BW3_2⟩
  have cW3_0_0 : W3.cell? ⟨w.heap.size, 0, none⟩ = some (.int .u8 b0) := BW3_0.cell 0 rfl
  have cW3_0_1 : W3.cell? ⟨w.heap.size, 1, none⟩ = some (.int .u8 b1) := BW3_0.cell 1 rfl
  have cW3_0_2 : W3.cell? ⟨w.heap.size, 2, none⟩ = some (.int .u8 b2) := BW3_0.cell 2 rfl
  have cW3_0_3 : W3.cell? ⟨w.heap.size, 3, none⟩ = some (.int .u8 b3) := BW3_0.cell 3 rfl
  have cW3_0_4 : W3.cell? ⟨w.heap.size, 4, none⟩ = some (.int .u8 b4) := BW3_0.cell 4 rfl
  have cW3_0_5 : W3.cell? ⟨w.heap.size, 5, none⟩ = some (.int .u8 b5) := BW3_0.cell 5 rfl
  have cW3_0_6 : W3.cell? ⟨w.heap.size, 6, none⟩ = some (.int .u8 b6) := BW3_0.cell 6 rfl
  have cW3_0_7 : W3.cell? ⟨w.heap.size, 7, none⟩ = some (.int .u8 b7) := BW3_0.cell 7 rfl
  have cW3_0_8 : W3.cell? ⟨w.heap.size, 8, none⟩ = some (.int .u8 b8) := BW3_0.cell 8 rfl
  have cW3_0_9 : W3.cell? ⟨w.heap.size, 9, none⟩ = some (.int .u8 b9) := BW3_0.cell 9 rfl
  have cW3_0_10 : W3.cell? ⟨w.heap.size, 10, none⟩ = some (.int .u8 b10) := BW3_0.cell 10 rfl
  have cW3_0_11 : W3.cell? ⟨w.heap.size, 11, none⟩ = some (.int .u8 b11) := BW3_0.cell 11 rfl
  have cW3_0_12 : W3.cell? ⟨w.heap.size, 12, none⟩ = some (.int .u8 b12) := BW3_0.cell 12 rfl
  have cW3_0_13 : W3.cell? ⟨w.heap.size, 13, none⟩ = some (.int .u8 b13) := BW3_0.cell 13 rfl
  have cW3_0_14 : W3.cell? ⟨w.heap.size, 14, none⟩ = some (.int .u8 b14) := BW3_0.cell 14 rfl
  have cW3_0_15 : W3.cell? ⟨w.heap.size, 15, none⟩ = some (.int .u8 b15) := BW3_0.cell 15 rfl
  have fW3_0 := BW3_0.free
  have cW3_1_0 : W3.cell? ⟨w.heap.size + 1, 0, none⟩ = some (.int .u64 0) := BW3_1.cell 0 rfl
  have cW3_1_1 : W3.cell? ⟨w.heap.size + 1, 1, none⟩ = some (.int .u64 0) := BW3_1.cell 1 rfl
  have fW3_1 := BW3_1.free
  have cW3_2_0 : W3.cell? ⟨w.heap.size + 1 + 1, 0, none⟩ = some (.int .u64 v0) := BW3_2.cell 0 rfl
  have cW3_2_1 : W3.cell? ⟨w.heap.size + 1 + 1, 1, none⟩ = some (.int .u64 0) := BW3_2.cell 1 rfl
  have fW3_2 := BW3_2.free
  go_wp2_with fail
  refine wp_region_calm 12 (by kernel_rfl) (by kernel_rfl) ?_
  simp only [List.take_succ_cons, List.take_zero, List.drop_succ_cons, List.drop_zero]
  repeat (first
    | (refine calm_skip rfl ?_; simp only [Act.put, List.setIfInBounds_toArray, List.set_cons_zero, List.set_cons_succ])
    | (refine calm_ex rfl ?_; apply Exists.intro; refine And.intro (fun w' hk => ?_) ?_; (focus (have q0 := hk.cell cW3_0_0; have q1 := hk.cell cW3_0_1; have q2 := hk.cell cW3_0_2; have q3 := hk.cell cW3_0_3; have q4 := hk.cell cW3_0_4; have q5 := hk.cell cW3_0_5; have q6 := hk.cell cW3_0_6; have q7 := hk.cell cW3_0_7; have q8 := hk.cell cW3_0_8; have q9 := hk.cell cW3_0_9; have q10 := hk.cell cW3_0_10; have q11 := hk.cell cW3_0_11; have q12 := hk.cell cW3_0_12; have q13 := hk.cell cW3_0_13; have q14 := hk.cell cW3_0_14; have q15 := hk.cell cW3_0_15; have q16 := hk.cell cW3_1_0; have q17 := hk.cell cW3_1_1; have q18 := hk.cell cW3_2_0; have q19 := hk.cell cW3_2_1; clear hk; go_simp; exact rfl)); simp only [Act.put, List.setIfInBounds_toArray, List.set_cons_zero, List.set_cons_succ]))
  refine calm_nil ?_
  intro W4 hkW4
  have kW4 := kW3.trans hkW4
  have BW4_0 := BW3_0.kept hkW4
  have BW4_1 := BW3_1.kept hkW4
  have BW4_2 := BW3_2.kept hkW4
  clear cW3_0_0 cW3_0_1 cW3_0_2 cW3_0_3 cW3_0_4 cW3_0_5 cW3_0_6 cW3_0_7 cW3_0_8 cW3_0_9 cW3_0_10 cW3_0_11 cW3_0_12 cW3_0_13 cW3_0_14 cW3_0_15 cW3_1_0 cW3_1_1 cW3_2_0 cW3_2_1 fW3_0 fW3_1 fW3_2 BW3_0 BW3_1 BW3_2 kW3 hkW4
  have cW4_0_0 : W4.cell? ⟨w.heap.size, 0, none⟩ = some (.int .u8 b0) := BW4_0.cell 0 rfl
  have cW4_0_1 : W4.cell? ⟨w.heap.size, 1, none⟩ = some (.int .u8 b1) := BW4_0.cell 1 rfl
  have cW4_0_2 : W4.cell? ⟨w.heap.size, 2, none⟩ = some (.int .u8 b2) := BW4_0.cell 2 rfl
  have cW4_0_3 : W4.cell? ⟨w.heap.size, 3, none⟩ = some (.int .u8 b3) := BW4_0.cell 3 rfl
  have cW4_0_4 : W4.cell? ⟨w.heap.size, 4, none⟩ = some (.int .u8 b4) := BW4_0.cell 4 rfl
  have cW4_0_5 : W4.cell? ⟨w.heap.size, 5, none⟩ = some (.int .u8 b5) := BW4_0.cell 5 rfl
  have cW4_0_6 : W4.cell? ⟨w.heap.size, 6, none⟩ = some (.int .u8 b6) := BW4_0.cell 6 rfl
  have cW4_0_7 : W4.cell? ⟨w.heap.size, 7, none⟩ = some (.int .u8 b7) := BW4_0.cell 7 rfl
  have cW4_0_8 : W4.cell? ⟨w.heap.size, 8, none⟩ = some (.int .u8 b8) := BW4_0.cell 8 rfl
  have cW4_0_9 : W4.cell? ⟨w.heap.size, 9, none⟩ = some (.int .u8 b9) := BW4_0.cell 9 rfl
  have cW4_0_10 : W4.cell? ⟨w.heap.size, 10, none⟩ = some (.int .u8 b10) := BW4_0.cell 10 rfl
  have cW4_0_11 : W4.cell? ⟨w.heap.size, 11, none⟩ = some (.int .u8 b11) := BW4_0.cell 11 rfl
  have cW4_0_12 : W4.cell? ⟨w.heap.size, 12, none⟩ = some (.int .u8 b12) := BW4_0.cell 12 rfl
  have cW4_0_13 : W4.cell? ⟨w.heap.size, 13, none⟩ = some (.int .u8 b13) := BW4_0.cell 13 rfl
  have cW4_0_14 : W4.cell? ⟨w.heap.size, 14, none⟩ = some (.int .u8 b14) := BW4_0.cell 14 rfl
  have cW4_0_15 : W4.cell? ⟨w.heap.size, 15, none⟩ = some (.int .u8 b15) := BW4_0.cell 15 rfl
  have fW4_0 := BW4_0.free
  have cW4_1_0 : W4.cell? ⟨w.heap.size + 1, 0, none⟩ = some (.int .u64 0) := BW4_1.cell 0 rfl
  have cW4_1_1 : W4.cell? ⟨w.heap.size + 1, 1, none⟩ = some (.int .u64 0) := BW4_1.cell 1 rfl
  have fW4_1 := BW4_1.free
  have cW4_2_0 : W4.cell? ⟨w.heap.size + 1 + 1, 0, none⟩ = some (.int .u64 v0) := BW4_2.cell 0 rfl
  have cW4_2_1 : W4.cell? ⟨w.heap.size + 1 + 1, 1, none⟩ = some (.int .u64 0) := BW4_2.cell 1 rfl
  have fW4_2 := BW4_2.free
  go_wp2_with fail
  rw [rounds_succ]
  refine abs_world (fun W => Kept w W ∧ Blk W (w.heap.size) 54 #[.int .u8 b0, .int .u8 b1, .int .u8 b2, .int .u8 b3, .int .u8 b4, .int .u8 b5, .int .u8 b6, .int .u8 b7, .int .u8 b8, .int .u8 b9, .int .u8 b10, .int .u8 b11, .int .u8 b12, .int .u8 b13, .int .u8 b14, .int .u8 b15] ∧ Blk W (w.heap.size + 1) 28 #[.int .u64 0, .int .u64 0] ∧ Blk W (w.heap.size + 1 + 1) 28 #[.int .u64 v1, .int .u64 0]) ?_ ?_
  · refine ⟨?_, ?_, ?_, ?_⟩
    · repeat (first | exact kW4 | (refine Kept.setCell ?_ (kept_side (by first | assumption | omega)) _) | apply Kept.alloc | apply Kept.drew)
    · simp [Blk, *] <;> (intros; omega)
    · simp [Blk, *] <;> (intros; omega)
    · simp [Blk, *] <;> (intros; omega)
  rintro W5 ⟨kW5, BW5_0, BW5_1, BW5_2⟩
  have cW5_0_0 : W5.cell? ⟨w.heap.size, 0, none⟩ = some (.int .u8 b0) := BW5_0.cell 0 rfl
  have cW5_0_1 : W5.cell? ⟨w.heap.size, 1, none⟩ = some (.int .u8 b1) := BW5_0.cell 1 rfl
  have cW5_0_2 : W5.cell? ⟨w.heap.size, 2, none⟩ = some (.int .u8 b2) := BW5_0.cell 2 rfl
  have cW5_0_3 : W5.cell? ⟨w.heap.size, 3, none⟩ = some (.int .u8 b3) := BW5_0.cell 3 rfl
  have cW5_0_4 : W5.cell? ⟨w.heap.size, 4, none⟩ = some (.int .u8 b4) := BW5_0.cell 4 rfl
  have cW5_0_5 : W5.cell? ⟨w.heap.size, 5, none⟩ = some (.int .u8 b5) := BW5_0.cell 5 rfl
  have cW5_0_6 : W5.cell? ⟨w.heap.size, 6, none⟩ = some (.int .u8 b6) := BW5_0.cell 6 rfl
  have cW5_0_7 : W5.cell? ⟨w.heap.size, 7, none⟩ = some (.int .u8 b7) := BW5_0.cell 7 rfl
  have cW5_0_8 : W5.cell? ⟨w.heap.size, 8, none⟩ = some (.int .u8 b8) := BW5_0.cell 8 rfl
  have cW5_0_9 : W5.cell? ⟨w.heap.size, 9, none⟩ = some (.int .u8 b9) := BW5_0.cell 9 rfl
  have cW5_0_10 : W5.cell? ⟨w.heap.size, 10, none⟩ = some (.int .u8 b10) := BW5_0.cell 10 rfl
  have cW5_0_11 : W5.cell? ⟨w.heap.size, 11, none⟩ = some (.int .u8 b11) := BW5_0.cell 11 rfl
  have cW5_0_12 : W5.cell? ⟨w.heap.size, 12, none⟩ = some (.int .u8 b12) := BW5_0.cell 12 rfl
  have cW5_0_13 : W5.cell? ⟨w.heap.size, 13, none⟩ = some (.int .u8 b13) := BW5_0.cell 13 rfl
  have cW5_0_14 : W5.cell? ⟨w.heap.size, 14, none⟩ = some (.int .u8 b14) := BW5_0.cell 14 rfl
  have cW5_0_15 : W5.cell? ⟨w.heap.size, 15, none⟩ = some (.int .u8 b15) := BW5_0.cell 15 rfl
  have fW5_0 := BW5_0.free
  have cW5_1_0 : W5.cell? ⟨w.heap.size + 1, 0, none⟩ = some (.int .u64 0) := BW5_1.cell 0 rfl
  have cW5_1_1 : W5.cell? ⟨w.heap.size + 1, 1, none⟩ = some (.int .u64 0) := BW5_1.cell 1 rfl
  have fW5_1 := BW5_1.free
  have cW5_2_0 : W5.cell? ⟨w.heap.size + 1 + 1, 0, none⟩ = some (.int .u64 v1) := BW5_2.cell 0 rfl
  have cW5_2_1 : W5.cell? ⟨w.heap.size + 1 + 1, 1, none⟩ = some (.int .u64 0) := BW5_2.cell 1 rfl
  have fW5_2 := BW5_2.free
  go_wp2_with fail
  refine wp_region_calm 12 (by kernel_rfl) (by kernel_rfl) ?_
  simp only [List.take_succ_cons, List.take_zero, List.drop_succ_cons, List.drop_zero]
  repeat (first
    | (refine calm_skip rfl ?_; simp only [Act.put, List.setIfInBounds_toArray, List.set_cons_zero, List.set_cons_succ])
    | (refine calm_ex rfl ?_; apply Exists.intro; refine And.intro (fun w' hk => ?_) ?_; (focus (have q0 := hk.cell cW5_0_0; have q1 := hk.cell cW5_0_1; have q2 := hk.cell cW5_0_2; have q3 := hk.cell cW5_0_3; have q4 := hk.cell cW5_0_4; have q5 := hk.cell cW5_0_5; have q6 := hk.cell cW5_0_6; have q7 := hk.cell cW5_0_7; have q8 := hk.cell cW5_0_8; have q9 := hk.cell cW5_0_9; have q10 := hk.cell cW5_0_10; have q11 := hk.cell cW5_0_11; have q12 := hk.cell cW5_0_12; have q13 := hk.cell cW5_0_13; have q14 := hk.cell cW5_0_14; have q15 := hk.cell cW5_0_15; have q16 := hk.cell cW5_1_0; have q17 := hk.cell cW5_1_1; have q18 := hk.cell cW5_2_0; have q19 := hk.cell cW5_2_1; clear hk; go_simp; exact rfl)); simp only [Act.put, List.setIfInBounds_toArray, List.set_cons_zero, List.set_cons_succ]))
  refine calm_nil ?_
  intro W6 hkW6
  have kW6 := kW5.trans hkW6
  have BW6_0 := BW5_0.kept hkW6
  have BW6_1 := BW5_1.kept hkW6
  have BW6_2 := BW5_2.kept hkW6
  clear cW5_0_0 cW5_0_1 cW5_0_2 cW5_0_3 cW5_0_4 cW5_0_5 cW5_0_6 cW5_0_7 cW5_0_8 cW5_0_9 cW5_0_10 cW5_0_11 cW5_0_12 cW5_0_13 cW5_0_14 cW5_0_15 cW5_1_0 cW5_1_1 cW5_2_0 cW5_2_1 fW5_0 fW5_1 fW5_2 BW5_0 BW5_1 BW5_2 kW5 hkW6
  have cW6_0_0 : W6.cell? ⟨w.heap.size, 0, none⟩ = some (.int .u8 b0) := BW6_0.cell 0 rfl
  have cW6_0_1 : W6.cell? ⟨w.heap.size, 1, none⟩ = some (.int .u8 b1) := BW6_0.cell 1 rfl
  have cW6_0_2 : W6.cell? ⟨w.heap.size, 2, none⟩ = some (.int .u8 b2) := BW6_0.cell 2 rfl
  have cW6_0_3 : W6.cell? ⟨w.heap.size, 3, none⟩ = some (.int .u8 b3) := BW6_0.cell 3 rfl
  have cW6_0_4 : W6.cell? ⟨w.heap.size, 4, none⟩ = some (.int .u8 b4) := BW6_0.cell 4 rfl
  have cW6_0_5 : W6.cell? ⟨w.heap.size, 5, none⟩ = some (.int .u8 b5) := BW6_0.cell 5 rfl
  have cW6_0_6 : W6.cell? ⟨w.heap.size, 6, none⟩ = some (.int .u8 b6) := BW6_0.cell 6 rfl
  have cW6_0_7 : W6.cell? ⟨w.heap.size, 7, none⟩ = some (.int .u8 b7) := BW6_0.cell 7 rfl
  have cW6_0_8 : W6.cell? ⟨w.heap.size, 8, none⟩ = some (.int .u8 b8) := BW6_0.cell 8 rfl
  have cW6_0_9 : W6.cell? ⟨w.heap.size, 9, none⟩ = some (.int .u8 b9) := BW6_0.cell 9 rfl
  have cW6_0_10 : W6.cell? ⟨w.heap.size, 10, none⟩ = some (.int .u8 b10) := BW6_0.cell 10 rfl
  have cW6_0_11 : W6.cell? ⟨w.heap.size, 11, none⟩ = some (.int .u8 b11) := BW6_0.cell 11 rfl
  have cW6_0_12 : W6.cell? ⟨w.heap.size, 12, none⟩ = some (.int .u8 b12) := BW6_0.cell 12 rfl
  have cW6_0_13 : W6.cell? ⟨w.heap.size, 13, none⟩ = some (.int .u8 b13) := BW6_0.cell 13 rfl
  have cW6_0_14 : W6.cell? ⟨w.heap.size, 14, none⟩ = some (.int .u8 b14) := BW6_0.cell 14 rfl
  have cW6_0_15 : W6.cell? ⟨w.heap.size, 15, none⟩ = some (.int .u8 b15) := BW6_0.cell 15 rfl
  have fW6_0 := BW6_0.free
  have cW6_1_0 : W6.cell? ⟨w.heap.size + 1, 0, none⟩ = some (.int .u64 0) := BW6_1.cell 0 rfl
  have cW6_1_1 : W6.cell? ⟨w.heap.size + 1, 1, none⟩ = some (.int .u64 0) := BW6_1.cell 1 rfl
  have fW6_1 := BW6_1.free
  have cW6_2_0 : W6.cell? ⟨w.heap.size + 1 + 1, 0, none⟩ = some (.int .u64 v1) := BW6_2.cell 0 rfl
  have cW6_2_1 : W6.cell? ⟨w.heap.size + 1 + 1, 1, none⟩ = some (.int .u64 0) := BW6_2.cell 1 rfl
  have fW6_2 := BW6_2.free
  go_wp2_with fail
  rw [rounds_succ]
  refine abs_world (fun W => Kept w W ∧ Blk W (w.heap.size) 54 #[.int .u8 b0, .int .u8 b1, .int .u8 b2, .int .u8 b3, .int .u8 b4, .int .u8 b5, .int .u8 b6, .int .u8 b7, .int .u8 b8, .int .u8 b9, .int .u8 b10, .int .u8 b11, .int .u8 b12, .int .u8 b13, .int .u8 b14, .int .u8 b15] ∧ Blk W (w.heap.size + 1) 28 #[.int .u64 0, .int .u64 0] ∧ Blk W (w.heap.size + 1 + 1) 28 #[.int .u64 v2, .int .u64 0]) ?_ ?_
  · refine ⟨?_, ?_, ?_, ?_⟩
    · repeat (first | exact kW6 | (refine Kept.setCell ?_ (kept_side (by first | assumption | omega)) _) | apply Kept.alloc | apply Kept.drew)
    · simp [Blk, *] <;> (intros; omega)
    · simp [Blk, *] <;> (intros; omega)
    · simp [Blk, *] <;> (intros; omega)
  rintro W7 ⟨kW7, BW7_0, BW7_1, BW7_2⟩
  have cW7_0_0 : W7.cell? ⟨w.heap.size, 0, none⟩ = some (.int .u8 b0) := BW7_0.cell 0 rfl
  have cW7_0_1 : W7.cell? ⟨w.heap.size, 1, none⟩ = some (.int .u8 b1) := BW7_0.cell 1 rfl
  have cW7_0_2 : W7.cell? ⟨w.heap.size, 2, none⟩ = some (.int .u8 b2) := BW7_0.cell 2 rfl
  have cW7_0_3 : W7.cell? ⟨w.heap.size, 3, none⟩ = some (.int .u8 b3) := BW7_0.cell 3 rfl
  have cW7_0_4 : W7.cell? ⟨w.heap.size, 4, none⟩ = some (.int .u8 b4) := BW7_0.cell 4 rfl
  have cW7_0_5 : W7.cell? ⟨w.heap.size, 5, none⟩ = some (.int .u8 b5) := BW7_0.cell 5 rfl
  have cW7_0_6 : W7.cell? ⟨w.heap.size, 6, none⟩ = some (.int .u8 b6) := BW7_0.cell 6 rfl
  have cW7_0_7 : W7.cell? ⟨w.heap.size, 7, none⟩ = some (.int .u8 b7) := BW7_0.cell 7 rfl
  have cW7_0_8 : W7.cell? ⟨w.heap.size, 8, none⟩ = some (.int .u8 b8) := BW7_0.cell 8 rfl
  have cW7_0_9 : W7.cell? ⟨w.heap.size, 9, none⟩ = some (.int .u8 b9) := BW7_0.cell 9 rfl
  have cW7_0_10 : W7.cell? ⟨w.heap.size, 10, none⟩ = some (.int .u8 b10) := BW7_0.cell 10 rfl
  have cW7_0_11 : W7.cell? ⟨w.heap.size, 11, none⟩ = some (.int .u8 b11) := BW7_0.cell 11 rfl
  have cW7_0_12 : W7.cell? ⟨w.heap.size, 12, none⟩ = some (.int .u8 b12) := BW7_0.cell 12 rfl
  have cW7_0_13 : W7.cell? ⟨w.heap.size, 13, none⟩ = some (.int .u8 b13) := BW7_0.cell 13 rfl
  have cW7_0_14 : W7.cell? ⟨w.heap.size, 14, none⟩ = some (.int .u8 b14) := BW7_0.cell 14 rfl
  have cW7_0_15 : W7.cell? ⟨w.heap.size, 15, none⟩ = some (.int .u8 b15) := BW7_0.cell 15 rfl
  have fW7_0 := BW7_0.free
  have cW7_1_0 : W7.cell? ⟨w.heap.size + 1, 0, none⟩ = some (.int .u64 0) := BW7_1.cell 0 rfl
  have cW7_1_1 : W7.cell? ⟨w.heap.size + 1, 1, none⟩ = some (.int .u64 0) := BW7_1.cell 1 rfl
  have fW7_1 := BW7_1.free
  have cW7_2_0 : W7.cell? ⟨w.heap.size + 1 + 1, 0, none⟩ = some (.int .u64 v2) := BW7_2.cell 0 rfl
  have cW7_2_1 : W7.cell? ⟨w.heap.size + 1 + 1, 1, none⟩ = some (.int .u64 0) := BW7_2.cell 1 rfl
  have fW7_2 := BW7_2.free
  go_wp2_with fail
  refine wp_region_calm 12 (by kernel_rfl) (by kernel_rfl) ?_
  simp only [List.take_succ_cons, List.take_zero, List.drop_succ_cons, List.drop_zero]
  repeat (first
    | (refine calm_skip rfl ?_; simp only [Act.put, List.setIfInBounds_toArray, List.set_cons_zero, List.set_cons_succ])
    | (refine calm_ex rfl ?_; apply Exists.intro; refine And.intro (fun w' hk => ?_) ?_; (focus (have q0 := hk.cell cW7_0_0; have q1 := hk.cell cW7_0_1; have q2 := hk.cell cW7_0_2; have q3 := hk.cell cW7_0_3; have q4 := hk.cell cW7_0_4; have q5 := hk.cell cW7_0_5; have q6 := hk.cell cW7_0_6; have q7 := hk.cell cW7_0_7; have q8 := hk.cell cW7_0_8; have q9 := hk.cell cW7_0_9; have q10 := hk.cell cW7_0_10; have q11 := hk.cell cW7_0_11; have q12 := hk.cell cW7_0_12; have q13 := hk.cell cW7_0_13; have q14 := hk.cell cW7_0_14; have q15 := hk.cell cW7_0_15; have q16 := hk.cell cW7_1_0; have q17 := hk.cell cW7_1_1; have q18 := hk.cell cW7_2_0; have q19 := hk.cell cW7_2_1; clear hk; go_simp; exact rfl)); simp only [Act.put, List.setIfInBounds_toArray, List.set_cons_zero, List.set_cons_succ]))
  refine calm_nil ?_
  intro W8 hkW8
  have kW8 := kW7.trans hkW8
  have BW8_0 := BW7_0.kept hkW8
  have BW8_1 := BW7_1.kept hkW8
  have BW8_2 := BW7_2.kept hkW8
  clear cW7_0_0 cW7_0_1 cW7_0_2 cW7_0_3 cW7_0_4 cW7_0_5 cW7_0_6 cW7_0_7 cW7_0_8 cW7_0_9 cW7_0_10 cW7_0_11 cW7_0_12 cW7_0_13 cW7_0_14 cW7_0_15 cW7_1_0 cW7_1_1 cW7_2_0 cW7_2_1 fW7_0 fW7_1 fW7_2 BW7_0 BW7_1 BW7_2 kW7 hkW8
  have cW8_0_0 : W8.cell? ⟨w.heap.size, 0, none⟩ = some (.int .u8 b0) := BW8_0.cell 0 rfl
  have cW8_0_1 : W8.cell? ⟨w.heap.size, 1, none⟩ = some (.int .u8 b1) := BW8_0.cell 1 rfl
  have cW8_0_2 : W8.cell? ⟨w.heap.size, 2, none⟩ = some (.int .u8 b2) := BW8_0.cell 2 rfl
  have cW8_0_3 : W8.cell? ⟨w.heap.size, 3, none⟩ = some (.int .u8 b3) := BW8_0.cell 3 rfl
  have cW8_0_4 : W8.cell? ⟨w.heap.size, 4, none⟩ = some (.int .u8 b4) := BW8_0.cell 4 rfl
  have cW8_0_5 : W8.cell? ⟨w.heap.size, 5, none⟩ = some (.int .u8 b5) := BW8_0.cell 5 rfl
  have cW8_0_6 : W8.cell? ⟨w.heap.size, 6, none⟩ = some (.int .u8 b6) := BW8_0.cell 6 rfl
  have cW8_0_7 : W8.cell? ⟨w.heap.size, 7, none⟩ = some (.int .u8 b7) := BW8_0.cell 7 rfl
  have cW8_0_8 : W8.cell? ⟨w.heap.size, 8, none⟩ = some (.int .u8 b8) := BW8_0.cell 8 rfl
  have cW8_0_9 : W8.cell? ⟨w.heap.size, 9, none⟩ = some (.int .u8 b9) := BW8_0.cell 9 rfl
  have cW8_0_10 : W8.cell? ⟨w.heap.size, 10, none⟩ = some (.int .u8 b10) := BW8_0.cell 10 rfl
  have cW8_0_11 : W8.cell? ⟨w.heap.size, 11, none⟩ = some (.int .u8 b11) := BW8_0.cell 11 rfl
  have cW8_0_12 : W8.cell? ⟨w.heap.size, 12, none⟩ = some (.int .u8 b12) := BW8_0.cell 12 rfl
  have cW8_0_13 : W8.cell? ⟨w.heap.size, 13, none⟩ = some (.int .u8 b13) := BW8_0.cell 13 rfl
  have cW8_0_14 : W8.cell? ⟨w.heap.size, 14, none⟩ = some (.int .u8 b14) := BW8_0.cell 14 rfl
  have cW8_0_15 : W8.cell? ⟨w.heap.size, 15, none⟩ = some (.int .u8 b15) := BW8_0.cell 15 rfl
  have fW8_0 := BW8_0.free
  have cW8_1_0 : W8.cell? ⟨w.heap.size + 1, 0, none⟩ = some (.int .u64 0) := BW8_1.cell 0 rfl
  have cW8_1_1 : W8.cell? ⟨w.heap.size + 1, 1, none⟩ = some (.int .u64 0) := BW8_1.cell 1 rfl
  have fW8_1 := BW8_1.free
  have cW8_2_0 : W8.cell? ⟨w.heap.size + 1 + 1, 0, none⟩ = some (.int .u64 v2) := BW8_2.cell 0 rfl
  have cW8_2_1 : W8.cell? ⟨w.heap.size + 1 + 1, 1, none⟩ = some (.int .u64 0) := BW8_2.cell 1 rfl
  have fW8_2 := BW8_2.free
  go_wp2_with fail
  rw [rounds_succ]
  refine abs_world (fun W => Kept w W ∧ Blk W (w.heap.size) 54 #[.int .u8 b0, .int .u8 b1, .int .u8 b2, .int .u8 b3, .int .u8 b4, .int .u8 b5, .int .u8 b6, .int .u8 b7, .int .u8 b8, .int .u8 b9, .int .u8 b10, .int .u8 b11, .int .u8 b12, .int .u8 b13, .int .u8 b14, .int .u8 b15] ∧ Blk W (w.heap.size + 1) 28 #[.int .u64 0, .int .u64 0] ∧ Blk W (w.heap.size + 1 + 1) 28 #[.int .u64 v3, .int .u64 0]) ?_ ?_
  · refine ⟨?_, ?_, ?_, ?_⟩
    · repeat (first | exact kW8 | (refine Kept.setCell ?_ (kept_side (by first | assumption | omega)) _) | apply Kept.alloc | apply Kept.drew)
    · simp [Blk, *] <;> (intros; omega)
    · simp [Blk, *] <;> (intros; omega)
    · simp [Blk, *] <;> (intros; omega)
  rintro W9 ⟨kW9, BW9_0, BW9_1, BW9_2⟩
  have cW9_0_0 : W9.cell? ⟨w.heap.size, 0, none⟩ = some (.int .u8 b0) := BW9_0.cell 0 rfl
  have cW9_0_1 : W9.cell? ⟨w.heap.size, 1, none⟩ = some (.int .u8 b1) := BW9_0.cell 1 rfl
  have cW9_0_2 : W9.cell? ⟨w.heap.size, 2, none⟩ = some (.int .u8 b2) := BW9_0.cell 2 rfl
  have cW9_0_3 : W9.cell? ⟨w.heap.size, 3, none⟩ = some (.int .u8 b3) := BW9_0.cell 3 rfl
  have cW9_0_4 : W9.cell? ⟨w.heap.size, 4, none⟩ = some (.int .u8 b4) := BW9_0.cell 4 rfl
  have cW9_0_5 : W9.cell? ⟨w.heap.size, 5, none⟩ = some (.int .u8 b5) := BW9_0.cell 5 rfl
  have cW9_0_6 : W9.cell? ⟨w.heap.size, 6, none⟩ = some (.int .u8 b6) := BW9_0.cell 6 rfl
  have cW9_0_7 : W9.cell? ⟨w.heap.size, 7, none⟩ = some (.int .u8 b7) := BW9_0.cell 7 rfl
  have cW9_0_8 : W9.cell? ⟨w.heap.size, 8, none⟩ = some (.int .u8 b8) := BW9_0.cell 8 rfl
  have cW9_0_9 : W9.cell? ⟨w.heap.size, 9, none⟩ = some (.int .u8 b9) := BW9_0.cell 9 rfl
  have cW9_0_10 : W9.cell? ⟨w.heap.size, 10, none⟩ = some (.int .u8 b10) := BW9_0.cell 10 rfl
  have cW9_0_11 : W9.cell? ⟨w.heap.size, 11, none⟩ = some (.int .u8 b11) := BW9_0.cell 11 rfl
  have cW9_0_12 : W9.cell? ⟨w.heap.size, 12, none⟩ = some (.int .u8 b12) := BW9_0.cell 12 rfl
  have cW9_0_13 : W9.cell? ⟨w.heap.size, 13, none⟩ = some (.int .u8 b13) := BW9_0.cell 13 rfl
  have cW9_0_14 : W9.cell? ⟨w.heap.size, 14, none⟩ = some (.int .u8 b14) := BW9_0.cell 14 rfl
  have cW9_0_15 : W9.cell? ⟨w.heap.size, 15, none⟩ = some (.int .u8 b15) := BW9_0.cell 15 rfl
  have fW9_0 := BW9_0.free
  have cW9_1_0 : W9.cell? ⟨w.heap.size + 1, 0, none⟩ = some (.int .u64 0) := BW9_1.cell 0 rfl
  have cW9_1_1 : W9.cell? ⟨w.heap.size + 1, 1, none⟩ = some (.int .u64 0) := BW9_1.cell 1 rfl
  have fW9_1 := BW9_1.free
  have cW9_2_0 : W9.cell? ⟨w.heap.size + 1 + 1, 0, none⟩ = some (.int .u64 v3) := BW9_2.cell 0 rfl
  have cW9_2_1 : W9.cell? ⟨w.heap.size + 1 + 1, 1, none⟩ = some (.int .u64 0) := BW9_2.cell 1 rfl
  have fW9_2 := BW9_2.free
  go_wp2_with fail
  refine wp_region_calm 12 (by kernel_rfl) (by kernel_rfl) ?_
  simp only [List.take_succ_cons, List.take_zero, List.drop_succ_cons, List.drop_zero]
  repeat (first
    | (refine calm_skip rfl ?_; simp only [Act.put, List.setIfInBounds_toArray, List.set_cons_zero, List.set_cons_succ])
    | (refine calm_ex rfl ?_; apply Exists.intro; refine And.intro (fun w' hk => ?_) ?_; (focus (have q0 := hk.cell cW9_0_0; have q1 := hk.cell cW9_0_1; have q2 := hk.cell cW9_0_2; have q3 := hk.cell cW9_0_3; have q4 := hk.cell cW9_0_4; have q5 := hk.cell cW9_0_5; have q6 := hk.cell cW9_0_6; have q7 := hk.cell cW9_0_7; have q8 := hk.cell cW9_0_8; have q9 := hk.cell cW9_0_9; have q10 := hk.cell cW9_0_10; have q11 := hk.cell cW9_0_11; have q12 := hk.cell cW9_0_12; have q13 := hk.cell cW9_0_13; have q14 := hk.cell cW9_0_14; have q15 := hk.cell cW9_0_15; have q16 := hk.cell cW9_1_0; have q17 := hk.cell cW9_1_1; have q18 := hk.cell cW9_2_0; have q19 := hk.cell cW9_2_1; clear hk; go_simp; exact rfl)); simp only [Act.put, List.setIfInBounds_toArray, List.set_cons_zero, List.set_cons_succ]))
  refine calm_nil ?_
  intro W10 hkW10
  have kW10 := kW9.trans hkW10
  have BW10_0 := BW9_0.kept hkW10
  have BW10_1 := BW9_1.kept hkW10
  have BW10_2 := BW9_2.kept hkW10
  clear cW9_0_0 cW9_0_1 cW9_0_2 cW9_0_3 cW9_0_4 cW9_0_5 cW9_0_6 cW9_0_7 cW9_0_8 cW9_0_9 cW9_0_10 cW9_0_11 cW9_0_12 cW9_0_13 cW9_0_14 cW9_0_15 cW9_1_0 cW9_1_1 cW9_2_0 cW9_2_1 fW9_0 fW9_1 fW9_2 BW9_0 BW9_1 BW9_2 kW9 hkW10
  have cW10_0_0 : W10.cell? ⟨w.heap.size, 0, none⟩ = some (.int .u8 b0) := BW10_0.cell 0 rfl
  have cW10_0_1 : W10.cell? ⟨w.heap.size, 1, none⟩ = some (.int .u8 b1) := BW10_0.cell 1 rfl
  have cW10_0_2 : W10.cell? ⟨w.heap.size, 2, none⟩ = some (.int .u8 b2) := BW10_0.cell 2 rfl
  have cW10_0_3 : W10.cell? ⟨w.heap.size, 3, none⟩ = some (.int .u8 b3) := BW10_0.cell 3 rfl
  have cW10_0_4 : W10.cell? ⟨w.heap.size, 4, none⟩ = some (.int .u8 b4) := BW10_0.cell 4 rfl
  have cW10_0_5 : W10.cell? ⟨w.heap.size, 5, none⟩ = some (.int .u8 b5) := BW10_0.cell 5 rfl
  have cW10_0_6 : W10.cell? ⟨w.heap.size, 6, none⟩ = some (.int .u8 b6) := BW10_0.cell 6 rfl
  have cW10_0_7 : W10.cell? ⟨w.heap.size, 7, none⟩ = some (.int .u8 b7) := BW10_0.cell 7 rfl
  have cW10_0_8 : W10.cell? ⟨w.heap.size, 8, none⟩ = some (.int .u8 b8) := BW10_0.cell 8 rfl
  have cW10_0_9 : W10.cell? ⟨w.heap.size, 9, none⟩ = some (.int .u8 b9) := BW10_0.cell 9 rfl
  have cW10_0_10 : W10.cell? ⟨w.heap.size, 10, none⟩ = some (.int .u8 b10) := BW10_0.cell 10 rfl
  have cW10_0_11 : W10.cell? ⟨w.heap.size, 11, none⟩ = some (.int .u8 b11) := BW10_0.cell 11 rfl
  have cW10_0_12 : W10.cell? ⟨w.heap.size, 12, none⟩ = some (.int .u8 b12) := BW10_0.cell 12 rfl
  have cW10_0_13 : W10.cell? ⟨w.heap.size, 13, none⟩ = some (.int .u8 b13) := BW10_0.cell 13 rfl
  have cW10_0_14 : W10.cell? ⟨w.heap.size, 14, none⟩ = some (.int .u8 b14) := BW10_0.cell 14 rfl
  have cW10_0_15 : W10.cell? ⟨w.heap.size, 15, none⟩ = some (.int .u8 b15) := BW10_0.cell 15 rfl
  have fW10_0 := BW10_0.free
  have cW10_1_0 : W10.cell? ⟨w.heap.size + 1, 0, none⟩ = some (.int .u64 0) := BW10_1.cell 0 rfl
  have cW10_1_1 : W10.cell? ⟨w.heap.size + 1, 1, none⟩ = some (.int .u64 0) := BW10_1.cell 1 rfl
  have fW10_1 := BW10_1.free
  have cW10_2_0 : W10.cell? ⟨w.heap.size + 1 + 1, 0, none⟩ = some (.int .u64 v3) := BW10_2.cell 0 rfl
  have cW10_2_1 : W10.cell? ⟨w.heap.size + 1 + 1, 1, none⟩ = some (.int .u64 0) := BW10_2.cell 1 rfl
  have fW10_2 := BW10_2.free
  go_wp2_with fail
  rw [rounds_succ]
  refine abs_world (fun W => Kept w W ∧ Blk W (w.heap.size) 54 #[.int .u8 b0, .int .u8 b1, .int .u8 b2, .int .u8 b3, .int .u8 b4, .int .u8 b5, .int .u8 b6, .int .u8 b7, .int .u8 b8, .int .u8 b9, .int .u8 b10, .int .u8 b11, .int .u8 b12, .int .u8 b13, .int .u8 b14, .int .u8 b15] ∧ Blk W (w.heap.size + 1) 28 #[.int .u64 0, .int .u64 0] ∧ Blk W (w.heap.size + 1 + 1) 28 #[.int .u64 v4, .int .u64 0]) ?_ ?_
  · refine ⟨?_, ?_, ?_, ?_⟩
    · repeat (first | exact kW10 | (refine Kept.setCell ?_ (kept_side (by first | assumption | omega)) _) | apply Kept.alloc | apply Kept.drew)
    · simp [Blk, *] <;> (intros; omega)
    · simp [Blk, *] <;> (intros; omega)
    · simp [Blk, *] <;> (intros; omega)
  rintro W11 ⟨kW11, BW11_0, BW11_1, BW11_2⟩
  have cW11_0_0 : W11.cell? ⟨w.heap.size, 0, none⟩ = some (.int .u8 b0) := BW11_0.cell 0 rfl
  have cW11_0_1 : W11.cell? ⟨w.heap.size, 1, none⟩ = some (.int .u8 b1) := BW11_0.cell 1 rfl
  have cW11_0_2 : W11.cell? ⟨w.heap.size, 2, none⟩ = some (.int .u8 b2) := BW11_0.cell 2 rfl
  have cW11_0_3 : W11.cell? ⟨w.heap.size, 3, none⟩ = some (.int .u8 b3) := BW11_0.cell 3 rfl
  have cW11_0_4 : W11.cell? ⟨w.heap.size, 4, none⟩ = some (.int .u8 b4) := BW11_0.cell 4 rfl
  have cW11_0_5 : W11.cell? ⟨w.heap.size, 5, none⟩ = some (.int .u8 b5) := BW11_0.cell 5 rfl
  have cW11_0_6 : W11.cell? ⟨w.heap.size, 6, none⟩ = some (.int .u8 b6) := BW11_0.cell 6 rfl
  have cW11_0_7 : W11.cell? ⟨w.heap.size, 7, none⟩ = some (.int .u8 b7) := BW11_0.cell 7 rfl
  have cW11_0_8 : W11.cell? ⟨w.heap.size, 8, none⟩ = some (.int .u8 b8) := BW11_0.cell 8 rfl
  have cW11_0_9 : W11.cell? ⟨w.heap.size, 9, none⟩ = some (.int .u8 b9) := BW11_0.cell 9 rfl
  have cW11_0_10 : W11.cell? ⟨w.heap.size, 10, none⟩ = some (.int .u8 b10) := BW11_0.cell 10 rfl
  have cW11_0_11 : W11.cell? ⟨w.heap.size, 11, none⟩ = some (.int .u8 b11) := BW11_0.cell 11 rfl
  have cW11_0_12 : W11.cell? ⟨w.heap.size, 12, none⟩ = some (.int .u8 b12) := BW11_0.cell 12 rfl
  have cW11_0_13 : W11.cell? ⟨w.heap.size, 13, none⟩ = some (.int .u8 b13) := BW11_0.cell 13 rfl
  have cW11_0_14 : W11.cell? ⟨w.heap.size, 14, none⟩ = some (.int .u8 b14) := BW11_0.cell 14 rfl
  have cW11_0_15 : W11.cell? ⟨w.heap.size, 15, none⟩ = some (.int .u8 b15) := BW11_0.cell 15 rfl
  have fW11_0 := BW11_0.free
  have cW11_1_0 : W11.cell? ⟨w.heap.size + 1, 0, none⟩ = some (.int .u64 0) := BW11_1.cell 0 rfl
  have cW11_1_1 : W11.cell? ⟨w.heap.size + 1, 1, none⟩ = some (.int .u64 0) := BW11_1.cell 1 rfl
  have fW11_1 := BW11_1.free
  have cW11_2_0 : W11.cell? ⟨w.heap.size + 1 + 1, 0, none⟩ = some (.int .u64 v4) := BW11_2.cell 0 rfl
  have cW11_2_1 : W11.cell? ⟨w.heap.size + 1 + 1, 1, none⟩ = some (.int .u64 0) := BW11_2.cell 1 rfl
  have fW11_2 := BW11_2.free
  go_wp2_with fail
  refine wp_region_calm 12 (by kernel_rfl) (by kernel_rfl) ?_
  simp only [List.take_succ_cons, List.take_zero, List.drop_succ_cons, List.drop_zero]
  repeat (first
    | (refine calm_skip rfl ?_; simp only [Act.put, List.setIfInBounds_toArray, List.set_cons_zero, List.set_cons_succ])
    | (refine calm_ex rfl ?_; apply Exists.intro; refine And.intro (fun w' hk => ?_) ?_; (focus (have q0 := hk.cell cW11_0_0; have q1 := hk.cell cW11_0_1; have q2 := hk.cell cW11_0_2; have q3 := hk.cell cW11_0_3; have q4 := hk.cell cW11_0_4; have q5 := hk.cell cW11_0_5; have q6 := hk.cell cW11_0_6; have q7 := hk.cell cW11_0_7; have q8 := hk.cell cW11_0_8; have q9 := hk.cell cW11_0_9; have q10 := hk.cell cW11_0_10; have q11 := hk.cell cW11_0_11; have q12 := hk.cell cW11_0_12; have q13 := hk.cell cW11_0_13; have q14 := hk.cell cW11_0_14; have q15 := hk.cell cW11_0_15; have q16 := hk.cell cW11_1_0; have q17 := hk.cell cW11_1_1; have q18 := hk.cell cW11_2_0; have q19 := hk.cell cW11_2_1; clear hk; go_simp; exact rfl)); simp only [Act.put, List.setIfInBounds_toArray, List.set_cons_zero, List.set_cons_succ]))
  refine calm_nil ?_
  intro W12 hkW12
  have kW12 := kW11.trans hkW12
  have BW12_0 := BW11_0.kept hkW12
  have BW12_1 := BW11_1.kept hkW12
  have BW12_2 := BW11_2.kept hkW12
  clear cW11_0_0 cW11_0_1 cW11_0_2 cW11_0_3 cW11_0_4 cW11_0_5 cW11_0_6 cW11_0_7 cW11_0_8 cW11_0_9 cW11_0_10 cW11_0_11 cW11_0_12 cW11_0_13 cW11_0_14 cW11_0_15 cW11_1_0 cW11_1_1 cW11_2_0 cW11_2_1 fW11_0 fW11_1 fW11_2 BW11_0 BW11_1 BW11_2 kW11 hkW12
  have cW12_0_0 : W12.cell? ⟨w.heap.size, 0, none⟩ = some (.int .u8 b0) := BW12_0.cell 0 rfl
  have cW12_0_1 : W12.cell? ⟨w.heap.size, 1, none⟩ = some (.int .u8 b1) := BW12_0.cell 1 rfl
  have cW12_0_2 : W12.cell? ⟨w.heap.size, 2, none⟩ = some (.int .u8 b2) := BW12_0.cell 2 rfl
  have cW12_0_3 : W12.cell? ⟨w.heap.size, 3, none⟩ = some (.int .u8 b3) := BW12_0.cell 3 rfl
  have cW12_0_4 : W12.cell? ⟨w.heap.size, 4, none⟩ = some (.int .u8 b4) := BW12_0.cell 4 rfl
  have cW12_0_5 : W12.cell? ⟨w.heap.size, 5, none⟩ = some (.int .u8 b5) := BW12_0.cell 5 rfl
  have cW12_0_6 : W12.cell? ⟨w.heap.size, 6, none⟩ = some (.int .u8 b6) := BW12_0.cell 6 rfl
  have cW12_0_7 : W12.cell? ⟨w.heap.size, 7, none⟩ = some (.int .u8 b7) := BW12_0.cell 7 rfl
  have cW12_0_8 : W12.cell? ⟨w.heap.size, 8, none⟩ = some (.int .u8 b8) := BW12_0.cell 8 rfl
  have cW12_0_9 : W12.cell? ⟨w.heap.size, 9, none⟩ = some (.int .u8 b9) := BW12_0.cell 9 rfl
  have cW12_0_10 : W12.cell? ⟨w.heap.size, 10, none⟩ = some (.int .u8 b10) := BW12_0.cell 10 rfl
  have cW12_0_11 : W12.cell? ⟨w.heap.size, 11, none⟩ = some (.int .u8 b11) := BW12_0.cell 11 rfl
  have cW12_0_12 : W12.cell? ⟨w.heap.size, 12, none⟩ = some (.int .u8 b12) := BW12_0.cell 12 rfl
  have cW12_0_13 : W12.cell? ⟨w.heap.size, 13, none⟩ = some (.int .u8 b13) := BW12_0.cell 13 rfl
  have cW12_0_14 : W12.cell? ⟨w.heap.size, 14, none⟩ = some (.int .u8 b14) := BW12_0.cell 14 rfl
  have cW12_0_15 : W12.cell? ⟨w.heap.size, 15, none⟩ = some (.int .u8 b15) := BW12_0.cell 15 rfl
  have fW12_0 := BW12_0.free
  have cW12_1_0 : W12.cell? ⟨w.heap.size + 1, 0, none⟩ = some (.int .u64 0) := BW12_1.cell 0 rfl
  have cW12_1_1 : W12.cell? ⟨w.heap.size + 1, 1, none⟩ = some (.int .u64 0) := BW12_1.cell 1 rfl
  have fW12_1 := BW12_1.free
  have cW12_2_0 : W12.cell? ⟨w.heap.size + 1 + 1, 0, none⟩ = some (.int .u64 v4) := BW12_2.cell 0 rfl
  have cW12_2_1 : W12.cell? ⟨w.heap.size + 1 + 1, 1, none⟩ = some (.int .u64 0) := BW12_2.cell 1 rfl
  have fW12_2 := BW12_2.free
  go_wp2_with fail
  rw [rounds_succ]
  refine abs_world (fun W => Kept w W ∧ Blk W (w.heap.size) 54 #[.int .u8 b0, .int .u8 b1, .int .u8 b2, .int .u8 b3, .int .u8 b4, .int .u8 b5, .int .u8 b6, .int .u8 b7, .int .u8 b8, .int .u8 b9, .int .u8 b10, .int .u8 b11, .int .u8 b12, .int .u8 b13, .int .u8 b14, .int .u8 b15] ∧ Blk W (w.heap.size + 1) 28 #[.int .u64 0, .int .u64 0] ∧ Blk W (w.heap.size + 1 + 1) 28 #[.int .u64 v5, .int .u64 0]) ?_ ?_
  · refine ⟨?_, ?_, ?_, ?_⟩
    · repeat (first | exact kW12 | (refine Kept.setCell ?_ (kept_side (by first | assumption | omega)) _) | apply Kept.alloc | apply Kept.drew)
    · simp [Blk, *] <;> (intros; omega)
    · simp [Blk, *] <;> (intros; omega)
    · simp [Blk, *] <;> (intros; omega)
  rintro W13 ⟨kW13, BW13_0, BW13_1, BW13_2⟩
  have cW13_0_0 : W13.cell? ⟨w.heap.size, 0, none⟩ = some (.int .u8 b0) := BW13_0.cell 0 rfl
  have cW13_0_1 : W13.cell? ⟨w.heap.size, 1, none⟩ = some (.int .u8 b1) := BW13_0.cell 1 rfl
  have cW13_0_2 : W13.cell? ⟨w.heap.size, 2, none⟩ = some (.int .u8 b2) := BW13_0.cell 2 rfl
  have cW13_0_3 : W13.cell? ⟨w.heap.size, 3, none⟩ = some (.int .u8 b3) := BW13_0.cell 3 rfl
  have cW13_0_4 : W13.cell? ⟨w.heap.size, 4, none⟩ = some (.int .u8 b4) := BW13_0.cell 4 rfl
  have cW13_0_5 : W13.cell? ⟨w.heap.size, 5, none⟩ = some (.int .u8 b5) := BW13_0.cell 5 rfl
  have cW13_0_6 : W13.cell? ⟨w.heap.size, 6, none⟩ = some (.int .u8 b6) := BW13_0.cell 6 rfl
  have cW13_0_7 : W13.cell? ⟨w.heap.size, 7, none⟩ = some (.int .u8 b7) := BW13_0.cell 7 rfl
  have cW13_0_8 : W13.cell? ⟨w.heap.size, 8, none⟩ = some (.int .u8 b8) := BW13_0.cell 8 rfl
  have cW13_0_9 : W13.cell? ⟨w.heap.size, 9, none⟩ = some (.int .u8 b9) := BW13_0.cell 9 rfl
  have cW13_0_10 : W13.cell? ⟨w.heap.size, 10, none⟩ = some (.int .u8 b10) := BW13_0.cell 10 rfl
  have cW13_0_11 : W13.cell? ⟨w.heap.size, 11, none⟩ = some (.int .u8 b11) := BW13_0.cell 11 rfl
  have cW13_0_12 : W13.cell? ⟨w.heap.size, 12, none⟩ = some (.int .u8 b12) := BW13_0.cell 12 rfl
  have cW13_0_13 : W13.cell? ⟨w.heap.size, 13, none⟩ = some (.int .u8 b13) := BW13_0.cell 13 rfl
  have cW13_0_14 : W13.cell? ⟨w.heap.size, 14, none⟩ = some (.int .u8 b14) := BW13_0.cell 14 rfl
  have cW13_0_15 : W13.cell? ⟨w.heap.size, 15, none⟩ = some (.int .u8 b15) := BW13_0.cell 15 rfl
  have fW13_0 := BW13_0.free
  have cW13_1_0 : W13.cell? ⟨w.heap.size + 1, 0, none⟩ = some (.int .u64 0) := BW13_1.cell 0 rfl
  have cW13_1_1 : W13.cell? ⟨w.heap.size + 1, 1, none⟩ = some (.int .u64 0) := BW13_1.cell 1 rfl
  have fW13_1 := BW13_1.free
  have cW13_2_0 : W13.cell? ⟨w.heap.size + 1 + 1, 0, none⟩ = some (.int .u64 v5) := BW13_2.cell 0 rfl
  have cW13_2_1 : W13.cell? ⟨w.heap.size + 1 + 1, 1, none⟩ = some (.int .u64 0) := BW13_2.cell 1 rfl
  have fW13_2 := BW13_2.free
  go_wp2_with fail
  refine wp_region_calm 12 (by kernel_rfl) (by kernel_rfl) ?_
  simp only [List.take_succ_cons, List.take_zero, List.drop_succ_cons, List.drop_zero]
  repeat (first
    | (refine calm_skip rfl ?_; simp only [Act.put, List.setIfInBounds_toArray, List.set_cons_zero, List.set_cons_succ])
    | (refine calm_ex rfl ?_; apply Exists.intro; refine And.intro (fun w' hk => ?_) ?_; (focus (have q0 := hk.cell cW13_0_0; have q1 := hk.cell cW13_0_1; have q2 := hk.cell cW13_0_2; have q3 := hk.cell cW13_0_3; have q4 := hk.cell cW13_0_4; have q5 := hk.cell cW13_0_5; have q6 := hk.cell cW13_0_6; have q7 := hk.cell cW13_0_7; have q8 := hk.cell cW13_0_8; have q9 := hk.cell cW13_0_9; have q10 := hk.cell cW13_0_10; have q11 := hk.cell cW13_0_11; have q12 := hk.cell cW13_0_12; have q13 := hk.cell cW13_0_13; have q14 := hk.cell cW13_0_14; have q15 := hk.cell cW13_0_15; have q16 := hk.cell cW13_1_0; have q17 := hk.cell cW13_1_1; have q18 := hk.cell cW13_2_0; have q19 := hk.cell cW13_2_1; clear hk; go_simp; exact rfl)); simp only [Act.put, List.setIfInBounds_toArray, List.set_cons_zero, List.set_cons_succ]))
  refine calm_nil ?_
  intro W14 hkW14
  have kW14 := kW13.trans hkW14
  have BW14_0 := BW13_0.kept hkW14
  have BW14_1 := BW13_1.kept hkW14
  have BW14_2 := BW13_2.kept hkW14
  clear cW13_0_0 cW13_0_1 cW13_0_2 cW13_0_3 cW13_0_4 cW13_0_5 cW13_0_6 cW13_0_7 cW13_0_8 cW13_0_9 cW13_0_10 cW13_0_11 cW13_0_12 cW13_0_13 cW13_0_14 cW13_0_15 cW13_1_0 cW13_1_1 cW13_2_0 cW13_2_1 fW13_0 fW13_1 fW13_2 BW13_0 BW13_1 BW13_2 kW13 hkW14
  have cW14_0_0 : W14.cell? ⟨w.heap.size, 0, none⟩ = some (.int .u8 b0) := BW14_0.cell 0 rfl
  have cW14_0_1 : W14.cell? ⟨w.heap.size, 1, none⟩ = some (.int .u8 b1) := BW14_0.cell 1 rfl
  have cW14_0_2 : W14.cell? ⟨w.heap.size, 2, none⟩ = some (.int .u8 b2) := BW14_0.cell 2 rfl
  have cW14_0_3 : W14.cell? ⟨w.heap.size, 3, none⟩ = some (.int .u8 b3) := BW14_0.cell 3 rfl
  have cW14_0_4 : W14.cell? ⟨w.heap.size, 4, none⟩ = some (.int .u8 b4) := BW14_0.cell 4 rfl
  have cW14_0_5 : W14.cell? ⟨w.heap.size, 5, none⟩ = some (.int .u8 b5) := BW14_0.cell 5 rfl
  have cW14_0_6 : W14.cell? ⟨w.heap.size, 6, none⟩ = some (.int .u8 b6) := BW14_0.cell 6 rfl
  have cW14_0_7 : W14.cell? ⟨w.heap.size, 7, none⟩ = some (.int .u8 b7) := BW14_0.cell 7 rfl
  have cW14_0_8 : W14.cell? ⟨w.heap.size, 8, none⟩ = some (.int .u8 b8) := BW14_0.cell 8 rfl
  have cW14_0_9 : W14.cell? ⟨w.heap.size, 9, none⟩ = some (.int .u8 b9) := BW14_0.cell 9 rfl
  have cW14_0_10 : W14.cell? ⟨w.heap.size, 10, none⟩ = some (.int .u8 b10) := BW14_0.cell 10 rfl
  have cW14_0_11 : W14.cell? ⟨w.heap.size, 11, none⟩ = some (.int .u8 b11) := BW14_0.cell 11 rfl
  have cW14_0_12 : W14.cell? ⟨w.heap.size, 12, none⟩ = some (.int .u8 b12) := BW14_0.cell 12 rfl
  have cW14_0_13 : W14.cell? ⟨w.heap.size, 13, none⟩ = some (.int .u8 b13) := BW14_0.cell 13 rfl
  have cW14_0_14 : W14.cell? ⟨w.heap.size, 14, none⟩ = some (.int .u8 b14) := BW14_0.cell 14 rfl
  have cW14_0_15 : W14.cell? ⟨w.heap.size, 15, none⟩ = some (.int .u8 b15) := BW14_0.cell 15 rfl
  have fW14_0 := BW14_0.free
  have cW14_1_0 : W14.cell? ⟨w.heap.size + 1, 0, none⟩ = some (.int .u64 0) := BW14_1.cell 0 rfl
  have cW14_1_1 : W14.cell? ⟨w.heap.size + 1, 1, none⟩ = some (.int .u64 0) := BW14_1.cell 1 rfl
  have fW14_1 := BW14_1.free
  have cW14_2_0 : W14.cell? ⟨w.heap.size + 1 + 1, 0, none⟩ = some (.int .u64 v5) := BW14_2.cell 0 rfl
  have cW14_2_1 : W14.cell? ⟨w.heap.size + 1 + 1, 1, none⟩ = some (.int .u64 0) := BW14_2.cell 1 rfl
  have fW14_2 := BW14_2.free
  go_wp2_with fail
  rw [rounds_succ]
  refine abs_world (fun W => Kept w W ∧ Blk W (w.heap.size) 54 #[.int .u8 b0, .int .u8 b1, .int .u8 b2, .int .u8 b3, .int .u8 b4, .int .u8 b5, .int .u8 b6, .int .u8 b7, .int .u8 b8, .int .u8 b9, .int .u8 b10, .int .u8 b11, .int .u8 b12, .int .u8 b13, .int .u8 b14, .int .u8 b15] ∧ Blk W (w.heap.size + 1) 28 #[.int .u64 0, .int .u64 0] ∧ Blk W (w.heap.size + 1 + 1) 28 #[.int .u64 v6, .int .u64 0]) ?_ ?_
  · refine ⟨?_, ?_, ?_, ?_⟩
    · repeat (first | exact kW14 | (refine Kept.setCell ?_ (kept_side (by first | assumption | omega)) _) | apply Kept.alloc | apply Kept.drew)
    · simp [Blk, *] <;> (intros; omega)
    · simp [Blk, *] <;> (intros; omega)
    · simp [Blk, *] <;> (intros; omega)
  rintro W15 ⟨kW15, BW15_0, BW15_1, BW15_2⟩
  have cW15_0_0 : W15.cell? ⟨w.heap.size, 0, none⟩ = some (.int .u8 b0) := BW15_0.cell 0 rfl
  have cW15_0_1 : W15.cell? ⟨w.heap.size, 1, none⟩ = some (.int .u8 b1) := BW15_0.cell 1 rfl
  have cW15_0_2 : W15.cell? ⟨w.heap.size, 2, none⟩ = some (.int .u8 b2) := BW15_0.cell 2 rfl
  have cW15_0_3 : W15.cell? ⟨w.heap.size, 3, none⟩ = some (.int .u8 b3) := BW15_0.cell 3 rfl
  have cW15_0_4 : W15.cell? ⟨w.heap.size, 4, none⟩ = some (.int .u8 b4) := BW15_0.cell 4 rfl
  have cW15_0_5 : W15.cell? ⟨w.heap.size, 5, none⟩ = some (.int .u8 b5) := BW15_0.cell 5 rfl
  have cW15_0_6 : W15.cell? ⟨w.heap.size, 6, none⟩ = some (.int .u8 b6) := BW15_0.cell 6 rfl
  have cW15_0_7 : W15.cell? ⟨w.heap.size, 7, none⟩ = some (.int .u8 b7) := BW15_0.cell 7 rfl
  have cW15_0_8 : W15.cell? ⟨w.heap.size, 8, none⟩ = some (.int .u8 b8) := BW15_0.cell 8 rfl
  have cW15_0_9 : W15.cell? ⟨w.heap.size, 9, none⟩ = some (.int .u8 b9) := BW15_0.cell 9 rfl
  have cW15_0_10 : W15.cell? ⟨w.heap.size, 10, none⟩ = some (.int .u8 b10) := BW15_0.cell 10 rfl
  have cW15_0_11 : W15.cell? ⟨w.heap.size, 11, none⟩ = some (.int .u8 b11) := BW15_0.cell 11 rfl
  have cW15_0_12 : W15.cell? ⟨w.heap.size, 12, none⟩ = some (.int .u8 b12) := BW15_0.cell 12 rfl
  have cW15_0_13 : W15.cell? ⟨w.heap.size, 13, none⟩ = some (.int .u8 b13) := BW15_0.cell 13 rfl
  have cW15_0_14 : W15.cell? ⟨w.heap.size, 14, none⟩ = some (.int .u8 b14) := BW15_0.cell 14 rfl
  have cW15_0_15 : W15.cell? ⟨w.heap.size, 15, none⟩ = some (.int .u8 b15) := BW15_0.cell 15 rfl
  have fW15_0 := BW15_0.free
  have cW15_1_0 : W15.cell? ⟨w.heap.size + 1, 0, none⟩ = some (.int .u64 0) := BW15_1.cell 0 rfl
  have cW15_1_1 : W15.cell? ⟨w.heap.size + 1, 1, none⟩ = some (.int .u64 0) := BW15_1.cell 1 rfl
  have fW15_1 := BW15_1.free
  have cW15_2_0 : W15.cell? ⟨w.heap.size + 1 + 1, 0, none⟩ = some (.int .u64 v6) := BW15_2.cell 0 rfl
  have cW15_2_1 : W15.cell? ⟨w.heap.size + 1 + 1, 1, none⟩ = some (.int .u64 0) := BW15_2.cell 1 rfl
  have fW15_2 := BW15_2.free
  go_wp2_with fail
  refine wp_region_calm 12 (by kernel_rfl) (by kernel_rfl) ?_
  simp only [List.take_succ_cons, List.take_zero, List.drop_succ_cons, List.drop_zero]
  repeat (first
    | (refine calm_skip rfl ?_; simp only [Act.put, List.setIfInBounds_toArray, List.set_cons_zero, List.set_cons_succ])
    | (refine calm_ex rfl ?_; apply Exists.intro; refine And.intro (fun w' hk => ?_) ?_; (focus (have q0 := hk.cell cW15_0_0; have q1 := hk.cell cW15_0_1; have q2 := hk.cell cW15_0_2; have q3 := hk.cell cW15_0_3; have q4 := hk.cell cW15_0_4; have q5 := hk.cell cW15_0_5; have q6 := hk.cell cW15_0_6; have q7 := hk.cell cW15_0_7; have q8 := hk.cell cW15_0_8; have q9 := hk.cell cW15_0_9; have q10 := hk.cell cW15_0_10; have q11 := hk.cell cW15_0_11; have q12 := hk.cell cW15_0_12; have q13 := hk.cell cW15_0_13; have q14 := hk.cell cW15_0_14; have q15 := hk.cell cW15_0_15; have q16 := hk.cell cW15_1_0; have q17 := hk.cell cW15_1_1; have q18 := hk.cell cW15_2_0; have q19 := hk.cell cW15_2_1; clear hk; go_simp; exact rfl)); simp only [Act.put, List.setIfInBounds_toArray, List.set_cons_zero, List.set_cons_succ]))
  refine calm_nil ?_
  intro W16 hkW16
  have kW16 := kW15.trans hkW16
  have BW16_0 := BW15_0.kept hkW16
  have BW16_1 := BW15_1.kept hkW16
  have BW16_2 := BW15_2.kept hkW16
  clear cW15_0_0 cW15_0_1 cW15_0_2 cW15_0_3 cW15_0_4 cW15_0_5 cW15_0_6 cW15_0_7 cW15_0_8 cW15_0_9 cW15_0_10 cW15_0_11 cW15_0_12 cW15_0_13 cW15_0_14 cW15_0_15 cW15_1_0 cW15_1_1 cW15_2_0 cW15_2_1 fW15_0 fW15_1 fW15_2 BW15_0 BW15_1 BW15_2 kW15 hkW16
  have cW16_0_0 : W16.cell? ⟨w.heap.size, 0, none⟩ = some (.int .u8 b0) := BW16_0.cell 0 rfl
  have cW16_0_1 : W16.cell? ⟨w.heap.size, 1, none⟩ = some (.int .u8 b1) := BW16_0.cell 1 rfl
  have cW16_0_2 : W16.cell? ⟨w.heap.size, 2, none⟩ = some (.int .u8 b2) := BW16_0.cell 2 rfl
  have cW16_0_3 : W16.cell? ⟨w.heap.size, 3, none⟩ = some (.int .u8 b3) := BW16_0.cell 3 rfl
  have cW16_0_4 : W16.cell? ⟨w.heap.size, 4, none⟩ = some (.int .u8 b4) := BW16_0.cell 4 rfl
  have cW16_0_5 : W16.cell? ⟨w.heap.size, 5, none⟩ = some (.int .u8 b5) := BW16_0.cell 5 rfl
  have cW16_0_6 : W16.cell? ⟨w.heap.size, 6, none⟩ = some (.int .u8 b6) := BW16_0.cell 6 rfl
  have cW16_0_7 : W16.cell? ⟨w.heap.size, 7, none⟩ = some (.int .u8 b7) := BW16_0.cell 7 rfl
  have cW16_0_8 : W16.cell? ⟨w.heap.size, 8, none⟩ = some (.int .u8 b8) := BW16_0.cell 8 rfl
  have cW16_0_9 : W16.cell? ⟨w.heap.size, 9, none⟩ = some (.int .u8 b9) := BW16_0.cell 9 rfl
  have cW16_0_10 : W16.cell? ⟨w.heap.size, 10, none⟩ = some (.int .u8 b10) := BW16_0.cell 10 rfl
  have cW16_0_11 : W16.cell? ⟨w.heap.size, 11, none⟩ = some (.int .u8 b11) := BW16_0.cell 11 rfl
  have cW16_0_12 : W16.cell? ⟨w.heap.size, 12, none⟩ = some (.int .u8 b12) := BW16_0.cell 12 rfl
  have cW16_0_13 : W16.cell? ⟨w.heap.size, 13, none⟩ = some (.int .u8 b13) := BW16_0.cell 13 rfl
  have cW16_0_14 : W16.cell? ⟨w.heap.size, 14, none⟩ = some (.int .u8 b14) := BW16_0.cell 14 rfl
  have cW16_0_15 : W16.cell? ⟨w.heap.size, 15, none⟩ = some (.int .u8 b15) := BW16_0.cell 15 rfl
  have fW16_0 := BW16_0.free
  have cW16_1_0 : W16.cell? ⟨w.heap.size + 1, 0, none⟩ = some (.int .u64 0) := BW16_1.cell 0 rfl
  have cW16_1_1 : W16.cell? ⟨w.heap.size + 1, 1, none⟩ = some (.int .u64 0) := BW16_1.cell 1 rfl
  have fW16_1 := BW16_1.free
  have cW16_2_0 : W16.cell? ⟨w.heap.size + 1 + 1, 0, none⟩ = some (.int .u64 v6) := BW16_2.cell 0 rfl
  have cW16_2_1 : W16.cell? ⟨w.heap.size + 1 + 1, 1, none⟩ = some (.int .u64 0) := BW16_2.cell 1 rfl
  have fW16_2 := BW16_2.free
  go_wp2_with fail
  rw [rounds_succ]
  refine abs_world (fun W => Kept w W ∧ Blk W (w.heap.size) 54 #[.int .u8 b0, .int .u8 b1, .int .u8 b2, .int .u8 b3, .int .u8 b4, .int .u8 b5, .int .u8 b6, .int .u8 b7, .int .u8 b8, .int .u8 b9, .int .u8 b10, .int .u8 b11, .int .u8 b12, .int .u8 b13, .int .u8 b14, .int .u8 b15] ∧ Blk W (w.heap.size + 1) 28 #[.int .u64 0, .int .u64 0] ∧ Blk W (w.heap.size + 1 + 1) 28 #[.int .u64 v7, .int .u64 0]) ?_ ?_
  · refine ⟨?_, ?_, ?_, ?_⟩
    · repeat (first | exact kW16 | (refine Kept.setCell ?_ (kept_side (by first | assumption | omega)) _) | apply Kept.alloc | apply Kept.drew)
    · simp [Blk, *] <;> (intros; omega)
    · simp [Blk, *] <;> (intros; omega)
    · simp [Blk, *] <;> (intros; omega)
  rintro W17 ⟨kW17, BW17_0, BW17_1, BW17_2⟩
  have cW17_0_0 : W17.cell? ⟨w.heap.size, 0, none⟩ = some (.int .u8 b0) := BW17_0.cell 0 rfl
  have cW17_0_1 : W17.cell? ⟨w.heap.size, 1, none⟩ = some (.int .u8 b1) := BW17_0.cell 1 rfl
  have cW17_0_2 : W17.cell? ⟨w.heap.size, 2, none⟩ = some (.int .u8 b2) := BW17_0.cell 2 rfl
  have cW17_0_3 : W17.cell? ⟨w.heap.size, 3, none⟩ = some (.int .u8 b3) := BW17_0.cell 3 rfl
  have cW17_0_4 : W17.cell? ⟨w.heap.size, 4, none⟩ = some (.int .u8 b4) := BW17_0.cell 4 rfl
  have cW17_0_5 : W17.cell? ⟨w.heap.size, 5, none⟩ = some (.int .u8 b5) := BW17_0.cell 5 rfl
  have cW17_0_6 : W17.cell? ⟨w.heap.size, 6, none⟩ = some (.int .u8 b6) := BW17_0.cell 6 rfl
  have cW17_0_7 : W17.cell? ⟨w.heap.size, 7, none⟩ = some (.int .u8 b7) := BW17_0.cell 7 rfl
  have cW17_0_8 : W17.cell? ⟨w.heap.size, 8, none⟩ = some (.int .u8 b8) := BW17_0.cell 8 rfl
  have cW17_0_9 : W17.cell? ⟨w.heap.size, 9, none⟩ = some (.int .u8 b9) := BW17_0.cell 9 rfl
  have cW17_0_10 : W17.cell? ⟨w.heap.size, 10, none⟩ = some (.int .u8 b10) := BW17_0.cell 10 rfl
  have cW17_0_11 : W17.cell? ⟨w.heap.size, 11, none⟩ = some (.int .u8 b11) := BW17_0.cell 11 rfl
  have cW17_0_12 : W17.cell? ⟨w.heap.size, 12, none⟩ = some (.int .u8 b12) := BW17_0.cell 12 rfl
  have cW17_0_13 : W17.cell? ⟨w.heap.size, 13, none⟩ = some (.int .u8 b13) := BW17_0.cell 13 rfl
  have cW17_0_14 : W17.cell? ⟨w.heap.size, 14, none⟩ = some (.int .u8 b14) := BW17_0.cell 14 rfl
  have cW17_0_15 : W17.cell? ⟨w.heap.size, 15, none⟩ = some (.int .u8 b15) := BW17_0.cell 15 rfl
  have fW17_0 := BW17_0.free
  have cW17_1_0 : W17.cell? ⟨w.heap.size + 1, 0, none⟩ = some (.int .u64 0) := BW17_1.cell 0 rfl
  have cW17_1_1 : W17.cell? ⟨w.heap.size + 1, 1, none⟩ = some (.int .u64 0) := BW17_1.cell 1 rfl
  have fW17_1 := BW17_1.free
  have cW17_2_0 : W17.cell? ⟨w.heap.size + 1 + 1, 0, none⟩ = some (.int .u64 v7) := BW17_2.cell 0 rfl
  have cW17_2_1 : W17.cell? ⟨w.heap.size + 1 + 1, 1, none⟩ = some (.int .u64 0) := BW17_2.cell 1 rfl
  have fW17_2 := BW17_2.free
  go_wp2_with fail
  refine wp_region_calm 12 (by kernel_rfl) (by kernel_rfl) ?_
  simp only [List.take_succ_cons, List.take_zero, List.drop_succ_cons, List.drop_zero]
  repeat (first
    | (refine calm_skip rfl ?_; simp only [Act.put, List.setIfInBounds_toArray, List.set_cons_zero, List.set_cons_succ])
    | (refine calm_ex rfl ?_; apply Exists.intro; refine And.intro (fun w' hk => ?_) ?_; (focus (have q0 := hk.cell cW17_0_0; have q1 := hk.cell cW17_0_1; have q2 := hk.cell cW17_0_2; have q3 := hk.cell cW17_0_3; have q4 := hk.cell cW17_0_4; have q5 := hk.cell cW17_0_5; have q6 := hk.cell cW17_0_6; have q7 := hk.cell cW17_0_7; have q8 := hk.cell cW17_0_8; have q9 := hk.cell cW17_0_9; have q10 := hk.cell cW17_0_10; have q11 := hk.cell cW17_0_11; have q12 := hk.cell cW17_0_12; have q13 := hk.cell cW17_0_13; have q14 := hk.cell cW17_0_14; have q15 := hk.cell cW17_0_15; have q16 := hk.cell cW17_1_0; have q17 := hk.cell cW17_1_1; have q18 := hk.cell cW17_2_0; have q19 := hk.cell cW17_2_1; clear hk; go_simp; exact rfl)); simp only [Act.put, List.setIfInBounds_toArray, List.set_cons_zero, List.set_cons_succ]))
  refine calm_nil ?_
  intro W18 hkW18
  have kW18 := kW17.trans hkW18
  have BW18_0 := BW17_0.kept hkW18
  have BW18_1 := BW17_1.kept hkW18
  have BW18_2 := BW17_2.kept hkW18
  clear cW17_0_0 cW17_0_1 cW17_0_2 cW17_0_3 cW17_0_4 cW17_0_5 cW17_0_6 cW17_0_7 cW17_0_8 cW17_0_9 cW17_0_10 cW17_0_11 cW17_0_12 cW17_0_13 cW17_0_14 cW17_0_15 cW17_1_0 cW17_1_1 cW17_2_0 cW17_2_1 fW17_0 fW17_1 fW17_2 BW17_0 BW17_1 BW17_2 kW17 hkW18
  have cW18_0_0 : W18.cell? ⟨w.heap.size, 0, none⟩ = some (.int .u8 b0) := BW18_0.cell 0 rfl
  have cW18_0_1 : W18.cell? ⟨w.heap.size, 1, none⟩ = some (.int .u8 b1) := BW18_0.cell 1 rfl
  have cW18_0_2 : W18.cell? ⟨w.heap.size, 2, none⟩ = some (.int .u8 b2) := BW18_0.cell 2 rfl
  have cW18_0_3 : W18.cell? ⟨w.heap.size, 3, none⟩ = some (.int .u8 b3) := BW18_0.cell 3 rfl
  have cW18_0_4 : W18.cell? ⟨w.heap.size, 4, none⟩ = some (.int .u8 b4) := BW18_0.cell 4 rfl
  have cW18_0_5 : W18.cell? ⟨w.heap.size, 5, none⟩ = some (.int .u8 b5) := BW18_0.cell 5 rfl
  have cW18_0_6 : W18.cell? ⟨w.heap.size, 6, none⟩ = some (.int .u8 b6) := BW18_0.cell 6 rfl
  have cW18_0_7 : W18.cell? ⟨w.heap.size, 7, none⟩ = some (.int .u8 b7) := BW18_0.cell 7 rfl
  have cW18_0_8 : W18.cell? ⟨w.heap.size, 8, none⟩ = some (.int .u8 b8) := BW18_0.cell 8 rfl
  have cW18_0_9 : W18.cell? ⟨w.heap.size, 9, none⟩ = some (.int .u8 b9) := BW18_0.cell 9 rfl
  have cW18_0_10 : W18.cell? ⟨w.heap.size, 10, none⟩ = some (.int .u8 b10) := BW18_0.cell 10 rfl
  have cW18_0_11 : W18.cell? ⟨w.heap.size, 11, none⟩ = some (.int .u8 b11) := BW18_0.cell 11 rfl
  have cW18_0_12 : W18.cell? ⟨w.heap.size, 12, none⟩ = some (.int .u8 b12) := BW18_0.cell 12 rfl
  have cW18_0_13 : W18.cell? ⟨w.heap.size, 13, none⟩ = some (.int .u8 b13) := BW18_0.cell 13 rfl
  have cW18_0_14 : W18.cell? ⟨w.heap.size, 14, none⟩ = some (.int .u8 b14) := BW18_0.cell 14 rfl
  have cW18_0_15 : W18.cell? ⟨w.heap.size, 15, none⟩ = some (.int .u8 b15) := BW18_0.cell 15 rfl
  have fW18_0 := BW18_0.free
  have cW18_1_0 : W18.cell? ⟨w.heap.size + 1, 0, none⟩ = some (.int .u64 0) := BW18_1.cell 0 rfl
  have cW18_1_1 : W18.cell? ⟨w.heap.size + 1, 1, none⟩ = some (.int .u64 0) := BW18_1.cell 1 rfl
  have fW18_1 := BW18_1.free
  have cW18_2_0 : W18.cell? ⟨w.heap.size + 1 + 1, 0, none⟩ = some (.int .u64 v7) := BW18_2.cell 0 rfl
  have cW18_2_1 : W18.cell? ⟨w.heap.size + 1 + 1, 1, none⟩ = some (.int .u64 0) := BW18_2.cell 1 rfl
  have fW18_2 := BW18_2.free
  go_wp2_with fail
  rw [rounds_succ]
  refine abs_world (fun W => Kept w W ∧ Blk W (w.heap.size) 54 #[.int .u8 b0, .int .u8 b1, .int .u8 b2, .int .u8 b3, .int .u8 b4, .int .u8 b5, .int .u8 b6, .int .u8 b7, .int .u8 b8, .int .u8 b9, .int .u8 b10, .int .u8 b11, .int .u8 b12, .int .u8 b13, .int .u8 b14, .int .u8 b15] ∧ Blk W (w.heap.size + 1) 28 #[.int .u64 0, .int .u64 0] ∧ Blk W (w.heap.size + 1 + 1) 28 #[.int .u64 v7, .int .u64 v8]) ?_ ?_
  · refine ⟨?_, ?_, ?_, ?_⟩
    · repeat (first | exact kW18 | (refine Kept.setCell ?_ (kept_side (by first | assumption | omega)) _) | apply Kept.alloc | apply Kept.drew)
    · simp [Blk, *] <;> (intros; omega)
    · simp [Blk, *] <;> (intros; omega)
    · simp [Blk, *] <;> (intros; omega)
  rintro W19 ⟨kW19, BW19_0, BW19_1, BW19_2⟩
  have cW19_0_0 : W19.cell? ⟨w.heap.size, 0, none⟩ = some (.int .u8 b0) := BW19_0.cell 0 rfl
  have cW19_0_1 : W19.cell? ⟨w.heap.size, 1, none⟩ = some (.int .u8 b1) := BW19_0.cell 1 rfl
  have cW19_0_2 : W19.cell? ⟨w.heap.size, 2, none⟩ = some (.int .u8 b2) := BW19_0.cell 2 rfl
  have cW19_0_3 : W19.cell? ⟨w.heap.size, 3, none⟩ = some (.int .u8 b3) := BW19_0.cell 3 rfl
  have cW19_0_4 : W19.cell? ⟨w.heap.size, 4, none⟩ = some (.int .u8 b4) := BW19_0.cell 4 rfl
  have cW19_0_5 : W19.cell? ⟨w.heap.size, 5, none⟩ = some (.int .u8 b5) := BW19_0.cell 5 rfl
  have cW19_0_6 : W19.cell? ⟨w.heap.size, 6, none⟩ = some (.int .u8 b6) := BW19_0.cell 6 rfl
  have cW19_0_7 : W19.cell? ⟨w.heap.size, 7, none⟩ = some (.int .u8 b7) := BW19_0.cell 7 rfl
  have cW19_0_8 : W19.cell? ⟨w.heap.size, 8, none⟩ = some (.int .u8 b8) := BW19_0.cell 8 rfl
  have cW19_0_9 : W19.cell? ⟨w.heap.size, 9, none⟩ = some (.int .u8 b9) := BW19_0.cell 9 rfl
  have cW19_0_10 : W19.cell? ⟨w.heap.size, 10, none⟩ = some (.int .u8 b10) := BW19_0.cell 10 rfl
  have cW19_0_11 : W19.cell? ⟨w.heap.size, 11, none⟩ = some (.int .u8 b11) := BW19_0.cell 11 rfl
  have cW19_0_12 : W19.cell? ⟨w.heap.size, 12, none⟩ = some (.int .u8 b12) := BW19_0.cell 12 rfl
  have cW19_0_13 : W19.cell? ⟨w.heap.size, 13, none⟩ = some (.int .u8 b13) := BW19_0.cell 13 rfl
  have cW19_0_14 : W19.cell? ⟨w.heap.size, 14, none⟩ = some (.int .u8 b14) := BW19_0.cell 14 rfl
  have cW19_0_15 : W19.cell? ⟨w.heap.size, 15, none⟩ = some (.int .u8 b15) := BW19_0.cell 15 rfl
  have fW19_0 := BW19_0.free
  have cW19_1_0 : W19.cell? ⟨w.heap.size + 1, 0, none⟩ = some (.int .u64 0) := BW19_1.cell 0 rfl
  have cW19_1_1 : W19.cell? ⟨w.heap.size + 1, 1, none⟩ = some (.int .u64 0) := BW19_1.cell 1 rfl
  have fW19_1 := BW19_1.free
  have cW19_2_0 : W19.cell? ⟨w.heap.size + 1 + 1, 0, none⟩ = some (.int .u64 v7) := BW19_2.cell 0 rfl
  have cW19_2_1 : W19.cell? ⟨w.heap.size + 1 + 1, 1, none⟩ = some (.int .u64 v8) := BW19_2.cell 1 rfl
  have fW19_2 := BW19_2.free
  go_wp2_with fail
  refine wp_region_calm 12 (by kernel_rfl) (by kernel_rfl) ?_
  simp only [List.take_succ_cons, List.take_zero, List.drop_succ_cons, List.drop_zero]
  repeat (first
    | (refine calm_skip rfl ?_; simp only [Act.put, List.setIfInBounds_toArray, List.set_cons_zero, List.set_cons_succ])
    | (refine calm_ex rfl ?_; apply Exists.intro; refine And.intro (fun w' hk => ?_) ?_; (focus (have q0 := hk.cell cW19_0_0; have q1 := hk.cell cW19_0_1; have q2 := hk.cell cW19_0_2; have q3 := hk.cell cW19_0_3; have q4 := hk.cell cW19_0_4; have q5 := hk.cell cW19_0_5; have q6 := hk.cell cW19_0_6; have q7 := hk.cell cW19_0_7; have q8 := hk.cell cW19_0_8; have q9 := hk.cell cW19_0_9; have q10 := hk.cell cW19_0_10; have q11 := hk.cell cW19_0_11; have q12 := hk.cell cW19_0_12; have q13 := hk.cell cW19_0_13; have q14 := hk.cell cW19_0_14; have q15 := hk.cell cW19_0_15; have q16 := hk.cell cW19_1_0; have q17 := hk.cell cW19_1_1; have q18 := hk.cell cW19_2_0; have q19 := hk.cell cW19_2_1; clear hk; go_simp; exact rfl)); simp only [Act.put, List.setIfInBounds_toArray, List.set_cons_zero, List.set_cons_succ]))
  refine calm_nil ?_
  intro W20 hkW20
  have kW20 := kW19.trans hkW20
  have BW20_0 := BW19_0.kept hkW20
  have BW20_1 := BW19_1.kept hkW20
  have BW20_2 := BW19_2.kept hkW20
  clear cW19_0_0 cW19_0_1 cW19_0_2 cW19_0_3 cW19_0_4 cW19_0_5 cW19_0_6 cW19_0_7 cW19_0_8 cW19_0_9 cW19_0_10 cW19_0_11 cW19_0_12 cW19_0_13 cW19_0_14 cW19_0_15 cW19_1_0 cW19_1_1 cW19_2_0 cW19_2_1 fW19_0 fW19_1 fW19_2 BW19_0 BW19_1 BW19_2 kW19 hkW20
  have cW20_0_0 : W20.cell? ⟨w.heap.size, 0, none⟩ = some (.int .u8 b0) := BW20_0.cell 0 rfl
  have cW20_0_1 : W20.cell? ⟨w.heap.size, 1, none⟩ = some (.int .u8 b1) := BW20_0.cell 1 rfl
  have cW20_0_2 : W20.cell? ⟨w.heap.size, 2, none⟩ = some (.int .u8 b2) := BW20_0.cell 2 rfl
  have cW20_0_3 : W20.cell? ⟨w.heap.size, 3, none⟩ = some (.int .u8 b3) := BW20_0.cell 3 rfl
  have cW20_0_4 : W20.cell? ⟨w.heap.size, 4, none⟩ = some (.int .u8 b4) := BW20_0.cell 4 rfl
  have cW20_0_5 : W20.cell? ⟨w.heap.size, 5, none⟩ = some (.int .u8 b5) := BW20_0.cell 5 rfl
  have cW20_0_6 : W20.cell? ⟨w.heap.size, 6, none⟩ = some (.int .u8 b6) := BW20_0.cell 6 rfl
  have cW20_0_7 : W20.cell? ⟨w.heap.size, 7, none⟩ = some (.int .u8 b7) := BW20_0.cell 7 rfl
  have cW20_0_8 : W20.cell? ⟨w.heap.size, 8, none⟩ = some (.int .u8 b8) := BW20_0.cell 8 rfl
  have cW20_0_9 : W20.cell? ⟨w.heap.size, 9, none⟩ = some (.int .u8 b9) := BW20_0.cell 9 rfl
  have cW20_0_10 : W20.cell? ⟨w.heap.size, 10, none⟩ = some (.int .u8 b10) := BW20_0.cell 10 rfl
  have cW20_0_11 : W20.cell? ⟨w.heap.size, 11, none⟩ = some (.int .u8 b11) := BW20_0.cell 11 rfl
  have cW20_0_12 : W20.cell? ⟨w.heap.size, 12, none⟩ = some (.int .u8 b12) := BW20_0.cell 12 rfl
  have cW20_0_13 : W20.cell? ⟨w.heap.size, 13, none⟩ = some (.int .u8 b13) := BW20_0.cell 13 rfl
  have cW20_0_14 : W20.cell? ⟨w.heap.size, 14, none⟩ = some (.int .u8 b14) := BW20_0.cell 14 rfl
  have cW20_0_15 : W20.cell? ⟨w.heap.size, 15, none⟩ = some (.int .u8 b15) := BW20_0.cell 15 rfl
  have fW20_0 := BW20_0.free
  have cW20_1_0 : W20.cell? ⟨w.heap.size + 1, 0, none⟩ = some (.int .u64 0) := BW20_1.cell 0 rfl
  have cW20_1_1 : W20.cell? ⟨w.heap.size + 1, 1, none⟩ = some (.int .u64 0) := BW20_1.cell 1 rfl
  have fW20_1 := BW20_1.free
  have cW20_2_0 : W20.cell? ⟨w.heap.size + 1 + 1, 0, none⟩ = some (.int .u64 v7) := BW20_2.cell 0 rfl
  have cW20_2_1 : W20.cell? ⟨w.heap.size + 1 + 1, 1, none⟩ = some (.int .u64 v8) := BW20_2.cell 1 rfl
  have fW20_2 := BW20_2.free
  go_wp2_with fail
  rw [rounds_succ]
  refine abs_world (fun W => Kept w W ∧ Blk W (w.heap.size) 54 #[.int .u8 b0, .int .u8 b1, .int .u8 b2, .int .u8 b3, .int .u8 b4, .int .u8 b5, .int .u8 b6, .int .u8 b7, .int .u8 b8, .int .u8 b9, .int .u8 b10, .int .u8 b11, .int .u8 b12, .int .u8 b13, .int .u8 b14, .int .u8 b15] ∧ Blk W (w.heap.size + 1) 28 #[.int .u64 0, .int .u64 0] ∧ Blk W (w.heap.size + 1 + 1) 28 #[.int .u64 v7, .int .u64 v9]) ?_ ?_
  · refine ⟨?_, ?_, ?_, ?_⟩
    · repeat (first | exact kW20 | (refine Kept.setCell ?_ (kept_side (by first | assumption | omega)) _) | apply Kept.alloc | apply Kept.drew)
    · simp [Blk, *] <;> (intros; omega)
    · simp [Blk, *] <;> (intros; omega)
    · simp [Blk, *] <;> (intros; omega)
  rintro W21 ⟨kW21, BW21_0, BW21_1, BW21_2⟩
  have cW21_0_0 : W21.cell? ⟨w.heap.size, 0, none⟩ = some (.int .u8 b0) := BW21_0.cell 0 rfl
  have cW21_0_1 : W21.cell? ⟨w.heap.size, 1, none⟩ = some (.int .u8 b1) := BW21_0.cell 1 rfl
  have cW21_0_2 : W21.cell? ⟨w.heap.size, 2, none⟩ = some (.int .u8 b2) := BW21_0.cell 2 rfl
  have cW21_0_3 : W21.cell? ⟨w.heap.size, 3, none⟩ = some (.int .u8 b3) := BW21_0.cell 3 rfl
  have cW21_0_4 : W21.cell? ⟨w.heap.size, 4, none⟩ = some (.int .u8 b4) := BW21_0.cell 4 rfl
  have cW21_0_5 : W21.cell? ⟨w.heap.size, 5, none⟩ = some (.int .u8 b5) := BW21_0.cell 5 rfl
  have cW21_0_6 : W21.cell? ⟨w.heap.size, 6, none⟩ = some (.int .u8 b6) := BW21_0.cell 6 rfl
  have cW21_0_7 : W21.cell? ⟨w.heap.size, 7, none⟩ = some (.int .u8 b7) := BW21_0.cell 7 rfl
  have cW21_0_8 : W21.cell? ⟨w.heap.size, 8, none⟩ = some (.int .u8 b8) := BW21_0.cell 8 rfl
  have cW21_0_9 : W21.cell? ⟨w.heap.size, 9, none⟩ = some (.int .u8 b9) := BW21_0.cell 9 rfl
  have cW21_0_10 : W21.cell? ⟨w.heap.size, 10, none⟩ = some (.int .u8 b10) := BW21_0.cell 10 rfl
  have cW21_0_11 : W21.cell? ⟨w.heap.size, 11, none⟩ = some (.int .u8 b11) := BW21_0.cell 11 rfl
  have cW21_0_12 : W21.cell? ⟨w.heap.size, 12, none⟩ = some (.int .u8 b12) := BW21_0.cell 12 rfl
  have cW21_0_13 : W21.cell? ⟨w.heap.size, 13, none⟩ = some (.int .u8 b13) := BW21_0.cell 13 rfl
  have cW21_0_14 : W21.cell? ⟨w.heap.size, 14, none⟩ = some (.int .u8 b14) := BW21_0.cell 14 rfl
  have cW21_0_15 : W21.cell? ⟨w.heap.size, 15, none⟩ = some (.int .u8 b15) := BW21_0.cell 15 rfl
  have fW21_0 := BW21_0.free
  have cW21_1_0 : W21.cell? ⟨w.heap.size + 1, 0, none⟩ = some (.int .u64 0) := BW21_1.cell 0 rfl
  have cW21_1_1 : W21.cell? ⟨w.heap.size + 1, 1, none⟩ = some (.int .u64 0) := BW21_1.cell 1 rfl
  have fW21_1 := BW21_1.free
  have cW21_2_0 : W21.cell? ⟨w.heap.size + 1 + 1, 0, none⟩ = some (.int .u64 v7) := BW21_2.cell 0 rfl
  have cW21_2_1 : W21.cell? ⟨w.heap.size + 1 + 1, 1, none⟩ = some (.int .u64 v9) := BW21_2.cell 1 rfl
  have fW21_2 := BW21_2.free
  go_wp2_with fail
  refine wp_region_calm 12 (by kernel_rfl) (by kernel_rfl) ?_
  simp only [List.take_succ_cons, List.take_zero, List.drop_succ_cons, List.drop_zero]
  repeat (first
    | (refine calm_skip rfl ?_; simp only [Act.put, List.setIfInBounds_toArray, List.set_cons_zero, List.set_cons_succ])
    | (refine calm_ex rfl ?_; apply Exists.intro; refine And.intro (fun w' hk => ?_) ?_; (focus (have q0 := hk.cell cW21_0_0; have q1 := hk.cell cW21_0_1; have q2 := hk.cell cW21_0_2; have q3 := hk.cell cW21_0_3; have q4 := hk.cell cW21_0_4; have q5 := hk.cell cW21_0_5; have q6 := hk.cell cW21_0_6; have q7 := hk.cell cW21_0_7; have q8 := hk.cell cW21_0_8; have q9 := hk.cell cW21_0_9; have q10 := hk.cell cW21_0_10; have q11 := hk.cell cW21_0_11; have q12 := hk.cell cW21_0_12; have q13 := hk.cell cW21_0_13; have q14 := hk.cell cW21_0_14; have q15 := hk.cell cW21_0_15; have q16 := hk.cell cW21_1_0; have q17 := hk.cell cW21_1_1; have q18 := hk.cell cW21_2_0; have q19 := hk.cell cW21_2_1; clear hk; go_simp; exact rfl)); simp only [Act.put, List.setIfInBounds_toArray, List.set_cons_zero, List.set_cons_succ]))
  refine calm_nil ?_
  intro W22 hkW22
  have kW22 := kW21.trans hkW22
  have BW22_0 := BW21_0.kept hkW22
  have BW22_1 := BW21_1.kept hkW22
  have BW22_2 := BW21_2.kept hkW22
  clear cW21_0_0 cW21_0_1 cW21_0_2 cW21_0_3 cW21_0_4 cW21_0_5 cW21_0_6 cW21_0_7 cW21_0_8 cW21_0_9 cW21_0_10 cW21_0_11 cW21_0_12 cW21_0_13 cW21_0_14 cW21_0_15 cW21_1_0 cW21_1_1 cW21_2_0 cW21_2_1 fW21_0 fW21_1 fW21_2 BW21_0 BW21_1 BW21_2 kW21 hkW22
  have cW22_0_0 : W22.cell? ⟨w.heap.size, 0, none⟩ = some (.int .u8 b0) := BW22_0.cell 0 rfl
  have cW22_0_1 : W22.cell? ⟨w.heap.size, 1, none⟩ = some (.int .u8 b1) := BW22_0.cell 1 rfl
  have cW22_0_2 : W22.cell? ⟨w.heap.size, 2, none⟩ = some (.int .u8 b2) := BW22_0.cell 2 rfl
  have cW22_0_3 : W22.cell? ⟨w.heap.size, 3, none⟩ = some (.int .u8 b3) := BW22_0.cell 3 rfl
  have cW22_0_4 : W22.cell? ⟨w.heap.size, 4, none⟩ = some (.int .u8 b4) := BW22_0.cell 4 rfl
  have cW22_0_5 : W22.cell? ⟨w.heap.size, 5, none⟩ = some (.int .u8 b5) := BW22_0.cell 5 rfl
  have cW22_0_6 : W22.cell? ⟨w.heap.size, 6, none⟩ = some (.int .u8 b6) := BW22_0.cell 6 rfl
  have cW22_0_7 : W22.cell? ⟨w.heap.size, 7, none⟩ = some (.int .u8 b7) := BW22_0.cell 7 rfl
  have cW22_0_8 : W22.cell? ⟨w.heap.size, 8, none⟩ = some (.int .u8 b8) := BW22_0.cell 8 rfl
  have cW22_0_9 : W22.cell? ⟨w.heap.size, 9, none⟩ = some (.int .u8 b9) := BW22_0.cell 9 rfl
  have cW22_0_10 : W22.cell? ⟨w.heap.size, 10, none⟩ = some (.int .u8 b10) := BW22_0.cell 10 rfl
  have cW22_0_11 : W22.cell? ⟨w.heap.size, 11, none⟩ = some (.int .u8 b11) := BW22_0.cell 11 rfl
  have cW22_0_12 : W22.cell? ⟨w.heap.size, 12, none⟩ = some (.int .u8 b12) := BW22_0.cell 12 rfl
  have cW22_0_13 : W22.cell? ⟨w.heap.size, 13, none⟩ = some (.int .u8 b13) := BW22_0.cell 13 rfl
  have cW22_0_14 : W22.cell? ⟨w.heap.size, 14, none⟩ = some (.int .u8 b14) := BW22_0.cell 14 rfl
  have cW22_0_15 : W22.cell? ⟨w.heap.size, 15, none⟩ = some (.int .u8 b15) := BW22_0.cell 15 rfl
  have fW22_0 := BW22_0.free
  have cW22_1_0 : W22.cell? ⟨w.heap.size + 1, 0, none⟩ = some (.int .u64 0) := BW22_1.cell 0 rfl
  have cW22_1_1 : W22.cell? ⟨w.heap.size + 1, 1, none⟩ = some (.int .u64 0) := BW22_1.cell 1 rfl
  have fW22_1 := BW22_1.free
  have cW22_2_0 : W22.cell? ⟨w.heap.size + 1 + 1, 0, none⟩ = some (.int .u64 v7) := BW22_2.cell 0 rfl
  have cW22_2_1 : W22.cell? ⟨w.heap.size + 1 + 1, 1, none⟩ = some (.int .u64 v9) := BW22_2.cell 1 rfl
  have fW22_2 := BW22_2.free
  go_wp2_with fail
  rw [rounds_succ]
  refine abs_world (fun W => Kept w W ∧ Blk W (w.heap.size) 54 #[.int .u8 b0, .int .u8 b1, .int .u8 b2, .int .u8 b3, .int .u8 b4, .int .u8 b5, .int .u8 b6, .int .u8 b7, .int .u8 b8, .int .u8 b9, .int .u8 b10, .int .u8 b11, .int .u8 b12, .int .u8 b13, .int .u8 b14, .int .u8 b15] ∧ Blk W (w.heap.size + 1) 28 #[.int .u64 0, .int .u64 0] ∧ Blk W (w.heap.size + 1 + 1) 28 #[.int .u64 v7, .int .u64 v10]) ?_ ?_
  · refine ⟨?_, ?_, ?_, ?_⟩
    · repeat (first | exact kW22 | (refine Kept.setCell ?_ (kept_side (by first | assumption | omega)) _) | apply Kept.alloc | apply Kept.drew)
    · simp [Blk, *] <;> (intros; omega)
    · simp [Blk, *] <;> (intros; omega)
    · simp [Blk, *] <;> (intros; omega)
  rintro W23 ⟨kW23, BW23_0, BW23_1, BW23_2⟩
  have cW23_0_0 : W23.cell? ⟨w.heap.size, 0, none⟩ = some (.int .u8 b0) := BW23_0.cell 0 rfl
  have cW23_0_1 : W23.cell? ⟨w.heap.size, 1, none⟩ = some (.int .u8 b1) := BW23_0.cell 1 rfl
  have cW23_0_2 : W23.cell? ⟨w.heap.size, 2, none⟩ = some (.int .u8 b2) := BW23_0.cell 2 rfl
  have cW23_0_3 : W23.cell? ⟨w.heap.size, 3, none⟩ = some (.int .u8 b3) := BW23_0.cell 3 rfl
  have cW23_0_4 : W23.cell? ⟨w.heap.size, 4, none⟩ = some (.int .u8 b4) := BW23_0.cell 4 rfl
  have cW23_0_5 : W23.cell? ⟨w.heap.size, 5, none⟩ = some (.int .u8 b5) := BW23_0.cell 5 rfl
  have cW23_0_6 : W23.cell? ⟨w.heap.size, 6, none⟩ = some (.int .u8 b6) := BW23_0.cell 6 rfl
  have cW23_0_7 : W23.cell? ⟨w.heap.size, 7, none⟩ = some (.int .u8 b7) := BW23_0.cell 7 rfl
  have cW23_0_8 : W23.cell? ⟨w.heap.size, 8, none⟩ = some (.int .u8 b8) := BW23_0.cell 8 rfl
  have cW23_0_9 : W23.cell? ⟨w.heap.size, 9, none⟩ = some (.int .u8 b9) := BW23_0.cell 9 rfl
  have cW23_0_10 : W23.cell? ⟨w.heap.size, 10, none⟩ = some (.int .u8 b10) := BW23_0.cell 10 rfl
  have cW23_0_11 : W23.cell? ⟨w.heap.size, 11, none⟩ = some (.int .u8 b11) := BW23_0.cell 11 rfl
  have cW23_0_12 : W23.cell? ⟨w.heap.size, 12, none⟩ = some (.int .u8 b12) := BW23_0.cell 12 rfl
  have cW23_0_13 : W23.cell? ⟨w.heap.size, 13, none⟩ = some (.int .u8 b13) := BW23_0.cell 13 rfl
  have cW23_0_14 : W23.cell? ⟨w.heap.size, 14, none⟩ = some (.int .u8 b14) := BW23_0.cell 14 rfl
  have cW23_0_15 : W23.cell? ⟨w.heap.size, 15, none⟩ = some (.int .u8 b15) := BW23_0.cell 15 rfl
  have fW23_0 := BW23_0.free
  have cW23_1_0 : W23.cell? ⟨w.heap.size + 1, 0, none⟩ = some (.int .u64 0) := BW23_1.cell 0 rfl
  have cW23_1_1 : W23.cell? ⟨w.heap.size + 1, 1, none⟩ = some (.int .u64 0) := BW23_1.cell 1 rfl
  have fW23_1 := BW23_1.free
  have cW23_2_0 : W23.cell? ⟨w.heap.size + 1 + 1, 0, none⟩ = some (.int .u64 v7) := BW23_2.cell 0 rfl
  have cW23_2_1 : W23.cell? ⟨w.heap.size + 1 + 1, 1, none⟩ = some (.int .u64 v10) := BW23_2.cell 1 rfl
  have fW23_2 := BW23_2.free
  go_wp2_with fail
  refine wp_region_calm 12 (by kernel_rfl) (by kernel_rfl) ?_
  simp only [List.take_succ_cons, List.take_zero, List.drop_succ_cons, List.drop_zero]
  repeat (first
    | (refine calm_skip rfl ?_; simp only [Act.put, List.setIfInBounds_toArray, List.set_cons_zero, List.set_cons_succ])
    | (refine calm_ex rfl ?_; apply Exists.intro; refine And.intro (fun w' hk => ?_) ?_; (focus (have q0 := hk.cell cW23_0_0; have q1 := hk.cell cW23_0_1; have q2 := hk.cell cW23_0_2; have q3 := hk.cell cW23_0_3; have q4 := hk.cell cW23_0_4; have q5 := hk.cell cW23_0_5; have q6 := hk.cell cW23_0_6; have q7 := hk.cell cW23_0_7; have q8 := hk.cell cW23_0_8; have q9 := hk.cell cW23_0_9; have q10 := hk.cell cW23_0_10; have q11 := hk.cell cW23_0_11; have q12 := hk.cell cW23_0_12; have q13 := hk.cell cW23_0_13; have q14 := hk.cell cW23_0_14; have q15 := hk.cell cW23_0_15; have q16 := hk.cell cW23_1_0; have q17 := hk.cell cW23_1_1; have q18 := hk.cell cW23_2_0; have q19 := hk.cell cW23_2_1; clear hk; go_simp; exact rfl)); simp only [Act.put, List.setIfInBounds_toArray, List.set_cons_zero, List.set_cons_succ]))
  refine calm_nil ?_
  intro W24 hkW24
  have kW24 := kW23.trans hkW24
  have BW24_0 := BW23_0.kept hkW24
  have BW24_1 := BW23_1.kept hkW24
  have BW24_2 := BW23_2.kept hkW24
  clear cW23_0_0 cW23_0_1 cW23_0_2 cW23_0_3 cW23_0_4 cW23_0_5 cW23_0_6 cW23_0_7 cW23_0_8 cW23_0_9 cW23_0_10 cW23_0_11 cW23_0_12 cW23_0_13 cW23_0_14 cW23_0_15 cW23_1_0 cW23_1_1 cW23_2_0 cW23_2_1 fW23_0 fW23_1 fW23_2 BW23_0 BW23_1 BW23_2 kW23 hkW24
  have cW24_0_0 : W24.cell? ⟨w.heap.size, 0, none⟩ = some (.int .u8 b0) := BW24_0.cell 0 rfl
  have cW24_0_1 : W24.cell? ⟨w.heap.size, 1, none⟩ = some (.int .u8 b1) := BW24_0.cell 1 rfl
  have cW24_0_2 : W24.cell? ⟨w.heap.size, 2, none⟩ = some (.int .u8 b2) := BW24_0.cell 2 rfl
  have cW24_0_3 : W24.cell? ⟨w.heap.size, 3, none⟩ = some (.int .u8 b3) := BW24_0.cell 3 rfl
  have cW24_0_4 : W24.cell? ⟨w.heap.size, 4, none⟩ = some (.int .u8 b4) := BW24_0.cell 4 rfl
  have cW24_0_5 : W24.cell? ⟨w.heap.size, 5, none⟩ = some (.int .u8 b5) := BW24_0.cell 5 rfl
  have cW24_0_6 : W24.cell? ⟨w.heap.size, 6, none⟩ = some (.int .u8 b6) := BW24_0.cell 6 rfl
  have cW24_0_7 : W24.cell? ⟨w.heap.size, 7, none⟩ = some (.int .u8 b7) := BW24_0.cell 7 rfl
  have cW24_0_8 : W24.cell? ⟨w.heap.size, 8, none⟩ = some (.int .u8 b8) := BW24_0.cell 8 rfl
  have cW24_0_9 : W24.cell? ⟨w.heap.size, 9, none⟩ = some (.int .u8 b9) := BW24_0.cell 9 rfl
  have cW24_0_10 : W24.cell? ⟨w.heap.size, 10, none⟩ = some (.int .u8 b10) := BW24_0.cell 10 rfl
  have cW24_0_11 : W24.cell? ⟨w.heap.size, 11, none⟩ = some (.int .u8 b11) := BW24_0.cell 11 rfl
  have cW24_0_12 : W24.cell? ⟨w.heap.size, 12, none⟩ = some (.int .u8 b12) := BW24_0.cell 12 rfl
  have cW24_0_13 : W24.cell? ⟨w.heap.size, 13, none⟩ = some (.int .u8 b13) := BW24_0.cell 13 rfl
  have cW24_0_14 : W24.cell? ⟨w.heap.size, 14, none⟩ = some (.int .u8 b14) := BW24_0.cell 14 rfl
  have cW24_0_15 : W24.cell? ⟨w.heap.size, 15, none⟩ = some (.int .u8 b15) := BW24_0.cell 15 rfl
  have fW24_0 := BW24_0.free
  have cW24_1_0 : W24.cell? ⟨w.heap.size + 1, 0, none⟩ = some (.int .u64 0) := BW24_1.cell 0 rfl
  have cW24_1_1 : W24.cell? ⟨w.heap.size + 1, 1, none⟩ = some (.int .u64 0) := BW24_1.cell 1 rfl
  have fW24_1 := BW24_1.free
  have cW24_2_0 : W24.cell? ⟨w.heap.size + 1 + 1, 0, none⟩ = some (.int .u64 v7) := BW24_2.cell 0 rfl
  have cW24_2_1 : W24.cell? ⟨w.heap.size + 1 + 1, 1, none⟩ = some (.int .u64 v10) := BW24_2.cell 1 rfl
  have fW24_2 := BW24_2.free
  go_wp2_with fail
  rw [rounds_succ]
  refine abs_world (fun W => Kept w W ∧ Blk W (w.heap.size) 54 #[.int .u8 b0, .int .u8 b1, .int .u8 b2, .int .u8 b3, .int .u8 b4, .int .u8 b5, .int .u8 b6, .int .u8 b7, .int .u8 b8, .int .u8 b9, .int .u8 b10, .int .u8 b11, .int .u8 b12, .int .u8 b13, .int .u8 b14, .int .u8 b15] ∧ Blk W (w.heap.size + 1) 28 #[.int .u64 0, .int .u64 0] ∧ Blk W (w.heap.size + 1 + 1) 28 #[.int .u64 v7, .int .u64 v11]) ?_ ?_
  · refine ⟨?_, ?_, ?_, ?_⟩
    · repeat (first | exact kW24 | (refine Kept.setCell ?_ (kept_side (by first | assumption | omega)) _) | apply Kept.alloc | apply Kept.drew)
    · simp [Blk, *] <;> (intros; omega)
    · simp [Blk, *] <;> (intros; omega)
    · simp [Blk, *] <;> (intros; omega)
  rintro W25 ⟨kW25, BW25_0, BW25_1, BW25_2⟩
  have cW25_0_0 : W25.cell? ⟨w.heap.size, 0, none⟩ = some (.int .u8 b0) := BW25_0.cell 0 rfl
  have cW25_0_1 : W25.cell? ⟨w.heap.size, 1, none⟩ = some (.int .u8 b1) := BW25_0.cell 1 rfl
  have cW25_0_2 : W25.cell? ⟨w.heap.size, 2, none⟩ = some (.int .u8 b2) := BW25_0.cell 2 rfl
  have cW25_0_3 : W25.cell? ⟨w.heap.size, 3, none⟩ = some (.int .u8 b3) := BW25_0.cell 3 rfl
  have cW25_0_4 : W25.cell? ⟨w.heap.size, 4, none⟩ = some (.int .u8 b4) := BW25_0.cell 4 rfl
  have cW25_0_5 : W25.cell? ⟨w.heap.size, 5, none⟩ = some (.int .u8 b5) := BW25_0.cell 5 rfl
  have cW25_0_6 : W25.cell? ⟨w.heap.size, 6, none⟩ = some (.int .u8 b6) := BW25_0.cell 6 rfl
  have cW25_0_7 : W25.cell? ⟨w.heap.size, 7, none⟩ = some (.int .u8 b7) := BW25_0.cell 7 rfl
  have cW25_0_8 : W25.cell? ⟨w.heap.size, 8, none⟩ = some (.int .u8 b8) := BW25_0.cell 8 rfl
  have cW25_0_9 : W25.cell? ⟨w.heap.size, 9, none⟩ = some (.int .u8 b9) := BW25_0.cell 9 rfl
  have cW25_0_10 : W25.cell? ⟨w.heap.size, 10, none⟩ = some (.int .u8 b10) := BW25_0.cell 10 rfl
  have cW25_0_11 : W25.cell? ⟨w.heap.size, 11, none⟩ = some (.int .u8 b11) := BW25_0.cell 11 rfl
  have cW25_0_12 : W25.cell? ⟨w.heap.size, 12, none⟩ = some (.int .u8 b12) := BW25_0.cell 12 rfl
  have cW25_0_13 : W25.cell? ⟨w.heap.size, 13, none⟩ = some (.int .u8 b13) := BW25_0.cell 13 rfl
  have cW25_0_14 : W25.cell? ⟨w.heap.size, 14, none⟩ = some (.int .u8 b14) := BW25_0.cell 14 rfl
  have cW25_0_15 : W25.cell? ⟨w.heap.size, 15, none⟩ = some (.int .u8 b15) := BW25_0.cell 15 rfl
  have fW25_0 := BW25_0.free
  have cW25_1_0 : W25.cell? ⟨w.heap.size + 1, 0, none⟩ = some (.int .u64 0) := BW25_1.cell 0 rfl
  have cW25_1_1 : W25.cell? ⟨w.heap.size + 1, 1, none⟩ = some (.int .u64 0) := BW25_1.cell 1 rfl
  have fW25_1 := BW25_1.free
  have cW25_2_0 : W25.cell? ⟨w.heap.size + 1 + 1, 0, none⟩ = some (.int .u64 v7) := BW25_2.cell 0 rfl
  have cW25_2_1 : W25.cell? ⟨w.heap.size + 1 + 1, 1, none⟩ = some (.int .u64 v11) := BW25_2.cell 1 rfl
  have fW25_2 := BW25_2.free
  go_wp2_with fail
  refine wp_region_calm 12 (by kernel_rfl) (by kernel_rfl) ?_
  simp only [List.take_succ_cons, List.take_zero, List.drop_succ_cons, List.drop_zero]
  repeat (first
    | (refine calm_skip rfl ?_; simp only [Act.put, List.setIfInBounds_toArray, List.set_cons_zero, List.set_cons_succ])
    | (refine calm_ex rfl ?_; apply Exists.intro; refine And.intro (fun w' hk => ?_) ?_; (focus (have q0 := hk.cell cW25_0_0; have q1 := hk.cell cW25_0_1; have q2 := hk.cell cW25_0_2; have q3 := hk.cell cW25_0_3; have q4 := hk.cell cW25_0_4; have q5 := hk.cell cW25_0_5; have q6 := hk.cell cW25_0_6; have q7 := hk.cell cW25_0_7; have q8 := hk.cell cW25_0_8; have q9 := hk.cell cW25_0_9; have q10 := hk.cell cW25_0_10; have q11 := hk.cell cW25_0_11; have q12 := hk.cell cW25_0_12; have q13 := hk.cell cW25_0_13; have q14 := hk.cell cW25_0_14; have q15 := hk.cell cW25_0_15; have q16 := hk.cell cW25_1_0; have q17 := hk.cell cW25_1_1; have q18 := hk.cell cW25_2_0; have q19 := hk.cell cW25_2_1; clear hk; go_simp; exact rfl)); simp only [Act.put, List.setIfInBounds_toArray, List.set_cons_zero, List.set_cons_succ]))
  refine calm_nil ?_
  intro W26 hkW26
  have kW26 := kW25.trans hkW26
  have BW26_0 := BW25_0.kept hkW26
  have BW26_1 := BW25_1.kept hkW26
  have BW26_2 := BW25_2.kept hkW26
  clear cW25_0_0 cW25_0_1 cW25_0_2 cW25_0_3 cW25_0_4 cW25_0_5 cW25_0_6 cW25_0_7 cW25_0_8 cW25_0_9 cW25_0_10 cW25_0_11 cW25_0_12 cW25_0_13 cW25_0_14 cW25_0_15 cW25_1_0 cW25_1_1 cW25_2_0 cW25_2_1 fW25_0 fW25_1 fW25_2 BW25_0 BW25_1 BW25_2 kW25 hkW26
  have cW26_0_0 : W26.cell? ⟨w.heap.size, 0, none⟩ = some (.int .u8 b0) := BW26_0.cell 0 rfl
  have cW26_0_1 : W26.cell? ⟨w.heap.size, 1, none⟩ = some (.int .u8 b1) := BW26_0.cell 1 rfl
  have cW26_0_2 : W26.cell? ⟨w.heap.size, 2, none⟩ = some (.int .u8 b2) := BW26_0.cell 2 rfl
  have cW26_0_3 : W26.cell? ⟨w.heap.size, 3, none⟩ = some (.int .u8 b3) := BW26_0.cell 3 rfl
  have cW26_0_4 : W26.cell? ⟨w.heap.size, 4, none⟩ = some (.int .u8 b4) := BW26_0.cell 4 rfl
  have cW26_0_5 : W26.cell? ⟨w.heap.size, 5, none⟩ = some (.int .u8 b5) := BW26_0.cell 5 rfl
  have cW26_0_6 : W26.cell? ⟨w.heap.size, 6, none⟩ = some (.int .u8 b6) := BW26_0.cell 6 rfl
  have cW26_0_7 : W26.cell? ⟨w.heap.size, 7, none⟩ = some (.int .u8 b7) := BW26_0.cell 7 rfl
  have cW26_0_8 : W26.cell? ⟨w.heap.size, 8, none⟩ = some (.int .u8 b8) := BW26_0.cell 8 rfl
  have cW26_0_9 : W26.cell? ⟨w.heap.size, 9, none⟩ = some (.int .u8 b9) := BW26_0.cell 9 rfl
  have cW26_0_10 : W26.cell? ⟨w.heap.size, 10, none⟩ = some (.int .u8 b10) := BW26_0.cell 10 rfl
  have cW26_0_11 : W26.cell? ⟨w.heap.size, 11, none⟩ = some (.int .u8 b11) := BW26_0.cell 11 rfl
  have cW26_0_12 : W26.cell? ⟨w.heap.size, 12, none⟩ = some (.int .u8 b12) := BW26_0.cell 12 rfl
  have cW26_0_13 : W26.cell? ⟨w.heap.size, 13, none⟩ = some (.int .u8 b13) := BW26_0.cell 13 rfl
  have cW26_0_14 : W26.cell? ⟨w.heap.size, 14, none⟩ = some (.int .u8 b14) := BW26_0.cell 14 rfl
  have cW26_0_15 : W26.cell? ⟨w.heap.size, 15, none⟩ = some (.int .u8 b15) := BW26_0.cell 15 rfl
  have fW26_0 := BW26_0.free
  have cW26_1_0 : W26.cell? ⟨w.heap.size + 1, 0, none⟩ = some (.int .u64 0) := BW26_1.cell 0 rfl
  have cW26_1_1 : W26.cell? ⟨w.heap.size + 1, 1, none⟩ = some (.int .u64 0) := BW26_1.cell 1 rfl
  have fW26_1 := BW26_1.free
  have cW26_2_0 : W26.cell? ⟨w.heap.size + 1 + 1, 0, none⟩ = some (.int .u64 v7) := BW26_2.cell 0 rfl
  have cW26_2_1 : W26.cell? ⟨w.heap.size + 1 + 1, 1, none⟩ = some (.int .u64 v11) := BW26_2.cell 1 rfl
  have fW26_2 := BW26_2.free
  go_wp2_with fail
  rw [rounds_succ]
  refine abs_world (fun W => Kept w W ∧ Blk W (w.heap.size) 54 #[.int .u8 b0, .int .u8 b1, .int .u8 b2, .int .u8 b3, .int .u8 b4, .int .u8 b5, .int .u8 b6, .int .u8 b7, .int .u8 b8, .int .u8 b9, .int .u8 b10, .int .u8 b11, .int .u8 b12, .int .u8 b13, .int .u8 b14, .int .u8 b15] ∧ Blk W (w.heap.size + 1) 28 #[.int .u64 0, .int .u64 0] ∧ Blk W (w.heap.size + 1 + 1) 28 #[.int .u64 v7, .int .u64 v12]) ?_ ?_
  · refine ⟨?_, ?_, ?_, ?_⟩
    · repeat (first | exact kW26 | (refine Kept.setCell ?_ (kept_side (by first | assumption | omega)) _) | apply Kept.alloc | apply Kept.drew)
    · simp [Blk, *] <;> (intros; omega)
    · simp [Blk, *] <;> (intros; omega)
    · simp [Blk, *] <;> (intros; omega)
  rintro W27 ⟨kW27, BW27_0, BW27_1, BW27_2⟩
  have cW27_0_0 : W27.cell? ⟨w.heap.size, 0, none⟩ = some (.int .u8 b0) := BW27_0.cell 0 rfl
  have cW27_0_1 : W27.cell? ⟨w.heap.size, 1, none⟩ = some (.int .u8 b1) := BW27_0.cell 1 rfl
  have cW27_0_2 : W27.cell? ⟨w.heap.size, 2, none⟩ = some (.int .u8 b2) := BW27_0.cell 2 rfl
  have cW27_0_3 : W27.cell? ⟨w.heap.size, 3, none⟩ = some (.int .u8 b3) := BW27_0.cell 3 rfl
  have cW27_0_4 : W27.cell? ⟨w.heap.size, 4, none⟩ = some (.int .u8 b4) := BW27_0.cell 4 rfl
  have cW27_0_5 : W27.cell? ⟨w.heap.size, 5, none⟩ = some (.int .u8 b5) := BW27_0.cell 5 rfl
  have cW27_0_6 : W27.cell? ⟨w.heap.size, 6, none⟩ = some (.int .u8 b6) := BW27_0.cell 6 rfl
  have cW27_0_7 : W27.cell? ⟨w.heap.size, 7, none⟩ = some (.int .u8 b7) := BW27_0.cell 7 rfl
  have cW27_0_8 : W27.cell? ⟨w.heap.size, 8, none⟩ = some (.int .u8 b8) := BW27_0.cell 8 rfl
  have cW27_0_9 : W27.cell? ⟨w.heap.size, 9, none⟩ = some (.int .u8 b9) := BW27_0.cell 9 rfl
  have cW27_0_10 : W27.cell? ⟨w.heap.size, 10, none⟩ = some (.int .u8 b10) := BW27_0.cell 10 rfl
  have cW27_0_11 : W27.cell? ⟨w.heap.size, 11, none⟩ = some (.int .u8 b11) := BW27_0.cell 11 rfl
  have cW27_0_12 : W27.cell? ⟨w.heap.size, 12, none⟩ = some (.int .u8 b12) := BW27_0.cell 12 rfl
  have cW27_0_13 : W27.cell? ⟨w.heap.size, 13, none⟩ = some (.int .u8 b13) := BW27_0.cell 13 rfl
  have cW27_0_14 : W27.cell? ⟨w.heap.size, 14, none⟩ = some (.int .u8 b14) := BW27_0.cell 14 rfl
  have cW27_0_15 : W27.cell? ⟨w.heap.size, 15, none⟩ = some (.int .u8 b15) := BW27_0.cell 15 rfl
  have fW27_0 := BW27_0.free
  have cW27_1_0 : W27.cell? ⟨w.heap.size + 1, 0, none⟩ = some (.int .u64 0) := BW27_1.cell 0 rfl
  have cW27_1_1 : W27.cell? ⟨w.heap.size + 1, 1, none⟩ = some (.int .u64 0) := BW27_1.cell 1 rfl
  have fW27_1 := BW27_1.free
  have cW27_2_0 : W27.cell? ⟨w.heap.size + 1 + 1, 0, none⟩ = some (.int .u64 v7) := BW27_2.cell 0 rfl
  have cW27_2_1 : W27.cell? ⟨w.heap.size + 1 + 1, 1, none⟩ = some (.int .u64 v12) := BW27_2.cell 1 rfl
  have fW27_2 := BW27_2.free
  go_wp2_with fail
  refine wp_region_calm 12 (by kernel_rfl) (by kernel_rfl) ?_
  simp only [List.take_succ_cons, List.take_zero, List.drop_succ_cons, List.drop_zero]
  repeat (first
    | (refine calm_skip rfl ?_; simp only [Act.put, List.setIfInBounds_toArray, List.set_cons_zero, List.set_cons_succ])
    | (refine calm_ex rfl ?_; apply Exists.intro; refine And.intro (fun w' hk => ?_) ?_; (focus (have q0 := hk.cell cW27_0_0; have q1 := hk.cell cW27_0_1; have q2 := hk.cell cW27_0_2; have q3 := hk.cell cW27_0_3; have q4 := hk.cell cW27_0_4; have q5 := hk.cell cW27_0_5; have q6 := hk.cell cW27_0_6; have q7 := hk.cell cW27_0_7; have q8 := hk.cell cW27_0_8; have q9 := hk.cell cW27_0_9; have q10 := hk.cell cW27_0_10; have q11 := hk.cell cW27_0_11; have q12 := hk.cell cW27_0_12; have q13 := hk.cell cW27_0_13; have q14 := hk.cell cW27_0_14; have q15 := hk.cell cW27_0_15; have q16 := hk.cell cW27_1_0; have q17 := hk.cell cW27_1_1; have q18 := hk.cell cW27_2_0; have q19 := hk.cell cW27_2_1; clear hk; go_simp; exact rfl)); simp only [Act.put, List.setIfInBounds_toArray, List.set_cons_zero, List.set_cons_succ]))
  refine calm_nil ?_
  intro W28 hkW28
  have kW28 := kW27.trans hkW28
  have BW28_0 := BW27_0.kept hkW28
  have BW28_1 := BW27_1.kept hkW28
  have BW28_2 := BW27_2.kept hkW28
  clear cW27_0_0 cW27_0_1 cW27_0_2 cW27_0_3 cW27_0_4 cW27_0_5 cW27_0_6 cW27_0_7 cW27_0_8 cW27_0_9 cW27_0_10 cW27_0_11 cW27_0_12 cW27_0_13 cW27_0_14 cW27_0_15 cW27_1_0 cW27_1_1 cW27_2_0 cW27_2_1 fW27_0 fW27_1 fW27_2 BW27_0 BW27_1 BW27_2 kW27 hkW28
  have cW28_0_0 : W28.cell? ⟨w.heap.size, 0, none⟩ = some (.int .u8 b0) := BW28_0.cell 0 rfl
  have cW28_0_1 : W28.cell? ⟨w.heap.size, 1, none⟩ = some (.int .u8 b1) := BW28_0.cell 1 rfl
  have cW28_0_2 : W28.cell? ⟨w.heap.size, 2, none⟩ = some (.int .u8 b2) := BW28_0.cell 2 rfl
  have cW28_0_3 : W28.cell? ⟨w.heap.size, 3, none⟩ = some (.int .u8 b3) := BW28_0.cell 3 rfl
  have cW28_0_4 : W28.cell? ⟨w.heap.size, 4, none⟩ = some (.int .u8 b4) := BW28_0.cell 4 rfl
  have cW28_0_5 : W28.cell? ⟨w.heap.size, 5, none⟩ = some (.int .u8 b5) := BW28_0.cell 5 rfl
  have cW28_0_6 : W28.cell? ⟨w.heap.size, 6, none⟩ = some (.int .u8 b6) := BW28_0.cell 6 rfl
  have cW28_0_7 : W28.cell? ⟨w.heap.size, 7, none⟩ = some (.int .u8 b7) := BW28_0.cell 7 rfl
  have cW28_0_8 : W28.cell? ⟨w.heap.size, 8, none⟩ = some (.int .u8 b8) := BW28_0.cell 8 rfl
  have cW28_0_9 : W28.cell? ⟨w.heap.size, 9, none⟩ = some (.int .u8 b9) := BW28_0.cell 9 rfl
  have cW28_0_10 : W28.cell? ⟨w.heap.size, 10, none⟩ = some (.int .u8 b10) := BW28_0.cell 10 rfl
  have cW28_0_11 : W28.cell? ⟨w.heap.size, 11, none⟩ = some (.int .u8 b11) := BW28_0.cell 11 rfl
  have cW28_0_12 : W28.cell? ⟨w.heap.size, 12, none⟩ = some (.int .u8 b12) := BW28_0.cell 12 rfl
  have cW28_0_13 : W28.cell? ⟨w.heap.size, 13, none⟩ = some (.int .u8 b13) := BW28_0.cell 13 rfl
  have cW28_0_14 : W28.cell? ⟨w.heap.size, 14, none⟩ = some (.int .u8 b14) := BW28_0.cell 14 rfl
  have cW28_0_15 : W28.cell? ⟨w.heap.size, 15, none⟩ = some (.int .u8 b15) := BW28_0.cell 15 rfl
  have fW28_0 := BW28_0.free
  have cW28_1_0 : W28.cell? ⟨w.heap.size + 1, 0, none⟩ = some (.int .u64 0) := BW28_1.cell 0 rfl
  have cW28_1_1 : W28.cell? ⟨w.heap.size + 1, 1, none⟩ = some (.int .u64 0) := BW28_1.cell 1 rfl
  have fW28_1 := BW28_1.free
  have cW28_2_0 : W28.cell? ⟨w.heap.size + 1 + 1, 0, none⟩ = some (.int .u64 v7) := BW28_2.cell 0 rfl
  have cW28_2_1 : W28.cell? ⟨w.heap.size + 1 + 1, 1, none⟩ = some (.int .u64 v12) := BW28_2.cell 1 rfl
  have fW28_2 := BW28_2.free
  go_wp2_with fail
  rw [rounds_succ]
  refine abs_world (fun W => Kept w W ∧ Blk W (w.heap.size) 54 #[.int .u8 b0, .int .u8 b1, .int .u8 b2, .int .u8 b3, .int .u8 b4, .int .u8 b5, .int .u8 b6, .int .u8 b7, .int .u8 b8, .int .u8 b9, .int .u8 b10, .int .u8 b11, .int .u8 b12, .int .u8 b13, .int .u8 b14, .int .u8 b15] ∧ Blk W (w.heap.size + 1) 28 #[.int .u64 0, .int .u64 0] ∧ Blk W (w.heap.size + 1 + 1) 28 #[.int .u64 v7, .int .u64 v13]) ?_ ?_
  · refine ⟨?_, ?_, ?_, ?_⟩
    · repeat (first | exact kW28 | (refine Kept.setCell ?_ (kept_side (by first | assumption | omega)) _) | apply Kept.alloc | apply Kept.drew)
    · simp [Blk, *] <;> (intros; omega)
    · simp [Blk, *] <;> (intros; omega)
    · simp [Blk, *] <;> (intros; omega)
  rintro W29 ⟨kW29, BW29_0, BW29_1, BW29_2⟩
  have cW29_0_0 : W29.cell? ⟨w.heap.size, 0, none⟩ = some (.int .u8 b0) := BW29_0.cell 0 rfl
  have cW29_0_1 : W29.cell? ⟨w.heap.size, 1, none⟩ = some (.int .u8 b1) := BW29_0.cell 1 rfl
  have cW29_0_2 : W29.cell? ⟨w.heap.size, 2, none⟩ = some (.int .u8 b2) := BW29_0.cell 2 rfl
  have cW29_0_3 : W29.cell? ⟨w.heap.size, 3, none⟩ = some (.int .u8 b3) := BW29_0.cell 3 rfl
  have cW29_0_4 : W29.cell? ⟨w.heap.size, 4, none⟩ = some (.int .u8 b4) := BW29_0.cell 4 rfl
  have cW29_0_5 : W29.cell? ⟨w.heap.size, 5, none⟩ = some (.int .u8 b5) := BW29_0.cell 5 rfl
  have cW29_0_6 : W29.cell? ⟨w.heap.size, 6, none⟩ = some (.int .u8 b6) := BW29_0.cell 6 rfl
  have cW29_0_7 : W29.cell? ⟨w.heap.size, 7, none⟩ = some (.int .u8 b7) := BW29_0.cell 7 rfl
  have cW29_0_8 : W29.cell? ⟨w.heap.size, 8, none⟩ = some (.int .u8 b8) := BW29_0.cell 8 rfl
  have cW29_0_9 : W29.cell? ⟨w.heap.size, 9, none⟩ = some (.int .u8 b9) := BW29_0.cell 9 rfl
  have cW29_0_10 : W29.cell? ⟨w.heap.size, 10, none⟩ = some (.int .u8 b10) := BW29_0.cell 10 rfl
  have cW29_0_11 : W29.cell? ⟨w.heap.size, 11, none⟩ = some (.int .u8 b11) := BW29_0.cell 11 rfl
  have cW29_0_12 : W29.cell? ⟨w.heap.size, 12, none⟩ = some (.int .u8 b12) := BW29_0.cell 12 rfl
  have cW29_0_13 : W29.cell? ⟨w.heap.size, 13, none⟩ = some (.int .u8 b13) := BW29_0.cell 13 rfl
  have cW29_0_14 : W29.cell? ⟨w.heap.size, 14, none⟩ = some (.int .u8 b14) := BW29_0.cell 14 rfl
  have cW29_0_15 : W29.cell? ⟨w.heap.size, 15, none⟩ = some (.int .u8 b15) := BW29_0.cell 15 rfl
  have fW29_0 := BW29_0.free
  have cW29_1_0 : W29.cell? ⟨w.heap.size + 1, 0, none⟩ = some (.int .u64 0) := BW29_1.cell 0 rfl
  have cW29_1_1 : W29.cell? ⟨w.heap.size + 1, 1, none⟩ = some (.int .u64 0) := BW29_1.cell 1 rfl
  have fW29_1 := BW29_1.free
  have cW29_2_0 : W29.cell? ⟨w.heap.size + 1 + 1, 0, none⟩ = some (.int .u64 v7) := BW29_2.cell 0 rfl
  have cW29_2_1 : W29.cell? ⟨w.heap.size + 1 + 1, 1, none⟩ = some (.int .u64 v13) := BW29_2.cell 1 rfl
  have fW29_2 := BW29_2.free
  go_wp2_with fail
  refine wp_region_calm 12 (by kernel_rfl) (by kernel_rfl) ?_
  simp only [List.take_succ_cons, List.take_zero, List.drop_succ_cons, List.drop_zero]
  repeat (first
    | (refine calm_skip rfl ?_; simp only [Act.put, List.setIfInBounds_toArray, List.set_cons_zero, List.set_cons_succ])
    | (refine calm_ex rfl ?_; apply Exists.intro; refine And.intro (fun w' hk => ?_) ?_; (focus (have q0 := hk.cell cW29_0_0; have q1 := hk.cell cW29_0_1; have q2 := hk.cell cW29_0_2; have q3 := hk.cell cW29_0_3; have q4 := hk.cell cW29_0_4; have q5 := hk.cell cW29_0_5; have q6 := hk.cell cW29_0_6; have q7 := hk.cell cW29_0_7; have q8 := hk.cell cW29_0_8; have q9 := hk.cell cW29_0_9; have q10 := hk.cell cW29_0_10; have q11 := hk.cell cW29_0_11; have q12 := hk.cell cW29_0_12; have q13 := hk.cell cW29_0_13; have q14 := hk.cell cW29_0_14; have q15 := hk.cell cW29_0_15; have q16 := hk.cell cW29_1_0; have q17 := hk.cell cW29_1_1; have q18 := hk.cell cW29_2_0; have q19 := hk.cell cW29_2_1; clear hk; go_simp; exact rfl)); simp only [Act.put, List.setIfInBounds_toArray, List.set_cons_zero, List.set_cons_succ]))
  refine calm_nil ?_
  intro W30 hkW30
  have kW30 := kW29.trans hkW30
  have BW30_0 := BW29_0.kept hkW30
  have BW30_1 := BW29_1.kept hkW30
  have BW30_2 := BW29_2.kept hkW30
  clear cW29_0_0 cW29_0_1 cW29_0_2 cW29_0_3 cW29_0_4 cW29_0_5 cW29_0_6 cW29_0_7 cW29_0_8 cW29_0_9 cW29_0_10 cW29_0_11 cW29_0_12 cW29_0_13 cW29_0_14 cW29_0_15 cW29_1_0 cW29_1_1 cW29_2_0 cW29_2_1 fW29_0 fW29_1 fW29_2 BW29_0 BW29_1 BW29_2 kW29 hkW30
  have cW30_0_0 : W30.cell? ⟨w.heap.size, 0, none⟩ = some (.int .u8 b0) := BW30_0.cell 0 rfl
  have cW30_0_1 : W30.cell? ⟨w.heap.size, 1, none⟩ = some (.int .u8 b1) := BW30_0.cell 1 rfl
  have cW30_0_2 : W30.cell? ⟨w.heap.size, 2, none⟩ = some (.int .u8 b2) := BW30_0.cell 2 rfl
  have cW30_0_3 : W30.cell? ⟨w.heap.size, 3, none⟩ = some (.int .u8 b3) := BW30_0.cell 3 rfl
  have cW30_0_4 : W30.cell? ⟨w.heap.size, 4, none⟩ = some (.int .u8 b4) := BW30_0.cell 4 rfl
  have cW30_0_5 : W30.cell? ⟨w.heap.size, 5, none⟩ = some (.int .u8 b5) := BW30_0.cell 5 rfl
  have cW30_0_6 : W30.cell? ⟨w.heap.size, 6, none⟩ = some (.int .u8 b6) := BW30_0.cell 6 rfl
  have cW30_0_7 : W30.cell? ⟨w.heap.size, 7, none⟩ = some (.int .u8 b7) := BW30_0.cell 7 rfl
  have cW30_0_8 : W30.cell? ⟨w.heap.size, 8, none⟩ = some (.int .u8 b8) := BW30_0.cell 8 rfl
  have cW30_0_9 : W30.cell? ⟨w.heap.size, 9, none⟩ = some (.int .u8 b9) := BW30_0.cell 9 rfl
  have cW30_0_10 : W30.cell? ⟨w.heap.size, 10, none⟩ = some (.int .u8 b10) := BW30_0.cell 10 rfl
  have cW30_0_11 : W30.cell? ⟨w.heap.size, 11, none⟩ = some (.int .u8 b11) := BW30_0.cell 11 rfl
  have cW30_0_12 : W30.cell? ⟨w.heap.size, 12, none⟩ = some (.int .u8 b12) := BW30_0.cell 12 rfl
  have cW30_0_13 : W30.cell? ⟨w.heap.size, 13, none⟩ = some (.int .u8 b13) := BW30_0.cell 13 rfl
  have cW30_0_14 : W30.cell? ⟨w.heap.size, 14, none⟩ = some (.int .u8 b14) := BW30_0.cell 14 rfl
  have cW30_0_15 : W30.cell? ⟨w.heap.size, 15, none⟩ = some (.int .u8 b15) := BW30_0.cell 15 rfl
  have fW30_0 := BW30_0.free
  have cW30_1_0 : W30.cell? ⟨w.heap.size + 1, 0, none⟩ = some (.int .u64 0) := BW30_1.cell 0 rfl
  have cW30_1_1 : W30.cell? ⟨w.heap.size + 1, 1, none⟩ = some (.int .u64 0) := BW30_1.cell 1 rfl
  have fW30_1 := BW30_1.free
  have cW30_2_0 : W30.cell? ⟨w.heap.size + 1 + 1, 0, none⟩ = some (.int .u64 v7) := BW30_2.cell 0 rfl
  have cW30_2_1 : W30.cell? ⟨w.heap.size + 1 + 1, 1, none⟩ = some (.int .u64 v13) := BW30_2.cell 1 rfl
  have fW30_2 := BW30_2.free
  go_wp2_with fail
  rw [rounds_succ]
  refine abs_world (fun W => Kept w W ∧ Blk W (w.heap.size) 54 #[.int .u8 b0, .int .u8 b1, .int .u8 b2, .int .u8 b3, .int .u8 b4, .int .u8 b5, .int .u8 b6, .int .u8 b7, .int .u8 b8, .int .u8 b9, .int .u8 b10, .int .u8 b11, .int .u8 b12, .int .u8 b13, .int .u8 b14, .int .u8 b15] ∧ Blk W (w.heap.size + 1) 28 #[.int .u64 0, .int .u64 0] ∧ Blk W (w.heap.size + 1 + 1) 28 #[.int .u64 v7, .int .u64 v14]) ?_ ?_
  · refine ⟨?_, ?_, ?_, ?_⟩
    · repeat (first | exact kW30 | (refine Kept.setCell ?_ (kept_side (by first | assumption | omega)) _) | apply Kept.alloc | apply Kept.drew)
    · simp [Blk, *] <;> (intros; omega)
    · simp [Blk, *] <;> (intros; omega)
    · simp [Blk, *] <;> (intros; omega)
  rintro W31 ⟨kW31, BW31_0, BW31_1, BW31_2⟩
  have cW31_0_0 : W31.cell? ⟨w.heap.size, 0, none⟩ = some (.int .u8 b0) := BW31_0.cell 0 rfl
  have cW31_0_1 : W31.cell? ⟨w.heap.size, 1, none⟩ = some (.int .u8 b1) := BW31_0.cell 1 rfl
  have cW31_0_2 : W31.cell? ⟨w.heap.size, 2, none⟩ = some (.int .u8 b2) := BW31_0.cell 2 rfl
  have cW31_0_3 : W31.cell? ⟨w.heap.size, 3, none⟩ = some (.int .u8 b3) := BW31_0.cell 3 rfl
  have cW31_0_4 : W31.cell? ⟨w.heap.size, 4, none⟩ = some (.int .u8 b4) := BW31_0.cell 4 rfl
  have cW31_0_5 : W31.cell? ⟨w.heap.size, 5, none⟩ = some (.int .u8 b5) := BW31_0.cell 5 rfl
  have cW31_0_6 : W31.cell? ⟨w.heap.size, 6, none⟩ = some (.int .u8 b6) := BW31_0.cell 6 rfl
  have cW31_0_7 : W31.cell? ⟨w.heap.size, 7, none⟩ = some (.int .u8 b7) := BW31_0.cell 7 rfl
  have cW31_0_8 : W31.cell? ⟨w.heap.size, 8, none⟩ = some (.int .u8 b8) := BW31_0.cell 8 rfl
  have cW31_0_9 : W31.cell? ⟨w.heap.size, 9, none⟩ = some (.int .u8 b9) := BW31_0.cell 9 rfl
  have cW31_0_10 : W31.cell? ⟨w.heap.size, 10, none⟩ = some (.int .u8 b10) := BW31_0.cell 10 rfl
  have cW31_0_11 : W31.cell? ⟨w.heap.size, 11, none⟩ = some (.int .u8 b11) := BW31_0.cell 11 rfl
  have cW31_0_12 : W31.cell? ⟨w.heap.size, 12, none⟩ = some (.int .u8 b12) := BW31_0.cell 12 rfl
  have cW31_0_13 : W31.cell? ⟨w.heap.size, 13, none⟩ = some (.int .u8 b13) := BW31_0.cell 13 rfl
  have cW31_0_14 : W31.cell? ⟨w.heap.size, 14, none⟩ = some (.int .u8 b14) := BW31_0.cell 14 rfl
  have cW31_0_15 : W31.cell? ⟨w.heap.size, 15, none⟩ = some (.int .u8 b15) := BW31_0.cell 15 rfl
  have fW31_0 := BW31_0.free
  have cW31_1_0 : W31.cell? ⟨w.heap.size + 1, 0, none⟩ = some (.int .u64 0) := BW31_1.cell 0 rfl
  have cW31_1_1 : W31.cell? ⟨w.heap.size + 1, 1, none⟩ = some (.int .u64 0) := BW31_1.cell 1 rfl
  have fW31_1 := BW31_1.free
  have cW31_2_0 : W31.cell? ⟨w.heap.size + 1 + 1, 0, none⟩ = some (.int .u64 v7) := BW31_2.cell 0 rfl
  have cW31_2_1 : W31.cell? ⟨w.heap.size + 1 + 1, 1, none⟩ = some (.int .u64 v14) := BW31_2.cell 1 rfl
  have fW31_2 := BW31_2.free
  go_wp2_with fail
  refine wp_region_calm 12 (by kernel_rfl) (by kernel_rfl) ?_
  simp only [List.take_succ_cons, List.take_zero, List.drop_succ_cons, List.drop_zero]
  repeat (first
    | (refine calm_skip rfl ?_; simp only [Act.put, List.setIfInBounds_toArray, List.set_cons_zero, List.set_cons_succ])
    | (refine calm_ex rfl ?_; apply Exists.intro; refine And.intro (fun w' hk => ?_) ?_; (focus (have q0 := hk.cell cW31_0_0; have q1 := hk.cell cW31_0_1; have q2 := hk.cell cW31_0_2; have q3 := hk.cell cW31_0_3; have q4 := hk.cell cW31_0_4; have q5 := hk.cell cW31_0_5; have q6 := hk.cell cW31_0_6; have q7 := hk.cell cW31_0_7; have q8 := hk.cell cW31_0_8; have q9 := hk.cell cW31_0_9; have q10 := hk.cell cW31_0_10; have q11 := hk.cell cW31_0_11; have q12 := hk.cell cW31_0_12; have q13 := hk.cell cW31_0_13; have q14 := hk.cell cW31_0_14; have q15 := hk.cell cW31_0_15; have q16 := hk.cell cW31_1_0; have q17 := hk.cell cW31_1_1; have q18 := hk.cell cW31_2_0; have q19 := hk.cell cW31_2_1; clear hk; go_simp; exact rfl)); simp only [Act.put, List.setIfInBounds_toArray, List.set_cons_zero, List.set_cons_succ]))
  refine calm_nil ?_
  intro W32 hkW32
  have kW32 := kW31.trans hkW32
  have BW32_0 := BW31_0.kept hkW32
  have BW32_1 := BW31_1.kept hkW32
  have BW32_2 := BW31_2.kept hkW32
  clear cW31_0_0 cW31_0_1 cW31_0_2 cW31_0_3 cW31_0_4 cW31_0_5 cW31_0_6 cW31_0_7 cW31_0_8 cW31_0_9 cW31_0_10 cW31_0_11 cW31_0_12 cW31_0_13 cW31_0_14 cW31_0_15 cW31_1_0 cW31_1_1 cW31_2_0 cW31_2_1 fW31_0 fW31_1 fW31_2 BW31_0 BW31_1 BW31_2 kW31 hkW32
  have cW32_0_0 : W32.cell? ⟨w.heap.size, 0, none⟩ = some (.int .u8 b0) := BW32_0.cell 0 rfl
  have cW32_0_1 : W32.cell? ⟨w.heap.size, 1, none⟩ = some (.int .u8 b1) := BW32_0.cell 1 rfl
  have cW32_0_2 : W32.cell? ⟨w.heap.size, 2, none⟩ = some (.int .u8 b2) := BW32_0.cell 2 rfl
  have cW32_0_3 : W32.cell? ⟨w.heap.size, 3, none⟩ = some (.int .u8 b3) := BW32_0.cell 3 rfl
  have cW32_0_4 : W32.cell? ⟨w.heap.size, 4, none⟩ = some (.int .u8 b4) := BW32_0.cell 4 rfl
  have cW32_0_5 : W32.cell? ⟨w.heap.size, 5, none⟩ = some (.int .u8 b5) := BW32_0.cell 5 rfl
  have cW32_0_6 : W32.cell? ⟨w.heap.size, 6, none⟩ = some (.int .u8 b6) := BW32_0.cell 6 rfl
  have cW32_0_7 : W32.cell? ⟨w.heap.size, 7, none⟩ = some (.int .u8 b7) := BW32_0.cell 7 rfl
  have cW32_0_8 : W32.cell? ⟨w.heap.size, 8, none⟩ = some (.int .u8 b8) := BW32_0.cell 8 rfl
  have cW32_0_9 : W32.cell? ⟨w.heap.size, 9, none⟩ = some (.int .u8 b9) := BW32_0.cell 9 rfl
  have cW32_0_10 : W32.cell? ⟨w.heap.size, 10, none⟩ = some (.int .u8 b10) := BW32_0.cell 10 rfl
  have cW32_0_11 : W32.cell? ⟨w.heap.size, 11, none⟩ = some (.int .u8 b11) := BW32_0.cell 11 rfl
  have cW32_0_12 : W32.cell? ⟨w.heap.size, 12, none⟩ = some (.int .u8 b12) := BW32_0.cell 12 rfl
  have cW32_0_13 : W32.cell? ⟨w.heap.size, 13, none⟩ = some (.int .u8 b13) := BW32_0.cell 13 rfl
  have cW32_0_14 : W32.cell? ⟨w.heap.size, 14, none⟩ = some (.int .u8 b14) := BW32_0.cell 14 rfl
  have cW32_0_15 : W32.cell? ⟨w.heap.size, 15, none⟩ = some (.int .u8 b15) := BW32_0.cell 15 rfl
  have fW32_0 := BW32_0.free
  have cW32_1_0 : W32.cell? ⟨w.heap.size + 1, 0, none⟩ = some (.int .u64 0) := BW32_1.cell 0 rfl
  have cW32_1_1 : W32.cell? ⟨w.heap.size + 1, 1, none⟩ = some (.int .u64 0) := BW32_1.cell 1 rfl
  have fW32_1 := BW32_1.free
  have cW32_2_0 : W32.cell? ⟨w.heap.size + 1 + 1, 0, none⟩ = some (.int .u64 v7) := BW32_2.cell 0 rfl
  have cW32_2_1 : W32.cell? ⟨w.heap.size + 1 + 1, 1, none⟩ = some (.int .u64 v14) := BW32_2.cell 1 rfl
  have fW32_2 := BW32_2.free
  go_wp2_with fail
  rw [rounds_succ]
  refine abs_world (fun W => Kept w W ∧ Blk W (w.heap.size) 54 #[.int .u8 b0, .int .u8 b1, .int .u8 b2, .int .u8 b3, .int .u8 b4, .int .u8 b5, .int .u8 b6, .int .u8 b7, .int .u8 b8, .int .u8 b9, .int .u8 b10, .int .u8 b11, .int .u8 b12, .int .u8 b13, .int .u8 b14, .int .u8 b15] ∧ Blk W (w.heap.size + 1) 28 #[.int .u64 0, .int .u64 0] ∧ Blk W (w.heap.size + 1 + 1) 28 #[.int .u64 v7, .int .u64 v15]) ?_ ?_
  · refine ⟨?_, ?_, ?_, ?_⟩
    · repeat (first | exact kW32 | (refine Kept.setCell ?_ (kept_side (by first | assumption | omega)) _) | apply Kept.alloc | apply Kept.drew)
    · simp [Blk, *] <;> (intros; omega)
    · simp [Blk, *] <;> (intros; omega)
    · simp [Blk, *] <;> (intros; omega)
  rintro W33 ⟨kW33, BW33_0, BW33_1, BW33_2⟩
  have cW33_0_0 : W33.cell? ⟨w.heap.size, 0, none⟩ = some (.int .u8 b0) := BW33_0.cell 0 rfl
  have cW33_0_1 : W33.cell? ⟨w.heap.size, 1, none⟩ = some (.int .u8 b1) := BW33_0.cell 1 rfl
  have cW33_0_2 : W33.cell? ⟨w.heap.size, 2, none⟩ = some (.int .u8 b2) := BW33_0.cell 2 rfl
  have cW33_0_3 : W33.cell? ⟨w.heap.size, 3, none⟩ = some (.int .u8 b3) := BW33_0.cell 3 rfl
  have cW33_0_4 : W33.cell? ⟨w.heap.size, 4, none⟩ = some (.int .u8 b4) := BW33_0.cell 4 rfl
  have cW33_0_5 : W33.cell? ⟨w.heap.size, 5, none⟩ = some (.int .u8 b5) := BW33_0.cell 5 rfl
  have cW33_0_6 : W33.cell? ⟨w.heap.size, 6, none⟩ = some (.int .u8 b6) := BW33_0.cell 6 rfl
  have cW33_0_7 : W33.cell? ⟨w.heap.size, 7, none⟩ = some (.int .u8 b7) := BW33_0.cell 7 rfl
  have cW33_0_8 : W33.cell? ⟨w.heap.size, 8, none⟩ = some (.int .u8 b8) := BW33_0.cell 8 rfl
  have cW33_0_9 : W33.cell? ⟨w.heap.size, 9, none⟩ = some (.int .u8 b9) := BW33_0.cell 9 rfl
  have cW33_0_10 : W33.cell? ⟨w.heap.size, 10, none⟩ = some (.int .u8 b10) := BW33_0.cell 10 rfl
  have cW33_0_11 : W33.cell? ⟨w.heap.size, 11, none⟩ = some (.int .u8 b11) := BW33_0.cell 11 rfl
  have cW33_0_12 : W33.cell? ⟨w.heap.size, 12, none⟩ = some (.int .u8 b12) := BW33_0.cell 12 rfl
  have cW33_0_13 : W33.cell? ⟨w.heap.size, 13, none⟩ = some (.int .u8 b13) := BW33_0.cell 13 rfl
  have cW33_0_14 : W33.cell? ⟨w.heap.size, 14, none⟩ = some (.int .u8 b14) := BW33_0.cell 14 rfl
  have cW33_0_15 : W33.cell? ⟨w.heap.size, 15, none⟩ = some (.int .u8 b15) := BW33_0.cell 15 rfl
  have fW33_0 := BW33_0.free
  have cW33_1_0 : W33.cell? ⟨w.heap.size + 1, 0, none⟩ = some (.int .u64 0) := BW33_1.cell 0 rfl
  have cW33_1_1 : W33.cell? ⟨w.heap.size + 1, 1, none⟩ = some (.int .u64 0) := BW33_1.cell 1 rfl
  have fW33_1 := BW33_1.free
  have cW33_2_0 : W33.cell? ⟨w.heap.size + 1 + 1, 0, none⟩ = some (.int .u64 v7) := BW33_2.cell 0 rfl
  have cW33_2_1 : W33.cell? ⟨w.heap.size + 1 + 1, 1, none⟩ = some (.int .u64 v15) := BW33_2.cell 1 rfl
  have fW33_2 := BW33_2.free
  go_wp2_with fail
  refine (HI.out _).mono ?_
  rintro e W34 ⟨rfl, hkW34⟩
  have kW34 := kW33.trans hkW34
  have BW34_0 := BW33_0.kept hkW34
  have BW34_1 := BW33_1.kept hkW34
  have BW34_2 := BW33_2.kept hkW34
  clear cW33_0_0 cW33_0_1 cW33_0_2 cW33_0_3 cW33_0_4 cW33_0_5 cW33_0_6 cW33_0_7 cW33_0_8 cW33_0_9 cW33_0_10 cW33_0_11 cW33_0_12 cW33_0_13 cW33_0_14 cW33_0_15 cW33_1_0 cW33_1_1 cW33_2_0 cW33_2_1 fW33_0 fW33_1 fW33_2 BW33_0 BW33_1 BW33_2 kW33 hkW34
  have cW34_0_0 : W34.cell? ⟨w.heap.size, 0, none⟩ = some (.int .u8 b0) := BW34_0.cell 0 rfl
  have cW34_0_1 : W34.cell? ⟨w.heap.size, 1, none⟩ = some (.int .u8 b1) := BW34_0.cell 1 rfl
  have cW34_0_2 : W34.cell? ⟨w.heap.size, 2, none⟩ = some (.int .u8 b2) := BW34_0.cell 2 rfl
  have cW34_0_3 : W34.cell? ⟨w.heap.size, 3, none⟩ = some (.int .u8 b3) := BW34_0.cell 3 rfl
  have cW34_0_4 : W34.cell? ⟨w.heap.size, 4, none⟩ = some (.int .u8 b4) := BW34_0.cell 4 rfl
  have cW34_0_5 : W34.cell? ⟨w.heap.size, 5, none⟩ = some (.int .u8 b5) := BW34_0.cell 5 rfl
  have cW34_0_6 : W34.cell? ⟨w.heap.size, 6, none⟩ = some (.int .u8 b6) := BW34_0.cell 6 rfl
  have cW34_0_7 : W34.cell? ⟨w.heap.size, 7, none⟩ = some (.int .u8 b7) := BW34_0.cell 7 rfl
  have cW34_0_8 : W34.cell? ⟨w.heap.size, 8, none⟩ = some (.int .u8 b8) := BW34_0.cell 8 rfl
  have cW34_0_9 : W34.cell? ⟨w.heap.size, 9, none⟩ = some (.int .u8 b9) := BW34_0.cell 9 rfl
  have cW34_0_10 : W34.cell? ⟨w.heap.size, 10, none⟩ = some (.int .u8 b10) := BW34_0.cell 10 rfl
  have cW34_0_11 : W34.cell? ⟨w.heap.size, 11, none⟩ = some (.int .u8 b11) := BW34_0.cell 11 rfl
  have cW34_0_12 : W34.cell? ⟨w.heap.size, 12, none⟩ = some (.int .u8 b12) := BW34_0.cell 12 rfl
  have cW34_0_13 : W34.cell? ⟨w.heap.size, 13, none⟩ = some (.int .u8 b13) := BW34_0.cell 13 rfl
  have cW34_0_14 : W34.cell? ⟨w.heap.size, 14, none⟩ = some (.int .u8 b14) := BW34_0.cell 14 rfl
  have cW34_0_15 : W34.cell? ⟨w.heap.size, 15, none⟩ = some (.int .u8 b15) := BW34_0.cell 15 rfl
  have fW34_0 := BW34_0.free
  have cW34_1_0 : W34.cell? ⟨w.heap.size + 1, 0, none⟩ = some (.int .u64 0) := BW34_1.cell 0 rfl
  have cW34_1_1 : W34.cell? ⟨w.heap.size + 1, 1, none⟩ = some (.int .u64 0) := BW34_1.cell 1 rfl
  have fW34_1 := BW34_1.free
  have cW34_2_0 : W34.cell? ⟨w.heap.size + 1 + 1, 0, none⟩ = some (.int .u64 v7) := BW34_2.cell 0 rfl
  have cW34_2_1 : W34.cell? ⟨w.heap.size + 1 + 1, 1, none⟩ = some (.int .u64 v15) := BW34_2.cell 1 rfl
  have fW34_2 := BW34_2.free
  go_wp2_with fail
  go_wp2_with fail
  refine bodyPost_ret (v := .tuple #[.agg #[.int .u64 0, .int .u64 0], .int .i64 7]) (by simp [results, Try.results57, go_sem, *]) rfl ⟨rfl, ?_⟩
  repeat (first | exact kW34 | (refine Kept.setCell ?_ (kept_side (by first | assumption | omega)) _) | apply Kept.alloc | apply Kept.drew)
end Go.Proofs.Ytnajihlhcdedgaa

namespace Go.Proofs.Ytnajihlhcdedgaa
open Go.RowKit
set_option linter.unusedVariables false
set_option linter.unusedSimpArgs false
attribute [local simp] blkAt_setCell blkAt_alloc blkAt_drew Obj.put_cells
theorem reads_bytes {w : World} {v : Value} {bs : List Int} (h : Reads w v (bytesV bs)) (hne : bs ≠ []) : ∃ b o cap, v = .slice (some ⟨b, o, none⟩) bs.length cap ∧ bs.length ≤ cap ∧ ∀ j, j < bs.length → w.cell? ⟨b, o + j, none⟩ = some (.int .u8 (bs.getD j 0)) := by
  rcases h with ⟨_, h⟩ | ⟨b, o, cap, h1, h2, h3⟩
  · unfold bytesV at h; exact absurd (List.map_eq_nil_iff.1 h) hne
  · rw [show (bytesV bs).length = bs.length by simp [bytesV]] at h1 h2
    refine ⟨b, o, cap, h1, h2, fun j hj => h3 j _ ?_⟩
    rw [List.getD_eq_getElem?_getD, List.getElem?_eq_getElem hj]
    simp [bytesV, hj]
theorem conv_reads {w : World} {v : Value} {bs : List Int} (h : Reads w v (bytesV bs)) (hne : bs ≠ []) (hb : ∀ x ∈ bs, isByte x) : (convert 42 9 v).run Try.prog w = .ok (.string (strOf bs)) w := by
  obtain ⟨b, o, cap, rfl, _, h3⟩ := reads_bytes h hne
  exact conv_str Try.underlying42 Try.underlying5 Try.underlying9 w hb h3
end Go.Proofs.Ytnajihlhcdedgaa

namespace Go.Proofs.Ytnajihlhcdedgaa
open Go.RowKit
set_option linter.unusedVariables false
theorem list16 {l : List Int} (h : l.length = 16) : ∃ x0 x1 x2 x3 x4 x5 x6 x7 x8 x9 x10 x11 x12 x13 x14 x15, l = [x0, x1, x2, x3, x4, x5, x6, x7, x8, x9, x10, x11, x12, x13, x14, x15] := by
  match l, h with
  | [x0, x1, x2, x3, x4, x5, x6, x7, x8, x9, x10, x11, x12, x13, x14, x15], _ => exact ⟨_, _, _, _, _, _, _, _, _, _, _, _, _, _, _, _, rfl⟩
set_option maxRecDepth 100000 in
set_option maxHeartbeats 4000000 in
theorem w_Take {bs : List Int} (hl : bs.length = 16) (hb : ∀ b ∈ bs, isByte b) :
    Pure Try.prog 57 #[.agg (bytesV bs).toArray] (if leVal bs < wP then .tuple #[E (leVal bs), .int .i64 0] else .tuple #[.agg #[.int .u64 0, .int .u64 0], .int .i64 7]) := fun w => by
  obtain ⟨b0, b1, b2, b3, b4, b5, b6, b7, b8, b9, b10, b11, b12, b13, b14, b15, rfl⟩ := list16 hl
  have h0 := hb b0 (by simp)
  have h1 := hb b1 (by simp)
  have h2 := hb b2 (by simp)
  have h3 := hb b3 (by simp)
  have h4 := hb b4 (by simp)
  have h5 := hb b5 (by simp)
  have h6 := hb b6 (by simp)
  have h7 := hb b7 (by simp)
  have h8 := hb b8 (by simp)
  have h9 := hb b9 (by simp)
  have h10 := hb b10 (by simp)
  have h11 := hb b11 (by simp)
  have h12 := hb b12 (by simp)
  have h13 := hb b13 (by simp)
  have h14 := hb b14 (by simp)
  have h15 := hb b15 (by simp)
  unfold isByte at h0 h1 h2 h3 h4 h5 h6 h7 h8 h9 h10 h11 h12 h13 h14 h15
  clear hb hl
  have e : leVal [b0, b1, b2, b3, b4, b5, b6, b7, b8, b9, b10, b11, b12, b13, b14, b15] = (b0 + b1 * 256 + b2 * 65536 + b3 * 16777216 + b4 * 4294967296 + b5 * 1099511627776 + b6 * 281474976710656 + b7 * 72057594037927936) + (b8 + b9 * 256 + b10 * 65536 + b11 * 16777216 + b12 * 4294967296 + b13 * 1099511627776 + b14 * 281474976710656 + b15 * 72057594037927936) * 18446744073709551616 := by simp only [leVal]; omega
  rw [e]
  have hlo : is64 (b0 + b1 * 256 + b2 * 65536 + b3 * 16777216 + b4 * 4294967296 + b5 * 1099511627776 + b6 * 281474976710656 + b7 * 72057594037927936) := by unfold is64; omega
  have hhi : is64 (b8 + b9 * 256 + b10 * 65536 + b11 * 16777216 + b12 * 4294967296 + b13 * 1099511627776 + b14 * 281474976710656 + b15 * 72057594037927936) := by unfold is64; omega
  have o0 : bits .or .u64 0 b0 = b0 := by
    have := bits_or_add 0 b0 0 (by omega) (by omega) (by omega) (by omega)
    simpa using this
  have o1 : bits .or .u64 (b0) (b1 * 256) = b0 + b1 * 256 := bits_or_add _ b1 8 (by omega) (by omega) (by omega) (by omega)
  have o2 : bits .or .u64 (b0 + b1 * 256) (b2 * 65536) = b0 + b1 * 256 + b2 * 65536 := bits_or_add _ b2 16 (by omega) (by omega) (by omega) (by omega)
  have o3 : bits .or .u64 (b0 + b1 * 256 + b2 * 65536) (b3 * 16777216) = b0 + b1 * 256 + b2 * 65536 + b3 * 16777216 := bits_or_add _ b3 24 (by omega) (by omega) (by omega) (by omega)
  have o4 : bits .or .u64 (b0 + b1 * 256 + b2 * 65536 + b3 * 16777216) (b4 * 4294967296) = b0 + b1 * 256 + b2 * 65536 + b3 * 16777216 + b4 * 4294967296 := bits_or_add _ b4 32 (by omega) (by omega) (by omega) (by omega)
  have o5 : bits .or .u64 (b0 + b1 * 256 + b2 * 65536 + b3 * 16777216 + b4 * 4294967296) (b5 * 1099511627776) = b0 + b1 * 256 + b2 * 65536 + b3 * 16777216 + b4 * 4294967296 + b5 * 1099511627776 := bits_or_add _ b5 40 (by omega) (by omega) (by omega) (by omega)
  have o6 : bits .or .u64 (b0 + b1 * 256 + b2 * 65536 + b3 * 16777216 + b4 * 4294967296 + b5 * 1099511627776) (b6 * 281474976710656) = b0 + b1 * 256 + b2 * 65536 + b3 * 16777216 + b4 * 4294967296 + b5 * 1099511627776 + b6 * 281474976710656 := bits_or_add _ b6 48 (by omega) (by omega) (by omega) (by omega)
  have o7 : bits .or .u64 (b0 + b1 * 256 + b2 * 65536 + b3 * 16777216 + b4 * 4294967296 + b5 * 1099511627776 + b6 * 281474976710656) (b7 * 72057594037927936) = b0 + b1 * 256 + b2 * 65536 + b3 * 16777216 + b4 * 4294967296 + b5 * 1099511627776 + b6 * 281474976710656 + b7 * 72057594037927936 := bits_or_add _ b7 56 (by omega) (by omega) (by omega) (by omega)
  have o8 : bits .or .u64 0 b8 = b8 := by
    have := bits_or_add 0 b8 0 (by omega) (by omega) (by omega) (by omega)
    simpa using this
  have o9 : bits .or .u64 (b8) (b9 * 256) = b8 + b9 * 256 := bits_or_add _ b9 8 (by omega) (by omega) (by omega) (by omega)
  have o10 : bits .or .u64 (b8 + b9 * 256) (b10 * 65536) = b8 + b9 * 256 + b10 * 65536 := bits_or_add _ b10 16 (by omega) (by omega) (by omega) (by omega)
  have o11 : bits .or .u64 (b8 + b9 * 256 + b10 * 65536) (b11 * 16777216) = b8 + b9 * 256 + b10 * 65536 + b11 * 16777216 := bits_or_add _ b11 24 (by omega) (by omega) (by omega) (by omega)
  have o12 : bits .or .u64 (b8 + b9 * 256 + b10 * 65536 + b11 * 16777216) (b12 * 4294967296) = b8 + b9 * 256 + b10 * 65536 + b11 * 16777216 + b12 * 4294967296 := bits_or_add _ b12 32 (by omega) (by omega) (by omega) (by omega)
  have o13 : bits .or .u64 (b8 + b9 * 256 + b10 * 65536 + b11 * 16777216 + b12 * 4294967296) (b13 * 1099511627776) = b8 + b9 * 256 + b10 * 65536 + b11 * 16777216 + b12 * 4294967296 + b13 * 1099511627776 := bits_or_add _ b13 40 (by omega) (by omega) (by omega) (by omega)
  have o14 : bits .or .u64 (b8 + b9 * 256 + b10 * 65536 + b11 * 16777216 + b12 * 4294967296 + b13 * 1099511627776) (b14 * 281474976710656) = b8 + b9 * 256 + b10 * 65536 + b11 * 16777216 + b12 * 4294967296 + b13 * 1099511627776 + b14 * 281474976710656 := bits_or_add _ b14 48 (by omega) (by omega) (by omega) (by omega)
  have o15 : bits .or .u64 (b8 + b9 * 256 + b10 * 65536 + b11 * 16777216 + b12 * 4294967296 + b13 * 1099511627776 + b14 * 281474976710656) (b15 * 72057594037927936) = b8 + b9 * 256 + b10 * 65536 + b11 * 16777216 + b12 * 4294967296 + b13 * 1099511627776 + b14 * 281474976710656 + b15 * 72057594037927936 := bits_or_add _ b15 56 (by omega) (by omega) (by omega) (by omega)
  have hE := E_mk (hi := b8 + b9 * 256 + b10 * 65536 + b11 * 16777216 + b12 * 4294967296 + b13 * 1099511627776 + b14 * 281474976710656 + b15 * 72057594037927936) hlo
  have hI := w_In (a := (b0 + b1 * 256 + b2 * 65536 + b3 * 16777216 + b4 * 4294967296 + b5 * 1099511627776 + b6 * 281474976710656 + b7 * 72057594037927936) + (b8 + b9 * 256 + b10 * 65536 + b11 * 16777216 + b12 * 4294967296 + b13 * 1099511627776 + b14 * 281474976710656 + b15 * 72057594037927936) * 18446744073709551616) (by unfold is64 at hlo hhi; unfold is128; omega)
  rw [hE] at hI ⊢
  by_cases h : (b0 + b1 * 256 + b2 * 65536 + b3 * 16777216 + b4 * 4294967296 + b5 * 1099511627776 + b6 * 281474976710656 + b7 * 72057594037927936) + (b8 + b9 * 256 + b10 * 65536 + b11 * 16777216 + b12 * 4294967296 + b13 * 1099511627776 + b14 * 281474976710656 + b15 * 72057594037927936) * 18446744073709551616 < wP
  · rw [if_pos h]
    rw [decide_eq_true h] at hI
    exact wide_Take_yes b0 _ b1 _ b2 _ b3 _ b4 _ b5 _ b6 _ b7 _ b8 _ b9 _ b10 _ b11 _ b12 _ b13 _ b14 _ b15 _ w h0.1 h0.2 h1.1 h1.2 h2.1 h2.2 h3.1 h3.2 h4.1 h4.2 h5.1 h5.2 h6.1 h6.2 h7.1 h7.2 h8.1 h8.2 h9.1 h9.2 h10.1 h10.2 h11.1 h11.2 h12.1 h12.2 h13.1 h13.2 h14.1 h14.2 h15.1 h15.2 o0 o1 o2 o3 o4 o5 o6 o7 o8 o9 o10 o11 o12 o13 o14 o15 hI
  · rw [if_neg h]
    rw [decide_eq_false h] at hI
    exact wide_Take_no b0 _ b1 _ b2 _ b3 _ b4 _ b5 _ b6 _ b7 _ b8 _ b9 _ b10 _ b11 _ b12 _ b13 _ b14 _ b15 _ w h0.1 h0.2 h1.1 h1.2 h2.1 h2.2 h3.1 h3.2 h4.1 h4.2 h5.1 h5.2 h6.1 h6.2 h7.1 h7.2 h8.1 h8.2 h9.1 h9.2 h10.1 h10.2 h11.1 h11.2 h12.1 h12.2 h13.1 h13.2 h14.1 h14.2 h15.1 h15.2 o0 o1 o2 o3 o4 o5 o6 o7 o8 o9 o10 o11 o12 o13 o14 o15 hI
end Go.Proofs.Ytnajihlhcdedgaa

namespace Go.Proofs.Ytnajihlhcdedgaa
open Go.RowKit
set_option linter.unusedVariables false
set_option linter.unusedSimpArgs false
theorem mul_emod_r (b c : Int) {a : Int} (H : 0 < a) : b * a % (c * a) = b % c * a := by rw [Int.mul_comm b, Int.mul_comm c, Int.mul_emod_mul_of_pos _ _ H, Int.mul_comm]
/-- A number turned by n. -/
def rotL (x : Int) (n : Nat) : Int := x * 2 ^ n % 18446744073709551616 + x / 2 ^ (64 - n)
def in64 (x : Int) : Prop := 0 ≤ x ∧ x ≤ 18446744073709551615
theorem rotL_zero {x : Int} (h : in64 x) : rotL x 0 = x := by
  unfold rotL in64 at *
  have e : (2 : Int) ^ (64 - 0) = 18446744073709551616 := by decide
  rw [e]
  omega
theorem rotL_step {x A B : Int} (h0 : 0 ≤ x) (h1 : x < 18446744073709551616) (hA : 0 < A) (hB : 0 < B) (hAB : A * B = 9223372036854775808) :
    x * (2 * A) % 18446744073709551616 + x / B = (x * A % 18446744073709551616 + x / (2 * B)) * 2 % 18446744073709551616 + (x * A % 18446744073709551616 + x / (2 * B)) / 9223372036854775808 := by
  have m1 : (18446744073709551616 : Int) = 2 * B * A := by rw [Int.mul_assoc, Int.mul_comm B A, hAB]; rfl
  have m2 : (18446744073709551616 : Int) = B * (2 * A) := by rw [Int.mul_left_comm, Int.mul_comm B A, hAB]; rfl
  have e1 : x * A % 18446744073709551616 = (x % (2 * B)) * A := by rw [m1, mul_emod_r _ _ hA]
  have e2 : x * (2 * A) % 18446744073709551616 = (x % B) * (2 * A) := by
    have := mul_emod_r x B (show (0 : Int) < 2 * A by omega)
    rw [← m2] at this; exact this
  have d1 : x / (2 * B) = x / B / 2 := by rw [Int.mul_comm, Int.ediv_ediv_of_nonneg (by omega)]
  have d2 : x % (2 * B) = B * (x / B % 2) + x % B := by
    have a1 := Int.emod_def x (2 * B)
    rw [d1] at a1
    have a2 := Int.emod_def x B
    have a3 := Int.emod_def (x / B) 2
    rw [a1, a3, Int.mul_sub, ← Int.mul_assoc, Int.mul_comm B 2]
    omega
  have hl0 := Int.emod_nonneg x (Int.ne_of_gt hB)
  have hl1 := Int.emod_lt_of_pos x hB
  have hq0 : 0 ≤ x / B := Int.ediv_nonneg h0 (by omega)
  have hq1 : x / (2 * B) < A := Int.ediv_lt_of_lt_mul (by omega) (by rw [Int.mul_comm, ← m1]; exact h1)
  rw [e1, e2, d2, d1]
  rw [d1] at hq1
  generalize x % B = l at *
  generalize x / B = q at *
  have hP : l * A ≤ 9223372036854775808 - A := by
    have := Int.mul_le_mul_of_nonneg_right (show l ≤ B - 1 by omega) (show (0 : Int) ≤ A by omega)
    rw [Int.sub_mul, Int.mul_comm B A, hAB] at this
    omega
  have hP0 : 0 ≤ l * A := Int.mul_nonneg hl0 (by omega)
  have e3 : (B * (q % 2) + l) * A = 9223372036854775808 * (q % 2) + l * A := by rw [Int.add_mul, Int.mul_right_comm, Int.mul_comm B A, hAB]
  have e4 : l * (2 * A) = 2 * (l * A) := by rw [Int.mul_left_comm]
  rw [e3, e4]
  generalize l * A = P at *
  omega
theorem rotL_succ {x : Int} (h : in64 x) {k : Nat} (hk : k < 63) : rotL x (k + 1) = rotL x k * 2 % 18446744073709551616 + rotL x k / 9223372036854775808 := by
  unfold rotL in64 at *
  have hA : (0 : Int) < 2 ^ k := Int.pow_pos (by omega)
  have hB : (0 : Int) < 2 ^ (63 - k) := Int.pow_pos (by omega)
  have hAB : (2 : Int) ^ k * 2 ^ (63 - k) = 9223372036854775808 := by rw [← Int.pow_add, show k + (63 - k) = 63 by omega]; rfl
  have := rotL_step h.1 (by omega : x < 18446744073709551616) hA hB hAB
  rw [show (2 : Int) ^ (k + 1) = 2 * 2 ^ k by rw [Int.pow_succ, Int.mul_comm], show 64 - (k + 1) = 63 - k by omega, show (2 : Int) ^ (64 - k) = 2 * 2 ^ (63 - k) by rw [show 64 - k = (63 - k) + 1 by omega, Int.pow_succ, Int.mul_comm]]
  exact this
set_option maxHeartbeats 4000000 in
theorem rotL_in {x : Int} (h : in64 x) {k : Nat} (hk : k < 64) : in64 (rotL x k) := by
  induction k with
  | zero => rw [rotL_zero h]; exact h
  | succ k ih =>
    have := ih (by omega)
    rw [rotL_succ h (by omega)]
    unfold in64 at *
    omega
theorem bits_or_comm (x y : Int) : bits .or .u64 x y = bits .or .u64 y x := by
  unfold bits
  simp only [BitVec.or_comm]
theorem rot_or {x : Int} (h : in64 x) {n : Nat} (hn : n < 64) : bits .or .u64 (IntKind.u64.wrap (x * 2 ^ n)) (x / 2 ^ (64 - n)) = rotL x n := by
  have hw : IntKind.u64.wrap (x * 2 ^ n) = x * 2 ^ n % 18446744073709551616 := by simp [IntKind.wrap, IntKind.bits, IntKind.signed]
  have hp : (18446744073709551616 : Int) = 2 ^ (64 - n) * 2 ^ n := by
    rw [← Int.pow_add, show 64 - n + n = 64 by omega]; rfl
  have hpos : (0 : Int) < 2 ^ n := Int.pow_pos (by omega)
  have hpos2 : (0 : Int) < 2 ^ (64 - n) := Int.pow_pos (by omega)
  have e : x * 2 ^ n % 18446744073709551616 = (x % 2 ^ (64 - n)) * 2 ^ n := by
    rw [hp, mul_emod_r _ _ hpos]
  have hr := rotL_in h hn
  unfold rotL in64 at *
  rw [hw, bits_or_comm, e]
  rw [e] at hr
  rw [bits_or_add _ _ _ (Int.ediv_nonneg h.1 (Int.le_of_lt hpos2)) ?_ (Int.emod_nonneg _ (Int.ne_of_gt hpos2)) ?_]
  · omega
  · exact Int.ediv_lt_of_lt_mul hpos2 (by rw [Int.mul_comm, ← hp]; omega)
  · omega
set_option maxRecDepth 100000 in
set_option maxHeartbeats 4000000 in
theorem rot_raw (x : Int) (n : Nat) (hn : n < 64) (ha : bits .and .u64 (n : Int) 63 = (n : Int)) (r : Int) (hr : bits .or .u64 (IntKind.u64.wrap (x * 2 ^ n)) (x / 2 ^ (64 - n)) = r) :
    Pure Try.prog 134 #[.int .u64 x, .int .i64 (n : Int)] (.int .u64 r) := fun w => by
  have h0 : (0 : Int) ≤ (n : Int) := by omega
  have h1 : (n : Int) ≤ 64 := by omega
  have h3 : IntKind.u64.wrap (64 - (n : Int)) = ((64 - n : Nat) : Int) := by simp [IntKind.wrap, IntKind.bits, IntKind.signed]; omega
  have h4 : ((64 - n : Nat) : Int) ≤ 64 := by omega
  go_enter Try.func134, Try.ntmps134
  go_wp2_with fail
  go_ret
  exact ⟨rfl, Kept.refl w⟩
theorem and_63 : ∀ n : Nat, n < 64 → bits .and .u64 (n : Int) 63 = (n : Int) := by decide +kernel
/-- bits.RotateLeft64 -/
theorem k_rot {x : Int} (h : in64 x) {n : Nat} (hn : n < 64) : Pure Try.prog 134 #[.int .u64 x, .int .i64 (n : Int)] (.int .u64 (rotL x n)) :=
  rot_raw x n hn (and_63 n hn) _ (rot_or h hn)
end Go.Proofs.Ytnajihlhcdedgaa

namespace Go.Proofs.Ytnajihlhcdedgaa
open Go.RowKit
set_option linter.unusedVariables false
set_option linter.unusedSimpArgs false
theorem bits_in (op : BinOp) (x y : Int) : in64 (bits op .u64 x y) := by
  unfold in64 bits IntKind.wrap
  simp only [IntKind.bits, IntKind.signed]
  simp
  omega
theorem rem5 (i : Nat) : (i : Int).tmod 5 = ((i % 5 : Nat) : Int) := by
  rw [Int.tmod_eq_emod_of_nonneg (by omega)]; omega
theorem quo5 (i : Nat) : (i : Int).tdiv 5 = ((i / 5 : Nat) : Int) := by
  rw [Int.tdiv_eq_ediv_of_nonneg (by omega)]; omega
/-- The sum of column c over the first i lanes. -/
def sumTo (s : Nat → Int) : Nat → Nat → Int
  | 0, _ => 0
  | i + 1, c => if c = i % 5 then bits .xor .u64 (sumTo s i c) (s i) else sumTo s i c
theorem sumTo_in {s : Nat → Int} (i c : Nat) : in64 (sumTo s i c) := by
  induction i with
  | zero => unfold sumTo in64; omega
  | succ i ih => unfold sumTo; split; exact bits_in _ _ _; exact ih
/-- What mix makes of the lanes. -/
def kmix (s : Nat → Int) (i : Nat) : Int := bits .xor .u64 (s i) (bits .xor .u64 (sumTo s 25 ((i + 4) % 5)) (rotL (sumTo s 25 ((i + 1) % 5)) 1))
set_option maxRecDepth 100000 in
set_option maxHeartbeats 4000000 in
theorem k_mix (w : World) (b n : Nat) (t : TypeId) (s : Nat → Int) (f : Nat → Value) (hn : 25 ≤ n) (hB : Blk w b t (rowF n (lanes s f))) :
    Calls Try.prog 122 #[.pointer (some ⟨b, 0, none⟩)] w fun e w' => e = .returned (.tuple #[]) ∧ Touch b w w' ∧ Blk w' b t (rowF n (lanes (kmix s) f)) := by
  go_enter Try.func122, Try.ntmps122
  obtain ⟨g, hg⟩ : ∃ g, w.heap.size = g := ⟨_, rfl⟩
  have hbg : b ≠ g := by have := hB.lt; omega
  have hgb : g ≠ b := hbg.symm
  go_wp2_with fail
  try simp only [hg]
  refine abs_world (fun W => Touch b w W ∧ Blk W b t (rowF n (lanes s f)) ∧ Blk W g 153 (rowF 5 (fun c => .int .u64 (sumTo s 0 c)))) ?_ ?_
  · exact ⟨Touch.alloc _ _ _, hB.alloc _, by rw [← hg]; exact Blk.new _ _ _⟩
  rintro W1 ⟨k1, Bb1, Bg1⟩
  go_loopw [7] (fun t' wr => ∃ i : Nat, i ≤ 25 ∧ t' = .int .i64 i ∧ Touch b w wr ∧ Blk wr b t (rowF n (lanes s f)) ∧ Blk wr g 153 (rowF 5 (fun c => .int .u64 (sumTo s i c)))) (fun t' _ => 25 - (intOf t').toNat)
  case atStart => exact ⟨0, Nat.zero_le _, rfl, k1, Bb1, Bg1⟩
  case round =>
    clear k1 Bb1 Bg1
    obtain ⟨i, hi, rfl, kr, Bb, Bg⟩ := hrel
    have hi0 : (0 : Int) ≤ (i : Int) := by omega
    rcases Nat.lt_or_ge i 25 with hlt | hge
    · have hi2 : (i : Int) < 25 := by omega
      have c0 := Bb.lane hn hlt
      go_upto_region 3 with (fail)
      refine wp_region_calm 6 (by kernel_rfl) (by kernel_rfl) ?_
      simp only [List.take_succ_cons, List.take_zero, List.drop_succ_cons, List.drop_zero]
      repeat (first
        | (refine calm_skip rfl ?_; simp only [Act.put, List.setIfInBounds_toArray, List.set_cons_zero, List.set_cons_succ])
        | (refine calm_ex rfl ?_; apply Exists.intro; refine And.intro (fun w' hk => ?_) ?_; (focus (have q0 := hk.cell c0; clear hk; go_simp; exact rfl)); simp only [Act.put, List.setIfInBounds_toArray, List.set_cons_zero, List.set_cons_succ]))
      refine calm_nil ?_
      intro W2 hkW2
      have k2 := kr.later hkW2
      have Bb2 := Bb.kept hkW2
      have Bg2 := Bg.kept hkW2
      clear hkW2 c0 kr Bb Bg
      obtain ⟨m, hm, hm5⟩ : ∃ m, i % 5 = m ∧ m < 5 := ⟨_, rfl, by omega⟩
      have c1 := Bg2.at (i := m) hm5
      have f1 := Bg2.free
      have e1 : (i : Int).tmod 5 = (m : Int) := by rw [rem5, hm]
      have e1' : (i : Int) % 5 = (m : Int) := by omega
      have hm0 : (0 : Int) ≤ (m : Int) := by omega
      have hm2 : (m : Int) < 5 := by omega
      go_wp2_with fail
      go_roundw
      case rel => 
        refine ⟨i + 1, by omega, by go_num, k2.own (by omega) (Touch.set _ _ _ _), Bb2.set_other hgb _, Bg2.set hm5 fun j hj => ?_⟩
        simp only [sumTo, hm]
        split <;> simp [*]
      case measure => simp [intOf]; omega
    · have hi2 : (25 : Int) ≤ (i : Int) := by omega
      obtain rfl : i = 25 := by omega
      go_wp2_with fail
      have z0 : ∀ j, j < 25 → s j = (fun j => if j < 0 then kmix s j else s j) j := fun j hj => rfl
      go_loopw [21] (fun t' wr => ∃ i : Nat, i ≤ 25 ∧ t' = .int .i64 i ∧ Touch b w wr ∧ Blk wr b t (rowF n (lanes (fun j => if j < i then kmix s j else s j) f)) ∧ Blk wr g 153 (rowF 5 (fun c => .int .u64 (sumTo s 25 c)))) (fun t' _ => 25 - (intOf t').toNat)
      case atStart => exact ⟨0, Nat.zero_le _, rfl, kr, by rw [← lanes_congr z0]; exact Bb, Bg⟩
      case round =>
        clear kr Bb Bg
        rename_i wr
        obtain ⟨i, hi, rfl, kr, Bb, Bg⟩ := hrel
        have hi0 : (0 : Int) ≤ (i : Int) := by omega
        rcases Nat.lt_or_ge i 25 with hlt | hge
        · have hi2 : (i : Int) < 25 := by omega
          have c0 := Bb.lane hn hlt
          rw [if_neg (Nat.lt_irrefl _)] at c0
          obtain ⟨m, hm, hm5⟩ : ∃ m, (i + 4) % 5 = m ∧ m < 5 := ⟨_, rfl, by omega⟩
          obtain ⟨o, ho, ho5⟩ : ∃ o, (i + 1) % 5 = o ∧ o < 5 := ⟨_, rfl, by omega⟩
          have c1 := Bg.at (i := m) hm5
          have c2 := Bg.at (i := o) ho5
          have HRot := Lib.hid (k_rot (sumTo_in (s := s) 25 o) (n := 1) (by omega))
          have HM : Hid (kmix s i = bits .xor .u64 (s i) (bits .xor .u64 (sumTo s 25 m) (rotL (sumTo s 25 o) 1))) := Lib.hid (by unfold kmix; rw [hm, ho])
          generalize sumTo s 25 m = x1 at c1 HM
          generalize hx2 : sumTo s 25 o = x2 at c2 HM HRot
          generalize rotL x2 1 = x3 at HM HRot
          generalize hx0 : s i = x0 at c0 HM
          have w1 : IntKind.i64.wrap ((i : Int) + 4) = (i : Int) + 4 := IntWalk.i64_in _ (by omega)
          have w2 : IntKind.i64.wrap ((i : Int) + 1) = (i : Int) + 1 := IntWalk.i64_in _ (by omega)
          have e1 : ((i : Int) + 4).tmod 5 = (m : Int) := by have := rem5 (i + 4); rw [hm] at this; simpa using this
          have e2 : ((i : Int) + 1).tmod 5 = (o : Int) := by have := rem5 (i + 1); rw [ho] at this; simpa using this
          have e1' : ((i : Int) + 4) % 5 = (m : Int) := by omega
          have e2' : ((i : Int) + 1) % 5 = (o : Int) := by omega
          have hm0 : (0 : Int) ≤ (m : Int) := by omega
          have hm2 : (m : Int) < 5 := by omega
          have ho0 : (0 : Int) ≤ (o : Int) := by omega
          have ho2 : (o : Int) < 5 := by omega
          go_upto_region 9 with (fail)
          refine wp_region_calm 20 (by kernel_rfl) (by kernel_rfl) ?_
          simp only [List.take_succ_cons, List.take_zero, List.drop_succ_cons, List.drop_zero]
          repeat (first
            | (refine calm_skip rfl ?_; simp only [Act.put, List.setIfInBounds_toArray, List.set_cons_zero, List.set_cons_succ])
            | (refine calm_ex rfl ?_; apply Exists.intro; refine And.intro (fun w' hk => ?_) ?_; (focus (have q0 := hk.cell c0; have q1 := hk.cell c1; have q2 := hk.cell c2; clear hk; go_simp; exact rfl)); simp only [Act.put, List.setIfInBounds_toArray, List.set_cons_zero, List.set_cons_succ])
            | (refine calm_step _ rfl (HRot.out.call ?_) ?_; (focus (intro w'; go_simp; done)); simp only [Act.put, List.setIfInBounds_toArray, List.set_cons_zero, List.set_cons_succ]))
          refine calm_nil ?_
          intro W2 hkW2
          have k2 := kr.later hkW2
          have Bb2 := Bb.kept hkW2
          have Bg2 := Bg.kept hkW2
          have c9 := hkW2.cell c0
          have f2 := Bb2.free
          clear hkW2 c0 c1 c2 kr Bb Bg
          go_wp2_with fail
          go_roundw
          case rel =>
            refine ⟨i + 1, by omega, by go_num, k2.trans (Touch.set _ _ _ _), Bb2.setLane hn hlt fun j hj => ?_, Bg2.set_other hbg _⟩
            by_cases hji : j = i
            · subst hji; rw [if_pos (by omega), if_pos rfl, HM.out]
            · rw [if_neg hji]
              by_cases hjl : j < i
              · rw [if_pos (by omega), if_pos hjl]
              · rw [if_neg (by omega), if_neg hjl]
          case measure => simp [intOf]; omega
        · have hi2 : (25 : Int) ≤ (i : Int) := by omega
          obtain rfl : i = 25 := by omega
          go_wp2_with fail
          refine bodyPost_end (v := .tuple #[]) (by simp [results, Try.results122, go_sem]) rfl ⟨rfl, kr, ?_⟩
          rw [lanes_congr (s := kmix s) (s' := fun j => if j < 25 then kmix s j else s j) fun j hj => by rw [if_pos hj]]
          exact Bb
end Go.Proofs.Ytnajihlhcdedgaa

namespace Go.Proofs.Ytnajihlhcdedgaa
open Go.RowKit
set_option linter.unusedVariables false
set_option linter.unusedSimpArgs false
/-- By how much each lane is turned. -/
def turnL : List Nat := [0, 1, 62, 28, 27, 36, 44, 6, 55, 20, 3, 10, 43, 25, 39, 41, 45, 15, 21, 8, 18, 2, 61, 56, 14]
def turnN (i : Nat) : Nat := turnL.getD i 0
theorem turnN_lt : ∀ i, i < 25 → turnN i < 64 := by decide
theorem size155 : (Try.prog.info? 155).map (·.size) = some 25 := by kernel_rfl
theorem size61 : (Try.prog.info? 61).map (·.size) = some 25 := by kernel_rfl
theorem size134 : (Try.prog.info? 134).map (·.size) = some 12 := by kernel_rfl
set_option maxRecDepth 100000 in
set_option maxHeartbeats 4000000 in
theorem k_turns : Pure Try.prog 135 #[] (.agg (rowF 25 (fun i => .int .i64 (turnN i)))) := fun w => by
  have hb : Try.prog.built 155 [(0, Value.int .i64 0), (1, Value.int .i64 1), (2, Value.int .i64 62), (3, Value.int .i64 28), (4, Value.int .i64 27), (5, Value.int .i64 36), (6, Value.int .i64 44), (7, Value.int .i64 6), (8, Value.int .i64 55), (9, Value.int .i64 20), (10, Value.int .i64 3), (11, Value.int .i64 10), (12, Value.int .i64 43), (13, Value.int .i64 25), (14, Value.int .i64 39), (15, Value.int .i64 41), (16, Value.int .i64 45), (17, Value.int .i64 15), (18, Value.int .i64 21), (19, Value.int .i64 8), (20, Value.int .i64 18), (21, Value.int .i64 2), (22, Value.int .i64 61), (23, Value.int .i64 56), (24, Value.int .i64 14)] = some (rowF 25 (fun i => .int .i64 (turnN i))) := by kernel_rfl
  go_enter Try.func135, Try.ntmps135
  go_upto_region 1 with (fail)
  refine abs_world (fun W => Kept w W ∧ Blk W w.heap.size 155 (rowF 25 (fun i => .int .i64 0))) ?_ ?_
  · exact ⟨(Kept.refl w).alloc _, Blk.new _ _ _⟩
  rintro W1 ⟨k1, B1⟩
  go_wp2_with (first | (refine wpList_build rfl 155 _ rfl (by simp only [Act.eval]; exact congrArg Option.isSome hb) ?_; simp only [show (Try.prog.built 155 _) = _ from hb, Option.getD_some]) | (refine wpList_store_part (h' := fun i => .int .i64 (turnN i)) 155 (.tmp 0) (.tmp 1) B1 (Nat.le_refl _) size155 (fun _ => rfl) rfl rfl rfl rfl ?_))
  refine ret_blk rfl (B1.setRow _) Try.underlying155 (by rw [rowF_size]; exact size155) rfl rfl (And.intro ?_ (k1.setRow (Nat.le_refl _) _))
  rw [rowF_congr (g := fun i => Value.int .i64 (turnN i)) fun j hj => by rw [if_pos hj]]
/-- What is added in each round. -/
def conL : List Int := [2147516555, 9223372036854775947, 9223372036854808713, 9223372036854808579, 9223372036854808578, 9223372036854775936, 32778, 9223372039002259466, 9223372039002292353, 9223372036854808704, 2147483649, 9223372039002292232]
def conN (i : Nat) : Int := conL.getD i 0
set_option maxRecDepth 100000 in
set_option maxHeartbeats 4000000 in
theorem k_cons : Pure Try.prog 121 #[] (.agg (rowF 12 (fun i => .int .u64 (conN i)))) := fun w => by
  have hb : Try.prog.built 134 [(0, Value.int .u64 2147516555), (1, Value.int .u64 9223372036854775947), (2, Value.int .u64 9223372036854808713), (3, Value.int .u64 9223372036854808579), (4, Value.int .u64 9223372036854808578), (5, Value.int .u64 9223372036854775936), (6, Value.int .u64 32778), (7, Value.int .u64 9223372039002259466), (8, Value.int .u64 9223372039002292353), (9, Value.int .u64 9223372036854808704), (10, Value.int .u64 2147483649), (11, Value.int .u64 9223372039002292232)] = some (rowF 12 (fun i => .int .u64 (conN i))) := by kernel_rfl
  go_enter Try.func121, Try.ntmps121
  go_upto_region 1 with (fail)
  refine abs_world (fun W => Kept w W ∧ Blk W w.heap.size 134 (rowF 12 (fun i => .int .u64 0))) ?_ ?_
  · exact ⟨(Kept.refl w).alloc _, Blk.new _ _ _⟩
  rintro W1 ⟨k1, B1⟩
  go_wp2_with (first | (refine wpList_build rfl 134 _ rfl (by simp only [Act.eval]; exact congrArg Option.isSome hb) ?_; simp only [show (Try.prog.built 134 _) = _ from hb, Option.getD_some]) | (refine wpList_store_part (h' := fun i => .int .u64 (conN i)) 134 (.tmp 0) (.tmp 1) B1 (Nat.le_refl _) size134 (fun _ => rfl) rfl rfl rfl rfl ?_))
  refine ret_blk rfl (B1.setRow _) Try.underlying134 (by rw [rowF_size]; exact size134) rfl rfl (And.intro ?_ (k1.setRow (Nat.le_refl _) _))
  rw [rowF_congr (g := fun i => Value.int .u64 (conN i)) fun j hj => by rw [if_pos hj]]
end Go.Proofs.Ytnajihlhcdedgaa

namespace Go.Proofs.Ytnajihlhcdedgaa
open Go.RowKit
set_option linter.unusedVariables false
set_option linter.unusedSimpArgs false
/-- Where lane i goes. -/
def place (i : Nat) : Nat := i / 5 + 5 * ((2 * (i % 5) + 3 * (i / 5)) % 5)
/-- Whence lane j came. -/
def source (j : Nat) : Nat := 5 * (j % 5) + (j / 5 + 2 * (j % 5)) * 3 % 5
theorem source_place : ∀ j, j < 25 → ∀ i, i < 25 → (j = place i ↔ source j = i) := by decide +kernel
theorem place_lt : ∀ i, i < 25 → place i < 25 := by decide
theorem source_lt : ∀ i, i < 25 → source i < 25 := by decide
/-- What move makes of the lanes. -/
def kmove (s : Nat → Int) (j : Nat) : Int := rotL (s (source j)) (turnN (source j))
set_option maxRecDepth 100000 in
set_option maxHeartbeats 4000000 in
theorem k_move (w : World) (b n : Nat) (t : TypeId) (s : Nat → Int) (f : Nat → Value) (hn : 25 ≤ n) (hs : Hid (∀ i, i < 25 → in64 (s i))) (hB : Blk w b t (rowF n (lanes s f))) :
    Calls Try.prog 123 #[.pointer (some ⟨b, 0, none⟩)] w fun e w' => e = .returned (.tuple #[]) ∧ Touch b w w' ∧ Blk w' b t (rowF n (lanes (kmove s) f)) := by
  have HT := Lib.hid k_turns
  go_enter Try.func123, Try.ntmps123
  go_wp2_with fail
  refine (HT.out _).mono ?_
  rintro e W0 ⟨rfl, hk0⟩
  have Bb0 := hB.kept hk0
  clear hB
  have h0 : w.heap.size ≤ W0.heap.size := hk0.size
  obtain ⟨h, hh⟩ : ∃ h, W0.heap.size = h := ⟨_, rfl⟩
  have hbh : b ≠ h := by have := Bb0.lt; omega
  have hhb : h ≠ b := hbh.symm
  go_upto_region 1 with (first | (refine abs_world (fun W => Kept w W ∧ Blk W b t (rowF n (lanes s f)) ∧ Blk W h 155 (rowF 25 (fun i => .int .i64 0))) ⟨hk0.alloc _, Bb0.alloc _, by rw [← hh]; exact Blk.new _ _ _⟩ ?_; rintro W1 ⟨k1, Bb1, Bh1⟩; try simp only [hh]) | (refine wpList_store_part (h' := fun i => .int .i64 (turnN i)) 155 (.tmp 2) (.tmp 8) Bh1 (Nat.le_refl _) size155 (fun _ => rfl) rfl rfl rfl rfl ?_))
  refine abs_world (fun W => Kept w W ∧ Blk W b t (rowF n (lanes s f)) ∧ Blk W h 155 (rowF 25 (fun i => .int .i64 (turnN i)))) ⟨k1.setRow (by omega) _, Bb1.setRow_other hhb _, ?_⟩ ?_
  · have := Bh1.setRow (rowF 25 (fun i => if i < 25 then Value.int .i64 (turnN i) else .int .i64 0))
    rw [rowF_congr (g := fun i => Value.int .i64 (turnN i)) fun j hj => by rw [if_pos hj]] at this
    exact this
  rintro W2 ⟨k2, Bb2, Bh2⟩
  clear k1 Bb1 Bh1 Bb0 hk0 hh h0
  obtain ⟨g, hg⟩ : ∃ g, W2.heap.size = g := ⟨_, rfl⟩
  have hbg : b ≠ g := by have := Bb2.lt; omega
  have hgb : g ≠ b := hbg.symm
  have hhg : h ≠ g := by have := Bh2.lt; omega
  have hgh : g ≠ h := hhg.symm
  have hwg : w.heap.size ≤ g := hg ▸ k2.size
  go_upto_region 2 with (fail)
  refine abs_world (fun W => Kept w W ∧ Blk W b t (rowF n (lanes s f)) ∧ Blk W h 155 (rowF 25 (fun i => .int .i64 (turnN i))) ∧ Blk W g 61 (rowF 25 (fun _ => .int .u64 0))) ⟨k2.alloc _, Bb2.alloc _, Bh2.alloc _, by rw [← hg]; exact Blk.new _ _ _⟩ ?_
  rintro W3 ⟨k3, Bb3, Bh3, Bg3⟩
  try simp only [hg]
  clear k2 Bb2 Bh2
  go_wp2_with fail
  go_loopw [10] (fun t' wr => ∃ i : Nat, i ≤ 25 ∧ t' = .int .i64 i ∧ Kept w wr ∧ Blk wr b t (rowF n (lanes s f)) ∧ Blk wr h 155 (rowF 25 (fun i => .int .i64 (turnN i))) ∧ Blk wr g 61 (rowF 25 (fun j => .int .u64 (if source j < i then kmove s j else 0)))) (fun t' _ => 25 - (intOf t').toNat)
  case atStart => exact ⟨0, Nat.zero_le _, rfl, k3, Bb3, Bh3, by rw [rowF_congr (g := fun _ => Value.int .u64 0) fun j hj => by rw [if_neg (Nat.not_lt_zero _)]]; exact Bg3⟩
  case round =>
    clear k3 Bb3 Bh3 Bg3
    obtain ⟨i, hi, rfl, kr, Bb, Bh, Bg⟩ := hrel
    have hi0 : (0 : Int) ≤ (i : Int) := by omega
    rcases Nat.lt_or_ge i 25 with hlt | hge
    · have hi2 : (i : Int) < 25 := by omega
      have c0 := Bb.lane hn hlt
      go_upto_region 4 with (fail)
      refine wp_region_calm 6 (by kernel_rfl) (by kernel_rfl) ?_
      simp only [List.take_succ_cons, List.take_zero, List.drop_succ_cons, List.drop_zero]
      repeat (first
        | (refine calm_skip rfl ?_; simp only [Act.put, List.setIfInBounds_toArray, List.set_cons_zero, List.set_cons_succ])
        | (refine calm_ex rfl ?_; apply Exists.intro; refine And.intro (fun w' hk => ?_) ?_; (focus (have q0 := hk.cell c0; clear hk; go_simp; exact rfl)); simp only [Act.put, List.setIfInBounds_toArray, List.set_cons_zero, List.set_cons_succ]))
      refine calm_nil ?_
      intro W4 hkW4
      have k4 := kr.trans hkW4
      have Bb4 := Bb.kept hkW4
      have Bh4 := Bh.kept hkW4
      have Bg4 := Bg.kept hkW4
      clear hkW4 c0 kr Bb Bg Bh
      have c1 := Bh4.at hlt
      obtain ⟨p, hp⟩ : ∃ p, place i = p := ⟨_, rfl⟩
      have hp25 : p < 25 := hp ▸ place_lt i hlt
      have c2 := Bg4.at (i := p) hp25
      have f2 := Bg4.free
      have HRot := Lib.hid (k_rot (hs.out i hlt) (turnN_lt i hlt))
      have HM : Hid (∀ j, j < 25 → (if source j < i + 1 then kmove s j else 0) = if j = p then rotL (s i) (turnN i) else if source j < i then kmove s j else 0) := Lib.hid (by
        intro j hj
        have hsp := source_place j hj i hlt
        rw [hp] at hsp
        by_cases hjp : j = p
        · have hsi := hsp.1 hjp
          rw [if_pos (by omega), if_pos hjp]
          unfold kmove
          rw [hsi]
        · have hsi : source j ≠ i := fun e => hjp (hsp.2 e)
          rw [if_neg hjp]
          by_cases hsl : source j < i
          · rw [if_pos (by omega), if_pos hsl]
          · rw [if_neg (by omega), if_neg hsl])
      generalize hx0 : s i = x0 at HRot HM
      generalize hT : turnN i = T at c1 HRot HM
      generalize rotL x0 T = x1 at HRot HM
      clear hT
      obtain ⟨m, hm, hm5⟩ : ∃ m, i % 5 = m ∧ m < 5 := ⟨_, rfl, by omega⟩
      obtain ⟨q, hq, hq5⟩ : ∃ q, i / 5 = q ∧ q < 5 := ⟨_, rfl, by omega⟩
      obtain ⟨r, hr, hr5⟩ : ∃ r, (2 * m + 3 * q) % 5 = r ∧ r < 5 := ⟨_, rfl, by omega⟩
      have hp' : q + 5 * r = p := by rw [← hp]; unfold place; rw [hm, hq, hr]
      have e1 : (i : Int).tmod 5 = (m : Int) := by rw [rem5, hm]
      have e1' : (i : Int) % 5 = (m : Int) := by omega
      have e2 : (i : Int).tdiv 5 = (q : Int) := by rw [quo5, hq]
      have e2' : (i : Int) / 5 = (q : Int) := by omega
      have e3 : (2 * (m : Int) + 3 * (q : Int)).tmod 5 = (r : Int) := by have := rem5 (2 * m + 3 * q); rw [hr] at this; simpa using this
      have e3' : (2 * (m : Int) + 3 * (q : Int)) % 5 = (r : Int) := by omega
      have e4 : (q : Int) + 5 * (r : Int) = (p : Int) := by omega
      have b1 : (0 : Int) ≤ (m : Int) := by omega
      have b2 : (m : Int) < 5 := by omega
      have b3 : (0 : Int) ≤ (q : Int) := by omega
      have b4 : (q : Int) < 5 := by omega
      have b5 : (0 : Int) ≤ (r : Int) := by omega
      have b6 : (r : Int) < 5 := by omega
      have b7 : (0 : Int) ≤ (p : Int) := by omega
      have b8 : (p : Int) < 25 := by omega
      have w1 : IntKind.i64.wrap (2 * (m : Int)) = 2 * (m : Int) := IntWalk.i64_in _ (by omega)
      have w2 : IntKind.i64.wrap (3 * (q : Int)) = 3 * (q : Int) := IntWalk.i64_in _ (by omega)
      have w3 : IntKind.i64.wrap (2 * (m : Int) + 3 * (q : Int)) = 2 * (m : Int) + 3 * (q : Int) := IntWalk.i64_in _ (by omega)
      have w4 : IntKind.i64.wrap (5 * (r : Int)) = 5 * (r : Int) := IntWalk.i64_in _ (by omega)
      have w5 : IntKind.i64.wrap ((q : Int) + 5 * (r : Int)) = (p : Int) := by rw [e4]; exact IntWalk.i64_in _ (by omega)
      have w6 : IntKind.i64.wrap (p : Int) = (p : Int) := IntWalk.i64_in _ (by omega)
      clear hp hm hq hr hp'
      go_wp2_with fail
      refine (HRot.out _).mono ?_
      rintro e W5 ⟨rfl, hk5⟩
      have k5 := k4.trans hk5
      have Bb5 := Bb4.kept hk5
      have Bh5 := Bh4.kept hk5
      have Bg5 := Bg4.kept hk5
      clear c1 c2 f2 k4 Bb4 Bh4 Bg4 hk5
      have c2 := Bg5.at (i := p) hp25
      have f2 := Bg5.free
      go_wp2_with fail
      go_roundw
      case rel =>
        refine ⟨i + 1, by omega, by go_num, k5.setCell (by exact hwg) _, Bb5.set_other hgb _, Bh5.set_other hgh _, Bg5.set hp25 fun j hj => ?_⟩
        rw [HM.out j hj]
        split <;> rfl
      case measure => simp [intOf]; omega
    · have hi2 : (25 : Int) ≤ (i : Int) := by omega
      obtain rfl : i = 25 := by omega
      rw [rowF_congr (g := fun j => Value.int .u64 (kmove s j)) fun j hj => by rw [if_pos (source_lt j hj)]] at Bg
      go_wp2_with (first | (refine wpList_load_part 61 (.tmp 3) Bg (Nat.le_refl _) Try.underlying61 size61 rfl rfl rfl ?_) | (refine wpList_store_part (h' := fun j => .int .u64 (kmove s j)) 61 (.tmp 38) (.tmp 37) Bb hn size61 (fun _ => rfl) rfl rfl rfl rfl ?_))
      refine bodyPost_end (v := .tuple #[]) (by simp [results, Try.results123, go_sem]) rfl ⟨rfl, (Touch.of_kept kr).trans (Touch.setRow _ _ _), ?_⟩
      rw [lanes_part]
      exact Bb.setRow _
/-- What bend makes of the lanes. -/
def kbend (s : Nat → Int) (i : Nat) : Int := bits .xor .u64 (s i) (bits .and .u64 (bits .xor .u64 18446744073709551615 (s (i / 5 * 5 + (i + 1) % 5))) (s (i / 5 * 5 + (i + 2) % 5)))
set_option maxRecDepth 100000 in
set_option maxHeartbeats 4000000 in
theorem k_bend (w : World) (b n : Nat) (t : TypeId) (s : Nat → Int) (f : Nat → Value) (hn : 25 ≤ n) (hB : Blk w b t (rowF n (lanes s f))) :
    Calls Try.prog 124 #[.pointer (some ⟨b, 0, none⟩)] w fun e w' => e = .returned (.tuple #[]) ∧ Touch b w w' ∧ Blk w' b t (rowF n (lanes (kbend s) f)) := by
  go_enter Try.func124, Try.ntmps124
  obtain ⟨g, hg⟩ : ∃ g, w.heap.size = g := ⟨_, rfl⟩
  have hbg : b ≠ g := by have := hB.lt; omega
  have hgb : g ≠ b := hbg.symm
  have hwg : w.heap.size ≤ g := by omega
  go_upto_region 1 with (fail)
  refine abs_world (fun W => Kept w W ∧ Blk W b t (rowF n (lanes s f)) ∧ Blk W g 61 (rowF 25 (fun _ => .int .u64 0))) ⟨(Kept.refl w).alloc _, hB.alloc _, by rw [← hg]; exact Blk.new _ _ _⟩ ?_
  rintro W3 ⟨k3, Bb3, Bg3⟩
  try simp only [hg]
  go_wp2_with fail
  go_loopw [7] (fun t' wr => ∃ i : Nat, i ≤ 25 ∧ t' = .int .i64 i ∧ Kept w wr ∧ Blk wr b t (rowF n (lanes s f)) ∧ Blk wr g 61 (rowF 25 (fun j => .int .u64 (if j < i then kbend s j else 0)))) (fun t' _ => 25 - (intOf t').toNat)
  case atStart => exact ⟨0, Nat.zero_le _, rfl, k3, Bb3, by rw [rowF_congr (g := fun _ => Value.int .u64 0) fun j hj => by rw [if_neg (Nat.not_lt_zero _)]]; exact Bg3⟩
  case round =>
    clear k3 Bb3 Bg3 hB
    obtain ⟨i, hi, rfl, kr, Bb, Bg⟩ := hrel
    have hi0 : (0 : Int) ≤ (i : Int) := by omega
    rcases Nat.lt_or_ge i 25 with hlt | hge
    · have hi2 : (i : Int) < 25 := by omega
      have c0 := Bb.lane hn hlt
      go_upto_region 3 with (fail)
      refine wp_region_calm 6 (by kernel_rfl) (by kernel_rfl) ?_
      simp only [List.take_succ_cons, List.take_zero, List.drop_succ_cons, List.drop_zero]
      repeat (first
        | (refine calm_skip rfl ?_; simp only [Act.put, List.setIfInBounds_toArray, List.set_cons_zero, List.set_cons_succ])
        | (refine calm_ex rfl ?_; apply Exists.intro; refine And.intro (fun w' hk => ?_) ?_; (focus (have q0 := hk.cell c0; clear hk; go_simp; exact rfl)); simp only [Act.put, List.setIfInBounds_toArray, List.set_cons_zero, List.set_cons_succ]))
      refine calm_nil ?_
      intro W4 hkW4
      have k4 := kr.trans hkW4
      have Bb4 := Bb.kept hkW4
      have Bg4 := Bg.kept hkW4
      clear hkW4 c0 kr Bb Bg
      obtain ⟨q, hq, hq5⟩ : ∃ q, i / 5 = q ∧ q < 5 := ⟨_, rfl, by omega⟩
      obtain ⟨m1, hm1, hm15⟩ : ∃ m, (i + 1) % 5 = m ∧ m < 5 := ⟨_, rfl, by omega⟩
      obtain ⟨m2, hm2, hm25⟩ : ∃ m, (i + 2) % 5 = m ∧ m < 5 := ⟨_, rfl, by omega⟩
      obtain ⟨p1, hp1, hp15⟩ : ∃ p, q * 5 + m1 = p ∧ p < 25 := ⟨_, rfl, by omega⟩
      obtain ⟨p2, hp2, hp25⟩ : ∃ p, q * 5 + m2 = p ∧ p < 25 := ⟨_, rfl, by omega⟩
      have c1 := Bb4.lane hn hp15
      have c2 := Bb4.lane hn hp25
      have c3 := Bg4.at hlt
      have f3 := Bg4.free
      have HM : Hid (kbend s i = bits .xor .u64 (s i) (bits .and .u64 (bits .xor .u64 18446744073709551615 (s p1)) (s p2))) := Lib.hid (by unfold kbend; rw [hq, hm1, hm2, hp1, hp2])
      generalize s i = x0 at HM ⊢
      generalize s p1 = x1 at HM c1
      generalize s p2 = x2 at HM c2
      have e2 : (i : Int).tdiv 5 = (q : Int) := by rw [quo5, hq]
      have e2' : (i : Int) / 5 = (q : Int) := by omega
      have w1 : IntKind.i64.wrap ((q : Int) * 5) = (q : Int) * 5 := IntWalk.i64_in _ (by omega)
      have w2 : IntKind.i64.wrap ((i : Int) + 1) = (i : Int) + 1 := IntWalk.i64_in _ (by omega)
      have w3 : IntKind.i64.wrap ((i : Int) + 2) = (i : Int) + 2 := IntWalk.i64_in _ (by omega)
      have e3 : ((i : Int) + 1).tmod 5 = (m1 : Int) := by have := rem5 (i + 1); rw [hm1] at this; simpa using this
      have e4 : ((i : Int) + 2).tmod 5 = (m2 : Int) := by have := rem5 (i + 2); rw [hm2] at this; simpa using this
      have e3' : ((i : Int) + 1) % 5 = (m1 : Int) := by omega
      have e4' : ((i : Int) + 2) % 5 = (m2 : Int) := by omega
      have e5 : (q : Int) * 5 + (m1 : Int) = (p1 : Int) := by omega
      have e6 : (q : Int) * 5 + (m2 : Int) = (p2 : Int) := by omega
      have w5 : IntKind.i64.wrap (p1 : Int) = (p1 : Int) := IntWalk.i64_in _ (by omega)
      have w6 : IntKind.i64.wrap (p2 : Int) = (p2 : Int) := IntWalk.i64_in _ (by omega)
      have b1 : (0 : Int) ≤ (p1 : Int) := by omega
      have b2 : (p1 : Int) < 25 := by omega
      have b3 : (0 : Int) ≤ (p2 : Int) := by omega
      have b4 : (p2 : Int) < 25 := by omega
      have b5 : (q : Int) < 5 := by omega
      have b6 : (0 : Int) ≤ (q : Int) := by omega
      clear hq hm1 hm2 hp1 hp2
      go_upto_region 5 with (fail)
      refine wp_region_calm 24 (by kernel_rfl) (by kernel_rfl) ?_
      simp only [List.take_succ_cons, List.take_zero, List.drop_succ_cons, List.drop_zero]
      repeat (first
        | (refine calm_skip rfl ?_; simp only [Act.put, List.setIfInBounds_toArray, List.set_cons_zero, List.set_cons_succ])
        | (refine calm_ex rfl ?_; apply Exists.intro; refine And.intro (fun w' hk => ?_) ?_; (focus (have q0 := hk.cell c1; have q1 := hk.cell c2; clear hk; go_simp; exact rfl)); simp only [Act.put, List.setIfInBounds_toArray, List.set_cons_zero, List.set_cons_succ]))
      refine calm_nil ?_
      intro W5 hkW5
      have k5 := k4.trans hkW5
      have Bb5 := Bb4.kept hkW5
      have Bg5 := Bg4.kept hkW5
      clear hkW5 c1 c2 c3 f3 k4 Bb4 Bg4
      have c3 := Bg5.at hlt
      have f3 := Bg5.free
      go_wp2_with fail
      go_roundw
      case rel =>
        refine ⟨i + 1, by omega, by go_num, k5.setCell (by exact hwg) _, Bb5.set_other hgb _, Bg5.set hlt fun j hj => ?_⟩
        by_cases hji : j = i
        · subst hji; rw [if_pos (by omega), if_pos rfl, HM.out]; rfl
        · rw [if_neg hji]
          by_cases hjl : j < i
          · rw [if_pos (by omega), if_pos hjl]
          · rw [if_neg (by omega), if_neg hjl]
      case measure => simp [intOf]; omega
    · have hi2 : (25 : Int) ≤ (i : Int) := by omega
      obtain rfl : i = 25 := by omega
      rw [rowF_congr (g := fun j => Value.int .u64 (kbend s j)) fun j hj => by rw [if_pos hj]] at Bg
      go_wp2_with (first | (refine wpList_load_part 61 (.tmp 2) Bg (Nat.le_refl _) Try.underlying61 size61 rfl rfl rfl ?_) | (refine wpList_store_part (h' := fun j => .int .u64 (kbend s j)) 61 (.tmp 43) (.tmp 42) Bb hn size61 (fun _ => rfl) rfl rfl rfl rfl ?_))
      refine bodyPost_end (v := .tuple #[]) (by simp [results, Try.results124, go_sem]) rfl ⟨rfl, (Touch.of_kept kr).trans (Touch.setRow _ _ _), ?_⟩
      rw [lanes_part]
      exact Bb.setRow _
end Go.Proofs.Ytnajihlhcdedgaa

namespace Go.Proofs.Ytnajihlhcdedgaa
open Go.RowKit
set_option linter.unusedVariables false
set_option linter.unusedSimpArgs false
/-- A round. -/
def kround (k : Nat) (s : Nat → Int) (i : Nat) : Int := if i = 0 then bits .xor .u64 (kbend (kmove (kmix s)) 0) (conN k) else kbend (kmove (kmix s)) i
/-- The first k rounds. -/
def kperm : Nat → (Nat → Int) → Nat → Int
  | 0, s => s
  | k + 1, s => kround k (kperm k s)
theorem kmix_in (s : Nat → Int) (i : Nat) : in64 (kmix s i) := bits_in _ _ _
theorem kbend_in (s : Nat → Int) (i : Nat) : in64 (kbend s i) := bits_in _ _ _
theorem kround_in (k : Nat) (s : Nat → Int) (i : Nat) : in64 (kround k s i) := by
  unfold kround; split; exact bits_in _ _ _; exact kbend_in _ _
theorem kperm_in {s : Nat → Int} (h : ∀ i, i < 25 → in64 (s i)) (k : Nat) : ∀ i, i < 25 → in64 (kperm k s i) := by
  cases k with
  | zero => exact h
  | succ k => intro i _; exact kround_in _ _ _
theorem run_index_row134 (f : Nat → Value) {i : Nat} (hi : i < 12) {x : Int} (hx : f i = .int .u64 x) (w : World) : (Instr.index 134 (.agg (rowF 12 f)) (.int .i64 (i : Int))).run Try.prog w = .ok (.int .u64 x) w := by
  obtain ⟨j, hj⟩ := info22
  have h1 : (0 : Int) ≤ (i : Int) ∧ (i : Int) < ((12 : Nat) : Int) := by omega
  have hs : j.size = 1 := by have := cells22; unfold Program.cellsOf at this; simpa [hj] using this
  have hp := run_part_int (P := Try.prog) w Try.underlying22 (xs := rowF 12 f) (off := i) (by rw [rowF_get hi, hx])
  simp [Instr.index, run_underlying Try.underlying134, asIntOf, sizeOf, typeInfo, hj, hs, hi, hp]
set_option maxRecDepth 100000 in
set_option maxHeartbeats 4000000 in
theorem k_permute (w : World) (b n : Nat) (t : TypeId) (s : Nat → Int) (f : Nat → Value) (hn : 25 ≤ n) (hB : Blk w b t (rowF n (lanes s f))) :
    Calls Try.prog 61 #[.pointer (some ⟨b, 0, none⟩)] w fun e w' => e = .returned (.tuple #[]) ∧ Touch b w w' ∧ Blk w' b t (rowF n (lanes (kperm 12 s) f)) := by
  have HC := Lib.hid k_cons
  go_enter Try.func61, Try.ntmps61
  go_wp2_with fail
  refine (HC.out _).mono ?_
  rintro e W0 ⟨rfl, hk0⟩
  have Bb0 := hB.kept hk0
  go_wp2_with fail
  go_loopw [7] (fun t' wr => ∃ i : Nat, i ≤ 12 ∧ t' = .int .i64 i ∧ Touch b w wr ∧ Blk wr b t (rowF n (lanes (kperm i s) f))) (fun t' _ => 12 - (intOf t').toNat)
  case atStart => exact ⟨0, Nat.zero_le _, rfl, .of_kept hk0, Bb0⟩
  case round =>
    clear hk0 Bb0 hB
    obtain ⟨i, hi, rfl, kr, Bb⟩ := hrel
    have hi0 : (0 : Int) ≤ (i : Int) := by omega
    rcases Nat.lt_or_ge i 12 with hlt | hge
    · have hi2 : (i : Int) < 12 := by omega
      have hix := run_index_row134 (fun i => .int .u64 (conN i)) hlt (x := conN i) rfl
      have hper : ∀ j, kperm (i + 1) s j = kround i (kperm i s) j := fun j => rfl
      have HP := Lib.hid hper
      clear hper
      generalize kperm i s = u at HP Bb
      go_wp2_with fail
      refine (k_mix _ b n t u f hn Bb).mono ?_
      rintro e W1 ⟨rfl, k1, B1⟩
      have kr1 := kr.trans k1
      clear kr k1 Bb
      go_wp2_with fail
      refine (k_move _ b n t _ f hn (Lib.hid fun i _ => kmix_in u i) B1).mono ?_
      rintro e W2 ⟨rfl, k2, B2⟩
      have kr2 := kr1.trans k2
      clear kr1 k2 B1
      go_wp2_with fail
      refine (k_bend _ b n t _ f hn B2).mono ?_
      rintro e W3 ⟨rfl, k3, B3⟩
      have kr3 := kr2.trans k3
      clear kr2 k3 B2
      have c0 := B3.lane hn (i := 0) (by omega)
      have HK : Hid (∀ j, kround i u j = if j = 0 then bits .xor .u64 (kbend (kmove (kmix u)) 0) (conN i) else kbend (kmove (kmix u)) j) := Lib.hid fun j => rfl
      generalize kbend (kmove (kmix u)) = v at HK B3 c0
      generalize hv0 : v 0 = v0 at HK c0
      generalize conN i = cn at HK hix
      go_upto_region 7 with (fail)
      refine wp_region_calm 8 (by kernel_rfl) (by kernel_rfl) ?_
      simp only [List.take_succ_cons, List.take_zero, List.drop_succ_cons, List.drop_zero]
      repeat (first
        | (refine calm_skip rfl ?_; simp only [Act.put, List.setIfInBounds_toArray, List.set_cons_zero, List.set_cons_succ])
        | (refine calm_ex rfl ?_; apply Exists.intro; refine And.intro (fun w' hk => ?_) ?_; (focus (have q0 := hk.cell c0; clear hk; go_simp; exact rfl)); simp only [Act.put, List.setIfInBounds_toArray, List.set_cons_zero, List.set_cons_succ]))
      refine calm_nil ?_
      intro W4 hkW4
      have k4 := kr3.later hkW4
      have Bb4 := B3.kept hkW4
      clear hkW4 c0 kr3 B3
      have c0 := Bb4.lane hn (i := 0) (by omega)
      have f0 := Bb4.free
      go_wp2_with fail
      go_roundw
      case rel =>
        refine ⟨i + 1, by omega, by go_num, k4.trans (Touch.set _ _ _ _), Bb4.setLane hn (by omega) fun j hj => ?_⟩
        rw [HP.out, HK.out]
      case measure => simp [intOf]; omega
    · have hi2 : (12 : Int) ≤ (i : Int) := by omega
      obtain rfl : i = 12 := by omega
      go_wp2_with fail
      refine bodyPost_end (v := .tuple #[]) (by simp [results, Try.results61, go_sem]) rfl ⟨rfl, kr, Bb⟩
end Go.Proofs.Ytnajihlhcdedgaa

namespace Go.Proofs.Ytnajihlhcdedgaa
open Go.RowKit
set_option linter.unusedVariables false
set_option linter.unusedSimpArgs false
theorem wrap_bv (v : BitVec 64) : IntKind.u64.wrap (v.toNat : Int) = (v.toNat : Int) := by
  have := v.isLt
  simp only [IntKind.wrap, IntKind.bits, IntKind.signed]
  simp
  omega
theorem xr_bv (x y : Int) : bits .xor .u64 x y = ((BitVec.ofInt 64 x ^^^ BitVec.ofInt 64 y).toNat : Int) := wrap_bv _
theorem and_bv (x y : Int) : bits .and .u64 x y = ((BitVec.ofInt 64 x &&& BitVec.ofInt 64 y).toNat : Int) := wrap_bv _
theorem xr_zero {x : Int} (h : in64 x) : bits .xor .u64 0 x = x := by
  rw [xr_bv]
  simp
  unfold in64 at h
  omega
end Go.Proofs.Ytnajihlhcdedgaa

namespace Go.Proofs.Ytnajihlhcdedgaa
open Go.RowKit
set_option linter.unusedVariables false
set_option linter.unusedSimpArgs false
/-- What stands behind the lanes of a sponge. -/
def spF (a d : Int) (g : Bool) (i : Nat) : Value := if i = 25 then .int .i64 a else if i = 26 then .int .u8 d else if i = 27 then .bool g else undef
/-- A sponge. -/
abbrev Sp (w : World) (b : Nat) (s : Nat → Int) (a d : Int) (g : Bool) : Prop := Blk w b 139 (rowF 28 (lanes s (spF a d g)))
theorem Blk.sat {w : World} {b : Nat} {s : Nat → Int} {a d : Int} {g : Bool} (h : Sp w b s a d g) : w.cell? ⟨b, 25, none⟩ = some (.int .i64 a) := h.at (i := 25) (by omega)
theorem Blk.sdom {w : World} {b : Nat} {s : Nat → Int} {a d : Int} {g : Bool} (h : Sp w b s a d g) : w.cell? ⟨b, 26, none⟩ = some (.int .u8 d) := h.at (i := 26) (by omega)
theorem Blk.sgive {w : World} {b : Nat} {s : Nat → Int} {a d : Int} {g : Bool} (h : Sp w b s a d g) : w.cell? ⟨b, 27, none⟩ = some (.bool g) := h.at (i := 27) (by omega)
theorem Blk.setAt {w : World} {b : Nat} {s : Nat → Int} {a d : Int} {g : Bool} (h : Sp w b s a d g) (a' : Int) : Sp (w.setCell ⟨b, 25, none⟩ (.int .i64 a')) b s a' d g :=
  h.set (by omega) fun j hj => by
    by_cases h25 : j < 25
    · rw [if_neg (by omega)]; simp [lanes, h25]
    · by_cases hj : j = 25
      · subst hj; rfl
      · rw [if_neg hj]; simp [lanes, h25, spF, hj]
theorem Blk.setGive {w : World} {b : Nat} {s : Nat → Int} {a d : Int} {g : Bool} (h : Sp w b s a d g) (g' : Bool) : Sp (w.setCell ⟨b, 27, none⟩ (.bool g')) b s a d g' :=
  h.set (by omega) fun j hj => by
    by_cases h25 : j < 25
    · rw [if_neg (by omega)]; simp [lanes, h25]
    · by_cases hj : j = 27
      · subst hj; rfl
      · rw [if_neg hj]; simp [lanes, h25, spF, hj]
/-- A byte added at a place. -/
def kflip (s : Nat → Int) (a : Nat) (c : Int) (i : Nat) : Int := if i = a / 8 then bits .xor .u64 (s (a / 8)) (c * 2 ^ (8 * (a % 8))) else s i
set_option maxRecDepth 100000 in
set_option maxHeartbeats 4000000 in
theorem k_New (w : World) (d : Int) (h1 : 1 ≤ d) (h2 : d ≤ 127) : Calls Try.prog 66 #[.int .u8 d] w fun e w' => ∃ b, e = .returned (.pointer (some ⟨b, 0, none⟩)) ∧ w.heap.size ≤ b ∧ Sp w' b (fun _ => 0) 0 d false ∧ Kept w w' := by
  go_enter Try.func66, Try.ntmps66
  go_wp2_with fail
  go_ret
  exact ⟨_, rfl, Nat.le_refl _, Blk.new _ _ _, (Kept.refl w).alloc _⟩
theorem wrap_byte {c : Int} (h0 : 0 ≤ c) (h1 : c ≤ 255) {m : Nat} (hm : m ≤ 56) : IntKind.u64.wrap (c * 2 ^ m) = c * 2 ^ m := by
  have hp : (2 : Int) ^ m ≤ 2 ^ 56 := by
    have h1 : 2 ^ m ≤ 2 ^ 56 := Nat.pow_le_pow_right (by decide) hm
    have h2 : ((2 ^ m : Nat) : Int) = 2 ^ m := by simp
    rw [← h2]; omega
  have hp0 : (0 : Int) < 2 ^ m := Int.pow_pos (by omega)
  have h3 : c * 2 ^ m ≤ 255 * 2 ^ 56 := Int.mul_le_mul h1 hp (by omega) (by omega)
  have h4 : 0 ≤ c * 2 ^ m := Int.mul_nonneg h0 (by omega)
  generalize c * 2 ^ m = x at *
  simp only [IntKind.wrap, IntKind.bits, IntKind.signed]
  simp
  omega
set_option maxRecDepth 100000 in
set_option maxHeartbeats 4000000 in
theorem k_flip (w : World) (b : Nat) (s : Nat → Int) (a' d : Int) (g : Bool) (a : Nat) (ha : a < 200) (c : Int) (c0 : 0 ≤ c) (c1 : c ≤ 255) (hB : Sp w b s a' d g) :
    Calls Try.prog 127 #[.pointer (some ⟨b, 0, none⟩), .int .i64 (a : Int), .int .u8 c] w fun e w' => e = .returned (.tuple #[]) ∧ Touch b w w' ∧ Sp w' b (kflip s a c) a' d g := by
  obtain ⟨q, hq, hq25⟩ : ∃ q, a / 8 = q ∧ q < 25 := ⟨_, rfl, by omega⟩
  obtain ⟨r, hr, hr8⟩ : ∃ r, a % 8 = r ∧ r < 8 := ⟨_, rfl, by omega⟩
  obtain ⟨m, hm, hm56⟩ : ∃ m, 8 * r = m ∧ m ≤ 56 := ⟨_, rfl, by omega⟩
  have e1 : (a : Int).tdiv 8 = (q : Int) := by rw [Int.tdiv_eq_ediv_of_nonneg (by omega)]; omega
  have e1' : (a : Int) / 8 = (q : Int) := by omega
  have e2 : (a : Int).tmod 8 = (r : Int) := by rw [Int.tmod_eq_emod_of_nonneg (by omega)]; omega
  have e2' : (a : Int) % 8 = (r : Int) := by omega
  have e3 : 8 * (r : Int) = (m : Int) := by omega
  have w1 : IntKind.i64.wrap (q : Int) = (q : Int) := IntWalk.i64_in _ (by omega)
  have w2 : IntKind.i64.wrap (m : Int) = (m : Int) := IntWalk.i64_in _ (by omega)
  have w3 : IntKind.u64.wrap c = c := by simp [IntKind.wrap, IntKind.bits, IntKind.signed]; omega
  have w4 := wrap_byte c0 c1 hm56
  have z1 : (0 : Int) ≤ (q : Int) := by omega
  have z2 : (q : Int) < 25 := by omega
  have z3 : (0 : Int) ≤ (m : Int) := by omega
  have z4 : (m : Int) ≤ 64 := by omega
  have cl := hB.lane (by omega) hq25
  have HV : Hid (∀ j, j < 25 → kflip s a c j = if j = q then bits .xor .u64 (s q) (c * 2 ^ m) else s j) := Lib.hid fun j _ => by unfold kflip; rw [hq, hr, hm]
  generalize s q = x0 at cl HV
  clear hq hr hm ha
  go_enter Try.func127, Try.ntmps127
  go_upto_region 0 with (fail)
  refine wp_region_calm 17 (by kernel_rfl) (by kernel_rfl) ?_
  simp only [List.take_succ_cons, List.take_zero, List.drop_succ_cons, List.drop_zero]
  repeat (first
    | (refine calm_skip rfl ?_; simp only [Act.put, List.setIfInBounds_toArray, List.set_cons_zero, List.set_cons_succ])
    | (refine calm_ex rfl ?_; apply Exists.intro; refine And.intro (fun w' hk => ?_) ?_; (focus (have q0 := hk.cell cl; clear hk; go_simp; exact rfl)); simp only [Act.put, List.setIfInBounds_toArray, List.set_cons_zero, List.set_cons_succ]))
  refine calm_nil ?_
  intro W1 hkW1
  have B1 := hB.kept hkW1
  have c9 := hkW1.cell cl
  have f1 := B1.free
  have k1 : Touch b w W1 := .of_kept hkW1
  clear hkW1 cl hB
  go_wp2_with fail
  refine bodyPost_end (v := .tuple #[]) (by simp [results, Try.results127, go_sem]) rfl ⟨rfl, k1.trans (Touch.set _ _ _ _), B1.setLane (by omega) hq25 HV.out⟩
end Go.Proofs.Ytnajihlhcdedgaa

namespace Go.Proofs.Ytnajihlhcdedgaa
open Go.RowKit
set_option linter.unusedVariables false
set_option linter.unusedSimpArgs false
/-- A slice whose cells lie in blocks below N reads as the bytes C 0, .. -/
structure SlB (w : World) (a : Option Addr) (n cap N : Nat) (C : Nat → Int) : Prop where
  at' : ∀ j, j < n → ∃ p : Addr, (∀ w', (Instr.indexAt 42 (.slice a n cap) (.int .i64 (j : Int))).run Try.prog w' = .ok (.pointer (some p)) w') ∧ w.cell? p = some (.int .u8 (C j)) ∧ p.block < N
  byte : ∀ j, j < n → 0 ≤ C j ∧ C j ≤ 255
theorem Touch.cell {b : Nat} {w w' : World} (k : Touch b w w') {p : Addr} {v : Value} (h : w.cell? p = some v) (hb : p.block ≠ b) : w'.cell? p = some v := by
  have hlt := block_lt_of_cell h
  unfold World.cell? at h ⊢
  rw [k.block p.block hlt hb]
  exact h
theorem SlB.touch {w w' : World} {a : Option Addr} {n cap N b : Nat} {C : Nat → Int} (h : SlB w a n cap N C) (hb : N ≤ b) (k : Touch b w w') : SlB w' a n cap N C :=
  ⟨fun j hj => let ⟨p, h1, h2, h3⟩ := h.at' j hj; ⟨p, h1, k.cell h2 (by omega), h3⟩, h.byte⟩
theorem SlB.kept {w w' : World} {a : Option Addr} {n cap N : Nat} {C : Nat → Int} (h : SlB w a n cap N C) (k : Kept w w') : SlB w' a n cap N C :=
  ⟨fun j hj => let ⟨p, h1, h2, h3⟩ := h.at' j hj; ⟨p, h1, k.cell h2, h3⟩, h.byte⟩
/-- A full block is permuted before more comes. -/
def norm (s : Nat → Int) (a : Nat) : Nat → Int := if a = 168 then kperm 12 s else s
def normA (a : Nat) : Nat := if a = 168 then 0 else a
/-- The lanes, and the place, when i bytes are in. -/
def takes (C : Nat → Int) (s : Nat → Int) (a : Nat) : Nat → (Nat → Int) × Nat
  | 0 => (s, a)
  | i + 1 => (kflip (norm (takes C s a i).1 (takes C s a i).2) (normA (takes C s a i).2) (C i), normA (takes C s a i).2 + 1)
theorem takes_le (C : Nat → Int) (s : Nat → Int) {a : Nat} (ha : a ≤ 168) : ∀ i, (takes C s a i).2 ≤ 168
  | 0 => ha
  | i + 1 => by
    have := takes_le C s ha i
    simp only [takes, normA]
    split <;> omega
end Go.Proofs.Ytnajihlhcdedgaa

namespace Go.Proofs.Ytnajihlhcdedgaa
open Go.ChangeShapes Go.WideShapes Go.ChangeAt Go.RowKit
open Go.ChangeMaps (open_string shut_string)
set_option linter.unusedVariables false
theorem own : ownKnob Try.prog.godebug = none := by kernel_rfl
theorem laidOut : laidOutB Try.prog = true := by kernel_rfl
section
variable {H : Type} {enc : TypeId × Value → H} {P : Program} {w : World} {base : Nat} {spare : Nat → Bool} {held : Bool} {r : Reach} {b : Nat} {t : TypeId} {v : Value} {d : DataW H} {p : List MemPlace}
end
end Go.Proofs.Ytnajihlhcdedgaa

namespace Go.Proofs.Ytnajihlhcdedgaa
open Go.ChangeShapes Go.WideShapes Go.ChangeAt Go.RowKit
set_option linter.unusedVariables false
theorem run_index_at {t e : TypeId} {ad : Addr} {n cap j : Nat} (ht : Try.prog.underlying t = some (.slice e)) (he : (Try.prog.info? e).map (fun i => i.size) = some 1) (hj : j < n) (w : World) :
    (Instr.indexAt t (.slice (some ad) n cap) (.int .i64 (j : Int))).run Try.prog w = .ok (.pointer (some (ad.add j))) w := by
  cases hq : Try.prog.info? e with
  | none => simp [hq] at he
  | some i =>
    have hs : i.size = 1 := by simpa [hq] using he
    have h1 : (0 : Int) ≤ (j : Int) := by omega
    have h2 : (j : Int) < (n : Int) := by omega
    simp [Instr.indexAt, run_underlying ht, asIntOf, sizeOf, typeInfo, hq, hs, hj]
theorem size5 : (Try.prog.info? 5).map (fun i => i.size) = some 1 := by kernel_rfl
theorem add_zero_at (g j : Nat) : (⟨g, 0, none⟩ : Addr).add j = ⟨g, j, none⟩ := by rw [Addr.add_lit]; simp
theorem SlB.mono {w : World} {a : Option Addr} {n cap N M : Nat} {C : Nat → Int} (h : SlB w a n cap N C) (hM : N ≤ M) : SlB w a n cap M C :=
  ⟨fun j hj => let ⟨p, h1, h2, h3⟩ := h.at' j hj; ⟨p, h1, h2, Nat.lt_of_lt_of_le h3 hM⟩, h.byte⟩
/-- What a slice of bytes of the call's own reads as. -/
theorem SlB.of_own {w : World} {base n : Nat} {a : Option Addr} {cap : Nat} {C : Nat → Int} (h : w.ownsRow base 5 1 (.slice a n cap) n ((List.range n).map fun j => Value.int .u8 (C j))) (hb : ∀ j, j < n → 0 ≤ C j ∧ C j ≤ 255) : SlB w a n cap w.heap.size C := by
  refine ⟨fun j hj => ?_, hb⟩
  rcases h.2 with ⟨h1, rfl⟩ | ⟨g, cap', cur, h1, h2⟩
  · omega
  · injection h1 with h1 h3 h4
    subst h1
    have hc := h.cells (g := g) rfl j (Value.int .u8 (C j)) (by simp [hj])
    exact ⟨_, fun w' => run_index_at Try.underlying42 size5 hj w', hc, block_lt_of_cell hc⟩
/-- Bytes as values. -/
def bytesR (n : Nat) (C : Nat → Int) : List Value := (List.range n).map fun j => Value.int .u8 (C j)
/-- The bytes as a string. -/
def strR (n : Nat) (C : Nat → Int) : ByteArray := strOf ((List.range n).map C)
theorem conv_nil (w : World) : (convert 42 9 (.slice none 0 0)).run Try.prog w = .ok (.string (strOf [])) w := by kernel_rfl
theorem conv_R {w : World} {v : Value} {n : Nat} {C : Nat → Int} (h : Reads w v (bytesR n C)) (hb : ∀ j, j < n → 0 ≤ C j ∧ C j ≤ 255) : (convert 42 9 v).run Try.prog w = .ok (.string (strR n C)) w := by
  rcases h with ⟨rfl, h⟩ | ⟨b, o, cap, h1, h2, h3⟩
  · have h0 : n = 0 := by
      have := congrArg List.length h
      simpa [bytesR] using this
    subst h0
    exact conv_nil w
  · have hl : (bytesR n C).length = ((List.range n).map C).length := by simp [bytesR]
    rw [h1, hl]
    refine conv_str Try.underlying42 Try.underlying5 Try.underlying9 w ?_ ?_
    · intro x hx
      obtain ⟨j, hj, rfl⟩ := List.mem_map.1 hx
      exact hb j (List.mem_range.1 hj)
    · intro j hj
      have hj' : j < n := by simpa using hj
      refine h3 j _ ?_
      rw [List.getD_eq_getElem?_getD]
      simp [bytesR, hj']
theorem makes_zero (z : Value) (hz : z.cells = #[z]) (n : Nat) : madeCells z.cells (n * 1) = rowF n (fun _ => z) := by
  rw [hz, Nat.mul_one]
  apply Array.ext'
  rw [toList_madeCells_one]
  unfold rowF
  apply List.ext_getElem?
  intro i
  rcases Nat.lt_or_ge i n with h | h
  · simp [h]
  · simp [h]
/-- A slice of noughts. -/
theorem makefull42 (c : Nat) (h63 : (c : Int) ≤ 281474976710656) (w : World) : (Instr.makeSlice 42 (.int .i64 (c : Int)) (.int .i64 (c : Int))).run Try.prog w = .ok (.slice (some ⟨w.heap.size, 0, none⟩) c c) (w.alloc (.cells (rowF c (fun _ => .int .u8 0)) 5)) := by
  obtain ⟨i, hi, hz0, hz1, hz2⟩ := info_parts info5
  have hr := run_make (P := Try.prog) w 42 5 i _ Try.underlying42 hi hz0 .i64 .i64 c c (by omega) (by omega) (by rw [hz2]; omega) (by omega)
  simp only [Int.toNat_natCast] at hr
  rw [hr, hz1, makes_zero _ rfl]
theorem bytesR_length (n : Nat) (C : Nat → Int) : (bytesR n C).length = n := by simp [bytesR]
section
variable {H : Type} {enc : TypeId × Value → H} {W : World} {base : Nat} {spare : Nat → Bool} {held : Bool} {v : Value} {d : DataW H} {p : List MemPlace}
end
end Go.Proofs.Ytnajihlhcdedgaa

namespace Go.Proofs.Ytnajihlhcdedgaa
open Go.ChangeShapes Go.WideShapes Go.ChangeAt Go.RowKit
set_option linter.unusedVariables false
theorem row_bytes {bs : List Int} {n : Nat} (h : bs.length = n) : (bytesV bs).toArray = rowF n (fun i => .int .u8 (bs.getD i 0)) := by
  unfold rowF bytesV
  congr 1
  apply List.ext_getElem?
  intro i
  rw [List.getElem?_map, List.getElem?_map]
  rcases Nat.lt_or_ge i n with hi | hi
  · simp [hi, h]
  · simp [hi, h]
theorem E_pair (a : Int) : E a = .agg #[.int .u64 (a % 18446744073709551616), .int .u64 (a / 18446744073709551616)] := rfl
/-- Take, over a list of bytes. -/
theorem f_Take {f : Int} (hf : isF f) {bs : List Int} (hl : (bs.length : Int) = 8 * f) (hb : ∀ x ∈ bs, isByte x) (w : World) {g o cap : Nat} (hcap : bs.length ≤ cap) (hc : ∀ j, j < bs.length → w.cell? ⟨g, o + j, none⟩ = some (.int .u8 (bs.getD j 0))) :
    Calls Try.prog 97 #[.int .u8 f, .slice (some ⟨g, o, none⟩) bs.length cap] w fun e w' => e = .returned (if leVal bs < rP f then .tuple #[E (leVal bs), .int .i64 0] else .tuple #[E 0, .int .i64 7]) ∧ Kept w w' := by
  have h0 := leVal_lo bs hb
  rcases hf with rfl | rfl
  · have h8 : bs.length = 8 := by omega
    have hG := g_Take h8 hb
    rw [row_bytes h8] at hG
    rw [rP1]
    rw [h8] at hc hcap ⊢
    by_cases h : leVal bs < gP
    · rw [if_pos h] at hG ⊢
      rw [E_small (a := leVal bs) (by unfold gP at h; unfold is64; omega)]
      exact f_Take_s w g o cap _ _ _ (Lib.hid hc) hcap hG
    · rw [if_neg h] at hG ⊢
      rw [E_nought]
      exact f_Take_s w g o cap _ _ _ (Lib.hid hc) hcap hG
  · have h8 : bs.length = 16 := by omega
    have hG := w_Take h8 hb
    rw [row_bytes h8] at hG
    rw [rP2]
    rw [h8] at hc hcap ⊢
    by_cases h : leVal bs < wP
    · rw [if_pos h] at hG ⊢
      exact f_Take_l w g o cap _ _ _ _ (Lib.hid hc) hcap hG
    · rw [if_neg h] at hG ⊢
      rw [E_nought]
      exact f_Take_l w g o cap _ _ _ _ (Lib.hid hc) hcap hG
section
variable {H : Type} {enc : TypeId × Value → H} {W : World} {base : Nat} {spare : Nat → Bool} {held : Bool} {v : Value} {d : DataW H} {p : List MemPlace}
end
end Go.Proofs.Ytnajihlhcdedgaa

namespace Go.Proofs.Ytnajihlhcdedgaa
open Go.RowKit
set_option linter.unusedVariables false
/-- Is the operation wanted? D: where the operations' results go; ts: the slots. -/
def wantedL (D : List (Option Tmp)) (ts : List Value) (o : Oper) : Bool :=
  match o.guard with
  | none => true
  | some (j, b) => (match ((D[j]?).bind id).bind (ts[·]?) with | some (.bool c) => some c | _ => none) == some b
theorem wanted_L {ops : Array Oper} {D : List (Option Tmp)} (hD : ops.toList.map (·.dst) = D) (ts : List Value) (o : Oper) : Region.wanted o (yielded ops ts.toArray) = wantedL D ts o := by
  unfold Region.wanted wantedL
  cases o.guard with
  | none => rfl
  | some g =>
    obtain ⟨j, b⟩ := g
    have e : (ops[j]?).bind (·.dst) = (D[j]?).bind id := by
      rw [← hD, List.getElem?_map, Array.getElem?_toList]
      cases ops[j]? <;> rfl
    simp only [yielded, e, List.getElem?_toArray]
    rfl
def saneL (ts : List Value) (o : Oper) : Bool := o.op.operands.all fun x => match x with | .tmp t => !isMark (ts.getD t undef) | _ => true
theorem getD_toArray (ts : List Value) (t : Nat) : ts.toArray.getD t undef = ts.getD t undef := by
  simp [Array.getD_eq_getD_getElem?]
theorem sane_L {ts : List Value} {d : List Deferred} {o : Oper} (h : saneL ts o = true) : sane ⟨ts.toArray, d⟩ o = true := by
  unfold sane
  unfold saneL at h
  rw [← h]
  congr 1
  funext x
  cases x <;> simp only [saneAt, getD_toArray]
theorem put_L (ts : List Value) (d : List Deferred) {o : Oper} {t : Tmp} (hd : o.dst = some t) (v : Value) : (⟨ts.toArray, d⟩ : Act).put o.dst v = ⟨(ts.set t v).toArray, d⟩ := by
  rw [hd]
  simp only [Act.put, List.setIfInBounds_toArray]
/-- The head's walk over the slots. -/
structure WL (k0 : Nat) (M : Means) (P : Program) (D : List (Option Tmp)) (w : World) (Q : Act → Prop) (l : List Oper) (ts : List Value) (d : List Deferred) : Prop where
  of :: out : ∀ ops : Array Oper, ops.toList.map (·.dst) = D → wpCalmM (shift k0 M) P ops w Q l ⟨ts.toArray, d⟩
section
variable {P : Program} {Q : Exit → Act → World → Prop} {w : World} {l : List Oper} {id : Nat} {ts : List Value} {d : List Deferred}
/-- A REGION WHOSE ORDER IS DRAWN: one walk of the head (k operations); then the tail. -/
theorem wp_region_wl (M : Means) (k : Nat) (hm : P.follows .mixedOrders = true) (hB : calmB l.toArray k 0 = true) (D : List (Option Tmp)) (hD : l.map (·.dst) = D) (is : List Nat) (his : dstsOf (l.take k) = is) (l1 l2 : List Oper) (h1 : l.take k = l1) (h2 : l.drop k = l2)
    (h : ∀ k0 (Lq : Act → Prop), (∀ a', (∀ a'' w', Kept w w' → RelB (shift k0 M) is a' a'' w' → wpList P l.toArray Q l2 a'' w') → Lq a') → WL k0 M P D w Lq l1 ts d) : (Code.region id l.toArray true).wp P Q ⟨ts.toArray, d⟩ w :=
  wp_region_marks_in M k hm hB fun k0 => by
    rw [h1, h2]
    rw [h1] at his
    exact (h k0 _ fun a' ha a'' w' hk hr => ha a'' w' hk (his ▸ hr)).out _ (by simpa using hD)
end
section
variable {P : Program} {D : List (Option Tmp)} {M : Means} {w : World} {ts : List Value} {d : List Deferred} {o : Oper} {rest : List Oper} {Lq : Act → Prop} {k0 : Nat} {t : Tmp}
theorem WL.nil (h : Lq ⟨ts.toArray, d⟩) : WL k0 M P D w Lq [] ts d := ⟨fun ops _ => marks_nil h⟩
theorem WL.skip (hw : wantedL D ts o = false) (hd : o.dst = some t) (h : WL k0 M P D w Lq rest (ts.set t undef) d) : WL k0 M P D w Lq (o :: rest) ts d :=
  ⟨fun ops hD => marks_skip (by rw [wanted_L hD, hw]) (by rw [put_L ts d hd]; exact h.out ops hD)⟩
theorem WL.step (v : Value) (hw : wantedL D ts o = true) (hd : o.dst = some t) (hc : calmM (shift k0 M) P o ⟨ts.toArray, d⟩ w v) (h : WL k0 M P D w Lq rest (ts.set t v) d) : WL k0 M P D w Lq (o :: rest) ts d :=
  ⟨fun ops hD => marks_step v (by rw [wanted_L hD, hw]) hc (by rw [put_L ts d hd]; exact h.out ops hD)⟩
theorem WL.ex (hw : wantedL D ts o = true) (hsel : noSel o = true) (hs : saneL ts o = true) (hd : o.dst = some t)
    (h : ∃ v, (∀ w', Kept w w' → (execOp (Act.eval ⟨ts.toArray, d⟩) o).run P w' = .ok (.value v) w') ∧ isMark v = false ∧ WL k0 M P D w Lq rest (ts.set t v) d) : WL k0 M P D w Lq (o :: rest) ts d := by
  obtain ⟨v, h1, h2, h3⟩ := h
  exact WL.step v hw hd (calmM_of (noSel_spec hsel) (sane_L hs) h2 (calm_run v h1)) h3
/-- A call whose result is known. -/
theorem WL.call {v : Value} {f : FuncId} {args : Array Value} (hw : wantedL D ts o = true) (hsel : noSel o = true) (hs : saneL ts o = true) (hd : o.dst = some t) (hv : isMark v = false) (hp : Pure P f args v)
    (hr : ∀ w', (execOp (Act.eval ⟨ts.toArray, d⟩) o).run P w' = .ok (.enter f args) w') (h : WL k0 M P D w Lq rest (ts.set t v) d) : WL k0 M P D w Lq (o :: rest) ts d :=
  WL.step v hw hd (calmM_of (noSel_spec hsel) (sane_L hs) hv (hp.call hr)) h
/-- A call whose result is a mark, by a contract in every later world. -/
theorem WL.makeAt (k : Nat) {f : FuncId} {args : Array Value} (hw : wantedL D ts o = true) (hsel : noSel o = true) (hs : saneL ts o = true) (hd : o.dst = some t)
    (hp : ∀ w', Kept w w' → Calls P f args w' fun e w'' => ∃ v, e = .returned v ∧ (M k).is v w'' ∧ Kept w' w'')
    (hr : ∀ w', (execOp (Act.eval ⟨ts.toArray, d⟩) o).run P w' = .ok (.enter f args) w') (h : WL k0 M P D w Lq rest (ts.set t (.chan (some (k0 + k)))) d) : WL k0 M P D w Lq (o :: rest) ts d := by
  refine WL.step (.chan (some (k0 + k))) hw hd ?_ h
  intro a' w' hk hra
  have he : execOp a'.eval o = execOp (Act.eval ⟨ts.toArray, d⟩) o := execOp_congr o (noSel_spec hsel) (sane_eval (sane_L hs) hra)
  rw [he, hr w']
  refine ⟨rfl, (hp w' hk).mono fun e w'' ⟨v, h1, h2, h3⟩ => ⟨v, h1, h3, RelV.of (by rw [shift_at]; exact h2)⟩⟩
/-- An operation of known operands that makes something. -/
theorem WL.lay (k : Nat) (hw : wantedL D ts o = true) (hsel : noSel o = true) (hs : saneL ts o = true) (hd : o.dst = some t)
    (hr : ∀ w', Kept w w' → ∃ u w'', (execOp (Act.eval ⟨ts.toArray, d⟩) o).run P w' = .ok (.value u) w'' ∧ Kept w' w'' ∧ (M k).is u w'')
    (h : WL k0 M P D w Lq rest (ts.set t (.chan (some (k0 + k)))) d) : WL k0 M P D w Lq (o :: rest) ts d :=
  WL.step _ hw hd (calmM_make (k0 + k) hsel (sane_L hs) fun w' hk => by obtain ⟨u, w'', h1, h2, h3⟩ := hr w' hk; exact ⟨u, w'', h1, h2, by rw [shift_at]; exact h3⟩) h
/-- An operation on what a mark stands for. -/
theorem WL.on (k s : Nat) (v : Value) (hw : wantedL D ts o = true) (ht : hasTmp o s = true) (hm : ts.getD s undef = .chan (some (k0 + k))) (hd : o.dst = some t) (hv : isMark v = false)
    (hc : ∀ (a' : Act) w', Kept w w' → (M k).is (a'.eval (.tmp s)) w' → (execOp a'.eval o).run P w' = .ok (.value v) w')
    (h : WL k0 M P D w Lq rest (ts.set t v) d) : WL k0 M P D w Lq (o :: rest) ts d :=
  WL.step v hw hd (calmM_on ht (by rw [getD_toArray]; exact hm) v hv fun a' w' hk hi => hc a' w' hk (by rw [shift_at] at hi; exact hi)) h
end
end Go.Proofs.Ytnajihlhcdedgaa

namespace Go.Proofs.Ytnajihlhcdedgaa
open Go.RowKit
set_option linter.unusedVariables false
set_option linter.unusedSimpArgs false
theorem add_block (p : Addr) (n : Nat) : (p.add n).block = p.block := by
  unfold Addr.add
  split <;> rfl
theorem cell_far {w : World} {p : Addr} {v : Value} (h : w.cell? p = some v) {b : Nat} (hb : p.block ≠ b) (i : Nat) (u : Value) : (w.setCell ⟨b, i, none⟩ u).cell? p = some v := by
  have hlt := block_lt_of_cell h
  unfold World.cell? at h ⊢
  rw [(Touch.set b w i u).block p.block hlt hb]
  exact h
theorem SlE.setCell {w : World} {a : Option Addr} {n cap N : Nat} {C0 C1 : Nat → Int} (h : SlE w a n cap N C0 C1) {b i : Nat} (hb : N ≤ b) (v : Value) : SlE (w.setCell ⟨b, i, none⟩ v) a n cap N C0 C1 :=
  ⟨fun j hj => let ⟨p, h1, h2, h3, h4⟩ := h.at' j hj; ⟨p, h1, cell_far h2 (by omega) i v, cell_far h3 (by rw [add_block]; omega) i v, h4⟩⟩
theorem SlE.alloc {w : World} {a : Option Addr} {n cap N : Nat} {C0 C1 : Nat → Int} (h : SlE w a n cap N C0 C1) (o : Obj) : SlE (w.alloc o) a n cap N C0 C1 := h.kept ((Kept.refl w).alloc o)
end Go.Proofs.Ytnajihlhcdedgaa

namespace Go.Proofs.Ytnajihlhcdedgaa
open Go.RowKit
set_option linter.unusedVariables false
/-- All older blocks but those of S are as they were. -/
structure Chg (S : Nat → Prop) (w w' : World) : Prop where
  os : w'.os = w.os
  tape : w'.tape = w.tape
  output : w'.output = w.output
  size : w.heap.size ≤ w'.heap.size
  block : ∀ i, i < w.heap.size → ¬ S i → w'.heap[i]? = w.heap[i]?
section
variable {S T : Nat → Prop} {w w' w'' : World}
theorem Chg.refl (S : Nat → Prop) (w : World) : Chg S w w := ⟨rfl, rfl, rfl, Nat.le_refl _, fun _ _ _ => rfl⟩
theorem Chg.of_kept (k : Kept w w') : Chg S w w' := ⟨k.os, k.tape, k.output, k.size, fun i hi _ => Below.block k i hi⟩
theorem Chg.of_touch {b : Nat} (k : Touch b w w') (hb : S b) : Chg S w w' := ⟨k.os, k.tape, k.output, k.size, fun i hi hn => k.block i hi fun h => hn (h ▸ hb)⟩
theorem Chg.trans (h : Chg S w w') (k : Chg T w' w'') (hT : ∀ i, i < w.heap.size → T i → S i) : Chg S w w'' :=
  ⟨k.os.trans h.os, k.tape.trans h.tape, k.output.trans h.output, Nat.le_trans h.size k.size, fun i hi hn => (k.block i (Nat.lt_of_lt_of_le hi h.size) fun ht => hn (hT i hi ht)).trans (h.block i hi hn)⟩
theorem Chg.trans_kept (h : Chg S w w') (k : Kept w' w'') : Chg S w w'' := h.trans (T := fun _ => False) (.of_kept k) fun _ _ hf => hf.elim
theorem Chg.mono (h : Chg S w w') (hS : ∀ i, i < w.heap.size → S i → T i) : Chg T w w' := ⟨h.os, h.tape, h.output, h.size, fun i hi hn => h.block i hi fun hs => hn (hS i hi hs)⟩
theorem Chg.kept (h : Chg S w w') (hS : ∀ i, i < w.heap.size → ¬ S i) : Kept w w' := ⟨h.os, h.tape, h.output, h.size, fun i hi => h.block i hi (hS i hi)⟩
theorem Chg.heap (h : Chg S w w') {b : Nat} {o : Obj} (hb : w.heap[b]? = some o) (hn : ¬ S b) : w'.heap[b]? = some o := by
  rw [h.block b (Array.getElem?_eq_some_iff.1 hb).1 hn]
  exact hb
theorem Chg.blk (h : Chg S w w') {b : Nat} {t : TypeId} {cs : Array Value} (B : Blk w b t cs) (hn : ¬ S b) : Blk w' b t cs := Blk.of (h.heap B.heap hn)
theorem Chg.cell (h : Chg S w w') {p : Addr} {v : Value} (hc : w.cell? p = some v) (hn : ¬ S p.block) : w'.cell? p = some v := by
  have hlt := block_lt_of_cell hc
  unfold World.cell? at hc ⊢
  rw [h.block p.block hlt hn]
  exact hc
theorem Chg.frozen (h : Chg S w w') {p : Addr} (hlt : p.block < w.heap.size) (hn : ¬ S p.block) : w'.frozen? p = w.frozen? p := by
  unfold World.frozen?
  rw [h.block p.block hlt hn]
theorem Chg.own (h : Chg S w w') {base : Nat} {e : TypeId} {size : Nat} {v : Value} {n : Nat} {xs : List Value} (ho : w.ownsRow base e size v n xs) (hn : ∀ g, v.ownBlock = some g → ¬ S g) : w'.ownsRow base e size v n xs := by
  refine ⟨ho.1, ?_⟩
  rcases ho.2 with h2 | ⟨g, cap, cur, h1, h2, h3, h4⟩
  · exact .inl h2
  · exact .inr ⟨g, cap, cur, h1, h2, h.heap h3 (hn g (by rw [h1]; rfl)), h4⟩
theorem Chg.slB (h : Chg S w w') {a : Option Addr} {n cap N : Nat} {C : Nat → Int} (hs : SlB w a n cap N C) (hn : ∀ i, i < N → ¬ S i) : SlB w' a n cap N C :=
  ⟨fun j hj => let ⟨p, h1, h2, h3⟩ := hs.at' j hj; ⟨p, h1, h.cell h2 (hn _ h3), h3⟩, hs.byte⟩
theorem Chg.setCell (h : Chg S w w') {b i : Nat} (hb : S b ∨ w.heap.size ≤ b) (v : Value) : Chg S w (w'.setCell ⟨b, i, none⟩ v) := by
  have k := Touch.set b w' i v
  refine ⟨k.os.trans h.os, k.tape.trans h.tape, k.output.trans h.output, Nat.le_trans h.size k.size, fun j hj hn => (k.block j (Nat.lt_of_lt_of_le hj h.size) fun he => ?_).trans (h.block j hj hn)⟩
  subst he
  rcases hb with hb | hb
  · exact hn hb
  · omega
theorem Chg.alloc (h : Chg S w w') (o : Obj) : Chg S w (w'.alloc o) := h.trans_kept ((Kept.refl w').alloc o)
theorem Chg.drew (h : Chg S w w') : Chg S w w'.drew := h.trans_kept ((Kept.refl w').drew)
theorem Chg.grown (h : Chg S w w') {r : Option Nat} (hg : w'.grownBy w'' r) (hr : ∀ g, r = some g → S g ∨ w.heap.size ≤ g) : Chg S w w'' :=
  ⟨hg.os.trans h.os, hg.tape.trans h.tape, hg.output.trans h.output, Nat.le_trans h.size hg.size, fun i hi hn => (hg.block i (Nat.lt_of_lt_of_le hi h.size) fun he => by
    rcases hr i he.symm with hs | hs
    · exact hn hs
    · omega).trans (h.block i hi hn)⟩
end
theorem chg_grown {w w' : World} {v : Value} (hg : w.grownBy w' v.ownBlock) : Chg (fun i => v.ownBlock = some i) w w' := ⟨hg.os, hg.tape, hg.output, hg.size, fun i hi hn => hg.block i hi fun h => hn h.symm⟩
theorem chg_set (w : World) (b i : Nat) (v : Value) : Chg (fun j => j = b) w (w.setCell ⟨b, i, none⟩ v) := (Chg.refl (fun j => j = b) w).setCell (.inl rfl) v
theorem own_lt {w : World} {base : Nat} {e : TypeId} {size : Nat} {v : Value} {n : Nat} {xs : List Value} (h : w.ownsRow base e size v n xs) {g : Nat} (hg : v.ownBlock = some g) : base ≤ g ∧ g < w.heap.size := h.lt g hg
/-! ### A map -/
/-- The world in which block M is o. -/
def putMap (w : World) (M : Nat) (o : Obj) : World := { w with heap := w.heap.setIfInBounds M o }
theorem putMap_size (w : World) (M : Nat) (o : Obj) : (putMap w M o).heap.size = w.heap.size := by simp [putMap]
theorem putMap_at (w : World) {M : Nat} (o : Obj) (h : M < w.heap.size) : (putMap w M o).heap[M]? = some o := by simp [putMap, h]
theorem chg_putMap (w : World) (M : Nat) (o : Obj) : Chg (fun j => j = M) w (putMap w M o) :=
  ⟨rfl, rfl, rfl, by rw [putMap_size]; exact Nat.le_refl _, fun i hi hn => by
    have : ¬ M = i := fun h => hn h.symm
    simp [putMap, this]⟩
theorem run_checkKey9 (b : Bool) (q : ByteArray) (w : World) : (Instr.checkKey b 10000 9 (.string q)).run Try.prog w = .ok () w := by
  have h : ∀ n, (Instr.checkKey b (n + 1) 9 (.string q)).run Try.prog w = .ok () w := fun n => by simp [Instr.checkKey, run_underlying Try.underlying9]
  exact h 9999
/-- m[q], m[q] with ok: of a map known whole. -/
theorem run_lookup_yes {w : World} {M : Nat} {es : Array MapEntry} {ck : Nat} {q : ByteArray} (h : w.heap[M]? = some (.map es ck)) {i : Nat} {v : Value} (hf : Instr.findNow .string (.string q) es.toList 0 = some (some (i, v))) :
    (Instr.lookup 141 (.map (some M)) (.string q) false).run Try.prog w = .ok v w := by
  simp [Instr.lookup, run_underlying Try.underlying141, run_underlying Try.underlying9, MapKept.run_getObj_map h, run_checkKey9, Instr.findKey, hf]
theorem run_lookup_yes_ok {w : World} {M : Nat} {es : Array MapEntry} {ck : Nat} {q : ByteArray} (h : w.heap[M]? = some (.map es ck)) {i : Nat} {v : Value} (hf : Instr.findNow .string (.string q) es.toList 0 = some (some (i, v))) :
    (Instr.lookup 141 (.map (some M)) (.string q) true).run Try.prog w = .ok (.tuple #[v, .bool true]) w := by
  simp [Instr.lookup, run_underlying Try.underlying141, run_underlying Try.underlying9, MapKept.run_getObj_map h, run_checkKey9, Instr.findKey, hf]
theorem run_lookup_no_ok {w : World} {M : Nat} {es : Array MapEntry} {ck : Nat} {q : ByteArray} (h : w.heap[M]? = some (.map es ck)) (hf : Instr.findNow .string (.string q) es.toList 0 = some none) :
    (Instr.lookup 141 (.map (some M)) (.string q) true).run Try.prog w = .ok (.tuple #[.slice none 0 0, .bool false]) w := by
  simp [Instr.lookup, run_underlying Try.underlying141, run_underlying Try.underlying9, MapKept.run_getObj_map h, run_checkKey9, Instr.findKey, hf]
theorem run_putNew {w : World} {M : Nat} {es : Array MapEntry} {ck : Nat} {q : ByteArray} {v : Value} (h : w.heap[M]? = some (.map es ck)) (hf : Instr.findNow .string (.string q) es.toList 0 = some none) :
    (Instr.mapUpdate 141 (.map (some M)) (.string q) v).run Try.prog w = .ok () (putMap w M (.map (es.push { key := .string q, val := v, born := ck }) (ck + 1))) := by
  simp [Instr.mapUpdate, run_underlying Try.underlying141, run_underlying Try.underlying9, MapKept.run_getObj_map h, run_checkKey9, Instr.findKey, hf, MapKept.run_setObj_map _ h, putMap]
theorem run_putOld {w : World} {M : Nat} {es : Array MapEntry} {ck : Nat} {q : ByteArray} {v u : Value} {i : Nat} {e : MapEntry} (h : w.heap[M]? = some (.map es ck)) (hf : Instr.findNow .string (.string q) es.toList 0 = some (some (i, u))) (he : es[i]? = some e) (hk : e.key = .string q) :
    (Instr.mapUpdate 141 (.map (some M)) (.string q) v).run Try.prog w = .ok () (putMap w M (.map (es.modify i fun e => { e with key := .string q, val := v }) ck)) := by
  simp [Instr.mapUpdate, run_underlying Try.underlying141, run_underlying Try.underlying9, MapKept.run_getObj_map h, run_checkKey9, Instr.findKey, hf, MapKept.run_setObj_map _ h, putMap, he, hk, Instr.keyThatStays, Instr.sameBits, (MapKept.bytes_beq q q).2 rfl]
end Go.Proofs.Ytnajihlhcdedgaa

namespace Go.Proofs.Ytnajihlhcdedgaa
open Go.RowKit
set_option linter.unusedVariables false
set_option linter.unusedSimpArgs false
attribute [local simp] blkAt_setCell blkAt_alloc blkAt_drew Obj.put_cells
section
variable {ops : Array Oper} {rest : List Oper} {o : Oper} {a : Act} {Q : Exit → Act → World → Prop} {wr : World} {base : Nat} {v : Value} {n : Nat} {xs : List Value}
/-- Bytes appended, from a place. -/
theorem app_bytes (hown : wr.ownsRow base 5 1 v n xs) (b off m c : Nat) (news : List Value) (hl : news.length = m) (h1 : ∀ u ∈ news, u.oneCell' = true) (hc : ∀ j u, news[j]? = some u → wr.cell? ⟨b, off + j, none⟩ = some u)
    (hn : n + m ≤ 140737488355328) (hbase : base ≤ wr.heap.size) (s x : Operand) (hgd : o.guard = none) (ho : o.op = .call { callee := .builtin .append, args := #[s, x], argTypes := #[42, 42] })
    (hs : a.eval s = v) (hx : a.eval x = .slice (some ⟨b, off, none⟩) m c)
    (h : ∀ v' w', w'.ownsRow base 5 1 v' (n + m) (xs ++ news) → wr.grownBy w' v.ownBlock → (v'.ownBlock = v.ownBlock ∨ v'.ownBlock = some wr.heap.size) → wpList Try.prog ops Q rest (a.put o.dst v') w') :
    wpList Try.prog ops Q (o :: rest) a wr := by
  obtain ⟨i, hi, hz0, hz1, hz2⟩ := info_parts info5
  refine wpList_append_own_at _ hgd s x 42 ho base 5 i _ 1 1 Try.underlying42 hi hz0 hz1 hz2 rfl (by decide) v n xs hs hown ⟨b, off, none⟩ m c news hx (by omega) ?_ h1 (by unfold maxLen; omega) (by omega) hbase ?_
  · intro j u hj
    rw [Addr.add_lit]
    exact hc j u hj
  · intro v' w' h2 h3 _ h5
    exact h v' w' h2 h3 h5
/-- Bytes appended, from wherever. -/
theorem app_bytesA (hown : wr.ownsRow base 5 1 v n xs) (ad : Addr) (m c : Nat) (news : List Value) (hl : news.length = m) (h1 : ∀ u ∈ news, u.oneCell' = true) (hc : ∀ j u, news[j]? = some u → wr.cell? (ad.add j) = some u)
    (hn : n + m ≤ 140737488355328) (hbase : base ≤ wr.heap.size) (s x : Operand) (hgd : o.guard = none) (ho : o.op = .call { callee := .builtin .append, args := #[s, x], argTypes := #[42, 42] })
    (hs : a.eval s = v) (hx : a.eval x = .slice (some ad) m c)
    (h : ∀ v' w', w'.ownsRow base 5 1 v' (n + m) (xs ++ news) → wr.grownBy w' v.ownBlock → (v'.ownBlock = v.ownBlock ∨ v'.ownBlock = some wr.heap.size) → wpList Try.prog ops Q rest (a.put o.dst v') w') :
    wpList Try.prog ops Q (o :: rest) a wr := by
  obtain ⟨i, hi, hz0, hz1, hz2⟩ := info_parts info5
  exact wpList_append_own_at _ hgd s x 42 ho base 5 i _ 1 1 Try.underlying42 hi hz0 hz1 hz2 rfl (by decide) v n xs hs hown ad m c news hx (by omega) hc h1 (by unfold maxLen; omega) (by omega) hbase fun v' w' h2 h3 _ h5 => h v' w' h2 h3 h5
/-- Nothing appended: nil. -/
theorem app_nil (hown : wr.ownsRow base 5 1 v n xs) (s x : Operand) (hgd : o.guard = none) (ho : o.op = .call { callee := .builtin .append, args := #[s, x], argTypes := #[42, 42] })
    (hs : a.eval s = v) (hx : a.eval x = .slice none 0 0) (h : wpList Try.prog ops Q rest (a.put o.dst v) wr) : wpList Try.prog ops Q (o :: rest) a wr := by
  obtain ⟨i, hi, hz0, hz1, hz2⟩ := info_parts info5
  exact wpList_append_own_none hgd s x 42 ho base 5 i 1 Try.underlying42 hi v n xs hs hown hx h
/-- A string's bytes appended. -/
theorem app_str (hown : wr.ownsRow base 5 1 v n xs) (T : ByteArray) (hn : n + T.size ≤ 140737488355328) (hbase : base ≤ wr.heap.size) (s x : Operand) (hgd : o.guard = none) (ho : o.op = .call { callee := .builtin .append, args := #[s, x], argTypes := #[42, 9] })
    (hs : a.eval s = v) (hx : a.eval x = .string T)
    (h : ∀ v' w', w'.ownsRow base 5 1 v' (n + T.size) (xs ++ Lib.strCells T) → wr.grownBy w' v.ownBlock → wpList Try.prog ops Q rest (a.put o.dst v') w') :
    wpList Try.prog ops Q (o :: rest) a wr := by
  obtain ⟨i, hi, hz0, hz1, hz2⟩ := info_parts info5
  exact Lib.wpList_append_own_string _ hgd s x 42 9 ho base 5 i Try.underlying42 Try.underlying9 hi hz0 hz1 hz2 v n xs hs hown T hx (by unfold maxLen; omega) hn hbase fun v' w' h2 h3 _ => h v' w' h2 h3
end
theorem wrap_u8x (x : Int) : IntKind.u8.wrap x = x % 256 := by simp [IntKind.wrap, IntKind.bits, IntKind.signed]
/-- A block of bytes is a row of its own. -/
theorem own_blk {w : World} {g base : Nat} {xs : List Value} (B : Blk w g 5 xs.toArray) (hb : base ≤ g) (hm : xs.length ≤ 140737488355328) : w.ownsRow base 5 1 (.slice (some ⟨g, 0, none⟩) xs.length xs.length) xs.length xs :=
  ⟨by simp, .inr ⟨g, xs.length, xs.toArray, rfl, hb, B.heap, Nat.le_refl _, by unfold maxLen; omega, by simp, by simp⟩⟩
/-- A string's bytes. -/
def tb (T : ByteArray) : List Int := T.data.toList.map fun b => (b.toNat : Int)
theorem strCells_tb (T : ByteArray) : Lib.strCells T = bytesV (tb T) := by simp [Lib.strCells, bytesV, tb]
theorem tb_length (T : ByteArray) : (tb T).length = T.size := by simp [tb]
theorem tb_byte (T : ByteArray) : ∀ x ∈ tb T, isByte x := by
  intro x hx
  obtain ⟨b, _, rfl⟩ := List.mem_map.1 hx
  have := b.toNat_lt
  unfold isByte
  omega
theorem tb_strOf {l : List Int} (h : ∀ x ∈ l, isByte x) : tb (strOf l) = l := by
  unfold strOf tb
  rw [List.map_map]
  refine (List.map_congr_left (g := id) fun x hx => ?_).trans (List.map_id l)
  have := h x hx
  unfold isByte at this
  simp
  omega
/-- A question's bytes. -/
def qL (T : ByteArray) (u0 u1 : Int) (S : Nat → Int) (C : Nat → Int) (n : Nat) : List Int := (T.size : Int) :: (tb T ++ ([u0, u1] ++ ((List.range 16).map S ++ (List.range n).map C)))
theorem qL_length (T : ByteArray) (u0 u1 : Int) (S : Nat → Int) (C : Nat → Int) (n : Nat) : (qL T u0 u1 S C n).length = 19 + T.size + n := by
  simp [qL, tb_length]
  omega
theorem qL_byte {T : ByteArray} (hT : T.size ≤ 255) {u0 u1 : Int} (h0 : isByte u0) (h1 : isByte u1) {S C : Nat → Int} {n : Nat} (hS : ∀ j, j < 16 → isByte (S j)) (hC : ∀ j, j < n → isByte (C j)) : ∀ x ∈ qL T u0 u1 S C n, isByte x := by
  intro x hx
  simp only [qL, List.mem_cons, List.mem_append, List.mem_map, List.mem_range, List.not_mem_nil, or_false] at hx
  rcases hx with rfl | hx | (rfl | rfl) | ⟨j, hj, rfl⟩ | ⟨j, hj, rfl⟩
  · unfold isByte; omega
  · exact tb_byte T _ hx
  · exact h0
  · exact h1
  · exact hS j hj
  · exact hC j hj
theorem qV {T : ByteArray} {u0 u1 : Int} {S C : Nat → Int} {n : Nat} : [Value.int .u8 (T.size : Int)] ++ Lib.strCells T ++ [.int .u8 u0, .int .u8 u1] ++ (List.range 16).map (fun j => Value.int .u8 (S j)) ++ (List.range n).map (fun j => Value.int .u8 (C j)) = bytesV (qL T u0 u1 S C n) := by
  rw [strCells_tb]
  simp [qL, bytesV, Function.comp_def]
theorem conv_own {w : World} {base : Nat} {v : Value} {n : Nat} {l : List Int} (h : w.ownsRow base 5 1 v n (bytesV l)) (hb : ∀ x ∈ l, isByte x) : (convert 42 9 v).run Try.prog w = .ok (.string (strOf l)) w := by
  by_cases hl : l = []
  · subst hl
    rcases h.2 with ⟨rfl, _⟩ | ⟨g, cap, cur, rfl, _⟩
    · exact conv_nil w
    · have hn : n = 0 := by simpa [bytesV] using h.1.symm
      subst hn
      exact conv_str (bs := []) Try.underlying42 Try.underlying5 Try.underlying9 w (by simp) (by simp)
  · exact conv_reads (reads_of_own h) hl hb
theorem ownsRow_slicex {w : World} {base : Nat} {e : TypeId} {v : Value} {n : Nat} {xs : List Value} (h : w.ownsRow base e 1 v n xs) : ∃ a c, v = .slice a n c := by
  rcases h.2 with ⟨rfl, rfl⟩ | ⟨g, cap, cur, rfl, _⟩
  · exact ⟨_, _, rfl⟩
  · exact ⟨_, _, rfl⟩
theorem one8x (L : Nat) (b : Nat → Int) : ∀ u ∈ (List.range L).map (fun c => Value.int .u8 (b c)), u.oneCell' = true := by
  intro u hu
  obtain ⟨c, _, rfl⟩ := List.mem_map.1 hu
  rfl
theorem cells16 {w : World} {g t L : Nat} {b : Nat → Int} (B : Blk w g t (rowF L (fun i => .int .u8 (b i)))) (j : Nat) (u : Value) (hj : ((List.range L).map fun c => Value.int .u8 (b c))[j]? = some u) : w.cell? ⟨g, j, none⟩ = some u := by
  have hlt : j < L := by have := (List.getElem?_eq_some_iff.1 hj).1; simpa using this
  rw [List.getElem?_map, List.getElem?_range hlt] at hj
  simp only [Option.map_some, Option.some.injEq] at hj
  rw [← hj]
  exact B.at hlt
theorem cellsA {w : World} {ad : Addr} {n : Nat} {C : Nat → Int} (hC : ∀ j, j < n → w.cell? (ad.add j) = some (.int .u8 (C j))) (j : Nat) (u : Value) (hj : ((List.range n).map fun c => Value.int .u8 (C c))[j]? = some u) : w.cell? (ad.add j) = some u := by
  have hlt : j < n := by have := (List.getElem?_eq_some_iff.1 hj).1; simpa using this
  rw [List.getElem?_map, List.getElem?_range hlt] at hj
  simp only [Option.map_some, Option.some.injEq] at hj
  rw [← hj]
  exact hC j hlt
theorem cellsN {w : World} {g o n : Nat} {C : Nat → Int} (hC : ∀ j, j < n → w.cell? ⟨g, o + j, none⟩ = some (.int .u8 (C j))) (j : Nat) (u : Value) (hj : ((List.range n).map fun c => Value.int .u8 (C c))[j]? = some u) : w.cell? ⟨g, o + j, none⟩ = some u := by
  have hlt : j < n := by have := (List.getElem?_eq_some_iff.1 hj).1; simpa using this
  rw [List.getElem?_map, List.getElem?_range hlt] at hj
  simp only [Option.map_some, Option.some.injEq] at hj
  rw [← hj]
  exact hC j hlt
set_option maxRecDepth 100000 in
set_option maxHeartbeats 8000000 in
theorem x_question_nil (w : World) (T : ByteArray) (hT : T.size ≤ 255) (U u0 u1 : Int) (hw0 : IntKind.u8.wrap U = u0) (hw1 : IntKind.u8.wrap (U / 256) = u1) (h0 : isByte u0) (h1 : isByte u1) (S : Nat → Int) (hS : Hid (∀ j, j < 16 → isByte (S j)))  (C : Nat → Int)  :
    Calls Try.prog 129 #[.string T, .int .u16 U, .agg (rowF 16 (fun j => .int .u8 (S j))), .slice none 0 0] w fun e w' => e = .returned (.string (strOf (qL T u0 u1 S C 0))) ∧ Kept w w' := by
  obtain ⟨g6, hg6⟩ : ∃ g, w.heap.size = g := ⟨_, rfl⟩
  obtain ⟨g13, hg13⟩ : ∃ g, g6 + 1 = g := ⟨_, rfl⟩
  have nw6 : w.heap.size ≤ g6 := by omega
  have hwT : IntKind.u8.wrap (T.size : Int) = (T.size : Int) := by rw [wrap_u8x]; omega
  have lt6 : g6 < g13 := by omega
  go_enter Try.func129, Try.ntmps129
  go_upto_region 2 with (fail)
  try simp only [hg6, hg13]
  refine abs_world (fun W => Kept w W ∧ Blk W g6 77 (rowF 16 (fun j => .int .u8 (S j))) ∧ Blk W g13 5 [Value.int .u8 (T.size : Int)].toArray ∧ g13 ≤ W.heap.size) ⟨?_, ?_, ?_, ?_⟩ ?_
  · have nw13 : w.heap.size ≤ g13 := by omega
    repeat (first | exact Kept.refl _ | (refine Kept.setCell ?_ (kept_side (by first | assumption | omega)) _) | apply Kept.alloc | apply Kept.drew)
  · simp [Blk, *] <;> omega
  · simp [Blk, *] <;> omega
  · simp; omega
  clear hg6 hg13
  rintro W1 ⟨k1, B6, B13, n1⟩
  have own1 := own_blk (base := g13) B13 (Nat.le_refl _) (by simp)
  have ns1 : 0 + 1 = 1 := rfl
  simp only [List.length_cons, List.length_nil, ns1] at own1
  clear B13 ns1
  go_upto_region 3 with (at_builtin; refine app_str own1 T (by omega) n1 (.tmp 14) (.tmp 15) rfl rfl rfl rfl ?_; intro v2 W2 own2 gr2)
  have k2 := grown_kept k1 own1 gr2 (by omega)
  have B2 := grown_blk B6 own1 gr2 lt6
  have n2 := Nat.le_trans n1 gr2.size
  clear k1 B6 own1 gr2 n1
  obtain ⟨m2, hm2⟩ : ∃ m, 1 + T.size = m := ⟨_, rfl⟩
  have lm2 : m2 ≤ 256 := by omega
  rw [hm2] at own2
  clear hm2
  go_upto_region 4 with (at_builtin; refine app_bytes (own2.alloc _) W2.heap.size 0 2 2 [.int .u8 u0, .int .u8 u1] rfl (by simp [Value.oneCell']) (by intro j u hj; rw [Nat.zero_add, World.cell?_alloc_at _ _ _ _ rfl]; simpa using hj) (by omega) (by simp; omega) (.tmp 17) (.tmp 23) rfl rfl rfl rfl ?_; intro v3 W3 own3 gr3 _)
  have k3 := grown_kept (k2.alloc _) (own2.alloc _) gr3 (by omega)
  have B3 := grown_blk (B2.alloc _) (own2.alloc _) gr3 lt6
  have n3 : g13 ≤ W3.heap.size := Nat.le_trans (Nat.le_trans n2 (by simp)) gr3.size
  clear k2 B2 own2 gr3 n2
  go_upto_region 5 with (at_builtin; refine app_bytes own3 g6 0 16 16 ((List.range 16).map fun j => Value.int .u8 (S j)) (by simp) (one8x 16 S) (by intro j u hj; rw [Nat.zero_add]; exact cells16 B3 j u hj) (by omega) n3 (.tmp 25) (.tmp 26) rfl rfl rfl rfl ?_; intro v4 W4 own4 gr4 _)
  have k4 := grown_kept k3 own3 gr4 (by omega)
  have n4 := Nat.le_trans n3 gr4.size
  clear k3 B3 own3 gr4 n3
  have own5 : W4.ownsRow g13 5 1 v4 (m2 + 2 + 16) (bytesV (qL T u0 u1 S C 0)) := by
    rw [← qV]
    simpa only [List.range_zero, List.map_nil, List.append_nil] using own4
  have hcv := conv_own own5 (qL_byte hT h0 h1 hS.out (fun j hj => absurd hj (Nat.not_lt_zero _)))
  go_wp2_with (at_builtin; refine app_nil own4 (.tmp 28) (.tmp 29) rfl rfl rfl rfl ?_)
  go_ret
  exact ⟨rfl, k4⟩
end Go.Proofs.Ytnajihlhcdedgaa

namespace Go.Proofs.Ytnajihlhcdedgaa
open Go.RowKit
set_option linter.unusedVariables false
set_option linter.unusedSimpArgs false
attribute [local simp] blkAt_setCell blkAt_alloc blkAt_drew Obj.put_cells
/-- An oracle: its block b, its map's block M; its draws D (nd of them) lie in blocks below M. -/
structure Orc (w : World) (b M : Nat) (da : Option Addr) (nd dc : Nat) (D : Nat → Int) (pos : Nat) (es : Array MapEntry) (ck : Nat) (av : Value) : Prop where
  blk : Blk w b 143 #[.bool true, .slice da nd dc, .int .i64 (pos : Int), .map (some M), av]
  map : w.heap[M]? = some (.map es ck)
  lt : M < b
  draws : SlB w da nd dc M D
theorem Orc.kept {w w' : World} {b M : Nat} {da : Option Addr} {nd dc : Nat} {D : Nat → Int} {pos : Nat} {es : Array MapEntry} {ck : Nat} {av : Value} (h : Orc w b M da nd dc D pos es ck av) (k : Kept w w') : Orc w' b M da nd dc D pos es ck av :=
  ⟨h.blk.kept k, k.block h.map, h.lt, h.draws.kept k⟩
set_option maxRecDepth 100000 in
set_option maxHeartbeats 1000000 in
theorem x_Oracle (w : World) (sl : Option Addr) (n cap : Nat) (D : Nat → Int) (hn : n ≤ 65536) (hb : (sl = none ∧ n = 0 ∧ cap = 0) ∨ ∃ ad : Addr, sl = some ad ∧ ∀ j, j < n → w.cell? (ad.add j) = some (.int .u8 (D j))) (hD : ∀ j, j < n → 0 ≤ D j ∧ D j ≤ 255) :
    Calls Try.prog 85 #[.slice sl n cap] w fun e w' => ∃ b M da dc, e = .returned (.pointer (some ⟨b, 0, none⟩)) ∧ w.heap.size ≤ M ∧ Orc w' b M da n dc D 0 #[] 0 (.slice none 0 0) ∧ Kept w w' := by
  have own0 : (w.alloc (.cells #[] 5)).ownsRow w.heap.size 5 1 (.slice (some ⟨w.heap.size, 0, none⟩) 0 0) 0 [] := World.ownsRow_made w #[] 0 (Nat.le_refl _) (by decide) rfl
  have hmm := fun w' => run_makeMap (P := Try.prog) 141 w'
  have fin : ∀ W5 v5, W5.ownsRow w.heap.size 5 1 v5 n ((List.range n).map fun j => Value.int .u8 (D j)) → Kept w W5 → ∃ b M da dc, Ending.returned (.pointer (some ⟨W5.heap.size + 1, 0, none⟩)) = Ending.returned (.pointer (some ⟨b, 0, none⟩)) ∧ w.heap.size ≤ M ∧
      Orc ((W5.alloc (.map #[] 0)).alloc (.cells #[.bool true, v5, .int .i64 0, .map (some W5.heap.size), .slice none 0 0] 143)) b M da n dc D 0 #[] 0 (.slice none 0 0) ∧ Kept w ((W5.alloc (.map #[] 0)).alloc (.cells #[.bool true, v5, .int .i64 0, .map (some W5.heap.size), .slice none 0 0] 143)) := fun W5 v5 own5 k5 => by
    obtain ⟨da, dc, rfl⟩ := ownsRow_slicex own5
    have hs := SlB.of_own own5 hD
    have e : (W5.alloc (.map #[] 0)).heap.size = W5.heap.size + 1 := by simp
    refine ⟨_, W5.heap.size, da, dc, rfl, k5.size, ⟨?_, ?_, Nat.lt_succ_self _, (hs.kept ((Kept.refl W5).alloc _)).kept ((Kept.refl _).alloc _)⟩, (k5.alloc _).alloc _⟩
    · have := Blk.new (W5.alloc (.map #[] 0)) 143 #[.bool true, .slice da n dc, .int .i64 0, .map (some W5.heap.size), .slice none 0 0]
      rw [e] at this
      exact this
    · exact (heap_alloc_old _ _ (by rw [e]; omega)).trans (heap_alloc_new W5 _)
  rcases hb with ⟨rfl, rfl, rfl⟩ | ⟨ad, rfl, hc⟩
  · go_enter Try.func85, Try.ntmps85
    go_wp2_with (at_builtin; refine app_nil own0 (.tmp 3) (.tmp 4) rfl rfl rfl rfl ?_)
    refine ⟨rfl, .pointer (some ⟨w.heap.size + 1 + 1, 0, none⟩), by simp [results, Try.results85, go_sem], ?_⟩
    have f := fin _ _ own0 ((Kept.refl w).alloc _)
    simpa using f
  · go_enter Try.func85, Try.ntmps85
    go_wp2_with (at_builtin; refine app_bytesA own0 ad n cap ((List.range n).map fun j => Value.int .u8 (D j)) (by simp) (one8x n D) (by intro j u hj; exact ((Kept.refl w).alloc _).cell (cellsA hc j u hj)) (by omega) (by simp) (.tmp 3) (.tmp 4) rfl rfl rfl rfl ?_; intro v5 W5 own5 gr5 _; rw [Nat.zero_add, List.nil_append] at own5; obtain ⟨da, dc, rfl⟩ := ownsRow_slicex own5)
    have k5 := grown_kept ((Kept.refl w).alloc _) own0 gr5 (Nat.le_refl _)
    clear own0 gr5
    go_ret
    exact fin _ _ own5 k5
end Go.Proofs.Ytnajihlhcdedgaa

namespace Go.Proofs.Ytnajihlhcdedgaa
open Go.RowKit
set_option linter.unusedVariables false
set_option linter.unusedSimpArgs false
attribute [local simp] blkAt_setCell blkAt_alloc blkAt_drew Obj.put_cells
theorem size77x : (Try.prog.info? 77).map (·.size) = some 16 := by kernel_rfl
theorem info9 : (Try.prog.info? 9).map (fun i => (i.zero, i.size, i.bytes)) = some (some (.string ⟨#[]⟩), 1, 16) := by kernel_rfl
section
variable {ops : Array Oper} {rest : List Oper} {o : Oper} {a : Act} {Q : Exit → Act → World → Prop} {wr : World} {base : Nat} {v : Value} {n : Nat} {xs : List Value}
/-- A string appended to a row of strings; it lies in a block that was just made. -/
theorem append_str1 (hown : wr.ownsRow base 9 1 v n xs) (q : ByteArray) (hn : n ≤ 1000000) (hbase : base ≤ wr.heap.size) (s x : Operand) (hgd : o.guard = none) (ho : o.op = .call { callee := .builtin .append, args := #[s, x], argTypes := #[86, 86] })
    (hs : a.eval s = v) (hx : a.eval x = .slice (some ⟨wr.heap.size, 0, none⟩) 1 1)
    (h : ∀ v' w', w'.ownsRow base 9 1 v' (n + 1) (xs ++ [.string q]) → wr.grownBy w' v.ownBlock → (v'.ownBlock = v.ownBlock ∨ v'.ownBlock = some (wr.heap.size + 1)) → wpList Try.prog ops Q rest (a.put o.dst v') w') :
    wpList Try.prog ops Q (o :: rest) a (wr.alloc (.cells #[.string q] 9)) := by
  obtain ⟨i, hi, hz0, hz1, hz2⟩ := info_parts info9
  refine wpList_append_own_at _ hgd s x 86 ho base 9 i _ 1 16 Try.underlying86 hi hz0 hz1 hz2 rfl (by decide) v n xs hs (hown.alloc _) ⟨wr.heap.size, 0, none⟩ 1 1 [.string q] hx rfl (cell_one_new _ _ _) (by simp [Value.oneCell']) (by unfold maxLen; omega) (by omega) (by simp; omega) ?_
  intro v' w' h2 h3 _ h5
  refine h v' w' h2 ⟨h3.os, h3.tape, h3.output, Nat.le_trans (by simp) h3.size, fun k hk hne => ?_⟩ (by simpa using h5)
  rw [h3.block k (by simp; omega) hne]
  exact heap_alloc_old wr _ hk
end
/-- A stream of an oracle: its block. -/
abbrev OStr (w : World) (x b : Nat) (Q : ByteArray) (at' : Nat) (skip : Int) : Prop := Blk w x 146 #[.pointer (some ⟨b, 0, none⟩), .pointer none, .string Q, .int .i64 (at' : Int), .int .i64 skip]
theorem Orc.chg {S : Nat → Prop} {w w' : World} {b M : Nat} {da : Option Addr} {nd dc : Nat} {D : Nat → Int} {pos : Nat} {es : Array MapEntry} {ck : Nat} {av : Value} (h : Orc w b M da nd dc D pos es ck av) (k : Chg S w w') (hb : ¬ S b) (hM : ∀ i, i ≤ M → ¬ S i) : Orc w' b M da nd dc D pos es ck av :=
  ⟨k.blk h.blk hb, k.heap h.map (hM M (Nat.le_refl _)), h.lt, k.slB h.draws fun i hi => hM i (Nat.le_of_lt hi)⟩
set_option maxRecDepth 100000 in
set_option maxHeartbeats 1000000 in
theorem x_Stream_old (w : World) (b M : Nat) (da : Option Addr) (nd dc : Nat) (D : Nat → Int) (pos : Nat) (es : Array MapEntry) (ck : Nat) (av : Value) (ho : Orc w b M da nd dc D pos es ck av)
    (T : ByteArray) (hT : T.size ≤ 255) (U : Int) (S : Nat → Int) (Qs : ByteArray)
    (HQ : Hid (∀ W, Kept w W → Calls Try.prog 129 #[.string T, .int .u16 U, .agg (rowF 16 (fun j => .int .u8 (S j))), .slice none 0 0] W fun e w' => e = .returned (.string Qs) ∧ Kept W w')) (u : Value) (i : Nat) (hf : Instr.findNow .string (.string Qs) es.toList 0 = some (some (i, u))) :
    Calls Try.prog 71 #[.pointer (some ⟨b, 0, none⟩), .string T, .int .u16 U, .agg (rowF 16 (fun j => .int .u8 (S j))), .slice none 0 0] w fun e w' => ∃ x, e = .returned (.pointer (some ⟨x, 0, none⟩)) ∧ w.heap.size ≤ x ∧ OStr w' x b Qs 0 0 ∧ Kept w w' := by
  obtain ⟨g8, hg8⟩ : ∃ g, w.heap.size = g := ⟨_, rfl⟩
  have nw8 : w.heap.size ≤ g8 := by omega
  have yT : (T.size : Int) ≤ 255 := by omega
  go_enter Try.func71, Try.ntmps71
  go_upto_region 3 with (fail)
  try simp only [hg8]
  refine abs_world (fun W => Kept w W ∧ Blk W g8 77 (rowF 16 (fun j => .int .u8 (S j)))) ⟨?_, ?_⟩ ?_
  · repeat (first | exact Kept.refl _ | (refine Kept.setCell ?_ (kept_side (by first | assumption | omega)) _) | apply Kept.alloc | apply Kept.drew)
  · simp [Blk, *] <;> omega
  clear hg8
  rintro W1 ⟨k1, B1⟩
  go_wp2_with (refine wpList_load_part 77 (.tmp 8) B1 (Nat.le_refl _) Try.underlying77 size77x rfl rfl rfl ?_)
  refine (HQ.out _ k1).mono ?_
  rintro e W2 ⟨rfl, hk⟩
  have k2 := k1.trans hk
  clear k1 B1 hk
  obtain ⟨x, hx⟩ : ∃ g, W2.heap.size = g := ⟨_, rfl⟩
  have nwx : w.heap.size ≤ x := hx ▸ k2.size
  have ltb := ho.blk.lt
  have ltM := ho.lt
  have nex : b ≠ x := by omega
  have nex' : x ≠ b := nex.symm
  go_upto_region 5 with (fail)
  try simp only [hx]
  refine abs_world (fun W => Kept W2 W ∧ Blk W x 146 #[.pointer (some ⟨b, 0, none⟩), .pointer none, .string Qs, .int .i64 0, .int .i64 0]) ⟨?_, ?_⟩ ?_
  · have nw9 : W2.heap.size ≤ x := by omega
    repeat (first | exact Kept.refl _ | (refine Kept.setCell ?_ (kept_side (by first | assumption | omega)) _) | apply Kept.alloc | apply Kept.drew)
  · simp [Blk, *] <;> omega
  clear hx
  rintro W3 ⟨hk, B3⟩
  have k3 := k2.trans hk
  have o3 := ho.kept k3
  clear k2 hk
  have c0 := o3.blk.cell 0 rfl
  have c3 := o3.blk.cell 3 rfl
  have hl := run_lookup_yes_ok o3.map hf
  go_wp2_with fail
  go_ret
  exact ⟨x, rfl, nwx, B3, k3⟩
set_option maxRecDepth 100000 in
set_option maxHeartbeats 1000000 in
theorem x_Stream_new (w : World) (b M : Nat) (da : Option Addr) (nd dc : Nat) (D : Nat → Int) (pos : Nat) (es : Array MapEntry) (ck : Nat) (av : Value) (ho : Orc w b M da nd dc D pos es ck av)
    (T : ByteArray) (hT : T.size ≤ 255) (U : Int) (S : Nat → Int) (Qs : ByteArray)
    (HQ : Hid (∀ W, Kept w W → Calls Try.prog 129 #[.string T, .int .u16 U, .agg (rowF 16 (fun j => .int .u8 (S j))), .slice none 0 0] W fun e w' => e = .returned (.string Qs) ∧ Kept W w')) (hf : Instr.findNow .string (.string Qs) es.toList 0 = some none) (na : Nat) (xa : List Value) (hna : na ≤ 1000000) (hav : w.ownsRow (b + 1) 9 1 av na xa) :
    Calls Try.prog 71 #[.pointer (some ⟨b, 0, none⟩), .string T, .int .u16 U, .agg (rowF 16 (fun j => .int .u8 (S j))), .slice none 0 0] w fun e w' => ∃ x av', e = .returned (.pointer (some ⟨x, 0, none⟩)) ∧ w.heap.size ≤ x ∧ OStr w' x b Qs 0 0 ∧ Orc w' b M da nd dc D pos (es.push { key := .string Qs, val := .slice none 0 0, born := ck }) (ck + 1) av' ∧
      w'.ownsRow (b + 1) 9 1 av' (na + 1) (xa ++ [.string Qs]) ∧ (∀ g, av'.ownBlock = some g → g ≠ x) ∧ Chg (fun i => i = b ∨ i = M ∨ av.ownBlock = some i) w w' := by
  obtain ⟨g8, hg8⟩ : ∃ g, w.heap.size = g := ⟨_, rfl⟩
  have nw8 : w.heap.size ≤ g8 := by omega
  have yT : (T.size : Int) ≤ 255 := by omega
  go_enter Try.func71, Try.ntmps71
  go_upto_region 3 with (fail)
  try simp only [hg8]
  refine abs_world (fun W => Kept w W ∧ Blk W g8 77 (rowF 16 (fun j => .int .u8 (S j)))) ⟨?_, ?_⟩ ?_
  · repeat (first | exact Kept.refl _ | (refine Kept.setCell ?_ (kept_side (by first | assumption | omega)) _) | apply Kept.alloc | apply Kept.drew)
  · simp [Blk, *] <;> omega
  clear hg8
  rintro W1 ⟨k1, B1⟩
  go_wp2_with (refine wpList_load_part 77 (.tmp 8) B1 (Nat.le_refl _) Try.underlying77 size77x rfl rfl rfl ?_)
  refine (HQ.out _ k1).mono ?_
  rintro e W2 ⟨rfl, hk⟩
  have k2 := k1.trans hk
  clear k1 B1 hk
  obtain ⟨x, hx⟩ : ∃ g, W2.heap.size = g := ⟨_, rfl⟩
  have nwx : w.heap.size ≤ x := hx ▸ k2.size
  have ltb := ho.blk.lt
  have ltM := ho.lt
  have nex : b ≠ x := by omega
  have nex' : x ≠ b := nex.symm
  go_upto_region 5 with (fail)
  try simp only [hx]
  refine abs_world (fun W => Kept W2 W ∧ Blk W x 146 #[.pointer (some ⟨b, 0, none⟩), .pointer none, .string Qs, .int .i64 0, .int .i64 0]) ⟨?_, ?_⟩ ?_
  · have nw9 : W2.heap.size ≤ x := by omega
    repeat (first | exact Kept.refl _ | (refine Kept.setCell ?_ (kept_side (by first | assumption | omega)) _) | apply Kept.alloc | apply Kept.drew)
  · simp [Blk, *] <;> omega
  clear hx
  rintro W3 ⟨hk, B3⟩
  have k3 := k2.trans hk
  have o3 := ho.kept k3
  clear k2 hk
  have c0 := o3.blk.cell 0 rfl
  have c3 := o3.blk.cell 3 rfl
  have hl := run_lookup_no_ok o3.map hf
  have hu := run_putNew (v := .slice none 0 0) o3.map hf
  have hav3 := ownsRow_kept hav k3
  have hal : ∀ g, av.ownBlock = some g → b + 1 ≤ g ∧ g < w.heap.size := fun g hg => own_lt hav hg
  go_upto_region 12 with (fail)
  refine abs_world (fun W => Chg (fun i => i = M) W3 W ∧ W.heap[M]? = some (.map (es.push { key := .string Qs, val := .slice none 0 0, born := ck }) (ck + 1))) ⟨chg_putMap _ _ _, putMap_at _ _ (by have := o3.blk.lt; omega)⟩ ?_
  clear hl hu c0 c3
  rintro W4 ⟨k4, hM4⟩
  have B4 := k4.blk o3.blk (by omega)
  have X4 := k4.blk B3 (by omega)
  have d4 := k4.slB o3.draws (fun i hi => by omega)
  have hav4 := k4.own hav3 (fun g hg => by have := hal g hg; omega)
  have kk4 : Chg (fun i => i = b ∨ i = M ∨ av.ownBlock = some i) w W4 := (Chg.of_kept k3).trans k4 fun i _ h => .inr (.inl h)
  have hsz : b + 1 ≤ W4.heap.size := by have := B4.lt; omega
  clear B3 o3 k4 hav3 k3
  have c4 := B4.cell 4 rfl
  go_wp2_with (at_builtin; refine append_str1 hav4 Qs (by omega) hsz (.tmp 73) (.tmp 75) rfl rfl rfl rfl ?_; intro v5 W5 own5 gr5 at5; have B5 := grown_blk B4 hav4 gr5 (Nat.lt_succ_self b); have c5 := B5.cell 4 rfl; have f5 := B5.free; have own6 := own5; obtain ⟨a5, n5, p5, rfl⟩ := ownsRow_slice own5)
  go_ret
  have kg := chg_grown gr5
  have X5 := kg.blk X4 (fun h => by have := hal x h; omega)
  have M5 := kg.heap hM4 (fun h => by have := hal M h; omega)
  have d5 := kg.slB d4 (fun i hi h => by have := hal i h; omega)
  have ks := chg_set W5 b 4 (.slice a5 n5 p5)
  have at6 : ∀ g, (Value.slice a5 n5 p5).ownBlock = some g → g ≠ x ∧ b + 1 ≤ g := fun g hg => by
    have h1 := own_lt own5 hg
    refine ⟨?_, h1.1⟩
    rcases at5 with h | h
    · rw [h] at hg
      have := hal g hg
      omega
    · rw [h] at hg
      have := X4.lt
      injection hg with hg
      omega
  refine ⟨x, _, rfl, nwx, ks.blk X5 nex', ⟨?_, ks.heap M5 (by omega), ho.lt, ks.slB d5 (fun i hi => by omega)⟩, ks.own own5 (fun g hg => by have := at6 g hg; omega), fun g hg => (at6 g hg).1, ?_⟩
  · simp [Blk, *]
  · refine (kk4.grown gr5 fun g hg => .inl (.inr (.inr hg))).trans ks fun i _ h => .inl h
end Go.Proofs.Ytnajihlhcdedgaa
