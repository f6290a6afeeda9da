/-
  The permutation's parts: move, bend.
-/
import Derived.Test.YtnajihlhcdedgaaK3
namespace Go.Proofs.Ytnajihlhcdedgaa
open Go.RowKit
set_option linter.unusedVariables false
set_option linter.unusedSimpArgs false

/-- By how much each lane is turned. -/
def turnL : List Nat := [0, 1, 62, 28, 27, 36, 44, 6, 55, 20, 3, 10, 43, 25, 39, 41, 45, 15, 21, 8, 18, 2, 61, 56, 14]
def turnN (i : Nat) : Nat := turnL.getD i 0
theorem turnN_lt : ∀ i, i < 25 → turnN i < 64 := by decide
theorem size155 : (Try.prog.info? 155).map (·.size) = some 25 := by kernel_rfl
theorem size61 : (Try.prog.info? 61).map (·.size) = some 25 := by kernel_rfl
theorem size60 : (Try.prog.info? 60).map (·.size) = some 25 := by kernel_rfl
theorem size134 : (Try.prog.info? 134).map (·.size) = some 12 := by kernel_rfl

set_option maxRecDepth 100000 in
set_option maxHeartbeats 4000000 in
theorem k_turns : Pure Try.prog 135 #[] (.agg (rowF 25 (fun i => .int .i64 (turnN i)))) := fun w => by
  have hb : Try.prog.built 155 [(0, Value.int .i64 0), (1, Value.int .i64 1), (2, Value.int .i64 62), (3, Value.int .i64 28), (4, Value.int .i64 27), (5, Value.int .i64 36), (6, Value.int .i64 44), (7, Value.int .i64 6), (8, Value.int .i64 55), (9, Value.int .i64 20), (10, Value.int .i64 3), (11, Value.int .i64 10), (12, Value.int .i64 43), (13, Value.int .i64 25), (14, Value.int .i64 39), (15, Value.int .i64 41), (16, Value.int .i64 45), (17, Value.int .i64 15), (18, Value.int .i64 21), (19, Value.int .i64 8), (20, Value.int .i64 18), (21, Value.int .i64 2), (22, Value.int .i64 61), (23, Value.int .i64 56), (24, Value.int .i64 14)] = some (rowF 25 (fun i => .int .i64 (turnN i))) := by kernel_rfl
  go_enter Try.func135, Try.ntmps135
  go_upto_region 1 with (fail)
  refine abs_world (fun W => Kept w W ∧ Blk W w.heap.size 155 (rowF 25 (fun i => .int .i64 0))) ?_ ?_
  · exact ⟨(Kept.refl w).alloc _, Blk.new _ _ _⟩
  rintro W1 ⟨k1, B1⟩
  go_wp2_with (first | (refine wpList_build rfl 155 _ rfl (by simp only [Act.eval]; exact congrArg Option.isSome hb) ?_; simp only [show (Try.prog.built 155 _) = _ from hb, Option.getD_some]) | (refine wpList_store_part (h' := fun i => .int .i64 (turnN i)) 155 (.tmp 0) (.tmp 1) B1 (Nat.le_refl _) size155 (fun _ => rfl) rfl rfl rfl rfl ?_))
  refine ret_blk rfl (B1.setRow _) Try.underlying155 (by rw [rowF_size]; exact size155) rfl rfl (And.intro ?_ (k1.setRow (Nat.le_refl _) _))
  rw [rowF_congr (g := fun i => Value.int .i64 (turnN i)) fun j hj => by rw [if_pos hj]]

/-- What is added in each round. -/
def conL : List Int := [2147516555, 9223372036854775947, 9223372036854808713, 9223372036854808579, 9223372036854808578, 9223372036854775936, 32778, 9223372039002259466, 9223372039002292353, 9223372036854808704, 2147483649, 9223372039002292232]
def conN (i : Nat) : Int := conL.getD i 0
set_option maxRecDepth 100000 in
set_option maxHeartbeats 4000000 in
theorem k_cons : Pure Try.prog 121 #[] (.agg (rowF 12 (fun i => .int .u64 (conN i)))) := fun w => by
  have hb : Try.prog.built 134 [(0, Value.int .u64 2147516555), (1, Value.int .u64 9223372036854775947), (2, Value.int .u64 9223372036854808713), (3, Value.int .u64 9223372036854808579), (4, Value.int .u64 9223372036854808578), (5, Value.int .u64 9223372036854775936), (6, Value.int .u64 32778), (7, Value.int .u64 9223372039002259466), (8, Value.int .u64 9223372039002292353), (9, Value.int .u64 9223372036854808704), (10, Value.int .u64 2147483649), (11, Value.int .u64 9223372039002292232)] = some (rowF 12 (fun i => .int .u64 (conN i))) := by kernel_rfl
  go_enter Try.func121, Try.ntmps121
  go_upto_region 1 with (fail)
  refine abs_world (fun W => Kept w W ∧ Blk W w.heap.size 134 (rowF 12 (fun i => .int .u64 0))) ?_ ?_
  · exact ⟨(Kept.refl w).alloc _, Blk.new _ _ _⟩
  rintro W1 ⟨k1, B1⟩
  go_wp2_with (first | (refine wpList_build rfl 134 _ rfl (by simp only [Act.eval]; exact congrArg Option.isSome hb) ?_; simp only [show (Try.prog.built 134 _) = _ from hb, Option.getD_some]) | (refine wpList_store_part (h' := fun i => .int .u64 (conN i)) 134 (.tmp 0) (.tmp 1) B1 (Nat.le_refl _) size134 (fun _ => rfl) rfl rfl rfl rfl ?_))
  refine ret_blk rfl (B1.setRow _) Try.underlying134 (by rw [rowF_size]; exact size134) rfl rfl (And.intro ?_ (k1.setRow (Nat.le_refl _) _))
  rw [rowF_congr (g := fun i => Value.int .u64 (conN i)) fun j hj => by rw [if_pos hj]]
end Go.Proofs.Ytnajihlhcdedgaa
