/-
  The reference's Size, In, Bytes, Take: what they answer.
-/
import Derived.Test.YtnajihlhcdedgaaR2
import Derived.Test.YtnajihlhcdedgaaMark
import Derived.Test.YtnajihlhcdedgaaBlk
namespace Go.Proofs.Ytnajihlhcdedgaa
open Go.RowKit
set_option linter.unusedVariables false
set_option linter.unusedSimpArgs false
attribute [local simp] blkAt_setCell blkAt_alloc blkAt_drew Obj.put_cells

theorem ref_Size {f : Int} (hf : isF f) : Pure Try.prog 107 #[.int .i64 f] (.int .i64 (8 * f)) := fun w => by
  have h0 : 0 ≤ f := by unfold isF at hf; omega
  have h1 : f ≤ 2 := by unfold isF at hf; omega
  clear hf
  go_enter Try.func107, Try.ntmps107
  go_wp2_with fail
  go_ret
  exact ⟨rfl, Kept.refl _⟩

set_option maxRecDepth 100000 in
set_option maxHeartbeats 4000000 in
theorem ref_In_raw1 (a0 a1 : Int) (e : Bool) (p : Value)
    (hP : Pure Try.prog 59 #[.int .i64 1] p) (hL : Pure Try.prog 113 #[.agg #[.int .u64 a0, .int .u64 a1], p] (.bool e)) :
    Pure Try.prog 93 #[.int .i64 1, .agg #[.int .u64 a0, .int .u64 a1]] (.bool e) := fun w => by
  have HP := Lib.hid hP
  have HL := Lib.hid hL
  clear hP hL
  go_enter Try.func93, Try.ntmps93
  go_wp2_with fail
  refine abs_world (fun W => Kept w W ∧ Blk W (w.heap.size) 28 #[.int .u64 a0, .int .u64 a1]) ?_ ?_
  · refine ⟨?_, ?_⟩
    · repeat (first | exact Kept.refl _ | (refine Kept.setCell ?_ (kept_side (by first | assumption | omega)) _) | apply Kept.alloc | apply Kept.drew)
    · simp [Blk, *] <;> (intros; omega)
  rintro W1 ⟨kW1, BW1_0⟩
  have cW1_0_0 : W1.cell? ⟨w.heap.size, 0, none⟩ = some (.int .u64 a0) := BW1_0.cell 0 rfl
  have cW1_0_1 : W1.cell? ⟨w.heap.size, 1, none⟩ = some (.int .u64 a1) := BW1_0.cell 1 rfl
  have fW1_0 := BW1_0.free
  refine wp_region_calm 12 (by kernel_rfl) (by kernel_rfl) ?_
  simp only [List.take_succ_cons, List.take_zero, List.drop_succ_cons, List.drop_zero]
  repeat (first
    | (refine calm_skip rfl ?_; simp only [Act.put, List.setIfInBounds_toArray, List.set_cons_zero, List.set_cons_succ])
    | (refine calm_ex rfl ?_; apply Exists.intro; refine And.intro (fun w' hk => ?_) ?_; (focus (have q0 := hk.cell cW1_0_0; have q1 := hk.cell cW1_0_1; clear hk; go_simp; exact rfl)); simp only [Act.put, List.setIfInBounds_toArray, List.set_cons_zero, List.set_cons_succ])
    | (refine calm_step _ rfl (HP.out.call ?_) ?_; (focus (intro w'; go_simp; done)); simp only [Act.put, List.setIfInBounds_toArray, List.set_cons_zero, List.set_cons_succ])
    | (refine calm_step _ rfl (HL.out.call ?_) ?_; (focus (intro w'; go_simp; done)); simp only [Act.put, List.setIfInBounds_toArray, List.set_cons_zero, List.set_cons_succ]))
  refine calm_nil ?_
  intro W2 hkW2
  have kW2 := kW1.trans hkW2
  have BW2_0 := BW1_0.kept hkW2
  clear cW1_0_0 cW1_0_1 fW1_0 BW1_0 kW1 hkW2
  have cW2_0_0 : W2.cell? ⟨w.heap.size, 0, none⟩ = some (.int .u64 a0) := BW2_0.cell 0 rfl
  have cW2_0_1 : W2.cell? ⟨w.heap.size, 1, none⟩ = some (.int .u64 a1) := BW2_0.cell 1 rfl
  have fW2_0 := BW2_0.free
  go_wp2_with fail
  go_ret
  exact ⟨rfl, kW2⟩

set_option maxRecDepth 100000 in
set_option maxHeartbeats 4000000 in
theorem ref_In_raw2 (a0 a1 : Int) (e : Bool) (p : Value)
    (hP : Pure Try.prog 59 #[.int .i64 2] p) (hL : Pure Try.prog 113 #[.agg #[.int .u64 a0, .int .u64 a1], p] (.bool e)) :
    Pure Try.prog 93 #[.int .i64 2, .agg #[.int .u64 a0, .int .u64 a1]] (.bool e) := fun w => by
  have HP := Lib.hid hP
  have HL := Lib.hid hL
  clear hP hL
  go_enter Try.func93, Try.ntmps93
  go_wp2_with fail
  refine abs_world (fun W => Kept w W ∧ Blk W (w.heap.size) 28 #[.int .u64 a0, .int .u64 a1]) ?_ ?_
  · refine ⟨?_, ?_⟩
    · repeat (first | exact Kept.refl _ | (refine Kept.setCell ?_ (kept_side (by first | assumption | omega)) _) | apply Kept.alloc | apply Kept.drew)
    · simp [Blk, *] <;> (intros; omega)
  rintro W1 ⟨kW1, BW1_0⟩
  have cW1_0_0 : W1.cell? ⟨w.heap.size, 0, none⟩ = some (.int .u64 a0) := BW1_0.cell 0 rfl
  have cW1_0_1 : W1.cell? ⟨w.heap.size, 1, none⟩ = some (.int .u64 a1) := BW1_0.cell 1 rfl
  have fW1_0 := BW1_0.free
  refine wp_region_calm 12 (by kernel_rfl) (by kernel_rfl) ?_
  simp only [List.take_succ_cons, List.take_zero, List.drop_succ_cons, List.drop_zero]
  repeat (first
    | (refine calm_skip rfl ?_; simp only [Act.put, List.setIfInBounds_toArray, List.set_cons_zero, List.set_cons_succ])
    | (refine calm_ex rfl ?_; apply Exists.intro; refine And.intro (fun w' hk => ?_) ?_; (focus (have q0 := hk.cell cW1_0_0; have q1 := hk.cell cW1_0_1; clear hk; go_simp; exact rfl)); simp only [Act.put, List.setIfInBounds_toArray, List.set_cons_zero, List.set_cons_succ])
    | (refine calm_step _ rfl (HP.out.call ?_) ?_; (focus (intro w'; go_simp; done)); simp only [Act.put, List.setIfInBounds_toArray, List.set_cons_zero, List.set_cons_succ])
    | (refine calm_step _ rfl (HL.out.call ?_) ?_; (focus (intro w'; go_simp; done)); simp only [Act.put, List.setIfInBounds_toArray, List.set_cons_zero, List.set_cons_succ]))
  refine calm_nil ?_
  intro W2 hkW2
  have kW2 := kW1.trans hkW2
  have BW2_0 := BW1_0.kept hkW2
  clear cW1_0_0 cW1_0_1 fW1_0 BW1_0 kW1 hkW2
  have cW2_0_0 : W2.cell? ⟨w.heap.size, 0, none⟩ = some (.int .u64 a0) := BW2_0.cell 0 rfl
  have cW2_0_1 : W2.cell? ⟨w.heap.size, 1, none⟩ = some (.int .u64 a1) := BW2_0.cell 1 rfl
  have fW2_0 := BW2_0.free
  go_wp2_with fail
  go_ret
  exact ⟨rfl, kW2⟩

theorem ref_In {f a : Int} (hf : isF f) (ha : is128 a) : Pure Try.prog 93 #[.int .i64 f, E a] (.bool (decide (a < rP f))) := by
  have hP := ref_P hf
  have hL := ref_Less ha (is128_rP f)
  rcases hf with rfl | rfl
  · exact ref_In_raw1 _ _ _ _ hP hL
  · exact ref_In_raw2 _ _ _ _ hP hL
end Go.Proofs.Ytnajihlhcdedgaa
