/-
  QuantBack: the walk.
-/
import Derived.Test.YtbpmgdneiejhoaaQ9
import Derived.Deep.Cut
namespace Go.Proofs.Ytbpmgdneiejhoaa
open Go.RowKit
set_option linter.unusedVariables false
set_option linter.unusedSimpArgs false
attribute [local go_sem] run_store_float
attribute [local simp] blkAt_setCell blkAt_alloc blkAt_drew Obj.put_cells

set_option maxRecDepth 100000 in
set_option maxHeartbeats 4000000 in
theorem quant_Awake_raw (hW : Pure Try.prog 13 #[.agg #[.float .f64 13830554455654793216, .float .f64 4602678819172646912, .int .u32 4], .float .f64 13821547256400052224] (.tuple #[.int .u32 2, .int .i64 0])) : Pure Try.prog 7 #[] (.bool true) := fun w => by
  have HW := Lib.hid hW
  clear hW
  go_enter Try.func7, Try.ntmps7
  go_wp2_with fail
  refine (HW.out _).mono ?_
  rintro e w1 ⟨rfl, hk⟩
  go_wp2_with fail
  go_ret
  exact ⟨rfl, hk⟩

set_option maxRecDepth 100000 in
set_option maxHeartbeats 4000000 in
theorem quant_back_raw (l s k n m : Int) (low step y : Nat) (steps : Int) (s0 : 1 ≤ steps) (s1 : steps ≤ 65536) (n0 : 0 ≤ n) (n1 : n ≤ 4294967295) (hm : n % (steps + 1) = m)
    (hA : Pure Try.prog 7 #[] (.bool true)) (hS : Pure Try.prog 8 #[.agg #[.int .i16 l, .int .i16 s, .int .i16 k]] (.agg #[.float .f64 low, .float .f64 step, .int .u32 steps]))
    (hN : Pure Try.prog 14 #[.agg #[.float .f64 low, .float .f64 step, .int .u32 steps], .int .u32 m] (.tuple #[.float .f64 y, .int .i64 0]))
    (hW : Pure Try.prog 13 #[.agg #[.float .f64 low, .float .f64 step, .int .u32 steps], .float .f64 y] (.tuple #[.int .u32 m, .int .i64 0]))
    (hI : Pure Try.prog 16 #[.int .i64 (-1)] (.float .f64 18442240474082181120)) (hX : Pure Try.prog 13 #[.agg #[.float .f64 low, .float .f64 step, .int .u32 steps], .float .f64 18442240474082181120] (.tuple #[.int .u32 0, .int .i64 0]))
    (hJ : Pure Try.prog 16 #[.int .i64 1] (.float .f64 9218868437227405312)) (hY : Pure Try.prog 13 #[.agg #[.float .f64 low, .float .f64 step, .int .u32 steps], .float .f64 9218868437227405312] (.tuple #[.int .u32 steps, .int .i64 0]))
    (w : World) : Calls Try.prog 5 #[.agg #[.int .i16 l, .int .i16 s, .int .i16 k], .int .u32 n] w fun e w' => e = .returned (.bool true) ∧ Kept w w' := by
  have HA := Lib.hid hA
  have HS := Lib.hid hS
  have HN := Lib.hid hN
  have HW := Lib.hid hW
  have HI := Lib.hid hI
  have HX := Lib.hid hX
  have HJ := Lib.hid hJ
  have HY := Lib.hid hY
  clear hA hS hN hW hI hX hJ hY
  go_enter Try.func5, Try.ntmps5
  go_wp2_with fail
  refine abs_calls (fun W => Kept w W ∧ Blk W (w.heap.size) 28 #[.int .i16 l, .int .i16 s, .int .i16 k]) ?_ ?_
  · refine ⟨?_, ?_⟩
    · repeat (first | exact Kept.refl _ | (refine Kept.setCell ?_ (kept_side (by first | assumption | omega)) _) | apply Kept.alloc | apply Kept.drew)
    · simp [Blk, *] <;> (intros; omega)
  rintro W1 ⟨kW1, BW1_0⟩
  have cW1_0_0 : W1.cell? ⟨w.heap.size, 0, none⟩ = some (.int .i16 l) := BW1_0.cell 0 rfl
  have cW1_0_1 : W1.cell? ⟨w.heap.size, 1, none⟩ = some (.int .i16 s) := BW1_0.cell 1 rfl
  have cW1_0_2 : W1.cell? ⟨w.heap.size, 2, none⟩ = some (.int .i16 k) := BW1_0.cell 2 rfl
  have fW1_0 := BW1_0.free
  refine (HA.out _).mono ?_
  rintro e W2 ⟨rfl, hkW2⟩
  have kW2 := kW1.trans hkW2
  have BW2_0 := BW1_0.kept hkW2
  clear cW1_0_0 cW1_0_1 cW1_0_2 fW1_0 BW1_0 kW1 hkW2
  have cW2_0_0 : W2.cell? ⟨w.heap.size, 0, none⟩ = some (.int .i16 l) := BW2_0.cell 0 rfl
  have cW2_0_1 : W2.cell? ⟨w.heap.size, 1, none⟩ = some (.int .i16 s) := BW2_0.cell 1 rfl
  have cW2_0_2 : W2.cell? ⟨w.heap.size, 2, none⟩ = some (.int .i16 k) := BW2_0.cell 2 rfl
  have fW2_0 := BW2_0.free
  go_wp2_with fail
  refine (HS.out _).mono ?_
  rintro e W3 ⟨rfl, hkW3⟩
  have kW3 := kW2.trans hkW3
  have BW3_0 := BW2_0.kept hkW3
  clear cW2_0_0 cW2_0_1 cW2_0_2 fW2_0 BW2_0 kW2 hkW3
  have cW3_0_0 : W3.cell? ⟨w.heap.size, 0, none⟩ = some (.int .i16 l) := BW3_0.cell 0 rfl
  have cW3_0_1 : W3.cell? ⟨w.heap.size, 1, none⟩ = some (.int .i16 s) := BW3_0.cell 1 rfl
  have cW3_0_2 : W3.cell? ⟨w.heap.size, 2, none⟩ = some (.int .i16 k) := BW3_0.cell 2 rfl
  have fW3_0 := BW3_0.free
  obtain ⟨g5, hg5⟩ : ∃ b, W3.heap.size = b := ⟨_, rfl⟩
  have neg5_0 : w.heap.size ≠ g5 := by have := BW3_0.lt; omega
  have eng5_0 : g5 ≠ w.heap.size := neg5_0.symm
  have log5 : w.heap.size ≤ g5 := hg5 ▸ kW3.size
  go_upto_region 4 with (fail)
  refine abs_world (fun W => Kept w W ∧ Blk W (w.heap.size) 28 #[.int .i16 l, .int .i16 s, .int .i16 k] ∧ Blk W (g5) 25 #[Value.float .f64 low, Value.float .f64 step, Value.int .u32 steps]) ?_ ?_
  · refine ⟨?_, ?_, ?_⟩
    · repeat (first | exact kW3 | (refine Kept.setCell ?_ (kept_side (by first | assumption | omega)) _) | apply Kept.alloc | apply Kept.drew)
    · simp [Blk, *] <;> (intros; omega)
    · simp [Blk, *] <;> (intros; omega)
  rintro W4 ⟨kW4, BW4_0, BW4_1⟩
  have cW4_0_0 : W4.cell? ⟨w.heap.size, 0, none⟩ = some (.int .i16 l) := BW4_0.cell 0 rfl
  have cW4_0_1 : W4.cell? ⟨w.heap.size, 1, none⟩ = some (.int .i16 s) := BW4_0.cell 1 rfl
  have cW4_0_2 : W4.cell? ⟨w.heap.size, 2, none⟩ = some (.int .i16 k) := BW4_0.cell 2 rfl
  have fW4_0 := BW4_0.free
  have cW4_1_0 : W4.cell? ⟨g5, 0, none⟩ = some (Value.float .f64 low) := BW4_1.cell 0 rfl
  have cW4_1_1 : W4.cell? ⟨g5, 1, none⟩ = some (Value.float .f64 step) := BW4_1.cell 1 rfl
  have cW4_1_2 : W4.cell? ⟨g5, 2, none⟩ = some (Value.int .u32 steps) := BW4_1.cell 2 rfl
  have fW4_1 := BW4_1.free
  go_wp2_with fail
  refine (HN.out _).mono ?_
  rintro e W5 ⟨rfl, hkW5⟩
  have kW5 := kW4.trans hkW5
  have BW5_0 := BW4_0.kept hkW5
  have BW5_1 := BW4_1.kept hkW5
  clear cW4_0_0 cW4_0_1 cW4_0_2 cW4_1_0 cW4_1_1 cW4_1_2 fW4_0 fW4_1 BW4_0 BW4_1 kW4 hkW5
  have cW5_0_0 : W5.cell? ⟨w.heap.size, 0, none⟩ = some (.int .i16 l) := BW5_0.cell 0 rfl
  have cW5_0_1 : W5.cell? ⟨w.heap.size, 1, none⟩ = some (.int .i16 s) := BW5_0.cell 1 rfl
  have cW5_0_2 : W5.cell? ⟨w.heap.size, 2, none⟩ = some (.int .i16 k) := BW5_0.cell 2 rfl
  have fW5_0 := BW5_0.free
  have cW5_1_0 : W5.cell? ⟨g5, 0, none⟩ = some (Value.float .f64 low) := BW5_1.cell 0 rfl
  have cW5_1_1 : W5.cell? ⟨g5, 1, none⟩ = some (Value.float .f64 step) := BW5_1.cell 1 rfl
  have cW5_1_2 : W5.cell? ⟨g5, 2, none⟩ = some (Value.int .u32 steps) := BW5_1.cell 2 rfl
  have fW5_1 := BW5_1.free
  go_wp2_with fail
  refine (HW.out _).mono ?_
  rintro e W6 ⟨rfl, hkW6⟩
  have kW6 := kW5.trans hkW6
  have BW6_0 := BW5_0.kept hkW6
  have BW6_1 := BW5_1.kept hkW6
  clear cW5_0_0 cW5_0_1 cW5_0_2 cW5_1_0 cW5_1_1 cW5_1_2 fW5_0 fW5_1 BW5_0 BW5_1 kW5 hkW6
  have cW6_0_0 : W6.cell? ⟨w.heap.size, 0, none⟩ = some (.int .i16 l) := BW6_0.cell 0 rfl
  have cW6_0_1 : W6.cell? ⟨w.heap.size, 1, none⟩ = some (.int .i16 s) := BW6_0.cell 1 rfl
  have cW6_0_2 : W6.cell? ⟨w.heap.size, 2, none⟩ = some (.int .i16 k) := BW6_0.cell 2 rfl
  have fW6_0 := BW6_0.free
  have cW6_1_0 : W6.cell? ⟨g5, 0, none⟩ = some (Value.float .f64 low) := BW6_1.cell 0 rfl
  have cW6_1_1 : W6.cell? ⟨g5, 1, none⟩ = some (Value.float .f64 step) := BW6_1.cell 1 rfl
  have cW6_1_2 : W6.cell? ⟨g5, 2, none⟩ = some (Value.int .u32 steps) := BW6_1.cell 2 rfl
  have fW6_1 := BW6_1.free
  go_wp2_with fail
  go_upto_region 7 with (fail)
  refine wp_region_calm 8 (by kernel_rfl) (by kernel_rfl) ?_
  simp only [List.take_succ_cons, List.take_zero, List.drop_succ_cons, List.drop_zero]
  repeat (first
    | (refine calm_skip rfl ?_; simp only [Act.put, List.setIfInBounds_toArray, List.set_cons_zero, List.set_cons_succ])
    | (refine calm_ex rfl ?_; apply Exists.intro; refine And.intro (fun w' hk => ?_) ?_; (focus (have q0 := hk.cell cW6_0_0; have q1 := hk.cell cW6_0_1; have q2 := hk.cell cW6_0_2; have q3 := hk.cell cW6_1_0; have q4 := hk.cell cW6_1_1; have q5 := hk.cell cW6_1_2; clear hk; go_simp; exact rfl)); simp only [Act.put, List.setIfInBounds_toArray, List.set_cons_zero, List.set_cons_succ])
    | (refine calm_step _ rfl (HI.out.call ?_) ?_; (focus (intro w'; go_simp; done)); simp only [Act.put, List.setIfInBounds_toArray, List.set_cons_zero, List.set_cons_succ])
    | (refine calm_step _ rfl (HX.out.call ?_) ?_; (focus (intro w'; go_simp; done)); simp only [Act.put, List.setIfInBounds_toArray, List.set_cons_zero, List.set_cons_succ]))
  refine calm_nil ?_
  intro W7 hkW7
  have kW7 := kW6.trans hkW7
  have BW7_0 := BW6_0.kept hkW7
  have BW7_1 := BW6_1.kept hkW7
  clear cW6_0_0 cW6_0_1 cW6_0_2 cW6_1_0 cW6_1_1 cW6_1_2 fW6_0 fW6_1 BW6_0 BW6_1 kW6 hkW7
  have cW7_0_0 : W7.cell? ⟨w.heap.size, 0, none⟩ = some (.int .i16 l) := BW7_0.cell 0 rfl
  have cW7_0_1 : W7.cell? ⟨w.heap.size, 1, none⟩ = some (.int .i16 s) := BW7_0.cell 1 rfl
  have cW7_0_2 : W7.cell? ⟨w.heap.size, 2, none⟩ = some (.int .i16 k) := BW7_0.cell 2 rfl
  have fW7_0 := BW7_0.free
  have cW7_1_0 : W7.cell? ⟨g5, 0, none⟩ = some (Value.float .f64 low) := BW7_1.cell 0 rfl
  have cW7_1_1 : W7.cell? ⟨g5, 1, none⟩ = some (Value.float .f64 step) := BW7_1.cell 1 rfl
  have cW7_1_2 : W7.cell? ⟨g5, 2, none⟩ = some (Value.int .u32 steps) := BW7_1.cell 2 rfl
  have fW7_1 := BW7_1.free
  go_wp2_with fail
  refine wp_region_calm 8 (by kernel_rfl) (by kernel_rfl) ?_
  simp only [List.take_succ_cons, List.take_zero, List.drop_succ_cons, List.drop_zero]
  repeat (first
    | (refine calm_skip rfl ?_; simp only [Act.put, List.setIfInBounds_toArray, List.set_cons_zero, List.set_cons_succ])
    | (refine calm_ex rfl ?_; apply Exists.intro; refine And.intro (fun w' hk => ?_) ?_; (focus (have q0 := hk.cell cW7_0_0; have q1 := hk.cell cW7_0_1; have q2 := hk.cell cW7_0_2; have q3 := hk.cell cW7_1_0; have q4 := hk.cell cW7_1_1; have q5 := hk.cell cW7_1_2; clear hk; go_simp; exact rfl)); simp only [Act.put, List.setIfInBounds_toArray, List.set_cons_zero, List.set_cons_succ])
    | (refine calm_step _ rfl (HJ.out.call ?_) ?_; (focus (intro w'; go_simp; done)); simp only [Act.put, List.setIfInBounds_toArray, List.set_cons_zero, List.set_cons_succ])
    | (refine calm_step _ rfl (HY.out.call ?_) ?_; (focus (intro w'; go_simp; done)); simp only [Act.put, List.setIfInBounds_toArray, List.set_cons_zero, List.set_cons_succ]))
  refine calm_nil ?_
  intro W8 hkW8
  have kW8 := kW7.trans hkW8
  have BW8_0 := BW7_0.kept hkW8
  have BW8_1 := BW7_1.kept hkW8
  clear cW7_0_0 cW7_0_1 cW7_0_2 cW7_1_0 cW7_1_1 cW7_1_2 fW7_0 fW7_1 BW7_0 BW7_1 kW7 hkW8
  have cW8_0_0 : W8.cell? ⟨w.heap.size, 0, none⟩ = some (.int .i16 l) := BW8_0.cell 0 rfl
  have cW8_0_1 : W8.cell? ⟨w.heap.size, 1, none⟩ = some (.int .i16 s) := BW8_0.cell 1 rfl
  have cW8_0_2 : W8.cell? ⟨w.heap.size, 2, none⟩ = some (.int .i16 k) := BW8_0.cell 2 rfl
  have fW8_0 := BW8_0.free
  have cW8_1_0 : W8.cell? ⟨g5, 0, none⟩ = some (Value.float .f64 low) := BW8_1.cell 0 rfl
  have cW8_1_1 : W8.cell? ⟨g5, 1, none⟩ = some (Value.float .f64 step) := BW8_1.cell 1 rfl
  have cW8_1_2 : W8.cell? ⟨g5, 2, none⟩ = some (Value.int .u32 steps) := BW8_1.cell 2 rfl
  have fW8_1 := BW8_1.free
  go_wp2_with fail
  go_ret
  exact ⟨rfl, kW8⟩
end Go.Proofs.Ytbpmgdneiejhoaa
