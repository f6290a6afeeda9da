/-
  WidePowers: for every two elements the law returns true.
  Conditions: none.
-/
import Derived.Test.YtnajihlhcdedgaaW7
import Derived.Test.YtnajihlhcdedgaaWRules
import Derived.Deep.Cut
namespace Go.Proofs.Ytnajihlhcdedgaa
open Go.RowKit
set_option linter.unusedVariables false
set_option linter.unusedSimpArgs false
attribute [local simp] blkAt_setCell blkAt_alloc blkAt_drew Obj.put_cells

set_option maxRecDepth 100000 in
set_option maxHeartbeats 4000000 in
theorem w_Inv_yes (a0 a1 x0 x1 p0 p1 e0 e1 r0 r1 : Int) (hO : Pure Try.prog 48 #[.agg #[.int .u64 a0, .int .u64 a1]] (.agg #[.int .u64 x0, .int .u64 x1])) (hx : decide (x0 = 0 ∧ x1 = 0) = false)
    (hP : Pure Try.prog 58 #[] (.agg #[.int .u64 p0, .int .u64 p1])) (hT : Pure Try.prog 117 #[.agg #[.int .u64 p0, .int .u64 p1], .agg #[.int .u64 2, .int .u64 0]] (.agg #[.int .u64 e0, .int .u64 e1])) (hW : Pure Try.prog 54 #[.agg #[.int .u64 a0, .int .u64 a1], .agg #[.int .u64 e0, .int .u64 e1]] (.agg #[.int .u64 r0, .int .u64 r1])) :
    Pure Try.prog 55 #[.agg #[.int .u64 a0, .int .u64 a1]] (.tuple #[.agg #[.int .u64 r0, .int .u64 r1], .int .i64 0]) := fun w => by
  have HO := Lib.hid hO
  have HP := Lib.hid hP
  have HT := Lib.hid hT
  have HW := Lib.hid hW
  clear hO hP hT hW
  have hq := fun w => run_eql28 x0 x1 0 0 w
  simp only [hx] at hq
  go_enter Try.func55, Try.ntmps55
  go_wp2_with fail
  refine abs_calls (fun W => Kept w W ∧ Blk W (w.heap.size) 28 #[.int .u64 a0, .int .u64 a1] ∧ Blk W (w.heap.size + 1) 28 #[.int .u64 0, .int .u64 0]) ?_ ?_
  · refine ⟨?_, ?_, ?_⟩
    · repeat (first | exact Kept.refl _ | (refine Kept.setCell ?_ (kept_side (by first | assumption | omega)) _) | apply Kept.alloc | apply Kept.drew)
    · simp [Blk, *] <;> (intros; omega)
    · simp [Blk, *] <;> (intros; omega)
  rintro W1 ⟨kW1, BW1_0, BW1_1⟩
  have cW1_0_0 : W1.cell? ⟨w.heap.size, 0, none⟩ = some (.int .u64 a0) := BW1_0.cell 0 rfl
  have cW1_0_1 : W1.cell? ⟨w.heap.size, 1, none⟩ = some (.int .u64 a1) := BW1_0.cell 1 rfl
  have fW1_0 := BW1_0.free
  have cW1_1_0 : W1.cell? ⟨w.heap.size + 1, 0, none⟩ = some (.int .u64 0) := BW1_1.cell 0 rfl
  have cW1_1_1 : W1.cell? ⟨w.heap.size + 1, 1, none⟩ = some (.int .u64 0) := BW1_1.cell 1 rfl
  have fW1_1 := BW1_1.free
  refine (HO.out _).mono ?_
  rintro e W2 ⟨rfl, hkW2⟩
  have kW2 := kW1.trans hkW2
  have BW2_0 := BW1_0.kept hkW2
  have BW2_1 := BW1_1.kept hkW2
  clear cW1_0_0 cW1_0_1 cW1_1_0 cW1_1_1 fW1_0 fW1_1 BW1_0 BW1_1 kW1 hkW2
  have cW2_0_0 : W2.cell? ⟨w.heap.size, 0, none⟩ = some (.int .u64 a0) := BW2_0.cell 0 rfl
  have cW2_0_1 : W2.cell? ⟨w.heap.size, 1, none⟩ = some (.int .u64 a1) := BW2_0.cell 1 rfl
  have fW2_0 := BW2_0.free
  have cW2_1_0 : W2.cell? ⟨w.heap.size + 1, 0, none⟩ = some (.int .u64 0) := BW2_1.cell 0 rfl
  have cW2_1_1 : W2.cell? ⟨w.heap.size + 1, 1, none⟩ = some (.int .u64 0) := BW2_1.cell 1 rfl
  have fW2_1 := BW2_1.free
  go_wp2_with fail
  refine wp_region_calm 5 (by kernel_rfl) (by kernel_rfl) ?_
  simp only [List.take_succ_cons, List.take_zero, List.drop_succ_cons, List.drop_zero]
  repeat (first
    | (refine calm_skip rfl ?_; simp only [Act.put, List.setIfInBounds_toArray, List.set_cons_zero, List.set_cons_succ])
    | (refine calm_ex rfl ?_; apply Exists.intro; refine And.intro (fun w' hk => ?_) ?_; (focus (have q0 := hk.cell cW2_0_0; have q1 := hk.cell cW2_0_1; have q2 := hk.cell cW2_1_0; have q3 := hk.cell cW2_1_1; clear hk; go_simp; exact rfl)); simp only [Act.put, List.setIfInBounds_toArray, List.set_cons_zero, List.set_cons_succ])
    | (refine calm_step _ rfl (HP.out.call ?_) ?_; (focus (intro w'; go_simp; done)); simp only [Act.put, List.setIfInBounds_toArray, List.set_cons_zero, List.set_cons_succ])
    | (refine calm_step _ rfl (HT.out.call ?_) ?_; (focus (intro w'; go_simp; done)); simp only [Act.put, List.setIfInBounds_toArray, List.set_cons_zero, List.set_cons_succ])
    | (refine calm_step _ rfl (HW.out.call ?_) ?_; (focus (intro w'; go_simp; done)); simp only [Act.put, List.setIfInBounds_toArray, List.set_cons_zero, List.set_cons_succ]))
  refine calm_nil ?_
  intro W3 hkW3
  have kW3 := kW2.trans hkW3
  have BW3_0 := BW2_0.kept hkW3
  have BW3_1 := BW2_1.kept hkW3
  clear cW2_0_0 cW2_0_1 cW2_1_0 cW2_1_1 fW2_0 fW2_1 BW2_0 BW2_1 kW2 hkW3
  have cW3_0_0 : W3.cell? ⟨w.heap.size, 0, none⟩ = some (.int .u64 a0) := BW3_0.cell 0 rfl
  have cW3_0_1 : W3.cell? ⟨w.heap.size, 1, none⟩ = some (.int .u64 a1) := BW3_0.cell 1 rfl
  have fW3_0 := BW3_0.free
  have cW3_1_0 : W3.cell? ⟨w.heap.size + 1, 0, none⟩ = some (.int .u64 0) := BW3_1.cell 0 rfl
  have cW3_1_1 : W3.cell? ⟨w.heap.size + 1, 1, none⟩ = some (.int .u64 0) := BW3_1.cell 1 rfl
  have fW3_1 := BW3_1.free
  go_wp2_with fail
  refine bodyPost_ret (v := .tuple #[.agg #[.int .u64 r0, .int .u64 r1], .int .i64 0]) (by simp [results, Try.results55, go_sem, *]) rfl ⟨rfl, ?_⟩
  repeat (first | exact kW3 | (refine Kept.setCell ?_ (kept_side (by first | assumption | omega)) _) | apply Kept.alloc | apply Kept.drew)

set_option maxRecDepth 100000 in
set_option maxHeartbeats 4000000 in
theorem w_Inv_no (a0 a1 : Int) (hO : Pure Try.prog 48 #[.agg #[.int .u64 a0, .int .u64 a1]] (.agg #[.int .u64 0, .int .u64 0])) :
    Pure Try.prog 55 #[.agg #[.int .u64 a0, .int .u64 a1]] (.tuple #[.agg #[.int .u64 0, .int .u64 0], .int .i64 8]) := fun w => by
  have HO := Lib.hid hO
  clear hO
  have hq := fun w => run_eql28 0 0 0 0 w
  go_enter Try.func55, Try.ntmps55
  go_wp2_with fail
  refine abs_calls (fun W => Kept w W ∧ Blk W (w.heap.size) 28 #[.int .u64 a0, .int .u64 a1] ∧ Blk W (w.heap.size + 1) 28 #[.int .u64 0, .int .u64 0]) ?_ ?_
  · refine ⟨?_, ?_, ?_⟩
    · repeat (first | exact Kept.refl _ | (refine Kept.setCell ?_ (kept_side (by first | assumption | omega)) _) | apply Kept.alloc | apply Kept.drew)
    · simp [Blk, *] <;> (intros; omega)
    · simp [Blk, *] <;> (intros; omega)
  rintro W1 ⟨kW1, BW1_0, BW1_1⟩
  have cW1_0_0 : W1.cell? ⟨w.heap.size, 0, none⟩ = some (.int .u64 a0) := BW1_0.cell 0 rfl
  have cW1_0_1 : W1.cell? ⟨w.heap.size, 1, none⟩ = some (.int .u64 a1) := BW1_0.cell 1 rfl
  have fW1_0 := BW1_0.free
  have cW1_1_0 : W1.cell? ⟨w.heap.size + 1, 0, none⟩ = some (.int .u64 0) := BW1_1.cell 0 rfl
  have cW1_1_1 : W1.cell? ⟨w.heap.size + 1, 1, none⟩ = some (.int .u64 0) := BW1_1.cell 1 rfl
  have fW1_1 := BW1_1.free
  refine (HO.out _).mono ?_
  rintro e W2 ⟨rfl, hkW2⟩
  have kW2 := kW1.trans hkW2
  have BW2_0 := BW1_0.kept hkW2
  have BW2_1 := BW1_1.kept hkW2
  clear cW1_0_0 cW1_0_1 cW1_1_0 cW1_1_1 fW1_0 fW1_1 BW1_0 BW1_1 kW1 hkW2
  have cW2_0_0 : W2.cell? ⟨w.heap.size, 0, none⟩ = some (.int .u64 a0) := BW2_0.cell 0 rfl
  have cW2_0_1 : W2.cell? ⟨w.heap.size, 1, none⟩ = some (.int .u64 a1) := BW2_0.cell 1 rfl
  have fW2_0 := BW2_0.free
  have cW2_1_0 : W2.cell? ⟨w.heap.size + 1, 0, none⟩ = some (.int .u64 0) := BW2_1.cell 0 rfl
  have cW2_1_1 : W2.cell? ⟨w.heap.size + 1, 1, none⟩ = some (.int .u64 0) := BW2_1.cell 1 rfl
  have fW2_1 := BW2_1.free
  go_wp2_with fail
  refine bodyPost_ret (v := .tuple #[.agg #[.int .u64 0, .int .u64 0], .int .i64 8]) (by simp [results, Try.results55, go_sem, *]) rfl ⟨rfl, ?_⟩
  repeat (first | exact kW2 | (refine Kept.setCell ?_ (kept_side (by first | assumption | omega)) _) | apply Kept.alloc | apply Kept.drew)

set_option maxRecDepth 100000 in
set_option maxHeartbeats 4000000 in
theorem wide_powers_no (a0 a1 n0 n1 t0 t1 : Int)
    (hK : Pure Try.prog 47 #[] (.bool true)) (hW : Pure Try.prog 54 #[.agg #[.int .u64 a0, .int .u64 a1], .agg #[.int .u64 n0, .int .u64 n1]] (.agg #[.int .u64 t0, .int .u64 t1])) (hR : Pure Try.prog 40 #[.int .i64 2, .agg #[.int .u64 a0, .int .u64 a1], .agg #[.int .u64 n0, .int .u64 n1]] (.agg #[.int .u64 t0, .int .u64 t1]))
    (hne : ∀ s t w, (binOp .neq 28 (.agg #[.int .u64 s, .int .u64 t]) (.agg #[.int .u64 s, .int .u64 t])).run Try.prog w = .ok (.bool false) w)
    (hs : ∀ s t w, (binOp .eql 28 (.agg #[.int .u64 s, .int .u64 t]) (.agg #[.int .u64 s, .int .u64 t])).run Try.prog w = .ok (.bool true) w)
    (hI : Pure Try.prog 55 #[.agg #[.int .u64 a0, .int .u64 a1]] (.tuple #[.agg #[.int .u64 0, .int .u64 0], .int .i64 8])) (hO : Pure Try.prog 48 #[.agg #[.int .u64 a0, .int .u64 a1]] (.agg #[.int .u64 0, .int .u64 0])) (w : World) :
    Calls Try.prog 9 #[.agg #[.int .u64 a0, .int .u64 a1], .agg #[.int .u64 n0, .int .u64 n1]] w fun e w' => e = .returned (.bool true) ∧ Kept w w' := by
  have HK := Lib.hid hK
  have HW := Lib.hid hW
  have HR := Lib.hid hR
  have HI := Lib.hid hI
  have HO := Lib.hid hO
  clear hK hW hR hI hO
  have hq := fun w => run_eql28 0 0 0 0 w
  go_enter Try.func9, Try.ntmps9
  go_wp2_with fail
  refine abs_calls (fun W => Kept w W ∧ Blk W (w.heap.size) 28 #[.int .u64 a0, .int .u64 a1] ∧ Blk W (w.heap.size + 1) 28 #[.int .u64 n0, .int .u64 n1]) ?_ ?_
  · refine ⟨?_, ?_, ?_⟩
    · repeat (first | exact Kept.refl _ | (refine Kept.setCell ?_ (kept_side (by first | assumption | omega)) _) | apply Kept.alloc | apply Kept.drew)
    · simp [Blk, *] <;> (intros; omega)
    · simp [Blk, *] <;> (intros; omega)
  rintro W1 ⟨kW1, BW1_0, BW1_1⟩
  have cW1_0_0 : W1.cell? ⟨w.heap.size, 0, none⟩ = some (.int .u64 a0) := BW1_0.cell 0 rfl
  have cW1_0_1 : W1.cell? ⟨w.heap.size, 1, none⟩ = some (.int .u64 a1) := BW1_0.cell 1 rfl
  have fW1_0 := BW1_0.free
  have cW1_1_0 : W1.cell? ⟨w.heap.size + 1, 0, none⟩ = some (.int .u64 n0) := BW1_1.cell 0 rfl
  have cW1_1_1 : W1.cell? ⟨w.heap.size + 1, 1, none⟩ = some (.int .u64 n1) := BW1_1.cell 1 rfl
  have fW1_1 := BW1_1.free
  refine (HK.out _).mono ?_
  rintro e W2 ⟨rfl, hkW2⟩
  have kW2 := kW1.trans hkW2
  have BW2_0 := BW1_0.kept hkW2
  have BW2_1 := BW1_1.kept hkW2
  clear cW1_0_0 cW1_0_1 cW1_1_0 cW1_1_1 fW1_0 fW1_1 BW1_0 BW1_1 kW1 hkW2
  have cW2_0_0 : W2.cell? ⟨w.heap.size, 0, none⟩ = some (.int .u64 a0) := BW2_0.cell 0 rfl
  have cW2_0_1 : W2.cell? ⟨w.heap.size, 1, none⟩ = some (.int .u64 a1) := BW2_0.cell 1 rfl
  have fW2_0 := BW2_0.free
  have cW2_1_0 : W2.cell? ⟨w.heap.size + 1, 0, none⟩ = some (.int .u64 n0) := BW2_1.cell 0 rfl
  have cW2_1_1 : W2.cell? ⟨w.heap.size + 1, 1, none⟩ = some (.int .u64 n1) := BW2_1.cell 1 rfl
  have fW2_1 := BW2_1.free
  go_wp2_with fail
  refine wp_region_calm 7 (by kernel_rfl) (by kernel_rfl) ?_
  simp only [List.take_succ_cons, List.take_zero, List.drop_succ_cons, List.drop_zero]
  repeat (first
    | (refine calm_skip rfl ?_; simp only [Act.put, List.setIfInBounds_toArray, List.set_cons_zero, List.set_cons_succ])
    | (refine calm_ex rfl ?_; apply Exists.intro; refine And.intro (fun w' hk => ?_) ?_; (focus (have q0 := hk.cell cW2_0_0; have q1 := hk.cell cW2_0_1; have q2 := hk.cell cW2_1_0; have q3 := hk.cell cW2_1_1; clear hk; go_simp; exact rfl)); simp only [Act.put, List.setIfInBounds_toArray, List.set_cons_zero, List.set_cons_succ])
    | (refine calm_step _ rfl (HW.out.call ?_) ?_; (focus (intro w'; go_simp; done)); simp only [Act.put, List.setIfInBounds_toArray, List.set_cons_zero, List.set_cons_succ])
    | (refine calm_step _ rfl (HR.out.call ?_) ?_; (focus (intro w'; go_simp; done)); simp only [Act.put, List.setIfInBounds_toArray, List.set_cons_zero, List.set_cons_succ]))
  refine calm_nil ?_
  intro W3 hkW3
  have kW3 := kW2.trans hkW3
  have BW3_0 := BW2_0.kept hkW3
  have BW3_1 := BW2_1.kept hkW3
  clear cW2_0_0 cW2_0_1 cW2_1_0 cW2_1_1 fW2_0 fW2_1 BW2_0 BW2_1 kW2 hkW3
  have cW3_0_0 : W3.cell? ⟨w.heap.size, 0, none⟩ = some (.int .u64 a0) := BW3_0.cell 0 rfl
  have cW3_0_1 : W3.cell? ⟨w.heap.size, 1, none⟩ = some (.int .u64 a1) := BW3_0.cell 1 rfl
  have fW3_0 := BW3_0.free
  have cW3_1_0 : W3.cell? ⟨w.heap.size + 1, 0, none⟩ = some (.int .u64 n0) := BW3_1.cell 0 rfl
  have cW3_1_1 : W3.cell? ⟨w.heap.size + 1, 1, none⟩ = some (.int .u64 n1) := BW3_1.cell 1 rfl
  have fW3_1 := BW3_1.free
  go_wp2_with fail
  refine (HI.out _).mono ?_
  rintro e W4 ⟨rfl, hkW4⟩
  have kW4 := kW3.trans hkW4
  have BW4_0 := BW3_0.kept hkW4
  have BW4_1 := BW3_1.kept hkW4
  clear cW3_0_0 cW3_0_1 cW3_1_0 cW3_1_1 fW3_0 fW3_1 BW3_0 BW3_1 kW3 hkW4
  have cW4_0_0 : W4.cell? ⟨w.heap.size, 0, none⟩ = some (.int .u64 a0) := BW4_0.cell 0 rfl
  have cW4_0_1 : W4.cell? ⟨w.heap.size, 1, none⟩ = some (.int .u64 a1) := BW4_0.cell 1 rfl
  have fW4_0 := BW4_0.free
  have cW4_1_0 : W4.cell? ⟨w.heap.size + 1, 0, none⟩ = some (.int .u64 n0) := BW4_1.cell 0 rfl
  have cW4_1_1 : W4.cell? ⟨w.heap.size + 1, 1, none⟩ = some (.int .u64 n1) := BW4_1.cell 1 rfl
  have fW4_1 := BW4_1.free
  obtain ⟨b5, hb5⟩ : ∃ b, W4.heap.size = b := ⟨_, rfl⟩
  have neb5_0 : w.heap.size ≠ b5 := by have := BW4_0.lt; omega
  have enb5_0 : b5 ≠ w.heap.size := neb5_0.symm
  have neb5_1 : w.heap.size + 1 ≠ b5 := by have := BW4_1.lt; omega
  have enb5_1 : b5 ≠ w.heap.size + 1 := neb5_1.symm
  have lob5 : w.heap.size ≤ b5 := hb5 ▸ kW4.size
  go_upto_region 6 with (fail)
  refine abs_world (fun W => Kept w W ∧ Blk W (w.heap.size) 28 #[.int .u64 a0, .int .u64 a1] ∧ Blk W (w.heap.size + 1) 28 #[.int .u64 n0, .int .u64 n1] ∧ Blk W (b5) 28 #[.int .u64 0, .int .u64 0]) ?_ ?_
  · refine ⟨?_, ?_, ?_, ?_⟩
    · repeat (first | exact kW4 | (refine Kept.setCell ?_ (kept_side (by first | assumption | omega)) _) | apply Kept.alloc | apply Kept.drew)
    · simp [Blk, *] <;> (intros; omega)
    · simp [Blk, *] <;> (intros; omega)
    · simp [Blk, *] <;> (intros; omega)
  rintro W5 ⟨kW5, BW5_0, BW5_1, BW5_2⟩
  have cW5_0_0 : W5.cell? ⟨w.heap.size, 0, none⟩ = some (.int .u64 a0) := BW5_0.cell 0 rfl
  have cW5_0_1 : W5.cell? ⟨w.heap.size, 1, none⟩ = some (.int .u64 a1) := BW5_0.cell 1 rfl
  have fW5_0 := BW5_0.free
  have cW5_1_0 : W5.cell? ⟨w.heap.size + 1, 0, none⟩ = some (.int .u64 n0) := BW5_1.cell 0 rfl
  have cW5_1_1 : W5.cell? ⟨w.heap.size + 1, 1, none⟩ = some (.int .u64 n1) := BW5_1.cell 1 rfl
  have fW5_1 := BW5_1.free
  have cW5_2_0 : W5.cell? ⟨b5, 0, none⟩ = some (.int .u64 0) := BW5_2.cell 0 rfl
  have cW5_2_1 : W5.cell? ⟨b5, 1, none⟩ = some (.int .u64 0) := BW5_2.cell 1 rfl
  have fW5_2 := BW5_2.free
  go_wp2_with fail
  refine (HO.out _).mono ?_
  rintro e W6 ⟨rfl, hkW6⟩
  have kW6 := kW5.trans hkW6
  have BW6_0 := BW5_0.kept hkW6
  have BW6_1 := BW5_1.kept hkW6
  have BW6_2 := BW5_2.kept hkW6
  clear cW5_0_0 cW5_0_1 cW5_1_0 cW5_1_1 cW5_2_0 cW5_2_1 fW5_0 fW5_1 fW5_2 BW5_0 BW5_1 BW5_2 kW5 hkW6
  have cW6_0_0 : W6.cell? ⟨w.heap.size, 0, none⟩ = some (.int .u64 a0) := BW6_0.cell 0 rfl
  have cW6_0_1 : W6.cell? ⟨w.heap.size, 1, none⟩ = some (.int .u64 a1) := BW6_0.cell 1 rfl
  have fW6_0 := BW6_0.free
  have cW6_1_0 : W6.cell? ⟨w.heap.size + 1, 0, none⟩ = some (.int .u64 n0) := BW6_1.cell 0 rfl
  have cW6_1_1 : W6.cell? ⟨w.heap.size + 1, 1, none⟩ = some (.int .u64 n1) := BW6_1.cell 1 rfl
  have fW6_1 := BW6_1.free
  have cW6_2_0 : W6.cell? ⟨b5, 0, none⟩ = some (.int .u64 0) := BW6_2.cell 0 rfl
  have cW6_2_1 : W6.cell? ⟨b5, 1, none⟩ = some (.int .u64 0) := BW6_2.cell 1 rfl
  have fW6_2 := BW6_2.free
  go_wp2_with fail
  go_ret
  exact ⟨rfl, kW6⟩

set_option maxRecDepth 100000 in
set_option maxHeartbeats 4000000 in
theorem wide_powers_yes (a0 a1 n0 n1 t0 t1 x0 x1 r0 r1 : Int)
    (hK : Pure Try.prog 47 #[] (.bool true)) (hW : Pure Try.prog 54 #[.agg #[.int .u64 a0, .int .u64 a1], .agg #[.int .u64 n0, .int .u64 n1]] (.agg #[.int .u64 t0, .int .u64 t1])) (hR : Pure Try.prog 40 #[.int .i64 2, .agg #[.int .u64 a0, .int .u64 a1], .agg #[.int .u64 n0, .int .u64 n1]] (.agg #[.int .u64 t0, .int .u64 t1]))
    (hne : ∀ s t w, (binOp .neq 28 (.agg #[.int .u64 s, .int .u64 t]) (.agg #[.int .u64 s, .int .u64 t])).run Try.prog w = .ok (.bool false) w)
    (hs : ∀ s t w, (binOp .eql 28 (.agg #[.int .u64 s, .int .u64 t]) (.agg #[.int .u64 s, .int .u64 t])).run Try.prog w = .ok (.bool true) w)
    (hI : Pure Try.prog 55 #[.agg #[.int .u64 a0, .int .u64 a1]] (.tuple #[.agg #[.int .u64 r0, .int .u64 r1], .int .i64 0])) (hO : Pure Try.prog 48 #[.agg #[.int .u64 a0, .int .u64 a1]] (.agg #[.int .u64 x0, .int .u64 x1])) (hx : decide (x0 = 0 ∧ x1 = 0) = false)
    (hIn : Pure Try.prog 49 #[.agg #[.int .u64 r0, .int .u64 r1]] (.bool true)) (hMu : Pure Try.prog 38 #[.int .i64 2, .agg #[.int .u64 a0, .int .u64 a1], .agg #[.int .u64 r0, .int .u64 r1]] (.agg #[.int .u64 1, .int .u64 0])) (w : World) :
    Calls Try.prog 9 #[.agg #[.int .u64 a0, .int .u64 a1], .agg #[.int .u64 n0, .int .u64 n1]] w fun e w' => e = .returned (.bool true) ∧ Kept w w' := by
  have HK := Lib.hid hK
  have HW := Lib.hid hW
  have HR := Lib.hid hR
  have HI := Lib.hid hI
  have HO := Lib.hid hO
  have HIn := Lib.hid hIn
  have HMu := Lib.hid hMu
  clear hK hW hR hI hO hIn hMu
  have hq := fun w => run_eql28 x0 x1 0 0 w
  simp only [hx] at hq
  go_enter Try.func9, Try.ntmps9
  go_wp2_with fail
  refine abs_calls (fun W => Kept w W ∧ Blk W (w.heap.size) 28 #[.int .u64 a0, .int .u64 a1] ∧ Blk W (w.heap.size + 1) 28 #[.int .u64 n0, .int .u64 n1]) ?_ ?_
  · refine ⟨?_, ?_, ?_⟩
    · repeat (first | exact Kept.refl _ | (refine Kept.setCell ?_ (kept_side (by first | assumption | omega)) _) | apply Kept.alloc | apply Kept.drew)
    · simp [Blk, *] <;> (intros; omega)
    · simp [Blk, *] <;> (intros; omega)
  rintro W1 ⟨kW1, BW1_0, BW1_1⟩
  have cW1_0_0 : W1.cell? ⟨w.heap.size, 0, none⟩ = some (.int .u64 a0) := BW1_0.cell 0 rfl
  have cW1_0_1 : W1.cell? ⟨w.heap.size, 1, none⟩ = some (.int .u64 a1) := BW1_0.cell 1 rfl
  have fW1_0 := BW1_0.free
  have cW1_1_0 : W1.cell? ⟨w.heap.size + 1, 0, none⟩ = some (.int .u64 n0) := BW1_1.cell 0 rfl
  have cW1_1_1 : W1.cell? ⟨w.heap.size + 1, 1, none⟩ = some (.int .u64 n1) := BW1_1.cell 1 rfl
  have fW1_1 := BW1_1.free
  refine (HK.out _).mono ?_
  rintro e W2 ⟨rfl, hkW2⟩
  have kW2 := kW1.trans hkW2
  have BW2_0 := BW1_0.kept hkW2
  have BW2_1 := BW1_1.kept hkW2
  clear cW1_0_0 cW1_0_1 cW1_1_0 cW1_1_1 fW1_0 fW1_1 BW1_0 BW1_1 kW1 hkW2
  have cW2_0_0 : W2.cell? ⟨w.heap.size, 0, none⟩ = some (.int .u64 a0) := BW2_0.cell 0 rfl
  have cW2_0_1 : W2.cell? ⟨w.heap.size, 1, none⟩ = some (.int .u64 a1) := BW2_0.cell 1 rfl
  have fW2_0 := BW2_0.free
  have cW2_1_0 : W2.cell? ⟨w.heap.size + 1, 0, none⟩ = some (.int .u64 n0) := BW2_1.cell 0 rfl
  have cW2_1_1 : W2.cell? ⟨w.heap.size + 1, 1, none⟩ = some (.int .u64 n1) := BW2_1.cell 1 rfl
  have fW2_1 := BW2_1.free
  go_wp2_with fail
  refine wp_region_calm 7 (by kernel_rfl) (by kernel_rfl) ?_
  simp only [List.take_succ_cons, List.take_zero, List.drop_succ_cons, List.drop_zero]
  repeat (first
    | (refine calm_skip rfl ?_; simp only [Act.put, List.setIfInBounds_toArray, List.set_cons_zero, List.set_cons_succ])
    | (refine calm_ex rfl ?_; apply Exists.intro; refine And.intro (fun w' hk => ?_) ?_; (focus (have q0 := hk.cell cW2_0_0; have q1 := hk.cell cW2_0_1; have q2 := hk.cell cW2_1_0; have q3 := hk.cell cW2_1_1; clear hk; go_simp; exact rfl)); simp only [Act.put, List.setIfInBounds_toArray, List.set_cons_zero, List.set_cons_succ])
    | (refine calm_step _ rfl (HW.out.call ?_) ?_; (focus (intro w'; go_simp; done)); simp only [Act.put, List.setIfInBounds_toArray, List.set_cons_zero, List.set_cons_succ])
    | (refine calm_step _ rfl (HR.out.call ?_) ?_; (focus (intro w'; go_simp; done)); simp only [Act.put, List.setIfInBounds_toArray, List.set_cons_zero, List.set_cons_succ]))
  refine calm_nil ?_
  intro W3 hkW3
  have kW3 := kW2.trans hkW3
  have BW3_0 := BW2_0.kept hkW3
  have BW3_1 := BW2_1.kept hkW3
  clear cW2_0_0 cW2_0_1 cW2_1_0 cW2_1_1 fW2_0 fW2_1 BW2_0 BW2_1 kW2 hkW3
  have cW3_0_0 : W3.cell? ⟨w.heap.size, 0, none⟩ = some (.int .u64 a0) := BW3_0.cell 0 rfl
  have cW3_0_1 : W3.cell? ⟨w.heap.size, 1, none⟩ = some (.int .u64 a1) := BW3_0.cell 1 rfl
  have fW3_0 := BW3_0.free
  have cW3_1_0 : W3.cell? ⟨w.heap.size + 1, 0, none⟩ = some (.int .u64 n0) := BW3_1.cell 0 rfl
  have cW3_1_1 : W3.cell? ⟨w.heap.size + 1, 1, none⟩ = some (.int .u64 n1) := BW3_1.cell 1 rfl
  have fW3_1 := BW3_1.free
  go_wp2_with fail
  refine (HI.out _).mono ?_
  rintro e W4 ⟨rfl, hkW4⟩
  have kW4 := kW3.trans hkW4
  have BW4_0 := BW3_0.kept hkW4
  have BW4_1 := BW3_1.kept hkW4
  clear cW3_0_0 cW3_0_1 cW3_1_0 cW3_1_1 fW3_0 fW3_1 BW3_0 BW3_1 kW3 hkW4
  have cW4_0_0 : W4.cell? ⟨w.heap.size, 0, none⟩ = some (.int .u64 a0) := BW4_0.cell 0 rfl
  have cW4_0_1 : W4.cell? ⟨w.heap.size, 1, none⟩ = some (.int .u64 a1) := BW4_0.cell 1 rfl
  have fW4_0 := BW4_0.free
  have cW4_1_0 : W4.cell? ⟨w.heap.size + 1, 0, none⟩ = some (.int .u64 n0) := BW4_1.cell 0 rfl
  have cW4_1_1 : W4.cell? ⟨w.heap.size + 1, 1, none⟩ = some (.int .u64 n1) := BW4_1.cell 1 rfl
  have fW4_1 := BW4_1.free
  obtain ⟨b5, hb5⟩ : ∃ b, W4.heap.size = b := ⟨_, rfl⟩
  have neb5_0 : w.heap.size ≠ b5 := by have := BW4_0.lt; omega
  have enb5_0 : b5 ≠ w.heap.size := neb5_0.symm
  have neb5_1 : w.heap.size + 1 ≠ b5 := by have := BW4_1.lt; omega
  have enb5_1 : b5 ≠ w.heap.size + 1 := neb5_1.symm
  have lob5 : w.heap.size ≤ b5 := hb5 ▸ kW4.size
  go_upto_region 6 with (fail)
  refine abs_world (fun W => Kept w W ∧ Blk W (w.heap.size) 28 #[.int .u64 a0, .int .u64 a1] ∧ Blk W (w.heap.size + 1) 28 #[.int .u64 n0, .int .u64 n1] ∧ Blk W (b5) 28 #[.int .u64 r0, .int .u64 r1]) ?_ ?_
  · refine ⟨?_, ?_, ?_, ?_⟩
    · repeat (first | exact kW4 | (refine Kept.setCell ?_ (kept_side (by first | assumption | omega)) _) | apply Kept.alloc | apply Kept.drew)
    · simp [Blk, *] <;> (intros; omega)
    · simp [Blk, *] <;> (intros; omega)
    · simp [Blk, *] <;> (intros; omega)
  rintro W5 ⟨kW5, BW5_0, BW5_1, BW5_2⟩
  have cW5_0_0 : W5.cell? ⟨w.heap.size, 0, none⟩ = some (.int .u64 a0) := BW5_0.cell 0 rfl
  have cW5_0_1 : W5.cell? ⟨w.heap.size, 1, none⟩ = some (.int .u64 a1) := BW5_0.cell 1 rfl
  have fW5_0 := BW5_0.free
  have cW5_1_0 : W5.cell? ⟨w.heap.size + 1, 0, none⟩ = some (.int .u64 n0) := BW5_1.cell 0 rfl
  have cW5_1_1 : W5.cell? ⟨w.heap.size + 1, 1, none⟩ = some (.int .u64 n1) := BW5_1.cell 1 rfl
  have fW5_1 := BW5_1.free
  have cW5_2_0 : W5.cell? ⟨b5, 0, none⟩ = some (.int .u64 r0) := BW5_2.cell 0 rfl
  have cW5_2_1 : W5.cell? ⟨b5, 1, none⟩ = some (.int .u64 r1) := BW5_2.cell 1 rfl
  have fW5_2 := BW5_2.free
  go_wp2_with fail
  refine (HO.out _).mono ?_
  rintro e W6 ⟨rfl, hkW6⟩
  have kW6 := kW5.trans hkW6
  have BW6_0 := BW5_0.kept hkW6
  have BW6_1 := BW5_1.kept hkW6
  have BW6_2 := BW5_2.kept hkW6
  clear cW5_0_0 cW5_0_1 cW5_1_0 cW5_1_1 cW5_2_0 cW5_2_1 fW5_0 fW5_1 fW5_2 BW5_0 BW5_1 BW5_2 kW5 hkW6
  have cW6_0_0 : W6.cell? ⟨w.heap.size, 0, none⟩ = some (.int .u64 a0) := BW6_0.cell 0 rfl
  have cW6_0_1 : W6.cell? ⟨w.heap.size, 1, none⟩ = some (.int .u64 a1) := BW6_0.cell 1 rfl
  have fW6_0 := BW6_0.free
  have cW6_1_0 : W6.cell? ⟨w.heap.size + 1, 0, none⟩ = some (.int .u64 n0) := BW6_1.cell 0 rfl
  have cW6_1_1 : W6.cell? ⟨w.heap.size + 1, 1, none⟩ = some (.int .u64 n1) := BW6_1.cell 1 rfl
  have fW6_1 := BW6_1.free
  have cW6_2_0 : W6.cell? ⟨b5, 0, none⟩ = some (.int .u64 r0) := BW6_2.cell 0 rfl
  have cW6_2_1 : W6.cell? ⟨b5, 1, none⟩ = some (.int .u64 r1) := BW6_2.cell 1 rfl
  have fW6_2 := BW6_2.free
  go_wp2_with fail
  refine (HIn.out _).mono ?_
  rintro e W7 ⟨rfl, hkW7⟩
  have kW7 := kW6.trans hkW7
  have BW7_0 := BW6_0.kept hkW7
  have BW7_1 := BW6_1.kept hkW7
  have BW7_2 := BW6_2.kept hkW7
  clear cW6_0_0 cW6_0_1 cW6_1_0 cW6_1_1 cW6_2_0 cW6_2_1 fW6_0 fW6_1 fW6_2 BW6_0 BW6_1 BW6_2 kW6 hkW7
  have cW7_0_0 : W7.cell? ⟨w.heap.size, 0, none⟩ = some (.int .u64 a0) := BW7_0.cell 0 rfl
  have cW7_0_1 : W7.cell? ⟨w.heap.size, 1, none⟩ = some (.int .u64 a1) := BW7_0.cell 1 rfl
  have fW7_0 := BW7_0.free
  have cW7_1_0 : W7.cell? ⟨w.heap.size + 1, 0, none⟩ = some (.int .u64 n0) := BW7_1.cell 0 rfl
  have cW7_1_1 : W7.cell? ⟨w.heap.size + 1, 1, none⟩ = some (.int .u64 n1) := BW7_1.cell 1 rfl
  have fW7_1 := BW7_1.free
  have cW7_2_0 : W7.cell? ⟨b5, 0, none⟩ = some (.int .u64 r0) := BW7_2.cell 0 rfl
  have cW7_2_1 : W7.cell? ⟨b5, 1, none⟩ = some (.int .u64 r1) := BW7_2.cell 1 rfl
  have fW7_2 := BW7_2.free
  go_wp2_with fail
  refine (HMu.out _).mono ?_
  rintro e W8 ⟨rfl, hkW8⟩
  have kW8 := kW7.trans hkW8
  have BW8_0 := BW7_0.kept hkW8
  have BW8_1 := BW7_1.kept hkW8
  have BW8_2 := BW7_2.kept hkW8
  clear cW7_0_0 cW7_0_1 cW7_1_0 cW7_1_1 cW7_2_0 cW7_2_1 fW7_0 fW7_1 fW7_2 BW7_0 BW7_1 BW7_2 kW7 hkW8
  have cW8_0_0 : W8.cell? ⟨w.heap.size, 0, none⟩ = some (.int .u64 a0) := BW8_0.cell 0 rfl
  have cW8_0_1 : W8.cell? ⟨w.heap.size, 1, none⟩ = some (.int .u64 a1) := BW8_0.cell 1 rfl
  have fW8_0 := BW8_0.free
  have cW8_1_0 : W8.cell? ⟨w.heap.size + 1, 0, none⟩ = some (.int .u64 n0) := BW8_1.cell 0 rfl
  have cW8_1_1 : W8.cell? ⟨w.heap.size + 1, 1, none⟩ = some (.int .u64 n1) := BW8_1.cell 1 rfl
  have fW8_1 := BW8_1.free
  have cW8_2_0 : W8.cell? ⟨b5, 0, none⟩ = some (.int .u64 r0) := BW8_2.cell 0 rfl
  have cW8_2_1 : W8.cell? ⟨b5, 1, none⟩ = some (.int .u64 r1) := BW8_2.cell 1 rfl
  have fW8_2 := BW8_2.free
  go_wp2_with fail
  go_ret
  exact ⟨rfl, kW8⟩

def eW : Nat := Int.toNat 340282366920938462946865773367900766207
theorem eW_eq : eW + 1 = wN - 1 := by decide +kernel

theorem fermat_wideI (a : Int) (h0 : 0 ≤ a) (h : a % wP ≠ 0) : a * (a ^ eW % wP) % wP = 1 := by
  obtain ⟨A, rfl⟩ := Int.eq_ofNat_of_zero_le h0
  have hA : A % wN ≠ 0 := by unfold wN; unfold wP at h; omega
  have hf := fermat_wide A hA
  rw [← eW_eq, Nat.pow_succ] at hf
  rw [Int.mul_emod, Int.emod_emod, ← Int.mul_emod]
  have e : (A : Int) * (A : Int) ^ eW = ((A ^ eW * A : Nat) : Int) := by
    rw [Int.natCast_mul, Int.natCast_pow, Int.mul_comm]
  rw [e, show wP = (wN : Int) from rfl, ← Int.natCast_emod, hf]
  rfl

theorem eW_val : ((eW : Nat) : Int) = 340282366920938462946865773367900766207 := by decide +kernel

theorem neq28_self (s t : Int) (w : World) : (binOp .neq 28 (.agg #[.int .u64 s, .int .u64 t]) (.agg #[.int .u64 s, .int .u64 t])).run Try.prog w = .ok (.bool false) w := by rw [run_neq28]; simp

theorem w_Inv {a : Int} (ha : is128 a) (h : a % wP ≠ 0) : Pure Try.prog 55 #[E a] (.tuple #[E (a ^ eW % wP), .int .i64 0]) := by
  have hx := is128_emod_w a
  have hT := w_take (a := wP) (b := 2) is128_wP (by unfold is128; omega)
  rw [show (wP - 2) % 340282366920938463463374607431768211456 = ((eW : Nat) : Int) by rw [eW_val]; unfold wP; omega] at hT
  have hW := w_Pow (n := eW) ha (by rw [eW_val]; unfold is128; omega)
  exact w_Inv_yes _ _ _ _ _ _ _ _ _ _ (w_Of ha) (decide_eq_false (by unfold is128 at hx; omega)) w_P hT hW

theorem w_Inv_nought {a : Int} (ha : is128 a) (h : a % wP = 0) : Pure Try.prog 55 #[E a] (.tuple #[.agg #[.int .u64 0, .int .u64 0], .int .i64 8]) := by
  have ho := w_Of ha
  rw [h] at ho
  exact w_Inv_no _ _ ho

theorem wide_powers_E {a n : Int} (ha : is128 a) (hn : is128 n) (w : World) :
    Calls Try.prog 9 #[E a, E n] w fun e w' => e = .returned (.bool true) ∧ Kept w w' := by
  obtain ⟨N, rfl⟩ := Int.eq_ofNat_of_zero_le hn.1
  have hW := w_Pow ha hn
  have hR := ref_Pow (f := 2) (a := a) (n := N) isF2 ha hn
  rw [rOf2, rP2, emod_pow] at hR
  by_cases h : a % wP = 0
  · have ho := w_Of ha
    rw [h] at ho
    exact wide_powers_no _ _ _ _ _ _ wide_Awake hW hR neq28_self eql28_self (w_Inv_nought ha h) ho w
  · have hx := is128_emod_w a
    have hr := is128_emod_w (a ^ eW)
    have hf := fermat_wideI a ha.1 h
    have hi := w_Inv ha h
    have hlt : a ^ eW % wP < wP := by
      have := Int.emod_lt_of_pos (a ^ eW) (b := wP) (by unfold wP; omega)
      exact this
    generalize a ^ eW % wP = R at *
    have hIn := w_In hr
    rw [decide_eq_true hlt] at hIn
    have hMu := ref_Mul isF2 ha hr
    rw [rOf2, rOf2, rP2, ← Int.mul_emod, hf] at hMu
    exact wide_powers_yes _ _ _ _ _ _ _ _ _ _ wide_Awake hW hR neq28_self eql28_self hi (w_Of ha) (decide_eq_false (by unfold is128 at hx; omega)) hIn hMu w

theorem wide_powers_law (a : List Int) (la : a.length = 2) (wa : ∀ z ∈ a, (Lit.int .u64 z).wf = true) (b : List Int) (lb : b.length = 2) (wb : ∀ z ∈ b, (Lit.int .u64 z).wf = true) (w : World) :
    Calls Try.prog 9 #[.agg (a.map (Value.int .u64)).toArray, .agg (b.map (Value.int .u64)).toArray] w fun e w' => e = .returned (.bool true) ∧ Kept w w' := by
  obtain ⟨n, hn, en⟩ := elem_of la wa
  obtain ⟨m, hm, em⟩ := elem_of lb wb
  rw [en, em]
  exact wide_powers_E hn hm w

end Go.Proofs.Ytnajihlhcdedgaa
