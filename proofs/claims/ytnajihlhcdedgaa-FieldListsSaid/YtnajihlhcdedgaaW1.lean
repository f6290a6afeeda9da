/-
  The walks of wide: P, less, take, In, Of, Neg, Sub, Add.
-/
import Derived.Test.YtnajihlhcdedgaaR5
import Derived.Test.YtnajihlhcdedgaaGSumsLaw
namespace Go.Proofs.Ytnajihlhcdedgaa
open Go.RowKit
set_option linter.unusedVariables false
set_option linter.unusedSimpArgs false
attribute [local simp] blkAt_setCell blkAt_alloc blkAt_drew Obj.put_cells

theorem Pure.to {f : FuncId} {a : Array Value} {u v : Value} (h : Pure Try.prog f a u) (e : u = v) : Pure Try.prog f a v := e ▸ h

theorem wP_lt' : wP ≤ 340282366920938462946865773367900766209 := by unfold wP; omega

theorem w_P : Pure Try.prog 58 #[] (E wP) := fun w => by
  go_enter Try.func58, Try.ntmps58
  go_wp2
  exact bodyPost_ret (v := .agg #[.int .u64 1, .int .u64 18446744073709551588]) (by simp [results, Try.results58, go_sem]) rfl ⟨rfl, (Kept.refl w).alloc _⟩

theorem w_less_raw (a0 a1 b0 b1 : Int) : Pure Try.prog 118 #[.agg #[.int .u64 a0, .int .u64 a1], .agg #[.int .u64 b0, .int .u64 b1]] (.bool (decide (a1 < b1 ∨ (a1 = b1 ∧ a0 < b0)))) := fun w => by
  by_cases h : a1 < b1
  · go_enter Try.func118, Try.ntmps118
    go_wp2
    go_ret
    exact ⟨by simp [h], kept2 w _ _⟩
  · by_cases g : a1 = b1
    · subst g
      go_enter Try.func118, Try.ntmps118
      go_wp2
      go_ret
      exact ⟨by simp, kept2 w _ _⟩
    · go_enter Try.func118, Try.ntmps118
      go_wp2
      go_ret
      exact ⟨by simp [h, g], kept2 w _ _⟩

theorem w_less {a b : Int} (ha : is128 a) (hb : is128 b) : Pure Try.prog 118 #[E a, E b] (.bool (decide (a < b))) := by
  have := w_less_raw (a % 18446744073709551616) (a / 18446744073709551616) (b % 18446744073709551616) (b / 18446744073709551616)
  have e : (a / 18446744073709551616 < b / 18446744073709551616 ∨ (a / 18446744073709551616 = b / 18446744073709551616 ∧ a % 18446744073709551616 < b % 18446744073709551616)) ↔ a < b := by omega
  rw [decide_eq_decide.2 e] at this
  exact this

set_option maxRecDepth 100000 in
set_option maxHeartbeats 4000000 in
theorem w_take_raw (a0 a1 b0 b1 R0 R1 c d : Int) (S0 : ∀ w, (callFunc 133 #[.int .u64 a0, .int .u64 b0, .int .u64 0]).run Try.prog w = .ok (.value (.tuple #[.int .u64 R0, .int .u64 c])) w) (S1 : ∀ w, (callFunc 133 #[.int .u64 a1, .int .u64 b1, .int .u64 c]).run Try.prog w = .ok (.value (.tuple #[.int .u64 R1, .int .u64 d])) w) :
    Pure Try.prog 117 #[.agg #[.int .u64 a0, .int .u64 a1], .agg #[.int .u64 b0, .int .u64 b1]] (.agg #[.int .u64 R0, .int .u64 R1]) := fun w => by
  have ne0_2 : w.heap.size ≠ w.heap.size + 1 + 1 := by omega
  have ne2_0 : w.heap.size + 1 + 1 ≠ w.heap.size := by omega
  go_enter Try.func117, Try.ntmps117
  go_wp2_with fail
  refine bodyPost_ret (v := .agg #[.int .u64 R0, .int .u64 R1]) (by simp [results, Try.results117, go_sem, *]) rfl ⟨rfl, ?_⟩
  repeat (first | exact Kept.refl _ | (refine Kept.setCell ?_ (kept_side (by first | assumption | omega)) _) | apply Kept.alloc)

theorem w_take {a b : Int} (ha : is128 a) (hb : is128 b) : Pure Try.prog 117 #[E a, E b] (E ((a - b) % 340282366920938463463374607431768211456)) := by
  unfold is128 at ha hb
  have key := fun w => run_Sub64 (a % 18446744073709551616) (b % 18446744073709551616) 0 (by omega) (by omega) (by omega) (by omega) (by omega) (by omega) w
  by_cases h : a % 18446744073709551616 < b % 18446744073709551616 + 0
  · simp only [if_pos h] at key
    have k2 := fun w => run_Sub64 (a / 18446744073709551616) (b / 18446744073709551616) 1 (by omega) (by omega) (by omega) (by omega) (by omega) (by omega) w
    have := w_take_raw _ _ _ _ _ _ _ _ key k2
    exact this.to (agg2_congr (by omega) (by omega))
  · simp only [if_neg h] at key
    have k2 := fun w => run_Sub64 (a / 18446744073709551616) (b / 18446744073709551616) 0 (by omega) (by omega) (by omega) (by omega) (by omega) (by omega) w
    have := w_take_raw _ _ _ _ _ _ _ _ key k2
    exact this.to (agg2_congr (by omega) (by omega))

set_option maxRecDepth 100000 in
set_option maxHeartbeats 4000000 in
theorem w_In_raw (a0 a1 : Int) (b : Bool) (p : Value) (hP : Pure Try.prog 58 #[] p) (hL : Pure Try.prog 118 #[.agg #[.int .u64 a0, .int .u64 a1], p] (.bool b)) :
    Pure Try.prog 49 #[.agg #[.int .u64 a0, .int .u64 a1]] (.bool b) := fun w => by
  have HP := Lib.hid hP
  have HL := Lib.hid hL
  clear hP hL
  go_enter Try.func49, Try.ntmps49
  go_wp2_with fail
  refine abs_world (fun W => Kept w W ∧ Blk W (w.heap.size) 28 #[.int .u64 a0, .int .u64 a1]) ?_ ?_
  · refine ⟨?_, ?_⟩
    · repeat (first | exact Kept.refl _ | (refine Kept.setCell ?_ (kept_side (by first | assumption | omega)) _) | apply Kept.alloc)
    · simp [Blk, *] <;> (intros; omega)
  rintro W1 ⟨kW1, BW1_0⟩
  have cW1_0_0 : W1.cell? ⟨w.heap.size, 0, none⟩ = some (.int .u64 a0) := BW1_0.cell 0 rfl
  have cW1_0_1 : W1.cell? ⟨w.heap.size, 1, none⟩ = some (.int .u64 a1) := BW1_0.cell 1 rfl
  have fW1_0 := BW1_0.free
  refine wp_region_calm 3 (by kernel_rfl) (by kernel_rfl) ?_
  simp only [List.take_succ_cons, List.take_zero, List.drop_succ_cons, List.drop_zero]
  repeat (first
    | (refine calm_skip rfl ?_; simp only [Act.put, List.setIfInBounds_toArray, List.set_cons_zero, List.set_cons_succ])
    | (refine calm_ex rfl ?_; apply Exists.intro; refine And.intro (fun w' hk => ?_) ?_; (focus (have q0 := hk.cell cW1_0_0; have q1 := hk.cell cW1_0_1; clear hk; go_simp; exact rfl)); simp only [Act.put, List.setIfInBounds_toArray, List.set_cons_zero, List.set_cons_succ])
    | (refine calm_step _ rfl (HP.out.call ?_) ?_; (focus (intro w'; go_simp; done)); simp only [Act.put, List.setIfInBounds_toArray, List.set_cons_zero, List.set_cons_succ])
    | (refine calm_step _ rfl (HL.out.call ?_) ?_; (focus (intro w'; go_simp; done)); simp only [Act.put, List.setIfInBounds_toArray, List.set_cons_zero, List.set_cons_succ]))
  refine calm_nil ?_
  intro W2 hkW2
  have kW2 := kW1.trans hkW2
  have BW2_0 := BW1_0.kept hkW2
  clear cW1_0_0 cW1_0_1 fW1_0 BW1_0 kW1 hkW2
  have cW2_0_0 : W2.cell? ⟨w.heap.size, 0, none⟩ = some (.int .u64 a0) := BW2_0.cell 0 rfl
  have cW2_0_1 : W2.cell? ⟨w.heap.size, 1, none⟩ = some (.int .u64 a1) := BW2_0.cell 1 rfl
  have fW2_0 := BW2_0.free
  go_wp2_with fail
  go_ret
  exact ⟨rfl, kW2⟩

theorem is128_wP : is128 wP := by unfold is128 wP; omega
theorem w_In {a : Int} (ha : is128 a) : Pure Try.prog 49 #[E a] (.bool (decide (a < wP))) := w_In_raw _ _ _ _ w_P (w_less ha is128_wP)

set_option maxRecDepth 100000 in
set_option maxHeartbeats 4000000 in
theorem w_Of_stay (a0 a1 : Int) (hI : Pure Try.prog 49 #[.agg #[.int .u64 a0, .int .u64 a1]] (.bool true)) :
    Pure Try.prog 48 #[.agg #[.int .u64 a0, .int .u64 a1]] (.agg #[.int .u64 a0, .int .u64 a1]) := fun w => by
  have HI := Lib.hid hI
  clear hI
  go_enter Try.func48, Try.ntmps48
  go_wp2_with fail
  refine abs_calls (fun W => Kept w W ∧ Blk W (w.heap.size) 28 #[.int .u64 a0, .int .u64 a1] ∧ Blk W (w.heap.size + 1) 28 #[.int .u64 0, .int .u64 0]) ?_ ?_
  · refine ⟨?_, ?_, ?_⟩
    · repeat (first | exact Kept.refl _ | (refine Kept.setCell ?_ (kept_side (by first | assumption | omega)) _) | apply Kept.alloc)
    · simp [Blk, *] <;> (intros; omega)
    · simp [Blk, *] <;> (intros; omega)
  rintro W1 ⟨kW1, BW1_0, BW1_1⟩
  have cW1_0_0 : W1.cell? ⟨w.heap.size, 0, none⟩ = some (.int .u64 a0) := BW1_0.cell 0 rfl
  have cW1_0_1 : W1.cell? ⟨w.heap.size, 1, none⟩ = some (.int .u64 a1) := BW1_0.cell 1 rfl
  have fW1_0 := BW1_0.free
  have cW1_1_0 : W1.cell? ⟨w.heap.size + 1, 0, none⟩ = some (.int .u64 0) := BW1_1.cell 0 rfl
  have cW1_1_1 : W1.cell? ⟨w.heap.size + 1, 1, none⟩ = some (.int .u64 0) := BW1_1.cell 1 rfl
  have fW1_1 := BW1_1.free
  refine (HI.out _).mono ?_
  rintro e W2 ⟨rfl, hkW2⟩
  have kW2 := kW1.trans hkW2
  have BW2_0 := BW1_0.kept hkW2
  have BW2_1 := BW1_1.kept hkW2
  clear cW1_0_0 cW1_0_1 cW1_1_0 cW1_1_1 fW1_0 fW1_1 BW1_0 BW1_1 kW1 hkW2
  have cW2_0_0 : W2.cell? ⟨w.heap.size, 0, none⟩ = some (.int .u64 a0) := BW2_0.cell 0 rfl
  have cW2_0_1 : W2.cell? ⟨w.heap.size, 1, none⟩ = some (.int .u64 a1) := BW2_0.cell 1 rfl
  have fW2_0 := BW2_0.free
  have cW2_1_0 : W2.cell? ⟨w.heap.size + 1, 0, none⟩ = some (.int .u64 0) := BW2_1.cell 0 rfl
  have cW2_1_1 : W2.cell? ⟨w.heap.size + 1, 1, none⟩ = some (.int .u64 0) := BW2_1.cell 1 rfl
  have fW2_1 := BW2_1.free
  go_wp2_with fail
  refine bodyPost_ret (v := .agg #[.int .u64 a0, .int .u64 a1]) (by simp [results, Try.results48, go_sem, *]) rfl ⟨rfl, ?_⟩
  repeat (first | exact kW2 | (refine Kept.setCell ?_ (kept_side (by first | assumption | omega)) _) | apply Kept.alloc)

set_option maxRecDepth 100000 in
set_option maxHeartbeats 4000000 in
theorem w_Of_take (a0 a1 r0 r1 : Int) (p : Value) (hI : Pure Try.prog 49 #[.agg #[.int .u64 a0, .int .u64 a1]] (.bool false)) (hP : Pure Try.prog 58 #[] p) (hT : Pure Try.prog 117 #[.agg #[.int .u64 a0, .int .u64 a1], p] (.agg #[.int .u64 r0, .int .u64 r1])) :
    Pure Try.prog 48 #[.agg #[.int .u64 a0, .int .u64 a1]] (.agg #[.int .u64 r0, .int .u64 r1]) := fun w => by
  have HI := Lib.hid hI
  have HP := Lib.hid hP
  have HT := Lib.hid hT
  clear hI hP hT
  go_enter Try.func48, Try.ntmps48
  go_wp2_with fail
  refine abs_calls (fun W => Kept w W ∧ Blk W (w.heap.size) 28 #[.int .u64 a0, .int .u64 a1] ∧ Blk W (w.heap.size + 1) 28 #[.int .u64 0, .int .u64 0]) ?_ ?_
  · refine ⟨?_, ?_, ?_⟩
    · repeat (first | exact Kept.refl _ | (refine Kept.setCell ?_ (kept_side (by first | assumption | omega)) _) | apply Kept.alloc)
    · simp [Blk, *] <;> (intros; omega)
    · simp [Blk, *] <;> (intros; omega)
  rintro W1 ⟨kW1, BW1_0, BW1_1⟩
  have cW1_0_0 : W1.cell? ⟨w.heap.size, 0, none⟩ = some (.int .u64 a0) := BW1_0.cell 0 rfl
  have cW1_0_1 : W1.cell? ⟨w.heap.size, 1, none⟩ = some (.int .u64 a1) := BW1_0.cell 1 rfl
  have fW1_0 := BW1_0.free
  have cW1_1_0 : W1.cell? ⟨w.heap.size + 1, 0, none⟩ = some (.int .u64 0) := BW1_1.cell 0 rfl
  have cW1_1_1 : W1.cell? ⟨w.heap.size + 1, 1, none⟩ = some (.int .u64 0) := BW1_1.cell 1 rfl
  have fW1_1 := BW1_1.free
  refine (HI.out _).mono ?_
  rintro e W2 ⟨rfl, hkW2⟩
  have kW2 := kW1.trans hkW2
  have BW2_0 := BW1_0.kept hkW2
  have BW2_1 := BW1_1.kept hkW2
  clear cW1_0_0 cW1_0_1 cW1_1_0 cW1_1_1 fW1_0 fW1_1 BW1_0 BW1_1 kW1 hkW2
  have cW2_0_0 : W2.cell? ⟨w.heap.size, 0, none⟩ = some (.int .u64 a0) := BW2_0.cell 0 rfl
  have cW2_0_1 : W2.cell? ⟨w.heap.size, 1, none⟩ = some (.int .u64 a1) := BW2_0.cell 1 rfl
  have fW2_0 := BW2_0.free
  have cW2_1_0 : W2.cell? ⟨w.heap.size + 1, 0, none⟩ = some (.int .u64 0) := BW2_1.cell 0 rfl
  have cW2_1_1 : W2.cell? ⟨w.heap.size + 1, 1, none⟩ = some (.int .u64 0) := BW2_1.cell 1 rfl
  have fW2_1 := BW2_1.free
  go_wp2_with fail
  refine wp_region_calm 3 (by kernel_rfl) (by kernel_rfl) ?_
  simp only [List.take_succ_cons, List.take_zero, List.drop_succ_cons, List.drop_zero]
  repeat (first
    | (refine calm_skip rfl ?_; simp only [Act.put, List.setIfInBounds_toArray, List.set_cons_zero, List.set_cons_succ])
    | (refine calm_ex rfl ?_; apply Exists.intro; refine And.intro (fun w' hk => ?_) ?_; (focus (have q0 := hk.cell cW2_0_0; have q1 := hk.cell cW2_0_1; have q2 := hk.cell cW2_1_0; have q3 := hk.cell cW2_1_1; clear hk; go_simp; exact rfl)); simp only [Act.put, List.setIfInBounds_toArray, List.set_cons_zero, List.set_cons_succ])
    | (refine calm_step _ rfl (HP.out.call ?_) ?_; (focus (intro w'; go_simp; done)); simp only [Act.put, List.setIfInBounds_toArray, List.set_cons_zero, List.set_cons_succ])
    | (refine calm_step _ rfl (HT.out.call ?_) ?_; (focus (intro w'; go_simp; done)); simp only [Act.put, List.setIfInBounds_toArray, List.set_cons_zero, List.set_cons_succ]))
  refine calm_nil ?_
  intro W3 hkW3
  have kW3 := kW2.trans hkW3
  have BW3_0 := BW2_0.kept hkW3
  have BW3_1 := BW2_1.kept hkW3
  clear cW2_0_0 cW2_0_1 cW2_1_0 cW2_1_1 fW2_0 fW2_1 BW2_0 BW2_1 kW2 hkW3
  have cW3_0_0 : W3.cell? ⟨w.heap.size, 0, none⟩ = some (.int .u64 a0) := BW3_0.cell 0 rfl
  have cW3_0_1 : W3.cell? ⟨w.heap.size, 1, none⟩ = some (.int .u64 a1) := BW3_0.cell 1 rfl
  have fW3_0 := BW3_0.free
  have cW3_1_0 : W3.cell? ⟨w.heap.size + 1, 0, none⟩ = some (.int .u64 0) := BW3_1.cell 0 rfl
  have cW3_1_1 : W3.cell? ⟨w.heap.size + 1, 1, none⟩ = some (.int .u64 0) := BW3_1.cell 1 rfl
  have fW3_1 := BW3_1.free
  go_wp2_with fail
  refine bodyPost_ret (v := .agg #[.int .u64 r0, .int .u64 r1]) (by simp [results, Try.results48, go_sem, *]) rfl ⟨rfl, ?_⟩
  repeat (first | exact kW3 | (refine Kept.setCell ?_ (kept_side (by first | assumption | omega)) _) | apply Kept.alloc)

theorem w_Of {a : Int} (ha : is128 a) : Pure Try.prog 48 #[E a] (E (a % wP)) := by
  have hI := w_In ha
  by_cases h : a < wP
  · rw [decide_eq_true h] at hI
    rw [show a % wP = a by unfold is128 wP at *; omega]
    exact w_Of_stay _ _ hI
  · rw [decide_eq_false h] at hI
    have := w_Of_take _ _ _ _ _ hI w_P (w_take ha is128_wP)
    rw [show a % wP = (a - wP) % 340282366920938463463374607431768211456 by unfold is128 wP at *; omega]
    exact this

set_option maxRecDepth 100000 in
set_option maxHeartbeats 4000000 in
theorem w_Neg_nought (a0 a1 : Int) (hA : Pure Try.prog 48 #[.agg #[.int .u64 a0, .int .u64 a1]] (.agg #[.int .u64 0, .int .u64 0])) :
    Pure Try.prog 52 #[.agg #[.int .u64 a0, .int .u64 a1]] (.agg #[.int .u64 0, .int .u64 0]) := fun w => by
  have HA := Lib.hid hA
  clear hA
  have hq := fun w => run_eql28 0 0 0 0 w
  go_enter Try.func52, Try.ntmps52
  go_wp2_with fail
  refine abs_calls (fun W => Kept w W ∧ Blk W (w.heap.size) 28 #[.int .u64 a0, .int .u64 a1] ∧ Blk W (w.heap.size + 1) 28 #[.int .u64 0, .int .u64 0]) ?_ ?_
  · refine ⟨?_, ?_, ?_⟩
    · repeat (first | exact Kept.refl _ | (refine Kept.setCell ?_ (kept_side (by first | assumption | omega)) _) | apply Kept.alloc)
    · simp [Blk, *] <;> (intros; omega)
    · simp [Blk, *] <;> (intros; omega)
  rintro W1 ⟨kW1, BW1_0, BW1_1⟩
  have cW1_0_0 : W1.cell? ⟨w.heap.size, 0, none⟩ = some (.int .u64 a0) := BW1_0.cell 0 rfl
  have cW1_0_1 : W1.cell? ⟨w.heap.size, 1, none⟩ = some (.int .u64 a1) := BW1_0.cell 1 rfl
  have fW1_0 := BW1_0.free
  have cW1_1_0 : W1.cell? ⟨w.heap.size + 1, 0, none⟩ = some (.int .u64 0) := BW1_1.cell 0 rfl
  have cW1_1_1 : W1.cell? ⟨w.heap.size + 1, 1, none⟩ = some (.int .u64 0) := BW1_1.cell 1 rfl
  have fW1_1 := BW1_1.free
  refine (HA.out _).mono ?_
  rintro e W2 ⟨rfl, hkW2⟩
  have kW2 := kW1.trans hkW2
  have BW2_0 := BW1_0.kept hkW2
  have BW2_1 := BW1_1.kept hkW2
  clear cW1_0_0 cW1_0_1 cW1_1_0 cW1_1_1 fW1_0 fW1_1 BW1_0 BW1_1 kW1 hkW2
  have cW2_0_0 : W2.cell? ⟨w.heap.size, 0, none⟩ = some (.int .u64 a0) := BW2_0.cell 0 rfl
  have cW2_0_1 : W2.cell? ⟨w.heap.size, 1, none⟩ = some (.int .u64 a1) := BW2_0.cell 1 rfl
  have fW2_0 := BW2_0.free
  have cW2_1_0 : W2.cell? ⟨w.heap.size + 1, 0, none⟩ = some (.int .u64 0) := BW2_1.cell 0 rfl
  have cW2_1_1 : W2.cell? ⟨w.heap.size + 1, 1, none⟩ = some (.int .u64 0) := BW2_1.cell 1 rfl
  have fW2_1 := BW2_1.free
  go_wp2_with fail
  refine bodyPost_ret (v := .agg #[.int .u64 0, .int .u64 0]) (by simp [results, Try.results52, go_sem, *]) rfl ⟨rfl, ?_⟩
  repeat (first | exact kW2 | (refine Kept.setCell ?_ (kept_side (by first | assumption | omega)) _) | apply Kept.alloc)

set_option maxRecDepth 100000 in
set_option maxHeartbeats 4000000 in
theorem w_Neg_take (a0 a1 x0 x1 r0 r1 : Int) (p : Value) (hA : Pure Try.prog 48 #[.agg #[.int .u64 a0, .int .u64 a1]] (.agg #[.int .u64 x0, .int .u64 x1]))
    (hx : decide (x0 = 0 ∧ x1 = 0) = false) (hP : Pure Try.prog 58 #[] p) (hT : Pure Try.prog 117 #[p, .agg #[.int .u64 x0, .int .u64 x1]] (.agg #[.int .u64 r0, .int .u64 r1])) :
    Pure Try.prog 52 #[.agg #[.int .u64 a0, .int .u64 a1]] (.agg #[.int .u64 r0, .int .u64 r1]) := fun w => by
  have HA := Lib.hid hA
  have HP := Lib.hid hP
  have HT := Lib.hid hT
  clear hA hP hT
  have hq := fun w => run_eql28 x0 x1 0 0 w
  simp only [hx] at hq
  go_enter Try.func52, Try.ntmps52
  go_wp2_with fail
  refine abs_calls (fun W => Kept w W ∧ Blk W (w.heap.size) 28 #[.int .u64 a0, .int .u64 a1] ∧ Blk W (w.heap.size + 1) 28 #[.int .u64 0, .int .u64 0]) ?_ ?_
  · refine ⟨?_, ?_, ?_⟩
    · repeat (first | exact Kept.refl _ | (refine Kept.setCell ?_ (kept_side (by first | assumption | omega)) _) | apply Kept.alloc)
    · simp [Blk, *] <;> (intros; omega)
    · simp [Blk, *] <;> (intros; omega)
  rintro W1 ⟨kW1, BW1_0, BW1_1⟩
  have cW1_0_0 : W1.cell? ⟨w.heap.size, 0, none⟩ = some (.int .u64 a0) := BW1_0.cell 0 rfl
  have cW1_0_1 : W1.cell? ⟨w.heap.size, 1, none⟩ = some (.int .u64 a1) := BW1_0.cell 1 rfl
  have fW1_0 := BW1_0.free
  have cW1_1_0 : W1.cell? ⟨w.heap.size + 1, 0, none⟩ = some (.int .u64 0) := BW1_1.cell 0 rfl
  have cW1_1_1 : W1.cell? ⟨w.heap.size + 1, 1, none⟩ = some (.int .u64 0) := BW1_1.cell 1 rfl
  have fW1_1 := BW1_1.free
  refine (HA.out _).mono ?_
  rintro e W2 ⟨rfl, hkW2⟩
  have kW2 := kW1.trans hkW2
  have BW2_0 := BW1_0.kept hkW2
  have BW2_1 := BW1_1.kept hkW2
  clear cW1_0_0 cW1_0_1 cW1_1_0 cW1_1_1 fW1_0 fW1_1 BW1_0 BW1_1 kW1 hkW2
  have cW2_0_0 : W2.cell? ⟨w.heap.size, 0, none⟩ = some (.int .u64 a0) := BW2_0.cell 0 rfl
  have cW2_0_1 : W2.cell? ⟨w.heap.size, 1, none⟩ = some (.int .u64 a1) := BW2_0.cell 1 rfl
  have fW2_0 := BW2_0.free
  have cW2_1_0 : W2.cell? ⟨w.heap.size + 1, 0, none⟩ = some (.int .u64 0) := BW2_1.cell 0 rfl
  have cW2_1_1 : W2.cell? ⟨w.heap.size + 1, 1, none⟩ = some (.int .u64 0) := BW2_1.cell 1 rfl
  have fW2_1 := BW2_1.free
  go_wp2_with fail
  refine abs_world (fun W => Kept w W ∧ Blk W (w.heap.size) 28 #[.int .u64 x0, .int .u64 x1] ∧ Blk W (w.heap.size + 1) 28 #[.int .u64 0, .int .u64 0]) ?_ ?_
  · refine ⟨?_, ?_, ?_⟩
    · repeat (first | exact kW2 | (refine Kept.setCell ?_ (kept_side (by first | assumption | omega)) _) | apply Kept.alloc)
    · simp [Blk, *] <;> (intros; omega)
    · simp [Blk, *] <;> (intros; omega)
  rintro W3 ⟨kW3, BW3_0, BW3_1⟩
  have cW3_0_0 : W3.cell? ⟨w.heap.size, 0, none⟩ = some (.int .u64 x0) := BW3_0.cell 0 rfl
  have cW3_0_1 : W3.cell? ⟨w.heap.size, 1, none⟩ = some (.int .u64 x1) := BW3_0.cell 1 rfl
  have fW3_0 := BW3_0.free
  have cW3_1_0 : W3.cell? ⟨w.heap.size + 1, 0, none⟩ = some (.int .u64 0) := BW3_1.cell 0 rfl
  have cW3_1_1 : W3.cell? ⟨w.heap.size + 1, 1, none⟩ = some (.int .u64 0) := BW3_1.cell 1 rfl
  have fW3_1 := BW3_1.free
  refine wp_region_calm 3 (by kernel_rfl) (by kernel_rfl) ?_
  simp only [List.take_succ_cons, List.take_zero, List.drop_succ_cons, List.drop_zero]
  repeat (first
    | (refine calm_skip rfl ?_; simp only [Act.put, List.setIfInBounds_toArray, List.set_cons_zero, List.set_cons_succ])
    | (refine calm_ex rfl ?_; apply Exists.intro; refine And.intro (fun w' hk => ?_) ?_; (focus (have q0 := hk.cell cW3_0_0; have q1 := hk.cell cW3_0_1; have q2 := hk.cell cW3_1_0; have q3 := hk.cell cW3_1_1; clear hk; go_simp; exact rfl)); simp only [Act.put, List.setIfInBounds_toArray, List.set_cons_zero, List.set_cons_succ])
    | (refine calm_step _ rfl (HP.out.call ?_) ?_; (focus (intro w'; go_simp; done)); simp only [Act.put, List.setIfInBounds_toArray, List.set_cons_zero, List.set_cons_succ])
    | (refine calm_step _ rfl (HT.out.call ?_) ?_; (focus (intro w'; go_simp; done)); simp only [Act.put, List.setIfInBounds_toArray, List.set_cons_zero, List.set_cons_succ]))
  refine calm_nil ?_
  intro W4 hkW4
  have kW4 := kW3.trans hkW4
  have BW4_0 := BW3_0.kept hkW4
  have BW4_1 := BW3_1.kept hkW4
  clear cW3_0_0 cW3_0_1 cW3_1_0 cW3_1_1 fW3_0 fW3_1 BW3_0 BW3_1 kW3 hkW4
  have cW4_0_0 : W4.cell? ⟨w.heap.size, 0, none⟩ = some (.int .u64 x0) := BW4_0.cell 0 rfl
  have cW4_0_1 : W4.cell? ⟨w.heap.size, 1, none⟩ = some (.int .u64 x1) := BW4_0.cell 1 rfl
  have fW4_0 := BW4_0.free
  have cW4_1_0 : W4.cell? ⟨w.heap.size + 1, 0, none⟩ = some (.int .u64 0) := BW4_1.cell 0 rfl
  have cW4_1_1 : W4.cell? ⟨w.heap.size + 1, 1, none⟩ = some (.int .u64 0) := BW4_1.cell 1 rfl
  have fW4_1 := BW4_1.free
  go_wp2_with fail
  refine bodyPost_ret (v := .agg #[.int .u64 r0, .int .u64 r1]) (by simp [results, Try.results52, go_sem, *]) rfl ⟨rfl, ?_⟩
  repeat (first | exact kW4 | (refine Kept.setCell ?_ (kept_side (by first | assumption | omega)) _) | apply Kept.alloc)

theorem is128_emod_w (x : Int) : is128 (x % wP) := by unfold is128 wP; omega

theorem w_Neg {a : Int} (ha : is128 a) : Pure Try.prog 52 #[E a] (E (-a % wP)) := by
  have hA := w_Of ha
  by_cases h : a % wP = 0
  · have e : -a % wP = 0 := by unfold wP at *; omega
    rw [e]
    rw [h] at hA
    exact w_Neg_nought _ _ hA
  · have hx := is128_emod_w a
    have hT := w_take is128_wP hx
    have e : (wP - a % wP) % 340282366920938463463374607431768211456 = -a % wP := by unfold is128 wP at *; omega
    rw [e] at hT
    exact w_Neg_take _ _ _ _ _ _ _ hA (decide_eq_false (by unfold is128 at hx; omega)) w_P hT

set_option maxRecDepth 100000 in
set_option maxHeartbeats 4000000 in
theorem w_Add_sum (a0 a1 b0 b1 x0 x1 y0 y1 s0 s1 c : Int) 
    (hA : Pure Try.prog 48 #[.agg #[.int .u64 a0, .int .u64 a1]] (.agg #[.int .u64 x0, .int .u64 x1])) (hB : Pure Try.prog 48 #[.agg #[.int .u64 b0, .int .u64 b1]] (.agg #[.int .u64 y0, .int .u64 y1]))
    (SA : ∀ w, (callFunc 110 #[.int .u64 x0, .int .u64 y0, .int .u64 0]).run Try.prog w = .ok (.value (.tuple #[.int .u64 s0, .int .u64 c])) w)
    (SB : ∀ w, (callFunc 110 #[.int .u64 x1, .int .u64 y1, .int .u64 c]).run Try.prog w = .ok (.value (.tuple #[.int .u64 s1, .int .u64 0])) w) (hI : Pure Try.prog 49 #[.agg #[.int .u64 s0, .int .u64 s1]] (.bool true)) :
    Pure Try.prog 50 #[.agg #[.int .u64 a0, .int .u64 a1], .agg #[.int .u64 b0, .int .u64 b1]] (.agg #[.int .u64 s0, .int .u64 s1]) := fun w => by
  have HA := Lib.hid hA
  have HB := Lib.hid hB
  have HI := Lib.hid hI
  clear hA hB hI
  have ne0_2 : w.heap.size ≠ w.heap.size + 1 + 1 := by omega
  have ne2_0 : w.heap.size + 1 + 1 ≠ w.heap.size := by omega
  go_enter Try.func50, Try.ntmps50
  go_wp2_with fail
  refine abs_world (fun W => Kept w W ∧ Blk W (w.heap.size) 28 #[.int .u64 a0, .int .u64 a1] ∧ Blk W (w.heap.size + 1) 28 #[.int .u64 b0, .int .u64 b1] ∧ Blk W (w.heap.size + 1 + 1) 28 #[.int .u64 0, .int .u64 0]) ?_ ?_
  · refine ⟨?_, ?_, ?_, ?_⟩
    · repeat (first | exact Kept.refl _ | (refine Kept.setCell ?_ (kept_side (by first | assumption | omega)) _) | apply Kept.alloc)
    · simp [Blk, *] <;> (intros; omega)
    · simp [Blk, *] <;> (intros; omega)
    · simp [Blk, *] <;> (intros; omega)
  rintro W1 ⟨kW1, BW1_0, BW1_1, BW1_2⟩
  have cW1_0_0 : W1.cell? ⟨w.heap.size, 0, none⟩ = some (.int .u64 a0) := BW1_0.cell 0 rfl
  have cW1_0_1 : W1.cell? ⟨w.heap.size, 1, none⟩ = some (.int .u64 a1) := BW1_0.cell 1 rfl
  have fW1_0 := BW1_0.free
  have cW1_1_0 : W1.cell? ⟨w.heap.size + 1, 0, none⟩ = some (.int .u64 b0) := BW1_1.cell 0 rfl
  have cW1_1_1 : W1.cell? ⟨w.heap.size + 1, 1, none⟩ = some (.int .u64 b1) := BW1_1.cell 1 rfl
  have fW1_1 := BW1_1.free
  have cW1_2_0 : W1.cell? ⟨w.heap.size + 1 + 1, 0, none⟩ = some (.int .u64 0) := BW1_2.cell 0 rfl
  have cW1_2_1 : W1.cell? ⟨w.heap.size + 1 + 1, 1, none⟩ = some (.int .u64 0) := BW1_2.cell 1 rfl
  have fW1_2 := BW1_2.free
  refine wp_region_calm 4 (by kernel_rfl) (by kernel_rfl) ?_
  simp only [List.take_succ_cons, List.take_zero, List.drop_succ_cons, List.drop_zero]
  repeat (first
    | (refine calm_skip rfl ?_; simp only [Act.put, List.setIfInBounds_toArray, List.set_cons_zero, List.set_cons_succ])
    | (refine calm_ex rfl ?_; apply Exists.intro; refine And.intro (fun w' hk => ?_) ?_; (focus (have q0 := hk.cell cW1_0_0; have q1 := hk.cell cW1_0_1; have q2 := hk.cell cW1_1_0; have q3 := hk.cell cW1_1_1; have q4 := hk.cell cW1_2_0; have q5 := hk.cell cW1_2_1; clear hk; go_simp; exact rfl)); simp only [Act.put, List.setIfInBounds_toArray, List.set_cons_zero, List.set_cons_succ])
    | (refine calm_step _ rfl (HA.out.call ?_) ?_; (focus (intro w'; go_simp; done)); simp only [Act.put, List.setIfInBounds_toArray, List.set_cons_zero, List.set_cons_succ])
    | (refine calm_step _ rfl (HB.out.call ?_) ?_; (focus (intro w'; go_simp; done)); simp only [Act.put, List.setIfInBounds_toArray, List.set_cons_zero, List.set_cons_succ]))
  refine calm_nil ?_
  intro W2 hkW2
  have kW2 := kW1.trans hkW2
  have BW2_0 := BW1_0.kept hkW2
  have BW2_1 := BW1_1.kept hkW2
  have BW2_2 := BW1_2.kept hkW2
  clear cW1_0_0 cW1_0_1 cW1_1_0 cW1_1_1 cW1_2_0 cW1_2_1 fW1_0 fW1_1 fW1_2 BW1_0 BW1_1 BW1_2 kW1 hkW2
  have cW2_0_0 : W2.cell? ⟨w.heap.size, 0, none⟩ = some (.int .u64 a0) := BW2_0.cell 0 rfl
  have cW2_0_1 : W2.cell? ⟨w.heap.size, 1, none⟩ = some (.int .u64 a1) := BW2_0.cell 1 rfl
  have fW2_0 := BW2_0.free
  have cW2_1_0 : W2.cell? ⟨w.heap.size + 1, 0, none⟩ = some (.int .u64 b0) := BW2_1.cell 0 rfl
  have cW2_1_1 : W2.cell? ⟨w.heap.size + 1, 1, none⟩ = some (.int .u64 b1) := BW2_1.cell 1 rfl
  have fW2_1 := BW2_1.free
  have cW2_2_0 : W2.cell? ⟨w.heap.size + 1 + 1, 0, none⟩ = some (.int .u64 0) := BW2_2.cell 0 rfl
  have cW2_2_1 : W2.cell? ⟨w.heap.size + 1 + 1, 1, none⟩ = some (.int .u64 0) := BW2_2.cell 1 rfl
  have fW2_2 := BW2_2.free
  obtain ⟨b7, hb7⟩ : ∃ b, W2.heap.size = b := ⟨_, rfl⟩
  have neb7_0 : w.heap.size ≠ b7 := by have := BW2_0.lt; omega
  have enb7_0 : b7 ≠ w.heap.size := neb7_0.symm
  have neb7_1 : w.heap.size + 1 ≠ b7 := by have := BW2_1.lt; omega
  have enb7_1 : b7 ≠ w.heap.size + 1 := neb7_1.symm
  have neb7_2 : w.heap.size + 1 + 1 ≠ b7 := by have := BW2_2.lt; omega
  have enb7_2 : b7 ≠ w.heap.size + 1 + 1 := neb7_2.symm
  have lob7 : w.heap.size ≤ b7 := hb7 ▸ kW2.size
  go_wp2_with fail
  refine abs_calls (fun W => Kept w W ∧ Blk W (w.heap.size) 28 #[.int .u64 x0, .int .u64 x1] ∧ Blk W (w.heap.size + 1) 28 #[.int .u64 y0, .int .u64 y1] ∧ Blk W (w.heap.size + 1 + 1) 28 #[.int .u64 0, .int .u64 0] ∧ Blk W (b7) 28 #[.int .u64 s0, .int .u64 s1]) ?_ ?_
  · refine ⟨?_, ?_, ?_, ?_, ?_⟩
    · repeat (first | exact kW2 | (refine Kept.setCell ?_ (kept_side (by first | assumption | omega)) _) | apply Kept.alloc)
    · simp [Blk, *] <;> (intros; omega)
    · simp [Blk, *] <;> (intros; omega)
    · simp [Blk, *] <;> (intros; omega)
    · simp [Blk, *] <;> (intros; omega)
  rintro W3 ⟨kW3, BW3_0, BW3_1, BW3_2, BW3_3⟩
  have cW3_0_0 : W3.cell? ⟨w.heap.size, 0, none⟩ = some (.int .u64 x0) := BW3_0.cell 0 rfl
  have cW3_0_1 : W3.cell? ⟨w.heap.size, 1, none⟩ = some (.int .u64 x1) := BW3_0.cell 1 rfl
  have fW3_0 := BW3_0.free
  have cW3_1_0 : W3.cell? ⟨w.heap.size + 1, 0, none⟩ = some (.int .u64 y0) := BW3_1.cell 0 rfl
  have cW3_1_1 : W3.cell? ⟨w.heap.size + 1, 1, none⟩ = some (.int .u64 y1) := BW3_1.cell 1 rfl
  have fW3_1 := BW3_1.free
  have cW3_2_0 : W3.cell? ⟨w.heap.size + 1 + 1, 0, none⟩ = some (.int .u64 0) := BW3_2.cell 0 rfl
  have cW3_2_1 : W3.cell? ⟨w.heap.size + 1 + 1, 1, none⟩ = some (.int .u64 0) := BW3_2.cell 1 rfl
  have fW3_2 := BW3_2.free
  have cW3_3_0 : W3.cell? ⟨b7, 0, none⟩ = some (.int .u64 s0) := BW3_3.cell 0 rfl
  have cW3_3_1 : W3.cell? ⟨b7, 1, none⟩ = some (.int .u64 s1) := BW3_3.cell 1 rfl
  have fW3_3 := BW3_3.free
  refine (HI.out _).mono ?_
  rintro e W4 ⟨rfl, hkW4⟩
  have kW4 := kW3.trans hkW4
  have BW4_0 := BW3_0.kept hkW4
  have BW4_1 := BW3_1.kept hkW4
  have BW4_2 := BW3_2.kept hkW4
  have BW4_3 := BW3_3.kept hkW4
  clear cW3_0_0 cW3_0_1 cW3_1_0 cW3_1_1 cW3_2_0 cW3_2_1 cW3_3_0 cW3_3_1 fW3_0 fW3_1 fW3_2 fW3_3 BW3_0 BW3_1 BW3_2 BW3_3 kW3 hkW4
  have cW4_0_0 : W4.cell? ⟨w.heap.size, 0, none⟩ = some (.int .u64 x0) := BW4_0.cell 0 rfl
  have cW4_0_1 : W4.cell? ⟨w.heap.size, 1, none⟩ = some (.int .u64 x1) := BW4_0.cell 1 rfl
  have fW4_0 := BW4_0.free
  have cW4_1_0 : W4.cell? ⟨w.heap.size + 1, 0, none⟩ = some (.int .u64 y0) := BW4_1.cell 0 rfl
  have cW4_1_1 : W4.cell? ⟨w.heap.size + 1, 1, none⟩ = some (.int .u64 y1) := BW4_1.cell 1 rfl
  have fW4_1 := BW4_1.free
  have cW4_2_0 : W4.cell? ⟨w.heap.size + 1 + 1, 0, none⟩ = some (.int .u64 0) := BW4_2.cell 0 rfl
  have cW4_2_1 : W4.cell? ⟨w.heap.size + 1 + 1, 1, none⟩ = some (.int .u64 0) := BW4_2.cell 1 rfl
  have fW4_2 := BW4_2.free
  have cW4_3_0 : W4.cell? ⟨b7, 0, none⟩ = some (.int .u64 s0) := BW4_3.cell 0 rfl
  have cW4_3_1 : W4.cell? ⟨b7, 1, none⟩ = some (.int .u64 s1) := BW4_3.cell 1 rfl
  have fW4_3 := BW4_3.free
  go_wp2_with fail
  refine bodyPost_ret (v := .agg #[.int .u64 s0, .int .u64 s1]) (by simp [results, Try.results50, go_sem, *]) rfl ⟨rfl, ?_⟩
  repeat (first | exact kW4 | (refine Kept.setCell ?_ (kept_side (by first | assumption | omega)) _) | apply Kept.alloc)

set_option maxRecDepth 100000 in
set_option maxHeartbeats 4000000 in
theorem w_Add_take (a0 a1 b0 b1 x0 x1 y0 y1 s0 s1 r0 r1 c : Int) (p : Value) 
    (hA : Pure Try.prog 48 #[.agg #[.int .u64 a0, .int .u64 a1]] (.agg #[.int .u64 x0, .int .u64 x1])) (hB : Pure Try.prog 48 #[.agg #[.int .u64 b0, .int .u64 b1]] (.agg #[.int .u64 y0, .int .u64 y1]))
    (SA : ∀ w, (callFunc 110 #[.int .u64 x0, .int .u64 y0, .int .u64 0]).run Try.prog w = .ok (.value (.tuple #[.int .u64 s0, .int .u64 c])) w)
    (SB : ∀ w, (callFunc 110 #[.int .u64 x1, .int .u64 y1, .int .u64 c]).run Try.prog w = .ok (.value (.tuple #[.int .u64 s1, .int .u64 0])) w) (hI : Pure Try.prog 49 #[.agg #[.int .u64 s0, .int .u64 s1]] (.bool false))
    (hP : Pure Try.prog 58 #[] p) (hT : Pure Try.prog 117 #[.agg #[.int .u64 s0, .int .u64 s1], p] (.agg #[.int .u64 r0, .int .u64 r1])) :
    Pure Try.prog 50 #[.agg #[.int .u64 a0, .int .u64 a1], .agg #[.int .u64 b0, .int .u64 b1]] (.agg #[.int .u64 r0, .int .u64 r1]) := fun w => by
  have HA := Lib.hid hA
  have HB := Lib.hid hB
  have HI := Lib.hid hI
  have HP := Lib.hid hP
  have HT := Lib.hid hT
  clear hA hB hI hP hT
  have ne0_2 : w.heap.size ≠ w.heap.size + 1 + 1 := by omega
  have ne2_0 : w.heap.size + 1 + 1 ≠ w.heap.size := by omega
  go_enter Try.func50, Try.ntmps50
  go_wp2_with fail
  refine abs_world (fun W => Kept w W ∧ Blk W (w.heap.size) 28 #[.int .u64 a0, .int .u64 a1] ∧ Blk W (w.heap.size + 1) 28 #[.int .u64 b0, .int .u64 b1] ∧ Blk W (w.heap.size + 1 + 1) 28 #[.int .u64 0, .int .u64 0]) ?_ ?_
  · refine ⟨?_, ?_, ?_, ?_⟩
    · repeat (first | exact Kept.refl _ | (refine Kept.setCell ?_ (kept_side (by first | assumption | omega)) _) | apply Kept.alloc)
    · simp [Blk, *] <;> (intros; omega)
    · simp [Blk, *] <;> (intros; omega)
    · simp [Blk, *] <;> (intros; omega)
  rintro W1 ⟨kW1, BW1_0, BW1_1, BW1_2⟩
  have cW1_0_0 : W1.cell? ⟨w.heap.size, 0, none⟩ = some (.int .u64 a0) := BW1_0.cell 0 rfl
  have cW1_0_1 : W1.cell? ⟨w.heap.size, 1, none⟩ = some (.int .u64 a1) := BW1_0.cell 1 rfl
  have fW1_0 := BW1_0.free
  have cW1_1_0 : W1.cell? ⟨w.heap.size + 1, 0, none⟩ = some (.int .u64 b0) := BW1_1.cell 0 rfl
  have cW1_1_1 : W1.cell? ⟨w.heap.size + 1, 1, none⟩ = some (.int .u64 b1) := BW1_1.cell 1 rfl
  have fW1_1 := BW1_1.free
  have cW1_2_0 : W1.cell? ⟨w.heap.size + 1 + 1, 0, none⟩ = some (.int .u64 0) := BW1_2.cell 0 rfl
  have cW1_2_1 : W1.cell? ⟨w.heap.size + 1 + 1, 1, none⟩ = some (.int .u64 0) := BW1_2.cell 1 rfl
  have fW1_2 := BW1_2.free
  refine wp_region_calm 4 (by kernel_rfl) (by kernel_rfl) ?_
  simp only [List.take_succ_cons, List.take_zero, List.drop_succ_cons, List.drop_zero]
  repeat (first
    | (refine calm_skip rfl ?_; simp only [Act.put, List.setIfInBounds_toArray, List.set_cons_zero, List.set_cons_succ])
    | (refine calm_ex rfl ?_; apply Exists.intro; refine And.intro (fun w' hk => ?_) ?_; (focus (have q0 := hk.cell cW1_0_0; have q1 := hk.cell cW1_0_1; have q2 := hk.cell cW1_1_0; have q3 := hk.cell cW1_1_1; have q4 := hk.cell cW1_2_0; have q5 := hk.cell cW1_2_1; clear hk; go_simp; exact rfl)); simp only [Act.put, List.setIfInBounds_toArray, List.set_cons_zero, List.set_cons_succ])
    | (refine calm_step _ rfl (HA.out.call ?_) ?_; (focus (intro w'; go_simp; done)); simp only [Act.put, List.setIfInBounds_toArray, List.set_cons_zero, List.set_cons_succ])
    | (refine calm_step _ rfl (HB.out.call ?_) ?_; (focus (intro w'; go_simp; done)); simp only [Act.put, List.setIfInBounds_toArray, List.set_cons_zero, List.set_cons_succ]))
  refine calm_nil ?_
  intro W2 hkW2
  have kW2 := kW1.trans hkW2
  have BW2_0 := BW1_0.kept hkW2
  have BW2_1 := BW1_1.kept hkW2
  have BW2_2 := BW1_2.kept hkW2
  clear cW1_0_0 cW1_0_1 cW1_1_0 cW1_1_1 cW1_2_0 cW1_2_1 fW1_0 fW1_1 fW1_2 BW1_0 BW1_1 BW1_2 kW1 hkW2
  have cW2_0_0 : W2.cell? ⟨w.heap.size, 0, none⟩ = some (.int .u64 a0) := BW2_0.cell 0 rfl
  have cW2_0_1 : W2.cell? ⟨w.heap.size, 1, none⟩ = some (.int .u64 a1) := BW2_0.cell 1 rfl
  have fW2_0 := BW2_0.free
  have cW2_1_0 : W2.cell? ⟨w.heap.size + 1, 0, none⟩ = some (.int .u64 b0) := BW2_1.cell 0 rfl
  have cW2_1_1 : W2.cell? ⟨w.heap.size + 1, 1, none⟩ = some (.int .u64 b1) := BW2_1.cell 1 rfl
  have fW2_1 := BW2_1.free
  have cW2_2_0 : W2.cell? ⟨w.heap.size + 1 + 1, 0, none⟩ = some (.int .u64 0) := BW2_2.cell 0 rfl
  have cW2_2_1 : W2.cell? ⟨w.heap.size + 1 + 1, 1, none⟩ = some (.int .u64 0) := BW2_2.cell 1 rfl
  have fW2_2 := BW2_2.free
  obtain ⟨b7, hb7⟩ : ∃ b, W2.heap.size = b := ⟨_, rfl⟩
  have neb7_0 : w.heap.size ≠ b7 := by have := BW2_0.lt; omega
  have enb7_0 : b7 ≠ w.heap.size := neb7_0.symm
  have neb7_1 : w.heap.size + 1 ≠ b7 := by have := BW2_1.lt; omega
  have enb7_1 : b7 ≠ w.heap.size + 1 := neb7_1.symm
  have neb7_2 : w.heap.size + 1 + 1 ≠ b7 := by have := BW2_2.lt; omega
  have enb7_2 : b7 ≠ w.heap.size + 1 + 1 := neb7_2.symm
  have lob7 : w.heap.size ≤ b7 := hb7 ▸ kW2.size
  go_wp2_with fail
  refine abs_calls (fun W => Kept w W ∧ Blk W (w.heap.size) 28 #[.int .u64 x0, .int .u64 x1] ∧ Blk W (w.heap.size + 1) 28 #[.int .u64 y0, .int .u64 y1] ∧ Blk W (w.heap.size + 1 + 1) 28 #[.int .u64 0, .int .u64 0] ∧ Blk W (b7) 28 #[.int .u64 s0, .int .u64 s1]) ?_ ?_
  · refine ⟨?_, ?_, ?_, ?_, ?_⟩
    · repeat (first | exact kW2 | (refine Kept.setCell ?_ (kept_side (by first | assumption | omega)) _) | apply Kept.alloc)
    · simp [Blk, *] <;> (intros; omega)
    · simp [Blk, *] <;> (intros; omega)
    · simp [Blk, *] <;> (intros; omega)
    · simp [Blk, *] <;> (intros; omega)
  rintro W3 ⟨kW3, BW3_0, BW3_1, BW3_2, BW3_3⟩
  have cW3_0_0 : W3.cell? ⟨w.heap.size, 0, none⟩ = some (.int .u64 x0) := BW3_0.cell 0 rfl
  have cW3_0_1 : W3.cell? ⟨w.heap.size, 1, none⟩ = some (.int .u64 x1) := BW3_0.cell 1 rfl
  have fW3_0 := BW3_0.free
  have cW3_1_0 : W3.cell? ⟨w.heap.size + 1, 0, none⟩ = some (.int .u64 y0) := BW3_1.cell 0 rfl
  have cW3_1_1 : W3.cell? ⟨w.heap.size + 1, 1, none⟩ = some (.int .u64 y1) := BW3_1.cell 1 rfl
  have fW3_1 := BW3_1.free
  have cW3_2_0 : W3.cell? ⟨w.heap.size + 1 + 1, 0, none⟩ = some (.int .u64 0) := BW3_2.cell 0 rfl
  have cW3_2_1 : W3.cell? ⟨w.heap.size + 1 + 1, 1, none⟩ = some (.int .u64 0) := BW3_2.cell 1 rfl
  have fW3_2 := BW3_2.free
  have cW3_3_0 : W3.cell? ⟨b7, 0, none⟩ = some (.int .u64 s0) := BW3_3.cell 0 rfl
  have cW3_3_1 : W3.cell? ⟨b7, 1, none⟩ = some (.int .u64 s1) := BW3_3.cell 1 rfl
  have fW3_3 := BW3_3.free
  refine (HI.out _).mono ?_
  rintro e W4 ⟨rfl, hkW4⟩
  have kW4 := kW3.trans hkW4
  have BW4_0 := BW3_0.kept hkW4
  have BW4_1 := BW3_1.kept hkW4
  have BW4_2 := BW3_2.kept hkW4
  have BW4_3 := BW3_3.kept hkW4
  clear cW3_0_0 cW3_0_1 cW3_1_0 cW3_1_1 cW3_2_0 cW3_2_1 cW3_3_0 cW3_3_1 fW3_0 fW3_1 fW3_2 fW3_3 BW3_0 BW3_1 BW3_2 BW3_3 kW3 hkW4
  have cW4_0_0 : W4.cell? ⟨w.heap.size, 0, none⟩ = some (.int .u64 x0) := BW4_0.cell 0 rfl
  have cW4_0_1 : W4.cell? ⟨w.heap.size, 1, none⟩ = some (.int .u64 x1) := BW4_0.cell 1 rfl
  have fW4_0 := BW4_0.free
  have cW4_1_0 : W4.cell? ⟨w.heap.size + 1, 0, none⟩ = some (.int .u64 y0) := BW4_1.cell 0 rfl
  have cW4_1_1 : W4.cell? ⟨w.heap.size + 1, 1, none⟩ = some (.int .u64 y1) := BW4_1.cell 1 rfl
  have fW4_1 := BW4_1.free
  have cW4_2_0 : W4.cell? ⟨w.heap.size + 1 + 1, 0, none⟩ = some (.int .u64 0) := BW4_2.cell 0 rfl
  have cW4_2_1 : W4.cell? ⟨w.heap.size + 1 + 1, 1, none⟩ = some (.int .u64 0) := BW4_2.cell 1 rfl
  have fW4_2 := BW4_2.free
  have cW4_3_0 : W4.cell? ⟨b7, 0, none⟩ = some (.int .u64 s0) := BW4_3.cell 0 rfl
  have cW4_3_1 : W4.cell? ⟨b7, 1, none⟩ = some (.int .u64 s1) := BW4_3.cell 1 rfl
  have fW4_3 := BW4_3.free
  go_wp2_with fail
  refine wp_region_calm 3 (by kernel_rfl) (by kernel_rfl) ?_
  simp only [List.take_succ_cons, List.take_zero, List.drop_succ_cons, List.drop_zero]
  repeat (first
    | (refine calm_skip rfl ?_; simp only [Act.put, List.setIfInBounds_toArray, List.set_cons_zero, List.set_cons_succ])
    | (refine calm_ex rfl ?_; apply Exists.intro; refine And.intro (fun w' hk => ?_) ?_; (focus (have q0 := hk.cell cW4_0_0; have q1 := hk.cell cW4_0_1; have q2 := hk.cell cW4_1_0; have q3 := hk.cell cW4_1_1; have q4 := hk.cell cW4_2_0; have q5 := hk.cell cW4_2_1; have q6 := hk.cell cW4_3_0; have q7 := hk.cell cW4_3_1; clear hk; go_simp; exact rfl)); simp only [Act.put, List.setIfInBounds_toArray, List.set_cons_zero, List.set_cons_succ])
    | (refine calm_step _ rfl (HP.out.call ?_) ?_; (focus (intro w'; go_simp; done)); simp only [Act.put, List.setIfInBounds_toArray, List.set_cons_zero, List.set_cons_succ])
    | (refine calm_step _ rfl (HT.out.call ?_) ?_; (focus (intro w'; go_simp; done)); simp only [Act.put, List.setIfInBounds_toArray, List.set_cons_zero, List.set_cons_succ]))
  refine calm_nil ?_
  intro W5 hkW5
  have kW5 := kW4.trans hkW5
  have BW5_0 := BW4_0.kept hkW5
  have BW5_1 := BW4_1.kept hkW5
  have BW5_2 := BW4_2.kept hkW5
  have BW5_3 := BW4_3.kept hkW5
  clear cW4_0_0 cW4_0_1 cW4_1_0 cW4_1_1 cW4_2_0 cW4_2_1 cW4_3_0 cW4_3_1 fW4_0 fW4_1 fW4_2 fW4_3 BW4_0 BW4_1 BW4_2 BW4_3 kW4 hkW5
  have cW5_0_0 : W5.cell? ⟨w.heap.size, 0, none⟩ = some (.int .u64 x0) := BW5_0.cell 0 rfl
  have cW5_0_1 : W5.cell? ⟨w.heap.size, 1, none⟩ = some (.int .u64 x1) := BW5_0.cell 1 rfl
  have fW5_0 := BW5_0.free
  have cW5_1_0 : W5.cell? ⟨w.heap.size + 1, 0, none⟩ = some (.int .u64 y0) := BW5_1.cell 0 rfl
  have cW5_1_1 : W5.cell? ⟨w.heap.size + 1, 1, none⟩ = some (.int .u64 y1) := BW5_1.cell 1 rfl
  have fW5_1 := BW5_1.free
  have cW5_2_0 : W5.cell? ⟨w.heap.size + 1 + 1, 0, none⟩ = some (.int .u64 0) := BW5_2.cell 0 rfl
  have cW5_2_1 : W5.cell? ⟨w.heap.size + 1 + 1, 1, none⟩ = some (.int .u64 0) := BW5_2.cell 1 rfl
  have fW5_2 := BW5_2.free
  have cW5_3_0 : W5.cell? ⟨b7, 0, none⟩ = some (.int .u64 s0) := BW5_3.cell 0 rfl
  have cW5_3_1 : W5.cell? ⟨b7, 1, none⟩ = some (.int .u64 s1) := BW5_3.cell 1 rfl
  have fW5_3 := BW5_3.free
  go_wp2_with fail
  refine bodyPost_ret (v := .agg #[.int .u64 r0, .int .u64 r1]) (by simp [results, Try.results50, go_sem, *]) rfl ⟨rfl, ?_⟩
  repeat (first | exact kW5 | (refine Kept.setCell ?_ (kept_side (by first | assumption | omega)) _) | apply Kept.alloc)

set_option maxRecDepth 100000 in
set_option maxHeartbeats 4000000 in
theorem w_Add_over (a0 a1 b0 b1 x0 x1 y0 y1 s0 s1 r0 r1 c : Int) (p : Value) 
    (hA : Pure Try.prog 48 #[.agg #[.int .u64 a0, .int .u64 a1]] (.agg #[.int .u64 x0, .int .u64 x1])) (hB : Pure Try.prog 48 #[.agg #[.int .u64 b0, .int .u64 b1]] (.agg #[.int .u64 y0, .int .u64 y1]))
    (SA : ∀ w, (callFunc 110 #[.int .u64 x0, .int .u64 y0, .int .u64 0]).run Try.prog w = .ok (.value (.tuple #[.int .u64 s0, .int .u64 c])) w)
    (SB : ∀ w, (callFunc 110 #[.int .u64 x1, .int .u64 y1, .int .u64 c]).run Try.prog w = .ok (.value (.tuple #[.int .u64 s1, .int .u64 1])) w)
    (hP : Pure Try.prog 58 #[] p) (hT : Pure Try.prog 117 #[.agg #[.int .u64 s0, .int .u64 s1], p] (.agg #[.int .u64 r0, .int .u64 r1])) :
    Pure Try.prog 50 #[.agg #[.int .u64 a0, .int .u64 a1], .agg #[.int .u64 b0, .int .u64 b1]] (.agg #[.int .u64 r0, .int .u64 r1]) := fun w => by
  have HA := Lib.hid hA
  have HB := Lib.hid hB
  have HP := Lib.hid hP
  have HT := Lib.hid hT
  clear hA hB hP hT
  have ne0_2 : w.heap.size ≠ w.heap.size + 1 + 1 := by omega
  have ne2_0 : w.heap.size + 1 + 1 ≠ w.heap.size := by omega
  go_enter Try.func50, Try.ntmps50
  go_wp2_with fail
  refine abs_world (fun W => Kept w W ∧ Blk W (w.heap.size) 28 #[.int .u64 a0, .int .u64 a1] ∧ Blk W (w.heap.size + 1) 28 #[.int .u64 b0, .int .u64 b1] ∧ Blk W (w.heap.size + 1 + 1) 28 #[.int .u64 0, .int .u64 0]) ?_ ?_
  · refine ⟨?_, ?_, ?_, ?_⟩
    · repeat (first | exact Kept.refl _ | (refine Kept.setCell ?_ (kept_side (by first | assumption | omega)) _) | apply Kept.alloc)
    · simp [Blk, *] <;> (intros; omega)
    · simp [Blk, *] <;> (intros; omega)
    · simp [Blk, *] <;> (intros; omega)
  rintro W1 ⟨kW1, BW1_0, BW1_1, BW1_2⟩
  have cW1_0_0 : W1.cell? ⟨w.heap.size, 0, none⟩ = some (.int .u64 a0) := BW1_0.cell 0 rfl
  have cW1_0_1 : W1.cell? ⟨w.heap.size, 1, none⟩ = some (.int .u64 a1) := BW1_0.cell 1 rfl
  have fW1_0 := BW1_0.free
  have cW1_1_0 : W1.cell? ⟨w.heap.size + 1, 0, none⟩ = some (.int .u64 b0) := BW1_1.cell 0 rfl
  have cW1_1_1 : W1.cell? ⟨w.heap.size + 1, 1, none⟩ = some (.int .u64 b1) := BW1_1.cell 1 rfl
  have fW1_1 := BW1_1.free
  have cW1_2_0 : W1.cell? ⟨w.heap.size + 1 + 1, 0, none⟩ = some (.int .u64 0) := BW1_2.cell 0 rfl
  have cW1_2_1 : W1.cell? ⟨w.heap.size + 1 + 1, 1, none⟩ = some (.int .u64 0) := BW1_2.cell 1 rfl
  have fW1_2 := BW1_2.free
  refine wp_region_calm 4 (by kernel_rfl) (by kernel_rfl) ?_
  simp only [List.take_succ_cons, List.take_zero, List.drop_succ_cons, List.drop_zero]
  repeat (first
    | (refine calm_skip rfl ?_; simp only [Act.put, List.setIfInBounds_toArray, List.set_cons_zero, List.set_cons_succ])
    | (refine calm_ex rfl ?_; apply Exists.intro; refine And.intro (fun w' hk => ?_) ?_; (focus (have q0 := hk.cell cW1_0_0; have q1 := hk.cell cW1_0_1; have q2 := hk.cell cW1_1_0; have q3 := hk.cell cW1_1_1; have q4 := hk.cell cW1_2_0; have q5 := hk.cell cW1_2_1; clear hk; go_simp; exact rfl)); simp only [Act.put, List.setIfInBounds_toArray, List.set_cons_zero, List.set_cons_succ])
    | (refine calm_step _ rfl (HA.out.call ?_) ?_; (focus (intro w'; go_simp; done)); simp only [Act.put, List.setIfInBounds_toArray, List.set_cons_zero, List.set_cons_succ])
    | (refine calm_step _ rfl (HB.out.call ?_) ?_; (focus (intro w'; go_simp; done)); simp only [Act.put, List.setIfInBounds_toArray, List.set_cons_zero, List.set_cons_succ]))
  refine calm_nil ?_
  intro W2 hkW2
  have kW2 := kW1.trans hkW2
  have BW2_0 := BW1_0.kept hkW2
  have BW2_1 := BW1_1.kept hkW2
  have BW2_2 := BW1_2.kept hkW2
  clear cW1_0_0 cW1_0_1 cW1_1_0 cW1_1_1 cW1_2_0 cW1_2_1 fW1_0 fW1_1 fW1_2 BW1_0 BW1_1 BW1_2 kW1 hkW2
  have cW2_0_0 : W2.cell? ⟨w.heap.size, 0, none⟩ = some (.int .u64 a0) := BW2_0.cell 0 rfl
  have cW2_0_1 : W2.cell? ⟨w.heap.size, 1, none⟩ = some (.int .u64 a1) := BW2_0.cell 1 rfl
  have fW2_0 := BW2_0.free
  have cW2_1_0 : W2.cell? ⟨w.heap.size + 1, 0, none⟩ = some (.int .u64 b0) := BW2_1.cell 0 rfl
  have cW2_1_1 : W2.cell? ⟨w.heap.size + 1, 1, none⟩ = some (.int .u64 b1) := BW2_1.cell 1 rfl
  have fW2_1 := BW2_1.free
  have cW2_2_0 : W2.cell? ⟨w.heap.size + 1 + 1, 0, none⟩ = some (.int .u64 0) := BW2_2.cell 0 rfl
  have cW2_2_1 : W2.cell? ⟨w.heap.size + 1 + 1, 1, none⟩ = some (.int .u64 0) := BW2_2.cell 1 rfl
  have fW2_2 := BW2_2.free
  obtain ⟨b7, hb7⟩ : ∃ b, W2.heap.size = b := ⟨_, rfl⟩
  have neb7_0 : w.heap.size ≠ b7 := by have := BW2_0.lt; omega
  have enb7_0 : b7 ≠ w.heap.size := neb7_0.symm
  have neb7_1 : w.heap.size + 1 ≠ b7 := by have := BW2_1.lt; omega
  have enb7_1 : b7 ≠ w.heap.size + 1 := neb7_1.symm
  have neb7_2 : w.heap.size + 1 + 1 ≠ b7 := by have := BW2_2.lt; omega
  have enb7_2 : b7 ≠ w.heap.size + 1 + 1 := neb7_2.symm
  have lob7 : w.heap.size ≤ b7 := hb7 ▸ kW2.size
  go_wp2_with fail
  refine abs_world (fun W => Kept w W ∧ Blk W (w.heap.size) 28 #[.int .u64 x0, .int .u64 x1] ∧ Blk W (w.heap.size + 1) 28 #[.int .u64 y0, .int .u64 y1] ∧ Blk W (w.heap.size + 1 + 1) 28 #[.int .u64 0, .int .u64 0] ∧ Blk W (b7) 28 #[.int .u64 s0, .int .u64 s1]) ?_ ?_
  · refine ⟨?_, ?_, ?_, ?_, ?_⟩
    · repeat (first | exact kW2 | (refine Kept.setCell ?_ (kept_side (by first | assumption | omega)) _) | apply Kept.alloc)
    · simp [Blk, *] <;> (intros; omega)
    · simp [Blk, *] <;> (intros; omega)
    · simp [Blk, *] <;> (intros; omega)
    · simp [Blk, *] <;> (intros; omega)
  rintro W3 ⟨kW3, BW3_0, BW3_1, BW3_2, BW3_3⟩
  have cW3_0_0 : W3.cell? ⟨w.heap.size, 0, none⟩ = some (.int .u64 x0) := BW3_0.cell 0 rfl
  have cW3_0_1 : W3.cell? ⟨w.heap.size, 1, none⟩ = some (.int .u64 x1) := BW3_0.cell 1 rfl
  have fW3_0 := BW3_0.free
  have cW3_1_0 : W3.cell? ⟨w.heap.size + 1, 0, none⟩ = some (.int .u64 y0) := BW3_1.cell 0 rfl
  have cW3_1_1 : W3.cell? ⟨w.heap.size + 1, 1, none⟩ = some (.int .u64 y1) := BW3_1.cell 1 rfl
  have fW3_1 := BW3_1.free
  have cW3_2_0 : W3.cell? ⟨w.heap.size + 1 + 1, 0, none⟩ = some (.int .u64 0) := BW3_2.cell 0 rfl
  have cW3_2_1 : W3.cell? ⟨w.heap.size + 1 + 1, 1, none⟩ = some (.int .u64 0) := BW3_2.cell 1 rfl
  have fW3_2 := BW3_2.free
  have cW3_3_0 : W3.cell? ⟨b7, 0, none⟩ = some (.int .u64 s0) := BW3_3.cell 0 rfl
  have cW3_3_1 : W3.cell? ⟨b7, 1, none⟩ = some (.int .u64 s1) := BW3_3.cell 1 rfl
  have fW3_3 := BW3_3.free
  refine wp_region_calm 3 (by kernel_rfl) (by kernel_rfl) ?_
  simp only [List.take_succ_cons, List.take_zero, List.drop_succ_cons, List.drop_zero]
  repeat (first
    | (refine calm_skip rfl ?_; simp only [Act.put, List.setIfInBounds_toArray, List.set_cons_zero, List.set_cons_succ])
    | (refine calm_ex rfl ?_; apply Exists.intro; refine And.intro (fun w' hk => ?_) ?_; (focus (have q0 := hk.cell cW3_0_0; have q1 := hk.cell cW3_0_1; have q2 := hk.cell cW3_1_0; have q3 := hk.cell cW3_1_1; have q4 := hk.cell cW3_2_0; have q5 := hk.cell cW3_2_1; have q6 := hk.cell cW3_3_0; have q7 := hk.cell cW3_3_1; clear hk; go_simp; exact rfl)); simp only [Act.put, List.setIfInBounds_toArray, List.set_cons_zero, List.set_cons_succ])
    | (refine calm_step _ rfl (HP.out.call ?_) ?_; (focus (intro w'; go_simp; done)); simp only [Act.put, List.setIfInBounds_toArray, List.set_cons_zero, List.set_cons_succ])
    | (refine calm_step _ rfl (HT.out.call ?_) ?_; (focus (intro w'; go_simp; done)); simp only [Act.put, List.setIfInBounds_toArray, List.set_cons_zero, List.set_cons_succ]))
  refine calm_nil ?_
  intro W4 hkW4
  have kW4 := kW3.trans hkW4
  have BW4_0 := BW3_0.kept hkW4
  have BW4_1 := BW3_1.kept hkW4
  have BW4_2 := BW3_2.kept hkW4
  have BW4_3 := BW3_3.kept hkW4
  clear cW3_0_0 cW3_0_1 cW3_1_0 cW3_1_1 cW3_2_0 cW3_2_1 cW3_3_0 cW3_3_1 fW3_0 fW3_1 fW3_2 fW3_3 BW3_0 BW3_1 BW3_2 BW3_3 kW3 hkW4
  have cW4_0_0 : W4.cell? ⟨w.heap.size, 0, none⟩ = some (.int .u64 x0) := BW4_0.cell 0 rfl
  have cW4_0_1 : W4.cell? ⟨w.heap.size, 1, none⟩ = some (.int .u64 x1) := BW4_0.cell 1 rfl
  have fW4_0 := BW4_0.free
  have cW4_1_0 : W4.cell? ⟨w.heap.size + 1, 0, none⟩ = some (.int .u64 y0) := BW4_1.cell 0 rfl
  have cW4_1_1 : W4.cell? ⟨w.heap.size + 1, 1, none⟩ = some (.int .u64 y1) := BW4_1.cell 1 rfl
  have fW4_1 := BW4_1.free
  have cW4_2_0 : W4.cell? ⟨w.heap.size + 1 + 1, 0, none⟩ = some (.int .u64 0) := BW4_2.cell 0 rfl
  have cW4_2_1 : W4.cell? ⟨w.heap.size + 1 + 1, 1, none⟩ = some (.int .u64 0) := BW4_2.cell 1 rfl
  have fW4_2 := BW4_2.free
  have cW4_3_0 : W4.cell? ⟨b7, 0, none⟩ = some (.int .u64 s0) := BW4_3.cell 0 rfl
  have cW4_3_1 : W4.cell? ⟨b7, 1, none⟩ = some (.int .u64 s1) := BW4_3.cell 1 rfl
  have fW4_3 := BW4_3.free
  go_wp2_with fail
  refine bodyPost_ret (v := .agg #[.int .u64 r0, .int .u64 r1]) (by simp [results, Try.results50, go_sem, *]) rfl ⟨rfl, ?_⟩
  repeat (first | exact kW4 | (refine Kept.setCell ?_ (kept_side (by first | assumption | omega)) _) | apply Kept.alloc)

theorem w_Add {a b : Int} (ha : is128 a) (hb : is128 b) : Pure Try.prog 50 #[E a, E b] (E ((a + b) % wP)) := by
  have hA := w_Of ha
  have hB := w_Of hb
  have e : (a + b) % wP = (a % wP + b % wP) % wP := by unfold wP; omega
  rw [e]
  have x0 : 0 ≤ a % wP := by unfold wP; omega
  have x1 : a % wP < wP := by unfold wP; omega
  have y0 : 0 ≤ b % wP := by unfold wP; omega
  have y1 : b % wP < wP := by unfold wP; omega
  generalize a % wP = X at *
  generalize b % wP = Y at *
  have hl := wP_lt'
  have key := fun w => run_Add64 (X % 18446744073709551616) (Y % 18446744073709551616) 0 (by omega) (by omega) (by omega) (by omega) w
  have k2 := fun w => run_Add64 (X / 18446744073709551616) (Y / 18446744073709551616) ((X % 18446744073709551616 + Y % 18446744073709551616 + 0) / 18446744073709551616) (by omega) (by omega) (by omega) (by omega) w
  have hS : is128 ((X + Y) % 340282366920938463463374607431768211456) := by unfold is128; omega
  have eS : E ((X + Y) % 340282366920938463463374607431768211456) = .agg #[.int .u64 ((X % 18446744073709551616 + Y % 18446744073709551616 + 0) % 18446744073709551616), .int .u64 ((X / 18446744073709551616 + Y / 18446744073709551616 + (X % 18446744073709551616 + Y % 18446744073709551616 + 0) / 18446744073709551616) % 18446744073709551616)] := by
    unfold E; exact agg2_congr (by omega) (by omega)
  have hI := w_In hS
  have hT := w_take hS is128_wP
  rw [eS] at hI hT
  by_cases ho : 340282366920938463463374607431768211456 ≤ X + Y
  · rw [show (X / 18446744073709551616 + Y / 18446744073709551616 + (X % 18446744073709551616 + Y % 18446744073709551616 + 0) / 18446744073709551616) / 18446744073709551616 = 1 by omega] at k2
    have := w_Add_over _ _ _ _ _ _ _ _ _ _ _ _ _ _ hA hB key k2 w_P hT
    rw [show (X + Y) % wP = ((X + Y) % 340282366920938463463374607431768211456 - wP) % 340282366920938463463374607431768211456 by unfold wP at *; omega]
    exact this
  · rw [show (X / 18446744073709551616 + Y / 18446744073709551616 + (X % 18446744073709551616 + Y % 18446744073709551616 + 0) / 18446744073709551616) / 18446744073709551616 = 0 by omega] at k2
    by_cases h : (X + Y) % 340282366920938463463374607431768211456 < wP
    · rw [decide_eq_true h] at hI
      have := w_Add_sum _ _ _ _ _ _ _ _ _ _ _ hA hB key k2 hI
      rw [← eS] at this
      rw [show (X + Y) % wP = (X + Y) % 340282366920938463463374607431768211456 by unfold wP at *; omega]
      exact this
    · rw [decide_eq_false h] at hI
      have := w_Add_take _ _ _ _ _ _ _ _ _ _ _ _ _ _ hA hB key k2 hI w_P hT
      rw [show (X + Y) % wP = ((X + Y) % 340282366920938463463374607431768211456 - wP) % 340282366920938463463374607431768211456 by unfold wP at *; omega]
      exact this

set_option maxRecDepth 100000 in
set_option maxHeartbeats 4000000 in
theorem w_Sub_raw (a0 a1 b0 b1 n0 n1 s0 s1 : Int)
    (hN : Pure Try.prog 52 #[.agg #[.int .u64 b0, .int .u64 b1]] (.agg #[.int .u64 n0, .int .u64 n1])) (hA : Pure Try.prog 50 #[.agg #[.int .u64 a0, .int .u64 a1], .agg #[.int .u64 n0, .int .u64 n1]] (.agg #[.int .u64 s0, .int .u64 s1])) :
    Pure Try.prog 51 #[.agg #[.int .u64 a0, .int .u64 a1], .agg #[.int .u64 b0, .int .u64 b1]] (.agg #[.int .u64 s0, .int .u64 s1]) := fun w => by
  have HN := Lib.hid hN
  have HA := Lib.hid hA
  clear hN hA
  have ne0_2 : w.heap.size ≠ w.heap.size + 1 + 1 := by omega
  have ne2_0 : w.heap.size + 1 + 1 ≠ w.heap.size := by omega
  go_enter Try.func51, Try.ntmps51
  go_wp2_with fail
  refine abs_world (fun W => Kept w W ∧ Blk W (w.heap.size) 28 #[.int .u64 a0, .int .u64 a1] ∧ Blk W (w.heap.size + 1) 28 #[.int .u64 b0, .int .u64 b1] ∧ Blk W (w.heap.size + 1 + 1) 28 #[.int .u64 0, .int .u64 0]) ?_ ?_
  · refine ⟨?_, ?_, ?_, ?_⟩
    · repeat (first | exact Kept.refl _ | (refine Kept.setCell ?_ (kept_side (by first | assumption | omega)) _) | apply Kept.alloc)
    · simp [Blk, *] <;> (intros; omega)
    · simp [Blk, *] <;> (intros; omega)
    · simp [Blk, *] <;> (intros; omega)
  rintro W1 ⟨kW1, BW1_0, BW1_1, BW1_2⟩
  have cW1_0_0 : W1.cell? ⟨w.heap.size, 0, none⟩ = some (.int .u64 a0) := BW1_0.cell 0 rfl
  have cW1_0_1 : W1.cell? ⟨w.heap.size, 1, none⟩ = some (.int .u64 a1) := BW1_0.cell 1 rfl
  have fW1_0 := BW1_0.free
  have cW1_1_0 : W1.cell? ⟨w.heap.size + 1, 0, none⟩ = some (.int .u64 b0) := BW1_1.cell 0 rfl
  have cW1_1_1 : W1.cell? ⟨w.heap.size + 1, 1, none⟩ = some (.int .u64 b1) := BW1_1.cell 1 rfl
  have fW1_1 := BW1_1.free
  have cW1_2_0 : W1.cell? ⟨w.heap.size + 1 + 1, 0, none⟩ = some (.int .u64 0) := BW1_2.cell 0 rfl
  have cW1_2_1 : W1.cell? ⟨w.heap.size + 1 + 1, 1, none⟩ = some (.int .u64 0) := BW1_2.cell 1 rfl
  have fW1_2 := BW1_2.free
  refine wp_region_calm 4 (by kernel_rfl) (by kernel_rfl) ?_
  simp only [List.take_succ_cons, List.take_zero, List.drop_succ_cons, List.drop_zero]
  repeat (first
    | (refine calm_skip rfl ?_; simp only [Act.put, List.setIfInBounds_toArray, List.set_cons_zero, List.set_cons_succ])
    | (refine calm_ex rfl ?_; apply Exists.intro; refine And.intro (fun w' hk => ?_) ?_; (focus (have q0 := hk.cell cW1_0_0; have q1 := hk.cell cW1_0_1; have q2 := hk.cell cW1_1_0; have q3 := hk.cell cW1_1_1; have q4 := hk.cell cW1_2_0; have q5 := hk.cell cW1_2_1; clear hk; go_simp; exact rfl)); simp only [Act.put, List.setIfInBounds_toArray, List.set_cons_zero, List.set_cons_succ])
    | (refine calm_step _ rfl (HN.out.call ?_) ?_; (focus (intro w'; go_simp; done)); simp only [Act.put, List.setIfInBounds_toArray, List.set_cons_zero, List.set_cons_succ])
    | (refine calm_step _ rfl (HA.out.call ?_) ?_; (focus (intro w'; go_simp; done)); simp only [Act.put, List.setIfInBounds_toArray, List.set_cons_zero, List.set_cons_succ]))
  refine calm_nil ?_
  intro W2 hkW2
  have kW2 := kW1.trans hkW2
  have BW2_0 := BW1_0.kept hkW2
  have BW2_1 := BW1_1.kept hkW2
  have BW2_2 := BW1_2.kept hkW2
  clear cW1_0_0 cW1_0_1 cW1_1_0 cW1_1_1 cW1_2_0 cW1_2_1 fW1_0 fW1_1 fW1_2 BW1_0 BW1_1 BW1_2 kW1 hkW2
  have cW2_0_0 : W2.cell? ⟨w.heap.size, 0, none⟩ = some (.int .u64 a0) := BW2_0.cell 0 rfl
  have cW2_0_1 : W2.cell? ⟨w.heap.size, 1, none⟩ = some (.int .u64 a1) := BW2_0.cell 1 rfl
  have fW2_0 := BW2_0.free
  have cW2_1_0 : W2.cell? ⟨w.heap.size + 1, 0, none⟩ = some (.int .u64 b0) := BW2_1.cell 0 rfl
  have cW2_1_1 : W2.cell? ⟨w.heap.size + 1, 1, none⟩ = some (.int .u64 b1) := BW2_1.cell 1 rfl
  have fW2_1 := BW2_1.free
  have cW2_2_0 : W2.cell? ⟨w.heap.size + 1 + 1, 0, none⟩ = some (.int .u64 0) := BW2_2.cell 0 rfl
  have cW2_2_1 : W2.cell? ⟨w.heap.size + 1 + 1, 1, none⟩ = some (.int .u64 0) := BW2_2.cell 1 rfl
  have fW2_2 := BW2_2.free
  go_wp2_with fail
  refine bodyPost_ret (v := .agg #[.int .u64 s0, .int .u64 s1]) (by simp [results, Try.results51, go_sem, *]) rfl ⟨rfl, ?_⟩
  repeat (first | exact kW2 | (refine Kept.setCell ?_ (kept_side (by first | assumption | omega)) _) | apply Kept.alloc)

theorem w_Sub {a b : Int} (ha : is128 a) (hb : is128 b) : Pure Try.prog 51 #[E a, E b] (E ((a - b) % wP)) := by
  have hN := w_Neg hb
  have hA := w_Add ha (is128_emod_w (-b))
  rw [show (a + -b % wP) % wP = (a - b) % wP by unfold wP; omega] at hA
  exact w_Sub_raw _ _ _ _ _ _ _ _ hN hA

end Go.Proofs.Ytnajihlhcdedgaa
