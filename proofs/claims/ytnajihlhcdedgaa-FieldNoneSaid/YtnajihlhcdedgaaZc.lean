/-
  Texts joined: W1 W2 W3 W4 W5 W6 WSums WRules.
-/
import Derived.Test.YtnajihlhcdedgaaZb
import Derived.Deep.Cut
import Derived.Deep.LoopGhost
namespace Go.Proofs.Ytnajihlhcdedgaa
open Go.RowKit
set_option linter.unusedVariables false
set_option linter.unusedSimpArgs false
attribute [local simp] blkAt_setCell blkAt_alloc blkAt_drew Obj.put_cells

theorem Pure.to {f : FuncId} {a : Array Value} {u v : Value} (h : Pure Try.prog f a u) (e : u = v) : Pure Try.prog f a v := e ▸ h

theorem wP_lt' : wP ≤ 340282366920938462946865773367900766209 := by unfold wP; omega

theorem w_P : Pure Try.prog 58 #[] (E wP) := fun w => by
  go_enter Try.func58, Try.ntmps58
  go_wp2
  exact bodyPost_ret (v := .agg #[.int .u64 1, .int .u64 18446744073709551588]) (by simp [results, Try.results58, go_sem]) rfl ⟨rfl, (Kept.refl w).alloc _⟩

theorem w_less_raw (a0 a1 b0 b1 : Int) : Pure Try.prog 118 #[.agg #[.int .u64 a0, .int .u64 a1], .agg #[.int .u64 b0, .int .u64 b1]] (.bool (decide (a1 < b1 ∨ (a1 = b1 ∧ a0 < b0)))) := fun w => by
  by_cases h : a1 < b1
  · go_enter Try.func118, Try.ntmps118
    go_wp2
    go_ret
    exact ⟨by simp [h], kept2 w _ _⟩
  · by_cases g : a1 = b1
    · subst g
      go_enter Try.func118, Try.ntmps118
      go_wp2
      go_ret
      exact ⟨by simp, kept2 w _ _⟩
    · go_enter Try.func118, Try.ntmps118
      go_wp2
      go_ret
      exact ⟨by simp [h, g], kept2 w _ _⟩

theorem w_less {a b : Int} (ha : is128 a) (hb : is128 b) : Pure Try.prog 118 #[E a, E b] (.bool (decide (a < b))) := by
  have := w_less_raw (a % 18446744073709551616) (a / 18446744073709551616) (b % 18446744073709551616) (b / 18446744073709551616)
  have e : (a / 18446744073709551616 < b / 18446744073709551616 ∨ (a / 18446744073709551616 = b / 18446744073709551616 ∧ a % 18446744073709551616 < b % 18446744073709551616)) ↔ a < b := by omega
  rw [decide_eq_decide.2 e] at this
  exact this

set_option maxRecDepth 100000 in
set_option maxHeartbeats 4000000 in
theorem w_take_raw (a0 a1 b0 b1 R0 R1 c d : Int) (S0 : ∀ w, (callFunc 133 #[.int .u64 a0, .int .u64 b0, .int .u64 0]).run Try.prog w = .ok (.value (.tuple #[.int .u64 R0, .int .u64 c])) w) (S1 : ∀ w, (callFunc 133 #[.int .u64 a1, .int .u64 b1, .int .u64 c]).run Try.prog w = .ok (.value (.tuple #[.int .u64 R1, .int .u64 d])) w) :
    Pure Try.prog 117 #[.agg #[.int .u64 a0, .int .u64 a1], .agg #[.int .u64 b0, .int .u64 b1]] (.agg #[.int .u64 R0, .int .u64 R1]) := fun w => by
  have ne0_2 : w.heap.size ≠ w.heap.size + 1 + 1 := by omega
  have ne2_0 : w.heap.size + 1 + 1 ≠ w.heap.size := by omega
  go_enter Try.func117, Try.ntmps117
  go_wp2_with fail
  refine bodyPost_ret (v := .agg #[.int .u64 R0, .int .u64 R1]) (by simp [results, Try.results117, go_sem, *]) rfl ⟨rfl, ?_⟩
  repeat (first | exact Kept.refl _ | (refine Kept.setCell ?_ (kept_side (by first | assumption | omega)) _) | apply Kept.alloc)

theorem w_take {a b : Int} (ha : is128 a) (hb : is128 b) : Pure Try.prog 117 #[E a, E b] (E ((a - b) % 340282366920938463463374607431768211456)) := by
  unfold is128 at ha hb
  have key := fun w => run_Sub64 (a % 18446744073709551616) (b % 18446744073709551616) 0 (by omega) (by omega) (by omega) (by omega) (by omega) (by omega) w
  by_cases h : a % 18446744073709551616 < b % 18446744073709551616 + 0
  · simp only [if_pos h] at key
    have k2 := fun w => run_Sub64 (a / 18446744073709551616) (b / 18446744073709551616) 1 (by omega) (by omega) (by omega) (by omega) (by omega) (by omega) w
    have := w_take_raw _ _ _ _ _ _ _ _ key k2
    exact this.to (agg2_congr (by omega) (by omega))
  · simp only [if_neg h] at key
    have k2 := fun w => run_Sub64 (a / 18446744073709551616) (b / 18446744073709551616) 0 (by omega) (by omega) (by omega) (by omega) (by omega) (by omega) w
    have := w_take_raw _ _ _ _ _ _ _ _ key k2
    exact this.to (agg2_congr (by omega) (by omega))

set_option maxRecDepth 100000 in
set_option maxHeartbeats 4000000 in
theorem w_In_raw (a0 a1 : Int) (b : Bool) (p : Value) (hP : Pure Try.prog 58 #[] p) (hL : Pure Try.prog 118 #[.agg #[.int .u64 a0, .int .u64 a1], p] (.bool b)) :
    Pure Try.prog 49 #[.agg #[.int .u64 a0, .int .u64 a1]] (.bool b) := fun w => by
  have HP := Lib.hid hP
  have HL := Lib.hid hL
  clear hP hL
  go_enter Try.func49, Try.ntmps49
  go_wp2_with fail
  refine abs_world (fun W => Kept w W ∧ Blk W (w.heap.size) 28 #[.int .u64 a0, .int .u64 a1]) ?_ ?_
  · refine ⟨?_, ?_⟩
    · repeat (first | exact Kept.refl _ | (refine Kept.setCell ?_ (kept_side (by first | assumption | omega)) _) | apply Kept.alloc)
    · simp [Blk, *] <;> (intros; omega)
  rintro W1 ⟨kW1, BW1_0⟩
  have cW1_0_0 : W1.cell? ⟨w.heap.size, 0, none⟩ = some (.int .u64 a0) := BW1_0.cell 0 rfl
  have cW1_0_1 : W1.cell? ⟨w.heap.size, 1, none⟩ = some (.int .u64 a1) := BW1_0.cell 1 rfl
  have fW1_0 := BW1_0.free
  refine wp_region_calm 3 (by kernel_rfl) (by kernel_rfl) ?_
  simp only [List.take_succ_cons, List.take_zero, List.drop_succ_cons, List.drop_zero]
  repeat (first
    | (refine calm_skip rfl ?_; simp only [Act.put, List.setIfInBounds_toArray, List.set_cons_zero, List.set_cons_succ])
    | (refine calm_ex rfl ?_; apply Exists.intro; refine And.intro (fun w' hk => ?_) ?_; (focus (have q0 := hk.cell cW1_0_0; have q1 := hk.cell cW1_0_1; clear hk; go_simp; exact rfl)); simp only [Act.put, List.setIfInBounds_toArray, List.set_cons_zero, List.set_cons_succ])
    | (refine calm_step _ rfl (HP.out.call ?_) ?_; (focus (intro w'; go_simp; done)); simp only [Act.put, List.setIfInBounds_toArray, List.set_cons_zero, List.set_cons_succ])
    | (refine calm_step _ rfl (HL.out.call ?_) ?_; (focus (intro w'; go_simp; done)); simp only [Act.put, List.setIfInBounds_toArray, List.set_cons_zero, List.set_cons_succ]))
  refine calm_nil ?_
  intro W2 hkW2
  have kW2 := kW1.trans hkW2
  have BW2_0 := BW1_0.kept hkW2
  clear cW1_0_0 cW1_0_1 fW1_0 BW1_0 kW1 hkW2
  have cW2_0_0 : W2.cell? ⟨w.heap.size, 0, none⟩ = some (.int .u64 a0) := BW2_0.cell 0 rfl
  have cW2_0_1 : W2.cell? ⟨w.heap.size, 1, none⟩ = some (.int .u64 a1) := BW2_0.cell 1 rfl
  have fW2_0 := BW2_0.free
  go_wp2_with fail
  go_ret
  exact ⟨rfl, kW2⟩

theorem is128_wP : is128 wP := by unfold is128 wP; omega
theorem w_In {a : Int} (ha : is128 a) : Pure Try.prog 49 #[E a] (.bool (decide (a < wP))) := w_In_raw _ _ _ _ w_P (w_less ha is128_wP)

set_option maxRecDepth 100000 in
set_option maxHeartbeats 4000000 in
theorem w_Of_stay (a0 a1 : Int) (hI : Pure Try.prog 49 #[.agg #[.int .u64 a0, .int .u64 a1]] (.bool true)) :
    Pure Try.prog 48 #[.agg #[.int .u64 a0, .int .u64 a1]] (.agg #[.int .u64 a0, .int .u64 a1]) := fun w => by
  have HI := Lib.hid hI
  clear hI
  go_enter Try.func48, Try.ntmps48
  go_wp2_with fail
  refine abs_calls (fun W => Kept w W ∧ Blk W (w.heap.size) 28 #[.int .u64 a0, .int .u64 a1] ∧ Blk W (w.heap.size + 1) 28 #[.int .u64 0, .int .u64 0]) ?_ ?_
  · refine ⟨?_, ?_, ?_⟩
    · repeat (first | exact Kept.refl _ | (refine Kept.setCell ?_ (kept_side (by first | assumption | omega)) _) | apply Kept.alloc)
    · simp [Blk, *] <;> (intros; omega)
    · simp [Blk, *] <;> (intros; omega)
  rintro W1 ⟨kW1, BW1_0, BW1_1⟩
  have cW1_0_0 : W1.cell? ⟨w.heap.size, 0, none⟩ = some (.int .u64 a0) := BW1_0.cell 0 rfl
  have cW1_0_1 : W1.cell? ⟨w.heap.size, 1, none⟩ = some (.int .u64 a1) := BW1_0.cell 1 rfl
  have fW1_0 := BW1_0.free
  have cW1_1_0 : W1.cell? ⟨w.heap.size + 1, 0, none⟩ = some (.int .u64 0) := BW1_1.cell 0 rfl
  have cW1_1_1 : W1.cell? ⟨w.heap.size + 1, 1, none⟩ = some (.int .u64 0) := BW1_1.cell 1 rfl
  have fW1_1 := BW1_1.free
  refine (HI.out _).mono ?_
  rintro e W2 ⟨rfl, hkW2⟩
  have kW2 := kW1.trans hkW2
  have BW2_0 := BW1_0.kept hkW2
  have BW2_1 := BW1_1.kept hkW2
  clear cW1_0_0 cW1_0_1 cW1_1_0 cW1_1_1 fW1_0 fW1_1 BW1_0 BW1_1 kW1 hkW2
  have cW2_0_0 : W2.cell? ⟨w.heap.size, 0, none⟩ = some (.int .u64 a0) := BW2_0.cell 0 rfl
  have cW2_0_1 : W2.cell? ⟨w.heap.size, 1, none⟩ = some (.int .u64 a1) := BW2_0.cell 1 rfl
  have fW2_0 := BW2_0.free
  have cW2_1_0 : W2.cell? ⟨w.heap.size + 1, 0, none⟩ = some (.int .u64 0) := BW2_1.cell 0 rfl
  have cW2_1_1 : W2.cell? ⟨w.heap.size + 1, 1, none⟩ = some (.int .u64 0) := BW2_1.cell 1 rfl
  have fW2_1 := BW2_1.free
  go_wp2_with fail
  refine bodyPost_ret (v := .agg #[.int .u64 a0, .int .u64 a1]) (by simp [results, Try.results48, go_sem, *]) rfl ⟨rfl, ?_⟩
  repeat (first | exact kW2 | (refine Kept.setCell ?_ (kept_side (by first | assumption | omega)) _) | apply Kept.alloc)

set_option maxRecDepth 100000 in
set_option maxHeartbeats 4000000 in
theorem w_Of_take (a0 a1 r0 r1 : Int) (p : Value) (hI : Pure Try.prog 49 #[.agg #[.int .u64 a0, .int .u64 a1]] (.bool false)) (hP : Pure Try.prog 58 #[] p) (hT : Pure Try.prog 117 #[.agg #[.int .u64 a0, .int .u64 a1], p] (.agg #[.int .u64 r0, .int .u64 r1])) :
    Pure Try.prog 48 #[.agg #[.int .u64 a0, .int .u64 a1]] (.agg #[.int .u64 r0, .int .u64 r1]) := fun w => by
  have HI := Lib.hid hI
  have HP := Lib.hid hP
  have HT := Lib.hid hT
  clear hI hP hT
  go_enter Try.func48, Try.ntmps48
  go_wp2_with fail
  refine abs_calls (fun W => Kept w W ∧ Blk W (w.heap.size) 28 #[.int .u64 a0, .int .u64 a1] ∧ Blk W (w.heap.size + 1) 28 #[.int .u64 0, .int .u64 0]) ?_ ?_
  · refine ⟨?_, ?_, ?_⟩
    · repeat (first | exact Kept.refl _ | (refine Kept.setCell ?_ (kept_side (by first | assumption | omega)) _) | apply Kept.alloc)
    · simp [Blk, *] <;> (intros; omega)
    · simp [Blk, *] <;> (intros; omega)
  rintro W1 ⟨kW1, BW1_0, BW1_1⟩
  have cW1_0_0 : W1.cell? ⟨w.heap.size, 0, none⟩ = some (.int .u64 a0) := BW1_0.cell 0 rfl
  have cW1_0_1 : W1.cell? ⟨w.heap.size, 1, none⟩ = some (.int .u64 a1) := BW1_0.cell 1 rfl
  have fW1_0 := BW1_0.free
  have cW1_1_0 : W1.cell? ⟨w.heap.size + 1, 0, none⟩ = some (.int .u64 0) := BW1_1.cell 0 rfl
  have cW1_1_1 : W1.cell? ⟨w.heap.size + 1, 1, none⟩ = some (.int .u64 0) := BW1_1.cell 1 rfl
  have fW1_1 := BW1_1.free
  refine (HI.out _).mono ?_
  rintro e W2 ⟨rfl, hkW2⟩
  have kW2 := kW1.trans hkW2
  have BW2_0 := BW1_0.kept hkW2
  have BW2_1 := BW1_1.kept hkW2
  clear cW1_0_0 cW1_0_1 cW1_1_0 cW1_1_1 fW1_0 fW1_1 BW1_0 BW1_1 kW1 hkW2
  have cW2_0_0 : W2.cell? ⟨w.heap.size, 0, none⟩ = some (.int .u64 a0) := BW2_0.cell 0 rfl
  have cW2_0_1 : W2.cell? ⟨w.heap.size, 1, none⟩ = some (.int .u64 a1) := BW2_0.cell 1 rfl
  have fW2_0 := BW2_0.free
  have cW2_1_0 : W2.cell? ⟨w.heap.size + 1, 0, none⟩ = some (.int .u64 0) := BW2_1.cell 0 rfl
  have cW2_1_1 : W2.cell? ⟨w.heap.size + 1, 1, none⟩ = some (.int .u64 0) := BW2_1.cell 1 rfl
  have fW2_1 := BW2_1.free
  go_wp2_with fail
  refine wp_region_calm 3 (by kernel_rfl) (by kernel_rfl) ?_
  simp only [List.take_succ_cons, List.take_zero, List.drop_succ_cons, List.drop_zero]
  repeat (first
    | (refine calm_skip rfl ?_; simp only [Act.put, List.setIfInBounds_toArray, List.set_cons_zero, List.set_cons_succ])
    | (refine calm_ex rfl ?_; apply Exists.intro; refine And.intro (fun w' hk => ?_) ?_; (focus (have q0 := hk.cell cW2_0_0; have q1 := hk.cell cW2_0_1; have q2 := hk.cell cW2_1_0; have q3 := hk.cell cW2_1_1; clear hk; go_simp; exact rfl)); simp only [Act.put, List.setIfInBounds_toArray, List.set_cons_zero, List.set_cons_succ])
    | (refine calm_step _ rfl (HP.out.call ?_) ?_; (focus (intro w'; go_simp; done)); simp only [Act.put, List.setIfInBounds_toArray, List.set_cons_zero, List.set_cons_succ])
    | (refine calm_step _ rfl (HT.out.call ?_) ?_; (focus (intro w'; go_simp; done)); simp only [Act.put, List.setIfInBounds_toArray, List.set_cons_zero, List.set_cons_succ]))
  refine calm_nil ?_
  intro W3 hkW3
  have kW3 := kW2.trans hkW3
  have BW3_0 := BW2_0.kept hkW3
  have BW3_1 := BW2_1.kept hkW3
  clear cW2_0_0 cW2_0_1 cW2_1_0 cW2_1_1 fW2_0 fW2_1 BW2_0 BW2_1 kW2 hkW3
  have cW3_0_0 : W3.cell? ⟨w.heap.size, 0, none⟩ = some (.int .u64 a0) := BW3_0.cell 0 rfl
  have cW3_0_1 : W3.cell? ⟨w.heap.size, 1, none⟩ = some (.int .u64 a1) := BW3_0.cell 1 rfl
  have fW3_0 := BW3_0.free
  have cW3_1_0 : W3.cell? ⟨w.heap.size + 1, 0, none⟩ = some (.int .u64 0) := BW3_1.cell 0 rfl
  have cW3_1_1 : W3.cell? ⟨w.heap.size + 1, 1, none⟩ = some (.int .u64 0) := BW3_1.cell 1 rfl
  have fW3_1 := BW3_1.free
  go_wp2_with fail
  refine bodyPost_ret (v := .agg #[.int .u64 r0, .int .u64 r1]) (by simp [results, Try.results48, go_sem, *]) rfl ⟨rfl, ?_⟩
  repeat (first | exact kW3 | (refine Kept.setCell ?_ (kept_side (by first | assumption | omega)) _) | apply Kept.alloc)

theorem w_Of {a : Int} (ha : is128 a) : Pure Try.prog 48 #[E a] (E (a % wP)) := by
  have hI := w_In ha
  by_cases h : a < wP
  · rw [decide_eq_true h] at hI
    rw [show a % wP = a by unfold is128 wP at *; omega]
    exact w_Of_stay _ _ hI
  · rw [decide_eq_false h] at hI
    have := w_Of_take _ _ _ _ _ hI w_P (w_take ha is128_wP)
    rw [show a % wP = (a - wP) % 340282366920938463463374607431768211456 by unfold is128 wP at *; omega]
    exact this

set_option maxRecDepth 100000 in
set_option maxHeartbeats 4000000 in
theorem w_Neg_nought (a0 a1 : Int) (hA : Pure Try.prog 48 #[.agg #[.int .u64 a0, .int .u64 a1]] (.agg #[.int .u64 0, .int .u64 0])) :
    Pure Try.prog 52 #[.agg #[.int .u64 a0, .int .u64 a1]] (.agg #[.int .u64 0, .int .u64 0]) := fun w => by
  have HA := Lib.hid hA
  clear hA
  have hq := fun w => run_eql28 0 0 0 0 w
  go_enter Try.func52, Try.ntmps52
  go_wp2_with fail
  refine abs_calls (fun W => Kept w W ∧ Blk W (w.heap.size) 28 #[.int .u64 a0, .int .u64 a1] ∧ Blk W (w.heap.size + 1) 28 #[.int .u64 0, .int .u64 0]) ?_ ?_
  · refine ⟨?_, ?_, ?_⟩
    · repeat (first | exact Kept.refl _ | (refine Kept.setCell ?_ (kept_side (by first | assumption | omega)) _) | apply Kept.alloc)
    · simp [Blk, *] <;> (intros; omega)
    · simp [Blk, *] <;> (intros; omega)
  rintro W1 ⟨kW1, BW1_0, BW1_1⟩
  have cW1_0_0 : W1.cell? ⟨w.heap.size, 0, none⟩ = some (.int .u64 a0) := BW1_0.cell 0 rfl
  have cW1_0_1 : W1.cell? ⟨w.heap.size, 1, none⟩ = some (.int .u64 a1) := BW1_0.cell 1 rfl
  have fW1_0 := BW1_0.free
  have cW1_1_0 : W1.cell? ⟨w.heap.size + 1, 0, none⟩ = some (.int .u64 0) := BW1_1.cell 0 rfl
  have cW1_1_1 : W1.cell? ⟨w.heap.size + 1, 1, none⟩ = some (.int .u64 0) := BW1_1.cell 1 rfl
  have fW1_1 := BW1_1.free
  refine (HA.out _).mono ?_
  rintro e W2 ⟨rfl, hkW2⟩
  have kW2 := kW1.trans hkW2
  have BW2_0 := BW1_0.kept hkW2
  have BW2_1 := BW1_1.kept hkW2
  clear cW1_0_0 cW1_0_1 cW1_1_0 cW1_1_1 fW1_0 fW1_1 BW1_0 BW1_1 kW1 hkW2
  have cW2_0_0 : W2.cell? ⟨w.heap.size, 0, none⟩ = some (.int .u64 a0) := BW2_0.cell 0 rfl
  have cW2_0_1 : W2.cell? ⟨w.heap.size, 1, none⟩ = some (.int .u64 a1) := BW2_0.cell 1 rfl
  have fW2_0 := BW2_0.free
  have cW2_1_0 : W2.cell? ⟨w.heap.size + 1, 0, none⟩ = some (.int .u64 0) := BW2_1.cell 0 rfl
  have cW2_1_1 : W2.cell? ⟨w.heap.size + 1, 1, none⟩ = some (.int .u64 0) := BW2_1.cell 1 rfl
  have fW2_1 := BW2_1.free
  go_wp2_with fail
  refine bodyPost_ret (v := .agg #[.int .u64 0, .int .u64 0]) (by simp [results, Try.results52, go_sem, *]) rfl ⟨rfl, ?_⟩
  repeat (first | exact kW2 | (refine Kept.setCell ?_ (kept_side (by first | assumption | omega)) _) | apply Kept.alloc)

set_option maxRecDepth 100000 in
set_option maxHeartbeats 4000000 in
theorem w_Neg_take (a0 a1 x0 x1 r0 r1 : Int) (p : Value) (hA : Pure Try.prog 48 #[.agg #[.int .u64 a0, .int .u64 a1]] (.agg #[.int .u64 x0, .int .u64 x1]))
    (hx : decide (x0 = 0 ∧ x1 = 0) = false) (hP : Pure Try.prog 58 #[] p) (hT : Pure Try.prog 117 #[p, .agg #[.int .u64 x0, .int .u64 x1]] (.agg #[.int .u64 r0, .int .u64 r1])) :
    Pure Try.prog 52 #[.agg #[.int .u64 a0, .int .u64 a1]] (.agg #[.int .u64 r0, .int .u64 r1]) := fun w => by
  have HA := Lib.hid hA
  have HP := Lib.hid hP
  have HT := Lib.hid hT
  clear hA hP hT
  have hq := fun w => run_eql28 x0 x1 0 0 w
  simp only [hx] at hq
  go_enter Try.func52, Try.ntmps52
  go_wp2_with fail
  refine abs_calls (fun W => Kept w W ∧ Blk W (w.heap.size) 28 #[.int .u64 a0, .int .u64 a1] ∧ Blk W (w.heap.size + 1) 28 #[.int .u64 0, .int .u64 0]) ?_ ?_
  · refine ⟨?_, ?_, ?_⟩
    · repeat (first | exact Kept.refl _ | (refine Kept.setCell ?_ (kept_side (by first | assumption | omega)) _) | apply Kept.alloc)
    · simp [Blk, *] <;> (intros; omega)
    · simp [Blk, *] <;> (intros; omega)
  rintro W1 ⟨kW1, BW1_0, BW1_1⟩
  have cW1_0_0 : W1.cell? ⟨w.heap.size, 0, none⟩ = some (.int .u64 a0) := BW1_0.cell 0 rfl
  have cW1_0_1 : W1.cell? ⟨w.heap.size, 1, none⟩ = some (.int .u64 a1) := BW1_0.cell 1 rfl
  have fW1_0 := BW1_0.free
  have cW1_1_0 : W1.cell? ⟨w.heap.size + 1, 0, none⟩ = some (.int .u64 0) := BW1_1.cell 0 rfl
  have cW1_1_1 : W1.cell? ⟨w.heap.size + 1, 1, none⟩ = some (.int .u64 0) := BW1_1.cell 1 rfl
  have fW1_1 := BW1_1.free
  refine (HA.out _).mono ?_
  rintro e W2 ⟨rfl, hkW2⟩
  have kW2 := kW1.trans hkW2
  have BW2_0 := BW1_0.kept hkW2
  have BW2_1 := BW1_1.kept hkW2
  clear cW1_0_0 cW1_0_1 cW1_1_0 cW1_1_1 fW1_0 fW1_1 BW1_0 BW1_1 kW1 hkW2
  have cW2_0_0 : W2.cell? ⟨w.heap.size, 0, none⟩ = some (.int .u64 a0) := BW2_0.cell 0 rfl
  have cW2_0_1 : W2.cell? ⟨w.heap.size, 1, none⟩ = some (.int .u64 a1) := BW2_0.cell 1 rfl
  have fW2_0 := BW2_0.free
  have cW2_1_0 : W2.cell? ⟨w.heap.size + 1, 0, none⟩ = some (.int .u64 0) := BW2_1.cell 0 rfl
  have cW2_1_1 : W2.cell? ⟨w.heap.size + 1, 1, none⟩ = some (.int .u64 0) := BW2_1.cell 1 rfl
  have fW2_1 := BW2_1.free
  go_wp2_with fail
  refine abs_world (fun W => Kept w W ∧ Blk W (w.heap.size) 28 #[.int .u64 x0, .int .u64 x1] ∧ Blk W (w.heap.size + 1) 28 #[.int .u64 0, .int .u64 0]) ?_ ?_
  · refine ⟨?_, ?_, ?_⟩
    · repeat (first | exact kW2 | (refine Kept.setCell ?_ (kept_side (by first | assumption | omega)) _) | apply Kept.alloc)
    · simp [Blk, *] <;> (intros; omega)
    · simp [Blk, *] <;> (intros; omega)
  rintro W3 ⟨kW3, BW3_0, BW3_1⟩
  have cW3_0_0 : W3.cell? ⟨w.heap.size, 0, none⟩ = some (.int .u64 x0) := BW3_0.cell 0 rfl
  have cW3_0_1 : W3.cell? ⟨w.heap.size, 1, none⟩ = some (.int .u64 x1) := BW3_0.cell 1 rfl
  have fW3_0 := BW3_0.free
  have cW3_1_0 : W3.cell? ⟨w.heap.size + 1, 0, none⟩ = some (.int .u64 0) := BW3_1.cell 0 rfl
  have cW3_1_1 : W3.cell? ⟨w.heap.size + 1, 1, none⟩ = some (.int .u64 0) := BW3_1.cell 1 rfl
  have fW3_1 := BW3_1.free
  refine wp_region_calm 3 (by kernel_rfl) (by kernel_rfl) ?_
  simp only [List.take_succ_cons, List.take_zero, List.drop_succ_cons, List.drop_zero]
  repeat (first
    | (refine calm_skip rfl ?_; simp only [Act.put, List.setIfInBounds_toArray, List.set_cons_zero, List.set_cons_succ])
    | (refine calm_ex rfl ?_; apply Exists.intro; refine And.intro (fun w' hk => ?_) ?_; (focus (have q0 := hk.cell cW3_0_0; have q1 := hk.cell cW3_0_1; have q2 := hk.cell cW3_1_0; have q3 := hk.cell cW3_1_1; clear hk; go_simp; exact rfl)); simp only [Act.put, List.setIfInBounds_toArray, List.set_cons_zero, List.set_cons_succ])
    | (refine calm_step _ rfl (HP.out.call ?_) ?_; (focus (intro w'; go_simp; done)); simp only [Act.put, List.setIfInBounds_toArray, List.set_cons_zero, List.set_cons_succ])
    | (refine calm_step _ rfl (HT.out.call ?_) ?_; (focus (intro w'; go_simp; done)); simp only [Act.put, List.setIfInBounds_toArray, List.set_cons_zero, List.set_cons_succ]))
  refine calm_nil ?_
  intro W4 hkW4
  have kW4 := kW3.trans hkW4
  have BW4_0 := BW3_0.kept hkW4
  have BW4_1 := BW3_1.kept hkW4
  clear cW3_0_0 cW3_0_1 cW3_1_0 cW3_1_1 fW3_0 fW3_1 BW3_0 BW3_1 kW3 hkW4
  have cW4_0_0 : W4.cell? ⟨w.heap.size, 0, none⟩ = some (.int .u64 x0) := BW4_0.cell 0 rfl
  have cW4_0_1 : W4.cell? ⟨w.heap.size, 1, none⟩ = some (.int .u64 x1) := BW4_0.cell 1 rfl
  have fW4_0 := BW4_0.free
  have cW4_1_0 : W4.cell? ⟨w.heap.size + 1, 0, none⟩ = some (.int .u64 0) := BW4_1.cell 0 rfl
  have cW4_1_1 : W4.cell? ⟨w.heap.size + 1, 1, none⟩ = some (.int .u64 0) := BW4_1.cell 1 rfl
  have fW4_1 := BW4_1.free
  go_wp2_with fail
  refine bodyPost_ret (v := .agg #[.int .u64 r0, .int .u64 r1]) (by simp [results, Try.results52, go_sem, *]) rfl ⟨rfl, ?_⟩
  repeat (first | exact kW4 | (refine Kept.setCell ?_ (kept_side (by first | assumption | omega)) _) | apply Kept.alloc)

theorem is128_emod_w (x : Int) : is128 (x % wP) := by unfold is128 wP; omega

theorem w_Neg {a : Int} (ha : is128 a) : Pure Try.prog 52 #[E a] (E (-a % wP)) := by
  have hA := w_Of ha
  by_cases h : a % wP = 0
  · have e : -a % wP = 0 := by unfold wP at *; omega
    rw [e]
    rw [h] at hA
    exact w_Neg_nought _ _ hA
  · have hx := is128_emod_w a
    have hT := w_take is128_wP hx
    have e : (wP - a % wP) % 340282366920938463463374607431768211456 = -a % wP := by unfold is128 wP at *; omega
    rw [e] at hT
    exact w_Neg_take _ _ _ _ _ _ _ hA (decide_eq_false (by unfold is128 at hx; omega)) w_P hT

set_option maxRecDepth 100000 in
set_option maxHeartbeats 4000000 in
theorem w_Add_sum (a0 a1 b0 b1 x0 x1 y0 y1 s0 s1 c : Int) 
    (hA : Pure Try.prog 48 #[.agg #[.int .u64 a0, .int .u64 a1]] (.agg #[.int .u64 x0, .int .u64 x1])) (hB : Pure Try.prog 48 #[.agg #[.int .u64 b0, .int .u64 b1]] (.agg #[.int .u64 y0, .int .u64 y1]))
    (SA : ∀ w, (callFunc 110 #[.int .u64 x0, .int .u64 y0, .int .u64 0]).run Try.prog w = .ok (.value (.tuple #[.int .u64 s0, .int .u64 c])) w)
    (SB : ∀ w, (callFunc 110 #[.int .u64 x1, .int .u64 y1, .int .u64 c]).run Try.prog w = .ok (.value (.tuple #[.int .u64 s1, .int .u64 0])) w) (hI : Pure Try.prog 49 #[.agg #[.int .u64 s0, .int .u64 s1]] (.bool true)) :
    Pure Try.prog 50 #[.agg #[.int .u64 a0, .int .u64 a1], .agg #[.int .u64 b0, .int .u64 b1]] (.agg #[.int .u64 s0, .int .u64 s1]) := fun w => by
  have HA := Lib.hid hA
  have HB := Lib.hid hB
  have HI := Lib.hid hI
  clear hA hB hI
  have ne0_2 : w.heap.size ≠ w.heap.size + 1 + 1 := by omega
  have ne2_0 : w.heap.size + 1 + 1 ≠ w.heap.size := by omega
  go_enter Try.func50, Try.ntmps50
  go_wp2_with fail
  refine abs_world (fun W => Kept w W ∧ Blk W (w.heap.size) 28 #[.int .u64 a0, .int .u64 a1] ∧ Blk W (w.heap.size + 1) 28 #[.int .u64 b0, .int .u64 b1] ∧ Blk W (w.heap.size + 1 + 1) 28 #[.int .u64 0, .int .u64 0]) ?_ ?_
  · refine ⟨?_, ?_, ?_, ?_⟩
    · repeat (first | exact Kept.refl _ | (refine Kept.setCell ?_ (kept_side (by first | assumption | omega)) _) | apply Kept.alloc)
    · simp [Blk, *] <;> (intros; omega)
    · simp [Blk, *] <;> (intros; omega)
    · simp [Blk, *] <;> (intros; omega)
  rintro W1 ⟨kW1, BW1_0, BW1_1, BW1_2⟩
  have cW1_0_0 : W1.cell? ⟨w.heap.size, 0, none⟩ = some (.int .u64 a0) := BW1_0.cell 0 rfl
  have cW1_0_1 : W1.cell? ⟨w.heap.size, 1, none⟩ = some (.int .u64 a1) := BW1_0.cell 1 rfl
  have fW1_0 := BW1_0.free
  have cW1_1_0 : W1.cell? ⟨w.heap.size + 1, 0, none⟩ = some (.int .u64 b0) := BW1_1.cell 0 rfl
  have cW1_1_1 : W1.cell? ⟨w.heap.size + 1, 1, none⟩ = some (.int .u64 b1) := BW1_1.cell 1 rfl
  have fW1_1 := BW1_1.free
  have cW1_2_0 : W1.cell? ⟨w.heap.size + 1 + 1, 0, none⟩ = some (.int .u64 0) := BW1_2.cell 0 rfl
  have cW1_2_1 : W1.cell? ⟨w.heap.size + 1 + 1, 1, none⟩ = some (.int .u64 0) := BW1_2.cell 1 rfl
  have fW1_2 := BW1_2.free
  refine wp_region_calm 4 (by kernel_rfl) (by kernel_rfl) ?_
  simp only [List.take_succ_cons, List.take_zero, List.drop_succ_cons, List.drop_zero]
  repeat (first
    | (refine calm_skip rfl ?_; simp only [Act.put, List.setIfInBounds_toArray, List.set_cons_zero, List.set_cons_succ])
    | (refine calm_ex rfl ?_; apply Exists.intro; refine And.intro (fun w' hk => ?_) ?_; (focus (have q0 := hk.cell cW1_0_0; have q1 := hk.cell cW1_0_1; have q2 := hk.cell cW1_1_0; have q3 := hk.cell cW1_1_1; have q4 := hk.cell cW1_2_0; have q5 := hk.cell cW1_2_1; clear hk; go_simp; exact rfl)); simp only [Act.put, List.setIfInBounds_toArray, List.set_cons_zero, List.set_cons_succ])
    | (refine calm_step _ rfl (HA.out.call ?_) ?_; (focus (intro w'; go_simp; done)); simp only [Act.put, List.setIfInBounds_toArray, List.set_cons_zero, List.set_cons_succ])
    | (refine calm_step _ rfl (HB.out.call ?_) ?_; (focus (intro w'; go_simp; done)); simp only [Act.put, List.setIfInBounds_toArray, List.set_cons_zero, List.set_cons_succ]))
  refine calm_nil ?_
  intro W2 hkW2
  have kW2 := kW1.trans hkW2
  have BW2_0 := BW1_0.kept hkW2
  have BW2_1 := BW1_1.kept hkW2
  have BW2_2 := BW1_2.kept hkW2
  clear cW1_0_0 cW1_0_1 cW1_1_0 cW1_1_1 cW1_2_0 cW1_2_1 fW1_0 fW1_1 fW1_2 BW1_0 BW1_1 BW1_2 kW1 hkW2
  have cW2_0_0 : W2.cell? ⟨w.heap.size, 0, none⟩ = some (.int .u64 a0) := BW2_0.cell 0 rfl
  have cW2_0_1 : W2.cell? ⟨w.heap.size, 1, none⟩ = some (.int .u64 a1) := BW2_0.cell 1 rfl
  have fW2_0 := BW2_0.free
  have cW2_1_0 : W2.cell? ⟨w.heap.size + 1, 0, none⟩ = some (.int .u64 b0) := BW2_1.cell 0 rfl
  have cW2_1_1 : W2.cell? ⟨w.heap.size + 1, 1, none⟩ = some (.int .u64 b1) := BW2_1.cell 1 rfl
  have fW2_1 := BW2_1.free
  have cW2_2_0 : W2.cell? ⟨w.heap.size + 1 + 1, 0, none⟩ = some (.int .u64 0) := BW2_2.cell 0 rfl
  have cW2_2_1 : W2.cell? ⟨w.heap.size + 1 + 1, 1, none⟩ = some (.int .u64 0) := BW2_2.cell 1 rfl
  have fW2_2 := BW2_2.free
  obtain ⟨b7, hb7⟩ : ∃ b, W2.heap.size = b := ⟨_, rfl⟩
  have neb7_0 : w.heap.size ≠ b7 := by have := BW2_0.lt; omega
  have enb7_0 : b7 ≠ w.heap.size := neb7_0.symm
  have neb7_1 : w.heap.size + 1 ≠ b7 := by have := BW2_1.lt; omega
  have enb7_1 : b7 ≠ w.heap.size + 1 := neb7_1.symm
  have neb7_2 : w.heap.size + 1 + 1 ≠ b7 := by have := BW2_2.lt; omega
  have enb7_2 : b7 ≠ w.heap.size + 1 + 1 := neb7_2.symm
  have lob7 : w.heap.size ≤ b7 := hb7 ▸ kW2.size
  go_wp2_with fail
  refine abs_calls (fun W => Kept w W ∧ Blk W (w.heap.size) 28 #[.int .u64 x0, .int .u64 x1] ∧ Blk W (w.heap.size + 1) 28 #[.int .u64 y0, .int .u64 y1] ∧ Blk W (w.heap.size + 1 + 1) 28 #[.int .u64 0, .int .u64 0] ∧ Blk W (b7) 28 #[.int .u64 s0, .int .u64 s1]) ?_ ?_
  · refine ⟨?_, ?_, ?_, ?_, ?_⟩
    · repeat (first | exact kW2 | (refine Kept.setCell ?_ (kept_side (by first | assumption | omega)) _) | apply Kept.alloc)
    · simp [Blk, *] <;> (intros; omega)
    · simp [Blk, *] <;> (intros; omega)
    · simp [Blk, *] <;> (intros; omega)
    · simp [Blk, *] <;> (intros; omega)
  rintro W3 ⟨kW3, BW3_0, BW3_1, BW3_2, BW3_3⟩
  have cW3_0_0 : W3.cell? ⟨w.heap.size, 0, none⟩ = some (.int .u64 x0) := BW3_0.cell 0 rfl
  have cW3_0_1 : W3.cell? ⟨w.heap.size, 1, none⟩ = some (.int .u64 x1) := BW3_0.cell 1 rfl
  have fW3_0 := BW3_0.free
  have cW3_1_0 : W3.cell? ⟨w.heap.size + 1, 0, none⟩ = some (.int .u64 y0) := BW3_1.cell 0 rfl
  have cW3_1_1 : W3.cell? ⟨w.heap.size + 1, 1, none⟩ = some (.int .u64 y1) := BW3_1.cell 1 rfl
  have fW3_1 := BW3_1.free
  have cW3_2_0 : W3.cell? ⟨w.heap.size + 1 + 1, 0, none⟩ = some (.int .u64 0) := BW3_2.cell 0 rfl
  have cW3_2_1 : W3.cell? ⟨w.heap.size + 1 + 1, 1, none⟩ = some (.int .u64 0) := BW3_2.cell 1 rfl
  have fW3_2 := BW3_2.free
  have cW3_3_0 : W3.cell? ⟨b7, 0, none⟩ = some (.int .u64 s0) := BW3_3.cell 0 rfl
  have cW3_3_1 : W3.cell? ⟨b7, 1, none⟩ = some (.int .u64 s1) := BW3_3.cell 1 rfl
  have fW3_3 := BW3_3.free
  refine (HI.out _).mono ?_
  rintro e W4 ⟨rfl, hkW4⟩
  have kW4 := kW3.trans hkW4
  have BW4_0 := BW3_0.kept hkW4
  have BW4_1 := BW3_1.kept hkW4
  have BW4_2 := BW3_2.kept hkW4
  have BW4_3 := BW3_3.kept hkW4
  clear cW3_0_0 cW3_0_1 cW3_1_0 cW3_1_1 cW3_2_0 cW3_2_1 cW3_3_0 cW3_3_1 fW3_0 fW3_1 fW3_2 fW3_3 BW3_0 BW3_1 BW3_2 BW3_3 kW3 hkW4
  have cW4_0_0 : W4.cell? ⟨w.heap.size, 0, none⟩ = some (.int .u64 x0) := BW4_0.cell 0 rfl
  have cW4_0_1 : W4.cell? ⟨w.heap.size, 1, none⟩ = some (.int .u64 x1) := BW4_0.cell 1 rfl
  have fW4_0 := BW4_0.free
  have cW4_1_0 : W4.cell? ⟨w.heap.size + 1, 0, none⟩ = some (.int .u64 y0) := BW4_1.cell 0 rfl
  have cW4_1_1 : W4.cell? ⟨w.heap.size + 1, 1, none⟩ = some (.int .u64 y1) := BW4_1.cell 1 rfl
  have fW4_1 := BW4_1.free
  have cW4_2_0 : W4.cell? ⟨w.heap.size + 1 + 1, 0, none⟩ = some (.int .u64 0) := BW4_2.cell 0 rfl
  have cW4_2_1 : W4.cell? ⟨w.heap.size + 1 + 1, 1, none⟩ = some (.int .u64 0) := BW4_2.cell 1 rfl
  have fW4_2 := BW4_2.free
  have cW4_3_0 : W4.cell? ⟨b7, 0, none⟩ = some (.int .u64 s0) := BW4_3.cell 0 rfl
  have cW4_3_1 : W4.cell? ⟨b7, 1, none⟩ = some (.int .u64 s1) := BW4_3.cell 1 rfl
  have fW4_3 := BW4_3.free
  go_wp2_with fail
  refine bodyPost_ret (v := .agg #[.int .u64 s0, .int .u64 s1]) (by simp [results, Try.results50, go_sem, *]) rfl ⟨rfl, ?_⟩
  repeat (first | exact kW4 | (refine Kept.setCell ?_ (kept_side (by first | assumption | omega)) _) | apply Kept.alloc)

set_option maxRecDepth 100000 in
set_option maxHeartbeats 4000000 in
theorem w_Add_take (a0 a1 b0 b1 x0 x1 y0 y1 s0 s1 r0 r1 c : Int) (p : Value) 
    (hA : Pure Try.prog 48 #[.agg #[.int .u64 a0, .int .u64 a1]] (.agg #[.int .u64 x0, .int .u64 x1])) (hB : Pure Try.prog 48 #[.agg #[.int .u64 b0, .int .u64 b1]] (.agg #[.int .u64 y0, .int .u64 y1]))
    (SA : ∀ w, (callFunc 110 #[.int .u64 x0, .int .u64 y0, .int .u64 0]).run Try.prog w = .ok (.value (.tuple #[.int .u64 s0, .int .u64 c])) w)
    (SB : ∀ w, (callFunc 110 #[.int .u64 x1, .int .u64 y1, .int .u64 c]).run Try.prog w = .ok (.value (.tuple #[.int .u64 s1, .int .u64 0])) w) (hI : Pure Try.prog 49 #[.agg #[.int .u64 s0, .int .u64 s1]] (.bool false))
    (hP : Pure Try.prog 58 #[] p) (hT : Pure Try.prog 117 #[.agg #[.int .u64 s0, .int .u64 s1], p] (.agg #[.int .u64 r0, .int .u64 r1])) :
    Pure Try.prog 50 #[.agg #[.int .u64 a0, .int .u64 a1], .agg #[.int .u64 b0, .int .u64 b1]] (.agg #[.int .u64 r0, .int .u64 r1]) := fun w => by
  have HA := Lib.hid hA
  have HB := Lib.hid hB
  have HI := Lib.hid hI
  have HP := Lib.hid hP
  have HT := Lib.hid hT
  clear hA hB hI hP hT
  have ne0_2 : w.heap.size ≠ w.heap.size + 1 + 1 := by omega
  have ne2_0 : w.heap.size + 1 + 1 ≠ w.heap.size := by omega
  go_enter Try.func50, Try.ntmps50
  go_wp2_with fail
  refine abs_world (fun W => Kept w W ∧ Blk W (w.heap.size) 28 #[.int .u64 a0, .int .u64 a1] ∧ Blk W (w.heap.size + 1) 28 #[.int .u64 b0, .int .u64 b1] ∧ Blk W (w.heap.size + 1 + 1) 28 #[.int .u64 0, .int .u64 0]) ?_ ?_
  · refine ⟨?_, ?_, ?_, ?_⟩
    · repeat (first | exact Kept.refl _ | (refine Kept.setCell ?_ (kept_side (by first | assumption | omega)) _) | apply Kept.alloc)
    · simp [Blk, *] <;> (intros; omega)
    · simp [Blk, *] <;> (intros; omega)
    · simp [Blk, *] <;> (intros; omega)
  rintro W1 ⟨kW1, BW1_0, BW1_1, BW1_2⟩
  have cW1_0_0 : W1.cell? ⟨w.heap.size, 0, none⟩ = some (.int .u64 a0) := BW1_0.cell 0 rfl
  have cW1_0_1 : W1.cell? ⟨w.heap.size, 1, none⟩ = some (.int .u64 a1) := BW1_0.cell 1 rfl
  have fW1_0 := BW1_0.free
  have cW1_1_0 : W1.cell? ⟨w.heap.size + 1, 0, none⟩ = some (.int .u64 b0) := BW1_1.cell 0 rfl
  have cW1_1_1 : W1.cell? ⟨w.heap.size + 1, 1, none⟩ = some (.int .u64 b1) := BW1_1.cell 1 rfl
  have fW1_1 := BW1_1.free
  have cW1_2_0 : W1.cell? ⟨w.heap.size + 1 + 1, 0, none⟩ = some (.int .u64 0) := BW1_2.cell 0 rfl
  have cW1_2_1 : W1.cell? ⟨w.heap.size + 1 + 1, 1, none⟩ = some (.int .u64 0) := BW1_2.cell 1 rfl
  have fW1_2 := BW1_2.free
  refine wp_region_calm 4 (by kernel_rfl) (by kernel_rfl) ?_
  simp only [List.take_succ_cons, List.take_zero, List.drop_succ_cons, List.drop_zero]
  repeat (first
    | (refine calm_skip rfl ?_; simp only [Act.put, List.setIfInBounds_toArray, List.set_cons_zero, List.set_cons_succ])
    | (refine calm_ex rfl ?_; apply Exists.intro; refine And.intro (fun w' hk => ?_) ?_; (focus (have q0 := hk.cell cW1_0_0; have q1 := hk.cell cW1_0_1; have q2 := hk.cell cW1_1_0; have q3 := hk.cell cW1_1_1; have q4 := hk.cell cW1_2_0; have q5 := hk.cell cW1_2_1; clear hk; go_simp; exact rfl)); simp only [Act.put, List.setIfInBounds_toArray, List.set_cons_zero, List.set_cons_succ])
    | (refine calm_step _ rfl (HA.out.call ?_) ?_; (focus (intro w'; go_simp; done)); simp only [Act.put, List.setIfInBounds_toArray, List.set_cons_zero, List.set_cons_succ])
    | (refine calm_step _ rfl (HB.out.call ?_) ?_; (focus (intro w'; go_simp; done)); simp only [Act.put, List.setIfInBounds_toArray, List.set_cons_zero, List.set_cons_succ]))
  refine calm_nil ?_
  intro W2 hkW2
  have kW2 := kW1.trans hkW2
  have BW2_0 := BW1_0.kept hkW2
  have BW2_1 := BW1_1.kept hkW2
  have BW2_2 := BW1_2.kept hkW2
  clear cW1_0_0 cW1_0_1 cW1_1_0 cW1_1_1 cW1_2_0 cW1_2_1 fW1_0 fW1_1 fW1_2 BW1_0 BW1_1 BW1_2 kW1 hkW2
  have cW2_0_0 : W2.cell? ⟨w.heap.size, 0, none⟩ = some (.int .u64 a0) := BW2_0.cell 0 rfl
  have cW2_0_1 : W2.cell? ⟨w.heap.size, 1, none⟩ = some (.int .u64 a1) := BW2_0.cell 1 rfl
  have fW2_0 := BW2_0.free
  have cW2_1_0 : W2.cell? ⟨w.heap.size + 1, 0, none⟩ = some (.int .u64 b0) := BW2_1.cell 0 rfl
  have cW2_1_1 : W2.cell? ⟨w.heap.size + 1, 1, none⟩ = some (.int .u64 b1) := BW2_1.cell 1 rfl
  have fW2_1 := BW2_1.free
  have cW2_2_0 : W2.cell? ⟨w.heap.size + 1 + 1, 0, none⟩ = some (.int .u64 0) := BW2_2.cell 0 rfl
  have cW2_2_1 : W2.cell? ⟨w.heap.size + 1 + 1, 1, none⟩ = some (.int .u64 0) := BW2_2.cell 1 rfl
  have fW2_2 := BW2_2.free
  obtain ⟨b7, hb7⟩ : ∃ b, W2.heap.size = b := ⟨_, rfl⟩
  have neb7_0 : w.heap.size ≠ b7 := by have := BW2_0.lt; omega
  have enb7_0 : b7 ≠ w.heap.size := neb7_0.symm
  have neb7_1 : w.heap.size + 1 ≠ b7 := by have := BW2_1.lt; omega
  have enb7_1 : b7 ≠ w.heap.size + 1 := neb7_1.symm
  have neb7_2 : w.heap.size + 1 + 1 ≠ b7 := by have := BW2_2.lt; omega
  have enb7_2 : b7 ≠ w.heap.size + 1 + 1 := neb7_2.symm
  have lob7 : w.heap.size ≤ b7 := hb7 ▸ kW2.size
  go_wp2_with fail
  refine abs_calls (fun W => Kept w W ∧ Blk W (w.heap.size) 28 #[.int .u64 x0, .int .u64 x1] ∧ Blk W (w.heap.size + 1) 28 #[.int .u64 y0, .int .u64 y1] ∧ Blk W (w.heap.size + 1 + 1) 28 #[.int .u64 0, .int .u64 0] ∧ Blk W (b7) 28 #[.int .u64 s0, .int .u64 s1]) ?_ ?_
  · refine ⟨?_, ?_, ?_, ?_, ?_⟩
    · repeat (first | exact kW2 | (refine Kept.setCell ?_ (kept_side (by first | assumption | omega)) _) | apply Kept.alloc)
    · simp [Blk, *] <;> (intros; omega)
    · simp [Blk, *] <;> (intros; omega)
    · simp [Blk, *] <;> (intros; omega)
    · simp [Blk, *] <;> (intros; omega)
  rintro W3 ⟨kW3, BW3_0, BW3_1, BW3_2, BW3_3⟩
  have cW3_0_0 : W3.cell? ⟨w.heap.size, 0, none⟩ = some (.int .u64 x0) := BW3_0.cell 0 rfl
  have cW3_0_1 : W3.cell? ⟨w.heap.size, 1, none⟩ = some (.int .u64 x1) := BW3_0.cell 1 rfl
  have fW3_0 := BW3_0.free
  have cW3_1_0 : W3.cell? ⟨w.heap.size + 1, 0, none⟩ = some (.int .u64 y0) := BW3_1.cell 0 rfl
  have cW3_1_1 : W3.cell? ⟨w.heap.size + 1, 1, none⟩ = some (.int .u64 y1) := BW3_1.cell 1 rfl
  have fW3_1 := BW3_1.free
  have cW3_2_0 : W3.cell? ⟨w.heap.size + 1 + 1, 0, none⟩ = some (.int .u64 0) := BW3_2.cell 0 rfl
  have cW3_2_1 : W3.cell? ⟨w.heap.size + 1 + 1, 1, none⟩ = some (.int .u64 0) := BW3_2.cell 1 rfl
  have fW3_2 := BW3_2.free
  have cW3_3_0 : W3.cell? ⟨b7, 0, none⟩ = some (.int .u64 s0) := BW3_3.cell 0 rfl
  have cW3_3_1 : W3.cell? ⟨b7, 1, none⟩ = some (.int .u64 s1) := BW3_3.cell 1 rfl
  have fW3_3 := BW3_3.free
  refine (HI.out _).mono ?_
  rintro e W4 ⟨rfl, hkW4⟩
  have kW4 := kW3.trans hkW4
  have BW4_0 := BW3_0.kept hkW4
  have BW4_1 := BW3_1.kept hkW4
  have BW4_2 := BW3_2.kept hkW4
  have BW4_3 := BW3_3.kept hkW4
  clear cW3_0_0 cW3_0_1 cW3_1_0 cW3_1_1 cW3_2_0 cW3_2_1 cW3_3_0 cW3_3_1 fW3_0 fW3_1 fW3_2 fW3_3 BW3_0 BW3_1 BW3_2 BW3_3 kW3 hkW4
  have cW4_0_0 : W4.cell? ⟨w.heap.size, 0, none⟩ = some (.int .u64 x0) := BW4_0.cell 0 rfl
  have cW4_0_1 : W4.cell? ⟨w.heap.size, 1, none⟩ = some (.int .u64 x1) := BW4_0.cell 1 rfl
  have fW4_0 := BW4_0.free
  have cW4_1_0 : W4.cell? ⟨w.heap.size + 1, 0, none⟩ = some (.int .u64 y0) := BW4_1.cell 0 rfl
  have cW4_1_1 : W4.cell? ⟨w.heap.size + 1, 1, none⟩ = some (.int .u64 y1) := BW4_1.cell 1 rfl
  have fW4_1 := BW4_1.free
  have cW4_2_0 : W4.cell? ⟨w.heap.size + 1 + 1, 0, none⟩ = some (.int .u64 0) := BW4_2.cell 0 rfl
  have cW4_2_1 : W4.cell? ⟨w.heap.size + 1 + 1, 1, none⟩ = some (.int .u64 0) := BW4_2.cell 1 rfl
  have fW4_2 := BW4_2.free
  have cW4_3_0 : W4.cell? ⟨b7, 0, none⟩ = some (.int .u64 s0) := BW4_3.cell 0 rfl
  have cW4_3_1 : W4.cell? ⟨b7, 1, none⟩ = some (.int .u64 s1) := BW4_3.cell 1 rfl
  have fW4_3 := BW4_3.free
  go_wp2_with fail
  refine wp_region_calm 3 (by kernel_rfl) (by kernel_rfl) ?_
  simp only [List.take_succ_cons, List.take_zero, List.drop_succ_cons, List.drop_zero]
  repeat (first
    | (refine calm_skip rfl ?_; simp only [Act.put, List.setIfInBounds_toArray, List.set_cons_zero, List.set_cons_succ])
    | (refine calm_ex rfl ?_; apply Exists.intro; refine And.intro (fun w' hk => ?_) ?_; (focus (have q0 := hk.cell cW4_0_0; have q1 := hk.cell cW4_0_1; have q2 := hk.cell cW4_1_0; have q3 := hk.cell cW4_1_1; have q4 := hk.cell cW4_2_0; have q5 := hk.cell cW4_2_1; have q6 := hk.cell cW4_3_0; have q7 := hk.cell cW4_3_1; clear hk; go_simp; exact rfl)); simp only [Act.put, List.setIfInBounds_toArray, List.set_cons_zero, List.set_cons_succ])
    | (refine calm_step _ rfl (HP.out.call ?_) ?_; (focus (intro w'; go_simp; done)); simp only [Act.put, List.setIfInBounds_toArray, List.set_cons_zero, List.set_cons_succ])
    | (refine calm_step _ rfl (HT.out.call ?_) ?_; (focus (intro w'; go_simp; done)); simp only [Act.put, List.setIfInBounds_toArray, List.set_cons_zero, List.set_cons_succ]))
  refine calm_nil ?_
  intro W5 hkW5
  have kW5 := kW4.trans hkW5
  have BW5_0 := BW4_0.kept hkW5
  have BW5_1 := BW4_1.kept hkW5
  have BW5_2 := BW4_2.kept hkW5
  have BW5_3 := BW4_3.kept hkW5
  clear cW4_0_0 cW4_0_1 cW4_1_0 cW4_1_1 cW4_2_0 cW4_2_1 cW4_3_0 cW4_3_1 fW4_0 fW4_1 fW4_2 fW4_3 BW4_0 BW4_1 BW4_2 BW4_3 kW4 hkW5
  have cW5_0_0 : W5.cell? ⟨w.heap.size, 0, none⟩ = some (.int .u64 x0) := BW5_0.cell 0 rfl
  have cW5_0_1 : W5.cell? ⟨w.heap.size, 1, none⟩ = some (.int .u64 x1) := BW5_0.cell 1 rfl
  have fW5_0 := BW5_0.free
  have cW5_1_0 : W5.cell? ⟨w.heap.size + 1, 0, none⟩ = some (.int .u64 y0) := BW5_1.cell 0 rfl
  have cW5_1_1 : W5.cell? ⟨w.heap.size + 1, 1, none⟩ = some (.int .u64 y1) := BW5_1.cell 1 rfl
  have fW5_1 := BW5_1.free
  have cW5_2_0 : W5.cell? ⟨w.heap.size + 1 + 1, 0, none⟩ = some (.int .u64 0) := BW5_2.cell 0 rfl
  have cW5_2_1 : W5.cell? ⟨w.heap.size + 1 + 1, 1, none⟩ = some (.int .u64 0) := BW5_2.cell 1 rfl
  have fW5_2 := BW5_2.free
  have cW5_3_0 : W5.cell? ⟨b7, 0, none⟩ = some (.int .u64 s0) := BW5_3.cell 0 rfl
  have cW5_3_1 : W5.cell? ⟨b7, 1, none⟩ = some (.int .u64 s1) := BW5_3.cell 1 rfl
  have fW5_3 := BW5_3.free
  go_wp2_with fail
  refine bodyPost_ret (v := .agg #[.int .u64 r0, .int .u64 r1]) (by simp [results, Try.results50, go_sem, *]) rfl ⟨rfl, ?_⟩
  repeat (first | exact kW5 | (refine Kept.setCell ?_ (kept_side (by first | assumption | omega)) _) | apply Kept.alloc)

set_option maxRecDepth 100000 in
set_option maxHeartbeats 4000000 in
theorem w_Add_over (a0 a1 b0 b1 x0 x1 y0 y1 s0 s1 r0 r1 c : Int) (p : Value) 
    (hA : Pure Try.prog 48 #[.agg #[.int .u64 a0, .int .u64 a1]] (.agg #[.int .u64 x0, .int .u64 x1])) (hB : Pure Try.prog 48 #[.agg #[.int .u64 b0, .int .u64 b1]] (.agg #[.int .u64 y0, .int .u64 y1]))
    (SA : ∀ w, (callFunc 110 #[.int .u64 x0, .int .u64 y0, .int .u64 0]).run Try.prog w = .ok (.value (.tuple #[.int .u64 s0, .int .u64 c])) w)
    (SB : ∀ w, (callFunc 110 #[.int .u64 x1, .int .u64 y1, .int .u64 c]).run Try.prog w = .ok (.value (.tuple #[.int .u64 s1, .int .u64 1])) w)
    (hP : Pure Try.prog 58 #[] p) (hT : Pure Try.prog 117 #[.agg #[.int .u64 s0, .int .u64 s1], p] (.agg #[.int .u64 r0, .int .u64 r1])) :
    Pure Try.prog 50 #[.agg #[.int .u64 a0, .int .u64 a1], .agg #[.int .u64 b0, .int .u64 b1]] (.agg #[.int .u64 r0, .int .u64 r1]) := fun w => by
  have HA := Lib.hid hA
  have HB := Lib.hid hB
  have HP := Lib.hid hP
  have HT := Lib.hid hT
  clear hA hB hP hT
  have ne0_2 : w.heap.size ≠ w.heap.size + 1 + 1 := by omega
  have ne2_0 : w.heap.size + 1 + 1 ≠ w.heap.size := by omega
  go_enter Try.func50, Try.ntmps50
  go_wp2_with fail
  refine abs_world (fun W => Kept w W ∧ Blk W (w.heap.size) 28 #[.int .u64 a0, .int .u64 a1] ∧ Blk W (w.heap.size + 1) 28 #[.int .u64 b0, .int .u64 b1] ∧ Blk W (w.heap.size + 1 + 1) 28 #[.int .u64 0, .int .u64 0]) ?_ ?_
  · refine ⟨?_, ?_, ?_, ?_⟩
    · repeat (first | exact Kept.refl _ | (refine Kept.setCell ?_ (kept_side (by first | assumption | omega)) _) | apply Kept.alloc)
    · simp [Blk, *] <;> (intros; omega)
    · simp [Blk, *] <;> (intros; omega)
    · simp [Blk, *] <;> (intros; omega)
  rintro W1 ⟨kW1, BW1_0, BW1_1, BW1_2⟩
  have cW1_0_0 : W1.cell? ⟨w.heap.size, 0, none⟩ = some (.int .u64 a0) := BW1_0.cell 0 rfl
  have cW1_0_1 : W1.cell? ⟨w.heap.size, 1, none⟩ = some (.int .u64 a1) := BW1_0.cell 1 rfl
  have fW1_0 := BW1_0.free
  have cW1_1_0 : W1.cell? ⟨w.heap.size + 1, 0, none⟩ = some (.int .u64 b0) := BW1_1.cell 0 rfl
  have cW1_1_1 : W1.cell? ⟨w.heap.size + 1, 1, none⟩ = some (.int .u64 b1) := BW1_1.cell 1 rfl
  have fW1_1 := BW1_1.free
  have cW1_2_0 : W1.cell? ⟨w.heap.size + 1 + 1, 0, none⟩ = some (.int .u64 0) := BW1_2.cell 0 rfl
  have cW1_2_1 : W1.cell? ⟨w.heap.size + 1 + 1, 1, none⟩ = some (.int .u64 0) := BW1_2.cell 1 rfl
  have fW1_2 := BW1_2.free
  refine wp_region_calm 4 (by kernel_rfl) (by kernel_rfl) ?_
  simp only [List.take_succ_cons, List.take_zero, List.drop_succ_cons, List.drop_zero]
  repeat (first
    | (refine calm_skip rfl ?_; simp only [Act.put, List.setIfInBounds_toArray, List.set_cons_zero, List.set_cons_succ])
    | (refine calm_ex rfl ?_; apply Exists.intro; refine And.intro (fun w' hk => ?_) ?_; (focus (have q0 := hk.cell cW1_0_0; have q1 := hk.cell cW1_0_1; have q2 := hk.cell cW1_1_0; have q3 := hk.cell cW1_1_1; have q4 := hk.cell cW1_2_0; have q5 := hk.cell cW1_2_1; clear hk; go_simp; exact rfl)); simp only [Act.put, List.setIfInBounds_toArray, List.set_cons_zero, List.set_cons_succ])
    | (refine calm_step _ rfl (HA.out.call ?_) ?_; (focus (intro w'; go_simp; done)); simp only [Act.put, List.setIfInBounds_toArray, List.set_cons_zero, List.set_cons_succ])
    | (refine calm_step _ rfl (HB.out.call ?_) ?_; (focus (intro w'; go_simp; done)); simp only [Act.put, List.setIfInBounds_toArray, List.set_cons_zero, List.set_cons_succ]))
  refine calm_nil ?_
  intro W2 hkW2
  have kW2 := kW1.trans hkW2
  have BW2_0 := BW1_0.kept hkW2
  have BW2_1 := BW1_1.kept hkW2
  have BW2_2 := BW1_2.kept hkW2
  clear cW1_0_0 cW1_0_1 cW1_1_0 cW1_1_1 cW1_2_0 cW1_2_1 fW1_0 fW1_1 fW1_2 BW1_0 BW1_1 BW1_2 kW1 hkW2
  have cW2_0_0 : W2.cell? ⟨w.heap.size, 0, none⟩ = some (.int .u64 a0) := BW2_0.cell 0 rfl
  have cW2_0_1 : W2.cell? ⟨w.heap.size, 1, none⟩ = some (.int .u64 a1) := BW2_0.cell 1 rfl
  have fW2_0 := BW2_0.free
  have cW2_1_0 : W2.cell? ⟨w.heap.size + 1, 0, none⟩ = some (.int .u64 b0) := BW2_1.cell 0 rfl
  have cW2_1_1 : W2.cell? ⟨w.heap.size + 1, 1, none⟩ = some (.int .u64 b1) := BW2_1.cell 1 rfl
  have fW2_1 := BW2_1.free
  have cW2_2_0 : W2.cell? ⟨w.heap.size + 1 + 1, 0, none⟩ = some (.int .u64 0) := BW2_2.cell 0 rfl
  have cW2_2_1 : W2.cell? ⟨w.heap.size + 1 + 1, 1, none⟩ = some (.int .u64 0) := BW2_2.cell 1 rfl
  have fW2_2 := BW2_2.free
  obtain ⟨b7, hb7⟩ : ∃ b, W2.heap.size = b := ⟨_, rfl⟩
  have neb7_0 : w.heap.size ≠ b7 := by have := BW2_0.lt; omega
  have enb7_0 : b7 ≠ w.heap.size := neb7_0.symm
  have neb7_1 : w.heap.size + 1 ≠ b7 := by have := BW2_1.lt; omega
  have enb7_1 : b7 ≠ w.heap.size + 1 := neb7_1.symm
  have neb7_2 : w.heap.size + 1 + 1 ≠ b7 := by have := BW2_2.lt; omega
  have enb7_2 : b7 ≠ w.heap.size + 1 + 1 := neb7_2.symm
  have lob7 : w.heap.size ≤ b7 := hb7 ▸ kW2.size
  go_wp2_with fail
  refine abs_world (fun W => Kept w W ∧ Blk W (w.heap.size) 28 #[.int .u64 x0, .int .u64 x1] ∧ Blk W (w.heap.size + 1) 28 #[.int .u64 y0, .int .u64 y1] ∧ Blk W (w.heap.size + 1 + 1) 28 #[.int .u64 0, .int .u64 0] ∧ Blk W (b7) 28 #[.int .u64 s0, .int .u64 s1]) ?_ ?_
  · refine ⟨?_, ?_, ?_, ?_, ?_⟩
    · repeat (first | exact kW2 | (refine Kept.setCell ?_ (kept_side (by first | assumption | omega)) _) | apply Kept.alloc)
    · simp [Blk, *] <;> (intros; omega)
    · simp [Blk, *] <;> (intros; omega)
    · simp [Blk, *] <;> (intros; omega)
    · simp [Blk, *] <;> (intros; omega)
  rintro W3 ⟨kW3, BW3_0, BW3_1, BW3_2, BW3_3⟩
  have cW3_0_0 : W3.cell? ⟨w.heap.size, 0, none⟩ = some (.int .u64 x0) := BW3_0.cell 0 rfl
  have cW3_0_1 : W3.cell? ⟨w.heap.size, 1, none⟩ = some (.int .u64 x1) := BW3_0.cell 1 rfl
  have fW3_0 := BW3_0.free
  have cW3_1_0 : W3.cell? ⟨w.heap.size + 1, 0, none⟩ = some (.int .u64 y0) := BW3_1.cell 0 rfl
  have cW3_1_1 : W3.cell? ⟨w.heap.size + 1, 1, none⟩ = some (.int .u64 y1) := BW3_1.cell 1 rfl
  have fW3_1 := BW3_1.free
  have cW3_2_0 : W3.cell? ⟨w.heap.size + 1 + 1, 0, none⟩ = some (.int .u64 0) := BW3_2.cell 0 rfl
  have cW3_2_1 : W3.cell? ⟨w.heap.size + 1 + 1, 1, none⟩ = some (.int .u64 0) := BW3_2.cell 1 rfl
  have fW3_2 := BW3_2.free
  have cW3_3_0 : W3.cell? ⟨b7, 0, none⟩ = some (.int .u64 s0) := BW3_3.cell 0 rfl
  have cW3_3_1 : W3.cell? ⟨b7, 1, none⟩ = some (.int .u64 s1) := BW3_3.cell 1 rfl
  have fW3_3 := BW3_3.free
  refine wp_region_calm 3 (by kernel_rfl) (by kernel_rfl) ?_
  simp only [List.take_succ_cons, List.take_zero, List.drop_succ_cons, List.drop_zero]
  repeat (first
    | (refine calm_skip rfl ?_; simp only [Act.put, List.setIfInBounds_toArray, List.set_cons_zero, List.set_cons_succ])
    | (refine calm_ex rfl ?_; apply Exists.intro; refine And.intro (fun w' hk => ?_) ?_; (focus (have q0 := hk.cell cW3_0_0; have q1 := hk.cell cW3_0_1; have q2 := hk.cell cW3_1_0; have q3 := hk.cell cW3_1_1; have q4 := hk.cell cW3_2_0; have q5 := hk.cell cW3_2_1; have q6 := hk.cell cW3_3_0; have q7 := hk.cell cW3_3_1; clear hk; go_simp; exact rfl)); simp only [Act.put, List.setIfInBounds_toArray, List.set_cons_zero, List.set_cons_succ])
    | (refine calm_step _ rfl (HP.out.call ?_) ?_; (focus (intro w'; go_simp; done)); simp only [Act.put, List.setIfInBounds_toArray, List.set_cons_zero, List.set_cons_succ])
    | (refine calm_step _ rfl (HT.out.call ?_) ?_; (focus (intro w'; go_simp; done)); simp only [Act.put, List.setIfInBounds_toArray, List.set_cons_zero, List.set_cons_succ]))
  refine calm_nil ?_
  intro W4 hkW4
  have kW4 := kW3.trans hkW4
  have BW4_0 := BW3_0.kept hkW4
  have BW4_1 := BW3_1.kept hkW4
  have BW4_2 := BW3_2.kept hkW4
  have BW4_3 := BW3_3.kept hkW4
  clear cW3_0_0 cW3_0_1 cW3_1_0 cW3_1_1 cW3_2_0 cW3_2_1 cW3_3_0 cW3_3_1 fW3_0 fW3_1 fW3_2 fW3_3 BW3_0 BW3_1 BW3_2 BW3_3 kW3 hkW4
  have cW4_0_0 : W4.cell? ⟨w.heap.size, 0, none⟩ = some (.int .u64 x0) := BW4_0.cell 0 rfl
  have cW4_0_1 : W4.cell? ⟨w.heap.size, 1, none⟩ = some (.int .u64 x1) := BW4_0.cell 1 rfl
  have fW4_0 := BW4_0.free
  have cW4_1_0 : W4.cell? ⟨w.heap.size + 1, 0, none⟩ = some (.int .u64 y0) := BW4_1.cell 0 rfl
  have cW4_1_1 : W4.cell? ⟨w.heap.size + 1, 1, none⟩ = some (.int .u64 y1) := BW4_1.cell 1 rfl
  have fW4_1 := BW4_1.free
  have cW4_2_0 : W4.cell? ⟨w.heap.size + 1 + 1, 0, none⟩ = some (.int .u64 0) := BW4_2.cell 0 rfl
  have cW4_2_1 : W4.cell? ⟨w.heap.size + 1 + 1, 1, none⟩ = some (.int .u64 0) := BW4_2.cell 1 rfl
  have fW4_2 := BW4_2.free
  have cW4_3_0 : W4.cell? ⟨b7, 0, none⟩ = some (.int .u64 s0) := BW4_3.cell 0 rfl
  have cW4_3_1 : W4.cell? ⟨b7, 1, none⟩ = some (.int .u64 s1) := BW4_3.cell 1 rfl
  have fW4_3 := BW4_3.free
  go_wp2_with fail
  refine bodyPost_ret (v := .agg #[.int .u64 r0, .int .u64 r1]) (by simp [results, Try.results50, go_sem, *]) rfl ⟨rfl, ?_⟩
  repeat (first | exact kW4 | (refine Kept.setCell ?_ (kept_side (by first | assumption | omega)) _) | apply Kept.alloc)

theorem w_Add {a b : Int} (ha : is128 a) (hb : is128 b) : Pure Try.prog 50 #[E a, E b] (E ((a + b) % wP)) := by
  have hA := w_Of ha
  have hB := w_Of hb
  have e : (a + b) % wP = (a % wP + b % wP) % wP := by unfold wP; omega
  rw [e]
  have x0 : 0 ≤ a % wP := by unfold wP; omega
  have x1 : a % wP < wP := by unfold wP; omega
  have y0 : 0 ≤ b % wP := by unfold wP; omega
  have y1 : b % wP < wP := by unfold wP; omega
  generalize a % wP = X at *
  generalize b % wP = Y at *
  have hl := wP_lt'
  have key := fun w => run_Add64 (X % 18446744073709551616) (Y % 18446744073709551616) 0 (by omega) (by omega) (by omega) (by omega) w
  have k2 := fun w => run_Add64 (X / 18446744073709551616) (Y / 18446744073709551616) ((X % 18446744073709551616 + Y % 18446744073709551616 + 0) / 18446744073709551616) (by omega) (by omega) (by omega) (by omega) w
  have hS : is128 ((X + Y) % 340282366920938463463374607431768211456) := by unfold is128; omega
  have eS : E ((X + Y) % 340282366920938463463374607431768211456) = .agg #[.int .u64 ((X % 18446744073709551616 + Y % 18446744073709551616 + 0) % 18446744073709551616), .int .u64 ((X / 18446744073709551616 + Y / 18446744073709551616 + (X % 18446744073709551616 + Y % 18446744073709551616 + 0) / 18446744073709551616) % 18446744073709551616)] := by
    unfold E; exact agg2_congr (by omega) (by omega)
  have hI := w_In hS
  have hT := w_take hS is128_wP
  rw [eS] at hI hT
  by_cases ho : 340282366920938463463374607431768211456 ≤ X + Y
  · rw [show (X / 18446744073709551616 + Y / 18446744073709551616 + (X % 18446744073709551616 + Y % 18446744073709551616 + 0) / 18446744073709551616) / 18446744073709551616 = 1 by omega] at k2
    have := w_Add_over _ _ _ _ _ _ _ _ _ _ _ _ _ _ hA hB key k2 w_P hT
    rw [show (X + Y) % wP = ((X + Y) % 340282366920938463463374607431768211456 - wP) % 340282366920938463463374607431768211456 by unfold wP at *; omega]
    exact this
  · rw [show (X / 18446744073709551616 + Y / 18446744073709551616 + (X % 18446744073709551616 + Y % 18446744073709551616 + 0) / 18446744073709551616) / 18446744073709551616 = 0 by omega] at k2
    by_cases h : (X + Y) % 340282366920938463463374607431768211456 < wP
    · rw [decide_eq_true h] at hI
      have := w_Add_sum _ _ _ _ _ _ _ _ _ _ _ hA hB key k2 hI
      rw [← eS] at this
      rw [show (X + Y) % wP = (X + Y) % 340282366920938463463374607431768211456 by unfold wP at *; omega]
      exact this
    · rw [decide_eq_false h] at hI
      have := w_Add_take _ _ _ _ _ _ _ _ _ _ _ _ _ _ hA hB key k2 hI w_P hT
      rw [show (X + Y) % wP = ((X + Y) % 340282366920938463463374607431768211456 - wP) % 340282366920938463463374607431768211456 by unfold wP at *; omega]
      exact this

set_option maxRecDepth 100000 in
set_option maxHeartbeats 4000000 in
theorem w_Sub_raw (a0 a1 b0 b1 n0 n1 s0 s1 : Int)
    (hN : Pure Try.prog 52 #[.agg #[.int .u64 b0, .int .u64 b1]] (.agg #[.int .u64 n0, .int .u64 n1])) (hA : Pure Try.prog 50 #[.agg #[.int .u64 a0, .int .u64 a1], .agg #[.int .u64 n0, .int .u64 n1]] (.agg #[.int .u64 s0, .int .u64 s1])) :
    Pure Try.prog 51 #[.agg #[.int .u64 a0, .int .u64 a1], .agg #[.int .u64 b0, .int .u64 b1]] (.agg #[.int .u64 s0, .int .u64 s1]) := fun w => by
  have HN := Lib.hid hN
  have HA := Lib.hid hA
  clear hN hA
  have ne0_2 : w.heap.size ≠ w.heap.size + 1 + 1 := by omega
  have ne2_0 : w.heap.size + 1 + 1 ≠ w.heap.size := by omega
  go_enter Try.func51, Try.ntmps51
  go_wp2_with fail
  refine abs_world (fun W => Kept w W ∧ Blk W (w.heap.size) 28 #[.int .u64 a0, .int .u64 a1] ∧ Blk W (w.heap.size + 1) 28 #[.int .u64 b0, .int .u64 b1] ∧ Blk W (w.heap.size + 1 + 1) 28 #[.int .u64 0, .int .u64 0]) ?_ ?_
  · refine ⟨?_, ?_, ?_, ?_⟩
    · repeat (first | exact Kept.refl _ | (refine Kept.setCell ?_ (kept_side (by first | assumption | omega)) _) | apply Kept.alloc)
    · simp [Blk, *] <;> (intros; omega)
    · simp [Blk, *] <;> (intros; omega)
    · simp [Blk, *] <;> (intros; omega)
  rintro W1 ⟨kW1, BW1_0, BW1_1, BW1_2⟩
  have cW1_0_0 : W1.cell? ⟨w.heap.size, 0, none⟩ = some (.int .u64 a0) := BW1_0.cell 0 rfl
  have cW1_0_1 : W1.cell? ⟨w.heap.size, 1, none⟩ = some (.int .u64 a1) := BW1_0.cell 1 rfl
  have fW1_0 := BW1_0.free
  have cW1_1_0 : W1.cell? ⟨w.heap.size + 1, 0, none⟩ = some (.int .u64 b0) := BW1_1.cell 0 rfl
  have cW1_1_1 : W1.cell? ⟨w.heap.size + 1, 1, none⟩ = some (.int .u64 b1) := BW1_1.cell 1 rfl
  have fW1_1 := BW1_1.free
  have cW1_2_0 : W1.cell? ⟨w.heap.size + 1 + 1, 0, none⟩ = some (.int .u64 0) := BW1_2.cell 0 rfl
  have cW1_2_1 : W1.cell? ⟨w.heap.size + 1 + 1, 1, none⟩ = some (.int .u64 0) := BW1_2.cell 1 rfl
  have fW1_2 := BW1_2.free
  refine wp_region_calm 4 (by kernel_rfl) (by kernel_rfl) ?_
  simp only [List.take_succ_cons, List.take_zero, List.drop_succ_cons, List.drop_zero]
  repeat (first
    | (refine calm_skip rfl ?_; simp only [Act.put, List.setIfInBounds_toArray, List.set_cons_zero, List.set_cons_succ])
    | (refine calm_ex rfl ?_; apply Exists.intro; refine And.intro (fun w' hk => ?_) ?_; (focus (have q0 := hk.cell cW1_0_0; have q1 := hk.cell cW1_0_1; have q2 := hk.cell cW1_1_0; have q3 := hk.cell cW1_1_1; have q4 := hk.cell cW1_2_0; have q5 := hk.cell cW1_2_1; clear hk; go_simp; exact rfl)); simp only [Act.put, List.setIfInBounds_toArray, List.set_cons_zero, List.set_cons_succ])
    | (refine calm_step _ rfl (HN.out.call ?_) ?_; (focus (intro w'; go_simp; done)); simp only [Act.put, List.setIfInBounds_toArray, List.set_cons_zero, List.set_cons_succ])
    | (refine calm_step _ rfl (HA.out.call ?_) ?_; (focus (intro w'; go_simp; done)); simp only [Act.put, List.setIfInBounds_toArray, List.set_cons_zero, List.set_cons_succ]))
  refine calm_nil ?_
  intro W2 hkW2
  have kW2 := kW1.trans hkW2
  have BW2_0 := BW1_0.kept hkW2
  have BW2_1 := BW1_1.kept hkW2
  have BW2_2 := BW1_2.kept hkW2
  clear cW1_0_0 cW1_0_1 cW1_1_0 cW1_1_1 cW1_2_0 cW1_2_1 fW1_0 fW1_1 fW1_2 BW1_0 BW1_1 BW1_2 kW1 hkW2
  have cW2_0_0 : W2.cell? ⟨w.heap.size, 0, none⟩ = some (.int .u64 a0) := BW2_0.cell 0 rfl
  have cW2_0_1 : W2.cell? ⟨w.heap.size, 1, none⟩ = some (.int .u64 a1) := BW2_0.cell 1 rfl
  have fW2_0 := BW2_0.free
  have cW2_1_0 : W2.cell? ⟨w.heap.size + 1, 0, none⟩ = some (.int .u64 b0) := BW2_1.cell 0 rfl
  have cW2_1_1 : W2.cell? ⟨w.heap.size + 1, 1, none⟩ = some (.int .u64 b1) := BW2_1.cell 1 rfl
  have fW2_1 := BW2_1.free
  have cW2_2_0 : W2.cell? ⟨w.heap.size + 1 + 1, 0, none⟩ = some (.int .u64 0) := BW2_2.cell 0 rfl
  have cW2_2_1 : W2.cell? ⟨w.heap.size + 1 + 1, 1, none⟩ = some (.int .u64 0) := BW2_2.cell 1 rfl
  have fW2_2 := BW2_2.free
  go_wp2_with fail
  refine bodyPost_ret (v := .agg #[.int .u64 s0, .int .u64 s1]) (by simp [results, Try.results51, go_sem, *]) rfl ⟨rfl, ?_⟩
  repeat (first | exact kW2 | (refine Kept.setCell ?_ (kept_side (by first | assumption | omega)) _) | apply Kept.alloc)

theorem w_Sub {a b : Int} (ha : is128 a) (hb : is128 b) : Pure Try.prog 51 #[E a, E b] (E ((a - b) % wP)) := by
  have hN := w_Neg hb
  have hA := w_Add ha (is128_emod_w (-b))
  rw [show (a + -b % wP) % wP = (a - b) % wP by unfold wP; omega] at hA
  exact w_Sub_raw _ _ _ _ _ _ _ _ hN hA

end Go.Proofs.Ytnajihlhcdedgaa

namespace Go.Proofs.Ytnajihlhcdedgaa
open Go.RowKit
set_option linter.unusedVariables false
set_option linter.unusedSimpArgs false
attribute [local simp] blkAt_setCell blkAt_alloc blkAt_drew Obj.put_cells

set_option maxRecDepth 100000 in
set_option maxHeartbeats 8000000 in
theorem w_product_raw (a0 a1 b0 b1 h00 l00 m00 c00 j00 o00 d00 k00 h01 l01 m01 c01 j01 o01 d01 k01 h10 l10 m10 c10 j10 o10 d10 k10 h11 l11 m11 c11 j11 o11 d11 k11 : Int)
    (hM00 : Pure Try.prog 111 #[.int .u64 a0, .int .u64 b0] (.tuple #[.int .u64 h00, .int .u64 l00]))
    (SA00 : ∀ w, (callFunc 110 #[.int .u64 l00, .int .u64 0, .int .u64 0]).run Try.prog w = .ok (.value (.tuple #[.int .u64 m00, .int .u64 c00])) w)
    (w100 : IntKind.u64.wrap (h00 + c00) = j00)
    (SB00 : ∀ w, (callFunc 110 #[.int .u64 m00, .int .u64 0, .int .u64 0]).run Try.prog w = .ok (.value (.tuple #[.int .u64 o00, .int .u64 d00])) w)
    (w200 : IntKind.u64.wrap (j00 + d00) = k00)
    (hM01 : Pure Try.prog 111 #[.int .u64 a0, .int .u64 b1] (.tuple #[.int .u64 h01, .int .u64 l01]))
    (SA01 : ∀ w, (callFunc 110 #[.int .u64 l01, .int .u64 0, .int .u64 0]).run Try.prog w = .ok (.value (.tuple #[.int .u64 m01, .int .u64 c01])) w)
    (w101 : IntKind.u64.wrap (h01 + c01) = j01)
    (SB01 : ∀ w, (callFunc 110 #[.int .u64 m01, .int .u64 k00, .int .u64 0]).run Try.prog w = .ok (.value (.tuple #[.int .u64 o01, .int .u64 d01])) w)
    (w201 : IntKind.u64.wrap (j01 + d01) = k01)
    (hM10 : Pure Try.prog 111 #[.int .u64 a1, .int .u64 b0] (.tuple #[.int .u64 h10, .int .u64 l10]))
    (SA10 : ∀ w, (callFunc 110 #[.int .u64 l10, .int .u64 o01, .int .u64 0]).run Try.prog w = .ok (.value (.tuple #[.int .u64 m10, .int .u64 c10])) w)
    (w110 : IntKind.u64.wrap (h10 + c10) = j10)
    (SB10 : ∀ w, (callFunc 110 #[.int .u64 m10, .int .u64 0, .int .u64 0]).run Try.prog w = .ok (.value (.tuple #[.int .u64 o10, .int .u64 d10])) w)
    (w210 : IntKind.u64.wrap (j10 + d10) = k10)
    (hM11 : Pure Try.prog 111 #[.int .u64 a1, .int .u64 b1] (.tuple #[.int .u64 h11, .int .u64 l11]))
    (SA11 : ∀ w, (callFunc 110 #[.int .u64 l11, .int .u64 k01, .int .u64 0]).run Try.prog w = .ok (.value (.tuple #[.int .u64 m11, .int .u64 c11])) w)
    (w111 : IntKind.u64.wrap (h11 + c11) = j11)
    (SB11 : ∀ w, (callFunc 110 #[.int .u64 m11, .int .u64 k10, .int .u64 0]).run Try.prog w = .ok (.value (.tuple #[.int .u64 o11, .int .u64 d11])) w)
    (w211 : IntKind.u64.wrap (j11 + d11) = k11) :
    Pure Try.prog 119 #[.agg #[.int .u64 a0, .int .u64 a1], .agg #[.int .u64 b0, .int .u64 b1]] (.agg #[.int .u64 o00, .int .u64 o10, .int .u64 o11, .int .u64 k11]) := fun w => by
  have HM00 := Lib.hid hM00
  have HM01 := Lib.hid hM01
  have HM10 := Lib.hid hM10
  have HM11 := Lib.hid hM11
  clear hM00 hM01 hM10 hM11
  have ne0_2 : w.heap.size ≠ w.heap.size + 1 + 1 := by omega
  have ne2_0 : w.heap.size + 1 + 1 ≠ w.heap.size := by omega
  have ne0_3 : w.heap.size ≠ w.heap.size + 1 + 1 + 1 := by omega
  have ne3_0 : w.heap.size + 1 + 1 + 1 ≠ w.heap.size := by omega
  have ne1_3 : w.heap.size + 1 ≠ w.heap.size + 1 + 1 + 1 := by omega
  have ne3_1 : w.heap.size + 1 + 1 + 1 ≠ w.heap.size + 1 := by omega
  go_enter Try.func119, Try.ntmps119
  go_wp2_with fail
  refine wp_loop_rounds 3 ?_
  rw [rounds_succ]
  go_wp2_with fail
  refine wp_loop_rounds 3 ?_
  rw [rounds_succ]
  go_wp2_with fail
  refine abs_world (fun W => Kept w W ∧ Blk W (w.heap.size) 28 #[.int .u64 a0, .int .u64 a1] ∧ Blk W (w.heap.size + 1) 28 #[.int .u64 b0, .int .u64 b1] ∧ Blk W (w.heap.size + 1 + 1) 131 #[.int .u64 0, .int .u64 0, .int .u64 0, .int .u64 0] ∧ Blk W (w.heap.size + 1 + 1 + 1) 131 #[.int .u64 0, .int .u64 0, .int .u64 0, .int .u64 0]) ?_ ?_
  · refine ⟨?_, ?_, ?_, ?_, ?_⟩
    · repeat (first | exact Kept.refl _ | (refine Kept.setCell ?_ (kept_side (by first | assumption | omega)) _) | apply Kept.alloc)
    · simp [Blk, *] <;> (intros; omega)
    · simp [Blk, *] <;> (intros; omega)
    · simp [Blk, *] <;> (intros; omega)
    · simp [Blk, *] <;> (intros; omega)
  rintro W1 ⟨kW1, BW1_0, BW1_1, BW1_2, BW1_3⟩
  have cW1_0_0 : W1.cell? ⟨w.heap.size, 0, none⟩ = some (.int .u64 a0) := BW1_0.cell 0 rfl
  have cW1_0_1 : W1.cell? ⟨w.heap.size, 1, none⟩ = some (.int .u64 a1) := BW1_0.cell 1 rfl
  have fW1_0 := BW1_0.free
  have cW1_1_0 : W1.cell? ⟨w.heap.size + 1, 0, none⟩ = some (.int .u64 b0) := BW1_1.cell 0 rfl
  have cW1_1_1 : W1.cell? ⟨w.heap.size + 1, 1, none⟩ = some (.int .u64 b1) := BW1_1.cell 1 rfl
  have fW1_1 := BW1_1.free
  have cW1_2_0 : W1.cell? ⟨w.heap.size + 1 + 1, 0, none⟩ = some (.int .u64 0) := BW1_2.cell 0 rfl
  have cW1_2_1 : W1.cell? ⟨w.heap.size + 1 + 1, 1, none⟩ = some (.int .u64 0) := BW1_2.cell 1 rfl
  have cW1_2_2 : W1.cell? ⟨w.heap.size + 1 + 1, 2, none⟩ = some (.int .u64 0) := BW1_2.cell 2 rfl
  have cW1_2_3 : W1.cell? ⟨w.heap.size + 1 + 1, 3, none⟩ = some (.int .u64 0) := BW1_2.cell 3 rfl
  have fW1_2 := BW1_2.free
  have cW1_3_0 : W1.cell? ⟨w.heap.size + 1 + 1 + 1, 0, none⟩ = some (.int .u64 0) := BW1_3.cell 0 rfl
  have cW1_3_1 : W1.cell? ⟨w.heap.size + 1 + 1 + 1, 1, none⟩ = some (.int .u64 0) := BW1_3.cell 1 rfl
  have cW1_3_2 : W1.cell? ⟨w.heap.size + 1 + 1 + 1, 2, none⟩ = some (.int .u64 0) := BW1_3.cell 2 rfl
  have cW1_3_3 : W1.cell? ⟨w.heap.size + 1 + 1 + 1, 3, none⟩ = some (.int .u64 0) := BW1_3.cell 3 rfl
  have fW1_3 := BW1_3.free
  refine wp_region_calm 12 (by kernel_rfl) (by kernel_rfl) ?_
  simp only [List.take_succ_cons, List.take_zero, List.drop_succ_cons, List.drop_zero]
  repeat (first
    | (refine calm_skip rfl ?_; simp only [Act.put, List.setIfInBounds_toArray, List.set_cons_zero, List.set_cons_succ])
    | (refine calm_ex rfl ?_; apply Exists.intro; refine And.intro (fun w' hk => ?_) ?_; (focus (have q0 := hk.cell cW1_0_0; have q1 := hk.cell cW1_0_1; have q2 := hk.cell cW1_1_0; have q3 := hk.cell cW1_1_1; have q4 := hk.cell cW1_2_0; have q5 := hk.cell cW1_2_1; have q6 := hk.cell cW1_2_2; have q7 := hk.cell cW1_2_3; have q8 := hk.cell cW1_3_0; have q9 := hk.cell cW1_3_1; have q10 := hk.cell cW1_3_2; have q11 := hk.cell cW1_3_3; clear hk; go_simp; exact rfl)); simp only [Act.put, List.setIfInBounds_toArray, List.set_cons_zero, List.set_cons_succ])
    | (refine calm_step _ rfl (HM00.out.call ?_) ?_; (focus (intro w'; go_simp; done)); simp only [Act.put, List.setIfInBounds_toArray, List.set_cons_zero, List.set_cons_succ]))
  refine calm_nil ?_
  intro W2 hkW2
  have kW2 := kW1.trans hkW2
  have BW2_0 := BW1_0.kept hkW2
  have BW2_1 := BW1_1.kept hkW2
  have BW2_2 := BW1_2.kept hkW2
  have BW2_3 := BW1_3.kept hkW2
  clear cW1_0_0 cW1_0_1 cW1_1_0 cW1_1_1 cW1_2_0 cW1_2_1 cW1_2_2 cW1_2_3 cW1_3_0 cW1_3_1 cW1_3_2 cW1_3_3 fW1_0 fW1_1 fW1_2 fW1_3 BW1_0 BW1_1 BW1_2 BW1_3 kW1 hkW2
  have cW2_0_0 : W2.cell? ⟨w.heap.size, 0, none⟩ = some (.int .u64 a0) := BW2_0.cell 0 rfl
  have cW2_0_1 : W2.cell? ⟨w.heap.size, 1, none⟩ = some (.int .u64 a1) := BW2_0.cell 1 rfl
  have fW2_0 := BW2_0.free
  have cW2_1_0 : W2.cell? ⟨w.heap.size + 1, 0, none⟩ = some (.int .u64 b0) := BW2_1.cell 0 rfl
  have cW2_1_1 : W2.cell? ⟨w.heap.size + 1, 1, none⟩ = some (.int .u64 b1) := BW2_1.cell 1 rfl
  have fW2_1 := BW2_1.free
  have cW2_2_0 : W2.cell? ⟨w.heap.size + 1 + 1, 0, none⟩ = some (.int .u64 0) := BW2_2.cell 0 rfl
  have cW2_2_1 : W2.cell? ⟨w.heap.size + 1 + 1, 1, none⟩ = some (.int .u64 0) := BW2_2.cell 1 rfl
  have cW2_2_2 : W2.cell? ⟨w.heap.size + 1 + 1, 2, none⟩ = some (.int .u64 0) := BW2_2.cell 2 rfl
  have cW2_2_3 : W2.cell? ⟨w.heap.size + 1 + 1, 3, none⟩ = some (.int .u64 0) := BW2_2.cell 3 rfl
  have fW2_2 := BW2_2.free
  have cW2_3_0 : W2.cell? ⟨w.heap.size + 1 + 1 + 1, 0, none⟩ = some (.int .u64 0) := BW2_3.cell 0 rfl
  have cW2_3_1 : W2.cell? ⟨w.heap.size + 1 + 1 + 1, 1, none⟩ = some (.int .u64 0) := BW2_3.cell 1 rfl
  have cW2_3_2 : W2.cell? ⟨w.heap.size + 1 + 1 + 1, 2, none⟩ = some (.int .u64 0) := BW2_3.cell 2 rfl
  have cW2_3_3 : W2.cell? ⟨w.heap.size + 1 + 1 + 1, 3, none⟩ = some (.int .u64 0) := BW2_3.cell 3 rfl
  have fW2_3 := BW2_3.free
  go_wp2_with fail
  rw [rounds_succ]
  go_wp2_with fail
  refine abs_world (fun W => Kept w W ∧ Blk W (w.heap.size) 28 #[.int .u64 a0, .int .u64 a1] ∧ Blk W (w.heap.size + 1) 28 #[.int .u64 b0, .int .u64 b1] ∧ Blk W (w.heap.size + 1 + 1) 131 #[.int .u64 0, .int .u64 0, .int .u64 0, .int .u64 0] ∧ Blk W (w.heap.size + 1 + 1 + 1) 131 #[.int .u64 o00, .int .u64 0, .int .u64 0, .int .u64 0]) ?_ ?_
  · refine ⟨?_, ?_, ?_, ?_, ?_⟩
    · repeat (first | exact kW2 | (refine Kept.setCell ?_ (kept_side (by first | assumption | omega)) _) | apply Kept.alloc)
    · simp [Blk, *] <;> (intros; omega)
    · simp [Blk, *] <;> (intros; omega)
    · simp [Blk, *] <;> (intros; omega)
    · simp [Blk, *] <;> (intros; omega)
  rintro W3 ⟨kW3, BW3_0, BW3_1, BW3_2, BW3_3⟩
  have cW3_0_0 : W3.cell? ⟨w.heap.size, 0, none⟩ = some (.int .u64 a0) := BW3_0.cell 0 rfl
  have cW3_0_1 : W3.cell? ⟨w.heap.size, 1, none⟩ = some (.int .u64 a1) := BW3_0.cell 1 rfl
  have fW3_0 := BW3_0.free
  have cW3_1_0 : W3.cell? ⟨w.heap.size + 1, 0, none⟩ = some (.int .u64 b0) := BW3_1.cell 0 rfl
  have cW3_1_1 : W3.cell? ⟨w.heap.size + 1, 1, none⟩ = some (.int .u64 b1) := BW3_1.cell 1 rfl
  have fW3_1 := BW3_1.free
  have cW3_2_0 : W3.cell? ⟨w.heap.size + 1 + 1, 0, none⟩ = some (.int .u64 0) := BW3_2.cell 0 rfl
  have cW3_2_1 : W3.cell? ⟨w.heap.size + 1 + 1, 1, none⟩ = some (.int .u64 0) := BW3_2.cell 1 rfl
  have cW3_2_2 : W3.cell? ⟨w.heap.size + 1 + 1, 2, none⟩ = some (.int .u64 0) := BW3_2.cell 2 rfl
  have cW3_2_3 : W3.cell? ⟨w.heap.size + 1 + 1, 3, none⟩ = some (.int .u64 0) := BW3_2.cell 3 rfl
  have fW3_2 := BW3_2.free
  have cW3_3_0 : W3.cell? ⟨w.heap.size + 1 + 1 + 1, 0, none⟩ = some (.int .u64 o00) := BW3_3.cell 0 rfl
  have cW3_3_1 : W3.cell? ⟨w.heap.size + 1 + 1 + 1, 1, none⟩ = some (.int .u64 0) := BW3_3.cell 1 rfl
  have cW3_3_2 : W3.cell? ⟨w.heap.size + 1 + 1 + 1, 2, none⟩ = some (.int .u64 0) := BW3_3.cell 2 rfl
  have cW3_3_3 : W3.cell? ⟨w.heap.size + 1 + 1 + 1, 3, none⟩ = some (.int .u64 0) := BW3_3.cell 3 rfl
  have fW3_3 := BW3_3.free
  refine wp_region_calm 12 (by kernel_rfl) (by kernel_rfl) ?_
  simp only [List.take_succ_cons, List.take_zero, List.drop_succ_cons, List.drop_zero]
  repeat (first
    | (refine calm_skip rfl ?_; simp only [Act.put, List.setIfInBounds_toArray, List.set_cons_zero, List.set_cons_succ])
    | (refine calm_ex rfl ?_; apply Exists.intro; refine And.intro (fun w' hk => ?_) ?_; (focus (have q0 := hk.cell cW3_0_0; have q1 := hk.cell cW3_0_1; have q2 := hk.cell cW3_1_0; have q3 := hk.cell cW3_1_1; have q4 := hk.cell cW3_2_0; have q5 := hk.cell cW3_2_1; have q6 := hk.cell cW3_2_2; have q7 := hk.cell cW3_2_3; have q8 := hk.cell cW3_3_0; have q9 := hk.cell cW3_3_1; have q10 := hk.cell cW3_3_2; have q11 := hk.cell cW3_3_3; clear hk; go_simp; exact rfl)); simp only [Act.put, List.setIfInBounds_toArray, List.set_cons_zero, List.set_cons_succ])
    | (refine calm_step _ rfl (HM01.out.call ?_) ?_; (focus (intro w'; go_simp; done)); simp only [Act.put, List.setIfInBounds_toArray, List.set_cons_zero, List.set_cons_succ]))
  refine calm_nil ?_
  intro W4 hkW4
  have kW4 := kW3.trans hkW4
  have BW4_0 := BW3_0.kept hkW4
  have BW4_1 := BW3_1.kept hkW4
  have BW4_2 := BW3_2.kept hkW4
  have BW4_3 := BW3_3.kept hkW4
  clear cW3_0_0 cW3_0_1 cW3_1_0 cW3_1_1 cW3_2_0 cW3_2_1 cW3_2_2 cW3_2_3 cW3_3_0 cW3_3_1 cW3_3_2 cW3_3_3 fW3_0 fW3_1 fW3_2 fW3_3 BW3_0 BW3_1 BW3_2 BW3_3 kW3 hkW4
  have cW4_0_0 : W4.cell? ⟨w.heap.size, 0, none⟩ = some (.int .u64 a0) := BW4_0.cell 0 rfl
  have cW4_0_1 : W4.cell? ⟨w.heap.size, 1, none⟩ = some (.int .u64 a1) := BW4_0.cell 1 rfl
  have fW4_0 := BW4_0.free
  have cW4_1_0 : W4.cell? ⟨w.heap.size + 1, 0, none⟩ = some (.int .u64 b0) := BW4_1.cell 0 rfl
  have cW4_1_1 : W4.cell? ⟨w.heap.size + 1, 1, none⟩ = some (.int .u64 b1) := BW4_1.cell 1 rfl
  have fW4_1 := BW4_1.free
  have cW4_2_0 : W4.cell? ⟨w.heap.size + 1 + 1, 0, none⟩ = some (.int .u64 0) := BW4_2.cell 0 rfl
  have cW4_2_1 : W4.cell? ⟨w.heap.size + 1 + 1, 1, none⟩ = some (.int .u64 0) := BW4_2.cell 1 rfl
  have cW4_2_2 : W4.cell? ⟨w.heap.size + 1 + 1, 2, none⟩ = some (.int .u64 0) := BW4_2.cell 2 rfl
  have cW4_2_3 : W4.cell? ⟨w.heap.size + 1 + 1, 3, none⟩ = some (.int .u64 0) := BW4_2.cell 3 rfl
  have fW4_2 := BW4_2.free
  have cW4_3_0 : W4.cell? ⟨w.heap.size + 1 + 1 + 1, 0, none⟩ = some (.int .u64 o00) := BW4_3.cell 0 rfl
  have cW4_3_1 : W4.cell? ⟨w.heap.size + 1 + 1 + 1, 1, none⟩ = some (.int .u64 0) := BW4_3.cell 1 rfl
  have cW4_3_2 : W4.cell? ⟨w.heap.size + 1 + 1 + 1, 2, none⟩ = some (.int .u64 0) := BW4_3.cell 2 rfl
  have cW4_3_3 : W4.cell? ⟨w.heap.size + 1 + 1 + 1, 3, none⟩ = some (.int .u64 0) := BW4_3.cell 3 rfl
  have fW4_3 := BW4_3.free
  go_wp2_with fail
  rw [rounds_succ]
  go_wp2_with fail
  rw [rounds_succ]
  go_wp2_with fail
  refine wp_loop_rounds 3 ?_
  rw [rounds_succ]
  go_wp2_with fail
  refine abs_world (fun W => Kept w W ∧ Blk W (w.heap.size) 28 #[.int .u64 a0, .int .u64 a1] ∧ Blk W (w.heap.size + 1) 28 #[.int .u64 b0, .int .u64 b1] ∧ Blk W (w.heap.size + 1 + 1) 131 #[.int .u64 0, .int .u64 0, .int .u64 0, .int .u64 0] ∧ Blk W (w.heap.size + 1 + 1 + 1) 131 #[.int .u64 o00, .int .u64 o01, .int .u64 k01, .int .u64 0]) ?_ ?_
  · refine ⟨?_, ?_, ?_, ?_, ?_⟩
    · repeat (first | exact kW4 | (refine Kept.setCell ?_ (kept_side (by first | assumption | omega)) _) | apply Kept.alloc)
    · simp [Blk, *] <;> (intros; omega)
    · simp [Blk, *] <;> (intros; omega)
    · simp [Blk, *] <;> (intros; omega)
    · simp [Blk, *] <;> (intros; omega)
  rintro W5 ⟨kW5, BW5_0, BW5_1, BW5_2, BW5_3⟩
  have cW5_0_0 : W5.cell? ⟨w.heap.size, 0, none⟩ = some (.int .u64 a0) := BW5_0.cell 0 rfl
  have cW5_0_1 : W5.cell? ⟨w.heap.size, 1, none⟩ = some (.int .u64 a1) := BW5_0.cell 1 rfl
  have fW5_0 := BW5_0.free
  have cW5_1_0 : W5.cell? ⟨w.heap.size + 1, 0, none⟩ = some (.int .u64 b0) := BW5_1.cell 0 rfl
  have cW5_1_1 : W5.cell? ⟨w.heap.size + 1, 1, none⟩ = some (.int .u64 b1) := BW5_1.cell 1 rfl
  have fW5_1 := BW5_1.free
  have cW5_2_0 : W5.cell? ⟨w.heap.size + 1 + 1, 0, none⟩ = some (.int .u64 0) := BW5_2.cell 0 rfl
  have cW5_2_1 : W5.cell? ⟨w.heap.size + 1 + 1, 1, none⟩ = some (.int .u64 0) := BW5_2.cell 1 rfl
  have cW5_2_2 : W5.cell? ⟨w.heap.size + 1 + 1, 2, none⟩ = some (.int .u64 0) := BW5_2.cell 2 rfl
  have cW5_2_3 : W5.cell? ⟨w.heap.size + 1 + 1, 3, none⟩ = some (.int .u64 0) := BW5_2.cell 3 rfl
  have fW5_2 := BW5_2.free
  have cW5_3_0 : W5.cell? ⟨w.heap.size + 1 + 1 + 1, 0, none⟩ = some (.int .u64 o00) := BW5_3.cell 0 rfl
  have cW5_3_1 : W5.cell? ⟨w.heap.size + 1 + 1 + 1, 1, none⟩ = some (.int .u64 o01) := BW5_3.cell 1 rfl
  have cW5_3_2 : W5.cell? ⟨w.heap.size + 1 + 1 + 1, 2, none⟩ = some (.int .u64 k01) := BW5_3.cell 2 rfl
  have cW5_3_3 : W5.cell? ⟨w.heap.size + 1 + 1 + 1, 3, none⟩ = some (.int .u64 0) := BW5_3.cell 3 rfl
  have fW5_3 := BW5_3.free
  refine wp_region_calm 12 (by kernel_rfl) (by kernel_rfl) ?_
  simp only [List.take_succ_cons, List.take_zero, List.drop_succ_cons, List.drop_zero]
  repeat (first
    | (refine calm_skip rfl ?_; simp only [Act.put, List.setIfInBounds_toArray, List.set_cons_zero, List.set_cons_succ])
    | (refine calm_ex rfl ?_; apply Exists.intro; refine And.intro (fun w' hk => ?_) ?_; (focus (have q0 := hk.cell cW5_0_0; have q1 := hk.cell cW5_0_1; have q2 := hk.cell cW5_1_0; have q3 := hk.cell cW5_1_1; have q4 := hk.cell cW5_2_0; have q5 := hk.cell cW5_2_1; have q6 := hk.cell cW5_2_2; have q7 := hk.cell cW5_2_3; have q8 := hk.cell cW5_3_0; have q9 := hk.cell cW5_3_1; have q10 := hk.cell cW5_3_2; have q11 := hk.cell cW5_3_3; clear hk; go_simp; exact rfl)); simp only [Act.put, List.setIfInBounds_toArray, List.set_cons_zero, List.set_cons_succ])
    | (refine calm_step _ rfl (HM10.out.call ?_) ?_; (focus (intro w'; go_simp; done)); simp only [Act.put, List.setIfInBounds_toArray, List.set_cons_zero, List.set_cons_succ]))
  refine calm_nil ?_
  intro W6 hkW6
  have kW6 := kW5.trans hkW6
  have BW6_0 := BW5_0.kept hkW6
  have BW6_1 := BW5_1.kept hkW6
  have BW6_2 := BW5_2.kept hkW6
  have BW6_3 := BW5_3.kept hkW6
  clear cW5_0_0 cW5_0_1 cW5_1_0 cW5_1_1 cW5_2_0 cW5_2_1 cW5_2_2 cW5_2_3 cW5_3_0 cW5_3_1 cW5_3_2 cW5_3_3 fW5_0 fW5_1 fW5_2 fW5_3 BW5_0 BW5_1 BW5_2 BW5_3 kW5 hkW6
  have cW6_0_0 : W6.cell? ⟨w.heap.size, 0, none⟩ = some (.int .u64 a0) := BW6_0.cell 0 rfl
  have cW6_0_1 : W6.cell? ⟨w.heap.size, 1, none⟩ = some (.int .u64 a1) := BW6_0.cell 1 rfl
  have fW6_0 := BW6_0.free
  have cW6_1_0 : W6.cell? ⟨w.heap.size + 1, 0, none⟩ = some (.int .u64 b0) := BW6_1.cell 0 rfl
  have cW6_1_1 : W6.cell? ⟨w.heap.size + 1, 1, none⟩ = some (.int .u64 b1) := BW6_1.cell 1 rfl
  have fW6_1 := BW6_1.free
  have cW6_2_0 : W6.cell? ⟨w.heap.size + 1 + 1, 0, none⟩ = some (.int .u64 0) := BW6_2.cell 0 rfl
  have cW6_2_1 : W6.cell? ⟨w.heap.size + 1 + 1, 1, none⟩ = some (.int .u64 0) := BW6_2.cell 1 rfl
  have cW6_2_2 : W6.cell? ⟨w.heap.size + 1 + 1, 2, none⟩ = some (.int .u64 0) := BW6_2.cell 2 rfl
  have cW6_2_3 : W6.cell? ⟨w.heap.size + 1 + 1, 3, none⟩ = some (.int .u64 0) := BW6_2.cell 3 rfl
  have fW6_2 := BW6_2.free
  have cW6_3_0 : W6.cell? ⟨w.heap.size + 1 + 1 + 1, 0, none⟩ = some (.int .u64 o00) := BW6_3.cell 0 rfl
  have cW6_3_1 : W6.cell? ⟨w.heap.size + 1 + 1 + 1, 1, none⟩ = some (.int .u64 o01) := BW6_3.cell 1 rfl
  have cW6_3_2 : W6.cell? ⟨w.heap.size + 1 + 1 + 1, 2, none⟩ = some (.int .u64 k01) := BW6_3.cell 2 rfl
  have cW6_3_3 : W6.cell? ⟨w.heap.size + 1 + 1 + 1, 3, none⟩ = some (.int .u64 0) := BW6_3.cell 3 rfl
  have fW6_3 := BW6_3.free
  go_wp2_with fail
  rw [rounds_succ]
  go_wp2_with fail
  refine abs_world (fun W => Kept w W ∧ Blk W (w.heap.size) 28 #[.int .u64 a0, .int .u64 a1] ∧ Blk W (w.heap.size + 1) 28 #[.int .u64 b0, .int .u64 b1] ∧ Blk W (w.heap.size + 1 + 1) 131 #[.int .u64 0, .int .u64 0, .int .u64 0, .int .u64 0] ∧ Blk W (w.heap.size + 1 + 1 + 1) 131 #[.int .u64 o00, .int .u64 o10, .int .u64 k01, .int .u64 0]) ?_ ?_
  · refine ⟨?_, ?_, ?_, ?_, ?_⟩
    · repeat (first | exact kW6 | (refine Kept.setCell ?_ (kept_side (by first | assumption | omega)) _) | apply Kept.alloc)
    · simp [Blk, *] <;> (intros; omega)
    · simp [Blk, *] <;> (intros; omega)
    · simp [Blk, *] <;> (intros; omega)
    · simp [Blk, *] <;> (intros; omega)
  rintro W7 ⟨kW7, BW7_0, BW7_1, BW7_2, BW7_3⟩
  have cW7_0_0 : W7.cell? ⟨w.heap.size, 0, none⟩ = some (.int .u64 a0) := BW7_0.cell 0 rfl
  have cW7_0_1 : W7.cell? ⟨w.heap.size, 1, none⟩ = some (.int .u64 a1) := BW7_0.cell 1 rfl
  have fW7_0 := BW7_0.free
  have cW7_1_0 : W7.cell? ⟨w.heap.size + 1, 0, none⟩ = some (.int .u64 b0) := BW7_1.cell 0 rfl
  have cW7_1_1 : W7.cell? ⟨w.heap.size + 1, 1, none⟩ = some (.int .u64 b1) := BW7_1.cell 1 rfl
  have fW7_1 := BW7_1.free
  have cW7_2_0 : W7.cell? ⟨w.heap.size + 1 + 1, 0, none⟩ = some (.int .u64 0) := BW7_2.cell 0 rfl
  have cW7_2_1 : W7.cell? ⟨w.heap.size + 1 + 1, 1, none⟩ = some (.int .u64 0) := BW7_2.cell 1 rfl
  have cW7_2_2 : W7.cell? ⟨w.heap.size + 1 + 1, 2, none⟩ = some (.int .u64 0) := BW7_2.cell 2 rfl
  have cW7_2_3 : W7.cell? ⟨w.heap.size + 1 + 1, 3, none⟩ = some (.int .u64 0) := BW7_2.cell 3 rfl
  have fW7_2 := BW7_2.free
  have cW7_3_0 : W7.cell? ⟨w.heap.size + 1 + 1 + 1, 0, none⟩ = some (.int .u64 o00) := BW7_3.cell 0 rfl
  have cW7_3_1 : W7.cell? ⟨w.heap.size + 1 + 1 + 1, 1, none⟩ = some (.int .u64 o10) := BW7_3.cell 1 rfl
  have cW7_3_2 : W7.cell? ⟨w.heap.size + 1 + 1 + 1, 2, none⟩ = some (.int .u64 k01) := BW7_3.cell 2 rfl
  have cW7_3_3 : W7.cell? ⟨w.heap.size + 1 + 1 + 1, 3, none⟩ = some (.int .u64 0) := BW7_3.cell 3 rfl
  have fW7_3 := BW7_3.free
  refine wp_region_calm 12 (by kernel_rfl) (by kernel_rfl) ?_
  simp only [List.take_succ_cons, List.take_zero, List.drop_succ_cons, List.drop_zero]
  repeat (first
    | (refine calm_skip rfl ?_; simp only [Act.put, List.setIfInBounds_toArray, List.set_cons_zero, List.set_cons_succ])
    | (refine calm_ex rfl ?_; apply Exists.intro; refine And.intro (fun w' hk => ?_) ?_; (focus (have q0 := hk.cell cW7_0_0; have q1 := hk.cell cW7_0_1; have q2 := hk.cell cW7_1_0; have q3 := hk.cell cW7_1_1; have q4 := hk.cell cW7_2_0; have q5 := hk.cell cW7_2_1; have q6 := hk.cell cW7_2_2; have q7 := hk.cell cW7_2_3; have q8 := hk.cell cW7_3_0; have q9 := hk.cell cW7_3_1; have q10 := hk.cell cW7_3_2; have q11 := hk.cell cW7_3_3; clear hk; go_simp; exact rfl)); simp only [Act.put, List.setIfInBounds_toArray, List.set_cons_zero, List.set_cons_succ])
    | (refine calm_step _ rfl (HM11.out.call ?_) ?_; (focus (intro w'; go_simp; done)); simp only [Act.put, List.setIfInBounds_toArray, List.set_cons_zero, List.set_cons_succ]))
  refine calm_nil ?_
  intro W8 hkW8
  have kW8 := kW7.trans hkW8
  have BW8_0 := BW7_0.kept hkW8
  have BW8_1 := BW7_1.kept hkW8
  have BW8_2 := BW7_2.kept hkW8
  have BW8_3 := BW7_3.kept hkW8
  clear cW7_0_0 cW7_0_1 cW7_1_0 cW7_1_1 cW7_2_0 cW7_2_1 cW7_2_2 cW7_2_3 cW7_3_0 cW7_3_1 cW7_3_2 cW7_3_3 fW7_0 fW7_1 fW7_2 fW7_3 BW7_0 BW7_1 BW7_2 BW7_3 kW7 hkW8
  have cW8_0_0 : W8.cell? ⟨w.heap.size, 0, none⟩ = some (.int .u64 a0) := BW8_0.cell 0 rfl
  have cW8_0_1 : W8.cell? ⟨w.heap.size, 1, none⟩ = some (.int .u64 a1) := BW8_0.cell 1 rfl
  have fW8_0 := BW8_0.free
  have cW8_1_0 : W8.cell? ⟨w.heap.size + 1, 0, none⟩ = some (.int .u64 b0) := BW8_1.cell 0 rfl
  have cW8_1_1 : W8.cell? ⟨w.heap.size + 1, 1, none⟩ = some (.int .u64 b1) := BW8_1.cell 1 rfl
  have fW8_1 := BW8_1.free
  have cW8_2_0 : W8.cell? ⟨w.heap.size + 1 + 1, 0, none⟩ = some (.int .u64 0) := BW8_2.cell 0 rfl
  have cW8_2_1 : W8.cell? ⟨w.heap.size + 1 + 1, 1, none⟩ = some (.int .u64 0) := BW8_2.cell 1 rfl
  have cW8_2_2 : W8.cell? ⟨w.heap.size + 1 + 1, 2, none⟩ = some (.int .u64 0) := BW8_2.cell 2 rfl
  have cW8_2_3 : W8.cell? ⟨w.heap.size + 1 + 1, 3, none⟩ = some (.int .u64 0) := BW8_2.cell 3 rfl
  have fW8_2 := BW8_2.free
  have cW8_3_0 : W8.cell? ⟨w.heap.size + 1 + 1 + 1, 0, none⟩ = some (.int .u64 o00) := BW8_3.cell 0 rfl
  have cW8_3_1 : W8.cell? ⟨w.heap.size + 1 + 1 + 1, 1, none⟩ = some (.int .u64 o10) := BW8_3.cell 1 rfl
  have cW8_3_2 : W8.cell? ⟨w.heap.size + 1 + 1 + 1, 2, none⟩ = some (.int .u64 k01) := BW8_3.cell 2 rfl
  have cW8_3_3 : W8.cell? ⟨w.heap.size + 1 + 1 + 1, 3, none⟩ = some (.int .u64 0) := BW8_3.cell 3 rfl
  have fW8_3 := BW8_3.free
  go_wp2_with fail
  rw [rounds_succ]
  go_wp2_with fail
  rw [rounds_succ]
  go_wp2_with fail
  refine bodyPost_ret (v := .agg #[.int .u64 o00, .int .u64 o10, .int .u64 o11, .int .u64 k11]) (by simp [results, Try.results119, go_sem, *]) rfl ⟨rfl, ?_⟩
  repeat (first | exact kW8 | (refine Kept.setCell ?_ (kept_side (by first | assumption | omega)) _) | apply Kept.alloc)

end Go.Proofs.Ytnajihlhcdedgaa

namespace Go.Proofs.Ytnajihlhcdedgaa
open Go.RowKit
set_option linter.unusedVariables false
set_option linter.unusedSimpArgs false
attribute [local simp] blkAt_setCell blkAt_alloc blkAt_drew Obj.put_cells

/-- A number of 256 bits as four of 64. -/
def Q4 (n : Int) : Value := .agg #[.int .u64 (n % 18446744073709551616), .int .u64 (n / 18446744073709551616 % 18446744073709551616), .int .u64 (n / 340282366920938463463374607431768211456 % 18446744073709551616), .int .u64 (n / 6277101735386680763835789423207666416102355444464034512896)]
theorem agg4_congr {a b c d a' b' c' d' : Int} (h1 : a = a') (h2 : b = b') (h3 : c = c') (h4 : d = d') : (Value.agg #[.int .u64 a, .int .u64 b, .int .u64 c, .int .u64 d]) = .agg #[.int .u64 a', .int .u64 b', .int .u64 c', .int .u64 d'] := by rw [h1, h2, h3, h4]
theorem Q4_mk (a b c d n : Int) (ha : is64 a) (hb : is64 b) (hc : is64 c) (hn : n = a + b * 18446744073709551616 + c * 340282366920938463463374607431768211456 + d * 6277101735386680763835789423207666416102355444464034512896) : Q4 n = .agg #[.int .u64 a, .int .u64 b, .int .u64 c, .int .u64 d] := by
  unfold is64 at *; unfold Q4
  exact agg4_congr (by omega) (by omega) (by omega) (by omega)

theorem wrap_id {x : Int} (h : is64 x) : IntKind.u64.wrap x = x := by unfold is64 at h; rw [IntKind.wrap_u64]; omega

theorem prod_round (p o cy : Int) (p0 : 0 ≤ p) (p1 : p ≤ 340282366920938463426481119284349108225) (ho : is64 o) (hc : is64 cy) :
    ∃ m c j d, (∀ w, (callFunc 110 #[.int .u64 (p % 18446744073709551616), .int .u64 o, .int .u64 0]).run Try.prog w = .ok (.value (.tuple #[.int .u64 m, .int .u64 c])) w) ∧ IntKind.u64.wrap (p / 18446744073709551616 + c) = j ∧
      (∀ w, (callFunc 110 #[.int .u64 m, .int .u64 cy, .int .u64 0]).run Try.prog w = .ok (.value (.tuple #[.int .u64 ((p + o + cy) % 18446744073709551616), .int .u64 d])) w) ∧ IntKind.u64.wrap (j + d) = (p + o + cy) / 18446744073709551616 := by
  unfold is64 at ho hc
  refine ⟨_, _, _, ((p % 18446744073709551616 + o + 0) % 18446744073709551616 + cy + 0) / 18446744073709551616, fun w => run_Add64 _ _ 0 (by omega) (by omega) (by omega) (by omega) w, rfl, fun w => ?_, ?_⟩
  · rw [run_Add64 _ _ 0 (by omega) (by omega) (by omega) (by omega) w, show ((p % 18446744073709551616 + o + 0) % 18446744073709551616 + cy + 0) % 18446744073709551616 = (p + o + cy) % 18446744073709551616 by omega]
  · rw [wrap_id (x := p / 18446744073709551616 + _) (by unfold is64; omega), wrap_id (by unfold is64; omega)]
    omega

theorem mul_bound {x y : Int} (hx : is64 x) (hy : is64 y) : 0 ≤ x * y ∧ x * y ≤ 340282366920938463426481119284349108225 := by
  unfold is64 at hx hy
  refine ⟨Int.mul_nonneg hx.1 hy.1, ?_⟩
  exact Int.le_trans (Int.mul_le_mul hx.2 hy.2 hy.1 (by omega)) (by omega)

theorem mul_pure {x y : Int} (hx : is64 x) (hy : is64 y) : Pure Try.prog 111 #[.int .u64 x, .int .u64 y] (.tuple #[.int .u64 (x * y / 18446744073709551616), .int .u64 (x * y % 18446744073709551616)]) :=
  Gives.pure fun w => bits_Mul64 x y hx.1 hx.2 hy.1 hy.2 w

theorem is64_of {x : Int} (h0 : 0 ≤ x) (h1 : x ≤ 18446744073709551615) : is64 x := ⟨h0, h1⟩

theorem w_product_limbs {a0 a1 b0 b1 : Int} (h0 : is64 a0) (h1 : is64 a1) (g0 : is64 b0) (g1 : is64 b1) :
    Pure Try.prog 119 #[.agg #[.int .u64 a0, .int .u64 a1], .agg #[.int .u64 b0, .int .u64 b1]] (Q4 (a0 * b0 + (a0 * b1 + a1 * b0) * 18446744073709551616 + a1 * b1 * 340282366920938463463374607431768211456)) := by
  have p00 := mul_bound h0 g0
  have p01 := mul_bound h0 g1
  have p10 := mul_bound h1 g0
  have p11 := mul_bound h1 g1
  have M00 := mul_pure h0 g0
  have M01 := mul_pure h0 g1
  have M10 := mul_pure h1 g0
  have M11 := mul_pure h1 g1
  generalize a0 * b0 = P00 at *
  generalize a0 * b1 = P01 at *
  generalize a1 * b0 = P10 at *
  generalize a1 * b1 = P11 at *
  clear h0 h1 g0 g1
  have z : is64 0 := is64_of (by omega) (by omega)
  obtain ⟨m00, c00, j00, d00, A00, w00, B00, x00⟩ := prod_round P00 0 0 p00.1 p00.2 z z
  obtain ⟨o00, ho00⟩ : ∃ x, (P00 + 0 + 0) % 18446744073709551616 = x := ⟨_, rfl⟩
  obtain ⟨k00, hk00⟩ : ∃ x, (P00 + 0 + 0) / 18446744073709551616 = x := ⟨_, rfl⟩
  rw [ho00] at B00; rw [hk00] at x00
  have bo00 : is64 o00 := is64_of (by omega) (by omega)
  have bk00 : is64 k00 := is64_of (by omega) (by omega)
  obtain ⟨m01, c01, j01, d01, A01, w01, B01, x01⟩ := prod_round P01 0 k00 p01.1 p01.2 z bk00
  obtain ⟨o01, ho01⟩ : ∃ x, (P01 + 0 + k00) % 18446744073709551616 = x := ⟨_, rfl⟩
  obtain ⟨k01, hk01⟩ : ∃ x, (P01 + 0 + k00) / 18446744073709551616 = x := ⟨_, rfl⟩
  rw [ho01] at B01; rw [hk01] at x01
  have bo01 : is64 o01 := is64_of (by unfold is64 at bk00; omega) (by unfold is64 at bk00; omega)
  have bk01 : is64 k01 := is64_of (by unfold is64 at bk00; omega) (by unfold is64 at bk00; omega)
  obtain ⟨m10, c10, j10, d10, A10, w10, B10, x10⟩ := prod_round P10 o01 0 p10.1 p10.2 bo01 z
  obtain ⟨o10, ho10⟩ : ∃ x, (P10 + o01 + 0) % 18446744073709551616 = x := ⟨_, rfl⟩
  obtain ⟨k10, hk10⟩ : ∃ x, (P10 + o01 + 0) / 18446744073709551616 = x := ⟨_, rfl⟩
  rw [ho10] at B10; rw [hk10] at x10
  have bo10 : is64 o10 := is64_of (by unfold is64 at bo01; omega) (by unfold is64 at bo01; omega)
  have bk10 : is64 k10 := is64_of (by unfold is64 at bo01; omega) (by unfold is64 at bo01; omega)
  obtain ⟨m11, c11, j11, d11, A11, w11, B11, x11⟩ := prod_round P11 k01 k10 p11.1 p11.2 bk01 bk10
  obtain ⟨o11, ho11⟩ : ∃ x, (P11 + k01 + k10) % 18446744073709551616 = x := ⟨_, rfl⟩
  obtain ⟨k11, hk11⟩ : ∃ x, (P11 + k01 + k10) / 18446744073709551616 = x := ⟨_, rfl⟩
  rw [ho11] at B11; rw [hk11] at x11
  have bo11 : is64 o11 := is64_of (by unfold is64 at bk01 bk10; omega) (by unfold is64 at bk01 bk10; omega)
  have key := w_product_raw (h00 := P00 / 18446744073709551616) (l00 := P00 % 18446744073709551616) (h01 := P01 / 18446744073709551616) (l01 := P01 % 18446744073709551616) (h10 := P10 / 18446744073709551616) (l10 := P10 % 18446744073709551616) (h11 := P11 / 18446744073709551616) (l11 := P11 % 18446744073709551616) (hM00 := M00) (SA00 := A00) (w100 := w00) (SB00 := B00) (w200 := x00) (hM01 := M01) (SA01 := A01) (w101 := w01) (SB01 := B01) (w201 := x01)
    (hM10 := M10) (SA10 := A10) (w110 := w10) (SB10 := B10) (w210 := x10) (hM11 := M11) (SA11 := A11) (w111 := w11) (SB11 := B11) (w211 := x11)
  rw [Q4_mk o00 o10 o11 k11 _ bo00 bo10 bo11 (by omega)]
  exact key

def is256 (n : Int) : Prop := 0 ≤ n ∧ n < 115792089237316195423570985008687907853269984665640564039457584007913129639936

theorem split128 {a : Int} (ha : is128 a) : is64 (a % 18446744073709551616) ∧ is64 (a / 18446744073709551616) ∧ a = a % 18446744073709551616 + a / 18446744073709551616 * 18446744073709551616 := ⟨is64_lo a, is64_hi ha, by omega⟩

theorem w_product {a b : Int} (ha : is128 a) (hb : is128 b) : Pure Try.prog 119 #[E a, E b] (Q4 (a * b)) := by
  obtain ⟨h0, h1, ea⟩ := split128 ha
  obtain ⟨g0, g1, eb⟩ := split128 hb
  have key := w_product_limbs h0 h1 g0 g1
  have e : a * b = a % 18446744073709551616 * (b % 18446744073709551616) + (a % 18446744073709551616 * (b / 18446744073709551616) + a / 18446744073709551616 * (b % 18446744073709551616)) * 18446744073709551616 + a / 18446744073709551616 * (b / 18446744073709551616) * 340282366920938463463374607431768211456 := by
    conv => lhs; rw [ea, eb]
    generalize a % 18446744073709551616 = x0
    generalize a / 18446744073709551616 = x1
    generalize b % 18446744073709551616 = y0
    generalize b / 18446744073709551616 = y1
    rw [show (340282366920938463463374607431768211456 : Int) = 18446744073709551616 * 18446744073709551616 from rfl]
    simp only [Int.add_mul, Int.mul_add, Int.mul_assoc, Int.mul_left_comm, Int.mul_comm]
    ac_rfl
  rw [e]
  exact key

end Go.Proofs.Ytnajihlhcdedgaa

namespace Go.Proofs.Ytnajihlhcdedgaa
open Go.RowKit
set_option linter.unusedVariables false
set_option linter.unusedSimpArgs false
attribute [local simp] blkAt_setCell blkAt_alloc blkAt_drew Obj.put_cells

set_option maxRecDepth 100000 in
set_option maxHeartbeats 8000000 in
theorem w_fold_raw (q0 q1 q2 q3 m0 m1 m2 m3 s0 c0 s1 c1 s2 c2 s3 c3 r0 d0 r1 d1 r2 d2 r3 d3 : Int)
    (hPr : Pure Try.prog 119 #[.agg #[.int .u64 q2, .int .u64 q3], .agg #[.int .u64 0, .int .u64 28]] (.agg #[.int .u64 m0, .int .u64 m1, .int .u64 m2, .int .u64 m3]))
    (SA0 : ∀ w, (callFunc 110 #[.int .u64 q0, .int .u64 m0, .int .u64 0]).run Try.prog w = .ok (.value (.tuple #[.int .u64 s0, .int .u64 c0])) w)
    (SA1 : ∀ w, (callFunc 110 #[.int .u64 q1, .int .u64 m1, .int .u64 c0]).run Try.prog w = .ok (.value (.tuple #[.int .u64 s1, .int .u64 c1])) w)
    (SA2 : ∀ w, (callFunc 110 #[.int .u64 0, .int .u64 m2, .int .u64 c1]).run Try.prog w = .ok (.value (.tuple #[.int .u64 s2, .int .u64 c2])) w)
    (SA3 : ∀ w, (callFunc 110 #[.int .u64 0, .int .u64 m3, .int .u64 c2]).run Try.prog w = .ok (.value (.tuple #[.int .u64 s3, .int .u64 c3])) w)
    (SB0 : ∀ w, (callFunc 133 #[.int .u64 s0, .int .u64 q2, .int .u64 0]).run Try.prog w = .ok (.value (.tuple #[.int .u64 r0, .int .u64 d0])) w)
    (SB1 : ∀ w, (callFunc 133 #[.int .u64 s1, .int .u64 q3, .int .u64 d0]).run Try.prog w = .ok (.value (.tuple #[.int .u64 r1, .int .u64 d1])) w)
    (SB2 : ∀ w, (callFunc 133 #[.int .u64 s2, .int .u64 0, .int .u64 d1]).run Try.prog w = .ok (.value (.tuple #[.int .u64 r2, .int .u64 d2])) w)
    (SB3 : ∀ w, (callFunc 133 #[.int .u64 s3, .int .u64 0, .int .u64 d2]).run Try.prog w = .ok (.value (.tuple #[.int .u64 r3, .int .u64 d3])) w) :
    Pure Try.prog 120 #[.agg #[.int .u64 q0, .int .u64 q1, .int .u64 q2, .int .u64 q3]] (.agg #[.int .u64 r0, .int .u64 r1, .int .u64 r2, .int .u64 r3]) := fun w => by
  have HPr := Lib.hid hPr
  clear hPr
  have ne0_2 : w.heap.size ≠ w.heap.size + 1 + 1 := by omega
  have ne2_0 : w.heap.size + 1 + 1 ≠ w.heap.size := by omega
  go_enter Try.func120, Try.ntmps120
  go_wp2_with fail
  refine abs_calls (fun W => Kept w W ∧ Blk W (w.heap.size) 131 #[.int .u64 q0, .int .u64 q1, .int .u64 q2, .int .u64 q3] ∧ Blk W (w.heap.size + 1) 131 #[.int .u64 0, .int .u64 0, .int .u64 0, .int .u64 0] ∧ Blk W (w.heap.size + 1 + 1) 28 #[.int .u64 q2, .int .u64 q3]) ?_ ?_
  · refine ⟨?_, ?_, ?_, ?_⟩
    · repeat (first | exact Kept.refl _ | (refine Kept.setCell ?_ (kept_side (by first | assumption | omega)) _) | apply Kept.alloc | apply Kept.drew)
    · simp [Blk, *] <;> (intros; omega)
    · simp [Blk, *] <;> (intros; omega)
    · simp [Blk, *] <;> (intros; omega)
  rintro W1 ⟨kW1, BW1_0, BW1_1, BW1_2⟩
  have cW1_0_0 : W1.cell? ⟨w.heap.size, 0, none⟩ = some (.int .u64 q0) := BW1_0.cell 0 rfl
  have cW1_0_1 : W1.cell? ⟨w.heap.size, 1, none⟩ = some (.int .u64 q1) := BW1_0.cell 1 rfl
  have cW1_0_2 : W1.cell? ⟨w.heap.size, 2, none⟩ = some (.int .u64 q2) := BW1_0.cell 2 rfl
  have cW1_0_3 : W1.cell? ⟨w.heap.size, 3, none⟩ = some (.int .u64 q3) := BW1_0.cell 3 rfl
  have fW1_0 := BW1_0.free
  have cW1_1_0 : W1.cell? ⟨w.heap.size + 1, 0, none⟩ = some (.int .u64 0) := BW1_1.cell 0 rfl
  have cW1_1_1 : W1.cell? ⟨w.heap.size + 1, 1, none⟩ = some (.int .u64 0) := BW1_1.cell 1 rfl
  have cW1_1_2 : W1.cell? ⟨w.heap.size + 1, 2, none⟩ = some (.int .u64 0) := BW1_1.cell 2 rfl
  have cW1_1_3 : W1.cell? ⟨w.heap.size + 1, 3, none⟩ = some (.int .u64 0) := BW1_1.cell 3 rfl
  have fW1_1 := BW1_1.free
  have cW1_2_0 : W1.cell? ⟨w.heap.size + 1 + 1, 0, none⟩ = some (.int .u64 q2) := BW1_2.cell 0 rfl
  have cW1_2_1 : W1.cell? ⟨w.heap.size + 1 + 1, 1, none⟩ = some (.int .u64 q3) := BW1_2.cell 1 rfl
  have fW1_2 := BW1_2.free
  refine (HPr.out _).mono ?_
  rintro e W2 ⟨rfl, hkW2⟩
  have kW2 := kW1.trans hkW2
  have BW2_0 := BW1_0.kept hkW2
  have BW2_1 := BW1_1.kept hkW2
  have BW2_2 := BW1_2.kept hkW2
  clear cW1_0_0 cW1_0_1 cW1_0_2 cW1_0_3 cW1_1_0 cW1_1_1 cW1_1_2 cW1_1_3 cW1_2_0 cW1_2_1 fW1_0 fW1_1 fW1_2 BW1_0 BW1_1 BW1_2 kW1 hkW2
  have cW2_0_0 : W2.cell? ⟨w.heap.size, 0, none⟩ = some (.int .u64 q0) := BW2_0.cell 0 rfl
  have cW2_0_1 : W2.cell? ⟨w.heap.size, 1, none⟩ = some (.int .u64 q1) := BW2_0.cell 1 rfl
  have cW2_0_2 : W2.cell? ⟨w.heap.size, 2, none⟩ = some (.int .u64 q2) := BW2_0.cell 2 rfl
  have cW2_0_3 : W2.cell? ⟨w.heap.size, 3, none⟩ = some (.int .u64 q3) := BW2_0.cell 3 rfl
  have fW2_0 := BW2_0.free
  have cW2_1_0 : W2.cell? ⟨w.heap.size + 1, 0, none⟩ = some (.int .u64 0) := BW2_1.cell 0 rfl
  have cW2_1_1 : W2.cell? ⟨w.heap.size + 1, 1, none⟩ = some (.int .u64 0) := BW2_1.cell 1 rfl
  have cW2_1_2 : W2.cell? ⟨w.heap.size + 1, 2, none⟩ = some (.int .u64 0) := BW2_1.cell 2 rfl
  have cW2_1_3 : W2.cell? ⟨w.heap.size + 1, 3, none⟩ = some (.int .u64 0) := BW2_1.cell 3 rfl
  have fW2_1 := BW2_1.free
  have cW2_2_0 : W2.cell? ⟨w.heap.size + 1 + 1, 0, none⟩ = some (.int .u64 q2) := BW2_2.cell 0 rfl
  have cW2_2_1 : W2.cell? ⟨w.heap.size + 1 + 1, 1, none⟩ = some (.int .u64 q3) := BW2_2.cell 1 rfl
  have fW2_2 := BW2_2.free
  obtain ⟨e4, he4⟩ : ∃ b, W2.heap.size = b := ⟨_, rfl⟩
  have nee4_0 : w.heap.size ≠ e4 := by have := BW2_0.lt; omega
  have ene4_0 : e4 ≠ w.heap.size := nee4_0.symm
  have nee4_1 : w.heap.size + 1 ≠ e4 := by have := BW2_1.lt; omega
  have ene4_1 : e4 ≠ w.heap.size + 1 := nee4_1.symm
  have nee4_2 : w.heap.size + 1 + 1 ≠ e4 := by have := BW2_2.lt; omega
  have ene4_2 : e4 ≠ w.heap.size + 1 + 1 := nee4_2.symm
  have loe4 : w.heap.size ≤ e4 := he4 ▸ kW2.size
  have lo5 : w.heap.size ≤ e4 + 1 := by omega
  have nn0_1 : w.heap.size ≠ e4 + 1 := by have := BW2_0.lt; omega
  have mm0_1 : e4 + 1 ≠ w.heap.size := nn0_1.symm
  have nn1_1 : w.heap.size + 1 ≠ e4 + 1 := by have := BW2_1.lt; omega
  have mm1_1 : e4 + 1 ≠ w.heap.size + 1 := nn1_1.symm
  have nn2_1 : w.heap.size + 1 + 1 ≠ e4 + 1 := by have := BW2_2.lt; omega
  have mm2_1 : e4 + 1 ≠ w.heap.size + 1 + 1 := nn2_1.symm
  go_upto_region 5 with (fail)
  refine abs_world (fun W => Kept w W ∧ Blk W (w.heap.size) 131 #[.int .u64 q0, .int .u64 q1, .int .u64 q2, .int .u64 q3] ∧ Blk W (w.heap.size + 1) 131 #[.int .u64 0, .int .u64 0, .int .u64 0, .int .u64 0] ∧ Blk W (w.heap.size + 1 + 1) 28 #[.int .u64 q2, .int .u64 q3] ∧ Blk W (e4) 131 #[.int .u64 m0, .int .u64 m1, .int .u64 m2, .int .u64 m3] ∧ Blk W (e4 + 1) 131 #[.int .u64 0, .int .u64 0, .int .u64 0, .int .u64 0]) ?_ ?_
  · refine ⟨?_, ?_, ?_, ?_, ?_, ?_⟩
    · repeat (first | exact kW2 | (refine Kept.setCell ?_ (kept_side (by first | assumption | omega)) _) | apply Kept.alloc | apply Kept.drew)
    · simp [Blk, *] <;> (intros; omega)
    · simp [Blk, *] <;> (intros; omega)
    · simp [Blk, *] <;> (intros; omega)
    · simp [Blk, *] <;> (intros; omega)
    · simp [Blk, *] <;> (intros; omega)
  rintro W3 ⟨kW3, BW3_0, BW3_1, BW3_2, BW3_3, BW3_4⟩
  have cW3_0_0 : W3.cell? ⟨w.heap.size, 0, none⟩ = some (.int .u64 q0) := BW3_0.cell 0 rfl
  have cW3_0_1 : W3.cell? ⟨w.heap.size, 1, none⟩ = some (.int .u64 q1) := BW3_0.cell 1 rfl
  have cW3_0_2 : W3.cell? ⟨w.heap.size, 2, none⟩ = some (.int .u64 q2) := BW3_0.cell 2 rfl
  have cW3_0_3 : W3.cell? ⟨w.heap.size, 3, none⟩ = some (.int .u64 q3) := BW3_0.cell 3 rfl
  have fW3_0 := BW3_0.free
  have cW3_1_0 : W3.cell? ⟨w.heap.size + 1, 0, none⟩ = some (.int .u64 0) := BW3_1.cell 0 rfl
  have cW3_1_1 : W3.cell? ⟨w.heap.size + 1, 1, none⟩ = some (.int .u64 0) := BW3_1.cell 1 rfl
  have cW3_1_2 : W3.cell? ⟨w.heap.size + 1, 2, none⟩ = some (.int .u64 0) := BW3_1.cell 2 rfl
  have cW3_1_3 : W3.cell? ⟨w.heap.size + 1, 3, none⟩ = some (.int .u64 0) := BW3_1.cell 3 rfl
  have fW3_1 := BW3_1.free
  have cW3_2_0 : W3.cell? ⟨w.heap.size + 1 + 1, 0, none⟩ = some (.int .u64 q2) := BW3_2.cell 0 rfl
  have cW3_2_1 : W3.cell? ⟨w.heap.size + 1 + 1, 1, none⟩ = some (.int .u64 q3) := BW3_2.cell 1 rfl
  have fW3_2 := BW3_2.free
  have cW3_3_0 : W3.cell? ⟨e4, 0, none⟩ = some (.int .u64 m0) := BW3_3.cell 0 rfl
  have cW3_3_1 : W3.cell? ⟨e4, 1, none⟩ = some (.int .u64 m1) := BW3_3.cell 1 rfl
  have cW3_3_2 : W3.cell? ⟨e4, 2, none⟩ = some (.int .u64 m2) := BW3_3.cell 2 rfl
  have cW3_3_3 : W3.cell? ⟨e4, 3, none⟩ = some (.int .u64 m3) := BW3_3.cell 3 rfl
  have fW3_3 := BW3_3.free
  have cW3_4_0 : W3.cell? ⟨e4 + 1, 0, none⟩ = some (.int .u64 0) := BW3_4.cell 0 rfl
  have cW3_4_1 : W3.cell? ⟨e4 + 1, 1, none⟩ = some (.int .u64 0) := BW3_4.cell 1 rfl
  have cW3_4_2 : W3.cell? ⟨e4 + 1, 2, none⟩ = some (.int .u64 0) := BW3_4.cell 2 rfl
  have cW3_4_3 : W3.cell? ⟨e4 + 1, 3, none⟩ = some (.int .u64 0) := BW3_4.cell 3 rfl
  have fW3_4 := BW3_4.free
  obtain ⟨e6, he6⟩ : ∃ b, W3.heap.size = b := ⟨_, rfl⟩
  have nee6_0 : w.heap.size ≠ e6 := by have := BW3_0.lt; omega
  have ene6_0 : e6 ≠ w.heap.size := nee6_0.symm
  have nee6_1 : w.heap.size + 1 ≠ e6 := by have := BW3_1.lt; omega
  have ene6_1 : e6 ≠ w.heap.size + 1 := nee6_1.symm
  have nee6_2 : w.heap.size + 1 + 1 ≠ e6 := by have := BW3_2.lt; omega
  have ene6_2 : e6 ≠ w.heap.size + 1 + 1 := nee6_2.symm
  have nee6_3 : e4 ≠ e6 := by have := BW3_3.lt; omega
  have ene6_3 : e6 ≠ e4 := nee6_3.symm
  have nee6_4 : e4 + 1 ≠ e6 := by have := BW3_4.lt; omega
  have ene6_4 : e6 ≠ e4 + 1 := nee6_4.symm
  have loe6 : w.heap.size ≤ e6 := he6 ▸ kW3.size
  go_wp2_with fail
  refine wp_loop_rounds 5 ?_
  rw [rounds_succ]
  go_wp2_with fail
  refine abs_world (fun W => Kept w W ∧ Blk W (w.heap.size) 131 #[.int .u64 q0, .int .u64 q1, .int .u64 q2, .int .u64 q3] ∧ Blk W (w.heap.size + 1) 131 #[.int .u64 0, .int .u64 0, .int .u64 0, .int .u64 0] ∧ Blk W (w.heap.size + 1 + 1) 28 #[.int .u64 q2, .int .u64 q3] ∧ Blk W (e4) 131 #[.int .u64 m0, .int .u64 m1, .int .u64 m2, .int .u64 m3] ∧ Blk W (e4 + 1) 131 #[.int .u64 0, .int .u64 0, .int .u64 0, .int .u64 0] ∧ Blk W (e6) 131 #[.int .u64 q0, .int .u64 q1, .int .u64 0, .int .u64 0]) ?_ ?_
  · refine ⟨?_, ?_, ?_, ?_, ?_, ?_, ?_⟩
    · repeat (first | exact kW3 | (refine Kept.setCell ?_ (kept_side (by first | assumption | omega)) _) | apply Kept.alloc | apply Kept.drew)
    · simp [Blk, *] <;> (intros; omega)
    · simp [Blk, *] <;> (intros; omega)
    · simp [Blk, *] <;> (intros; omega)
    · simp [Blk, *] <;> (intros; omega)
    · simp [Blk, *] <;> (intros; omega)
    · simp [Blk, *] <;> (intros; omega)
  rintro W4 ⟨kW4, BW4_0, BW4_1, BW4_2, BW4_3, BW4_4, BW4_5⟩
  have cW4_0_0 : W4.cell? ⟨w.heap.size, 0, none⟩ = some (.int .u64 q0) := BW4_0.cell 0 rfl
  have cW4_0_1 : W4.cell? ⟨w.heap.size, 1, none⟩ = some (.int .u64 q1) := BW4_0.cell 1 rfl
  have cW4_0_2 : W4.cell? ⟨w.heap.size, 2, none⟩ = some (.int .u64 q2) := BW4_0.cell 2 rfl
  have cW4_0_3 : W4.cell? ⟨w.heap.size, 3, none⟩ = some (.int .u64 q3) := BW4_0.cell 3 rfl
  have fW4_0 := BW4_0.free
  have cW4_1_0 : W4.cell? ⟨w.heap.size + 1, 0, none⟩ = some (.int .u64 0) := BW4_1.cell 0 rfl
  have cW4_1_1 : W4.cell? ⟨w.heap.size + 1, 1, none⟩ = some (.int .u64 0) := BW4_1.cell 1 rfl
  have cW4_1_2 : W4.cell? ⟨w.heap.size + 1, 2, none⟩ = some (.int .u64 0) := BW4_1.cell 2 rfl
  have cW4_1_3 : W4.cell? ⟨w.heap.size + 1, 3, none⟩ = some (.int .u64 0) := BW4_1.cell 3 rfl
  have fW4_1 := BW4_1.free
  have cW4_2_0 : W4.cell? ⟨w.heap.size + 1 + 1, 0, none⟩ = some (.int .u64 q2) := BW4_2.cell 0 rfl
  have cW4_2_1 : W4.cell? ⟨w.heap.size + 1 + 1, 1, none⟩ = some (.int .u64 q3) := BW4_2.cell 1 rfl
  have fW4_2 := BW4_2.free
  have cW4_3_0 : W4.cell? ⟨e4, 0, none⟩ = some (.int .u64 m0) := BW4_3.cell 0 rfl
  have cW4_3_1 : W4.cell? ⟨e4, 1, none⟩ = some (.int .u64 m1) := BW4_3.cell 1 rfl
  have cW4_3_2 : W4.cell? ⟨e4, 2, none⟩ = some (.int .u64 m2) := BW4_3.cell 2 rfl
  have cW4_3_3 : W4.cell? ⟨e4, 3, none⟩ = some (.int .u64 m3) := BW4_3.cell 3 rfl
  have fW4_3 := BW4_3.free
  have cW4_4_0 : W4.cell? ⟨e4 + 1, 0, none⟩ = some (.int .u64 0) := BW4_4.cell 0 rfl
  have cW4_4_1 : W4.cell? ⟨e4 + 1, 1, none⟩ = some (.int .u64 0) := BW4_4.cell 1 rfl
  have cW4_4_2 : W4.cell? ⟨e4 + 1, 2, none⟩ = some (.int .u64 0) := BW4_4.cell 2 rfl
  have cW4_4_3 : W4.cell? ⟨e4 + 1, 3, none⟩ = some (.int .u64 0) := BW4_4.cell 3 rfl
  have fW4_4 := BW4_4.free
  have cW4_5_0 : W4.cell? ⟨e6, 0, none⟩ = some (.int .u64 q0) := BW4_5.cell 0 rfl
  have cW4_5_1 : W4.cell? ⟨e6, 1, none⟩ = some (.int .u64 q1) := BW4_5.cell 1 rfl
  have cW4_5_2 : W4.cell? ⟨e6, 2, none⟩ = some (.int .u64 0) := BW4_5.cell 2 rfl
  have cW4_5_3 : W4.cell? ⟨e6, 3, none⟩ = some (.int .u64 0) := BW4_5.cell 3 rfl
  have fW4_5 := BW4_5.free
  go_region
  go_wp2_with fail
  rw [rounds_succ]
  go_wp2_with fail
  refine abs_world (fun W => Kept w W ∧ Blk W (w.heap.size) 131 #[.int .u64 q0, .int .u64 q1, .int .u64 q2, .int .u64 q3] ∧ Blk W (w.heap.size + 1) 131 #[.int .u64 0, .int .u64 0, .int .u64 0, .int .u64 0] ∧ Blk W (w.heap.size + 1 + 1) 28 #[.int .u64 q2, .int .u64 q3] ∧ Blk W (e4) 131 #[.int .u64 m0, .int .u64 m1, .int .u64 m2, .int .u64 m3] ∧ Blk W (e4 + 1) 131 #[.int .u64 s0, .int .u64 0, .int .u64 0, .int .u64 0] ∧ Blk W (e6) 131 #[.int .u64 q0, .int .u64 q1, .int .u64 0, .int .u64 0]) ?_ ?_
  · refine ⟨?_, ?_, ?_, ?_, ?_, ?_, ?_⟩
    · repeat (first | exact kW4 | (refine Kept.setCell ?_ (kept_side (by first | assumption | omega)) _) | apply Kept.alloc | apply Kept.drew)
    · simp [Blk, *] <;> (intros; omega)
    · simp [Blk, *] <;> (intros; omega)
    · simp [Blk, *] <;> (intros; omega)
    · simp [Blk, *] <;> (intros; omega)
    · simp [Blk, *] <;> (intros; omega)
    · simp [Blk, *] <;> (intros; omega)
  rintro W5 ⟨kW5, BW5_0, BW5_1, BW5_2, BW5_3, BW5_4, BW5_5⟩
  have cW5_0_0 : W5.cell? ⟨w.heap.size, 0, none⟩ = some (.int .u64 q0) := BW5_0.cell 0 rfl
  have cW5_0_1 : W5.cell? ⟨w.heap.size, 1, none⟩ = some (.int .u64 q1) := BW5_0.cell 1 rfl
  have cW5_0_2 : W5.cell? ⟨w.heap.size, 2, none⟩ = some (.int .u64 q2) := BW5_0.cell 2 rfl
  have cW5_0_3 : W5.cell? ⟨w.heap.size, 3, none⟩ = some (.int .u64 q3) := BW5_0.cell 3 rfl
  have fW5_0 := BW5_0.free
  have cW5_1_0 : W5.cell? ⟨w.heap.size + 1, 0, none⟩ = some (.int .u64 0) := BW5_1.cell 0 rfl
  have cW5_1_1 : W5.cell? ⟨w.heap.size + 1, 1, none⟩ = some (.int .u64 0) := BW5_1.cell 1 rfl
  have cW5_1_2 : W5.cell? ⟨w.heap.size + 1, 2, none⟩ = some (.int .u64 0) := BW5_1.cell 2 rfl
  have cW5_1_3 : W5.cell? ⟨w.heap.size + 1, 3, none⟩ = some (.int .u64 0) := BW5_1.cell 3 rfl
  have fW5_1 := BW5_1.free
  have cW5_2_0 : W5.cell? ⟨w.heap.size + 1 + 1, 0, none⟩ = some (.int .u64 q2) := BW5_2.cell 0 rfl
  have cW5_2_1 : W5.cell? ⟨w.heap.size + 1 + 1, 1, none⟩ = some (.int .u64 q3) := BW5_2.cell 1 rfl
  have fW5_2 := BW5_2.free
  have cW5_3_0 : W5.cell? ⟨e4, 0, none⟩ = some (.int .u64 m0) := BW5_3.cell 0 rfl
  have cW5_3_1 : W5.cell? ⟨e4, 1, none⟩ = some (.int .u64 m1) := BW5_3.cell 1 rfl
  have cW5_3_2 : W5.cell? ⟨e4, 2, none⟩ = some (.int .u64 m2) := BW5_3.cell 2 rfl
  have cW5_3_3 : W5.cell? ⟨e4, 3, none⟩ = some (.int .u64 m3) := BW5_3.cell 3 rfl
  have fW5_3 := BW5_3.free
  have cW5_4_0 : W5.cell? ⟨e4 + 1, 0, none⟩ = some (.int .u64 s0) := BW5_4.cell 0 rfl
  have cW5_4_1 : W5.cell? ⟨e4 + 1, 1, none⟩ = some (.int .u64 0) := BW5_4.cell 1 rfl
  have cW5_4_2 : W5.cell? ⟨e4 + 1, 2, none⟩ = some (.int .u64 0) := BW5_4.cell 2 rfl
  have cW5_4_3 : W5.cell? ⟨e4 + 1, 3, none⟩ = some (.int .u64 0) := BW5_4.cell 3 rfl
  have fW5_4 := BW5_4.free
  have cW5_5_0 : W5.cell? ⟨e6, 0, none⟩ = some (.int .u64 q0) := BW5_5.cell 0 rfl
  have cW5_5_1 : W5.cell? ⟨e6, 1, none⟩ = some (.int .u64 q1) := BW5_5.cell 1 rfl
  have cW5_5_2 : W5.cell? ⟨e6, 2, none⟩ = some (.int .u64 0) := BW5_5.cell 2 rfl
  have cW5_5_3 : W5.cell? ⟨e6, 3, none⟩ = some (.int .u64 0) := BW5_5.cell 3 rfl
  have fW5_5 := BW5_5.free
  go_region
  go_wp2_with fail
  rw [rounds_succ]
  go_wp2_with fail
  refine abs_world (fun W => Kept w W ∧ Blk W (w.heap.size) 131 #[.int .u64 q0, .int .u64 q1, .int .u64 q2, .int .u64 q3] ∧ Blk W (w.heap.size + 1) 131 #[.int .u64 0, .int .u64 0, .int .u64 0, .int .u64 0] ∧ Blk W (w.heap.size + 1 + 1) 28 #[.int .u64 q2, .int .u64 q3] ∧ Blk W (e4) 131 #[.int .u64 m0, .int .u64 m1, .int .u64 m2, .int .u64 m3] ∧ Blk W (e4 + 1) 131 #[.int .u64 s0, .int .u64 s1, .int .u64 0, .int .u64 0] ∧ Blk W (e6) 131 #[.int .u64 q0, .int .u64 q1, .int .u64 0, .int .u64 0]) ?_ ?_
  · refine ⟨?_, ?_, ?_, ?_, ?_, ?_, ?_⟩
    · repeat (first | exact kW5 | (refine Kept.setCell ?_ (kept_side (by first | assumption | omega)) _) | apply Kept.alloc | apply Kept.drew)
    · simp [Blk, *] <;> (intros; omega)
    · simp [Blk, *] <;> (intros; omega)
    · simp [Blk, *] <;> (intros; omega)
    · simp [Blk, *] <;> (intros; omega)
    · simp [Blk, *] <;> (intros; omega)
    · simp [Blk, *] <;> (intros; omega)
  rintro W6 ⟨kW6, BW6_0, BW6_1, BW6_2, BW6_3, BW6_4, BW6_5⟩
  have cW6_0_0 : W6.cell? ⟨w.heap.size, 0, none⟩ = some (.int .u64 q0) := BW6_0.cell 0 rfl
  have cW6_0_1 : W6.cell? ⟨w.heap.size, 1, none⟩ = some (.int .u64 q1) := BW6_0.cell 1 rfl
  have cW6_0_2 : W6.cell? ⟨w.heap.size, 2, none⟩ = some (.int .u64 q2) := BW6_0.cell 2 rfl
  have cW6_0_3 : W6.cell? ⟨w.heap.size, 3, none⟩ = some (.int .u64 q3) := BW6_0.cell 3 rfl
  have fW6_0 := BW6_0.free
  have cW6_1_0 : W6.cell? ⟨w.heap.size + 1, 0, none⟩ = some (.int .u64 0) := BW6_1.cell 0 rfl
  have cW6_1_1 : W6.cell? ⟨w.heap.size + 1, 1, none⟩ = some (.int .u64 0) := BW6_1.cell 1 rfl
  have cW6_1_2 : W6.cell? ⟨w.heap.size + 1, 2, none⟩ = some (.int .u64 0) := BW6_1.cell 2 rfl
  have cW6_1_3 : W6.cell? ⟨w.heap.size + 1, 3, none⟩ = some (.int .u64 0) := BW6_1.cell 3 rfl
  have fW6_1 := BW6_1.free
  have cW6_2_0 : W6.cell? ⟨w.heap.size + 1 + 1, 0, none⟩ = some (.int .u64 q2) := BW6_2.cell 0 rfl
  have cW6_2_1 : W6.cell? ⟨w.heap.size + 1 + 1, 1, none⟩ = some (.int .u64 q3) := BW6_2.cell 1 rfl
  have fW6_2 := BW6_2.free
  have cW6_3_0 : W6.cell? ⟨e4, 0, none⟩ = some (.int .u64 m0) := BW6_3.cell 0 rfl
  have cW6_3_1 : W6.cell? ⟨e4, 1, none⟩ = some (.int .u64 m1) := BW6_3.cell 1 rfl
  have cW6_3_2 : W6.cell? ⟨e4, 2, none⟩ = some (.int .u64 m2) := BW6_3.cell 2 rfl
  have cW6_3_3 : W6.cell? ⟨e4, 3, none⟩ = some (.int .u64 m3) := BW6_3.cell 3 rfl
  have fW6_3 := BW6_3.free
  have cW6_4_0 : W6.cell? ⟨e4 + 1, 0, none⟩ = some (.int .u64 s0) := BW6_4.cell 0 rfl
  have cW6_4_1 : W6.cell? ⟨e4 + 1, 1, none⟩ = some (.int .u64 s1) := BW6_4.cell 1 rfl
  have cW6_4_2 : W6.cell? ⟨e4 + 1, 2, none⟩ = some (.int .u64 0) := BW6_4.cell 2 rfl
  have cW6_4_3 : W6.cell? ⟨e4 + 1, 3, none⟩ = some (.int .u64 0) := BW6_4.cell 3 rfl
  have fW6_4 := BW6_4.free
  have cW6_5_0 : W6.cell? ⟨e6, 0, none⟩ = some (.int .u64 q0) := BW6_5.cell 0 rfl
  have cW6_5_1 : W6.cell? ⟨e6, 1, none⟩ = some (.int .u64 q1) := BW6_5.cell 1 rfl
  have cW6_5_2 : W6.cell? ⟨e6, 2, none⟩ = some (.int .u64 0) := BW6_5.cell 2 rfl
  have cW6_5_3 : W6.cell? ⟨e6, 3, none⟩ = some (.int .u64 0) := BW6_5.cell 3 rfl
  have fW6_5 := BW6_5.free
  go_region
  go_wp2_with fail
  rw [rounds_succ]
  go_wp2_with fail
  refine abs_world (fun W => Kept w W ∧ Blk W (w.heap.size) 131 #[.int .u64 q0, .int .u64 q1, .int .u64 q2, .int .u64 q3] ∧ Blk W (w.heap.size + 1) 131 #[.int .u64 0, .int .u64 0, .int .u64 0, .int .u64 0] ∧ Blk W (w.heap.size + 1 + 1) 28 #[.int .u64 q2, .int .u64 q3] ∧ Blk W (e4) 131 #[.int .u64 m0, .int .u64 m1, .int .u64 m2, .int .u64 m3] ∧ Blk W (e4 + 1) 131 #[.int .u64 s0, .int .u64 s1, .int .u64 s2, .int .u64 0] ∧ Blk W (e6) 131 #[.int .u64 q0, .int .u64 q1, .int .u64 0, .int .u64 0]) ?_ ?_
  · refine ⟨?_, ?_, ?_, ?_, ?_, ?_, ?_⟩
    · repeat (first | exact kW6 | (refine Kept.setCell ?_ (kept_side (by first | assumption | omega)) _) | apply Kept.alloc | apply Kept.drew)
    · simp [Blk, *] <;> (intros; omega)
    · simp [Blk, *] <;> (intros; omega)
    · simp [Blk, *] <;> (intros; omega)
    · simp [Blk, *] <;> (intros; omega)
    · simp [Blk, *] <;> (intros; omega)
    · simp [Blk, *] <;> (intros; omega)
  rintro W7 ⟨kW7, BW7_0, BW7_1, BW7_2, BW7_3, BW7_4, BW7_5⟩
  have cW7_0_0 : W7.cell? ⟨w.heap.size, 0, none⟩ = some (.int .u64 q0) := BW7_0.cell 0 rfl
  have cW7_0_1 : W7.cell? ⟨w.heap.size, 1, none⟩ = some (.int .u64 q1) := BW7_0.cell 1 rfl
  have cW7_0_2 : W7.cell? ⟨w.heap.size, 2, none⟩ = some (.int .u64 q2) := BW7_0.cell 2 rfl
  have cW7_0_3 : W7.cell? ⟨w.heap.size, 3, none⟩ = some (.int .u64 q3) := BW7_0.cell 3 rfl
  have fW7_0 := BW7_0.free
  have cW7_1_0 : W7.cell? ⟨w.heap.size + 1, 0, none⟩ = some (.int .u64 0) := BW7_1.cell 0 rfl
  have cW7_1_1 : W7.cell? ⟨w.heap.size + 1, 1, none⟩ = some (.int .u64 0) := BW7_1.cell 1 rfl
  have cW7_1_2 : W7.cell? ⟨w.heap.size + 1, 2, none⟩ = some (.int .u64 0) := BW7_1.cell 2 rfl
  have cW7_1_3 : W7.cell? ⟨w.heap.size + 1, 3, none⟩ = some (.int .u64 0) := BW7_1.cell 3 rfl
  have fW7_1 := BW7_1.free
  have cW7_2_0 : W7.cell? ⟨w.heap.size + 1 + 1, 0, none⟩ = some (.int .u64 q2) := BW7_2.cell 0 rfl
  have cW7_2_1 : W7.cell? ⟨w.heap.size + 1 + 1, 1, none⟩ = some (.int .u64 q3) := BW7_2.cell 1 rfl
  have fW7_2 := BW7_2.free
  have cW7_3_0 : W7.cell? ⟨e4, 0, none⟩ = some (.int .u64 m0) := BW7_3.cell 0 rfl
  have cW7_3_1 : W7.cell? ⟨e4, 1, none⟩ = some (.int .u64 m1) := BW7_3.cell 1 rfl
  have cW7_3_2 : W7.cell? ⟨e4, 2, none⟩ = some (.int .u64 m2) := BW7_3.cell 2 rfl
  have cW7_3_3 : W7.cell? ⟨e4, 3, none⟩ = some (.int .u64 m3) := BW7_3.cell 3 rfl
  have fW7_3 := BW7_3.free
  have cW7_4_0 : W7.cell? ⟨e4 + 1, 0, none⟩ = some (.int .u64 s0) := BW7_4.cell 0 rfl
  have cW7_4_1 : W7.cell? ⟨e4 + 1, 1, none⟩ = some (.int .u64 s1) := BW7_4.cell 1 rfl
  have cW7_4_2 : W7.cell? ⟨e4 + 1, 2, none⟩ = some (.int .u64 s2) := BW7_4.cell 2 rfl
  have cW7_4_3 : W7.cell? ⟨e4 + 1, 3, none⟩ = some (.int .u64 0) := BW7_4.cell 3 rfl
  have fW7_4 := BW7_4.free
  have cW7_5_0 : W7.cell? ⟨e6, 0, none⟩ = some (.int .u64 q0) := BW7_5.cell 0 rfl
  have cW7_5_1 : W7.cell? ⟨e6, 1, none⟩ = some (.int .u64 q1) := BW7_5.cell 1 rfl
  have cW7_5_2 : W7.cell? ⟨e6, 2, none⟩ = some (.int .u64 0) := BW7_5.cell 2 rfl
  have cW7_5_3 : W7.cell? ⟨e6, 3, none⟩ = some (.int .u64 0) := BW7_5.cell 3 rfl
  have fW7_5 := BW7_5.free
  go_region
  go_wp2_with fail
  rw [rounds_succ]
  obtain ⟨e9, he9⟩ : ∃ b, W7.heap.size = b := ⟨_, rfl⟩
  have nee9_0 : w.heap.size ≠ e9 := by have := BW7_0.lt; omega
  have ene9_0 : e9 ≠ w.heap.size := nee9_0.symm
  have nee9_1 : w.heap.size + 1 ≠ e9 := by have := BW7_1.lt; omega
  have ene9_1 : e9 ≠ w.heap.size + 1 := nee9_1.symm
  have nee9_2 : w.heap.size + 1 + 1 ≠ e9 := by have := BW7_2.lt; omega
  have ene9_2 : e9 ≠ w.heap.size + 1 + 1 := nee9_2.symm
  have nee9_3 : e4 ≠ e9 := by have := BW7_3.lt; omega
  have ene9_3 : e9 ≠ e4 := nee9_3.symm
  have nee9_4 : e4 + 1 ≠ e9 := by have := BW7_4.lt; omega
  have ene9_4 : e9 ≠ e4 + 1 := nee9_4.symm
  have nee9_5 : e6 ≠ e9 := by have := BW7_5.lt; omega
  have ene9_5 : e9 ≠ e6 := nee9_5.symm
  have loe9 : w.heap.size ≤ e9 := he9 ▸ kW7.size
  go_wp2_with fail
  refine wp_loop_rounds 5 ?_
  rw [rounds_succ]
  go_wp2_with fail
  refine abs_world (fun W => Kept w W ∧ Blk W (w.heap.size) 131 #[.int .u64 q0, .int .u64 q1, .int .u64 q2, .int .u64 q3] ∧ Blk W (w.heap.size + 1) 131 #[.int .u64 0, .int .u64 0, .int .u64 0, .int .u64 0] ∧ Blk W (w.heap.size + 1 + 1) 28 #[.int .u64 q2, .int .u64 q3] ∧ Blk W (e4) 131 #[.int .u64 m0, .int .u64 m1, .int .u64 m2, .int .u64 m3] ∧ Blk W (e4 + 1) 131 #[.int .u64 s0, .int .u64 s1, .int .u64 s2, .int .u64 s3] ∧ Blk W (e6) 131 #[.int .u64 q0, .int .u64 q1, .int .u64 0, .int .u64 0] ∧ Blk W (e9) 131 #[.int .u64 q2, .int .u64 q3, .int .u64 0, .int .u64 0]) ?_ ?_
  · refine ⟨?_, ?_, ?_, ?_, ?_, ?_, ?_, ?_⟩
    · repeat (first | exact kW7 | (refine Kept.setCell ?_ (kept_side (by first | assumption | omega)) _) | apply Kept.alloc | apply Kept.drew)
    · simp [Blk, *] <;> (intros; omega)
    · simp [Blk, *] <;> (intros; omega)
    · simp [Blk, *] <;> (intros; omega)
    · simp [Blk, *] <;> (intros; omega)
    · simp [Blk, *] <;> (intros; omega)
    · simp [Blk, *] <;> (intros; omega)
    · simp [Blk, *] <;> (intros; omega)
  rintro W8 ⟨kW8, BW8_0, BW8_1, BW8_2, BW8_3, BW8_4, BW8_5, BW8_6⟩
  have cW8_0_0 : W8.cell? ⟨w.heap.size, 0, none⟩ = some (.int .u64 q0) := BW8_0.cell 0 rfl
  have cW8_0_1 : W8.cell? ⟨w.heap.size, 1, none⟩ = some (.int .u64 q1) := BW8_0.cell 1 rfl
  have cW8_0_2 : W8.cell? ⟨w.heap.size, 2, none⟩ = some (.int .u64 q2) := BW8_0.cell 2 rfl
  have cW8_0_3 : W8.cell? ⟨w.heap.size, 3, none⟩ = some (.int .u64 q3) := BW8_0.cell 3 rfl
  have fW8_0 := BW8_0.free
  have cW8_1_0 : W8.cell? ⟨w.heap.size + 1, 0, none⟩ = some (.int .u64 0) := BW8_1.cell 0 rfl
  have cW8_1_1 : W8.cell? ⟨w.heap.size + 1, 1, none⟩ = some (.int .u64 0) := BW8_1.cell 1 rfl
  have cW8_1_2 : W8.cell? ⟨w.heap.size + 1, 2, none⟩ = some (.int .u64 0) := BW8_1.cell 2 rfl
  have cW8_1_3 : W8.cell? ⟨w.heap.size + 1, 3, none⟩ = some (.int .u64 0) := BW8_1.cell 3 rfl
  have fW8_1 := BW8_1.free
  have cW8_2_0 : W8.cell? ⟨w.heap.size + 1 + 1, 0, none⟩ = some (.int .u64 q2) := BW8_2.cell 0 rfl
  have cW8_2_1 : W8.cell? ⟨w.heap.size + 1 + 1, 1, none⟩ = some (.int .u64 q3) := BW8_2.cell 1 rfl
  have fW8_2 := BW8_2.free
  have cW8_3_0 : W8.cell? ⟨e4, 0, none⟩ = some (.int .u64 m0) := BW8_3.cell 0 rfl
  have cW8_3_1 : W8.cell? ⟨e4, 1, none⟩ = some (.int .u64 m1) := BW8_3.cell 1 rfl
  have cW8_3_2 : W8.cell? ⟨e4, 2, none⟩ = some (.int .u64 m2) := BW8_3.cell 2 rfl
  have cW8_3_3 : W8.cell? ⟨e4, 3, none⟩ = some (.int .u64 m3) := BW8_3.cell 3 rfl
  have fW8_3 := BW8_3.free
  have cW8_4_0 : W8.cell? ⟨e4 + 1, 0, none⟩ = some (.int .u64 s0) := BW8_4.cell 0 rfl
  have cW8_4_1 : W8.cell? ⟨e4 + 1, 1, none⟩ = some (.int .u64 s1) := BW8_4.cell 1 rfl
  have cW8_4_2 : W8.cell? ⟨e4 + 1, 2, none⟩ = some (.int .u64 s2) := BW8_4.cell 2 rfl
  have cW8_4_3 : W8.cell? ⟨e4 + 1, 3, none⟩ = some (.int .u64 s3) := BW8_4.cell 3 rfl
  have fW8_4 := BW8_4.free
  have cW8_5_0 : W8.cell? ⟨e6, 0, none⟩ = some (.int .u64 q0) := BW8_5.cell 0 rfl
  have cW8_5_1 : W8.cell? ⟨e6, 1, none⟩ = some (.int .u64 q1) := BW8_5.cell 1 rfl
  have cW8_5_2 : W8.cell? ⟨e6, 2, none⟩ = some (.int .u64 0) := BW8_5.cell 2 rfl
  have cW8_5_3 : W8.cell? ⟨e6, 3, none⟩ = some (.int .u64 0) := BW8_5.cell 3 rfl
  have fW8_5 := BW8_5.free
  have cW8_6_0 : W8.cell? ⟨e9, 0, none⟩ = some (.int .u64 q2) := BW8_6.cell 0 rfl
  have cW8_6_1 : W8.cell? ⟨e9, 1, none⟩ = some (.int .u64 q3) := BW8_6.cell 1 rfl
  have cW8_6_2 : W8.cell? ⟨e9, 2, none⟩ = some (.int .u64 0) := BW8_6.cell 2 rfl
  have cW8_6_3 : W8.cell? ⟨e9, 3, none⟩ = some (.int .u64 0) := BW8_6.cell 3 rfl
  have fW8_6 := BW8_6.free
  go_region
  go_wp2_with fail
  rw [rounds_succ]
  go_wp2_with fail
  refine abs_world (fun W => Kept w W ∧ Blk W (w.heap.size) 131 #[.int .u64 q0, .int .u64 q1, .int .u64 q2, .int .u64 q3] ∧ Blk W (w.heap.size + 1) 131 #[.int .u64 0, .int .u64 0, .int .u64 0, .int .u64 0] ∧ Blk W (w.heap.size + 1 + 1) 28 #[.int .u64 q2, .int .u64 q3] ∧ Blk W (e4) 131 #[.int .u64 m0, .int .u64 m1, .int .u64 m2, .int .u64 m3] ∧ Blk W (e4 + 1) 131 #[.int .u64 r0, .int .u64 s1, .int .u64 s2, .int .u64 s3] ∧ Blk W (e6) 131 #[.int .u64 q0, .int .u64 q1, .int .u64 0, .int .u64 0] ∧ Blk W (e9) 131 #[.int .u64 q2, .int .u64 q3, .int .u64 0, .int .u64 0]) ?_ ?_
  · refine ⟨?_, ?_, ?_, ?_, ?_, ?_, ?_, ?_⟩
    · repeat (first | exact kW8 | (refine Kept.setCell ?_ (kept_side (by first | assumption | omega)) _) | apply Kept.alloc | apply Kept.drew)
    · simp [Blk, *] <;> (intros; omega)
    · simp [Blk, *] <;> (intros; omega)
    · simp [Blk, *] <;> (intros; omega)
    · simp [Blk, *] <;> (intros; omega)
    · simp [Blk, *] <;> (intros; omega)
    · simp [Blk, *] <;> (intros; omega)
    · simp [Blk, *] <;> (intros; omega)
  rintro W9 ⟨kW9, BW9_0, BW9_1, BW9_2, BW9_3, BW9_4, BW9_5, BW9_6⟩
  have cW9_0_0 : W9.cell? ⟨w.heap.size, 0, none⟩ = some (.int .u64 q0) := BW9_0.cell 0 rfl
  have cW9_0_1 : W9.cell? ⟨w.heap.size, 1, none⟩ = some (.int .u64 q1) := BW9_0.cell 1 rfl
  have cW9_0_2 : W9.cell? ⟨w.heap.size, 2, none⟩ = some (.int .u64 q2) := BW9_0.cell 2 rfl
  have cW9_0_3 : W9.cell? ⟨w.heap.size, 3, none⟩ = some (.int .u64 q3) := BW9_0.cell 3 rfl
  have fW9_0 := BW9_0.free
  have cW9_1_0 : W9.cell? ⟨w.heap.size + 1, 0, none⟩ = some (.int .u64 0) := BW9_1.cell 0 rfl
  have cW9_1_1 : W9.cell? ⟨w.heap.size + 1, 1, none⟩ = some (.int .u64 0) := BW9_1.cell 1 rfl
  have cW9_1_2 : W9.cell? ⟨w.heap.size + 1, 2, none⟩ = some (.int .u64 0) := BW9_1.cell 2 rfl
  have cW9_1_3 : W9.cell? ⟨w.heap.size + 1, 3, none⟩ = some (.int .u64 0) := BW9_1.cell 3 rfl
  have fW9_1 := BW9_1.free
  have cW9_2_0 : W9.cell? ⟨w.heap.size + 1 + 1, 0, none⟩ = some (.int .u64 q2) := BW9_2.cell 0 rfl
  have cW9_2_1 : W9.cell? ⟨w.heap.size + 1 + 1, 1, none⟩ = some (.int .u64 q3) := BW9_2.cell 1 rfl
  have fW9_2 := BW9_2.free
  have cW9_3_0 : W9.cell? ⟨e4, 0, none⟩ = some (.int .u64 m0) := BW9_3.cell 0 rfl
  have cW9_3_1 : W9.cell? ⟨e4, 1, none⟩ = some (.int .u64 m1) := BW9_3.cell 1 rfl
  have cW9_3_2 : W9.cell? ⟨e4, 2, none⟩ = some (.int .u64 m2) := BW9_3.cell 2 rfl
  have cW9_3_3 : W9.cell? ⟨e4, 3, none⟩ = some (.int .u64 m3) := BW9_3.cell 3 rfl
  have fW9_3 := BW9_3.free
  have cW9_4_0 : W9.cell? ⟨e4 + 1, 0, none⟩ = some (.int .u64 r0) := BW9_4.cell 0 rfl
  have cW9_4_1 : W9.cell? ⟨e4 + 1, 1, none⟩ = some (.int .u64 s1) := BW9_4.cell 1 rfl
  have cW9_4_2 : W9.cell? ⟨e4 + 1, 2, none⟩ = some (.int .u64 s2) := BW9_4.cell 2 rfl
  have cW9_4_3 : W9.cell? ⟨e4 + 1, 3, none⟩ = some (.int .u64 s3) := BW9_4.cell 3 rfl
  have fW9_4 := BW9_4.free
  have cW9_5_0 : W9.cell? ⟨e6, 0, none⟩ = some (.int .u64 q0) := BW9_5.cell 0 rfl
  have cW9_5_1 : W9.cell? ⟨e6, 1, none⟩ = some (.int .u64 q1) := BW9_5.cell 1 rfl
  have cW9_5_2 : W9.cell? ⟨e6, 2, none⟩ = some (.int .u64 0) := BW9_5.cell 2 rfl
  have cW9_5_3 : W9.cell? ⟨e6, 3, none⟩ = some (.int .u64 0) := BW9_5.cell 3 rfl
  have fW9_5 := BW9_5.free
  have cW9_6_0 : W9.cell? ⟨e9, 0, none⟩ = some (.int .u64 q2) := BW9_6.cell 0 rfl
  have cW9_6_1 : W9.cell? ⟨e9, 1, none⟩ = some (.int .u64 q3) := BW9_6.cell 1 rfl
  have cW9_6_2 : W9.cell? ⟨e9, 2, none⟩ = some (.int .u64 0) := BW9_6.cell 2 rfl
  have cW9_6_3 : W9.cell? ⟨e9, 3, none⟩ = some (.int .u64 0) := BW9_6.cell 3 rfl
  have fW9_6 := BW9_6.free
  go_region
  go_wp2_with fail
  rw [rounds_succ]
  go_wp2_with fail
  refine abs_world (fun W => Kept w W ∧ Blk W (w.heap.size) 131 #[.int .u64 q0, .int .u64 q1, .int .u64 q2, .int .u64 q3] ∧ Blk W (w.heap.size + 1) 131 #[.int .u64 0, .int .u64 0, .int .u64 0, .int .u64 0] ∧ Blk W (w.heap.size + 1 + 1) 28 #[.int .u64 q2, .int .u64 q3] ∧ Blk W (e4) 131 #[.int .u64 m0, .int .u64 m1, .int .u64 m2, .int .u64 m3] ∧ Blk W (e4 + 1) 131 #[.int .u64 r0, .int .u64 r1, .int .u64 s2, .int .u64 s3] ∧ Blk W (e6) 131 #[.int .u64 q0, .int .u64 q1, .int .u64 0, .int .u64 0] ∧ Blk W (e9) 131 #[.int .u64 q2, .int .u64 q3, .int .u64 0, .int .u64 0]) ?_ ?_
  · refine ⟨?_, ?_, ?_, ?_, ?_, ?_, ?_, ?_⟩
    · repeat (first | exact kW9 | (refine Kept.setCell ?_ (kept_side (by first | assumption | omega)) _) | apply Kept.alloc | apply Kept.drew)
    · simp [Blk, *] <;> (intros; omega)
    · simp [Blk, *] <;> (intros; omega)
    · simp [Blk, *] <;> (intros; omega)
    · simp [Blk, *] <;> (intros; omega)
    · simp [Blk, *] <;> (intros; omega)
    · simp [Blk, *] <;> (intros; omega)
    · simp [Blk, *] <;> (intros; omega)
  rintro W10 ⟨kW10, BW10_0, BW10_1, BW10_2, BW10_3, BW10_4, BW10_5, BW10_6⟩
  have cW10_0_0 : W10.cell? ⟨w.heap.size, 0, none⟩ = some (.int .u64 q0) := BW10_0.cell 0 rfl
  have cW10_0_1 : W10.cell? ⟨w.heap.size, 1, none⟩ = some (.int .u64 q1) := BW10_0.cell 1 rfl
  have cW10_0_2 : W10.cell? ⟨w.heap.size, 2, none⟩ = some (.int .u64 q2) := BW10_0.cell 2 rfl
  have cW10_0_3 : W10.cell? ⟨w.heap.size, 3, none⟩ = some (.int .u64 q3) := BW10_0.cell 3 rfl
  have fW10_0 := BW10_0.free
  have cW10_1_0 : W10.cell? ⟨w.heap.size + 1, 0, none⟩ = some (.int .u64 0) := BW10_1.cell 0 rfl
  have cW10_1_1 : W10.cell? ⟨w.heap.size + 1, 1, none⟩ = some (.int .u64 0) := BW10_1.cell 1 rfl
  have cW10_1_2 : W10.cell? ⟨w.heap.size + 1, 2, none⟩ = some (.int .u64 0) := BW10_1.cell 2 rfl
  have cW10_1_3 : W10.cell? ⟨w.heap.size + 1, 3, none⟩ = some (.int .u64 0) := BW10_1.cell 3 rfl
  have fW10_1 := BW10_1.free
  have cW10_2_0 : W10.cell? ⟨w.heap.size + 1 + 1, 0, none⟩ = some (.int .u64 q2) := BW10_2.cell 0 rfl
  have cW10_2_1 : W10.cell? ⟨w.heap.size + 1 + 1, 1, none⟩ = some (.int .u64 q3) := BW10_2.cell 1 rfl
  have fW10_2 := BW10_2.free
  have cW10_3_0 : W10.cell? ⟨e4, 0, none⟩ = some (.int .u64 m0) := BW10_3.cell 0 rfl
  have cW10_3_1 : W10.cell? ⟨e4, 1, none⟩ = some (.int .u64 m1) := BW10_3.cell 1 rfl
  have cW10_3_2 : W10.cell? ⟨e4, 2, none⟩ = some (.int .u64 m2) := BW10_3.cell 2 rfl
  have cW10_3_3 : W10.cell? ⟨e4, 3, none⟩ = some (.int .u64 m3) := BW10_3.cell 3 rfl
  have fW10_3 := BW10_3.free
  have cW10_4_0 : W10.cell? ⟨e4 + 1, 0, none⟩ = some (.int .u64 r0) := BW10_4.cell 0 rfl
  have cW10_4_1 : W10.cell? ⟨e4 + 1, 1, none⟩ = some (.int .u64 r1) := BW10_4.cell 1 rfl
  have cW10_4_2 : W10.cell? ⟨e4 + 1, 2, none⟩ = some (.int .u64 s2) := BW10_4.cell 2 rfl
  have cW10_4_3 : W10.cell? ⟨e4 + 1, 3, none⟩ = some (.int .u64 s3) := BW10_4.cell 3 rfl
  have fW10_4 := BW10_4.free
  have cW10_5_0 : W10.cell? ⟨e6, 0, none⟩ = some (.int .u64 q0) := BW10_5.cell 0 rfl
  have cW10_5_1 : W10.cell? ⟨e6, 1, none⟩ = some (.int .u64 q1) := BW10_5.cell 1 rfl
  have cW10_5_2 : W10.cell? ⟨e6, 2, none⟩ = some (.int .u64 0) := BW10_5.cell 2 rfl
  have cW10_5_3 : W10.cell? ⟨e6, 3, none⟩ = some (.int .u64 0) := BW10_5.cell 3 rfl
  have fW10_5 := BW10_5.free
  have cW10_6_0 : W10.cell? ⟨e9, 0, none⟩ = some (.int .u64 q2) := BW10_6.cell 0 rfl
  have cW10_6_1 : W10.cell? ⟨e9, 1, none⟩ = some (.int .u64 q3) := BW10_6.cell 1 rfl
  have cW10_6_2 : W10.cell? ⟨e9, 2, none⟩ = some (.int .u64 0) := BW10_6.cell 2 rfl
  have cW10_6_3 : W10.cell? ⟨e9, 3, none⟩ = some (.int .u64 0) := BW10_6.cell 3 rfl
  have fW10_6 := BW10_6.free
  go_region
  go_wp2_with fail
  rw [rounds_succ]
  go_wp2_with fail
  refine abs_world (fun W => Kept w W ∧ Blk W (w.heap.size) 131 #[.int .u64 q0, .int .u64 q1, .int .u64 q2, .int .u64 q3] ∧ Blk W (w.heap.size + 1) 131 #[.int .u64 0, .int .u64 0, .int .u64 0, .int .u64 0] ∧ Blk W (w.heap.size + 1 + 1) 28 #[.int .u64 q2, .int .u64 q3] ∧ Blk W (e4) 131 #[.int .u64 m0, .int .u64 m1, .int .u64 m2, .int .u64 m3] ∧ Blk W (e4 + 1) 131 #[.int .u64 r0, .int .u64 r1, .int .u64 r2, .int .u64 s3] ∧ Blk W (e6) 131 #[.int .u64 q0, .int .u64 q1, .int .u64 0, .int .u64 0] ∧ Blk W (e9) 131 #[.int .u64 q2, .int .u64 q3, .int .u64 0, .int .u64 0]) ?_ ?_
  · refine ⟨?_, ?_, ?_, ?_, ?_, ?_, ?_, ?_⟩
    · repeat (first | exact kW10 | (refine Kept.setCell ?_ (kept_side (by first | assumption | omega)) _) | apply Kept.alloc | apply Kept.drew)
    · simp [Blk, *] <;> (intros; omega)
    · simp [Blk, *] <;> (intros; omega)
    · simp [Blk, *] <;> (intros; omega)
    · simp [Blk, *] <;> (intros; omega)
    · simp [Blk, *] <;> (intros; omega)
    · simp [Blk, *] <;> (intros; omega)
    · simp [Blk, *] <;> (intros; omega)
  rintro W11 ⟨kW11, BW11_0, BW11_1, BW11_2, BW11_3, BW11_4, BW11_5, BW11_6⟩
  have cW11_0_0 : W11.cell? ⟨w.heap.size, 0, none⟩ = some (.int .u64 q0) := BW11_0.cell 0 rfl
  have cW11_0_1 : W11.cell? ⟨w.heap.size, 1, none⟩ = some (.int .u64 q1) := BW11_0.cell 1 rfl
  have cW11_0_2 : W11.cell? ⟨w.heap.size, 2, none⟩ = some (.int .u64 q2) := BW11_0.cell 2 rfl
  have cW11_0_3 : W11.cell? ⟨w.heap.size, 3, none⟩ = some (.int .u64 q3) := BW11_0.cell 3 rfl
  have fW11_0 := BW11_0.free
  have cW11_1_0 : W11.cell? ⟨w.heap.size + 1, 0, none⟩ = some (.int .u64 0) := BW11_1.cell 0 rfl
  have cW11_1_1 : W11.cell? ⟨w.heap.size + 1, 1, none⟩ = some (.int .u64 0) := BW11_1.cell 1 rfl
  have cW11_1_2 : W11.cell? ⟨w.heap.size + 1, 2, none⟩ = some (.int .u64 0) := BW11_1.cell 2 rfl
  have cW11_1_3 : W11.cell? ⟨w.heap.size + 1, 3, none⟩ = some (.int .u64 0) := BW11_1.cell 3 rfl
  have fW11_1 := BW11_1.free
  have cW11_2_0 : W11.cell? ⟨w.heap.size + 1 + 1, 0, none⟩ = some (.int .u64 q2) := BW11_2.cell 0 rfl
  have cW11_2_1 : W11.cell? ⟨w.heap.size + 1 + 1, 1, none⟩ = some (.int .u64 q3) := BW11_2.cell 1 rfl
  have fW11_2 := BW11_2.free
  have cW11_3_0 : W11.cell? ⟨e4, 0, none⟩ = some (.int .u64 m0) := BW11_3.cell 0 rfl
  have cW11_3_1 : W11.cell? ⟨e4, 1, none⟩ = some (.int .u64 m1) := BW11_3.cell 1 rfl
  have cW11_3_2 : W11.cell? ⟨e4, 2, none⟩ = some (.int .u64 m2) := BW11_3.cell 2 rfl
  have cW11_3_3 : W11.cell? ⟨e4, 3, none⟩ = some (.int .u64 m3) := BW11_3.cell 3 rfl
  have fW11_3 := BW11_3.free
  have cW11_4_0 : W11.cell? ⟨e4 + 1, 0, none⟩ = some (.int .u64 r0) := BW11_4.cell 0 rfl
  have cW11_4_1 : W11.cell? ⟨e4 + 1, 1, none⟩ = some (.int .u64 r1) := BW11_4.cell 1 rfl
  have cW11_4_2 : W11.cell? ⟨e4 + 1, 2, none⟩ = some (.int .u64 r2) := BW11_4.cell 2 rfl
  have cW11_4_3 : W11.cell? ⟨e4 + 1, 3, none⟩ = some (.int .u64 s3) := BW11_4.cell 3 rfl
  have fW11_4 := BW11_4.free
  have cW11_5_0 : W11.cell? ⟨e6, 0, none⟩ = some (.int .u64 q0) := BW11_5.cell 0 rfl
  have cW11_5_1 : W11.cell? ⟨e6, 1, none⟩ = some (.int .u64 q1) := BW11_5.cell 1 rfl
  have cW11_5_2 : W11.cell? ⟨e6, 2, none⟩ = some (.int .u64 0) := BW11_5.cell 2 rfl
  have cW11_5_3 : W11.cell? ⟨e6, 3, none⟩ = some (.int .u64 0) := BW11_5.cell 3 rfl
  have fW11_5 := BW11_5.free
  have cW11_6_0 : W11.cell? ⟨e9, 0, none⟩ = some (.int .u64 q2) := BW11_6.cell 0 rfl
  have cW11_6_1 : W11.cell? ⟨e9, 1, none⟩ = some (.int .u64 q3) := BW11_6.cell 1 rfl
  have cW11_6_2 : W11.cell? ⟨e9, 2, none⟩ = some (.int .u64 0) := BW11_6.cell 2 rfl
  have cW11_6_3 : W11.cell? ⟨e9, 3, none⟩ = some (.int .u64 0) := BW11_6.cell 3 rfl
  have fW11_6 := BW11_6.free
  go_region
  go_wp2_with fail
  rw [rounds_succ]
  go_wp2_with fail
  refine bodyPost_ret (v := .agg #[.int .u64 r0, .int .u64 r1, .int .u64 r2, .int .u64 r3]) (by simp [results, Try.results120, go_sem, *]) rfl ⟨rfl, ?_⟩
  repeat (first | exact kW11 | (refine Kept.setCell ?_ (kept_side (by first | assumption | omega)) _) | apply Kept.alloc | apply Kept.drew)

end Go.Proofs.Ytnajihlhcdedgaa

namespace Go.Proofs.Ytnajihlhcdedgaa
open Go.RowKit
set_option linter.unusedVariables false
set_option linter.unusedSimpArgs false
attribute [local simp] blkAt_setCell blkAt_alloc blkAt_drew Obj.put_cells

/-- The high half taken in once. -/
def fold (n : Int) : Int := n % 340282366920938463463374607431768211456 + n / 340282366920938463463374607431768211456 * 516508834063867445248 - n / 340282366920938463463374607431768211456

theorem fold_ok {n : Int} (h : is256 n) : is256 (fold n) := by unfold is256 fold at *; omega
theorem fold_lt {n : Int} (h : is256 n) (g : 340282366920938463463374607431768211456 ≤ n) : (fold n).toNat < n.toNat := by unfold is256 fold at *; omega
theorem fold_mod (n : Int) : fold n % wP = n % wP := by
  have e : n = fold n + wP * (n / 340282366920938463463374607431768211456) := by unfold fold wP; omega
  conv => rhs; rw [e, Int.add_mul_emod_self_left]

theorem add_step (x y c : Int) (hx : is64 x) (hy : is64 y) (hc : 0 ≤ c ∧ c ≤ 1) (s d : Int) (hs : s = (x + y + c) % 18446744073709551616) (hd : d = (x + y + c) / 18446744073709551616) :
    ∀ w, (callFunc 110 #[.int .u64 x, .int .u64 y, .int .u64 c]).run Try.prog w = .ok (.value (.tuple #[.int .u64 s, .int .u64 d])) w := fun w => by
  unfold is64 at hx hy
  rw [hs, hd, run_Add64 _ _ _ hx.1 hy.1 hc.1 hc.2]
theorem sub_step (x y c : Int) (hx : is64 x) (hy : is64 y) (hc : 0 ≤ c ∧ c ≤ 1) (s d : Int) (hs : s = (x - y - c) % 18446744073709551616) (hd : d = if x < y + c then 1 else 0) :
    ∀ w, (callFunc 133 #[.int .u64 x, .int .u64 y, .int .u64 c]).run Try.prog w = .ok (.value (.tuple #[.int .u64 s, .int .u64 d])) w := fun w => by
  unfold is64 at hx hy
  rw [hs, hd, run_Sub64 _ _ _ hx.1 hy.1 hx.2 hy.2 hc.1 hc.2]
theorem sub_step' {x y c : Int} (hx : is64 x) (hy : is64 y) (hc : 0 ≤ c ∧ c ≤ 1) :
    ∃ s d, is64 s ∧ (0 ≤ d ∧ d ≤ 1) ∧ s = x - y - c + d * 18446744073709551616 ∧ ∀ w, (callFunc 133 #[.int .u64 x, .int .u64 y, .int .u64 c]).run Try.prog w = .ok (.value (.tuple #[.int .u64 s, .int .u64 d])) w := by
  unfold is64 at *
  by_cases h : x < y + c
  · exact ⟨x - y - c + 1 * 18446744073709551616, 1, by omega, by omega, rfl, sub_step x y c hx hy hc _ _ (by omega) (by rw [if_pos h])⟩
  · exact ⟨x - y - c + 0 * 18446744073709551616, 0, by omega, by omega, rfl, sub_step x y c hx hy hc _ _ (by omega) (by rw [if_neg h])⟩
theorem add_step' {x y c : Int} (hx : is64 x) (hy : is64 y) (hc : 0 ≤ c ∧ c ≤ 1) :
    ∃ s d, is64 s ∧ (0 ≤ d ∧ d ≤ 1) ∧ s = x + y + c - d * 18446744073709551616 ∧ ∀ w, (callFunc 110 #[.int .u64 x, .int .u64 y, .int .u64 c]).run Try.prog w = .ok (.value (.tuple #[.int .u64 s, .int .u64 d])) w := by
  unfold is64 at *
  exact ⟨(x + y + c) % 18446744073709551616, (x + y + c) / 18446744073709551616, by omega, by omega, by omega, add_step x y c hx hy hc _ _ rfl rfl⟩

def l0 (n : Int) : Int := n % 18446744073709551616
def l1 (n : Int) : Int := n / 18446744073709551616 % 18446744073709551616
def l2 (n : Int) : Int := n / 340282366920938463463374607431768211456 % 18446744073709551616
def l3 (n : Int) : Int := n / 6277101735386680763835789423207666416102355444464034512896
theorem Q4_l (n : Int) : Q4 n = .agg #[.int .u64 (l0 n), .int .u64 (l1 n), .int .u64 (l2 n), .int .u64 (l3 n)] := rfl
theorem l_split (n : Int) : n = l0 n + l1 n * 18446744073709551616 + l2 n * 340282366920938463463374607431768211456 + l3 n * 6277101735386680763835789423207666416102355444464034512896 := by unfold l0 l1 l2 l3; omega
theorem l_ok {n : Int} (h : is256 n) : is64 (l0 n) ∧ is64 (l1 n) ∧ is64 (l2 n) ∧ is64 (l3 n) := by unfold is256 at h; unfold is64 l0 l1 l2 l3; omega

theorem lim_add (q0 q1 m0 m1 m2 m3 s0 s1 s2 s3 c0 c1 c2 c3 M : Int) (e0 : s0 = q0 + m0 + 0 - c0 * 18446744073709551616) (e1 : s1 = q1 + m1 + c0 - c1 * 18446744073709551616) (e2 : s2 = 0 + m2 + c1 - c2 * 18446744073709551616) (e3 : s3 = 0 + m3 + c2 - c3 * 18446744073709551616)
    (em : M = m0 + m1 * 18446744073709551616 + m2 * 340282366920938463463374607431768211456 + m3 * 6277101735386680763835789423207666416102355444464034512896) : s0 + s1 * 18446744073709551616 + s2 * 340282366920938463463374607431768211456 + s3 * 6277101735386680763835789423207666416102355444464034512896 = q0 + q1 * 18446744073709551616 + M - c3 * 115792089237316195423570985008687907853269984665640564039457584007913129639936 := by
  rw [e0, e1, e2, e3, em]; omega
theorem lim_sub (q2 q3 s0 s1 s2 s3 r0 r1 r2 r3 d0 d1 d2 d3 : Int) (f0 : r0 = s0 - q2 - 0 + d0 * 18446744073709551616) (f1 : r1 = s1 - q3 - d0 + d1 * 18446744073709551616) (f2 : r2 = s2 - 0 - d1 + d2 * 18446744073709551616) (f3 : r3 = s3 - 0 - d2 + d3 * 18446744073709551616) :
    r0 + r1 * 18446744073709551616 + r2 * 340282366920938463463374607431768211456 + r3 * 6277101735386680763835789423207666416102355444464034512896 = (s0 + s1 * 18446744073709551616 + s2 * 340282366920938463463374607431768211456 + s3 * 6277101735386680763835789423207666416102355444464034512896) - (q2 + q3 * 18446744073709551616) + d3 * 115792089237316195423570985008687907853269984665640564039457584007913129639936 := by
  rw [f0, f1, f2, f3]; omega
theorem lim_256 {s0 s1 s2 s3 : Int} (h0 : is64 s0) (h1 : is64 s1) (h2 : is64 s2) (h3 : is64 s3) : is256 (s0 + s1 * 18446744073709551616 + s2 * 340282366920938463463374607431768211456 + s3 * 6277101735386680763835789423207666416102355444464034512896) := by
  unfold is64 at *; unfold is256; omega
theorem no_carry (S X c : Int) (hS : is256 S) (hX : X < 115792089237316195423570985008687907853269984665640564039457584007913129639936) (hc : 0 ≤ c ∧ c ≤ 1) (h : S = X - c * 115792089237316195423570985008687907853269984665640564039457584007913129639936) : S = X := by
  unfold is256 at hS; omega
theorem no_borrow (R X d : Int) (hR : is256 R) (hX : 0 ≤ X) (hd : 0 ≤ d ∧ d ≤ 1) (h : R = X + d * 115792089237316195423570985008687907853269984665640564039457584007913129639936) : R = X := by
  unfold is256 at hR; omega
theorem fold_M (q2 q3 M : Int) (h2 : is64 q2) (h3 : is64 q3) (hM : q2 * 28 * 18446744073709551616 + q3 * 28 * 340282366920938463463374607431768211456 = M) : is256 M ∧ M < 1606938044258990275541962092341162602522202993782792835301376 ∧ M = (q2 + q3 * 18446744073709551616) * 516508834063867445248 ∧ q2 + q3 * 18446744073709551616 ≤ M := by
  unfold is64 at *; unfold is256; omega

theorem lim_x {q0 q1 M : Int} (h0 : is64 q0) (h1 : is64 q1) (hM : M < 1606938044258990275541962092341162602522202993782792835301376) : q0 + q1 * 18446744073709551616 + M < 115792089237316195423570985008687907853269984665640564039457584007913129639936 := by unfold is64 at *; omega
theorem lim_y {q0 q1 M H : Int} (h0 : is64 q0) (h1 : is64 q1) (hM : H ≤ M) : 0 ≤ q0 + q1 * 18446744073709551616 + M - H := by unfold is64 at *; omega

theorem w_fold {n : Int} (h : is256 n) : Pure Try.prog 120 #[Q4 n] (Q4 (fold n)) := by
  obtain ⟨hq0, hq1, hq2, hq3⟩ := l_ok h
  have ehi : n / 340282366920938463463374607431768211456 = l2 n + l3 n * 18446744073709551616 := by clear hq0 hq1 hq2 hq3; unfold l2 l3; unfold is256 at h; omega
  have elo : n % 340282366920938463463374607431768211456 = l0 n + l1 n * 18446744073709551616 := by clear hq0 hq1 hq2 hq3 ehi; unfold l0 l1; omega
  have hf : fold n = l0 n + l1 n * 18446744073709551616 + (l2 n + l3 n * 18446744073709551616) * 516508834063867445248 - (l2 n + l3 n * 18446744073709551616) := by unfold fold; rw [ehi, elo]
  have hP := w_product_limbs hq2 hq3 (b0 := 0) (b1 := 28) (is64_of (by decide) (by decide)) (is64_of (by decide) (by decide))
  rw [Int.mul_zero, Int.mul_zero, Int.zero_add, Int.add_zero] at hP
  rw [Q4_l n]
  generalize hM : l2 n * 28 * 18446744073709551616 + l3 n * 28 * 340282366920938463463374607431768211456 = M at hP
  clear ehi elo
  generalize fold n = F at *
  generalize l0 n = q0 at *
  generalize l1 n = q1 at *
  generalize l2 n = q2 at *
  generalize l3 n = q3 at *
  clear h
  obtain ⟨hm, hm1, hm2, hm3⟩ := fold_M q2 q3 M hq2 hq3 hM
  clear hM
  obtain ⟨g0, g1, g2, g3⟩ := l_ok hm
  have em := l_split M
  rw [Q4_l M] at hP
  generalize l0 M = m0 at *
  generalize l1 M = m1 at *
  generalize l2 M = m2 at *
  generalize l3 M = m3 at *
  have z : is64 0 := is64_of (by decide) (by decide)
  obtain ⟨s0, c0, hs0, hc0, e0, A0⟩ := add_step' hq0 g0 (c := 0) (by decide)
  obtain ⟨s1, c1, hs1, hc1, e1, A1⟩ := add_step' hq1 g1 hc0
  obtain ⟨s2, c2, hs2, hc2, e2, A2⟩ := add_step' z g2 hc1
  obtain ⟨s3, c3, hs3, hc3, e3, A3⟩ := add_step' z g3 hc2
  obtain ⟨r0, d0, hr0, hd0, f0, S0⟩ := sub_step' hs0 hq2 (c := 0) (by decide)
  obtain ⟨r1, d1, hr1, hd1, f1, S1⟩ := sub_step' hs1 hq3 hd0
  obtain ⟨r2, d2, hr2, hd2, f2, S2⟩ := sub_step' hs2 z hd1
  obtain ⟨r3, d3, hr3, hd3, f3, S3⟩ := sub_step' hs3 z hd2
  have key := w_fold_raw q0 q1 q2 q3 m0 m1 m2 m3 s0 c0 s1 c1 s2 c2 s3 c3 r0 d0 r1 d1 r2 d2 r3 d3 hP A0 A1 A2 A3 S0 S1 S2 S3
  clear A0 A1 A2 A3 S0 S1 S2 S3 hP
  have E1 := lim_add q0 q1 m0 m1 m2 m3 s0 s1 s2 s3 c0 c1 c2 c3 M e0 e1 e2 e3 em
  have E2 := lim_sub q2 q3 s0 s1 s2 s3 r0 r1 r2 r3 d0 d1 d2 d3 f0 f1 f2 f3
  have E3 := no_carry _ _ c3 (lim_256 hs0 hs1 hs2 hs3) (lim_x hq0 hq1 hm1) hc3 E1
  rw [E3] at E2
  have E4 := no_borrow _ _ d3 (lim_256 hr0 hr1 hr2 hr3) (lim_y hq0 hq1 hm3) hd3 E2
  rw [Q4_mk r0 r1 r2 r3 F hr0 hr1 hr2 (by rw [E4, hf, hm2])]
  exact key

end Go.Proofs.Ytnajihlhcdedgaa

namespace Go.Proofs.Ytnajihlhcdedgaa
open Go.RowKit
set_option linter.unusedVariables false
set_option linter.unusedSimpArgs false
attribute [local simp] blkAt_setCell blkAt_alloc blkAt_drew Obj.put_cells

theorem isMaker131 : isMaker Try.prog { dst := some 5, op := Op.alloc 131, type := 131, pos := "wide.go:108", after := #[], guard := none } (fun b => .pointer (some ⟨b, 0, none⟩), .cells #[.int .u64 0, .int .u64 0, .int .u64 0, .int .u64 0] 131) :=
  ⟨rfl, fun a w => by go_simp⟩

section
attribute [local irreducible] l0 l1 l2 l3 fold is256
set_option maxRecDepth 100000 in
set_option maxHeartbeats 1000000 in
theorem w_Mul_raw (a0 a1 b0 b1 n r0 r1 : Int) (x y : Value) (hn : is256 n)
    (hA : Pure Try.prog 48 #[.agg #[.int .u64 a0, .int .u64 a1]] x) (hB : Pure Try.prog 48 #[.agg #[.int .u64 b0, .int .u64 b1]] y)
    (hPr : Pure Try.prog 119 #[x, y] (.agg #[.int .u64 (l0 n), .int .u64 (l1 n), .int .u64 (l2 n), .int .u64 (l3 n)]))
    (hFold : Hid (∀ m, is256 m → Pure Try.prog 120 #[.agg #[.int .u64 (l0 m), .int .u64 (l1 m), .int .u64 (l2 m), .int .u64 (l3 m)]] (.agg #[.int .u64 (l0 (fold m)), .int .u64 (l1 (fold m)), .int .u64 (l2 (fold m)), .int .u64 (l3 (fold m))])))
    (hStep : Hid (∀ m, is256 m → (l2 m ≠ 0 ∨ l3 m ≠ 0) → Hid (is256 (fold m) ∧ (fold m).toNat < m.toNat ∧ fold m % wP = m % wP)))
    (hOf : Hid (∀ m, is256 m → l2 m = 0 → l3 m = 0 → m % wP = n % wP → Pure Try.prog 48 #[.agg #[.int .u64 (l0 m), .int .u64 (l1 m)]] (.agg #[.int .u64 r0, .int .u64 r1]))) :
    Pure Try.prog 53 #[.agg #[.int .u64 a0, .int .u64 a1], .agg #[.int .u64 b0, .int .u64 b1]] (.agg #[.int .u64 r0, .int .u64 r1]) := fun w => by
  have HA := Lib.hid hA
  have HB := Lib.hid hB
  have HPr := Lib.hid hPr
  clear hA hB hPr
  have ne0_2 : w.heap.size ≠ w.heap.size + 1 + 1 := by omega
  have ne2_0 : w.heap.size + 1 + 1 ≠ w.heap.size := by omega
  go_enter Try.func53, Try.ntmps53
  go_wp2_with fail
  refine abs_world (fun W => Kept w W ∧ Blk W (w.heap.size) 28 #[.int .u64 a0, .int .u64 a1] ∧ Blk W (w.heap.size + 1) 28 #[.int .u64 b0, .int .u64 b1] ∧ Blk W (w.heap.size + 1 + 1) 28 #[.int .u64 0, .int .u64 0]) ?_ ?_
  · refine ⟨?_, ?_, ?_, ?_⟩
    · repeat (first | exact Kept.refl _ | (refine Kept.setCell ?_ (kept_side (by first | assumption | omega)) _) | apply Kept.alloc | apply Kept.drew)
    · simp [Blk, *] <;> (intros; omega)
    · simp [Blk, *] <;> (intros; omega)
    · simp [Blk, *] <;> (intros; omega)
  rintro W1 ⟨kW1, BW1_0, BW1_1, BW1_2⟩
  have cW1_0_0 : W1.cell? ⟨w.heap.size, 0, none⟩ = some (.int .u64 a0) := BW1_0.cell 0 rfl
  have cW1_0_1 : W1.cell? ⟨w.heap.size, 1, none⟩ = some (.int .u64 a1) := BW1_0.cell 1 rfl
  have fW1_0 := BW1_0.free
  have cW1_1_0 : W1.cell? ⟨w.heap.size + 1, 0, none⟩ = some (.int .u64 b0) := BW1_1.cell 0 rfl
  have cW1_1_1 : W1.cell? ⟨w.heap.size + 1, 1, none⟩ = some (.int .u64 b1) := BW1_1.cell 1 rfl
  have fW1_1 := BW1_1.free
  have cW1_2_0 : W1.cell? ⟨w.heap.size + 1 + 1, 0, none⟩ = some (.int .u64 0) := BW1_2.cell 0 rfl
  have cW1_2_1 : W1.cell? ⟨w.heap.size + 1 + 1, 1, none⟩ = some (.int .u64 0) := BW1_2.cell 1 rfl
  have fW1_2 := BW1_2.free
  refine wp_region_calm1 5 _ _ (by kernel_rfl) (by kernel_rfl) rfl isMaker131 (by kernel_rfl) ?_
  simp only [List.take_succ_cons, List.take_zero, List.drop_succ_cons, List.drop_zero]
  repeat (first
    | (refine calm_skip rfl ?_; simp only [Act.put, List.setIfInBounds_toArray, List.set_cons_zero, List.set_cons_succ])
    | (refine calm_ex rfl ?_; apply Exists.intro; refine And.intro (fun w' hk => ?_) ?_; (focus (have q0 := hk.cell cW1_0_0; have q1 := hk.cell cW1_0_1; have q2 := hk.cell cW1_1_0; have q3 := hk.cell cW1_1_1; have q4 := hk.cell cW1_2_0; have q5 := hk.cell cW1_2_1; clear hk; go_simp; exact rfl)); simp only [Act.put, List.setIfInBounds_toArray, List.set_cons_zero, List.set_cons_succ])
    | (refine calm_step _ rfl (HA.out.call ?_) ?_; (focus (intro w'; go_simp; done)); simp only [Act.put, List.setIfInBounds_toArray, List.set_cons_zero, List.set_cons_succ])
    | (refine calm_step _ rfl (HB.out.call ?_) ?_; (focus (intro w'; go_simp; done)); simp only [Act.put, List.setIfInBounds_toArray, List.set_cons_zero, List.set_cons_succ])
    | (refine calm_step _ rfl (HPr.out.call ?_) ?_; (focus (intro w'; go_simp; done)); simp only [Act.put, List.setIfInBounds_toArray, List.set_cons_zero, List.set_cons_succ]))
  refine calm_nil ?_
  intro W2 b5 hkW2 hlob5 hatb5
  simp only [Act.put, List.setIfInBounds_toArray, List.set_cons_zero, List.set_cons_succ]
  have neb5_0 : w.heap.size ≠ b5 := by have := BW1_0.lt; omega
  have enb5_0 : b5 ≠ w.heap.size := neb5_0.symm
  have neb5_1 : w.heap.size + 1 ≠ b5 := by have := BW1_1.lt; omega
  have enb5_1 : b5 ≠ w.heap.size + 1 := neb5_1.symm
  have neb5_2 : w.heap.size + 1 + 1 ≠ b5 := by have := BW1_2.lt; omega
  have enb5_2 : b5 ≠ w.heap.size + 1 + 1 := neb5_2.symm
  have lob5 : w.heap.size ≤ b5 := Nat.le_trans kW1.size hlob5
  have BW2_3 : Blk W2 (b5) 131 #[.int .u64 0, .int .u64 0, .int .u64 0, .int .u64 0] := hatb5
  clear hatb5 hlob5
  have kW2 := kW1.trans hkW2
  have BW2_0 := BW1_0.kept hkW2
  have BW2_1 := BW1_1.kept hkW2
  have BW2_2 := BW1_2.kept hkW2
  clear cW1_0_0 cW1_0_1 cW1_1_0 cW1_1_1 cW1_2_0 cW1_2_1 fW1_0 fW1_1 fW1_2 BW1_0 BW1_1 BW1_2 kW1 hkW2
  have cW2_0_0 : W2.cell? ⟨w.heap.size, 0, none⟩ = some (.int .u64 a0) := BW2_0.cell 0 rfl
  have cW2_0_1 : W2.cell? ⟨w.heap.size, 1, none⟩ = some (.int .u64 a1) := BW2_0.cell 1 rfl
  have fW2_0 := BW2_0.free
  have cW2_1_0 : W2.cell? ⟨w.heap.size + 1, 0, none⟩ = some (.int .u64 b0) := BW2_1.cell 0 rfl
  have cW2_1_1 : W2.cell? ⟨w.heap.size + 1, 1, none⟩ = some (.int .u64 b1) := BW2_1.cell 1 rfl
  have fW2_1 := BW2_1.free
  have cW2_2_0 : W2.cell? ⟨w.heap.size + 1 + 1, 0, none⟩ = some (.int .u64 0) := BW2_2.cell 0 rfl
  have cW2_2_1 : W2.cell? ⟨w.heap.size + 1 + 1, 1, none⟩ = some (.int .u64 0) := BW2_2.cell 1 rfl
  have fW2_2 := BW2_2.free
  have cW2_3_0 : W2.cell? ⟨b5, 0, none⟩ = some (.int .u64 0) := BW2_3.cell 0 rfl
  have cW2_3_1 : W2.cell? ⟨b5, 1, none⟩ = some (.int .u64 0) := BW2_3.cell 1 rfl
  have cW2_3_2 : W2.cell? ⟨b5, 2, none⟩ = some (.int .u64 0) := BW2_3.cell 2 rfl
  have cW2_3_3 : W2.cell? ⟨b5, 3, none⟩ = some (.int .u64 0) := BW2_3.cell 3 rfl
  have fW2_3 := BW2_3.free
  go_wp2_with fail
  refine abs_world (fun W => Kept w W ∧ Blk W (w.heap.size) 28 #[.int .u64 a0, .int .u64 a1] ∧ Blk W (w.heap.size + 1) 28 #[.int .u64 b0, .int .u64 b1] ∧ Blk W (w.heap.size + 1 + 1) 28 #[.int .u64 0, .int .u64 0] ∧ Blk W (b5) 131 #[.int .u64 (l0 n), .int .u64 (l1 n), .int .u64 (l2 n), .int .u64 (l3 n)]) ?_ ?_
  · refine ⟨?_, ?_, ?_, ?_, ?_⟩
    · repeat (first | exact kW2 | (refine Kept.setCell ?_ (kept_side (by first | assumption | omega)) _) | apply Kept.alloc | apply Kept.drew)
    · simp [Blk, *] <;> (intros; omega)
    · simp [Blk, *] <;> (intros; omega)
    · simp [Blk, *] <;> (intros; omega)
    · simp [Blk, *] <;> (intros; omega)
  rintro W3 ⟨kW3, BW3_0, BW3_1, BW3_2, BW3_3⟩
  have cW3_0_0 : W3.cell? ⟨w.heap.size, 0, none⟩ = some (.int .u64 a0) := BW3_0.cell 0 rfl
  have cW3_0_1 : W3.cell? ⟨w.heap.size, 1, none⟩ = some (.int .u64 a1) := BW3_0.cell 1 rfl
  have fW3_0 := BW3_0.free
  have cW3_1_0 : W3.cell? ⟨w.heap.size + 1, 0, none⟩ = some (.int .u64 b0) := BW3_1.cell 0 rfl
  have cW3_1_1 : W3.cell? ⟨w.heap.size + 1, 1, none⟩ = some (.int .u64 b1) := BW3_1.cell 1 rfl
  have fW3_1 := BW3_1.free
  have cW3_2_0 : W3.cell? ⟨w.heap.size + 1 + 1, 0, none⟩ = some (.int .u64 0) := BW3_2.cell 0 rfl
  have cW3_2_1 : W3.cell? ⟨w.heap.size + 1 + 1, 1, none⟩ = some (.int .u64 0) := BW3_2.cell 1 rfl
  have fW3_2 := BW3_2.free
  have cW3_3_0 : W3.cell? ⟨b5, 0, none⟩ = some (.int .u64 (l0 n)) := BW3_3.cell 0 rfl
  have cW3_3_1 : W3.cell? ⟨b5, 1, none⟩ = some (.int .u64 (l1 n)) := BW3_3.cell 1 rfl
  have cW3_3_2 : W3.cell? ⟨b5, 2, none⟩ = some (.int .u64 (l2 n)) := BW3_3.cell 2 rfl
  have cW3_3_3 : W3.cell? ⟨b5, 3, none⟩ = some (.int .u64 (l3 n)) := BW3_3.cell 3 rfl
  have fW3_3 := BW3_3.free
  go_loopg [] n.toNat (fun g wr => ∃ m : Int, is256 m ∧ m.toNat = g ∧ Hid (m % wP = n % wP) ∧ Kept w wr ∧ Blk wr (w.heap.size) 28 #[.int .u64 a0, .int .u64 a1] ∧ Blk wr (w.heap.size + 1) 28 #[.int .u64 b0, .int .u64 b1] ∧ Blk wr (w.heap.size + 1 + 1) 28 #[.int .u64 0, .int .u64 0] ∧ Blk wr (b5) 131 #[.int .u64 (l0 m), .int .u64 (l1 m), .int .u64 (l2 m), .int .u64 (l3 m)])
  case atStart => exact ⟨n, hn, rfl, Lib.hid rfl, kW3, BW3_0, BW3_1, BW3_2, BW3_3⟩
  case round =>
    clear cW3_0_0 cW3_0_1 cW3_1_0 cW3_1_1 cW3_2_0 cW3_2_1 cW3_3_0 cW3_3_1 cW3_3_2 cW3_3_3 fW3_0 fW3_1 fW3_2 fW3_3 BW3_0 BW3_1 BW3_2 BW3_3 kW3
    obtain ⟨m, hm, hg, hmod, kwr, Bwr_0, Bwr_1, Bwr_2, Bwr_3⟩ := hrel
    have cwr_0_0 : wr.cell? ⟨w.heap.size, 0, none⟩ = some (.int .u64 a0) := Bwr_0.cell 0 rfl
    have cwr_0_1 : wr.cell? ⟨w.heap.size, 1, none⟩ = some (.int .u64 a1) := Bwr_0.cell 1 rfl
    have fwr_0 := Bwr_0.free
    have cwr_1_0 : wr.cell? ⟨w.heap.size + 1, 0, none⟩ = some (.int .u64 b0) := Bwr_1.cell 0 rfl
    have cwr_1_1 : wr.cell? ⟨w.heap.size + 1, 1, none⟩ = some (.int .u64 b1) := Bwr_1.cell 1 rfl
    have fwr_1 := Bwr_1.free
    have cwr_2_0 : wr.cell? ⟨w.heap.size + 1 + 1, 0, none⟩ = some (.int .u64 0) := Bwr_2.cell 0 rfl
    have cwr_2_1 : wr.cell? ⟨w.heap.size + 1 + 1, 1, none⟩ = some (.int .u64 0) := Bwr_2.cell 1 rfl
    have fwr_2 := Bwr_2.free
    have cwr_3_0 : wr.cell? ⟨b5, 0, none⟩ = some (.int .u64 (l0 m)) := Bwr_3.cell 0 rfl
    have cwr_3_1 : wr.cell? ⟨b5, 1, none⟩ = some (.int .u64 (l1 m)) := Bwr_3.cell 1 rfl
    have cwr_3_2 : wr.cell? ⟨b5, 2, none⟩ = some (.int .u64 (l2 m)) := Bwr_3.cell 2 rfl
    have cwr_3_3 : wr.cell? ⟨b5, 3, none⟩ = some (.int .u64 (l3 m)) := Bwr_3.cell 3 rfl
    have fwr_3 := Bwr_3.free
    by_cases hz2 : l2 m = 0
    · by_cases hz3 : l3 m = 0
      · skip
        have HE := Lib.hid (hOf.out m hm hz2 hz3 hmod.out)
        go_wp2_with fail
        refine (HE.out _).mono ?_
        rintro e W4 ⟨rfl, hkW4⟩
        have kW4 := kwr.trans hkW4
        have BW4_0 := Bwr_0.kept hkW4
        have BW4_1 := Bwr_1.kept hkW4
        have BW4_2 := Bwr_2.kept hkW4
        have BW4_3 := Bwr_3.kept hkW4
        clear cwr_0_0 cwr_0_1 cwr_1_0 cwr_1_1 cwr_2_0 cwr_2_1 cwr_3_0 cwr_3_1 cwr_3_2 cwr_3_3 fwr_0 fwr_1 fwr_2 fwr_3 Bwr_0 Bwr_1 Bwr_2 Bwr_3 kwr hkW4
        have cW4_0_0 : W4.cell? ⟨w.heap.size, 0, none⟩ = some (.int .u64 a0) := BW4_0.cell 0 rfl
        have cW4_0_1 : W4.cell? ⟨w.heap.size, 1, none⟩ = some (.int .u64 a1) := BW4_0.cell 1 rfl
        have fW4_0 := BW4_0.free
        have cW4_1_0 : W4.cell? ⟨w.heap.size + 1, 0, none⟩ = some (.int .u64 b0) := BW4_1.cell 0 rfl
        have cW4_1_1 : W4.cell? ⟨w.heap.size + 1, 1, none⟩ = some (.int .u64 b1) := BW4_1.cell 1 rfl
        have fW4_1 := BW4_1.free
        have cW4_2_0 : W4.cell? ⟨w.heap.size + 1 + 1, 0, none⟩ = some (.int .u64 0) := BW4_2.cell 0 rfl
        have cW4_2_1 : W4.cell? ⟨w.heap.size + 1 + 1, 1, none⟩ = some (.int .u64 0) := BW4_2.cell 1 rfl
        have fW4_2 := BW4_2.free
        have cW4_3_0 : W4.cell? ⟨b5, 0, none⟩ = some (.int .u64 (l0 m)) := BW4_3.cell 0 rfl
        have cW4_3_1 : W4.cell? ⟨b5, 1, none⟩ = some (.int .u64 (l1 m)) := BW4_3.cell 1 rfl
        have cW4_3_2 : W4.cell? ⟨b5, 2, none⟩ = some (.int .u64 (l2 m)) := BW4_3.cell 2 rfl
        have cW4_3_3 : W4.cell? ⟨b5, 3, none⟩ = some (.int .u64 (l3 m)) := BW4_3.cell 3 rfl
        have fW4_3 := BW4_3.free
        go_wp2_with fail
        refine bodyPost_ret (v := .agg #[.int .u64 r0, .int .u64 r1]) (by simp [results, Try.results53, go_sem, *]) rfl ⟨rfl, ?_⟩
        repeat (first | exact kW4 | (refine Kept.setCell ?_ (kept_side (by first | assumption | omega)) _) | apply Kept.alloc | apply Kept.drew)
      · skip
        have HF := Lib.hid (hFold.out m hm)
        rw [hz2] at HF
        have HS := hStep.out m hm (.inr hz3)
        go_wp2_with fail
        refine (HF.out _).mono ?_
        rintro e W4 ⟨rfl, hkW4⟩
        have kW4 := kwr.trans hkW4
        have BW4_0 := Bwr_0.kept hkW4
        have BW4_1 := Bwr_1.kept hkW4
        have BW4_2 := Bwr_2.kept hkW4
        have BW4_3 := Bwr_3.kept hkW4
        clear cwr_0_0 cwr_0_1 cwr_1_0 cwr_1_1 cwr_2_0 cwr_2_1 cwr_3_0 cwr_3_1 cwr_3_2 cwr_3_3 fwr_0 fwr_1 fwr_2 fwr_3 Bwr_0 Bwr_1 Bwr_2 Bwr_3 kwr hkW4
        have cW4_0_0 : W4.cell? ⟨w.heap.size, 0, none⟩ = some (.int .u64 a0) := BW4_0.cell 0 rfl
        have cW4_0_1 : W4.cell? ⟨w.heap.size, 1, none⟩ = some (.int .u64 a1) := BW4_0.cell 1 rfl
        have fW4_0 := BW4_0.free
        have cW4_1_0 : W4.cell? ⟨w.heap.size + 1, 0, none⟩ = some (.int .u64 b0) := BW4_1.cell 0 rfl
        have cW4_1_1 : W4.cell? ⟨w.heap.size + 1, 1, none⟩ = some (.int .u64 b1) := BW4_1.cell 1 rfl
        have fW4_1 := BW4_1.free
        have cW4_2_0 : W4.cell? ⟨w.heap.size + 1 + 1, 0, none⟩ = some (.int .u64 0) := BW4_2.cell 0 rfl
        have cW4_2_1 : W4.cell? ⟨w.heap.size + 1 + 1, 1, none⟩ = some (.int .u64 0) := BW4_2.cell 1 rfl
        have fW4_2 := BW4_2.free
        have cW4_3_0 : W4.cell? ⟨b5, 0, none⟩ = some (.int .u64 (l0 m)) := BW4_3.cell 0 rfl
        have cW4_3_1 : W4.cell? ⟨b5, 1, none⟩ = some (.int .u64 (l1 m)) := BW4_3.cell 1 rfl
        have cW4_3_2 : W4.cell? ⟨b5, 2, none⟩ = some (.int .u64 (l2 m)) := BW4_3.cell 2 rfl
        have cW4_3_3 : W4.cell? ⟨b5, 3, none⟩ = some (.int .u64 (l3 m)) := BW4_3.cell 3 rfl
        have fW4_3 := BW4_3.free
        go_wp2_with fail
        have fl := HS.out.2.1
        have fm := HS.out.1
        have fe := HS.out.2.2
        clear HS
        go_roundg (fold m).toNat
        case measure => exact hg ▸ fl
        case rel =>
          refine ⟨fold m, fm, rfl, Lib.hid (fe.trans hmod.out), ?_, ?_, ?_, ?_, ?_⟩
          · repeat (first | exact kW4 | (refine Kept.setCell ?_ (kept_side (by first | assumption | omega)) _) | apply Kept.alloc | apply Kept.drew)
          · simp [Blk, *] <;> (intros; omega)
          · simp [Blk, *] <;> (intros; omega)
          · simp [Blk, *] <;> (intros; omega)
          · simp [Blk, *] <;> (intros; omega)
    · skip
      have HF := Lib.hid (hFold.out m hm)
      have HS := hStep.out m hm (.inl hz2)
      go_wp2_with fail
      refine (HF.out _).mono ?_
      rintro e W4 ⟨rfl, hkW4⟩
      have kW4 := kwr.trans hkW4
      have BW4_0 := Bwr_0.kept hkW4
      have BW4_1 := Bwr_1.kept hkW4
      have BW4_2 := Bwr_2.kept hkW4
      have BW4_3 := Bwr_3.kept hkW4
      clear cwr_0_0 cwr_0_1 cwr_1_0 cwr_1_1 cwr_2_0 cwr_2_1 cwr_3_0 cwr_3_1 cwr_3_2 cwr_3_3 fwr_0 fwr_1 fwr_2 fwr_3 Bwr_0 Bwr_1 Bwr_2 Bwr_3 kwr hkW4
      have cW4_0_0 : W4.cell? ⟨w.heap.size, 0, none⟩ = some (.int .u64 a0) := BW4_0.cell 0 rfl
      have cW4_0_1 : W4.cell? ⟨w.heap.size, 1, none⟩ = some (.int .u64 a1) := BW4_0.cell 1 rfl
      have fW4_0 := BW4_0.free
      have cW4_1_0 : W4.cell? ⟨w.heap.size + 1, 0, none⟩ = some (.int .u64 b0) := BW4_1.cell 0 rfl
      have cW4_1_1 : W4.cell? ⟨w.heap.size + 1, 1, none⟩ = some (.int .u64 b1) := BW4_1.cell 1 rfl
      have fW4_1 := BW4_1.free
      have cW4_2_0 : W4.cell? ⟨w.heap.size + 1 + 1, 0, none⟩ = some (.int .u64 0) := BW4_2.cell 0 rfl
      have cW4_2_1 : W4.cell? ⟨w.heap.size + 1 + 1, 1, none⟩ = some (.int .u64 0) := BW4_2.cell 1 rfl
      have fW4_2 := BW4_2.free
      have cW4_3_0 : W4.cell? ⟨b5, 0, none⟩ = some (.int .u64 (l0 m)) := BW4_3.cell 0 rfl
      have cW4_3_1 : W4.cell? ⟨b5, 1, none⟩ = some (.int .u64 (l1 m)) := BW4_3.cell 1 rfl
      have cW4_3_2 : W4.cell? ⟨b5, 2, none⟩ = some (.int .u64 (l2 m)) := BW4_3.cell 2 rfl
      have cW4_3_3 : W4.cell? ⟨b5, 3, none⟩ = some (.int .u64 (l3 m)) := BW4_3.cell 3 rfl
      have fW4_3 := BW4_3.free
      go_wp2_with fail
      have fl := HS.out.2.1
      have fm := HS.out.1
      have fe := HS.out.2.2
      clear HS
      go_roundg (fold m).toNat
      case measure => exact hg ▸ fl
      case rel =>
        refine ⟨fold m, fm, rfl, Lib.hid (fe.trans hmod.out), ?_, ?_, ?_, ?_, ?_⟩
        · repeat (first | exact kW4 | (refine Kept.setCell ?_ (kept_side (by first | assumption | omega)) _) | apply Kept.alloc | apply Kept.drew)
        · simp [Blk, *] <;> (intros; omega)
        · simp [Blk, *] <;> (intros; omega)
        · simp [Blk, *] <;> (intros; omega)
        · simp [Blk, *] <;> (intros; omega)

end
theorem l_small {n : Int} (h : is256 n) (g : l2 n ≠ 0 ∨ l3 n ≠ 0) : 340282366920938463463374607431768211456 ≤ n := by
  obtain ⟨g0, g1, g2, g3⟩ := l_ok h
  have es := l_split n
  generalize l0 n = q0 at *
  generalize l1 n = q1 at *
  generalize l2 n = q2 at *
  generalize l3 n = q3 at *
  unfold is64 at *; omega
theorem w_Mul {a b : Int} (ha : is128 a) (hb : is128 b) : Pure Try.prog 53 #[E a, E b] (E (a * b % wP)) := by
  have hx := is128_emod_w a
  have hy := is128_emod_w b
  rw [Int.mul_emod]
  refine w_Mul_raw _ _ _ _ _ _ _ _ _ ?_ (w_Of ha) (w_Of hb) (w_product hx hy) ?_ ?_ ?_
  · unfold is128 at hx hy
    refine ⟨Int.mul_nonneg hx.1 hy.1, ?_⟩
    have := Int.mul_le_mul hx.2 hy.2 hy.1 (by omega)
    omega
  · exact fun m hm => w_fold hm
  · exact fun m hm h => ⟨fold_ok hm, fold_lt hm (l_small hm h), fold_mod m⟩
  · intro m hm h2 h3 he
    rw [← he]
    have h128 : is128 m := by
      obtain ⟨g0, g1, _, _⟩ := l_ok hm
      have es := l_split m
      rw [h2, h3] at es
      clear he h2 h3 hm hx hy
      unfold is64 at g0 g1; unfold is128; omega
    have := w_Of h128
    rw [show E m = .agg #[.int .u64 (l0 m), .int .u64 (l1 m)] by clear h2 h3 he hm hx hy this; unfold E l0 l1; exact agg2_congr rfl (by unfold is128 at h128; omega)] at this
    exact this

end Go.Proofs.Ytnajihlhcdedgaa

namespace Go.Proofs.Ytnajihlhcdedgaa
open Go.RowKit
set_option linter.unusedVariables false
set_option linter.unusedSimpArgs false
attribute [local simp] blkAt_setCell blkAt_alloc blkAt_drew Obj.put_cells

theorem isMakerS5 : isMaker Try.prog { dst := some 5, op := Op.alloc 28, type := 28, pos := "law.go:20", after := #[], guard := none } (fun b => .pointer (some ⟨b, 0, none⟩), .cells #[.int .u64 0, .int .u64 0] 28) :=
  ⟨rfl, fun a w => by go_simp⟩
theorem isMakerS6 : isMaker Try.prog { dst := some 6, op := Op.alloc 28, type := 28, pos := "law.go:20", after := #[], guard := none } (fun b => .pointer (some ⟨b, 0, none⟩), .cells #[.int .u64 0, .int .u64 0] 28) :=
  ⟨rfl, fun a w => by go_simp⟩

set_option maxRecDepth 100000 in
set_option maxHeartbeats 4000000 in
theorem wide_Awake_raw (hM : Pure Try.prog 53 #[.agg #[.int .u64 0, .int .u64 9223372036854775808], .agg #[.int .u64 2, .int .u64 0]] (.agg #[.int .u64 18446744073709551615, .int .u64 27])) (hs : ∀ s t w, (binOp .eql 28 (.agg #[.int .u64 s, .int .u64 t]) (.agg #[.int .u64 s, .int .u64 t])).run Try.prog w = .ok (.bool true) w) :
    Pure Try.prog 47 #[] (.bool true) := fun w => by
  have HM := Lib.hid hM
  clear hM
  go_enter Try.func47, Try.ntmps47
  go_wp2_with fail
  refine (HM.out _).mono ?_
  rintro e w' ⟨rfl, hk⟩
  go_wp2_with fail
  go_ret
  exact ⟨rfl, hk⟩

theorem eql28_self (s t : Int) (w : World) : (binOp .eql 28 (.agg #[.int .u64 s, .int .u64 t]) (.agg #[.int .u64 s, .int .u64 t])).run Try.prog w = .ok (.bool true) w := by rw [run_eql28]; simp

theorem wide_Awake : Pure Try.prog 47 #[] (.bool true) :=
  wide_Awake_raw (by
    have := w_Mul (a := 170141183460469231731687303715884105728) (b := 2) (by unfold is128; omega) (by unfold is128; omega)
    rw [show (170141183460469231731687303715884105728 * 2 : Int) % wP = 516508834063867445247 by unfold wP; omega] at this
    exact this) eql28_self

set_option maxRecDepth 100000 in
set_option maxHeartbeats 4000000 in
theorem wide_sums_raw (a0 a1 b0 b1 x0 x1 y0 y1 s0 s1 d0 d1 n0 n1 m0 m1 : Int) (c : Bool)
    (hK : Pure Try.prog 47 #[] (.bool true))
    (hOa : Pure Try.prog 32 #[.int .i64 2, .agg #[.int .u64 a0, .int .u64 a1]] (.agg #[.int .u64 x0, .int .u64 x1]))
    (hOb : Pure Try.prog 32 #[.int .i64 2, .agg #[.int .u64 b0, .int .u64 b1]] (.agg #[.int .u64 y0, .int .u64 y1]))
    (hOf : Pure Try.prog 48 #[.agg #[.int .u64 a0, .int .u64 a1]] (.agg #[.int .u64 x0, .int .u64 x1])) (hIn : Pure Try.prog 49 #[.agg #[.int .u64 a0, .int .u64 a1]] (.bool c))
    (hAd : Pure Try.prog 50 #[.agg #[.int .u64 a0, .int .u64 a1], .agg #[.int .u64 b0, .int .u64 b1]] (.agg #[.int .u64 s0, .int .u64 s1])) (hSu : Pure Try.prog 51 #[.agg #[.int .u64 a0, .int .u64 a1], .agg #[.int .u64 b0, .int .u64 b1]] (.agg #[.int .u64 d0, .int .u64 d1]))
    (hNe : Pure Try.prog 52 #[.agg #[.int .u64 a0, .int .u64 a1]] (.agg #[.int .u64 n0, .int .u64 n1])) (hMu : Pure Try.prog 53 #[.agg #[.int .u64 a0, .int .u64 a1], .agg #[.int .u64 b0, .int .u64 b1]] (.agg #[.int .u64 m0, .int .u64 m1]))
    (hRa : Pure Try.prog 35 #[.int .i64 2, .agg #[.int .u64 x0, .int .u64 x1], .agg #[.int .u64 y0, .int .u64 y1]] (.agg #[.int .u64 s0, .int .u64 s1]))
    (hRs : Pure Try.prog 36 #[.int .i64 2, .agg #[.int .u64 x0, .int .u64 x1], .agg #[.int .u64 y0, .int .u64 y1]] (.agg #[.int .u64 d0, .int .u64 d1]))
    (hRn : Pure Try.prog 37 #[.int .i64 2, .agg #[.int .u64 x0, .int .u64 x1]] (.agg #[.int .u64 n0, .int .u64 n1]))
    (hRm : Pure Try.prog 38 #[.int .i64 2, .agg #[.int .u64 x0, .int .u64 x1], .agg #[.int .u64 y0, .int .u64 y1]] (.agg #[.int .u64 m0, .int .u64 m1]))
    (hq : ∀ w, (binOp .eql 28 (.agg #[.int .u64 x0, .int .u64 x1]) (.agg #[.int .u64 a0, .int .u64 a1])).run Try.prog w = .ok (.bool c) w)
    (hs : ∀ s t w, (binOp .eql 28 (.agg #[.int .u64 s, .int .u64 t]) (.agg #[.int .u64 s, .int .u64 t])).run Try.prog w = .ok (.bool true) w)
    (w : World) : Calls Try.prog 8 #[.agg #[.int .u64 a0, .int .u64 a1], .agg #[.int .u64 b0, .int .u64 b1]] w fun e w' => e = .returned (.bool true) ∧ Kept w w' := by
  have HK := Lib.hid hK
  have HOa := Lib.hid hOa
  have HOb := Lib.hid hOb
  have HOf := Lib.hid hOf
  have HIn := Lib.hid hIn
  have HAd := Lib.hid hAd
  have HSu := Lib.hid hSu
  have HNe := Lib.hid hNe
  have HMu := Lib.hid hMu
  have HRa := Lib.hid hRa
  have HRs := Lib.hid hRs
  have HRn := Lib.hid hRn
  have HRm := Lib.hid hRm
  clear hK hOa hOb hOf hIn hAd hSu hNe hMu hRa hRs hRn hRm
  go_enter Try.func8, Try.ntmps8
  go_wp2_with fail
  refine abs_calls (fun W => Kept w W ∧ Blk W (w.heap.size) 28 #[.int .u64 a0, .int .u64 a1] ∧ Blk W (w.heap.size + 1) 28 #[.int .u64 b0, .int .u64 b1]) ?_ ?_
  · refine ⟨?_, ?_, ?_⟩
    · repeat (first | exact Kept.refl _ | (refine Kept.setCell ?_ (kept_side (by first | assumption | omega)) _) | apply Kept.alloc | apply Kept.drew)
    · simp [Blk, *] <;> (intros; omega)
    · simp [Blk, *] <;> (intros; omega)
  rintro W1 ⟨kW1, BW1_0, BW1_1⟩
  have cW1_0_0 : W1.cell? ⟨w.heap.size, 0, none⟩ = some (.int .u64 a0) := BW1_0.cell 0 rfl
  have cW1_0_1 : W1.cell? ⟨w.heap.size, 1, none⟩ = some (.int .u64 a1) := BW1_0.cell 1 rfl
  have fW1_0 := BW1_0.free
  have cW1_1_0 : W1.cell? ⟨w.heap.size + 1, 0, none⟩ = some (.int .u64 b0) := BW1_1.cell 0 rfl
  have cW1_1_1 : W1.cell? ⟨w.heap.size + 1, 1, none⟩ = some (.int .u64 b1) := BW1_1.cell 1 rfl
  have fW1_1 := BW1_1.free
  refine (HK.out _).mono ?_
  rintro e W2 ⟨rfl, hkW2⟩
  have kW2 := kW1.trans hkW2
  have BW2_0 := BW1_0.kept hkW2
  have BW2_1 := BW1_1.kept hkW2
  clear cW1_0_0 cW1_0_1 cW1_1_0 cW1_1_1 fW1_0 fW1_1 BW1_0 BW1_1 kW1 hkW2
  have cW2_0_0 : W2.cell? ⟨w.heap.size, 0, none⟩ = some (.int .u64 a0) := BW2_0.cell 0 rfl
  have cW2_0_1 : W2.cell? ⟨w.heap.size, 1, none⟩ = some (.int .u64 a1) := BW2_0.cell 1 rfl
  have fW2_0 := BW2_0.free
  have cW2_1_0 : W2.cell? ⟨w.heap.size + 1, 0, none⟩ = some (.int .u64 b0) := BW2_1.cell 0 rfl
  have cW2_1_1 : W2.cell? ⟨w.heap.size + 1, 1, none⟩ = some (.int .u64 b1) := BW2_1.cell 1 rfl
  have fW2_1 := BW2_1.free
  go_wp2_with fail
  refine wp_region_calm2 4 _ _ _ _ (by kernel_rfl) (by kernel_rfl) rfl rfl isMakerS5 isMakerS6 (by rintro d ⟨⟩; decide) (by kernel_rfl) (by kernel_rfl) (by kernel_rfl) ?_
  simp only [List.take_succ_cons, List.take_zero, List.drop_succ_cons, List.drop_zero]
  repeat (first
    | (refine calm_skip rfl ?_; simp only [Act.put, List.setIfInBounds_toArray, List.set_cons_zero, List.set_cons_succ])
    | (refine calm_ex rfl ?_; apply Exists.intro; refine And.intro (fun w' hk => ?_) ?_; (focus (have q0 := hk.cell cW2_0_0; have q1 := hk.cell cW2_0_1; have q2 := hk.cell cW2_1_0; have q3 := hk.cell cW2_1_1; clear hk; go_simp; exact rfl)); simp only [Act.put, List.setIfInBounds_toArray, List.set_cons_zero, List.set_cons_succ])
    | (refine calm_step _ rfl (HOa.out.call ?_) ?_; (focus (intro w'; go_simp; done)); simp only [Act.put, List.setIfInBounds_toArray, List.set_cons_zero, List.set_cons_succ])
    | (refine calm_step _ rfl (HOb.out.call ?_) ?_; (focus (intro w'; go_simp; done)); simp only [Act.put, List.setIfInBounds_toArray, List.set_cons_zero, List.set_cons_succ]))
  refine calm_nil ?_
  intro W3 b5 b6 hkW3 hlo5 hlo6 hne56 hat5 hat6
  simp only [Act.put, List.setIfInBounds_toArray, List.set_cons_zero, List.set_cons_succ]
  have neb5_0 : w.heap.size ≠ b5 := by have := BW2_0.lt; omega
  have enb5_0 : b5 ≠ w.heap.size := neb5_0.symm
  have neb5_1 : w.heap.size + 1 ≠ b5 := by have := BW2_1.lt; omega
  have enb5_1 : b5 ≠ w.heap.size + 1 := neb5_1.symm
  have lob5 : w.heap.size ≤ b5 := Nat.le_trans kW2.size hlo5
  have neb6_0 : w.heap.size ≠ b6 := by have := BW2_0.lt; omega
  have enb6_0 : b6 ≠ w.heap.size := neb6_0.symm
  have neb6_1 : w.heap.size + 1 ≠ b6 := by have := BW2_1.lt; omega
  have enb6_1 : b6 ≠ w.heap.size + 1 := neb6_1.symm
  have lob6 : w.heap.size ≤ b6 := Nat.le_trans kW2.size hlo6
  have hne65 : b6 ≠ b5 := hne56.symm
  have BW3_2 : Blk W3 (b5) 28 #[.int .u64 0, .int .u64 0] := hat5
  have BW3_3 : Blk W3 (b6) 28 #[.int .u64 0, .int .u64 0] := hat6
  clear hat5 hat6 hlo5 hlo6
  have kW3 := kW2.trans hkW3
  have BW3_0 := BW2_0.kept hkW3
  have BW3_1 := BW2_1.kept hkW3
  clear cW2_0_0 cW2_0_1 cW2_1_0 cW2_1_1 fW2_0 fW2_1 BW2_0 BW2_1 kW2 hkW3
  have cW3_0_0 : W3.cell? ⟨w.heap.size, 0, none⟩ = some (.int .u64 a0) := BW3_0.cell 0 rfl
  have cW3_0_1 : W3.cell? ⟨w.heap.size, 1, none⟩ = some (.int .u64 a1) := BW3_0.cell 1 rfl
  have fW3_0 := BW3_0.free
  have cW3_1_0 : W3.cell? ⟨w.heap.size + 1, 0, none⟩ = some (.int .u64 b0) := BW3_1.cell 0 rfl
  have cW3_1_1 : W3.cell? ⟨w.heap.size + 1, 1, none⟩ = some (.int .u64 b1) := BW3_1.cell 1 rfl
  have fW3_1 := BW3_1.free
  have cW3_2_0 := BW3_2.cell 0 rfl
  have cW3_2_1 := BW3_2.cell 1 rfl
  have fW3_2 := BW3_2.free
  have cW3_3_0 := BW3_3.cell 0 rfl
  have cW3_3_1 := BW3_3.cell 1 rfl
  have fW3_3 := BW3_3.free
  go_wp2_with fail
  refine abs_world (fun W => Kept w W ∧ Blk W (w.heap.size) 28 #[.int .u64 a0, .int .u64 a1] ∧ Blk W (w.heap.size + 1) 28 #[.int .u64 b0, .int .u64 b1] ∧ Blk W (b5) 28 #[.int .u64 x0, .int .u64 x1] ∧ Blk W (b6) 28 #[.int .u64 y0, .int .u64 y1]) ?_ ?_
  · refine ⟨?_, ?_, ?_, ?_, ?_⟩
    · repeat (first | exact kW3 | (refine Kept.setCell ?_ (kept_side (by first | assumption | omega)) _) | apply Kept.alloc | apply Kept.drew)
    · simp [Blk, *] <;> (intros; omega)
    · simp [Blk, *] <;> (intros; omega)
    · simp [Blk, *] <;> (intros; omega)
    · simp [Blk, *] <;> (intros; omega)
  rintro W4 ⟨kW4, BW4_0, BW4_1, BW4_2, BW4_3⟩
  have cW4_0_0 : W4.cell? ⟨w.heap.size, 0, none⟩ = some (.int .u64 a0) := BW4_0.cell 0 rfl
  have cW4_0_1 : W4.cell? ⟨w.heap.size, 1, none⟩ = some (.int .u64 a1) := BW4_0.cell 1 rfl
  have fW4_0 := BW4_0.free
  have cW4_1_0 : W4.cell? ⟨w.heap.size + 1, 0, none⟩ = some (.int .u64 b0) := BW4_1.cell 0 rfl
  have cW4_1_1 : W4.cell? ⟨w.heap.size + 1, 1, none⟩ = some (.int .u64 b1) := BW4_1.cell 1 rfl
  have fW4_1 := BW4_1.free
  have cW4_2_0 : W4.cell? ⟨b5, 0, none⟩ = some (.int .u64 x0) := BW4_2.cell 0 rfl
  have cW4_2_1 : W4.cell? ⟨b5, 1, none⟩ = some (.int .u64 x1) := BW4_2.cell 1 rfl
  have fW4_2 := BW4_2.free
  have cW4_3_0 : W4.cell? ⟨b6, 0, none⟩ = some (.int .u64 y0) := BW4_3.cell 0 rfl
  have cW4_3_1 : W4.cell? ⟨b6, 1, none⟩ = some (.int .u64 y1) := BW4_3.cell 1 rfl
  have fW4_3 := BW4_3.free
  refine wp_region_calm 46 (by kernel_rfl) (by kernel_rfl) ?_
  simp only [List.take_succ_cons, List.take_zero, List.drop_succ_cons, List.drop_zero]
  repeat (first
    | (refine calm_skip rfl ?_; simp only [Act.put, List.setIfInBounds_toArray, List.set_cons_zero, List.set_cons_succ])
    | (refine calm_ex rfl ?_; apply Exists.intro; refine And.intro (fun w' hk => ?_) ?_; (focus (have q0 := hk.cell cW4_0_0; have q1 := hk.cell cW4_0_1; have q2 := hk.cell cW4_1_0; have q3 := hk.cell cW4_1_1; have q4 := hk.cell cW4_2_0; have q5 := hk.cell cW4_2_1; have q6 := hk.cell cW4_3_0; have q7 := hk.cell cW4_3_1; clear hk; go_simp; exact rfl)); simp only [Act.put, List.setIfInBounds_toArray, List.set_cons_zero, List.set_cons_succ])
    | (refine calm_step _ rfl (HOf.out.call ?_) ?_; (focus (intro w'; go_simp; done)); simp only [Act.put, List.setIfInBounds_toArray, List.set_cons_zero, List.set_cons_succ])
    | (refine calm_step _ rfl (HIn.out.call ?_) ?_; (focus (intro w'; go_simp; done)); simp only [Act.put, List.setIfInBounds_toArray, List.set_cons_zero, List.set_cons_succ])
    | (refine calm_step _ rfl (HAd.out.call ?_) ?_; (focus (intro w'; go_simp; done)); simp only [Act.put, List.setIfInBounds_toArray, List.set_cons_zero, List.set_cons_succ])
    | (refine calm_step _ rfl (HSu.out.call ?_) ?_; (focus (intro w'; go_simp; done)); simp only [Act.put, List.setIfInBounds_toArray, List.set_cons_zero, List.set_cons_succ])
    | (refine calm_step _ rfl (HNe.out.call ?_) ?_; (focus (intro w'; go_simp; done)); simp only [Act.put, List.setIfInBounds_toArray, List.set_cons_zero, List.set_cons_succ])
    | (refine calm_step _ rfl (HMu.out.call ?_) ?_; (focus (intro w'; go_simp; done)); simp only [Act.put, List.setIfInBounds_toArray, List.set_cons_zero, List.set_cons_succ])
    | (refine calm_step _ rfl (HRa.out.call ?_) ?_; (focus (intro w'; go_simp; done)); simp only [Act.put, List.setIfInBounds_toArray, List.set_cons_zero, List.set_cons_succ])
    | (refine calm_step _ rfl (HRs.out.call ?_) ?_; (focus (intro w'; go_simp; done)); simp only [Act.put, List.setIfInBounds_toArray, List.set_cons_zero, List.set_cons_succ])
    | (refine calm_step _ rfl (HRn.out.call ?_) ?_; (focus (intro w'; go_simp; done)); simp only [Act.put, List.setIfInBounds_toArray, List.set_cons_zero, List.set_cons_succ])
    | (refine calm_step _ rfl (HRm.out.call ?_) ?_; (focus (intro w'; go_simp; done)); simp only [Act.put, List.setIfInBounds_toArray, List.set_cons_zero, List.set_cons_succ]))
  refine calm_nil ?_
  intro W5 hkW5
  have kW5 := kW4.trans hkW5
  have BW5_0 := BW4_0.kept hkW5
  have BW5_1 := BW4_1.kept hkW5
  have BW5_2 := BW4_2.kept hkW5
  have BW5_3 := BW4_3.kept hkW5
  clear cW4_0_0 cW4_0_1 cW4_1_0 cW4_1_1 cW4_2_0 cW4_2_1 cW4_3_0 cW4_3_1 fW4_0 fW4_1 fW4_2 fW4_3 BW4_0 BW4_1 BW4_2 BW4_3 kW4 hkW5
  have cW5_0_0 : W5.cell? ⟨w.heap.size, 0, none⟩ = some (.int .u64 a0) := BW5_0.cell 0 rfl
  have cW5_0_1 : W5.cell? ⟨w.heap.size, 1, none⟩ = some (.int .u64 a1) := BW5_0.cell 1 rfl
  have fW5_0 := BW5_0.free
  have cW5_1_0 : W5.cell? ⟨w.heap.size + 1, 0, none⟩ = some (.int .u64 b0) := BW5_1.cell 0 rfl
  have cW5_1_1 : W5.cell? ⟨w.heap.size + 1, 1, none⟩ = some (.int .u64 b1) := BW5_1.cell 1 rfl
  have fW5_1 := BW5_1.free
  have cW5_2_0 : W5.cell? ⟨b5, 0, none⟩ = some (.int .u64 x0) := BW5_2.cell 0 rfl
  have cW5_2_1 : W5.cell? ⟨b5, 1, none⟩ = some (.int .u64 x1) := BW5_2.cell 1 rfl
  have fW5_2 := BW5_2.free
  have cW5_3_0 : W5.cell? ⟨b6, 0, none⟩ = some (.int .u64 y0) := BW5_3.cell 0 rfl
  have cW5_3_1 : W5.cell? ⟨b6, 1, none⟩ = some (.int .u64 y1) := BW5_3.cell 1 rfl
  have fW5_3 := BW5_3.free
  go_wp2_with fail
  go_ret
  exact ⟨rfl, kW5⟩

theorem rOf2 (a : Int) : rOf 2 a = a % wP := by unfold rOf; rw [if_neg (by omega)]
theorem rP2 : rP 2 = wP := by unfold rP; rw [if_neg (by omega)]
theorem rO2 {a : Int} (ha : is128 a) : Pure Try.prog 32 #[.int .i64 2, E a] (E (a % wP)) := rOf2 a ▸ ref_Of isF2 ha
theorem r2_mod (x : Int) : x % wP % wP = x % wP := Int.emod_emod _ _

theorem wide_sums_E {a b : Int} (ha : is128 a) (hb : is128 b) (w : World) :
    Calls Try.prog 8 #[E a, E b] w fun e w' => e = .returned (.bool true) ∧ Kept w w' := by
  have hX := is128_emod_w a
  have hY := is128_emod_w b
  have ra := ref_Add isF2 hX hY
  have rs := ref_Sub isF2 hX hY
  have rn := ref_Neg isF2 hX
  have rm := ref_Mul isF2 hX hY
  rw [rOf2, rOf2, rP2, r2_mod, r2_mod, ← Int.add_emod] at ra
  rw [rOf2, rOf2, rP2, r2_mod, r2_mod, ← Int.sub_emod] at rs
  rw [rOf2, rP2, r2_mod, show -(a % wP) % wP = -a % wP by unfold wP; omega] at rn
  rw [rOf2, rOf2, rP2, r2_mod, r2_mod, ← Int.mul_emod] at rm
  have hIn := w_In ha
  refine wide_sums_raw _ _ _ _ _ _ _ _ _ _ _ _ _ _ _ _ _ wide_Awake (rO2 ha) (rO2 hb) (w_Of ha) hIn (w_Add ha hb) (w_Sub ha hb) (w_Neg ha) (w_Mul ha hb) ra rs rn rm ?_ eql28_self w
  intro w
  rw [run_eql28]
  congr 2
  refine decide_eq_decide.2 ?_
  unfold wP is128 at *
  omega

theorem arr2 {l : List Int} (hl : l.length = 2) : ∃ a b, l = [a, b] := by
  match l, hl with
  | [a, b], _ => exact ⟨a, b, rfl⟩
theorem E_of {a b : Int} (ha : is64 a) (hb : is64 b) : is128 (a + b * 18446744073709551616) ∧ E (a + b * 18446744073709551616) = .agg #[.int .u64 a, .int .u64 b] := by
  refine ⟨?_, E_mk ha⟩
  unfold is64 at *; unfold is128; omega

end Go.Proofs.Ytnajihlhcdedgaa

namespace Go.Proofs.Ytnajihlhcdedgaa
open Go.RowKit
set_option linter.unusedVariables false
set_option linter.unusedSimpArgs false
attribute [local simp] blkAt_setCell blkAt_alloc blkAt_drew Obj.put_cells

set_option maxRecDepth 100000 in
set_option maxHeartbeats 4000000 in
theorem wide_rules_raw (a0 a1 b0 b1 c0 c1 s0 s1 m0 m1 t0 t1 d0 d1 n0 n1 e0 e1 f0 f1 g0 g1 x0 x1 : Int)
    (hK : Pure Try.prog 47 #[] (.bool true))
    (hK1 : Pure Try.prog 50 #[.agg #[.int .u64 a0, .int .u64 a1], .agg #[.int .u64 b0, .int .u64 b1]] (.agg #[.int .u64 s0, .int .u64 s1]))
    (hK2 : Pure Try.prog 50 #[.agg #[.int .u64 b0, .int .u64 b1], .agg #[.int .u64 a0, .int .u64 a1]] (.agg #[.int .u64 s0, .int .u64 s1]))
    (hK3 : Pure Try.prog 53 #[.agg #[.int .u64 a0, .int .u64 a1], .agg #[.int .u64 b0, .int .u64 b1]] (.agg #[.int .u64 m0, .int .u64 m1]))
    (hK4 : Pure Try.prog 53 #[.agg #[.int .u64 b0, .int .u64 b1], .agg #[.int .u64 a0, .int .u64 a1]] (.agg #[.int .u64 m0, .int .u64 m1]))
    (hK5 : Pure Try.prog 50 #[.agg #[.int .u64 b0, .int .u64 b1], .agg #[.int .u64 c0, .int .u64 c1]] (.agg #[.int .u64 t0, .int .u64 t1]))
    (hK6 : Pure Try.prog 53 #[.agg #[.int .u64 a0, .int .u64 a1], .agg #[.int .u64 t0, .int .u64 t1]] (.agg #[.int .u64 d0, .int .u64 d1]))
    (hK7 : Pure Try.prog 53 #[.agg #[.int .u64 a0, .int .u64 a1], .agg #[.int .u64 c0, .int .u64 c1]] (.agg #[.int .u64 n0, .int .u64 n1]))
    (hK8 : Pure Try.prog 50 #[.agg #[.int .u64 m0, .int .u64 m1], .agg #[.int .u64 n0, .int .u64 n1]] (.agg #[.int .u64 d0, .int .u64 d1]))
    (hK9 : Pure Try.prog 53 #[.agg #[.int .u64 m0, .int .u64 m1], .agg #[.int .u64 c0, .int .u64 c1]] (.agg #[.int .u64 e0, .int .u64 e1]))
    (hKa : Pure Try.prog 53 #[.agg #[.int .u64 b0, .int .u64 b1], .agg #[.int .u64 c0, .int .u64 c1]] (.agg #[.int .u64 f0, .int .u64 f1]))
    (hKb : Pure Try.prog 53 #[.agg #[.int .u64 a0, .int .u64 a1], .agg #[.int .u64 f0, .int .u64 f1]] (.agg #[.int .u64 e0, .int .u64 e1]))
    (hKc : Pure Try.prog 52 #[.agg #[.int .u64 a0, .int .u64 a1]] (.agg #[.int .u64 g0, .int .u64 g1]))
    (hKd : Pure Try.prog 50 #[.agg #[.int .u64 a0, .int .u64 a1], .agg #[.int .u64 g0, .int .u64 g1]] (.agg #[.int .u64 0, .int .u64 0]))
    (hKe : Pure Try.prog 51 #[.agg #[.int .u64 s0, .int .u64 s1], .agg #[.int .u64 b0, .int .u64 b1]] (.agg #[.int .u64 x0, .int .u64 x1]))
    (hKf : Pure Try.prog 48 #[.agg #[.int .u64 a0, .int .u64 a1]] (.agg #[.int .u64 x0, .int .u64 x1]))
    (hs : ∀ s t w, (binOp .eql 28 (.agg #[.int .u64 s, .int .u64 t]) (.agg #[.int .u64 s, .int .u64 t])).run Try.prog w = .ok (.bool true) w)
    (w : World) : Calls Try.prog 10 #[.agg #[.int .u64 a0, .int .u64 a1], .agg #[.int .u64 b0, .int .u64 b1], .agg #[.int .u64 c0, .int .u64 c1]] w fun e w' => e = .returned (.bool true) ∧ Kept w w' := by
  have HK := Lib.hid hK
  have HK1 := Lib.hid hK1
  have HK2 := Lib.hid hK2
  have HK3 := Lib.hid hK3
  have HK4 := Lib.hid hK4
  have HK5 := Lib.hid hK5
  have HK6 := Lib.hid hK6
  have HK7 := Lib.hid hK7
  have HK8 := Lib.hid hK8
  have HK9 := Lib.hid hK9
  have HKa := Lib.hid hKa
  have HKb := Lib.hid hKb
  have HKc := Lib.hid hKc
  have HKd := Lib.hid hKd
  have HKe := Lib.hid hKe
  have HKf := Lib.hid hKf
  clear hK hK1 hK2 hK3 hK4 hK5 hK6 hK7 hK8 hK9 hKa hKb hKc hKd hKe hKf
  have ne0_2 : w.heap.size ≠ w.heap.size + 1 + 1 := by omega
  have ne2_0 : w.heap.size + 1 + 1 ≠ w.heap.size := by omega
  go_enter Try.func10, Try.ntmps10
  go_wp2_with fail
  refine abs_calls (fun W => Kept w W ∧ Blk W (w.heap.size) 28 #[.int .u64 a0, .int .u64 a1] ∧ Blk W (w.heap.size + 1) 28 #[.int .u64 b0, .int .u64 b1] ∧ Blk W (w.heap.size + 1 + 1) 28 #[.int .u64 c0, .int .u64 c1]) ?_ ?_
  · refine ⟨?_, ?_, ?_, ?_⟩
    · repeat (first | exact Kept.refl _ | (refine Kept.setCell ?_ (kept_side (by first | assumption | omega)) _) | apply Kept.alloc | apply Kept.drew)
    · simp [Blk, *] <;> (intros; omega)
    · simp [Blk, *] <;> (intros; omega)
    · simp [Blk, *] <;> (intros; omega)
  rintro W1 ⟨kW1, BW1_0, BW1_1, BW1_2⟩
  have cW1_0_0 : W1.cell? ⟨w.heap.size, 0, none⟩ = some (.int .u64 a0) := BW1_0.cell 0 rfl
  have cW1_0_1 : W1.cell? ⟨w.heap.size, 1, none⟩ = some (.int .u64 a1) := BW1_0.cell 1 rfl
  have fW1_0 := BW1_0.free
  have cW1_1_0 : W1.cell? ⟨w.heap.size + 1, 0, none⟩ = some (.int .u64 b0) := BW1_1.cell 0 rfl
  have cW1_1_1 : W1.cell? ⟨w.heap.size + 1, 1, none⟩ = some (.int .u64 b1) := BW1_1.cell 1 rfl
  have fW1_1 := BW1_1.free
  have cW1_2_0 : W1.cell? ⟨w.heap.size + 1 + 1, 0, none⟩ = some (.int .u64 c0) := BW1_2.cell 0 rfl
  have cW1_2_1 : W1.cell? ⟨w.heap.size + 1 + 1, 1, none⟩ = some (.int .u64 c1) := BW1_2.cell 1 rfl
  have fW1_2 := BW1_2.free
  refine (HK.out _).mono ?_
  rintro e W2 ⟨rfl, hkW2⟩
  have kW2 := kW1.trans hkW2
  have BW2_0 := BW1_0.kept hkW2
  have BW2_1 := BW1_1.kept hkW2
  have BW2_2 := BW1_2.kept hkW2
  clear cW1_0_0 cW1_0_1 cW1_1_0 cW1_1_1 cW1_2_0 cW1_2_1 fW1_0 fW1_1 fW1_2 BW1_0 BW1_1 BW1_2 kW1 hkW2
  have cW2_0_0 : W2.cell? ⟨w.heap.size, 0, none⟩ = some (.int .u64 a0) := BW2_0.cell 0 rfl
  have cW2_0_1 : W2.cell? ⟨w.heap.size, 1, none⟩ = some (.int .u64 a1) := BW2_0.cell 1 rfl
  have fW2_0 := BW2_0.free
  have cW2_1_0 : W2.cell? ⟨w.heap.size + 1, 0, none⟩ = some (.int .u64 b0) := BW2_1.cell 0 rfl
  have cW2_1_1 : W2.cell? ⟨w.heap.size + 1, 1, none⟩ = some (.int .u64 b1) := BW2_1.cell 1 rfl
  have fW2_1 := BW2_1.free
  have cW2_2_0 : W2.cell? ⟨w.heap.size + 1 + 1, 0, none⟩ = some (.int .u64 c0) := BW2_2.cell 0 rfl
  have cW2_2_1 : W2.cell? ⟨w.heap.size + 1 + 1, 1, none⟩ = some (.int .u64 c1) := BW2_2.cell 1 rfl
  have fW2_2 := BW2_2.free
  go_wp2_with fail
  refine wp_region_calm 62 (by kernel_rfl) (by kernel_rfl) ?_
  simp only [List.take_succ_cons, List.take_zero, List.drop_succ_cons, List.drop_zero]
  repeat (first
    | (refine calm_skip rfl ?_; simp only [Act.put, List.setIfInBounds_toArray, List.set_cons_zero, List.set_cons_succ])
    | (refine calm_ex rfl ?_; apply Exists.intro; refine And.intro (fun w' hk => ?_) ?_; (focus (have q0 := hk.cell cW2_0_0; have q1 := hk.cell cW2_0_1; have q2 := hk.cell cW2_1_0; have q3 := hk.cell cW2_1_1; have q4 := hk.cell cW2_2_0; have q5 := hk.cell cW2_2_1; clear hk; go_simp; exact rfl)); simp only [Act.put, List.setIfInBounds_toArray, List.set_cons_zero, List.set_cons_succ])
    | (refine calm_step _ rfl (HK1.out.call ?_) ?_; (focus (intro w'; go_simp; done)); simp only [Act.put, List.setIfInBounds_toArray, List.set_cons_zero, List.set_cons_succ])
    | (refine calm_step _ rfl (HK2.out.call ?_) ?_; (focus (intro w'; go_simp; done)); simp only [Act.put, List.setIfInBounds_toArray, List.set_cons_zero, List.set_cons_succ])
    | (refine calm_step _ rfl (HK3.out.call ?_) ?_; (focus (intro w'; go_simp; done)); simp only [Act.put, List.setIfInBounds_toArray, List.set_cons_zero, List.set_cons_succ])
    | (refine calm_step _ rfl (HK4.out.call ?_) ?_; (focus (intro w'; go_simp; done)); simp only [Act.put, List.setIfInBounds_toArray, List.set_cons_zero, List.set_cons_succ])
    | (refine calm_step _ rfl (HK5.out.call ?_) ?_; (focus (intro w'; go_simp; done)); simp only [Act.put, List.setIfInBounds_toArray, List.set_cons_zero, List.set_cons_succ])
    | (refine calm_step _ rfl (HK6.out.call ?_) ?_; (focus (intro w'; go_simp; done)); simp only [Act.put, List.setIfInBounds_toArray, List.set_cons_zero, List.set_cons_succ])
    | (refine calm_step _ rfl (HK7.out.call ?_) ?_; (focus (intro w'; go_simp; done)); simp only [Act.put, List.setIfInBounds_toArray, List.set_cons_zero, List.set_cons_succ])
    | (refine calm_step _ rfl (HK8.out.call ?_) ?_; (focus (intro w'; go_simp; done)); simp only [Act.put, List.setIfInBounds_toArray, List.set_cons_zero, List.set_cons_succ])
    | (refine calm_step _ rfl (HK9.out.call ?_) ?_; (focus (intro w'; go_simp; done)); simp only [Act.put, List.setIfInBounds_toArray, List.set_cons_zero, List.set_cons_succ])
    | (refine calm_step _ rfl (HKa.out.call ?_) ?_; (focus (intro w'; go_simp; done)); simp only [Act.put, List.setIfInBounds_toArray, List.set_cons_zero, List.set_cons_succ])
    | (refine calm_step _ rfl (HKb.out.call ?_) ?_; (focus (intro w'; go_simp; done)); simp only [Act.put, List.setIfInBounds_toArray, List.set_cons_zero, List.set_cons_succ])
    | (refine calm_step _ rfl (HKc.out.call ?_) ?_; (focus (intro w'; go_simp; done)); simp only [Act.put, List.setIfInBounds_toArray, List.set_cons_zero, List.set_cons_succ])
    | (refine calm_step _ rfl (HKd.out.call ?_) ?_; (focus (intro w'; go_simp; done)); simp only [Act.put, List.setIfInBounds_toArray, List.set_cons_zero, List.set_cons_succ])
    | (refine calm_step _ rfl (HKe.out.call ?_) ?_; (focus (intro w'; go_simp; done)); simp only [Act.put, List.setIfInBounds_toArray, List.set_cons_zero, List.set_cons_succ])
    | (refine calm_step _ rfl (HKf.out.call ?_) ?_; (focus (intro w'; go_simp; done)); simp only [Act.put, List.setIfInBounds_toArray, List.set_cons_zero, List.set_cons_succ])
  )
  refine calm_nil ?_
  intro W3 hkW3
  have kW3 := kW2.trans hkW3
  have BW3_0 := BW2_0.kept hkW3
  have BW3_1 := BW2_1.kept hkW3
  have BW3_2 := BW2_2.kept hkW3
  clear cW2_0_0 cW2_0_1 cW2_1_0 cW2_1_1 cW2_2_0 cW2_2_1 fW2_0 fW2_1 fW2_2 BW2_0 BW2_1 BW2_2 kW2 hkW3
  have cW3_0_0 : W3.cell? ⟨w.heap.size, 0, none⟩ = some (.int .u64 a0) := BW3_0.cell 0 rfl
  have cW3_0_1 : W3.cell? ⟨w.heap.size, 1, none⟩ = some (.int .u64 a1) := BW3_0.cell 1 rfl
  have fW3_0 := BW3_0.free
  have cW3_1_0 : W3.cell? ⟨w.heap.size + 1, 0, none⟩ = some (.int .u64 b0) := BW3_1.cell 0 rfl
  have cW3_1_1 : W3.cell? ⟨w.heap.size + 1, 1, none⟩ = some (.int .u64 b1) := BW3_1.cell 1 rfl
  have fW3_1 := BW3_1.free
  have cW3_2_0 : W3.cell? ⟨w.heap.size + 1 + 1, 0, none⟩ = some (.int .u64 c0) := BW3_2.cell 0 rfl
  have cW3_2_1 : W3.cell? ⟨w.heap.size + 1 + 1, 1, none⟩ = some (.int .u64 c1) := BW3_2.cell 1 rfl
  have fW3_2 := BW3_2.free
  go_wp2_with fail
  go_ret
  exact ⟨rfl, kW3⟩

theorem wide_rules_E {a b c : Int} (ha : is128 a) (hb : is128 b) (hc : is128 c) (w : World) :
    Calls Try.prog 10 #[E a, E b, E c] w fun e w' => e = .returned (.bool true) ∧ Kept w w' := by
  have im := is128_emod_w
  have h2 := w_Add hb ha
  rw [Int.add_comm b a] at h2
  have h4 := w_Mul hb ha
  rw [Int.mul_comm b a] at h4
  have h6 := w_Mul ha (im (b + c))
  have h8 := (w_Add (im (a * b)) (im (a * c))).to (congrArg E (show (a * b % wP + a * c % wP) % wP = a * ((b + c) % wP) % wP by
    rw [← Int.add_emod, ← Int.mul_add, Int.mul_emod a ((b + c) % wP), Int.emod_emod, ← Int.mul_emod]))
  have h9 := w_Mul (im (a * b)) hc
  have hb' := (w_Mul ha (im (b * c))).to (congrArg E (show a * (b * c % wP) % wP = a * b % wP * c % wP by
    rw [Int.mul_emod a (b * c % wP), Int.emod_emod, ← Int.mul_emod, Int.mul_emod (a * b % wP) c, Int.emod_emod, ← Int.mul_emod, Int.mul_assoc]))
  have hd := w_Add ha (im (-a))
  rw [show (a + -a % wP) % wP = 0 by unfold wP; omega] at hd
  have he := w_Sub (im (a + b)) hb
  rw [show ((a + b) % wP - b) % wP = a % wP by unfold wP; omega] at he
  exact wide_rules_raw _ _ _ _ _ _ _ _ _ _ _ _ _ _ _ _ _ _ _ _ _ _ _ _ wide_Awake (w_Add ha hb) h2 (w_Mul ha hb) h4 (w_Add hb hc) h6 (w_Mul ha hc) h8
    h9 (w_Mul hb hc) hb' (w_Neg ha) hd he (w_Of ha) eql28_self w

theorem elem_of {l : List Int} (hl : l.length = 2) (hw : ∀ z ∈ l, (Lit.int .u64 z).wf = true) : ∃ n, is128 n ∧ Value.agg (l.map (Value.int .u64)).toArray = E n := by
  obtain ⟨a, b, rfl⟩ := arr2 hl
  obtain ⟨h1, h2⟩ := E_of (is64_mk (hw a (by simp))) (is64_mk (hw b (by simp)))
  exact ⟨_, h1, h2.symm⟩

theorem wide_sums_law (a : List Int) (la : a.length = 2) (wa : ∀ z ∈ a, (Lit.int .u64 z).wf = true) (b : List Int) (lb : b.length = 2) (wb : ∀ z ∈ b, (Lit.int .u64 z).wf = true) (w : World) :
    Calls Try.prog 8 #[.agg (a.map (Value.int .u64)).toArray, .agg (b.map (Value.int .u64)).toArray] w fun e w' => e = .returned (.bool true) ∧ Kept w w' := by
  obtain ⟨n, hn, en⟩ := elem_of la wa
  obtain ⟨m, hm, em⟩ := elem_of lb wb
  rw [en, em]
  exact wide_sums_E hn hm w

theorem wide_rules_law (a : List Int) (la : a.length = 2) (wa : ∀ z ∈ a, (Lit.int .u64 z).wf = true) (b : List Int) (lb : b.length = 2) (wb : ∀ z ∈ b, (Lit.int .u64 z).wf = true) (c : List Int) (lc : c.length = 2) (wc : ∀ z ∈ c, (Lit.int .u64 z).wf = true) (w : World) :
    Calls Try.prog 10 #[.agg (a.map (Value.int .u64)).toArray, .agg (b.map (Value.int .u64)).toArray, .agg (c.map (Value.int .u64)).toArray] w fun e w' => e = .returned (.bool true) ∧ Kept w w' := by
  obtain ⟨n, hn, en⟩ := elem_of la wa
  obtain ⟨m, hm, em⟩ := elem_of lb wb
  obtain ⟨k, hk, ek⟩ := elem_of lc wc
  rw [en, em, ek]
  exact wide_rules_E hn hm hk w

end Go.Proofs.Ytnajihlhcdedgaa
