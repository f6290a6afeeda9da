/-
  WideSums: for every two elements the law returns true.
  Conditions: none.
-/
import Derived.Test.YtnajihlhcdedgaaW6
namespace Go.Proofs.Ytnajihlhcdedgaa
open Go.RowKit
set_option linter.unusedVariables false
set_option linter.unusedSimpArgs false
attribute [local simp] blkAt_setCell blkAt_alloc blkAt_drew Obj.put_cells

theorem isMakerS5 : isMaker Try.prog { dst := some 5, op := Op.alloc 28, type := 28, pos := "law.go:20", after := #[], guard := none } (fun b => .pointer (some ⟨b, 0, none⟩), .cells #[.int .u64 0, .int .u64 0] 28) :=
  ⟨rfl, fun a w => by go_simp⟩
theorem isMakerS6 : isMaker Try.prog { dst := some 6, op := Op.alloc 28, type := 28, pos := "law.go:20", after := #[], guard := none } (fun b => .pointer (some ⟨b, 0, none⟩), .cells #[.int .u64 0, .int .u64 0] 28) :=
  ⟨rfl, fun a w => by go_simp⟩

set_option maxRecDepth 100000 in
set_option maxHeartbeats 4000000 in
theorem wide_Awake_raw (hM : Pure Try.prog 53 #[.agg #[.int .u64 0, .int .u64 9223372036854775808], .agg #[.int .u64 2, .int .u64 0]] (.agg #[.int .u64 18446744073709551615, .int .u64 27])) (hs : ∀ s t w, (binOp .eql 28 (.agg #[.int .u64 s, .int .u64 t]) (.agg #[.int .u64 s, .int .u64 t])).run Try.prog w = .ok (.bool true) w) :
    Pure Try.prog 47 #[] (.bool true) := fun w => by
  have HM := Lib.hid hM
  clear hM
  go_enter Try.func47, Try.ntmps47
  go_wp2_with fail
  refine (HM.out _).mono ?_
  rintro e w' ⟨rfl, hk⟩
  go_wp2_with fail
  go_ret
  exact ⟨rfl, hk⟩

theorem eql28_self (s t : Int) (w : World) : (binOp .eql 28 (.agg #[.int .u64 s, .int .u64 t]) (.agg #[.int .u64 s, .int .u64 t])).run Try.prog w = .ok (.bool true) w := by rw [run_eql28]; simp

theorem wide_Awake : Pure Try.prog 47 #[] (.bool true) :=
  wide_Awake_raw (by
    have := w_Mul (a := 170141183460469231731687303715884105728) (b := 2) (by unfold is128; omega) (by unfold is128; omega)
    rw [show (170141183460469231731687303715884105728 * 2 : Int) % wP = 516508834063867445247 by unfold wP; omega] at this
    exact this) eql28_self

set_option maxRecDepth 100000 in
set_option maxHeartbeats 4000000 in
theorem wide_sums_raw (a0 a1 b0 b1 x0 x1 y0 y1 s0 s1 d0 d1 n0 n1 m0 m1 : Int) (c : Bool)
    (hK : Pure Try.prog 47 #[] (.bool true))
    (hOa : Pure Try.prog 32 #[.int .i64 2, .agg #[.int .u64 a0, .int .u64 a1]] (.agg #[.int .u64 x0, .int .u64 x1]))
    (hOb : Pure Try.prog 32 #[.int .i64 2, .agg #[.int .u64 b0, .int .u64 b1]] (.agg #[.int .u64 y0, .int .u64 y1]))
    (hOf : Pure Try.prog 48 #[.agg #[.int .u64 a0, .int .u64 a1]] (.agg #[.int .u64 x0, .int .u64 x1])) (hIn : Pure Try.prog 49 #[.agg #[.int .u64 a0, .int .u64 a1]] (.bool c))
    (hAd : Pure Try.prog 50 #[.agg #[.int .u64 a0, .int .u64 a1], .agg #[.int .u64 b0, .int .u64 b1]] (.agg #[.int .u64 s0, .int .u64 s1])) (hSu : Pure Try.prog 51 #[.agg #[.int .u64 a0, .int .u64 a1], .agg #[.int .u64 b0, .int .u64 b1]] (.agg #[.int .u64 d0, .int .u64 d1]))
    (hNe : Pure Try.prog 52 #[.agg #[.int .u64 a0, .int .u64 a1]] (.agg #[.int .u64 n0, .int .u64 n1])) (hMu : Pure Try.prog 53 #[.agg #[.int .u64 a0, .int .u64 a1], .agg #[.int .u64 b0, .int .u64 b1]] (.agg #[.int .u64 m0, .int .u64 m1]))
    (hRa : Pure Try.prog 35 #[.int .i64 2, .agg #[.int .u64 x0, .int .u64 x1], .agg #[.int .u64 y0, .int .u64 y1]] (.agg #[.int .u64 s0, .int .u64 s1]))
    (hRs : Pure Try.prog 36 #[.int .i64 2, .agg #[.int .u64 x0, .int .u64 x1], .agg #[.int .u64 y0, .int .u64 y1]] (.agg #[.int .u64 d0, .int .u64 d1]))
    (hRn : Pure Try.prog 37 #[.int .i64 2, .agg #[.int .u64 x0, .int .u64 x1]] (.agg #[.int .u64 n0, .int .u64 n1]))
    (hRm : Pure Try.prog 38 #[.int .i64 2, .agg #[.int .u64 x0, .int .u64 x1], .agg #[.int .u64 y0, .int .u64 y1]] (.agg #[.int .u64 m0, .int .u64 m1]))
    (hq : ∀ w, (binOp .eql 28 (.agg #[.int .u64 x0, .int .u64 x1]) (.agg #[.int .u64 a0, .int .u64 a1])).run Try.prog w = .ok (.bool c) w)
    (hs : ∀ s t w, (binOp .eql 28 (.agg #[.int .u64 s, .int .u64 t]) (.agg #[.int .u64 s, .int .u64 t])).run Try.prog w = .ok (.bool true) w)
    (w : World) : Calls Try.prog 8 #[.agg #[.int .u64 a0, .int .u64 a1], .agg #[.int .u64 b0, .int .u64 b1]] w fun e w' => e = .returned (.bool true) ∧ Kept w w' := by
  have HK := Lib.hid hK
  have HOa := Lib.hid hOa
  have HOb := Lib.hid hOb
  have HOf := Lib.hid hOf
  have HIn := Lib.hid hIn
  have HAd := Lib.hid hAd
  have HSu := Lib.hid hSu
  have HNe := Lib.hid hNe
  have HMu := Lib.hid hMu
  have HRa := Lib.hid hRa
  have HRs := Lib.hid hRs
  have HRn := Lib.hid hRn
  have HRm := Lib.hid hRm
  clear hK hOa hOb hOf hIn hAd hSu hNe hMu hRa hRs hRn hRm
  go_enter Try.func8, Try.ntmps8
  go_wp2_with fail
  refine abs_calls (fun W => Kept w W ∧ Blk W (w.heap.size) 28 #[.int .u64 a0, .int .u64 a1] ∧ Blk W (w.heap.size + 1) 28 #[.int .u64 b0, .int .u64 b1]) ?_ ?_
  · refine ⟨?_, ?_, ?_⟩
    · repeat (first | exact Kept.refl _ | (refine Kept.setCell ?_ (kept_side (by first | assumption | omega)) _) | apply Kept.alloc | apply Kept.drew)
    · simp [Blk, *] <;> (intros; omega)
    · simp [Blk, *] <;> (intros; omega)
  rintro W1 ⟨kW1, BW1_0, BW1_1⟩
  have cW1_0_0 : W1.cell? ⟨w.heap.size, 0, none⟩ = some (.int .u64 a0) := BW1_0.cell 0 rfl
  have cW1_0_1 : W1.cell? ⟨w.heap.size, 1, none⟩ = some (.int .u64 a1) := BW1_0.cell 1 rfl
  have fW1_0 := BW1_0.free
  have cW1_1_0 : W1.cell? ⟨w.heap.size + 1, 0, none⟩ = some (.int .u64 b0) := BW1_1.cell 0 rfl
  have cW1_1_1 : W1.cell? ⟨w.heap.size + 1, 1, none⟩ = some (.int .u64 b1) := BW1_1.cell 1 rfl
  have fW1_1 := BW1_1.free
  refine (HK.out _).mono ?_
  rintro e W2 ⟨rfl, hkW2⟩
  have kW2 := kW1.trans hkW2
  have BW2_0 := BW1_0.kept hkW2
  have BW2_1 := BW1_1.kept hkW2
  clear cW1_0_0 cW1_0_1 cW1_1_0 cW1_1_1 fW1_0 fW1_1 BW1_0 BW1_1 kW1 hkW2
  have cW2_0_0 : W2.cell? ⟨w.heap.size, 0, none⟩ = some (.int .u64 a0) := BW2_0.cell 0 rfl
  have cW2_0_1 : W2.cell? ⟨w.heap.size, 1, none⟩ = some (.int .u64 a1) := BW2_0.cell 1 rfl
  have fW2_0 := BW2_0.free
  have cW2_1_0 : W2.cell? ⟨w.heap.size + 1, 0, none⟩ = some (.int .u64 b0) := BW2_1.cell 0 rfl
  have cW2_1_1 : W2.cell? ⟨w.heap.size + 1, 1, none⟩ = some (.int .u64 b1) := BW2_1.cell 1 rfl
  have fW2_1 := BW2_1.free
  go_wp2_with fail
  refine wp_region_calm2 4 _ _ _ _ (by kernel_rfl) (by kernel_rfl) rfl rfl isMakerS5 isMakerS6 (by rintro d ⟨⟩; decide) (by kernel_rfl) (by kernel_rfl) (by kernel_rfl) ?_
  simp only [List.take_succ_cons, List.take_zero, List.drop_succ_cons, List.drop_zero]
  repeat (first
    | (refine calm_skip rfl ?_; simp only [Act.put, List.setIfInBounds_toArray, List.set_cons_zero, List.set_cons_succ])
    | (refine calm_ex rfl ?_; apply Exists.intro; refine And.intro (fun w' hk => ?_) ?_; (focus (have q0 := hk.cell cW2_0_0; have q1 := hk.cell cW2_0_1; have q2 := hk.cell cW2_1_0; have q3 := hk.cell cW2_1_1; clear hk; go_simp; exact rfl)); simp only [Act.put, List.setIfInBounds_toArray, List.set_cons_zero, List.set_cons_succ])
    | (refine calm_step _ rfl (HOa.out.call ?_) ?_; (focus (intro w'; go_simp; done)); simp only [Act.put, List.setIfInBounds_toArray, List.set_cons_zero, List.set_cons_succ])
    | (refine calm_step _ rfl (HOb.out.call ?_) ?_; (focus (intro w'; go_simp; done)); simp only [Act.put, List.setIfInBounds_toArray, List.set_cons_zero, List.set_cons_succ]))
  refine calm_nil ?_
  intro W3 b5 b6 hkW3 hlo5 hlo6 hne56 hat5 hat6
  simp only [Act.put, List.setIfInBounds_toArray, List.set_cons_zero, List.set_cons_succ]
  have neb5_0 : w.heap.size ≠ b5 := by have := BW2_0.lt; omega
  have enb5_0 : b5 ≠ w.heap.size := neb5_0.symm
  have neb5_1 : w.heap.size + 1 ≠ b5 := by have := BW2_1.lt; omega
  have enb5_1 : b5 ≠ w.heap.size + 1 := neb5_1.symm
  have lob5 : w.heap.size ≤ b5 := Nat.le_trans kW2.size hlo5
  have neb6_0 : w.heap.size ≠ b6 := by have := BW2_0.lt; omega
  have enb6_0 : b6 ≠ w.heap.size := neb6_0.symm
  have neb6_1 : w.heap.size + 1 ≠ b6 := by have := BW2_1.lt; omega
  have enb6_1 : b6 ≠ w.heap.size + 1 := neb6_1.symm
  have lob6 : w.heap.size ≤ b6 := Nat.le_trans kW2.size hlo6
  have hne65 : b6 ≠ b5 := hne56.symm
  have BW3_2 : Blk W3 (b5) 28 #[.int .u64 0, .int .u64 0] := hat5
  have BW3_3 : Blk W3 (b6) 28 #[.int .u64 0, .int .u64 0] := hat6
  clear hat5 hat6 hlo5 hlo6
  have kW3 := kW2.trans hkW3
  have BW3_0 := BW2_0.kept hkW3
  have BW3_1 := BW2_1.kept hkW3
  clear cW2_0_0 cW2_0_1 cW2_1_0 cW2_1_1 fW2_0 fW2_1 BW2_0 BW2_1 kW2 hkW3
  have cW3_0_0 : W3.cell? ⟨w.heap.size, 0, none⟩ = some (.int .u64 a0) := BW3_0.cell 0 rfl
  have cW3_0_1 : W3.cell? ⟨w.heap.size, 1, none⟩ = some (.int .u64 a1) := BW3_0.cell 1 rfl
  have fW3_0 := BW3_0.free
  have cW3_1_0 : W3.cell? ⟨w.heap.size + 1, 0, none⟩ = some (.int .u64 b0) := BW3_1.cell 0 rfl
  have cW3_1_1 : W3.cell? ⟨w.heap.size + 1, 1, none⟩ = some (.int .u64 b1) := BW3_1.cell 1 rfl
  have fW3_1 := BW3_1.free
  have cW3_2_0 := BW3_2.cell 0 rfl
  have cW3_2_1 := BW3_2.cell 1 rfl
  have fW3_2 := BW3_2.free
  have cW3_3_0 := BW3_3.cell 0 rfl
  have cW3_3_1 := BW3_3.cell 1 rfl
  have fW3_3 := BW3_3.free
  go_wp2_with fail
  refine abs_world (fun W => Kept w W ∧ Blk W (w.heap.size) 28 #[.int .u64 a0, .int .u64 a1] ∧ Blk W (w.heap.size + 1) 28 #[.int .u64 b0, .int .u64 b1] ∧ Blk W (b5) 28 #[.int .u64 x0, .int .u64 x1] ∧ Blk W (b6) 28 #[.int .u64 y0, .int .u64 y1]) ?_ ?_
  · refine ⟨?_, ?_, ?_, ?_, ?_⟩
    · repeat (first | exact kW3 | (refine Kept.setCell ?_ (kept_side (by first | assumption | omega)) _) | apply Kept.alloc | apply Kept.drew)
    · simp [Blk, *] <;> (intros; omega)
    · simp [Blk, *] <;> (intros; omega)
    · simp [Blk, *] <;> (intros; omega)
    · simp [Blk, *] <;> (intros; omega)
  rintro W4 ⟨kW4, BW4_0, BW4_1, BW4_2, BW4_3⟩
  have cW4_0_0 : W4.cell? ⟨w.heap.size, 0, none⟩ = some (.int .u64 a0) := BW4_0.cell 0 rfl
  have cW4_0_1 : W4.cell? ⟨w.heap.size, 1, none⟩ = some (.int .u64 a1) := BW4_0.cell 1 rfl
  have fW4_0 := BW4_0.free
  have cW4_1_0 : W4.cell? ⟨w.heap.size + 1, 0, none⟩ = some (.int .u64 b0) := BW4_1.cell 0 rfl
  have cW4_1_1 : W4.cell? ⟨w.heap.size + 1, 1, none⟩ = some (.int .u64 b1) := BW4_1.cell 1 rfl
  have fW4_1 := BW4_1.free
  have cW4_2_0 : W4.cell? ⟨b5, 0, none⟩ = some (.int .u64 x0) := BW4_2.cell 0 rfl
  have cW4_2_1 : W4.cell? ⟨b5, 1, none⟩ = some (.int .u64 x1) := BW4_2.cell 1 rfl
  have fW4_2 := BW4_2.free
  have cW4_3_0 : W4.cell? ⟨b6, 0, none⟩ = some (.int .u64 y0) := BW4_3.cell 0 rfl
  have cW4_3_1 : W4.cell? ⟨b6, 1, none⟩ = some (.int .u64 y1) := BW4_3.cell 1 rfl
  have fW4_3 := BW4_3.free
  refine wp_region_calm 46 (by kernel_rfl) (by kernel_rfl) ?_
  simp only [List.take_succ_cons, List.take_zero, List.drop_succ_cons, List.drop_zero]
  repeat (first
    | (refine calm_skip rfl ?_; simp only [Act.put, List.setIfInBounds_toArray, List.set_cons_zero, List.set_cons_succ])
    | (refine calm_ex rfl ?_; apply Exists.intro; refine And.intro (fun w' hk => ?_) ?_; (focus (have q0 := hk.cell cW4_0_0; have q1 := hk.cell cW4_0_1; have q2 := hk.cell cW4_1_0; have q3 := hk.cell cW4_1_1; have q4 := hk.cell cW4_2_0; have q5 := hk.cell cW4_2_1; have q6 := hk.cell cW4_3_0; have q7 := hk.cell cW4_3_1; clear hk; go_simp; exact rfl)); simp only [Act.put, List.setIfInBounds_toArray, List.set_cons_zero, List.set_cons_succ])
    | (refine calm_step _ rfl (HOf.out.call ?_) ?_; (focus (intro w'; go_simp; done)); simp only [Act.put, List.setIfInBounds_toArray, List.set_cons_zero, List.set_cons_succ])
    | (refine calm_step _ rfl (HIn.out.call ?_) ?_; (focus (intro w'; go_simp; done)); simp only [Act.put, List.setIfInBounds_toArray, List.set_cons_zero, List.set_cons_succ])
    | (refine calm_step _ rfl (HAd.out.call ?_) ?_; (focus (intro w'; go_simp; done)); simp only [Act.put, List.setIfInBounds_toArray, List.set_cons_zero, List.set_cons_succ])
    | (refine calm_step _ rfl (HSu.out.call ?_) ?_; (focus (intro w'; go_simp; done)); simp only [Act.put, List.setIfInBounds_toArray, List.set_cons_zero, List.set_cons_succ])
    | (refine calm_step _ rfl (HNe.out.call ?_) ?_; (focus (intro w'; go_simp; done)); simp only [Act.put, List.setIfInBounds_toArray, List.set_cons_zero, List.set_cons_succ])
    | (refine calm_step _ rfl (HMu.out.call ?_) ?_; (focus (intro w'; go_simp; done)); simp only [Act.put, List.setIfInBounds_toArray, List.set_cons_zero, List.set_cons_succ])
    | (refine calm_step _ rfl (HRa.out.call ?_) ?_; (focus (intro w'; go_simp; done)); simp only [Act.put, List.setIfInBounds_toArray, List.set_cons_zero, List.set_cons_succ])
    | (refine calm_step _ rfl (HRs.out.call ?_) ?_; (focus (intro w'; go_simp; done)); simp only [Act.put, List.setIfInBounds_toArray, List.set_cons_zero, List.set_cons_succ])
    | (refine calm_step _ rfl (HRn.out.call ?_) ?_; (focus (intro w'; go_simp; done)); simp only [Act.put, List.setIfInBounds_toArray, List.set_cons_zero, List.set_cons_succ])
    | (refine calm_step _ rfl (HRm.out.call ?_) ?_; (focus (intro w'; go_simp; done)); simp only [Act.put, List.setIfInBounds_toArray, List.set_cons_zero, List.set_cons_succ]))
  refine calm_nil ?_
  intro W5 hkW5
  have kW5 := kW4.trans hkW5
  have BW5_0 := BW4_0.kept hkW5
  have BW5_1 := BW4_1.kept hkW5
  have BW5_2 := BW4_2.kept hkW5
  have BW5_3 := BW4_3.kept hkW5
  clear cW4_0_0 cW4_0_1 cW4_1_0 cW4_1_1 cW4_2_0 cW4_2_1 cW4_3_0 cW4_3_1 fW4_0 fW4_1 fW4_2 fW4_3 BW4_0 BW4_1 BW4_2 BW4_3 kW4 hkW5
  have cW5_0_0 : W5.cell? ⟨w.heap.size, 0, none⟩ = some (.int .u64 a0) := BW5_0.cell 0 rfl
  have cW5_0_1 : W5.cell? ⟨w.heap.size, 1, none⟩ = some (.int .u64 a1) := BW5_0.cell 1 rfl
  have fW5_0 := BW5_0.free
  have cW5_1_0 : W5.cell? ⟨w.heap.size + 1, 0, none⟩ = some (.int .u64 b0) := BW5_1.cell 0 rfl
  have cW5_1_1 : W5.cell? ⟨w.heap.size + 1, 1, none⟩ = some (.int .u64 b1) := BW5_1.cell 1 rfl
  have fW5_1 := BW5_1.free
  have cW5_2_0 : W5.cell? ⟨b5, 0, none⟩ = some (.int .u64 x0) := BW5_2.cell 0 rfl
  have cW5_2_1 : W5.cell? ⟨b5, 1, none⟩ = some (.int .u64 x1) := BW5_2.cell 1 rfl
  have fW5_2 := BW5_2.free
  have cW5_3_0 : W5.cell? ⟨b6, 0, none⟩ = some (.int .u64 y0) := BW5_3.cell 0 rfl
  have cW5_3_1 : W5.cell? ⟨b6, 1, none⟩ = some (.int .u64 y1) := BW5_3.cell 1 rfl
  have fW5_3 := BW5_3.free
  go_wp2_with fail
  go_ret
  exact ⟨rfl, kW5⟩

theorem rOf2 (a : Int) : rOf 2 a = a % wP := by unfold rOf; rw [if_neg (by omega)]
theorem rP2 : rP 2 = wP := by unfold rP; rw [if_neg (by omega)]
theorem rO2 {a : Int} (ha : is128 a) : Pure Try.prog 32 #[.int .i64 2, E a] (E (a % wP)) := rOf2 a ▸ ref_Of isF2 ha
theorem r2_mod (x : Int) : x % wP % wP = x % wP := Int.emod_emod _ _

theorem wide_sums_E {a b : Int} (ha : is128 a) (hb : is128 b) (w : World) :
    Calls Try.prog 8 #[E a, E b] w fun e w' => e = .returned (.bool true) ∧ Kept w w' := by
  have hX := is128_emod_w a
  have hY := is128_emod_w b
  have ra := ref_Add isF2 hX hY
  have rs := ref_Sub isF2 hX hY
  have rn := ref_Neg isF2 hX
  have rm := ref_Mul isF2 hX hY
  rw [rOf2, rOf2, rP2, r2_mod, r2_mod, ← Int.add_emod] at ra
  rw [rOf2, rOf2, rP2, r2_mod, r2_mod, ← Int.sub_emod] at rs
  rw [rOf2, rP2, r2_mod, show -(a % wP) % wP = -a % wP by unfold wP; omega] at rn
  rw [rOf2, rOf2, rP2, r2_mod, r2_mod, ← Int.mul_emod] at rm
  have hIn := w_In ha
  refine wide_sums_raw _ _ _ _ _ _ _ _ _ _ _ _ _ _ _ _ _ wide_Awake (rO2 ha) (rO2 hb) (w_Of ha) hIn (w_Add ha hb) (w_Sub ha hb) (w_Neg ha) (w_Mul ha hb) ra rs rn rm ?_ eql28_self w
  intro w
  rw [run_eql28]
  congr 2
  refine decide_eq_decide.2 ?_
  unfold wP is128 at *
  omega

theorem arr2 {l : List Int} (hl : l.length = 2) : ∃ a b, l = [a, b] := by
  match l, hl with
  | [a, b], _ => exact ⟨a, b, rfl⟩
theorem E_of {a b : Int} (ha : is64 a) (hb : is64 b) : is128 (a + b * 18446744073709551616) ∧ E (a + b * 18446744073709551616) = .agg #[.int .u64 a, .int .u64 b] := by
  refine ⟨?_, E_mk ha⟩
  unfold is64 at *; unfold is128; omega

end Go.Proofs.Ytnajihlhcdedgaa
