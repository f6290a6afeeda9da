/-
  The walks of quant: Number, of a law's scales; math.Inf.
-/
import Derived.Test.YtbpmgdneiejhoaaQ8
namespace Go.Proofs.Ytbpmgdneiejhoaa
open Go.RowKit
set_option linter.unusedVariables false
set_option linter.unusedSimpArgs false
attribute [local go_sem] run_store_float

set_option maxRecDepth 100000 in
set_option maxHeartbeats 4000000 in
theorem clean_zero (y : Nat) (hz : (FloatKind.f64.format.order y 0 == some .eq) = true) : Gives 29 #[.float .f64 y] (.float .f64 0) := fun w => by
  simp only [beq_iff_eq] at hz
  go_enter Try.func29, Try.ntmps29
  go_wp2_with fail
  go_ret
  exact ⟨rfl, rfl⟩

set_option maxRecDepth 100000 in
set_option maxHeartbeats 4000000 in
theorem clean_some (y : Nat) (hz : (FloatKind.f64.format.order y 0 == some .eq) = false) : Gives 29 #[.float .f64 y] (.float .f64 y) := fun w => by

  go_enter Try.func29, Try.ntmps29
  go_wp2_with fail
  go_ret
  exact ⟨rfl, rfl⟩

def cleanV (y : Nat) : Nat := if FloatKind.f64.format.order y 0 == some .eq then 0 else y
theorem clean_any (y : Nat) : Gives 29 #[.float .f64 y] (.float .f64 (cleanV y)) := by
  unfold cleanV
  cases h : FloatKind.f64.format.order y 0 == some .eq
  · exact clean_some y h
  · exact clean_zero y h

set_option maxRecDepth 100000 in
set_option maxHeartbeats 4000000 in
theorem p_Number (low step r1 y : Nat) (steps n : Int) (HC : Hid (Pure Try.prog 26 #[.agg #[.float .f64 low, .float .f64 step, .int .u32 steps]] (.int .i64 0))) (hn : decide (steps < n) = false)
    (hm : floatBits .mul .f64 step (floatOfInt .f64 n) = some r1) (ha : floatBits .add .f64 low r1 = some y) :
    Pure Try.prog 14 #[.agg #[.float .f64 low, .float .f64 step, .int .u32 steps], .int .u32 n] (.tuple #[.float .f64 (cleanV y), .int .i64 0]) := fun w => by
  have HL := Lib.hid clean_any
  have e1 := fun w => run_float_arith (P := Try.prog) w .mul 22 .f64 step (floatOfInt .f64 n) r1 hm
  have e2 := fun w => run_float_arith (P := Try.prog) w .add 22 .f64 low r1 y ha
  clear hm ha
  go_enter Try.func14, Try.ntmps14
  go_wp2_with fail
  refine (HC.out _).mono ?_
  rintro e w1 ⟨rfl, hk1⟩
  have k1 : Kept w w1 := ((Kept.refl w).alloc _).trans hk1
  have B : Blk w1 w.heap.size 25 #[.float .f64 low, .float .f64 step, .int .u32 steps] := (Blk.new w _ _).kept hk1
  have c0 := B.cell 0 rfl
  have c1 := B.cell 1 rfl
  have c2 := B.cell 2 rfl
  clear hk1 B
  go_wp2_with (go_at_call 29; refine (HL.out _ _).mono ?_; rintro e w' ⟨rfl, rfl⟩)
  go_ret2
  exact ⟨rfl, k1⟩

set_option maxRecDepth 100000 in
set_option maxHeartbeats 4000000 in
theorem law_Scale (l s k : Int) (a0 b0 b1 : Nat) (p q : Int) (hs : (IntKind.u16.wrap s).tmod 64 = p) (hp0 : 0 ≤ p) (hp1 : p ≤ 63) (hq : IntKind.u16.wrap k = q) (hq0 : 0 ≤ q) (hq1 : q ≤ 65535)
    (h1 : floatBits .quo .f64 (floatOfInt .f64 l) 4620693217682128896 = some a0)
    (h2 : floatBits .add .f64 4607182418800017408 (floatOfInt .f64 p) = some b0)
    (h3 : floatBits .quo .f64 b0 4625196817309499392 = some b1) :
    Pure Try.prog 8 #[.agg #[.int .i16 l, .int .i16 s, .int .i16 k]] (.agg #[.float .f64 a0, .float .f64 b1, .int .u32 (1 + q)]) := fun w => by
  have e1 := fun w => run_float_arith (P := Try.prog) w .quo 22 .f64 (floatOfInt .f64 l) 4620693217682128896 a0 h1
  have e2 := fun w => run_float_arith (P := Try.prog) w .add 22 .f64 4607182418800017408 (floatOfInt .f64 p) b0 h2
  have e3 := fun w => run_float_arith (P := Try.prog) w .quo 22 .f64 b0 4625196817309499392 b1 h3
  clear h1 h2 h3
  go_enter Try.func8, Try.ntmps8
  go_wp2_with fail
  refine bodyPost_ret (v := .agg #[.float .f64 a0, .float .f64 b1, .int .u32 (1 + q)]) (by simp [results, Try.results8, go_sem]) rfl ⟨rfl, ?_⟩
  exact (((Kept.refl w).alloc _).alloc _)

set_option maxRecDepth 100000 in
set_option maxHeartbeats 4000000 in
theorem inf_pos : Gives 16 #[.int .i64 1] (.float .f64 9218868437227405312) := fun w => by
  have hf := run_frombits 9218868437227405312
  go_enter Try.func16, Try.ntmps16
  go_wp2_with fail
  go_ret
  exact ⟨rfl, rfl⟩
set_option maxRecDepth 100000 in
set_option maxHeartbeats 4000000 in
theorem inf_neg : Gives 16 #[.int .i64 (-1)] (.float .f64 18442240474082181120) := fun w => by
  have hf := run_frombits 18442240474082181120
  go_enter Try.func16, Try.ntmps16
  go_wp2_with fail
  go_ret
  exact ⟨rfl, rfl⟩
end Go.Proofs.Ytbpmgdneiejhoaa
