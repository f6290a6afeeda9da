/-
  quant's Check and High, the reference's too: the walks.
-/
import Derived.Test.YtbpmgdneiejhoaaQ1
namespace Go.Proofs.Ytbpmgdneiejhoaa
open Go.RowKit
set_option linter.unusedVariables false
set_option linter.unusedSimpArgs false

set_option maxRecDepth 100000 in
set_option maxHeartbeats 4000000 in
theorem p_High (low step r1 h : Nat) (steps : Int) (hm : floatBits .mul .f64 step (floatOfInt .f64 steps) = some r1) (ha : floatBits .add .f64 low r1 = some h) :
    Pure Try.prog 12 #[.agg #[.float .f64 low, .float .f64 step, .int .u32 steps]] (.float .f64 h) := fun w => by
  have e1 := fun w => run_float_arith (P := Try.prog) w .mul 22 .f64 step (floatOfInt .f64 steps) r1 hm
  have e2 := fun w => run_float_arith (P := Try.prog) w .add 22 .f64 low r1 h ha
  clear hm ha
  go_enter Try.func12, Try.ntmps12
  go_wp2_with fail
  go_ret
  exact ⟨rfl, (Kept.refl w).alloc _⟩

set_option maxRecDepth 100000 in
set_option maxHeartbeats 4000000 in
theorem r_High (low step r1 h : Nat) (steps : Int) (hm : floatBits .mul .f64 step (floatOfInt .f64 steps) = some r1) (ha : floatBits .add .f64 low r1 = some h) :
    Pure Try.prog 31 #[.agg #[.float .f64 low, .float .f64 step, .int .u32 steps]] (.float .f64 h) := fun w => by
  have e1 := fun w => run_float_arith (P := Try.prog) w .mul 22 .f64 step (floatOfInt .f64 steps) r1 hm
  have e2 := fun w => run_float_arith (P := Try.prog) w .add 22 .f64 low r1 h ha
  clear hm ha
  go_enter Try.func31, Try.ntmps31
  go_wp2_with fail
  go_ret
  exact ⟨rfl, (Kept.refl w).alloc _⟩

set_option maxRecDepth 100000 in
set_option maxHeartbeats 4000000 in
theorem p_Check_nl0 (low step : Nat) (steps : Int)  (nl : nan low = true) : Pure Try.prog 26 #[.agg #[.float .f64 low, .float .f64 step, .int .u32 steps]] (.int .i64 28) := fun w => by
  have HN := Lib.hid isNaN_any
  have HF := Lib.hid finite_any
  go_enter Try.func26, Try.ntmps26
  go_wp2_with (first | (go_at_call 27; refine (HN.out _ _).mono ?_; rintro e w' ⟨rfl, rfl⟩) | (go_at_call 32; refine (HF.out _ _).mono ?_; rintro e w' ⟨rfl, rfl⟩))
  go_ret
  exact ⟨rfl, (Kept.refl w).alloc _⟩

set_option maxRecDepth 100000 in
set_option maxHeartbeats 4000000 in
theorem p_Check_ns0 (low step : Nat) (steps : Int) (nl : nan low = false) (ns : nan step = true) : Pure Try.prog 26 #[.agg #[.float .f64 low, .float .f64 step, .int .u32 steps]] (.int .i64 28) := fun w => by
  have HN := Lib.hid isNaN_any
  have HF := Lib.hid finite_any
  go_enter Try.func26, Try.ntmps26
  go_wp2_with (first | (go_at_call 27; refine (HN.out _ _).mono ?_; rintro e w' ⟨rfl, rfl⟩) | (go_at_call 32; refine (HF.out _ _).mono ?_; rintro e w' ⟨rfl, rfl⟩))
  go_ret
  exact ⟨rfl, (Kept.refl w).alloc _⟩

set_option maxRecDepth 100000 in
set_option maxHeartbeats 4000000 in
theorem p_Check_fl0 (low step : Nat) (steps : Int) (nl : nan low = false) (ns : nan step = false) (fl : finP low = false) : Pure Try.prog 26 #[.agg #[.float .f64 low, .float .f64 step, .int .u32 steps]] (.int .i64 6) := fun w => by
  have HN := Lib.hid isNaN_any
  have HF := Lib.hid finite_any
  go_enter Try.func26, Try.ntmps26
  go_wp2_with (first | (go_at_call 27; refine (HN.out _ _).mono ?_; rintro e w' ⟨rfl, rfl⟩) | (go_at_call 32; refine (HF.out _ _).mono ?_; rintro e w' ⟨rfl, rfl⟩))
  go_ret
  exact ⟨rfl, (Kept.refl w).alloc _⟩

set_option maxRecDepth 100000 in
set_option maxHeartbeats 4000000 in
theorem p_Check_fs0 (low step : Nat) (steps : Int) (nl : nan low = false) (ns : nan step = false) (fl : finP low = true) (fs : finP step = false) : Pure Try.prog 26 #[.agg #[.float .f64 low, .float .f64 step, .int .u32 steps]] (.int .i64 6) := fun w => by
  have HN := Lib.hid isNaN_any
  have HF := Lib.hid finite_any
  go_enter Try.func26, Try.ntmps26
  go_wp2_with (first | (go_at_call 27; refine (HN.out _ _).mono ?_; rintro e w' ⟨rfl, rfl⟩) | (go_at_call 32; refine (HF.out _ _).mono ?_; rintro e w' ⟨rfl, rfl⟩))
  go_ret
  exact ⟨rfl, (Kept.refl w).alloc _⟩

set_option maxRecDepth 100000 in
set_option maxHeartbeats 4000000 in
theorem p_Check_o0 (low step : Nat) (steps : Int) (nl : nan low = false) (ns : nan step = false) (fl : finP low = true) (fs : finP step = true) (o : FloatKind.f64.format.order step 0 = some .lt) : Pure Try.prog 26 #[.agg #[.float .f64 low, .float .f64 step, .int .u32 steps]] (.int .i64 6) := fun w => by
  have HN := Lib.hid isNaN_any
  have HF := Lib.hid finite_any
  go_enter Try.func26, Try.ntmps26
  go_wp2_with (first | (go_at_call 27; refine (HN.out _ _).mono ?_; rintro e w' ⟨rfl, rfl⟩) | (go_at_call 32; refine (HF.out _ _).mono ?_; rintro e w' ⟨rfl, rfl⟩))
  go_ret
  exact ⟨rfl, (Kept.refl w).alloc _⟩

set_option maxRecDepth 100000 in
set_option maxHeartbeats 4000000 in
theorem p_Check_o1 (low step : Nat) (steps : Int) (nl : nan low = false) (ns : nan step = false) (fl : finP low = true) (fs : finP step = true) (o : FloatKind.f64.format.order step 0 = some .eq) : Pure Try.prog 26 #[.agg #[.float .f64 low, .float .f64 step, .int .u32 steps]] (.int .i64 6) := fun w => by
  have HN := Lib.hid isNaN_any
  have HF := Lib.hid finite_any
  go_enter Try.func26, Try.ntmps26
  go_wp2_with (first | (go_at_call 27; refine (HN.out _ _).mono ?_; rintro e w' ⟨rfl, rfl⟩) | (go_at_call 32; refine (HF.out _ _).mono ?_; rintro e w' ⟨rfl, rfl⟩))
  go_ret
  exact ⟨rfl, (Kept.refl w).alloc _⟩

set_option maxRecDepth 100000 in
set_option maxHeartbeats 4000000 in
theorem p_Check_s10 (low step : Nat) (steps : Int) (nl : nan low = false) (ns : nan step = false) (fl : finP low = true) (fs : finP step = true) (o : FloatKind.f64.format.order step 0 = some .gt) (s1 : decide (steps < 1) = true) : Pure Try.prog 26 #[.agg #[.float .f64 low, .float .f64 step, .int .u32 steps]] (.int .i64 6) := fun w => by
  have HN := Lib.hid isNaN_any
  have HF := Lib.hid finite_any
  go_enter Try.func26, Try.ntmps26
  go_wp2_with (first | (go_at_call 27; refine (HN.out _ _).mono ?_; rintro e w' ⟨rfl, rfl⟩) | (go_at_call 32; refine (HF.out _ _).mono ?_; rintro e w' ⟨rfl, rfl⟩))
  go_ret
  exact ⟨rfl, (Kept.refl w).alloc _⟩

set_option maxRecDepth 100000 in
set_option maxHeartbeats 4000000 in
theorem p_Check_s20 (low step : Nat) (steps : Int) (nl : nan low = false) (ns : nan step = false) (fl : finP low = true) (fs : finP step = true) (o : FloatKind.f64.format.order step 0 = some .gt) (s1 : decide (steps < 1) = false) (s2 : decide (1073741824 < steps) = true) : Pure Try.prog 26 #[.agg #[.float .f64 low, .float .f64 step, .int .u32 steps]] (.int .i64 6) := fun w => by
  have HN := Lib.hid isNaN_any
  have HF := Lib.hid finite_any
  go_enter Try.func26, Try.ntmps26
  go_wp2_with (first | (go_at_call 27; refine (HN.out _ _).mono ?_; rintro e w' ⟨rfl, rfl⟩) | (go_at_call 32; refine (HF.out _ _).mono ?_; rintro e w' ⟨rfl, rfl⟩))
  go_ret
  exact ⟨rfl, (Kept.refl w).alloc _⟩

set_option maxRecDepth 100000 in
set_option maxHeartbeats 4000000 in
theorem p_Check_h0 (low step h : Nat) (steps : Int) (nl : nan low = false) (ns : nan step = false) (fl : finP low = true) (fs : finP step = true) (o : FloatKind.f64.format.order step 0 = some .gt) (s1 : decide (steps < 1) = false) (s2 : decide (1073741824 < steps) = false) (HH : Hid (Pure Try.prog 12 #[.agg #[.float .f64 low, .float .f64 step, .int .u32 steps]] (.float .f64 h))) (fh : finP h = false) : Pure Try.prog 26 #[.agg #[.float .f64 low, .float .f64 step, .int .u32 steps]] (.int .i64 6) := fun w => by
  have HN := Lib.hid isNaN_any
  have HF := Lib.hid finite_any
  go_enter Try.func26, Try.ntmps26
  go_wp2_with (first | (go_at_call 27; refine (HN.out _ _).mono ?_; rintro e w' ⟨rfl, rfl⟩) | (go_at_call 32; refine (HF.out _ _).mono ?_; rintro e w' ⟨rfl, rfl⟩) | (go_at_call 12; refine (HH.out _).mono ?_; rintro e w1 ⟨rfl, hk1⟩))
  go_ret
  exact ⟨rfl, ((Kept.refl w).alloc _).trans hk1⟩

set_option maxRecDepth 100000 in
set_option maxHeartbeats 4000000 in
theorem p_Check_h1 (low step h : Nat) (steps : Int) (nl : nan low = false) (ns : nan step = false) (fl : finP low = true) (fs : finP step = true) (o : FloatKind.f64.format.order step 0 = some .gt) (s1 : decide (steps < 1) = false) (s2 : decide (1073741824 < steps) = false) (HH : Hid (Pure Try.prog 12 #[.agg #[.float .f64 low, .float .f64 step, .int .u32 steps]] (.float .f64 h))) (fh : finP h = true) : Pure Try.prog 26 #[.agg #[.float .f64 low, .float .f64 step, .int .u32 steps]] (.int .i64 0) := fun w => by
  have HN := Lib.hid isNaN_any
  have HF := Lib.hid finite_any
  go_enter Try.func26, Try.ntmps26
  go_wp2_with (first | (go_at_call 27; refine (HN.out _ _).mono ?_; rintro e w' ⟨rfl, rfl⟩) | (go_at_call 32; refine (HF.out _ _).mono ?_; rintro e w' ⟨rfl, rfl⟩) | (go_at_call 12; refine (HH.out _).mono ?_; rintro e w1 ⟨rfl, hk1⟩))
  go_ret
  exact ⟨rfl, ((Kept.refl w).alloc _).trans hk1⟩

set_option maxRecDepth 100000 in
set_option maxHeartbeats 4000000 in
theorem r_Check_nl0 (low step : Nat) (steps : Int)  (nl : nan low = true) : Pure Try.prog 24 #[.agg #[.float .f64 low, .float .f64 step, .int .u32 steps]] (.int .i64 28) := fun w => by
  have HN := Lib.hid none_any
  have HF := Lib.hid far_any
  go_enter Try.func24, Try.ntmps24
  go_wp2_with (first | (go_at_call 25; refine (HN.out _ _).mono ?_; rintro e w' ⟨rfl, rfl⟩) | (go_at_call 30; refine (HF.out _ _).mono ?_; rintro e w' ⟨rfl, rfl⟩))
  go_ret
  exact ⟨rfl, (Kept.refl w).alloc _⟩

set_option maxRecDepth 100000 in
set_option maxHeartbeats 4000000 in
theorem r_Check_ns0 (low step : Nat) (steps : Int) (nl : nan low = false) (ns : nan step = true) : Pure Try.prog 24 #[.agg #[.float .f64 low, .float .f64 step, .int .u32 steps]] (.int .i64 28) := fun w => by
  have HN := Lib.hid none_any
  have HF := Lib.hid far_any
  go_enter Try.func24, Try.ntmps24
  go_wp2_with (first | (go_at_call 25; refine (HN.out _ _).mono ?_; rintro e w' ⟨rfl, rfl⟩) | (go_at_call 30; refine (HF.out _ _).mono ?_; rintro e w' ⟨rfl, rfl⟩))
  go_ret
  exact ⟨rfl, (Kept.refl w).alloc _⟩

set_option maxRecDepth 100000 in
set_option maxHeartbeats 4000000 in
theorem r_Check_fl0 (low step : Nat) (steps : Int) (nl : nan low = false) (ns : nan step = false) (fl : farR low = true) : Pure Try.prog 24 #[.agg #[.float .f64 low, .float .f64 step, .int .u32 steps]] (.int .i64 6) := fun w => by
  have HN := Lib.hid none_any
  have HF := Lib.hid far_any
  go_enter Try.func24, Try.ntmps24
  go_wp2_with (first | (go_at_call 25; refine (HN.out _ _).mono ?_; rintro e w' ⟨rfl, rfl⟩) | (go_at_call 30; refine (HF.out _ _).mono ?_; rintro e w' ⟨rfl, rfl⟩))
  go_ret
  exact ⟨rfl, (Kept.refl w).alloc _⟩

set_option maxRecDepth 100000 in
set_option maxHeartbeats 4000000 in
theorem r_Check_fs0 (low step : Nat) (steps : Int) (nl : nan low = false) (ns : nan step = false) (fl : farR low = false) (fs : farR step = true) : Pure Try.prog 24 #[.agg #[.float .f64 low, .float .f64 step, .int .u32 steps]] (.int .i64 6) := fun w => by
  have HN := Lib.hid none_any
  have HF := Lib.hid far_any
  go_enter Try.func24, Try.ntmps24
  go_wp2_with (first | (go_at_call 25; refine (HN.out _ _).mono ?_; rintro e w' ⟨rfl, rfl⟩) | (go_at_call 30; refine (HF.out _ _).mono ?_; rintro e w' ⟨rfl, rfl⟩))
  go_ret
  exact ⟨rfl, (Kept.refl w).alloc _⟩

set_option maxRecDepth 100000 in
set_option maxHeartbeats 4000000 in
theorem r_Check_o0 (low step : Nat) (steps : Int) (nl : nan low = false) (ns : nan step = false) (fl : farR low = false) (fs : farR step = false) (o : FloatKind.f64.format.order step 0 = some .lt) : Pure Try.prog 24 #[.agg #[.float .f64 low, .float .f64 step, .int .u32 steps]] (.int .i64 6) := fun w => by
  have HN := Lib.hid none_any
  have HF := Lib.hid far_any
  go_enter Try.func24, Try.ntmps24
  go_wp2_with (first | (go_at_call 25; refine (HN.out _ _).mono ?_; rintro e w' ⟨rfl, rfl⟩) | (go_at_call 30; refine (HF.out _ _).mono ?_; rintro e w' ⟨rfl, rfl⟩))
  go_ret
  exact ⟨rfl, (Kept.refl w).alloc _⟩

set_option maxRecDepth 100000 in
set_option maxHeartbeats 4000000 in
theorem r_Check_o1 (low step : Nat) (steps : Int) (nl : nan low = false) (ns : nan step = false) (fl : farR low = false) (fs : farR step = false) (o : FloatKind.f64.format.order step 0 = some .eq) : Pure Try.prog 24 #[.agg #[.float .f64 low, .float .f64 step, .int .u32 steps]] (.int .i64 6) := fun w => by
  have HN := Lib.hid none_any
  have HF := Lib.hid far_any
  go_enter Try.func24, Try.ntmps24
  go_wp2_with (first | (go_at_call 25; refine (HN.out _ _).mono ?_; rintro e w' ⟨rfl, rfl⟩) | (go_at_call 30; refine (HF.out _ _).mono ?_; rintro e w' ⟨rfl, rfl⟩))
  go_ret
  exact ⟨rfl, (Kept.refl w).alloc _⟩

set_option maxRecDepth 100000 in
set_option maxHeartbeats 4000000 in
theorem r_Check_s10 (low step : Nat) (steps : Int) (nl : nan low = false) (ns : nan step = false) (fl : farR low = false) (fs : farR step = false) (o : FloatKind.f64.format.order step 0 = some .gt) (s1 : (steps == 0) = true) : Pure Try.prog 24 #[.agg #[.float .f64 low, .float .f64 step, .int .u32 steps]] (.int .i64 6) := fun w => by
  have HN := Lib.hid none_any
  have HF := Lib.hid far_any
  go_enter Try.func24, Try.ntmps24
  go_wp2_with (first | (go_at_call 25; refine (HN.out _ _).mono ?_; rintro e w' ⟨rfl, rfl⟩) | (go_at_call 30; refine (HF.out _ _).mono ?_; rintro e w' ⟨rfl, rfl⟩))
  go_ret
  exact ⟨rfl, (Kept.refl w).alloc _⟩

set_option maxRecDepth 100000 in
set_option maxHeartbeats 4000000 in
theorem r_Check_s20 (low step : Nat) (steps : Int) (nl : nan low = false) (ns : nan step = false) (fl : farR low = false) (fs : farR step = false) (o : FloatKind.f64.format.order step 0 = some .gt) (s1 : (steps == 0) = false) (s2 : decide (1073741824 < steps) = true) : Pure Try.prog 24 #[.agg #[.float .f64 low, .float .f64 step, .int .u32 steps]] (.int .i64 6) := fun w => by
  have HN := Lib.hid none_any
  have HF := Lib.hid far_any
  go_enter Try.func24, Try.ntmps24
  go_wp2_with (first | (go_at_call 25; refine (HN.out _ _).mono ?_; rintro e w' ⟨rfl, rfl⟩) | (go_at_call 30; refine (HF.out _ _).mono ?_; rintro e w' ⟨rfl, rfl⟩))
  go_ret
  exact ⟨rfl, (Kept.refl w).alloc _⟩

set_option maxRecDepth 100000 in
set_option maxHeartbeats 4000000 in
theorem r_Check_h0 (low step h : Nat) (steps : Int) (nl : nan low = false) (ns : nan step = false) (fl : farR low = false) (fs : farR step = false) (o : FloatKind.f64.format.order step 0 = some .gt) (s1 : (steps == 0) = false) (s2 : decide (1073741824 < steps) = false) (HH : Hid (Pure Try.prog 31 #[.agg #[.float .f64 low, .float .f64 step, .int .u32 steps]] (.float .f64 h))) (nh : nan h = false) (fh : farR h = true) : Pure Try.prog 24 #[.agg #[.float .f64 low, .float .f64 step, .int .u32 steps]] (.int .i64 6) := fun w => by
  have HN := Lib.hid none_any
  have HF := Lib.hid far_any
  go_enter Try.func24, Try.ntmps24
  go_wp2_with (first | (go_at_call 25; refine (HN.out _ _).mono ?_; rintro e w' ⟨rfl, rfl⟩) | (go_at_call 30; refine (HF.out _ _).mono ?_; rintro e w' ⟨rfl, rfl⟩) | (go_at_call 31; refine (HH.out _).mono ?_; rintro e w1 ⟨rfl, hk1⟩))
  go_ret
  exact ⟨rfl, ((Kept.refl w).alloc _).trans hk1⟩

set_option maxRecDepth 100000 in
set_option maxHeartbeats 4000000 in
theorem r_Check_h1 (low step h : Nat) (steps : Int) (nl : nan low = false) (ns : nan step = false) (fl : farR low = false) (fs : farR step = false) (o : FloatKind.f64.format.order step 0 = some .gt) (s1 : (steps == 0) = false) (s2 : decide (1073741824 < steps) = false) (HH : Hid (Pure Try.prog 31 #[.agg #[.float .f64 low, .float .f64 step, .int .u32 steps]] (.float .f64 h))) (nh : nan h = false) (fh : farR h = false) : Pure Try.prog 24 #[.agg #[.float .f64 low, .float .f64 step, .int .u32 steps]] (.int .i64 0) := fun w => by
  have HN := Lib.hid none_any
  have HF := Lib.hid far_any
  go_enter Try.func24, Try.ntmps24
  go_wp2_with (first | (go_at_call 25; refine (HN.out _ _).mono ?_; rintro e w' ⟨rfl, rfl⟩) | (go_at_call 30; refine (HF.out _ _).mono ?_; rintro e w' ⟨rfl, rfl⟩) | (go_at_call 31; refine (HH.out _).mono ?_; rintro e w1 ⟨rfl, hk1⟩))
  go_ret
  exact ⟨rfl, ((Kept.refl w).alloc _).trans hk1⟩

end Go.Proofs.Ytbpmgdneiejhoaa
