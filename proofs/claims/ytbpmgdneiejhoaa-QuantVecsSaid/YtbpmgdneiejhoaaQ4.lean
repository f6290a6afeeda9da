/-
  Whole, quant's and the reference's: the walks.
-/
import Derived.Test.YtbpmgdneiejhoaaQ2
import Derived.Test.YtbpmgdneiejhoaaRowF
namespace Go.Proofs.Ytbpmgdneiejhoaa
open Go.RowKit
set_option linter.unusedVariables false
set_option linter.unusedSimpArgs false

set_option maxRecDepth 100000 in
set_option maxHeartbeats 4000000 in
theorem p_Whole_bad (low step x : Nat) (steps c : Int)  (HC : Hid (Pure Try.prog 26 #[.agg #[.float .f64 low, .float .f64 step, .int .u32 steps]] (.int .i64 c))) (hc : (c != 0) = true) :
    Pure Try.prog 13 #[.agg #[.float .f64 low, .float .f64 step, .int .u32 steps], .float .f64 x] (.tuple #[.int .u32 0, .int .i64 c]) := fun w => by
  have HN := Lib.hid isNaN_any

  go_enter Try.func13, Try.ntmps13
  go_wp2_with fail
  refine (HC.out _).mono ?_
  rintro e w1 ⟨rfl, hk1⟩
  have k1 : Kept w w1 := ((Kept.refl w).alloc _).trans hk1
  have B : Blk w1 w.heap.size 25 #[.float .f64 low, .float .f64 step, .int .u32 steps] := (Blk.new w _ _).kept hk1
  have c0 := B.cell 0 rfl
  have c1 := B.cell 1 rfl
  have c2 := B.cell 2 rfl
  clear hk1 B
  go_wp2_with (go_at_call 27; refine (HN.out _ _).mono ?_; rintro e w' ⟨rfl, rfl⟩)
  go_ret2
  exact ⟨rfl, k1⟩

set_option maxRecDepth 100000 in
set_option maxHeartbeats 4000000 in
theorem p_Whole_nan (low step x : Nat) (steps c : Int)  (HC : Hid (Pure Try.prog 26 #[.agg #[.float .f64 low, .float .f64 step, .int .u32 steps]] (.int .i64 c))) (hc : (c != 0) = false) (hx : nan x = true) :
    Pure Try.prog 13 #[.agg #[.float .f64 low, .float .f64 step, .int .u32 steps], .float .f64 x] (.tuple #[.int .u32 0, .int .i64 28]) := fun w => by
  have HN := Lib.hid isNaN_any

  go_enter Try.func13, Try.ntmps13
  go_wp2_with fail
  refine (HC.out _).mono ?_
  rintro e w1 ⟨rfl, hk1⟩
  have k1 : Kept w w1 := ((Kept.refl w).alloc _).trans hk1
  have B : Blk w1 w.heap.size 25 #[.float .f64 low, .float .f64 step, .int .u32 steps] := (Blk.new w _ _).kept hk1
  have c0 := B.cell 0 rfl
  have c1 := B.cell 1 rfl
  have c2 := B.cell 2 rfl
  clear hk1 B
  go_wp2_with (go_at_call 27; refine (HN.out _ _).mono ?_; rintro e w' ⟨rfl, rfl⟩)
  go_ret2
  exact ⟨rfl, k1⟩

set_option maxRecDepth 100000 in
set_option maxHeartbeats 4000000 in
theorem p_Whole_zero_lt (low step x : Nat) (steps c : Int) (q a1 : Nat) (hs : floatBits .sub .f64 x low = some a1) (hq : floatBits .quo .f64 a1 step = some q) (n : Nat) (HE : Hid (∀ w, (callFunc 28 #[.float .f64 q]).run Try.prog w = .ok (.value (.float .f64 n)) w)) (HC : Hid (Pure Try.prog 26 #[.agg #[.float .f64 low, .float .f64 step, .int .u32 steps]] (.int .i64 c))) (hc : (c != 0) = false) (hx : nan x = false) (o1 : FloatKind.f64.format.order n 0 = some .lt) :
    Pure Try.prog 13 #[.agg #[.float .f64 low, .float .f64 step, .int .u32 steps], .float .f64 x] (.tuple #[.int .u32 0, .int .i64 0]) := fun w => by
  have HN := Lib.hid isNaN_any
  have e1 := fun w => run_float_arith (P := Try.prog) w .sub 22 .f64 x low a1 hs
  have e2 := fun w => run_float_arith (P := Try.prog) w .quo 22 .f64 a1 step q hq
  clear hs hq
  have e3 := HE.out
  go_enter Try.func13, Try.ntmps13
  go_wp2_with fail
  refine (HC.out _).mono ?_
  rintro e w1 ⟨rfl, hk1⟩
  have k1 : Kept w w1 := ((Kept.refl w).alloc _).trans hk1
  have B : Blk w1 w.heap.size 25 #[.float .f64 low, .float .f64 step, .int .u32 steps] := (Blk.new w _ _).kept hk1
  have c0 := B.cell 0 rfl
  have c1 := B.cell 1 rfl
  have c2 := B.cell 2 rfl
  clear hk1 B
  go_wp2_with (go_at_call 27; refine (HN.out _ _).mono ?_; rintro e w' ⟨rfl, rfl⟩)
  go_ret2
  exact ⟨rfl, k1⟩

set_option maxRecDepth 100000 in
set_option maxHeartbeats 4000000 in
theorem p_Whole_zero_eq (low step x : Nat) (steps c : Int) (q a1 : Nat) (hs : floatBits .sub .f64 x low = some a1) (hq : floatBits .quo .f64 a1 step = some q) (n : Nat) (HE : Hid (∀ w, (callFunc 28 #[.float .f64 q]).run Try.prog w = .ok (.value (.float .f64 n)) w)) (HC : Hid (Pure Try.prog 26 #[.agg #[.float .f64 low, .float .f64 step, .int .u32 steps]] (.int .i64 c))) (hc : (c != 0) = false) (hx : nan x = false) (o1 : FloatKind.f64.format.order n 0 = some .eq) :
    Pure Try.prog 13 #[.agg #[.float .f64 low, .float .f64 step, .int .u32 steps], .float .f64 x] (.tuple #[.int .u32 0, .int .i64 0]) := fun w => by
  have HN := Lib.hid isNaN_any
  have e1 := fun w => run_float_arith (P := Try.prog) w .sub 22 .f64 x low a1 hs
  have e2 := fun w => run_float_arith (P := Try.prog) w .quo 22 .f64 a1 step q hq
  clear hs hq
  have e3 := HE.out
  go_enter Try.func13, Try.ntmps13
  go_wp2_with fail
  refine (HC.out _).mono ?_
  rintro e w1 ⟨rfl, hk1⟩
  have k1 : Kept w w1 := ((Kept.refl w).alloc _).trans hk1
  have B : Blk w1 w.heap.size 25 #[.float .f64 low, .float .f64 step, .int .u32 steps] := (Blk.new w _ _).kept hk1
  have c0 := B.cell 0 rfl
  have c1 := B.cell 1 rfl
  have c2 := B.cell 2 rfl
  clear hk1 B
  go_wp2_with (go_at_call 27; refine (HN.out _ _).mono ?_; rintro e w' ⟨rfl, rfl⟩)
  go_ret2
  exact ⟨rfl, k1⟩

set_option maxRecDepth 100000 in
set_option maxHeartbeats 4000000 in
theorem p_Whole_top_gt (low step x : Nat) (steps c : Int) (q a1 : Nat) (hs : floatBits .sub .f64 x low = some a1) (hq : floatBits .quo .f64 a1 step = some q) (n : Nat) (HE : Hid (∀ w, (callFunc 28 #[.float .f64 q]).run Try.prog w = .ok (.value (.float .f64 n)) w)) (HC : Hid (Pure Try.prog 26 #[.agg #[.float .f64 low, .float .f64 step, .int .u32 steps]] (.int .i64 c))) (hc : (c != 0) = false) (hx : nan x = false) (o1 : FloatKind.f64.format.order n 0 = some .gt) (o2 : FloatKind.f64.format.order n (floatOfInt .f64 steps) = some .gt) :
    Pure Try.prog 13 #[.agg #[.float .f64 low, .float .f64 step, .int .u32 steps], .float .f64 x] (.tuple #[.int .u32 steps, .int .i64 0]) := fun w => by
  have HN := Lib.hid isNaN_any
  have e1 := fun w => run_float_arith (P := Try.prog) w .sub 22 .f64 x low a1 hs
  have e2 := fun w => run_float_arith (P := Try.prog) w .quo 22 .f64 a1 step q hq
  clear hs hq
  have e3 := HE.out
  go_enter Try.func13, Try.ntmps13
  go_wp2_with fail
  refine (HC.out _).mono ?_
  rintro e w1 ⟨rfl, hk1⟩
  have k1 : Kept w w1 := ((Kept.refl w).alloc _).trans hk1
  have B : Blk w1 w.heap.size 25 #[.float .f64 low, .float .f64 step, .int .u32 steps] := (Blk.new w _ _).kept hk1
  have c0 := B.cell 0 rfl
  have c1 := B.cell 1 rfl
  have c2 := B.cell 2 rfl
  clear hk1 B
  go_wp2_with (go_at_call 27; refine (HN.out _ _).mono ?_; rintro e w' ⟨rfl, rfl⟩)
  go_ret2
  exact ⟨rfl, k1⟩

set_option maxRecDepth 100000 in
set_option maxHeartbeats 4000000 in
theorem p_Whole_top_eq (low step x : Nat) (steps c : Int) (q a1 : Nat) (hs : floatBits .sub .f64 x low = some a1) (hq : floatBits .quo .f64 a1 step = some q) (n : Nat) (HE : Hid (∀ w, (callFunc 28 #[.float .f64 q]).run Try.prog w = .ok (.value (.float .f64 n)) w)) (HC : Hid (Pure Try.prog 26 #[.agg #[.float .f64 low, .float .f64 step, .int .u32 steps]] (.int .i64 c))) (hc : (c != 0) = false) (hx : nan x = false) (o1 : FloatKind.f64.format.order n 0 = some .gt) (o2 : FloatKind.f64.format.order n (floatOfInt .f64 steps) = some .eq) :
    Pure Try.prog 13 #[.agg #[.float .f64 low, .float .f64 step, .int .u32 steps], .float .f64 x] (.tuple #[.int .u32 steps, .int .i64 0]) := fun w => by
  have HN := Lib.hid isNaN_any
  have e1 := fun w => run_float_arith (P := Try.prog) w .sub 22 .f64 x low a1 hs
  have e2 := fun w => run_float_arith (P := Try.prog) w .quo 22 .f64 a1 step q hq
  clear hs hq
  have e3 := HE.out
  go_enter Try.func13, Try.ntmps13
  go_wp2_with fail
  refine (HC.out _).mono ?_
  rintro e w1 ⟨rfl, hk1⟩
  have k1 : Kept w w1 := ((Kept.refl w).alloc _).trans hk1
  have B : Blk w1 w.heap.size 25 #[.float .f64 low, .float .f64 step, .int .u32 steps] := (Blk.new w _ _).kept hk1
  have c0 := B.cell 0 rfl
  have c1 := B.cell 1 rfl
  have c2 := B.cell 2 rfl
  clear hk1 B
  go_wp2_with (go_at_call 27; refine (HN.out _ _).mono ?_; rintro e w' ⟨rfl, rfl⟩)
  go_ret2
  exact ⟨rfl, k1⟩

set_option maxRecDepth 100000 in
set_option maxHeartbeats 4000000 in
theorem p_Whole_mid (low step x : Nat) (steps c : Int) (q a1 : Nat) (hs : floatBits .sub .f64 x low = some a1) (hq : floatBits .quo .f64 a1 step = some q) (n : Nat) (HE : Hid (∀ w, (callFunc 28 #[.float .f64 q]).run Try.prog w = .ok (.value (.float .f64 n)) w)) (v : Int) (hv : floatToIntVal .f64 n .u32 = some v) (HC : Hid (Pure Try.prog 26 #[.agg #[.float .f64 low, .float .f64 step, .int .u32 steps]] (.int .i64 c))) (hc : (c != 0) = false) (hx : nan x = false) (o1 : FloatKind.f64.format.order n 0 = some .gt) (o2 : FloatKind.f64.format.order n (floatOfInt .f64 steps) = some .lt) :
    Pure Try.prog 13 #[.agg #[.float .f64 low, .float .f64 step, .int .u32 steps], .float .f64 x] (.tuple #[.int .u32 v, .int .i64 0]) := fun w => by
  have HN := Lib.hid isNaN_any
  have e1 := fun w => run_float_arith (P := Try.prog) w .sub 22 .f64 x low a1 hs
  have e2 := fun w => run_float_arith (P := Try.prog) w .quo 22 .f64 a1 step q hq
  clear hs hq
  have e3 := HE.out
  have e4 := fun w => run_convert_float_int (P := Try.prog) w 22 23 .f64 .u32 n v (by rw [Try.underlying22]; rfl) Try.underlying23 hv
  clear hv
  go_enter Try.func13, Try.ntmps13
  go_wp2_with fail
  refine (HC.out _).mono ?_
  rintro e w1 ⟨rfl, hk1⟩
  have k1 : Kept w w1 := ((Kept.refl w).alloc _).trans hk1
  have B : Blk w1 w.heap.size 25 #[.float .f64 low, .float .f64 step, .int .u32 steps] := (Blk.new w _ _).kept hk1
  have c0 := B.cell 0 rfl
  have c1 := B.cell 1 rfl
  have c2 := B.cell 2 rfl
  clear hk1 B
  go_wp2_with (go_at_call 27; refine (HN.out _ _).mono ?_; rintro e w' ⟨rfl, rfl⟩)
  go_ret2
  exact ⟨rfl, k1⟩

set_option maxRecDepth 100000 in
set_option maxHeartbeats 4000000 in
theorem r_Whole_bad (low step x : Nat) (steps c : Int)  (HC : Hid (Pure Try.prog 24 #[.agg #[.float .f64 low, .float .f64 step, .int .u32 steps]] (.int .i64 c))) (hc : (c != 0) = true) :
    Pure Try.prog 11 #[.agg #[.float .f64 low, .float .f64 step, .int .u32 steps], .float .f64 x] (.tuple #[.int .u32 0, .int .i64 c]) := fun w => by
  have HN := Lib.hid none_any

  go_enter Try.func11, Try.ntmps11
  go_wp2_with fail
  refine (HC.out _).mono ?_
  rintro e w1 ⟨rfl, hk1⟩
  have k1 : Kept w w1 := ((Kept.refl w).alloc _).trans hk1
  have B : Blk w1 w.heap.size 38 #[.float .f64 low, .float .f64 step, .int .u32 steps] := (Blk.new w _ _).kept hk1
  have c0 := B.cell 0 rfl
  have c1 := B.cell 1 rfl
  have c2 := B.cell 2 rfl
  clear hk1 B
  go_wp2_with (go_at_call 25; refine (HN.out _ _).mono ?_; rintro e w' ⟨rfl, rfl⟩)
  go_ret2
  exact ⟨rfl, k1⟩

set_option maxRecDepth 100000 in
set_option maxHeartbeats 4000000 in
theorem r_Whole_nan (low step x : Nat) (steps c : Int)  (HC : Hid (Pure Try.prog 24 #[.agg #[.float .f64 low, .float .f64 step, .int .u32 steps]] (.int .i64 c))) (hc : (c != 0) = false) (hx : nan x = true) :
    Pure Try.prog 11 #[.agg #[.float .f64 low, .float .f64 step, .int .u32 steps], .float .f64 x] (.tuple #[.int .u32 0, .int .i64 28]) := fun w => by
  have HN := Lib.hid none_any

  go_enter Try.func11, Try.ntmps11
  go_wp2_with fail
  refine (HC.out _).mono ?_
  rintro e w1 ⟨rfl, hk1⟩
  have k1 : Kept w w1 := ((Kept.refl w).alloc _).trans hk1
  have B : Blk w1 w.heap.size 38 #[.float .f64 low, .float .f64 step, .int .u32 steps] := (Blk.new w _ _).kept hk1
  have c0 := B.cell 0 rfl
  have c1 := B.cell 1 rfl
  have c2 := B.cell 2 rfl
  clear hk1 B
  go_wp2_with (go_at_call 25; refine (HN.out _ _).mono ?_; rintro e w' ⟨rfl, rfl⟩)
  go_ret2
  exact ⟨rfl, k1⟩

set_option maxRecDepth 100000 in
set_option maxHeartbeats 4000000 in
theorem r_Whole_zero_lt (low step x : Nat) (steps c : Int) (q a1 : Nat) (hs : floatBits .sub .f64 x low = some a1) (hq : floatBits .quo .f64 a1 step = some q) (HC : Hid (Pure Try.prog 24 #[.agg #[.float .f64 low, .float .f64 step, .int .u32 steps]] (.int .i64 c))) (hc : (c != 0) = false) (hx : nan x = false) (o1 : FloatKind.f64.format.order q 0 = some .lt) :
    Pure Try.prog 11 #[.agg #[.float .f64 low, .float .f64 step, .int .u32 steps], .float .f64 x] (.tuple #[.int .u32 0, .int .i64 0]) := fun w => by
  have HN := Lib.hid none_any
  have e1 := fun w => run_float_arith (P := Try.prog) w .sub 22 .f64 x low a1 hs
  have e2 := fun w => run_float_arith (P := Try.prog) w .quo 22 .f64 a1 step q hq
  clear hs hq
  go_enter Try.func11, Try.ntmps11
  go_wp2_with fail
  refine (HC.out _).mono ?_
  rintro e w1 ⟨rfl, hk1⟩
  have k1 : Kept w w1 := ((Kept.refl w).alloc _).trans hk1
  have B : Blk w1 w.heap.size 38 #[.float .f64 low, .float .f64 step, .int .u32 steps] := (Blk.new w _ _).kept hk1
  have c0 := B.cell 0 rfl
  have c1 := B.cell 1 rfl
  have c2 := B.cell 2 rfl
  clear hk1 B
  go_wp2_with (go_at_call 25; refine (HN.out _ _).mono ?_; rintro e w' ⟨rfl, rfl⟩)
  go_ret2
  exact ⟨rfl, k1⟩

set_option maxRecDepth 100000 in
set_option maxHeartbeats 4000000 in
theorem r_Whole_zero_eq (low step x : Nat) (steps c : Int) (q a1 : Nat) (hs : floatBits .sub .f64 x low = some a1) (hq : floatBits .quo .f64 a1 step = some q) (HC : Hid (Pure Try.prog 24 #[.agg #[.float .f64 low, .float .f64 step, .int .u32 steps]] (.int .i64 c))) (hc : (c != 0) = false) (hx : nan x = false) (o1 : FloatKind.f64.format.order q 0 = some .eq) :
    Pure Try.prog 11 #[.agg #[.float .f64 low, .float .f64 step, .int .u32 steps], .float .f64 x] (.tuple #[.int .u32 0, .int .i64 0]) := fun w => by
  have HN := Lib.hid none_any
  have e1 := fun w => run_float_arith (P := Try.prog) w .sub 22 .f64 x low a1 hs
  have e2 := fun w => run_float_arith (P := Try.prog) w .quo 22 .f64 a1 step q hq
  clear hs hq
  go_enter Try.func11, Try.ntmps11
  go_wp2_with fail
  refine (HC.out _).mono ?_
  rintro e w1 ⟨rfl, hk1⟩
  have k1 : Kept w w1 := ((Kept.refl w).alloc _).trans hk1
  have B : Blk w1 w.heap.size 38 #[.float .f64 low, .float .f64 step, .int .u32 steps] := (Blk.new w _ _).kept hk1
  have c0 := B.cell 0 rfl
  have c1 := B.cell 1 rfl
  have c2 := B.cell 2 rfl
  clear hk1 B
  go_wp2_with (go_at_call 25; refine (HN.out _ _).mono ?_; rintro e w' ⟨rfl, rfl⟩)
  go_ret2
  exact ⟨rfl, k1⟩

set_option maxRecDepth 100000 in
set_option maxHeartbeats 4000000 in
theorem r_Whole_top_gt (low step x : Nat) (steps c : Int) (q a1 : Nat) (hs : floatBits .sub .f64 x low = some a1) (hq : floatBits .quo .f64 a1 step = some q) (HC : Hid (Pure Try.prog 24 #[.agg #[.float .f64 low, .float .f64 step, .int .u32 steps]] (.int .i64 c))) (hc : (c != 0) = false) (hx : nan x = false) (o1 : FloatKind.f64.format.order q 0 = some .gt) (o2 : FloatKind.f64.format.order q (floatOfInt .f64 steps) = some .gt) :
    Pure Try.prog 11 #[.agg #[.float .f64 low, .float .f64 step, .int .u32 steps], .float .f64 x] (.tuple #[.int .u32 steps, .int .i64 0]) := fun w => by
  have HN := Lib.hid none_any
  have e1 := fun w => run_float_arith (P := Try.prog) w .sub 22 .f64 x low a1 hs
  have e2 := fun w => run_float_arith (P := Try.prog) w .quo 22 .f64 a1 step q hq
  clear hs hq
  go_enter Try.func11, Try.ntmps11
  go_wp2_with fail
  refine (HC.out _).mono ?_
  rintro e w1 ⟨rfl, hk1⟩
  have k1 : Kept w w1 := ((Kept.refl w).alloc _).trans hk1
  have B : Blk w1 w.heap.size 38 #[.float .f64 low, .float .f64 step, .int .u32 steps] := (Blk.new w _ _).kept hk1
  have c0 := B.cell 0 rfl
  have c1 := B.cell 1 rfl
  have c2 := B.cell 2 rfl
  clear hk1 B
  go_wp2_with (go_at_call 25; refine (HN.out _ _).mono ?_; rintro e w' ⟨rfl, rfl⟩)
  go_ret2
  exact ⟨rfl, k1⟩

set_option maxRecDepth 100000 in
set_option maxHeartbeats 4000000 in
theorem r_Whole_top_eq (low step x : Nat) (steps c : Int) (q a1 : Nat) (hs : floatBits .sub .f64 x low = some a1) (hq : floatBits .quo .f64 a1 step = some q) (HC : Hid (Pure Try.prog 24 #[.agg #[.float .f64 low, .float .f64 step, .int .u32 steps]] (.int .i64 c))) (hc : (c != 0) = false) (hx : nan x = false) (o1 : FloatKind.f64.format.order q 0 = some .gt) (o2 : FloatKind.f64.format.order q (floatOfInt .f64 steps) = some .eq) :
    Pure Try.prog 11 #[.agg #[.float .f64 low, .float .f64 step, .int .u32 steps], .float .f64 x] (.tuple #[.int .u32 steps, .int .i64 0]) := fun w => by
  have HN := Lib.hid none_any
  have e1 := fun w => run_float_arith (P := Try.prog) w .sub 22 .f64 x low a1 hs
  have e2 := fun w => run_float_arith (P := Try.prog) w .quo 22 .f64 a1 step q hq
  clear hs hq
  go_enter Try.func11, Try.ntmps11
  go_wp2_with fail
  refine (HC.out _).mono ?_
  rintro e w1 ⟨rfl, hk1⟩
  have k1 : Kept w w1 := ((Kept.refl w).alloc _).trans hk1
  have B : Blk w1 w.heap.size 38 #[.float .f64 low, .float .f64 step, .int .u32 steps] := (Blk.new w _ _).kept hk1
  have c0 := B.cell 0 rfl
  have c1 := B.cell 1 rfl
  have c2 := B.cell 2 rfl
  clear hk1 B
  go_wp2_with (go_at_call 25; refine (HN.out _ _).mono ?_; rintro e w' ⟨rfl, rfl⟩)
  go_ret2
  exact ⟨rfl, k1⟩

set_option maxRecDepth 100000 in
set_option maxHeartbeats 4000000 in
theorem r_Whole_up (low step x : Nat) (steps c : Int) (q a1 : Nat) (hs : floatBits .sub .f64 x low = some a1) (hq : floatBits .quo .f64 a1 step = some q) (v : Int) (r : Nat) (v0 : 0 ≤ v) (v1 : v ≤ 1073741824) (hv : floatToIntVal .f64 q .u32 = some v) (hr : floatBits .sub .f64 q (floatOfInt .f64 v) = some r) (HC : Hid (Pure Try.prog 24 #[.agg #[.float .f64 low, .float .f64 step, .int .u32 steps]] (.int .i64 c))) (hc : (c != 0) = false) (hx : nan x = false) (o1 : FloatKind.f64.format.order q 0 = some .gt) (o2 : FloatKind.f64.format.order q (floatOfInt .f64 steps) = some .lt) (o3 : FloatKind.f64.format.order r 4602678819172646912 = some .gt) :
    Pure Try.prog 11 #[.agg #[.float .f64 low, .float .f64 step, .int .u32 steps], .float .f64 x] (.tuple #[.int .u32 (v + 1), .int .i64 0]) := fun w => by
  have HN := Lib.hid none_any
  have e1 := fun w => run_float_arith (P := Try.prog) w .sub 22 .f64 x low a1 hs
  have e2 := fun w => run_float_arith (P := Try.prog) w .quo 22 .f64 a1 step q hq
  clear hs hq
  have e4 := fun w => run_convert_float_int (P := Try.prog) w 22 23 .f64 .u32 q v (by rw [Try.underlying22]; rfl) Try.underlying23 hv
  have e5 := fun w => run_float_arith (P := Try.prog) w .sub 22 .f64 q (floatOfInt .f64 v) r hr
  clear hv hr
  go_enter Try.func11, Try.ntmps11
  go_wp2_with fail
  refine (HC.out _).mono ?_
  rintro e w1 ⟨rfl, hk1⟩
  have k1 : Kept w w1 := ((Kept.refl w).alloc _).trans hk1
  have B : Blk w1 w.heap.size 38 #[.float .f64 low, .float .f64 step, .int .u32 steps] := (Blk.new w _ _).kept hk1
  have c0 := B.cell 0 rfl
  have c1 := B.cell 1 rfl
  have c2 := B.cell 2 rfl
  clear hk1 B
  go_wp2_with (go_at_call 25; refine (HN.out _ _).mono ?_; rintro e w' ⟨rfl, rfl⟩)
  go_ret2
  exact ⟨rfl, k1⟩

set_option maxRecDepth 100000 in
set_option maxHeartbeats 4000000 in
theorem r_Whole_tieup (low step x : Nat) (steps c : Int) (q a1 : Nat) (hs : floatBits .sub .f64 x low = some a1) (hq : floatBits .quo .f64 a1 step = some q) (v : Int) (r : Nat) (v0 : 0 ≤ v) (v1 : v ≤ 1073741824) (hv : floatToIntVal .f64 q .u32 = some v) (hr : floatBits .sub .f64 q (floatOfInt .f64 v) = some r) (HC : Hid (Pure Try.prog 24 #[.agg #[.float .f64 low, .float .f64 step, .int .u32 steps]] (.int .i64 c))) (hc : (c != 0) = false) (hx : nan x = false) (o1 : FloatKind.f64.format.order q 0 = some .gt) (o2 : FloatKind.f64.format.order q (floatOfInt .f64 steps) = some .lt) (o3 : FloatKind.f64.format.order r 4602678819172646912 = some .eq) (hodd : (v % 2 == 1) = true) :
    Pure Try.prog 11 #[.agg #[.float .f64 low, .float .f64 step, .int .u32 steps], .float .f64 x] (.tuple #[.int .u32 (v + 1), .int .i64 0]) := fun w => by
  have HN := Lib.hid none_any
  have e1 := fun w => run_float_arith (P := Try.prog) w .sub 22 .f64 x low a1 hs
  have e2 := fun w => run_float_arith (P := Try.prog) w .quo 22 .f64 a1 step q hq
  clear hs hq
  have e4 := fun w => run_convert_float_int (P := Try.prog) w 22 23 .f64 .u32 q v (by rw [Try.underlying22]; rfl) Try.underlying23 hv
  have e5 := fun w => run_float_arith (P := Try.prog) w .sub 22 .f64 q (floatOfInt .f64 v) r hr
  clear hv hr
  go_enter Try.func11, Try.ntmps11
  go_wp2_with fail
  refine (HC.out _).mono ?_
  rintro e w1 ⟨rfl, hk1⟩
  have k1 : Kept w w1 := ((Kept.refl w).alloc _).trans hk1
  have B : Blk w1 w.heap.size 38 #[.float .f64 low, .float .f64 step, .int .u32 steps] := (Blk.new w _ _).kept hk1
  have c0 := B.cell 0 rfl
  have c1 := B.cell 1 rfl
  have c2 := B.cell 2 rfl
  clear hk1 B
  go_wp2_with (go_at_call 25; refine (HN.out _ _).mono ?_; rintro e w' ⟨rfl, rfl⟩)
  go_ret2
  exact ⟨rfl, k1⟩

set_option maxRecDepth 100000 in
set_option maxHeartbeats 4000000 in
theorem r_Whole_tie (low step x : Nat) (steps c : Int) (q a1 : Nat) (hs : floatBits .sub .f64 x low = some a1) (hq : floatBits .quo .f64 a1 step = some q) (v : Int) (r : Nat) (v0 : 0 ≤ v) (v1 : v ≤ 1073741824) (hv : floatToIntVal .f64 q .u32 = some v) (hr : floatBits .sub .f64 q (floatOfInt .f64 v) = some r) (HC : Hid (Pure Try.prog 24 #[.agg #[.float .f64 low, .float .f64 step, .int .u32 steps]] (.int .i64 c))) (hc : (c != 0) = false) (hx : nan x = false) (o1 : FloatKind.f64.format.order q 0 = some .gt) (o2 : FloatKind.f64.format.order q (floatOfInt .f64 steps) = some .lt) (o3 : FloatKind.f64.format.order r 4602678819172646912 = some .eq) (hodd : (v % 2 == 1) = false) :
    Pure Try.prog 11 #[.agg #[.float .f64 low, .float .f64 step, .int .u32 steps], .float .f64 x] (.tuple #[.int .u32 v, .int .i64 0]) := fun w => by
  have HN := Lib.hid none_any
  have e1 := fun w => run_float_arith (P := Try.prog) w .sub 22 .f64 x low a1 hs
  have e2 := fun w => run_float_arith (P := Try.prog) w .quo 22 .f64 a1 step q hq
  clear hs hq
  have e4 := fun w => run_convert_float_int (P := Try.prog) w 22 23 .f64 .u32 q v (by rw [Try.underlying22]; rfl) Try.underlying23 hv
  have e5 := fun w => run_float_arith (P := Try.prog) w .sub 22 .f64 q (floatOfInt .f64 v) r hr
  clear hv hr
  go_enter Try.func11, Try.ntmps11
  go_wp2_with fail
  refine (HC.out _).mono ?_
  rintro e w1 ⟨rfl, hk1⟩
  have k1 : Kept w w1 := ((Kept.refl w).alloc _).trans hk1
  have B : Blk w1 w.heap.size 38 #[.float .f64 low, .float .f64 step, .int .u32 steps] := (Blk.new w _ _).kept hk1
  have c0 := B.cell 0 rfl
  have c1 := B.cell 1 rfl
  have c2 := B.cell 2 rfl
  clear hk1 B
  go_wp2_with (go_at_call 25; refine (HN.out _ _).mono ?_; rintro e w' ⟨rfl, rfl⟩)
  go_ret2
  exact ⟨rfl, k1⟩

set_option maxRecDepth 100000 in
set_option maxHeartbeats 4000000 in
theorem r_Whole_down (low step x : Nat) (steps c : Int) (q a1 : Nat) (hs : floatBits .sub .f64 x low = some a1) (hq : floatBits .quo .f64 a1 step = some q) (v : Int) (r : Nat) (v0 : 0 ≤ v) (v1 : v ≤ 1073741824) (hv : floatToIntVal .f64 q .u32 = some v) (hr : floatBits .sub .f64 q (floatOfInt .f64 v) = some r) (HC : Hid (Pure Try.prog 24 #[.agg #[.float .f64 low, .float .f64 step, .int .u32 steps]] (.int .i64 c))) (hc : (c != 0) = false) (hx : nan x = false) (o1 : FloatKind.f64.format.order q 0 = some .gt) (o2 : FloatKind.f64.format.order q (floatOfInt .f64 steps) = some .lt) (o3 : FloatKind.f64.format.order r 4602678819172646912 = some .lt) :
    Pure Try.prog 11 #[.agg #[.float .f64 low, .float .f64 step, .int .u32 steps], .float .f64 x] (.tuple #[.int .u32 v, .int .i64 0]) := fun w => by
  have HN := Lib.hid none_any
  have e1 := fun w => run_float_arith (P := Try.prog) w .sub 22 .f64 x low a1 hs
  have e2 := fun w => run_float_arith (P := Try.prog) w .quo 22 .f64 a1 step q hq
  clear hs hq
  have e4 := fun w => run_convert_float_int (P := Try.prog) w 22 23 .f64 .u32 q v (by rw [Try.underlying22]; rfl) Try.underlying23 hv
  have e5 := fun w => run_float_arith (P := Try.prog) w .sub 22 .f64 q (floatOfInt .f64 v) r hr
  clear hv hr
  go_enter Try.func11, Try.ntmps11
  go_wp2_with fail
  refine (HC.out _).mono ?_
  rintro e w1 ⟨rfl, hk1⟩
  have k1 : Kept w w1 := ((Kept.refl w).alloc _).trans hk1
  have B : Blk w1 w.heap.size 38 #[.float .f64 low, .float .f64 step, .int .u32 steps] := (Blk.new w _ _).kept hk1
  have c0 := B.cell 0 rfl
  have c1 := B.cell 1 rfl
  have c2 := B.cell 2 rfl
  clear hk1 B
  go_wp2_with (go_at_call 25; refine (HN.out _ _).mono ?_; rintro e w' ⟨rfl, rfl⟩)
  go_ret2
  exact ⟨rfl, k1⟩

end Go.Proofs.Ytbpmgdneiejhoaa
