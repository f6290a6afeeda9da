/-
  Doubles in order: quant's Same, Compare, Bits.
-/
import Derived.Test.YtbpmgdneiejhoaaQS
namespace Go.Proofs.Ytbpmgdneiejhoaa
open Go.RowKit Ieee
set_option linter.unusedVariables false
set_option linter.unusedSimpArgs false

def sameV (x y : Nat) : Bool := (FloatKind.f64.format.order x y == some .eq) || (nan x && nan y)
def cmpV (x y : Nat) : Int := if sameV x y then 0 else if nan x || (FloatKind.f64.format.order x y == some .lt) then -1 else 1
def bitsV (x : Nat) : Int := if nan x then 9221120237041090561 else (cleanV x : Int)

theorem same_eq (x y : Nat) (h : (FloatKind.f64.format.order x y == some .eq) = true) : Gives 21 #[.float .f64 x, .float .f64 y] (.bool true) := fun w => by
  simp only [beq_iff_eq] at h
  go_enter Try.func21, Try.ntmps21
  go_wp2_with fail
  go_ret
  exact ⟨rfl, rfl⟩
theorem same_num (x y : Nat) (h : (FloatKind.f64.format.order x y == some .eq) = false) (hx : nan x = false) : Gives 21 #[.float .f64 x, .float .f64 y] (.bool false) := fun w => by
  have HN := Lib.hid isNaN_any
  go_enter Try.func21, Try.ntmps21
  go_wp2_with (go_at_call 27; refine (HN.out _ _).mono ?_; rintro e w' ⟨rfl, rfl⟩)
  go_ret
  exact ⟨rfl, rfl⟩
theorem same_nan (x y : Nat) (b : Bool) (h : (FloatKind.f64.format.order x y == some .eq) = false) (hx : nan x = true) (hy : nan y = b) : Gives 21 #[.float .f64 x, .float .f64 y] (.bool b) := fun w => by
  have HN := Lib.hid isNaN_any
  go_enter Try.func21, Try.ntmps21
  go_wp2_with (go_at_call 27; refine (HN.out _ _).mono ?_; rintro e w' ⟨rfl, rfl⟩)
  go_ret
  exact ⟨rfl, rfl⟩
theorem same_any (x y : Nat) : Gives 21 #[.float .f64 x, .float .f64 y] (.bool (sameV x y)) := by
  unfold sameV
  cases h : FloatKind.f64.format.order x y == some .eq
  · cases hx : nan x
    · exact same_num x y h hx
    · exact same_nan x y _ h hx (by simp)
  · exact same_eq x y h

theorem cmp_same (x y : Nat) (h : sameV x y = true) : Gives 20 #[.float .f64 x, .float .f64 y] (.int .i64 0) := fun w => by
  have HS := Lib.hid same_any
  go_enter Try.func20, Try.ntmps20
  go_wp2_with (go_at_call 21; refine (HS.out _ _ _).mono ?_; rintro e w' ⟨rfl, rfl⟩)
  go_ret
  exact ⟨rfl, rfl⟩
theorem cmp_nan (x y : Nat) (h : sameV x y = false) (hx : nan x = true) : Gives 20 #[.float .f64 x, .float .f64 y] (.int .i64 (-1)) := fun w => by
  have HS := Lib.hid same_any
  have HN := Lib.hid isNaN_any
  go_enter Try.func20, Try.ntmps20
  go_wp2_with (first | (go_at_call 21; refine (HS.out _ _ _).mono ?_; rintro e w' ⟨rfl, rfl⟩) | (go_at_call 27; refine (HN.out _ _).mono ?_; rintro e w' ⟨rfl, rfl⟩))
  go_ret
  exact ⟨rfl, rfl⟩
theorem cmp_less (x y : Nat) (h : sameV x y = false) (hx : nan x = false) (hl : FloatKind.f64.format.order x y = some .lt) : Gives 20 #[.float .f64 x, .float .f64 y] (.int .i64 (-1)) := fun w => by
  have HS := Lib.hid same_any
  have HN := Lib.hid isNaN_any
  go_enter Try.func20, Try.ntmps20
  go_wp2_with (first | (go_at_call 21; refine (HS.out _ _ _).mono ?_; rintro e w' ⟨rfl, rfl⟩) | (go_at_call 27; refine (HN.out _ _).mono ?_; rintro e w' ⟨rfl, rfl⟩))
  go_ret
  exact ⟨rfl, rfl⟩
theorem cmp_more (x y : Nat) (h : sameV x y = false) (hx : nan x = false) (hl : (FloatKind.f64.format.order x y == some .lt) = false) : Gives 20 #[.float .f64 x, .float .f64 y] (.int .i64 1) := fun w => by
  have HS := Lib.hid same_any
  have HN := Lib.hid isNaN_any
  go_enter Try.func20, Try.ntmps20
  go_wp2_with (first | (go_at_call 21; refine (HS.out _ _ _).mono ?_; rintro e w' ⟨rfl, rfl⟩) | (go_at_call 27; refine (HN.out _ _).mono ?_; rintro e w' ⟨rfl, rfl⟩))
  go_ret
  exact ⟨rfl, rfl⟩
theorem cmp_any (x y : Nat) : Gives 20 #[.float .f64 x, .float .f64 y] (.int .i64 (cmpV x y)) := by
  unfold cmpV
  cases h : sameV x y
  · cases hx : nan x
    · cases hl : FloatKind.f64.format.order x y == some .lt
      · exact cmp_more x y h hx hl
      · exact cmp_less x y h hx (by simpa using hl)
    · exact cmp_nan x y h hx
  · exact cmp_same x y h

theorem nan_18 : Gives 18 #[] (.float .f64 9221120237041090561) := fun w => by
  have hf := run_frombits 9221120237041090561
  go_enter Try.func18, Try.ntmps18
  go_wp2_with fail
  go_ret
  exact ⟨rfl, rfl⟩
theorem bits_nan (x : Nat) (h : nan x = true) : Gives 22 #[.float .f64 x] (.int .u64 9221120237041090561) := fun w => by
  have HN := Lib.hid isNaN_any
  have HZ := Lib.hid nan_18
  have hb := run_bits 9221120237041090561
  go_enter Try.func22, Try.ntmps22
  go_wp2_with (first | (go_at_call 27; refine (HN.out _ _).mono ?_; rintro e w' ⟨rfl, rfl⟩) | (go_at_call 18; refine (HZ.out _).mono ?_; rintro e w' ⟨rfl, rfl⟩))
  go_ret
  exact ⟨rfl, rfl⟩
theorem bits_num (x : Nat) (h : nan x = false) : Gives 22 #[.float .f64 x] (.int .u64 (cleanV x : Int)) := fun w => by
  have HN := Lib.hid isNaN_any
  have HL := Lib.hid clean_any
  have hb := run_bits (cleanV x)
  go_enter Try.func22, Try.ntmps22
  go_wp2_with (first | (go_at_call 27; refine (HN.out _ _).mono ?_; rintro e w' ⟨rfl, rfl⟩) | (go_at_call 29; refine (HL.out _ _).mono ?_; rintro e w' ⟨rfl, rfl⟩))
  go_ret
  exact ⟨rfl, rfl⟩
theorem bits_any (x : Nat) : Gives 22 #[.float .f64 x] (.int .u64 (bitsV x)) := by
  unfold bitsV
  cases h : nan x
  · exact bits_num x h
  · exact bits_nan x h
theorem copysign_m : Gives 19 #[.float .f64 0, .float .f64 13830554455654793216] (.float .f64 9223372036854775808) := fun w => by
  have h0 := run_bits 0
  have h1 := run_bits 13830554455654793216
  have h2 := run_frombits 9223372036854775808
  have f0 : bits .andNot .u64 0 9223372036854775808 = 0 := by decide
  have f1 : bits .and .u64 13830554455654793216 9223372036854775808 = 9223372036854775808 := by decide
  have f2 : bits .or .u64 0 9223372036854775808 = 9223372036854775808 := by decide
  go_enter Try.func19, Try.ntmps19
  go_wp2_with fail
  go_ret
  exact ⟨rfl, rfl⟩
end Go.Proofs.Ytbpmgdneiejhoaa
