/-
  The walks of quant's and the reference's small functions on doubles.
-/
import Derived.Test.YtbpmgdneiejhoaaRows
import Derived.Test.YtbpmgdneiejhoaaBlk
import Derived.Test.YtbpmgdneiejhoaaFl
import Derived.WalkKit
import Derived.WalkLawsBesides
import Derived.Shelf.Abstract
namespace Go.Proofs.Ytbpmgdneiejhoaa
open Go.RowKit
set_option linter.unusedVariables false
set_option linter.unusedSimpArgs false

/-- Is it no number? -/
def nan (x : Nat) : Bool := FloatKind.f64.format.order x x != some .eq
/-- The greatest double, and the least. -/
def isGt (x y : Nat) : Bool := FloatKind.f64.format.order x y == some .gt
def isLt (x y : Nat) : Bool := FloatKind.f64.format.order x y == some .lt
def isEq (x y : Nat) : Bool := FloatKind.f64.format.order x y == some .eq
/-- Without its sign. -/
def absB (x : Nat) : Nat := (bits .andNot .u64 (x : Int) 9223372036854775808).toNat
/-- The nearest whole number. -/
def rte (x : Nat) : Nat := Ieee.double.write ((Ieee.double.read x).integral .even)

abbrev Gives (f : FuncId) (args : Array Value) (v : Value) : Prop := ∀ w, Calls Try.prog f args w fun e w' => e = .returned v ∧ w = w'

theorem run_bits (x : Nat) (w : World) : (callFunc 23 #[.float .f64 x]).run Try.prog w = .ok (.value (.int .u64 x)) w := by
  rw [run_callFunc_extern Try.func23 (by kernel_rfl) (by kernel_rfl) (by kernel_rfl) (e := Extern.MathFloatBits.float64bits) (by kernel_rfl)]
  rfl
theorem run_frombits (n : Int) (w : World) : (callFunc 17 #[.int .u64 n]).run Try.prog w = .ok (.value (.float .f64 n.toNat)) w := by
  rw [run_callFunc_extern Try.func17 (by kernel_rfl) (by kernel_rfl) (by kernel_rfl) (e := Extern.MathFloatBits.float64frombits) (by kernel_rfl)]
  rfl
theorem run_even (x : Nat) (h : nan x = false) (w : World) : (callFunc 28 #[.float .f64 x]).run Try.prog w = .ok (.value (.float .f64 (rte x))) w := by
  rw [run_callFunc_extern Try.func28 (by kernel_rfl) (by kernel_rfl) (by kernel_rfl) (e := Extern.MathFloor.toIntegral "math.RoundToEven" .even) (by kernel_rfl)]
  have : (Extern.MathFloor.toIntegral "math.RoundToEven" .even #[.float .f64 x]).run Try.prog w = .ok (.float .f64 (rte x)) w := by
    unfold nan Ieee.Format.order at h
    have hr : ∀ d, FloatKind.f64.decode x = d → (∀ s t, d ≠ .nan s t) → Extern.MathFloor.toIntegral "math.RoundToEven" .even #[.float .f64 x] = pure (.float .f64 (FloatKind.f64.encode (d.integral .even))) := by
      intro d hd hn
      conv => lhs; whnf
      rw [hd]
      cases d with
      | nan s t => exact absurd rfl (hn s t)
      | infinity s => rfl
      | number s m p => rfl
    rw [hr (Ieee.double.read x) rfl (fun s t he => by have he' : FloatKind.f64.format.read x = .nan s t := he; rw [he'] at h; simp [Ieee.Datum.order] at h)]
    rfl
  rw [this]
  rfl

theorem isNaN_any (x : Nat) : Gives 27 #[.float .f64 x] (.bool (nan x)) := fun w => by
  go_enter Try.func27, Try.ntmps27
  go_wp2_with fail
  go_ret
  exact ⟨rfl, rfl⟩
theorem none_any (x : Nat) : Gives 25 #[.float .f64 x] (.bool (nan x)) := fun w => by
  go_enter Try.func25, Try.ntmps25
  go_wp2_with fail
  go_ret
  exact ⟨rfl, rfl⟩

/-- Beyond all, as the reference asks it; as the program does. -/
def farR (x : Nat) : Bool := isGt x 9218868437227405311 || isLt x 18442240474082181119
def infP (x : Nat) : Bool := isGt (absB x) 9218868437227405311

theorem far_any (x : Nat) : Gives 30 #[.float .f64 x] (.bool (farR x)) := fun w => by
  go_enter Try.func30, Try.ntmps30
  go_wp2_with fail
  all_goals
    go_ret
    exact ⟨by simp [farR, isGt, isLt, *], rfl⟩

theorem abs_any (x : Nat) : Gives 15 #[.float .f64 x] (.float .f64 (absB x)) := fun w => by
  have hb := run_bits x
  have hf := run_frombits (bits .andNot .u64 (x : Int) 9223372036854775808)
  go_enter Try.func15, Try.ntmps15
  go_wp2_with fail
  go_ret
  exact ⟨rfl, rfl⟩

theorem isInf_any (x : Nat) : Gives 33 #[.float .f64 x, .int .i64 0] (.bool (infP x)) := fun w => by
  have HA := Lib.hid (abs_any x)
  go_enter Try.func33, Try.ntmps33
  go_wp2_with fail
  refine (HA.out _).mono ?_
  rintro e w' ⟨rfl, rfl⟩
  go_wp2_with fail
  go_ret
  exact ⟨rfl, rfl⟩

/-- Finite, as the program asks it. -/
def finP (x : Nat) : Bool := !nan x && !infP x
theorem finite_nan (x : Nat) (h : nan x = true) : Gives 32 #[.float .f64 x] (.bool false) := fun w => by
  have HN := Lib.hid (isNaN_any x)
  go_enter Try.func32, Try.ntmps32
  go_wp2_with fail
  refine (HN.out _).mono ?_
  rintro e w' ⟨rfl, rfl⟩
  go_wp2_with fail
  go_ret
  exact ⟨rfl, rfl⟩
theorem finite_num (x : Nat) (h : nan x = false) : Gives 32 #[.float .f64 x] (.bool (!infP x)) := fun w => by
  have HN := Lib.hid (isNaN_any x)
  have HI := Lib.hid (isInf_any x)
  go_enter Try.func32, Try.ntmps32
  go_wp2_with fail
  refine (HN.out _).mono ?_
  rintro e w' ⟨rfl, rfl⟩
  go_wp2_with fail
  refine (HI.out _).mono ?_
  rintro e w' ⟨rfl, rfl⟩
  go_wp2_with fail
  go_ret
  exact ⟨rfl, rfl⟩
theorem finite_any (x : Nat) : Gives 32 #[.float .f64 x] (.bool (finP x)) := by
  unfold finP
  cases h : nan x
  · simpa using finite_num x h
  · simpa using finite_nan x h
end Go.Proofs.Ytbpmgdneiejhoaa
