/-
  The contracts of gold, as they are used above: for every number of 64 bits.
-/
import Derived.Test.YtnajihlhcdedgaaG1
import Derived.Test.YtnajihlhcdedgaaR1
import Derived.OpenShut
namespace Go.Proofs.Ytnajihlhcdedgaa
open Go.RowKit
set_option linter.unusedVariables false

theorem is64_emod (x : Int) : is64 (x % gP) := by unfold is64 gP; omega
theorem is64_mk {x : Int} (h : (Lit.int .u64 x).wf = true) : is64 x := by
  have := bounds_u64 h
  unfold is64; omega

abbrev Gives (f : FuncId) (args : Array Value) (v : Value) : Prop := ∀ w, Calls Try.prog f args w fun e w' => e = .returned v ∧ w = w'

theorem g_Of {x : Int} (h : is64 x) : Gives 31 #[.int .u64 x] (.int .u64 (x % gP)) := fun w => gold_Of x w h.1 h.2
theorem g_Neg {x : Int} (h : is64 x) : Gives 29 #[.int .u64 x] (.int .u64 (-x % gP)) := fun w => gold_Neg x w h.1 h.2
theorem g_Add {x y : Int} (h : is64 x) (g : is64 y) : Gives 27 #[.int .u64 x, .int .u64 y] (.int .u64 ((x + y) % gP)) := fun w => gold_Add x y w h.1 h.2 g.1 g.2
theorem g_Sub {x y : Int} (h : is64 x) (g : is64 y) : Gives 30 #[.int .u64 x, .int .u64 y] (.int .u64 ((x - y) % gP)) := fun w => gold_Sub x y w h.1 h.2 g.1 g.2
theorem g_Mul {x y : Int} (h : is64 x) (g : is64 y) : Gives 28 #[.int .u64 x, .int .u64 y] (.int .u64 ((x * y) % gP)) := fun w => gold_Mul x y w h.1 h.2 g.1 g.2

theorem Gives.to {f : FuncId} {args : Array Value} {x y : Int} (h : Gives f args (.int .u64 x)) (e : x = y) : Gives f args (.int .u64 y) := e ▸ h

theorem gold_Awake : Gives 26 #[] (.bool true) := by
  have h1 := (g_Neg (x := 1) (by unfold is64; omega)).to (y := 18446744069414584320) (by unfold gP; omega)
  have h2 := (g_Mul (x := 9223372036854775808) (y := 2) (by unfold is64; omega) (by unfold is64; omega)).to (y := 4294967295) (by unfold gP; omega)
  have H1 := Lib.hid h1
  have H2 := Lib.hid h2
  clear h1 h2
  intro w
  go_enter Try.func26, Try.ntmps26
  go_wp2_with fail
  refine (H1.out _).mono ?_
  rintro e w' ⟨rfl, rfl⟩
  go_wp2_with fail
  refine (H2.out _).mono ?_
  rintro e w' ⟨rfl, rfl⟩
  go_wp2_with fail
  go_ret
  exact ⟨rfl, rfl⟩


theorem Gives.pure {f : FuncId} {args : Array Value} {v : Value} (h : Gives f args v) : Pure Try.prog f args v := fun w => (h w).mono fun e w' ⟨h1, h2⟩ => ⟨h1, h2 ▸ Kept.refl w⟩

end Go.Proofs.Ytnajihlhcdedgaa
