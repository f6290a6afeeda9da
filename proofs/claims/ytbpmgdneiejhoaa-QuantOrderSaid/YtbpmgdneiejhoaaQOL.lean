/-
  QuantOrder, of the arguments as they come.
-/
import Derived.Test.YtbpmgdneiejhoaaQOW
namespace Go.Proofs.Ytbpmgdneiejhoaa
open Go.RowKit
set_option linter.unusedVariables false

theorem quant_order_law (a : Nat) (wa : (Lit.float .f64 a).wf = true) (b : Nat) (wb : (Lit.float .f64 b).wf = true) (c : Int) (wc : (Lit.int .u64 c).wf = true) (w : World) :
    Calls Try.prog 6 #[.float .f64 a, .float .f64 b, .int .u64 c] w fun e w' => e = .returned (.bool true) ∧ Kept w w' := by
  have ha : a < 18446744073709551616 := by simpa [Lit.wf] using wa
  have hb : b < 18446744073709551616 := by simpa [Lit.wf] using wb
  have hc : 0 ≤ c ∧ c ≤ 18446744073709551615 := by simpa [Lit.wf, IntKind.min, IntKind.max, IntKind.signed, IntKind.bits] using wc
  refine quant_order_raw a b c (fun i => [a, b, c.toNat, 9221120237041090561, 9218868437227405312, 18442240474082181120, 0, 9223372036854775808].getD i 0) rfl ?_ w
  intro i hi
  match i, hi with
  | 0, _ => exact ha
  | 1, _ => exact hb
  | 2, _ => show c.toNat < _; omega
  | 3, _ => show (9221120237041090561 : Nat) < _; omega
  | 4, _ => show (9218868437227405312 : Nat) < _; omega
  | 5, _ => show (18442240474082181120 : Nat) < _; omega
  | 6, _ => show (0 : Nat) < _; omega
  | 7, _ => show (9223372036854775808 : Nat) < _; omega
end Go.Proofs.Ytbpmgdneiejhoaa
