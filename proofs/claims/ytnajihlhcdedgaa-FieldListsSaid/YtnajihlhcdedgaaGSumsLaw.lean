/-
  GoldSums: for every two numbers of 64 bits the law returns true: the walk's premises met.
  Conditions: none.
-/
import Derived.Test.YtnajihlhcdedgaaGSums
namespace Go.Proofs.Ytnajihlhcdedgaa
open Go.RowKit
set_option linter.unusedVariables false

theorem E_small {a : Int} (h : is64 a) : E a = .agg #[.int .u64 a, .int .u64 0] := by
  have := E_mk (lo := a) (hi := 0) h
  rw [← this]; exact E_congr (by omega)
theorem is128_of64 {a : Int} (h : is64 a) : is128 a := by unfold is64 at h; unfold is128; omega
theorem rOf1 {a : Int} (h : is64 a) : rOf 1 a = a % gP := by
  unfold rOf; rw [if_pos rfl]; unfold is64 at h; rw [show a % 18446744073709551616 = a by omega]
theorem rP1 : rP 1 = gP := by unfold rP; rw [if_pos rfl]
theorem isF1 : isF 1 := .inl rfl
theorem isF2 : isF 2 := .inr rfl

theorem gold_sums_law (a : Int) (wa : (Lit.int .u64 a).wf = true) (b : Int) (wb : (Lit.int .u64 b).wf = true) (w : World) :
    Calls Try.prog 4 #[.int .u64 a, .int .u64 b] w fun e w' => e = .returned (.bool true) ∧ Kept w w' := by
  have ha := is64_mk wa
  have hb := is64_mk wb
  have hX : is64 (a % gP) := is64_emod a
  have hY : is64 (b % gP) := is64_emod b
  have oa := ref_Of isF1 (is128_of64 ha)
  have ob := ref_Of isF1 (is128_of64 hb)
  have ra := ref_Add isF1 (is128_of64 hX) (is128_of64 hY)
  have rs := ref_Sub isF1 (is128_of64 hX) (is128_of64 hY)
  have rn := ref_Neg isF1 (is128_of64 hX)
  have rm := ref_Mul isF1 (is128_of64 hX) (is128_of64 hY)
  rw [rOf1 ha, E_small ha, E_small hX] at oa
  rw [rOf1 hb, E_small hb, E_small hY] at ob
  rw [rOf1 hX, rOf1 hY, rP1, E_small hX, E_small hY, Int.emod_emod, Int.emod_emod, ← Int.add_emod, E_small (is64_emod _)] at ra
  rw [rOf1 hX, rOf1 hY, rP1, E_small hX, E_small hY, Int.emod_emod, Int.emod_emod, ← Int.sub_emod, E_small (is64_emod _)] at rs
  rw [rOf1 hX, rP1, E_small hX, Int.emod_emod, show -(a % gP) % gP = -a % gP by unfold gP; omega, E_small (is64_emod _)] at rn
  rw [rOf1 hX, rOf1 hY, rP1, E_small hX, E_small hY, Int.emod_emod, Int.emod_emod, ← Int.mul_emod, E_small (is64_emod _)] at rm
  have hin : Pure Try.prog 34 #[.int .u64 a] (.bool (decide (a % gP = a ∧ (0 : Int) = 0))) := fun w => by
    have := gold_In a w
    rw [show decide (a < 18446744069414584321) = decide (a % gP = a ∧ (0 : Int) = 0) from decide_eq_decide.2 (by unfold gP is64 at *; omega)] at this
    exact (show Gives 34 #[.int .u64 a] _ from fun w => by
      have := gold_In a w
      rw [show decide (a < 18446744069414584321) = decide (a % gP = a ∧ (0 : Int) = 0) from decide_eq_decide.2 (by unfold gP is64 at *; omega)] at this
      exact this).pure w
  exact gold_sums_raw a b _ _ _ _ _ _ _ gold_Awake law_e oa ob (g_Of ha).pure hin (g_Add ha hb).pure (g_Sub ha hb).pure (g_Neg ha).pure (g_Mul ha hb).pure ra rs rn rm
    (fun w => run_eql28 _ _ _ _ w) (fun t w => by rw [run_eql28]; simp) w

end Go.Proofs.Ytnajihlhcdedgaa
