/-
  Either field: contracts of what takes elements one by one.
-/
import Derived.Test.YtnajihlhcdedgaaFA
import Derived.Test.YtnajihlhcdedgaaWPow
import Derived.Test.YtnajihlhcdedgaaWRootsLaw
import Derived.Test.YtnajihlhcdedgaaG4
namespace Go.Proofs.Ytnajihlhcdedgaa
open Go.RowKit
set_option linter.unusedVariables false

theorem rOf1' (a : Int) : rOf 1 a = a % 18446744073709551616 % gP := by unfold rOf; rw [if_pos rfl]
theorem E_nought : E 0 = .agg #[.int .u64 0, .int .u64 0] := E_small (by unfold is64; omega)
theorem E_one : E 1 = .agg #[.int .u64 1, .int .u64 0] := E_small (by unfold is64; omega)
theorem is128_0 : is128 0 := by unfold is128; omega
theorem is128_1 : is128 1 := by unfold is128; omega
theorem f_Add {f a b : Int} (hf : isF f) (ha : is128 a) (hb : is128 b) : Pure Try.prog 99 #[.int .u8 f, E a, E b] (E ((rOf f a + rOf f b) % rP f)) := by
  rcases hf with rfl | rfl
  · have h := f_Add_s (a % 18446744073709551616) (a / 18446744073709551616) (b % 18446744073709551616) (b / 18446744073709551616) _ (g_Add (is64_lo a) (is64_lo b)).pure
    refine Pure.to h ?_
    rw [rOf1', rOf1', rP1, ← Int.add_emod, E_small (is64_emod _)]
  · have h := f_Add_l (a % 18446744073709551616) (a / 18446744073709551616) (b % 18446744073709551616) (b / 18446744073709551616) _ _ (w_Add ha hb)
    refine Pure.to h ?_
    rw [rOf2, rOf2, rP2, ← Int.add_emod]
    rfl
theorem f_Sub {f a b : Int} (hf : isF f) (ha : is128 a) (hb : is128 b) : Pure Try.prog 100 #[.int .u8 f, E a, E b] (E ((rOf f a - rOf f b) % rP f)) := by
  rcases hf with rfl | rfl
  · have h := f_Sub_s (a % 18446744073709551616) (a / 18446744073709551616) (b % 18446744073709551616) (b / 18446744073709551616) _ (g_Sub (is64_lo a) (is64_lo b)).pure
    refine Pure.to h ?_
    rw [rOf1', rOf1', rP1, ← Int.sub_emod, E_small (is64_emod _)]
  · have h := f_Sub_l (a % 18446744073709551616) (a / 18446744073709551616) (b % 18446744073709551616) (b / 18446744073709551616) _ _ (w_Sub ha hb)
    refine Pure.to h ?_
    rw [rOf2, rOf2, rP2, ← Int.sub_emod]
    rfl
theorem f_Mul {f a b : Int} (hf : isF f) (ha : is128 a) (hb : is128 b) : Pure Try.prog 102 #[.int .u8 f, E a, E b] (E ((rOf f a * rOf f b) % rP f)) := by
  rcases hf with rfl | rfl
  · have h := f_Mul_s (a % 18446744073709551616) (a / 18446744073709551616) (b % 18446744073709551616) (b / 18446744073709551616) _ (g_Mul (is64_lo a) (is64_lo b)).pure
    refine Pure.to h ?_
    rw [rOf1', rOf1', rP1, ← Int.mul_emod, E_small (is64_emod _)]
  · have h := f_Mul_l (a % 18446744073709551616) (a / 18446744073709551616) (b % 18446744073709551616) (b / 18446744073709551616) _ _ (w_Mul ha hb)
    refine Pure.to h ?_
    rw [rOf2, rOf2, rP2, ← Int.mul_emod]
    rfl
theorem rOf_zero {f : Int} (hf : isF f) : rOf f 0 = 0 := by rcases hf with rfl | rfl <;> decide
theorem rOf_one {f : Int} (hf : isF f) : rOf f 1 = 1 := by rcases hf with rfl | rfl <;> decide
theorem f_Neg {f a : Int} (hf : isF f) (ha : is128 a) : Pure Try.prog 101 #[.int .u8 f, E a] (E ((-rOf f a) % rP f)) := by
  have h := f_Sub hf is128_0 ha
  rw [rOf_zero hf, Int.zero_sub, E_nought] at h
  exact f_Neg_r f (a % 18446744073709551616) (a / 18446744073709551616) _ _ h
theorem f_Pow {f a n : Int} (hf : isF f) (ha : is128 a) (hn : is64 n) : Pure Try.prog 103 #[.int .u8 f, E a, .int .u64 n] (E ((rOf f a ^ n.toNat) % rP f)) := by
  rcases hf with rfl | rfl
  · have h := f_Pow_s (a % 18446744073709551616) (a / 18446744073709551616) n _ (g_Pow (is64_lo a) hn).pure
    refine Pure.to h ?_
    rw [rOf1', rP1, emod_pow, E_small (is64_emod _)]
  · have h1 := w_Pow (n := n.toNat) ha (by rw [Int.toNat_of_nonneg hn.1]; exact is128_of64 hn)
    rw [Int.toNat_of_nonneg hn.1, E_small hn] at h1
    have h := f_Pow_l (a % 18446744073709551616) (a / 18446744073709551616) n _ _ h1
    refine Pure.to h ?_
    rw [rOf2, rP2, emod_pow]
    rfl
theorem f_Of {f n : Int} (hf : isF f) (hn : is64 n) : Pure Try.prog 104 #[.int .u8 f, .int .u64 n] (E (rOf f n)) := by
  rcases hf with rfl | rfl
  · refine Pure.to (f_Of_s n _ (g_Of hn).pure) ?_
    rw [rOf1 hn, E_small (is64_emod _)]
  · refine Pure.to (f_Of_l n) ?_
    rw [rOf2, show n % wP = n by unfold is64 at hn; unfold wP; omega, E_small hn]
theorem f_One {f : Int} (hf : isF f) : Pure Try.prog 105 #[.int .u8 f] (E 1) := by
  have h := f_Of (n := 1) hf (by unfold is64; omega)
  rw [rOf_one hf, E_one] at h
  rw [E_one]
  exact f_One_r f 1 0 h
theorem g_In {a : Int} : Pure Try.prog 34 #[.int .u64 a] (.bool (decide (a < gP))) := fun w => (gold_In a w).mono fun e w' ⟨h1, h2⟩ => ⟨h1, h2 ▸ Kept.refl w⟩
theorem f_In {f a : Int} (hf : isF f) (ha : is128 a) : Pure Try.prog 106 #[.int .u8 f, E a] (.bool (decide (a < rP f))) := by
  rcases hf with rfl | rfl
  · by_cases h1 : a / 18446744073709551616 = 0
    · have h := f_In_s (a % 18446744073709551616) _ g_In
      have e : E a = .agg #[.int .u64 (a % 18446744073709551616), .int .u64 0] := by unfold E; rw [h1]
      rw [e]
      refine Pure.to h ?_
      rw [rP1, show a % 18446744073709551616 = a by unfold is128 at ha; omega]
    · have h := f_In_s0 (a % 18446744073709551616) (a / 18446744073709551616) (by simp [h1])
      refine Pure.to h ?_
      rw [rP1, decide_eq_false (by unfold is128 at ha; unfold gP; omega)]
  · refine Pure.to (f_In_l (a % 18446744073709551616) (a / 18446744073709551616) _ (w_In ha)) ?_
    rw [rP2]
theorem f_Size {f : Int} (hf : isF f) : Pure Try.prog 89 #[.int .u8 f] (.int .i64 (8 * f)) := by
  rcases hf with rfl | rfl
  · exact f_Size_s
  · exact f_Size_l
theorem f_Valid {f : Int} (hf : isF f) : Pure Try.prog 108 #[.int .u8 f] (.bool true) := by
  rcases hf with rfl | rfl
  · exact f_Valid_s
  · exact f_Valid_l
theorem f_Inv {f a : Int} (hf : isF f) (ha : is128 a) (h : rOf f a ≠ 0) : ∃ y, 0 ≤ y ∧ y < rP f ∧ rOf f a * y % rP f = 1 ∧ Pure Try.prog 98 #[.int .u8 f, E a] (.tuple #[E y, .int .i64 0]) := by
  rcases hf with rfl | rfl
  · rw [rOf1'] at h ⊢
    rw [rP1]
    have hl := is64_lo a
    have hp := g_Pow (n := 18446744069414584319) hl (by unfold is64; omega)
    rw [show Int.toNat 18446744069414584319 = eG from rfl] at hp
    have hf := fermat_goldI _ hl.1 h
    have hR : isG ((a % 18446744073709551616) ^ eG % gP) := isG_emod _
    rw [Int.mul_emod] at hf
    generalize (a % 18446744073709551616) ^ eG % gP = R at *
    refine ⟨R, hR.1, hR.2, ?_, ?_⟩
    · rw [Int.mul_emod, Int.emod_emod]; exact hf
    · rw [E_small hR.is64]
      exact f_Inv_s _ _ _ _ (gold_Inv_yes _ _ R (by simp [h]) (g_Of hl) hp).pure
  · rw [rOf2] at h ⊢
    rw [rP2]
    have hf := fermat_wideI a ha.1 h
    have h0 := Int.emod_nonneg (a ^ eW) (b := wP) (by unfold wP; omega)
    have h1 := Int.emod_lt_of_pos (a ^ eW) (b := wP) (by unfold wP; omega)
    have hi := w_Inv ha h
    generalize a ^ eW % wP = R at *
    refine ⟨R, h0, h1, ?_, f_Inv_l _ _ _ _ _ hi⟩
    rw [Int.mul_emod, Int.emod_emod, ← Int.mul_emod]; exact hf
theorem f_Inv_no {f a : Int} (hf : isF f) (ha : is128 a) (h : rOf f a = 0) : Pure Try.prog 98 #[.int .u8 f, E a] (.tuple #[E 0, .int .i64 8]) := by
  rw [E_nought]
  rcases hf with rfl | rfl
  · rw [rOf1'] at h
    exact f_Inv_s _ _ _ _ (g_Inv_no (is64_lo a) h).pure
  · rw [rOf2] at h
    exact f_Inv_l _ _ _ _ _ (w_Inv_nought ha h)
end Go.Proofs.Ytnajihlhcdedgaa
