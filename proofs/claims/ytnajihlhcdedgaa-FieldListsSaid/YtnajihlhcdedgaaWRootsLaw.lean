/-
  WideRoots: for every order the law returns true: the walk's premises met.
  Conditions: none.
-/
import Derived.Test.YtnajihlhcdedgaaWRoots
namespace Go.Proofs.Ytnajihlhcdedgaa
open Go.RowKit
set_option linter.unusedVariables false

/-- 7 to (2^62 - 7) times 2^k. -/
def wRoot (k : Nat) : Int := (7 : Int) ^ (4611686018427387897 * 2 ^ k) % wP
theorem wRoot_succ (k : Nat) : wRoot k * wRoot k % wP = wRoot (k + 1) := by
  unfold wRoot
  rw [← Int.mul_emod, ← Int.pow_add]
  congr 2
  rw [Nat.pow_succ]; omega
theorem is128_wRoot (k : Nat) : is128 (wRoot k) := is128_emod_w _
theorem wRoot_val (k m : Nat) (h : pm wN 129 7 (4611686018427387897 * 2 ^ k) = m) (hk : 4611686018427387897 * 2 ^ k < 2 ^ 129) : wRoot k = (m : Int) := by
  rw [pm_eq wN 129 7 _ hk] at h
  unfold wRoot
  rw [← h, show wP = (wN : Int) from rfl]
  simp
theorem wRoot65 : wRoot 65 = 340282366920938462946865773367900766208 := wRoot_val 65 340282366920938462946865773367900766208 (by decide +kernel) (by decide +kernel)
theorem wRoot66 : wRoot 66 = 1 := wRoot_val 66 1 (by decide +kernel) (by decide +kernel)

theorem w_Root_mul (k : Nat) : Pure Try.prog 53 #[E (wRoot k), E (wRoot k)] (E (wRoot (k + 1))) := by
  have := w_Mul (is128_wRoot k) (is128_wRoot k)
  rw [wRoot_succ] at this
  exact this
theorem w_Root {l : Int} (h0 : 0 ≤ l) (h1 : l ≤ 66) : Pure Try.prog 68 #[.int .i64 l] (.tuple #[E (wRoot (66 - l).toNat), .int .i64 0]) := by
  have hp := w_Pow (a := 7) (n := 4611686018427387897) (by unfold is128; omega) (by unfold is128; omega)
  have e : wRoot 0 = (7 : Int) ^ 4611686018427387897 % wP := by unfold wRoot; rw [Nat.pow_zero, Nat.mul_one]
  rw [← e] at hp
  exact w_Root_in l (fun k => wRoot k % 18446744073709551616) (fun k => wRoot k / 18446744073709551616) h0 h1 hp (fun k => w_Root_mul k) _ rfl

theorem wide_roots_law (l : Int) (wl : (Lit.int .i64 l).wf = true) (w : World) : Calls Try.prog 15 #[.int .i64 l] w fun e w' => e = .returned (.bool true) ∧ Kept w w' := by
  by_cases h : l < 0 ∨ 66 < l
  · exact wide_roots_no l h wide_Awake (w_Root_no l h) w
  · have h0 : 0 ≤ l := by omega
    have h1 : l ≤ 66 := by omega
    have hr := w_Root h0 h1
    by_cases hz : l = 0
    · subst hz
      rw [show ((66 : Int) - 0).toNat = 66 from rfl, wRoot66] at hr
      exact wide_roots_nought wide_Awake hr w
    · have hn := w_Neg (a := 1) (by unfold is128; omega)
      rw [show (-1 : Int) % wP = wRoot 65 by rw [wRoot65]; unfold wP; omega] at hn
      exact wide_roots_yes l _ (fun k => wRoot k % 18446744073709551616) (fun k => wRoot k / 18446744073709551616) _ _ (by omega) h1 rfl wide_Awake hr (fun k => w_Root_mul k) ⟨rfl, rfl⟩ hn eql28_self w

end Go.Proofs.Ytnajihlhcdedgaa
