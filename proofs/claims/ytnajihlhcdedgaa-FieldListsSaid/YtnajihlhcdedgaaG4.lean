/-
  The walks of gold: Root.
-/
import Derived.Test.YtnajihlhcdedgaaGPow
namespace Go.Proofs.Ytnajihlhcdedgaa
open Go.RowKit
set_option linter.unusedVariables false

/-- 7 to (2^32 - 1) times 2^k. -/
def gRoot (k : Nat) : Int := (7 : Int) ^ (4294967295 * 2 ^ k) % gP
theorem gRoot_succ (k : Nat) : gRoot k * gRoot k % gP = gRoot (k + 1) := by
  unfold gRoot
  rw [← Int.mul_emod, ← Int.pow_add]
  congr 2
  rw [Nat.pow_succ]; omega
theorem isG_gRoot (k : Nat) : isG (gRoot k) := isG_emod _

set_option maxHeartbeats 1000000 in
theorem gold_Root_in (l : Int) (r : Nat → Int) (h0 : 0 ≤ l) (h1 : l ≤ 32) (hR : Hid (Gives 39 #[.int .u64 7, .int .u64 4294967295] (.int .u64 (r 0)))) (hM : Hid (∀ k, Gives 28 #[.int .u64 (r k), .int .u64 (r k)] (.int .u64 (r (k + 1))))) (N : Nat) (hN : Hid (N = (32 - l).toNat)) :
    Gives 46 #[.int .i64 l] (.tuple #[.int .u64 (r N), .int .i64 0]) := fun w => by
  have hl1 : ¬ l < 0 := by omega
  have hl2 : ¬ 32 < l := by omega
  have hN1 : N ≤ 32 := by have := hN.out; omega
  have hN2 : (N : Int) ≤ 32 - l := by have := hN.out; omega
  have hN3 : 32 - l ≤ (N : Int) := by have := hN.out; omega
  go_enter Try.func46, Try.ntmps46
  go_wp2_with fail
  refine (hR.out _).mono ?_
  rintro e w' ⟨rfl, rfl⟩
  go_wp2_with fail
  go_loop [4, 14] (fun v i => ∃ k : Nat, k ≤ N ∧ i = .int .i64 k ∧ v = .int .u64 (r k)) (fun _ i => N - (intOf i).toNat)
  case atStart => exact ⟨0, Nat.zero_le _, rfl, rfl⟩
  case round =>
    obtain ⟨k, hk, rfl, rfl⟩ := hrel
    by_cases hlt : k < N
    · go_wp2_with fail
      refine (hM.out k _).mono ?_
      rintro e w' ⟨rfl, rfl⟩
      go_wp2_with fail
      go_round
      case rel => exact ⟨k + 1, by omega, by go_num, rfl⟩
      case measure => (simp [intOf]) <;> omega
    · have hkN : k = N := by omega
      go_wp2_with fail
      go_ret2
      rw [← hkN]
      exact ⟨rfl, rfl⟩

theorem g_Root {l : Int} (h0 : 0 ≤ l) (h1 : l ≤ 32) : Gives 46 #[.int .i64 l] (.tuple #[.int .u64 (gRoot (32 - l).toNat), .int .i64 0]) := by
  refine gold_Root_in l gRoot h0 h1 ?_ ?_ _ rfl
  · have := g_Pow (a := 7) (n := 4294967295) (by unfold is64; omega) (by unfold is64; omega)
    show Gives _ _ _
    have e : gRoot 0 = (7 : Int) ^ (4294967295 : Int).toNat % gP := by unfold gRoot; rw [Nat.pow_zero, Nat.mul_one]; rfl
    rw [e]
    exact this
  · intro k
    have := g_Mul (isG_gRoot k).is64 (isG_gRoot k).is64
    rw [gRoot_succ] at this
    exact this

theorem g_Root_no {l : Int} (h : l < 0 ∨ 32 < l) : Gives 46 #[.int .i64 l] (.tuple #[.int .u64 0, .int .i64 6]) := fun w => by
  rcases h with h | h
  · go_enter Try.func46, Try.ntmps46
    go_wp2_with fail
    go_ret2
    exact ⟨rfl, rfl⟩
  · have hl1 : ¬ l < 0 := by omega
    go_enter Try.func46, Try.ntmps46
    go_wp2_with fail
    go_ret2
    exact ⟨rfl, rfl⟩

theorem gRoot_val (k m : Nat) (h : pm gN 64 7 (4294967295 * 2 ^ k) = m) (hk : 4294967295 * 2 ^ k < 2 ^ 64) : gRoot k = (m : Int) := by
  rw [pm_eq gN 64 7 _ hk] at h
  unfold gRoot
  rw [← h, show gP = (gN : Int) from rfl]
  simp
theorem gRoot31 : gRoot 31 = 18446744069414584320 := gRoot_val 31 18446744069414584320 (by decide +kernel) (by decide +kernel)
theorem gRoot32 : gRoot 32 = 1 := gRoot_val 32 1 (by decide +kernel) (by decide +kernel)
theorem shr_val (l : Int) (h0 : 0 ≤ l) (h1 : l ≤ 32) : (18446744069414584320 : Int) / 2 ^ l.toNat = ((4294967295 * 2 ^ (32 - l).toNat : Nat) : Int) := by
  obtain ⟨L, rfl⟩ := Int.eq_ofNat_of_zero_le h0
  have hL : L ≤ 32 := by omega
  rw [Int.toNat_natCast, show ((32 : Int) - (L : Int)).toNat = 32 - L by omega]
  have e : (18446744069414584320 : Int) = ((4294967295 * 2 ^ (32 - L) : Nat) : Int) * 2 ^ L := by
    have h2 : (4294967295 * 2 ^ (32 - L)) * 2 ^ L = 18446744069414584320 := by
      rw [Nat.mul_assoc, ← Nat.pow_add, show 32 - L + L = 32 by omega]
    rw [show (18446744069414584320 : Int) = ((18446744069414584320 : Nat) : Int) from rfl, ← h2, Int.natCast_mul]
    simp
  rw [e]
  exact Int.mul_ediv_cancel _ (by have := pow_pos2 L; omega)
end Go.Proofs.Ytnajihlhcdedgaa
