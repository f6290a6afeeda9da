/-
  Rotations: the walks.
-/
import Derived.Test.YtnajihlhcdedgaaK1
import Derived.Test.YtnajihlhcdedgaaG5
import Derived.Deep.LoopGhost
namespace Go.Proofs.Ytnajihlhcdedgaa
open Go.RowKit
set_option linter.unusedVariables false
set_option linter.unusedSimpArgs false

theorem mul_emod_r (b c : Int) {a : Int} (H : 0 < a) : b * a % (c * a) = b % c * a := by rw [Int.mul_comm b, Int.mul_comm c, Int.mul_emod_mul_of_pos _ _ H, Int.mul_comm]
theorem pow_lt64 {k : Nat} (hk : k < 64) : (2 : Int) ^ k < 18446744073709551616 := by
  have h1 : 2 ^ k < 2 ^ 64 := Nat.pow_lt_pow_right (by decide) hk
  have h2 : ((2 ^ k : Nat) : Int) = 2 ^ k := by simp
  rw [← h2]; omega
/-- A number turned by n. -/
def rotL (x : Int) (n : Nat) : Int := x * 2 ^ n % 18446744073709551616 + x / 2 ^ (64 - n)
def in64 (x : Int) : Prop := 0 ≤ x ∧ x ≤ 18446744073709551615

theorem rotL_zero {x : Int} (h : in64 x) : rotL x 0 = x := by
  unfold rotL in64 at *
  have e : (2 : Int) ^ (64 - 0) = 18446744073709551616 := by decide
  rw [e]
  omega
theorem rotL_step {x A B : Int} (h0 : 0 ≤ x) (h1 : x < 18446744073709551616) (hA : 0 < A) (hB : 0 < B) (hAB : A * B = 9223372036854775808) :
    x * (2 * A) % 18446744073709551616 + x / B = (x * A % 18446744073709551616 + x / (2 * B)) * 2 % 18446744073709551616 + (x * A % 18446744073709551616 + x / (2 * B)) / 9223372036854775808 := by
  have m1 : (18446744073709551616 : Int) = 2 * B * A := by rw [Int.mul_assoc, Int.mul_comm B A, hAB]; rfl
  have m2 : (18446744073709551616 : Int) = B * (2 * A) := by rw [Int.mul_left_comm, Int.mul_comm B A, hAB]; rfl
  have e1 : x * A % 18446744073709551616 = (x % (2 * B)) * A := by rw [m1, mul_emod_r _ _ hA]
  have e2 : x * (2 * A) % 18446744073709551616 = (x % B) * (2 * A) := by
    have := mul_emod_r x B (show (0 : Int) < 2 * A by omega)
    rw [← m2] at this; exact this
  have d1 : x / (2 * B) = x / B / 2 := by rw [Int.mul_comm, Int.ediv_ediv_of_nonneg (by omega)]
  have d2 : x % (2 * B) = B * (x / B % 2) + x % B := by
    have a1 := Int.emod_def x (2 * B)
    rw [d1] at a1
    have a2 := Int.emod_def x B
    have a3 := Int.emod_def (x / B) 2
    rw [a1, a3, Int.mul_sub, ← Int.mul_assoc, Int.mul_comm B 2]
    omega
  have hl0 := Int.emod_nonneg x (Int.ne_of_gt hB)
  have hl1 := Int.emod_lt_of_pos x hB
  have hq0 : 0 ≤ x / B := Int.ediv_nonneg h0 (by omega)
  have hq1 : x / (2 * B) < A := Int.ediv_lt_of_lt_mul (by omega) (by rw [Int.mul_comm, ← m1]; exact h1)
  rw [e1, e2, d2, d1]
  rw [d1] at hq1
  generalize x % B = l at *
  generalize x / B = q at *
  have hP : l * A ≤ 9223372036854775808 - A := by
    have := Int.mul_le_mul_of_nonneg_right (show l ≤ B - 1 by omega) (show (0 : Int) ≤ A by omega)
    rw [Int.sub_mul, Int.mul_comm B A, hAB] at this
    omega
  have hP0 : 0 ≤ l * A := Int.mul_nonneg hl0 (by omega)
  have e3 : (B * (q % 2) + l) * A = 9223372036854775808 * (q % 2) + l * A := by rw [Int.add_mul, Int.mul_right_comm, Int.mul_comm B A, hAB]
  have e4 : l * (2 * A) = 2 * (l * A) := by rw [Int.mul_left_comm]
  rw [e3, e4]
  generalize l * A = P at *
  omega
theorem rotL_succ {x : Int} (h : in64 x) {k : Nat} (hk : k < 63) : rotL x (k + 1) = rotL x k * 2 % 18446744073709551616 + rotL x k / 9223372036854775808 := by
  unfold rotL in64 at *
  have hA : (0 : Int) < 2 ^ k := Int.pow_pos (by omega)
  have hB : (0 : Int) < 2 ^ (63 - k) := Int.pow_pos (by omega)
  have hAB : (2 : Int) ^ k * 2 ^ (63 - k) = 9223372036854775808 := by rw [← Int.pow_add, show k + (63 - k) = 63 by omega]; rfl
  have := rotL_step h.1 (by omega : x < 18446744073709551616) hA hB hAB
  rw [show (2 : Int) ^ (k + 1) = 2 * 2 ^ k by rw [Int.pow_succ, Int.mul_comm], show 64 - (k + 1) = 63 - k by omega, show (2 : Int) ^ (64 - k) = 2 * 2 ^ (63 - k) by rw [show 64 - k = (63 - k) + 1 by omega, Int.pow_succ, Int.mul_comm]]
  exact this
set_option maxHeartbeats 4000000 in
theorem rotL_in {x : Int} (h : in64 x) {k : Nat} (hk : k < 64) : in64 (rotL x k) := by
  induction k with
  | zero => rw [rotL_zero h]; exact h
  | succ k ih =>
    have := ih (by omega)
    rw [rotL_succ h (by omega)]
    unfold in64 at *
    omega

theorem bits_or_comm (x y : Int) : bits .or .u64 x y = bits .or .u64 y x := by
  unfold bits
  simp only [BitVec.or_comm]

theorem rot_or {x : Int} (h : in64 x) {n : Nat} (hn : n < 64) : bits .or .u64 (IntKind.u64.wrap (x * 2 ^ n)) (x / 2 ^ (64 - n)) = rotL x n := by
  have hw : IntKind.u64.wrap (x * 2 ^ n) = x * 2 ^ n % 18446744073709551616 := by simp [IntKind.wrap, IntKind.bits, IntKind.signed]
  have hp : (18446744073709551616 : Int) = 2 ^ (64 - n) * 2 ^ n := by
    rw [← Int.pow_add, show 64 - n + n = 64 by omega]; rfl
  have hpos : (0 : Int) < 2 ^ n := Int.pow_pos (by omega)
  have hpos2 : (0 : Int) < 2 ^ (64 - n) := Int.pow_pos (by omega)
  have e : x * 2 ^ n % 18446744073709551616 = (x % 2 ^ (64 - n)) * 2 ^ n := by
    rw [hp, mul_emod_r _ _ hpos]
  have hr := rotL_in h hn
  unfold rotL in64 at *
  rw [hw, bits_or_comm, e]
  rw [e] at hr
  rw [bits_or_add _ _ _ (Int.ediv_nonneg h.1 (Int.le_of_lt hpos2)) ?_ (Int.emod_nonneg _ (Int.ne_of_gt hpos2)) ?_]
  · omega
  · exact Int.ediv_lt_of_lt_mul hpos2 (by rw [Int.mul_comm, ← hp]; omega)
  · omega

set_option maxRecDepth 100000 in
set_option maxHeartbeats 4000000 in
theorem rot_raw (x : Int) (n : Nat) (hn : n < 64) (ha : bits .and .u64 (n : Int) 63 = (n : Int)) (r : Int) (hr : bits .or .u64 (IntKind.u64.wrap (x * 2 ^ n)) (x / 2 ^ (64 - n)) = r) :
    Pure Try.prog 134 #[.int .u64 x, .int .i64 (n : Int)] (.int .u64 r) := fun w => by
  have h0 : (0 : Int) ≤ (n : Int) := by omega
  have h1 : (n : Int) ≤ 64 := by omega
  have h3 : IntKind.u64.wrap (64 - (n : Int)) = ((64 - n : Nat) : Int) := by simp [IntKind.wrap, IntKind.bits, IntKind.signed]; omega
  have h4 : ((64 - n : Nat) : Int) ≤ 64 := by omega
  go_enter Try.func134, Try.ntmps134
  go_wp2_with fail
  go_ret
  exact ⟨rfl, Kept.refl w⟩
theorem and_63 : ∀ n : Nat, n < 64 → bits .and .u64 (n : Int) 63 = (n : Int) := by decide +kernel
/-- bits.RotateLeft64 -/
theorem k_rot {x : Int} (h : in64 x) {n : Nat} (hn : n < 64) : Pure Try.prog 134 #[.int .u64 x, .int .i64 (n : Int)] (.int .u64 (rotL x n)) :=
  rot_raw x n hn (and_63 n hn) _ (rot_or h hn)

set_option maxRecDepth 100000 in
set_option maxHeartbeats 4000000 in
/-- The reference's rotate -/
theorem r_rot {x : Int} (h : in64 x) {n : Nat} (hn : n < 64) : Pure Try.prog 136 #[.int .u64 x, .int .i64 (n : Int)] (.int .u64 (rotL x n)) := fun w => by
  have hz := rotL_zero h
  go_enter Try.func136, Try.ntmps136
  go_wp2_with fail
  go_loopw [0, 5] (fun v t wr => ∃ k : Nat, k ≤ n ∧ t = .int .i64 k ∧ v = .int .u64 (rotL x k) ∧ wr = w) (fun _ t _ => n - (intOf t).toNat)
  case atStart => exact ⟨0, Nat.zero_le _, rfl, by rw [hz], rfl⟩
  case round =>
    obtain ⟨k, hk, rfl, rfl, rfl⟩ := hrel
    clear hz
    have hy := rotL_in h (k := k) (by omega)
    rcases Nat.lt_or_ge k n with hkn | hkn
    · have hs := rotL_succ h (k := k) (by omega)
      have hS := Lib.hid hs
      clear hs
      generalize hyy : rotL x k = y at *
      unfold in64 at hy
      have hkn2 : (k : Int) < (n : Int) := by omega
      have w1 : IntKind.u64.wrap (y * 2) = y * 2 % 18446744073709551616 := by simp [IntKind.wrap, IntKind.bits, IntKind.signed]
      have w2 : IntKind.u64.wrap (y * 2 % 18446744073709551616 + y / 9223372036854775808) = y * 2 % 18446744073709551616 + y / 9223372036854775808 := by simp [IntKind.wrap, IntKind.bits, IntKind.signed]; omega
      have w3 : IntKind.u64.wrap (y * 2 + y / 9223372036854775808) = y * 2 % 18446744073709551616 + y / 9223372036854775808 := by simp [IntKind.wrap, IntKind.bits, IntKind.signed]; omega
      go_wp2_with fail
      go_roundw
      case rel => exact ⟨k + 1, by omega, by go_num, by rw [hS.out], by first | rfl | trivial⟩
      case measure => simp [intOf]; omega
    · have hkn2 : (n : Int) ≤ (k : Int) := by omega
      obtain rfl : k = n := by omega
      go_wp2_with fail
      go_ret
      exact ⟨rfl, Kept.refl _⟩

set_option maxRecDepth 100000 in
set_option maxHeartbeats 4000000 in
/-- The reference's power -/
theorem r_power {n : Nat} (hn : n < 64) : Pure Try.prog 138 #[.int .i64 (n : Int)] (.int .u64 (2 ^ n)) := fun w => by
  go_enter Try.func138, Try.ntmps138
  go_wp2_with fail
  go_loopw [3, 4] (fun v t wr => ∃ k : Nat, k ≤ n ∧ t = .int .i64 k ∧ v = .int .u64 (2 ^ k) ∧ wr = w) (fun _ t _ => n - (intOf t).toNat)
  case atStart => exact ⟨0, Nat.zero_le _, rfl, rfl, rfl⟩
  case round =>
    obtain ⟨k, hk, rfl, rfl, rfl⟩ := hrel
    rcases Nat.lt_or_ge k n with hkn | hkn
    · have hkn2 : (k : Int) < (n : Int) := by omega
      have e : IntKind.u64.wrap ((2 : Int) ^ k * 2) = 2 ^ (k + 1) := by
        have : (2 : Int) ^ (k + 1) < 18446744073709551616 := by
          exact pow_lt64 (by omega)
        have h0 : (0 : Int) < 2 ^ (k + 1) := Int.pow_pos (by omega)
        rw [← Int.pow_succ]
        simp only [IntKind.wrap, IntKind.bits, IntKind.signed]
        simp
        omega
      go_wp2_with fail
      go_roundw
      case rel => exact ⟨k + 1, by omega, by go_num, by first | rfl | (congr 1; go_num; done) | (congr 1; go_num; omega), by first | rfl | trivial⟩
      case measure => simp [intOf]; omega
    · have hkn2 : (n : Int) ≤ (k : Int) := by omega
      obtain rfl : k = n := by omega
      go_wp2_with fail
      go_ret
      exact ⟨rfl, Kept.refl _⟩
end Go.Proofs.Ytnajihlhcdedgaa
