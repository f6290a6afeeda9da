/-
  Rounding a double to a whole number: by the machine's way, and by what is left over.
-/
import Derived.Test.YtbpmgdneiejhoaaFl
namespace Go.Proofs.Ytbpmgdneiejhoaa
open Ieee
set_option linter.unusedVariables false

/-- n / 2^d to the nearest, of two the even one. -/
def RE (n d : Nat) : Nat := n / 2 ^ d + (if 2 ^ d < 2 * (n % 2 ^ d) ∨ (2 ^ d = 2 * (n % 2 ^ d) ∧ n / 2 ^ d % 2 = 1) then 1 else 0)

theorem small_shift (n d : Nat) (h : n.log2 + 2 < d) : n * 4 ≤ 2 ^ d ∧ n < 2 ^ d := by
  have h1 : n < 2 ^ (n.log2 + 1) := Nat.lt_log2_self
  have h2 : 2 ^ (n.log2 + 3) ≤ 2 ^ d := Nat.pow_le_pow_right (by omega) (by omega)
  have h3 : 2 ^ (n.log2 + 3) = 4 * 2 ^ (n.log2 + 1) := by rw [show n.log2 + 3 = n.log2 + 1 + 2 from rfl, Nat.pow_add]; omega
  omega

theorem cut_even (s : Bool) (n d : Nat) : Toward.even.cut s n d = RE n d := by
  unfold Toward.cut RE
  simp only [Nat.shiftLeft_eq, Nat.one_mul]
  rcases Nat.le_total d (n.log2 + 2) with h | h
  · rw [Nat.min_eq_left h]
    congr 1
    by_cases h1 : 2 ^ d < 2 * (n % 2 ^ d)
    · simp [h1]
    · by_cases h2 : 2 ^ d = 2 * (n % 2 ^ d) ∧ n / 2 ^ d % 2 = 1
      · rw [if_pos (.inr h2)]
        have e1 : (2 ^ d == 2 * (n % 2 ^ d)) = true := by simp only [beq_iff_eq]; exact h2.1
        have e2 : (n / 2 ^ d % 2 == 1) = true := by simp only [beq_iff_eq]; exact h2.2
        simp [e1, e2]
      · rw [if_neg (by rintro (h | h); exact h1 h; exact h2 h)]
        have e1 : decide (2 ^ d < 2 * (n % 2 ^ d)) = false := by simp only [decide_eq_false_iff_not]; exact h1
        have e2 : ((2 ^ d == 2 * (n % 2 ^ d)) && (n / 2 ^ d % 2 == 1)) = false := by
          rw [Bool.and_eq_false_iff]
          by_cases h3 : 2 ^ d = 2 * (n % 2 ^ d)
          · right; simp only [beq_eq_false_iff_ne]; exact fun h4 => h2 ⟨h3, h4⟩
          · left; simp only [beq_eq_false_iff_ne]; exact h3
        rw [e1, e2]; rfl
  · rcases Nat.eq_or_lt_of_le h with h | h
    · rw [← h, Nat.min_self]
      have hl : n < 2 ^ (n.log2 + 1) := Nat.lt_log2_self
      have hp : 2 ^ (n.log2 + 2) = 2 * 2 ^ (n.log2 + 1) := by rw [Nat.pow_succ 2 (n.log2 + 1)]; omega
      have hn : n < 2 ^ (n.log2 + 2) := by omega
      rw [Nat.div_eq_of_lt hn, Nat.mod_eq_of_lt hn, if_neg (by omega)]
      have e1 : decide (2 ^ (n.log2 + 2) < 2 * n) = false := by simp only [decide_eq_false_iff_not]; omega
      have e2 : (2 ^ (n.log2 + 2) == 2 * n) = false := by simp only [beq_eq_false_iff_ne]; omega
      rw [e1, e2]; rfl
    · rw [Nat.min_eq_right (by omega)]
      obtain ⟨h4, h5⟩ := small_shift n d h
      have hl : n < 2 ^ (n.log2 + 1) := Nat.lt_log2_self
      have hp : 2 ^ (n.log2 + 2) = 2 * 2 ^ (n.log2 + 1) := by rw [Nat.pow_succ 2 (n.log2 + 1)]; omega
      have hn : n < 2 ^ (n.log2 + 2) := by omega
      have hd0 : 0 < 2 ^ d := Nat.two_pow_pos d
      rw [Nat.div_eq_of_lt hn, Nat.mod_eq_of_lt hn, Nat.div_eq_of_lt h5, Nat.mod_eq_of_lt h5, if_neg (by omega)]
      have e1 : decide (2 ^ (n.log2 + 2) < 2 * n) = false := by simp only [decide_eq_false_iff_not]; omega
      have e2 : (2 ^ (n.log2 + 2) == 2 * n) = false := by simp only [beq_eq_false_iff_ne]; omega
      rw [e1, e2]; rfl

theorem cut_zero (s : Bool) (n d : Nat) : Toward.zero.cut s n d = n / 2 ^ d := by
  unfold Toward.cut
  simp only [Nat.shiftLeft_eq, Nat.one_mul, Bool.toNat_false, Nat.add_zero]
  rcases Nat.le_total d (n.log2 + 2) with h | h
  · rw [Nat.min_eq_left h]
  · rw [Nat.min_eq_right h]
    have hl : n < 2 ^ (n.log2 + 1) := Nat.lt_log2_self
    have hp : 2 ^ (n.log2 + 2) = 2 * 2 ^ (n.log2 + 1) := by rw [Nat.pow_succ 2 (n.log2 + 1)]; omega
    have h2 : 2 ^ (n.log2 + 2) ≤ 2 ^ d := Nat.pow_le_pow_right (by omega) h
    rw [Nat.div_eq_of_lt (by omega), Nat.div_eq_of_lt (by omega)]

/-- What a word of 64 bits stands for. -/
theorem read_cases (x : Nat) (hx : x < 18446744073709551616) :
    (∃ s m p, double.read x = .number s m p ∧ m < 9007199254740992 ∧ -1074 ≤ p ∧ p ≤ 971) ∨ (∃ s, double.read x = .infinity s) ∨ (∃ s t, double.read x = .nan s t) := by
  unfold Format.read
  simp only [d_sign, d_bin, d_inf, d_least]
  generalize (x / 9223372036854775808 % 2 == 1) = s
  have hr : x % 9223372036854775808 < 9223372036854775808 := Nat.mod_lt _ (by omega)
  generalize x % 9223372036854775808 = r at hr
  by_cases h1 : r < 4503599627370496
  · rw [if_pos h1]
    exact .inl ⟨_, _, _, rfl, by omega, by omega, by omega⟩
  · rw [if_neg h1]
    by_cases h2 : r < 9218868437227405312
    · rw [if_pos h2]
      refine .inl ⟨_, _, _, rfl, ?_, ?_, ?_⟩
      · have := Nat.mod_lt r (show 0 < 4503599627370496 by omega); omega
      · omega
      · omega
    · rw [if_neg h2]
      by_cases h3 : r = 9218868437227405312
      · rw [if_pos h3]; exact .inr (.inl ⟨_, rfl⟩)
      · rw [if_neg h3]; exact .inr (.inr ⟨_, _, rfl⟩)

/-- A finite word, as a whole number over a power of two. -/
theorem split_number {s : Bool} {m : Nat} {p : Int} (hm : m < 9007199254740992) (hp : -1074 ≤ p) (hp2 : p ≤ 971) :
    ∃ A d : Nat, d ≤ 1074 ∧ (d = 0 ∨ A < 9007199254740992) ∧ m <<< p.toNat = A ∧ (-p).toNat = d ∧ V (.number s m p) = signed s A (1074 - d) := by
  refine ⟨m <<< p.toNat, (-p).toNat, by omega, ?_, rfl, rfl, ?_⟩
  · rcases Int.lt_or_le p 0 with h | h
    · right; rw [show p.toNat = 0 by omega, Nat.shiftLeft_zero]; exact hm
    · left; omega
  · simp only [V]
    rw [Nat.shiftLeft_eq, signed_eq, signed_eq]
    congr 1
    simp only [Int.natCast_mul, Int.natCast_pow]
    rw [Int.mul_assoc, show ((2 : Nat) : Int) = 2 from rfl, ← Int.pow_add]
    congr 2
    omega
end Go.Proofs.Ytbpmgdneiejhoaa
