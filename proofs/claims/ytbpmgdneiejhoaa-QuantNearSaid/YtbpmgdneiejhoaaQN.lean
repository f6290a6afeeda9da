/-
  A quotient of small numbers, rounded twice: it is no further than half a step.
-/
import Derived.Test.YtbpmgdneiejhoaaQS
namespace Go.Proofs.Ytbpmgdneiejhoaa
open Go.RowKit Ieee
set_option linter.unusedVariables false
set_option linter.unusedSimpArgs false

theorem RE_near (A d : Nat) : 2 * A ≤ 2 * (RE A d * 2 ^ d) + 2 ^ d ∧ 2 * (RE A d * 2 ^ d) ≤ 2 * A + 2 ^ d := by
  have h := Nat.div_add_mod A (2 ^ d)
  have hp : 0 < 2 ^ d := Nat.two_pow_pos d
  have hm := Nat.mod_lt A hp
  rw [Nat.mul_comm] at h
  unfold RE
  generalize A / 2 ^ d = Q at *
  generalize A % 2 ^ d = R at *
  generalize 2 ^ d = D at *
  split
  · rename_i hc
    rw [Nat.add_mul, Nat.one_mul]
    omega
  · rename_i hc
    rw [Nat.add_zero]
    omega

/-- What is written of a number of many digits. -/
theorem nearest_V (s : Bool) (mag : Nat) (place last : Int) (kept : Nat) (hm : mag ≠ 0) (hl : last = max (place + (mag.log2 : Int) - 52) (-1074))
    (hk : kept = Toward.even.cut s (mag <<< (place - last).toNat) (last - place).toNat) (hk1 : kept ≤ 9007199254740992) (hk2 : -1074 < last → 4503599627370496 ≤ kept) (hl3 : last ≤ 900) :
    Fin' (double.read (double.nearest s mag place)) ∧ V (double.read (double.nearest s mag place)) = signed s kept (last + 1074).toNat := by
  have hl2 : -1074 ≤ last := by rw [hl]; omega
  have hn : double.nearest s mag place = double.word s ((last + 1074).toNat * 4503599627370496 + kept) := by
    unfold Format.nearest
    rw [if_neg hm]
    simp only [d_least, d_bin, d_inf, d_frac]
    have hl' : max (place + (mag.log2 : Int) - ((52 : Nat) : Int)) (-1074) = last := hl.symm
    rw [hl', ← hk, show last - -1074 = last + 1074 by omega, Nat.min_eq_left (by omega)]
  rw [hn, read_word s _ (by omega)]
  by_cases hb : -1074 < last
  · have h1 := hk2 hb
    have hr : ¬ ((last + 1074).toNat * 4503599627370496 + kept < 4503599627370496) := by omega
    rw [if_neg hr]
    by_cases htop : kept = 9007199254740992
    · have e1 : 4503599627370496 + ((last + 1074).toNat * 4503599627370496 + kept) % 4503599627370496 = 4503599627370496 := by omega
      have e2 : (-1074 : Int) + (((last + 1074).toNat * 4503599627370496 + kept) / 4503599627370496 - 1 : Nat) = last + 1 := by omega
      rw [e1, e2, htop]
      refine ⟨by simp only [Fin']; omega, ?_⟩
      simp only [V]
      rw [show (last + 1 + 1074).toNat = 1 + (last + 1074).toNat by omega, show (9007199254740992 : Nat) = 4503599627370496 * 2 ^ 1 from rfl, signed_mulpow]
    · have e1 : 4503599627370496 + ((last + 1074).toNat * 4503599627370496 + kept) % 4503599627370496 = kept := by omega
      have e2 : (-1074 : Int) + (((last + 1074).toNat * 4503599627370496 + kept) / 4503599627370496 - 1 : Nat) = last := by omega
      rw [e1, e2]
      exact ⟨by simp only [Fin']; omega, rfl⟩
  · have hz : last = -1074 := by omega
    have z : (last + 1074).toNat = 0 := by omega
    rw [z, Nat.zero_mul, Nat.zero_add]
    have fin : ∀ (k : Nat) (q : Int) (c : Nat), (q + 1074).toNat = c → -1074 ≤ q → Fin' (.number s k q) ∧ V (.number s k q) = signed s k c := fun k q c hc hq => ⟨by simp only [Fin']; omega, by simp only [V]; rw [hc]⟩
    by_cases hr : kept < 4503599627370496
    · rw [if_pos hr]
      exact fin kept _ 0 (by omega) (by omega)
    · rw [if_neg hr]
      by_cases htop : kept = 9007199254740992
      · have e1 : 4503599627370496 + kept % 4503599627370496 = 4503599627370496 := by omega
        have e2 : kept / 4503599627370496 - 1 = 1 := by omega
        rw [e1, e2, htop]
        have := fin 4503599627370496 (-1074 + ((1 : Nat) : Int)) 1 (by omega) (by omega)
        refine ⟨this.1, this.2.trans ?_⟩
        rw [show (9007199254740992 : Nat) = 4503599627370496 * 2 ^ 1 from rfl, signed_mulpow]
      · have e1 : 4503599627370496 + kept % 4503599627370496 = kept := by omega
        have e2 : kept / 4503599627370496 - 1 = 0 := by omega
        rw [e1, e2]
        exact fin kept _ 0 (by omega) (by omega)

/-- The arithmetic: all that was rounded away, together. -/
theorem near_arith (P a m n more E drop d mag kept : Nat) (hn : 0 < n) (hdrop : 1 ≤ drop) (hd : d + drop = E + 1)
    (e1 : P * n * 2 ^ E = 4 * a * (m * 2 ^ more))
    (e2a : mag * n ≤ 2 * (m * 2 ^ more) + n) (e2b : 2 * (m * 2 ^ more) ≤ mag * n + n)
    (e3a : 2 * mag ≤ 2 * (kept * 2 ^ drop) + 2 ^ drop) (e3b : 2 * (kept * 2 ^ drop) ≤ 2 * mag + 2 ^ drop) :
    P * 2 ^ d ≤ 4 * a * kept + 4 * a ∧ 4 * a * kept ≤ P * 2 ^ d + 4 * a := by
  obtain ⟨c, rfl⟩ : ∃ c, drop = c + 1 := ⟨drop - 1, by omega⟩
  have hc : 1 ≤ 2 ^ c := Nat.one_le_two_pow
  have p1 : 2 ^ (c + 1) = 2 * 2 ^ c := by rw [Nat.pow_succ]; omega
  have hnd : 0 < n * 2 ^ (c + 1) := Nat.mul_pos hn (Nat.two_pow_pos _)
  -- P 2^d times n 2^drop
  have f1 : P * 2 ^ d * (n * 2 ^ (c + 1)) = 4 * a * (2 * (m * 2 ^ more)) := by
    have : P * 2 ^ d * (n * 2 ^ (c + 1)) = P * n * (2 ^ d * 2 ^ (c + 1)) := by simp only [Nat.mul_assoc, Nat.mul_comm, Nat.mul_left_comm]
    rw [this, ← Nat.pow_add, hd, Nat.pow_succ, ← Nat.mul_assoc, e1]
    simp only [Nat.mul_assoc, Nat.mul_comm, Nat.mul_left_comm]
  -- 2 m 2^more against n kept 2^drop
  have k2 : n * (2 * mag) ≤ n * (2 * (kept * 2 ^ (c + 1)) + 2 ^ (c + 1)) := Nat.mul_le_mul_left n e3a
  have k3 : n * (2 * (kept * 2 ^ (c + 1))) ≤ n * (2 * mag + 2 ^ (c + 1)) := Nat.mul_le_mul_left n e3b
  rw [Nat.mul_add] at k2 k3
  have r1 : n * (2 * mag) = 2 * (mag * n) := by simp only [Nat.mul_assoc, Nat.mul_comm, Nat.mul_left_comm]
  have r2 : n * (2 * (kept * 2 ^ (c + 1))) = 2 * (kept * (n * 2 ^ (c + 1))) := by simp only [Nat.mul_assoc, Nat.mul_comm, Nat.mul_left_comm]
  have r3 : n ≤ n * 2 ^ c := Nat.le_mul_of_pos_right n (by omega)
  have r4 : n * 2 ^ (c + 1) = 2 * (n * 2 ^ c) := by rw [p1]; simp only [Nat.mul_assoc, Nat.mul_comm, Nat.mul_left_comm]
  rw [r1, r2] at k2 k3
  have g1 : 2 * (m * 2 ^ more) ≤ kept * (n * 2 ^ (c + 1)) + n * 2 ^ (c + 1) := by omega
  have g2 : kept * (n * 2 ^ (c + 1)) ≤ 2 * (m * 2 ^ more) + n * 2 ^ (c + 1) := by omega
  constructor
  · refine Nat.le_of_mul_le_mul_right ?_ hnd
    rw [f1]
    have := Nat.mul_le_mul_left (4 * a) g1
    have r5 : (4 * a * kept + 4 * a) * (n * 2 ^ (c + 1)) = 4 * a * (kept * (n * 2 ^ (c + 1)) + n * 2 ^ (c + 1)) := by
      rw [Nat.add_mul, Nat.mul_add, Nat.mul_assoc (4 * a)]
    rw [r5]; exact this
  · refine Nat.le_of_mul_le_mul_right ?_ hnd
    rw [Nat.add_mul, f1]
    have := Nat.mul_le_mul_left (4 * a) g2
    rw [Nat.mul_add, ← Nat.mul_assoc (4 * a) kept] at this
    exact this
end Go.Proofs.Ytbpmgdneiejhoaa
