/-
  Whole, quant's and the reference's: the same.
-/
import Derived.Test.YtbpmgdneiejhoaaQ4
import Derived.Test.YtbpmgdneiejhoaaQ3
import Derived.Laws.BitsAllLaws
namespace Go.Proofs.Ytbpmgdneiejhoaa
open Go.RowKit Ieee
set_option linter.unusedVariables false

theorem cmp_lt {a b : Int} (h : a < b) : compare a b = .lt := by simp [compare, compareOfLessAndEq, h]
theorem cmp_eq {a b : Int} (h : a = b) : compare a b = .eq := by subst h; simp [compare, compareOfLessAndEq]
theorem cmp_gt {a b : Int} (h : b < a) : compare a b = .gt := by
  have h1 : ¬ a < b := by omega
  have h2 : ¬ a = b := by omega
  simp [compare, compareOfLessAndEq, h1, h2]
theorem cmp_cases (a b : Int) : (compare a b = .lt ∧ a < b) ∨ (compare a b = .eq ∧ a = b) ∨ (compare a b = .gt ∧ b < a) := by
  rcases Int.lt_trichotomy a b with h | h | h
  · exact .inl ⟨cmp_lt h, h⟩
  · exact .inr (.inl ⟨cmp_eq h, h⟩)
  · exact .inr (.inr ⟨cmp_gt h, h⟩)

/-- No NaN. -/
def Num (d : Datum) : Prop := ∀ s t, d ≠ .nan s t

theorem nan_false {x : Nat} (h : Num (double.read x)) : nan x = false := by
  have : FloatKind.f64.format.order x x = some .eq := by
    show (double.read x).order (double.read x) = some .eq
    cases hr : double.read x with
    | nan s t => exact absurd hr (h s t)
    | infinity s => simp [Datum.order, compare, compareOfLessAndEq]
    | number s m p => simp [Datum.order, compare, compareOfLessAndEq]
  unfold nan
  rw [this]
  rfl
theorem num_of_nan {x : Nat} (h : nan x = false) : Num (double.read x) := by
  intro s t hr
  have : FloatKind.f64.format.order x x = none := by
    show (double.read x).order (double.read x) = none
    rw [hr]; rfl
  unfold nan at h
  rw [this] at h
  cases h

theorem read_max : double.read 9218868437227405311 = .number false 9007199254740991 971 := by decide
theorem read_min : double.read 18442240474082181119 = .number true 9007199254740991 971 := by decide

theorem V_le_max {m : Nat} {p : Int} (hm : m < 9007199254740992) (hp : p ≤ 971) : (m : Int) * 2 ^ (p + 1074).toNat ≤ (9007199254740991 : Int) * 2 ^ ((971 : Int) + 1074).toNat := by
  have h1 : m * 2 ^ (p + 1074).toNat ≤ 9007199254740991 * 2 ^ ((971 : Int) + 1074).toNat := Nat.mul_le_mul (by omega) (Nat.pow_le_pow_right (by omega) (by omega))
  have e1 : ((m * 2 ^ (p + 1074).toNat : Nat) : Int) = (m : Int) * 2 ^ (p + 1074).toNat := by simp only [Int.natCast_mul, Int.natCast_pow]; rfl
  have e2 : ((9007199254740991 * 2 ^ ((971 : Int) + 1074).toNat : Nat) : Int) = (9007199254740991 : Int) * 2 ^ ((971 : Int) + 1074).toNat := by simp only [Int.natCast_mul, Int.natCast_pow]; rfl
  rw [← e1, ← e2]
  exact Int.ofNat_le.2 h1
theorem V_nonneg (m : Nat) (k : Nat) : 0 ≤ (m : Int) * 2 ^ k := Int.mul_nonneg (by omega) (Int.le_of_lt (pow_pos2 k))

theorem not_gt_max {x : Nat} {s : Bool} {m : Nat} {p : Int} (hr : double.read x = .number s m p) (hm : m < 9007199254740992) (hp0 : -1074 ≤ p) (hp : p ≤ 971) : isGt x 9218868437227405311 = false := by
  have h : FloatKind.f64.format.order x 9218868437227405311 = some (compare (V (.number s m p)) (V (.number false 9007199254740991 971))) := by
    show (double.read x).order (double.read 9218868437227405311) = _
    rw [hr, read_max]
    exact order_V (by simp only [Fin']; omega) (by simp only [Fin']; omega)
  unfold isGt
  rw [h]
  have h1 := V_le_max hm hp
  have h2 := V_nonneg m (p + 1074).toNat
  have h3 : V (.number s m p) ≤ V (.number false 9007199254740991 971) := by
    simp only [V, signed_eq]
    cases s
    · simp only [Bool.false_eq_true, if_false, Int.one_mul]; exact h1
    · simp only [if_true, Bool.false_eq_true, if_false, Int.one_mul, Int.neg_mul]
      exact Int.le_trans (Int.neg_nonpos_of_nonneg h2) (Int.le_trans h2 h1)
  rcases cmp_cases (V (.number s m p)) (V (.number false 9007199254740991 971)) with h | h | h
  · rw [h.1]; rfl
  · rw [h.1]; rfl
  · have := h.2; exact absurd this (Int.not_lt.2 h3)
theorem not_lt_min {x : Nat} {s : Bool} {m : Nat} {p : Int} (hr : double.read x = .number s m p) (hm : m < 9007199254740992) (hp0 : -1074 ≤ p) (hp : p ≤ 971) : isLt x 18442240474082181119 = false := by
  have h : FloatKind.f64.format.order x 18442240474082181119 = some (compare (V (.number s m p)) (V (.number true 9007199254740991 971))) := by
    show (double.read x).order (double.read 18442240474082181119) = _
    rw [hr, read_min]
    exact order_V (by simp only [Fin']; omega) (by simp only [Fin']; omega)
  unfold isLt
  rw [h]
  have h1 := V_le_max hm hp
  have h2 := V_nonneg m (p + 1074).toNat
  have h3 : V (.number true 9007199254740991 971) ≤ V (.number s m p) := by
    simp only [V, signed_eq]
    cases s
    · simp only [Bool.false_eq_true, if_false, if_true, Int.one_mul, Int.neg_mul]
      exact Int.le_trans (Int.neg_nonpos_of_nonneg (Int.le_trans h2 h1)) h2
    · simp only [if_true, Int.neg_mul, Int.one_mul]; exact Int.neg_le_neg h1
  rcases cmp_cases (V (.number s m p)) (V (.number true 9007199254740991 971)) with h | h | h
  · have := h.2; exact absurd this (Int.not_lt.2 h3)
  · rw [h.1]; rfl
  · rw [h.1]; rfl

theorem absB_eq {x : Nat} (hx : x < 18446744073709551616) : absB x = x % 9223372036854775808 := by
  unfold absB
  have := u64_andNot_nat x 9223372036854775808 hx (by omega)
  rw [show ((9223372036854775808 : Int)) = ((9223372036854775808 : Nat) : Int) from rfl, this]
  rw [show 18446744073709551615 - 9223372036854775808 = 2 ^ 63 - 1 from rfl, Nat.and_two_pow_sub_one_eq_mod]
  rfl

theorem read_abs {x : Nat} (hx : x < 18446744073709551616) {s : Bool} : 
    (∀ m p, double.read x = .number s m p → double.read (absB x) = .number false m p) ∧ (double.read x = .infinity s → double.read (absB x) = .infinity false) := by
  rw [absB_eq hx]
  have hr : x % 9223372036854775808 < 9223372036854775808 := Nat.mod_lt _ (by omega)
  have e1 : x % 9223372036854775808 / 9223372036854775808 % 2 = 0 := by omega
  have e2 : x % 9223372036854775808 % 9223372036854775808 = x % 9223372036854775808 := by omega
  unfold Format.read
  simp only [d_sign, d_bin, d_inf, d_least, e1, e2]
  generalize (x / 9223372036854775808 % 2 == 1) = s'
  generalize x % 9223372036854775808 = r
  constructor
  · intro m p h
    by_cases h1 : r < 4503599627370496
    · rw [if_pos h1] at h ⊢; cases h; rfl
    · rw [if_neg h1] at h ⊢
      by_cases h2 : r < 9218868437227405312
      · rw [if_pos h2] at h ⊢; cases h; rfl
      · rw [if_neg h2] at h
        by_cases h3 : r = 9218868437227405312
        · rw [if_pos h3] at h; cases h
        · rw [if_neg h3] at h; cases h
  · intro h
    by_cases h1 : r < 4503599627370496
    · rw [if_pos h1] at h; cases h
    · rw [if_neg h1] at h ⊢
      by_cases h2 : r < 9218868437227405312
      · rw [if_pos h2] at h; cases h
      · rw [if_neg h2] at h ⊢
        by_cases h3 : r = 9218868437227405312
        · rw [if_pos h3]; rfl
        · rw [if_neg h3] at h; cases h

theorem far_number {x : Nat} {s : Bool} {m : Nat} {p : Int} (hr : double.read x = .number s m p) (hm : m < 9007199254740992) (hp0 : -1074 ≤ p) (hp : p ≤ 971) : farR x = false := by
  unfold farR
  rw [not_gt_max hr hm hp0 hp, not_lt_min hr hm hp0 hp]
  rfl
theorem gt_infinity {x : Nat} {s : Bool} (hr : double.read x = .infinity s) : isGt x 9218868437227405311 = !s ∧ isLt x 18442240474082181119 = s := by
  constructor
  · have h : FloatKind.f64.format.order x 9218868437227405311 = some (if s then .lt else .gt) := by
      show (double.read x).order (double.read 9218868437227405311) = _
      rw [hr, read_max]; rfl
    unfold isGt
    rw [h]; cases s <;> rfl
  · have h : FloatKind.f64.format.order x 18442240474082181119 = some (if s then .lt else .gt) := by
      show (double.read x).order (double.read 18442240474082181119) = _
      rw [hr, read_min]; rfl
    unfold isLt
    rw [h]; cases s <;> rfl
theorem far_infinity {x : Nat} {s : Bool} (hr : double.read x = .infinity s) : farR x = true := by
  unfold farR
  rw [(gt_infinity hr).1, (gt_infinity hr).2]
  cases s <;> rfl
theorem fin_far {x : Nat} (hx : x < 18446744073709551616) (hn : nan x = false) : finP x = !farR x := by
  unfold finP infP
  rw [hn]
  rcases read_cases x hx with ⟨s, m, p, h, hm, hp0, hp⟩ | ⟨s, h⟩ | ⟨s, t, h⟩
  · rw [far_number h hm hp0 hp, not_gt_max ((read_abs hx).1 m p h) hm hp0 hp]; rfl
  · rw [far_infinity h, (gt_infinity ((read_abs hx).2 h)).1]; rfl
  · exact absurd h (num_of_nan hn s t)
end Go.Proofs.Ytbpmgdneiejhoaa
