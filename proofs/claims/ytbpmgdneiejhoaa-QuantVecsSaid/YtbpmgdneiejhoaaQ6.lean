/-
  Whole, quant's and the reference's: the same; the arithmetic is valid.
-/
import Derived.Test.YtbpmgdneiejhoaaQ5
namespace Go.Proofs.Ytbpmgdneiejhoaa
open Go.RowKit Ieee
set_option linter.unusedVariables false

theorem num_word (s : Bool) (r : Nat) (hr : r ≤ 9218868437227405312) : Num (double.read (double.word s r)) := by
  rcases Nat.lt_or_ge r 9218868437227405312 with h | h
  · rw [read_word s r h]
    split <;> (intro s' t' he; cases he)
  · have he : r = 9218868437227405312 := by omega
    subst he
    have : double.read (double.word s 9218868437227405312) = .infinity s := by cases s <;> decide
    intro s' t' he
    rw [this] at he
    cases he
theorem num_nearest (s : Bool) (m : Nat) (p : Int) : Num (double.read (double.nearest s m p)) := by
  unfold Format.nearest
  split
  · exact num_word s 0 (by omega)
  · exact num_word s _ (by rw [d_inf]; exact Nat.min_le_right _ _)
theorem num_write {d : Datum} (h : Num d) : Num (double.read (double.write d)) := by
  cases d with
  | number s m p => exact num_nearest s m p
  | infinity s => exact num_word s _ (by rw [d_inf]; exact Nat.le_refl _)
  | nan s t => exact absurd rfl (h s t)
theorem write_lt64 (d : Datum) : double.write d < 18446744073709551616 := double.write_lt d
theorem num_number {s : Bool} {m : Nat} {p : Int} : Num (.number s m p) := by intro s' t' he; cases he
theorem num_infinity {s : Bool} : Num (.infinity s) := by intro s' t' he; cases he

def IsN (d : Datum) : Prop := ∃ s m p, d = .number s m p
theorem Num.cases {d : Datum} (h : Num d) : IsN d ∨ ∃ s, d = .infinity s := by
  cases d with
  | number s m p => exact .inl ⟨_, _, _, rfl⟩
  | infinity s => exact .inr ⟨_, rfl⟩
  | nan s t => exact absurd rfl (h s t)

theorem sum_num {x y : Datum} (hx : IsN x) (hy : Num y) : ∃ d, x.sum y = some d ∧ Num d := by
  obtain ⟨s, m, p, rfl⟩ := hx
  rcases hy.cases with ⟨s', m', p', rfl⟩ | ⟨s', rfl⟩
  · exact ⟨_, rfl, num_number⟩
  · exact ⟨_, rfl, num_infinity⟩
theorem sum_num' {x y : Datum} (hx : Num x) (hy : IsN y) : ∃ d, x.sum y = some d ∧ Num d := by
  obtain ⟨s, m, p, rfl⟩ := hy
  rcases hx.cases with ⟨s', m', p', rfl⟩ | ⟨s', rfl⟩
  · exact ⟨_, rfl, num_number⟩
  · exact ⟨_, rfl, num_infinity⟩

theorem isN_ofInt (n : Int) (h : n.natAbs < 2 ^ 53) : IsN (double.read (floatOfInt .f64 n)) := by
  obtain ⟨s, m, p, h1, _⟩ := fin_number (Fl_ofInt n h).1
  exact ⟨s, m, p, h1⟩

theorem high_some {low step : Nat} {steps : Int} (hl : IsN (double.read low)) (hs : IsN (double.read step)) (hn : steps.natAbs < 2 ^ 53) :
    ∃ r1 h, floatBits .mul .f64 step (floatOfInt .f64 steps) = some r1 ∧ floatBits .add .f64 low r1 = some h ∧ Num (double.read h) ∧ h < 18446744073709551616 := by
  obtain ⟨s, m, p, e1⟩ := hs
  obtain ⟨s', m', p', e2⟩ := isN_ofInt steps hn
  have hr : floatBits .mul .f64 step (floatOfInt .f64 steps) = some (double.write (.number (s ^^ s') (m * m') (p + p'))) := by
    show ((double.read step).product (double.read (floatOfInt .f64 steps))).map double.write = _
    rw [e1, e2]; rfl
  obtain ⟨d, h1, h2⟩ := sum_num hl (num_write (d := .number (s ^^ s') (m * m') (p + p')) num_number)
  refine ⟨_, double.write d, hr, ?_, num_write h2, write_lt64 d⟩
  show ((double.read low).sum (double.read (double.write (.number (s ^^ s') (m * m') (p + p'))))).map double.write = _
  rw [h1]; rfl

theorem sub_some {x low : Nat} (hx : Num (double.read x)) (hl : IsN (double.read low)) : ∃ a, floatBits .sub .f64 x low = some a ∧ Num (double.read a) := by
  have ho : IsN (double.read low).opposite := by
    obtain ⟨s, m, p, e⟩ := hl
    rw [e]; exact ⟨_, _, _, rfl⟩
  obtain ⟨d, h1, h2⟩ := sum_num' hx ho
  refine ⟨double.write d, ?_, num_write h2⟩
  show ((double.read x).sum (double.read low).opposite).map double.write = _
  rw [h1]; rfl

theorem div_some {a step : Nat} {s : Bool} {m : Nat} {p : Int} (ha : Num (double.read a)) (hs : double.read step = .number s m p) (hm : m ≠ 0) :
    ∃ q, floatBits .quo .f64 a step = some q ∧ Num (double.read q) ∧ q < 18446744073709551616 := by
  have : ∃ d, (double.read a).quotient (double.fractionBits + 2) (double.read step) = some d ∧ Num d := by
    rw [hs]
    rcases ha.cases with ⟨s', m', p', e⟩ | ⟨s', e⟩
    · rw [e]
      unfold Datum.quotient
      simp only [if_neg hm]
      exact ⟨_, rfl, num_number⟩
    · rw [e]
      exact ⟨_, rfl, num_infinity⟩
  obtain ⟨d, h1, h2⟩ := this
  refine ⟨double.write d, ?_, num_write h2, write_lt64 d⟩
  show ((double.read a).quotient (double.fractionBits + 2) (double.read step)).map double.write = _
  rw [h1]; rfl

theorem read_zero : double.read 0 = .number false 0 (-1074) := by decide
theorem V_zero : V (double.read 0) = 0 := by rw [read_zero]; simp [V, signed_eq]
theorem order_zero {x : Nat} (hx : Fin' (double.read x)) : FloatKind.f64.format.order x 0 = some (compare (V (double.read x)) 0) := by
  have := order_V hx (y := double.read 0) (by rw [read_zero]; simp only [Fin']; omega)
  rw [V_zero] at this
  exact this

theorem signed_zero (s : Bool) (u : Nat) : signed s 0 u = 0 := by rw [signed_eq]; simp
theorem signed_congr {s : Bool} {m n a b : Nat} (h : m * 2 ^ a = n * 2 ^ b) : signed s m a = signed s n b := by
  rw [signed_eq, signed_eq]
  have e1 : (m : Int) * 2 ^ a = ((m * 2 ^ a : Nat) : Int) := by simp
  have e2 : (n : Int) * 2 ^ b = ((n * 2 ^ b : Nat) : Int) := by simp
  rw [e1, e2, h]
theorem signed_mulpow (s : Bool) (m k u : Nat) : signed s (m * 2 ^ k) u = signed s m (k + u) := signed_congr (by rw [Nat.pow_add, Nat.mul_assoc])

/-- A number and its rounding. -/
theorem rte_V {q : Nat} {s : Bool} {m : Nat} {p : Int} {A d : Nat} (hr : double.read q = .number s m p) (hm : m < 9007199254740992) (hp0 : -1074 ≤ p) (hp : p ≤ 971) (hA : m <<< p.toNat = A) (hd : (-p).toNat = d) (hd0 : d = 0 ∨ A < 9007199254740992) :
    Fin' (double.read (rte q)) ∧ V (double.read (rte q)) = signed s (RE A d) 1074 := by
  have he : rte q = double.nearest s (RE A d) 0 := by
    unfold rte
    rw [hr]
    simp only [Datum.integral, cut_even, hA, hd]
    rfl
  rw [he]
  rcases Nat.eq_zero_or_pos d with h0 | h0
  · have hRE : RE A d = m * 2 ^ p.toNat := by
      rw [h0]
      unfold RE
      rw [Nat.pow_zero, Nat.mod_one, Nat.div_one, if_neg (by omega), ← hA, Nat.shiftLeft_eq]
      rfl
    rw [hRE]
    rcases Nat.eq_zero_or_pos m with hm0 | hm0
    · subst hm0
      rw [Nat.zero_mul]
      have := Fl_write (s := s) (mag := 0) (place := 0) (v := 0) (t := 0) (by omega) (by omega) (by decide) 0 (by omega) (by omega) (by rw [signed_zero, Int.zero_mul])
      refine ⟨this.1, ?_⟩
      rw [this.2.2, signed_zero, Int.zero_mul]
    · have hl : m.log2 ≤ 52 := by
        have := (Nat.log2_lt (by omega : m ≠ 0)).2 (show m < 2 ^ 53 from hm)
        omega
      have := write_exact s m p.toNat 0 hm0 hm (by omega) (by omega)
      refine ⟨this.1, ?_⟩
      rw [this.2, signed_mulpow]
      have e : (0 + (p.toNat : Int) + 1074).toNat = p.toNat + 1074 := by omega
      rw [e]
  · have hA' : A < 9007199254740992 := by rcases hd0 with h | h <;> omega
    have hb : RE A d < 2 ^ 53 := by
      unfold RE
      have h1 : A / 2 ^ d ≤ A / 2 := Nat.div_le_div_left (by have := Nat.pow_le_pow_right (show 0 < 2 by omega) h0; omega) (by omega)
      have h3 : (2 : Nat) ^ 53 = 9007199254740992 := by decide
      split <;> omega
    have := Fl_write (s := s) (mag := RE A d) (place := 0) (v := signed s (RE A d) 0) (t := 0) (by omega) (by omega) (by rw [natAbs_signed]; simpa using hb) 0 (by omega) (by omega) (by rw [signed_eq, signed_eq]; simp)
    refine ⟨this.1, ?_⟩
    have e : ((0 : Int) + 1074).toNat = 1074 := by omega
    rw [this.2.2, ← signed_add, Nat.zero_add, e]

/-- A whole number's word, cut. -/
theorem toInt_Fl {x : Nat} {n : Nat} (h : Fl (n : Int) 0 x) (hn : n ≤ 4294967295) : floatToIntVal .f64 x .u32 = some (n : Int) := by
  obtain ⟨h1, _, h3⟩ := h
  obtain ⟨s, m, p, hr, hp⟩ := fin_number h1
  rw [hr] at h3
  simp only [V] at h3
  have hab : m * 2 ^ (p + 1074).toNat = n * 2 ^ ((0 : Int) + 1074).toNat := by
    have := congrArg Int.natAbs h3
    rw [natAbs_signed, natAbs_mul_pow] at this
    exact this
  have hs : signed s n 0 = (n : Int) := by
    refine mul_pow_cancel ((0 : Int) + 1074).toNat ?_
    rw [← h3, ← signed_add, Nat.zero_add]
    exact (signed_congr hab).symm
  have hval : (m <<< p.toNat) / 2 ^ (-p).toNat = n := by
    rw [Nat.shiftLeft_eq]
    rcases Int.lt_or_le p 0 with hlt | hge
    · have e1 : p.toNat = 0 := by omega
      have e2 : ((0 : Int) + 1074).toNat = (-p).toNat + (p + 1074).toNat := by omega
      rw [e1, Nat.pow_zero, Nat.mul_one]
      rw [e2, Nat.pow_add, ← Nat.mul_assoc] at hab
      rw [Nat.eq_of_mul_eq_mul_right (Nat.two_pow_pos _) hab, Nat.mul_div_cancel _ (Nat.two_pow_pos _)]
    · have e1 : (-p).toNat = 0 := by omega
      have e2 : (p + 1074).toNat = p.toNat + ((0 : Int) + 1074).toNat := by omega
      rw [e1, Nat.pow_zero, Nat.div_one]
      rw [e2, Nat.pow_add, ← Nat.mul_assoc] at hab
      exact Nat.eq_of_mul_eq_mul_right (Nat.two_pow_pos _) hab
  have ht : (double.read x).toInt .zero = some (n : Int) := by
    rw [hr]
    simp only [Datum.toInt, Datum.integral, cut_zero, hval]
    rw [hs]
  unfold floatToIntVal
  have hd : FloatKind.f64.decode x = double.read x := rfl
  rw [hd, ht]
  simp only
  rw [if_pos]
  constructor
  · show IntKind.u32.min ≤ (n : Int); simp [IntKind.min, IntKind.signed]
  · show (n : Int) ≤ IntKind.u32.max; simp [IntKind.max, IntKind.signed, IntKind.bits]; omega
end Go.Proofs.Ytbpmgdneiejhoaa
