/-
  Doubles that are a whole number times a power of two: what the operations give.
-/
import Derived.Test.YtbpmgdneiejhoaaIe
import Derived.Laws.FloatArith
namespace Go.Proofs.Ytbpmgdneiejhoaa
open Ieee
set_option linter.unusedVariables false

/-- The word x is worth v * 2^t. -/
def Fl (v t : Int) (x : Nat) : Prop := Fin' (double.read x) ∧ -1074 ≤ t ∧ V (double.read x) = v * 2 ^ (t + 1074).toNat

theorem natAbs_signed (s : Bool) (m u : Nat) : (signed s m u).natAbs = m * 2 ^ u := by
  rw [signed_eq]
  have : ((m : Int) * 2 ^ u) = ((m * 2 ^ u : Nat) : Int) := by simp
  rw [this]
  cases s
  · rw [if_neg (by simp), Int.one_mul, Int.natAbs_natCast]
  · rw [if_pos rfl, Int.neg_mul, Int.one_mul, Int.natAbs_neg, Int.natAbs_natCast]

theorem natAbs_mul_pow (v : Int) (k : Nat) : (v * 2 ^ k).natAbs = v.natAbs * 2 ^ k := by
  have : ((2 : Int) ^ k) = ((2 ^ k : Nat) : Int) := by simp
  rw [Int.natAbs_mul, this, Int.natAbs_natCast]

theorem mul_pow_cancel {a b : Int} (k : Nat) (h : a * 2 ^ k = b * 2 ^ k) : a = b := by
  have hp := pow_pos2 k
  exact Int.eq_of_mul_eq_mul_right (by omega) h

theorem Fl_write {s : Bool} {mag : Nat} {place v t : Int} (ht : -1074 ≤ t) (ht2 : t ≤ 900) (hv : v.natAbs < 2 ^ 53) (b : Nat) (hb1 : 0 ≤ place + b) (hb2 : 0 ≤ t + b)
    (heq : signed s mag (place + b).toNat = v * 2 ^ (t + b).toNat) : Fl v t (double.nearest s mag place) := by
  by_cases hm : mag = 0
  · subst hm
    have hv0 : v = 0 := by
      have h0 : signed s 0 (place + b).toNat = 0 := by rw [signed_eq]; simp
      rw [h0] at heq
      have := mul_pow_cancel (a := 0) (b := v) (t + b).toNat (by rw [Int.zero_mul]; exact heq)
      exact this.symm
    subst hv0
    have hn : double.nearest s 0 place = double.word s 0 := by unfold Format.nearest; rw [if_pos rfl]
    unfold Fl
    rw [hn, read_word s 0 (by omega), if_pos (by omega)]
    refine ⟨by simp only [Fin']; omega, ht, ?_⟩
    simp only [V, signed_eq]
    simp
  · have hab : mag * 2 ^ (place + b).toNat = v.natAbs * 2 ^ (t + b).toNat := by
      rw [← natAbs_signed s, heq, natAbs_mul_pow]
    have hv0 : 0 < v.natAbs := by
      rcases Nat.eq_zero_or_pos v.natAbs with h | h
      · rw [h, Nat.zero_mul] at hab
        have := Nat.mul_pos (Nat.pos_of_ne_zero hm) (Nat.two_pow_pos (place + b).toNat)
        omega
      · exact h
    have hlv : v.natAbs.log2 ≤ 52 := by
      have := (Nat.log2_lt (by omega : v.natAbs ≠ 0)).2 hv
      omega
    by_cases hpt : t ≤ place
    · have hs : signed s mag (place - t).toNat = v := by
        refine mul_pow_cancel (t + b).toNat ?_
        rw [← heq, ← signed_add]
        congr 1
        omega
      have hva : v.natAbs = mag * 2 ^ (place - t).toNat := by rw [← hs, natAbs_signed]
      have hlog : v.natAbs.log2 = mag.log2 + (place - t).toNat := by rw [hva]; exact log2_mul_pow mag (Nat.pos_of_ne_zero hm) _
      have hmle : mag ≤ v.natAbs := by rw [hva]; exact Nat.le_mul_of_pos_right _ (Nat.two_pow_pos _)
      have := write_exact s mag 0 place (Nat.pos_of_ne_zero hm) (by omega) (by omega) (by omega)
      rw [Nat.pow_zero, Nat.mul_one] at this
      refine ⟨this.1, ht, ?_⟩
      rw [this.2, ← hs, ← signed_add]
      congr 1
      omega
    · have hva : mag = v.natAbs * 2 ^ (t - place).toNat := by
        have h2 : (t + b).toNat = (t - place).toNat + (place + b).toNat := by omega
        rw [h2, Nat.pow_add, ← Nat.mul_assoc] at hab
        exact Nat.eq_of_mul_eq_mul_right (Nat.two_pow_pos _) hab
      have hs : signed s v.natAbs 0 = v := by
        refine mul_pow_cancel (t + b).toNat ?_
        rw [← heq, ← signed_add, hva, signed_eq, signed_eq]
        congr 1
        simp only [Int.natCast_mul, Int.natCast_pow]
        rw [Int.mul_assoc, show ((2 : Nat) : Int) = 2 from rfl, ← Int.pow_add]
        congr 2
        omega
      have := write_exact s v.natAbs (t - place).toNat place hv0 hv (by omega) (by omega)
      rw [← hva] at this
      refine ⟨this.1, ht, ?_⟩
      rw [this.2]
      have h3 : (place + ((t - place).toNat : Int) + 1074).toNat = 0 + (t + 1074).toNat := by omega
      rw [h3, signed_add, hs]

theorem fin_number {d : Datum} (h : Fin' d) : ∃ s m p, d = .number s m p ∧ -1074 ≤ p := by
  cases d <;> simp only [Fin'] at h
  exact ⟨_, _, _, rfl, h⟩

theorem Fl_of_V {d : Datum} {v t : Int} (hd : Fin' d) (ht : -1074 ≤ t) (ht2 : t ≤ 900) (hv : v.natAbs < 2 ^ 53) (h : V d = v * 2 ^ (t + 1074).toNat) : Fl v t (double.write d) := by
  obtain ⟨s, m, p, rfl, hp⟩ := fin_number hd
  exact Fl_write ht ht2 hv 1074 (by omega) (by omega) h

theorem Fl_add {v u t : Int} {x y : Nat} (hx : Fl v t x) (hy : Fl u t y) (hs : (v + u).natAbs < 2 ^ 53) (ht : t ≤ 900) : ∃ r, double.add x y = some r ∧ Fl (v + u) t r := by
  obtain ⟨d, h1, h2, h3⟩ := sum_V hx.1 hy.1
  refine ⟨double.write d, by unfold Format.add; rw [h1]; rfl, Fl_of_V h2 hx.2.1 ht hs ?_⟩
  rw [h3, hx.2.2, hy.2.2, Int.add_mul]

theorem Fl_sub {v u t : Int} {x y : Nat} (hx : Fl v t x) (hy : Fl u t y) (hs : (v - u).natAbs < 2 ^ 53) (ht : t ≤ 900) : ∃ r, double.sub x y = some r ∧ Fl (v - u) t r := by
  obtain ⟨d, h1, h2, h3⟩ := sum_V hx.1 (Fin'_opposite hy.1)
  refine ⟨double.write d, by unfold Format.sub; rw [h1]; rfl, Fl_of_V h2 hx.2.1 ht hs ?_⟩
  rw [h3, V_opposite, hx.2.2, hy.2.2, Int.sub_mul]
  omega

theorem signed_mul (s t : Bool) (m n u v : Nat) : signed (s ^^ t) (m * n) (u + v) = signed s m u * signed t n v := by
  rw [signed_eq, signed_eq, signed_eq, Int.pow_add]
  simp only [Int.natCast_mul]
  have e : (m : Int) * n * (2 ^ u * 2 ^ v) = (m * 2 ^ u) * (n * 2 ^ v) := by
    rw [Int.mul_assoc, Int.mul_assoc, ← Int.mul_assoc (n : Int), Int.mul_comm (n : Int) (2 ^ u), Int.mul_assoc]
  rw [e]
  cases s <;> cases t <;> simp [Int.neg_mul, Int.mul_neg]

theorem Fl_mul {v u t q : Int} {x y : Nat} (hx : Fl v t x) (hy : Fl u q y) (hs : (v * u).natAbs < 2 ^ 53) (ht : t + q ≤ 900) (ht2 : -1074 ≤ t + q) : ∃ r, double.mul x y = some r ∧ Fl (v * u) (t + q) r := by
  obtain ⟨h1, h2, h3⟩ := hx
  obtain ⟨k1, k2, k3⟩ := hy
  obtain ⟨s, m, i, e1, hi⟩ := fin_number h1
  obtain ⟨s', n, j, e2, hj⟩ := fin_number k1
  rw [e1] at h3
  rw [e2] at k3
  refine ⟨double.nearest (s ^^ s') (m * n) (i + j), by unfold Format.mul; rw [e1, e2]; rfl, Fl_write ht2 ht hs 2148 (by omega) (by omega) ?_⟩
  have a1 : (i + j + (2148 : Nat)).toNat = (i + 1074).toNat + (j + 1074).toNat := by omega
  have a2 : (t + q + (2148 : Nat)).toNat = (t + 1074).toNat + (q + 1074).toNat := by omega
  simp only [V] at h3 k3
  rw [a1, a2, signed_mul, h3, k3, Int.pow_add]
  rw [Int.mul_assoc, Int.mul_assoc, ← Int.mul_assoc (2 ^ _) u, Int.mul_comm (2 ^ _) u, Int.mul_assoc]

theorem Fl_ofInt (n : Int) (h : n.natAbs < 2 ^ 53) : Fl n 0 (floatOfInt .f64 n) := by
  refine Fl_write (s := decide (n < 0)) (mag := n.natAbs) (place := 0) (by omega) (by omega) h 0 (by omega) (by omega) ?_
  rw [signed_eq]
  by_cases hn : n < 0
  · simp [hn]; omega
  · simp [hn]; omega

theorem Fl_order {v u t : Int} {x y : Nat} (hx : Fl v t x) (hy : Fl u t y) : double.order x y = some (compare v u) := by
  unfold Format.order
  rw [order_V hx.1 hy.1, hx.2.2, hy.2.2, compare_scale]

theorem Fl_scale {v t : Int} {x : Nat} (hx : Fl v t x) (k : Nat) (ht : -1074 ≤ t - k) : Fl (v * 2 ^ k) (t - k) x := by
  refine ⟨hx.1, ht, ?_⟩
  rw [hx.2.2, Int.mul_assoc, ← Int.pow_add]
  congr 2
  omega

theorem Fl_unscale {v t : Int} {x : Nat} (k : Nat) (hx : Fl (v * 2 ^ k) (t - k) x) : Fl v t x := by
  have h2 := hx.2.1
  refine ⟨hx.1, by omega, ?_⟩
  rw [hx.2.2, Int.mul_assoc, ← Int.pow_add]
  congr 2
  omega
end Go.Proofs.Ytbpmgdneiejhoaa
