/-
  Doubles: a quotient that is exact; a whole number, made whole.
-/
import Derived.Test.YtbpmgdneiejhoaaQ7
namespace Go.Proofs.Ytbpmgdneiejhoaa
open Go.RowKit Ieee
set_option linter.unusedVariables false
set_option linter.unusedSimpArgs false

theorem run_store_float (P : Program) (w : World) (a : Addr) (m : Mode) (k : FloatKind) (b : Nat) : (store a (.float k b) m).run P w = stored P w a (.float k b) m := run_store P w a _ m rfl

theorem log2_mul_le (a b : Nat) (ha : 0 < a) (hb : 0 < b) : (a * b).log2 ≤ a.log2 + b.log2 + 1 := by
  have h1 : a < 2 ^ (a.log2 + 1) := Nat.lt_log2_self
  have h2 : b < 2 ^ (b.log2 + 1) := Nat.lt_log2_self
  have h3 : a * b < 2 ^ (a.log2 + 1) * 2 ^ (b.log2 + 1) := Nat.mul_lt_mul'' h1 h2
  rw [← Nat.pow_add] at h3
  have := (Nat.log2_lt (Nat.pos_iff_ne_zero.1 (Nat.mul_pos ha hb))).2 h3
  omega

theorem sign_of {s : Bool} {m a : Nat} {x : Int} (h : signed s m a = x) (hx : x ≠ 0) : (s = true ∧ x < 0) ∨ (s = false ∧ 0 < x) := by
  cases s with
  | true =>
    left
    rw [signed_neg] at h
    have := V_nonneg m a
    exact ⟨rfl, by omega⟩
  | false =>
    right
    rw [signed_pos] at h
    have := V_nonneg m a
    exact ⟨rfl, by omega⟩
theorem mul_pow_pos {x : Int} (k : Nat) : 0 < x * 2 ^ k ↔ 0 < x := by
  have := mul_pow_lt (a := 0) (b := x) k
  rw [Int.zero_mul] at this; exact this
theorem mul_pow_neg {x : Int} (k : Nat) : x * 2 ^ k < 0 ↔ x < 0 := by
  have := mul_pow_lt (a := x) (b := 0) k
  rw [Int.zero_mul] at this; exact this
theorem mul_pow_ne {x : Int} (k : Nat) (h : x ≠ 0) : x * 2 ^ k ≠ 0 := Int.mul_ne_zero h (by have := pow_pos2 k; omega)

theorem Fl_div {v u t q : Int} {x y : Nat} (hx : Fl (v * u) t x) (hy : Fl u q y) (hu : u ≠ 0) (hv : v.natAbs < 2 ^ 53) (ht : -1074 ≤ t - q) (ht2 : t - q ≤ 900) (hb : t ≤ 2000 ∧ q ≤ 2000) :
    ∃ r, double.div x y = some r ∧ Fl v (t - q) r := by
  obtain ⟨h1, h2, h3⟩ := hx
  obtain ⟨k1, k2, k3⟩ := hy
  obtain ⟨s, m, i, e1, hi⟩ := fin_number h1
  obtain ⟨s', n, j, e2, hj⟩ := fin_number k1
  rw [e1] at h3
  rw [e2] at k3
  simp only [V] at h3 k3
  have hn : n ≠ 0 := by
    rintro rfl
    rw [signed_zero] at k3
    exact mul_pow_ne _ hu k3.symm
  have hmag : ∀ a, double.div x y = some a ↔ double.nearest (s ^^ s') (2 * ((m <<< (54 + n.log2 - m.log2)) / n) + ((m <<< (54 + n.log2 - m.log2)) % n != 0).toNat) (i - j - (54 + n.log2 - m.log2 : Nat) - 1) = a := by
    intro a
    have : double.div x y = some (double.nearest (s ^^ s') (2 * ((m <<< (54 + n.log2 - m.log2)) / n) + ((m <<< (54 + n.log2 - m.log2)) % n != 0).toNat) (i - j - (54 + n.log2 - m.log2 : Nat) - 1)) := by
      unfold Format.div
      rw [e1, e2]
      unfold Datum.quotient
      simp only [if_neg hn]
      rfl
    rw [this]
    exact ⟨fun h => Option.some.inj h, fun h => by rw [h]⟩
  refine ⟨_, (hmag _).2 rfl, ?_⟩
  generalize hmore : 54 + n.log2 - m.log2 = more
  by_cases hv0 : v = 0
  · subst hv0
    have hm0 : m = 0 := by
      have := congrArg Int.natAbs h3
      rw [natAbs_signed, Int.zero_mul, Int.zero_mul] at this
      rcases Nat.mul_eq_zero.1 this with h | h
      · exact h
      · have := Nat.two_pow_pos (i + 1074).toNat; omega
    subst hm0
    rw [Nat.shiftLeft_eq, Nat.zero_mul, Nat.zero_div, Nat.zero_mod, Nat.mul_zero]
    exact Fl_write ht ht2 hv ((2000 + (i - j - (more : Int) - 1).natAbs + (t - q).natAbs)) (by omega) (by omega) (by rw [Int.zero_mul]; exact signed_zero _ _)
  · have hvu : v * u ≠ 0 := Int.mul_ne_zero hv0 hu
    have hsg := sign_of h3 (mul_pow_ne _ hvu)
    have hsg' := sign_of k3 (mul_pow_ne _ hu)
    have a1 : m * 2 ^ (i + 1074).toNat = v.natAbs * u.natAbs * 2 ^ (t + 1074).toNat := by
      have := congrArg Int.natAbs h3
      rw [natAbs_signed, natAbs_mul_pow, Int.natAbs_mul] at this
      exact this
    have a2 : n * 2 ^ (j + 1074).toNat = u.natAbs * 2 ^ (q + 1074).toNat := by
      have := congrArg Int.natAbs k3
      rw [natAbs_signed, natAbs_mul_pow] at this
      exact this
    have hva : 0 < v.natAbs := by omega
    have hua : 0 < u.natAbs := by omega
    have hm0 : 0 < m := by
      rcases Nat.eq_zero_or_pos m with h | h
      · rw [h, Nat.zero_mul] at a1
        have := Nat.mul_pos (Nat.mul_pos hva hua) (Nat.two_pow_pos (t + 1074).toNat)
        omega
      · exact h
    -- m * 2^(i+q) = |v| n 2^(t+j)
    have a3 : m * 2 ^ ((i + 1074).toNat + (q + 1074).toNat) = v.natAbs * n * 2 ^ ((t + 1074).toNat + (j + 1074).toNat) := by
      refine Nat.eq_of_mul_eq_mul_right hua ?_
      have l : m * 2 ^ ((i + 1074).toNat + (q + 1074).toNat) * u.natAbs = (m * 2 ^ (i + 1074).toNat) * (u.natAbs * 2 ^ (q + 1074).toNat) := by
        rw [Nat.pow_add]; simp only [Nat.mul_assoc, Nat.mul_comm, Nat.mul_left_comm]
      rw [l, a1, ← a2, Nat.pow_add]
      simp only [Nat.mul_assoc, Nat.mul_comm, Nat.mul_left_comm]
    obtain ⟨e, he⟩ : ∃ e : Nat, m * 2 ^ more = v.natAbs * n * 2 ^ e ∧ (e : Int) = more - ((i - j) - (t - q)) := by
      have hlv : v.natAbs.log2 ≤ 52 := by
        have := (Nat.log2_lt (by omega : v.natAbs ≠ 0)).2 hv
        omega
      have hle : (i - j) - (t - q) ≤ more := by
        rcases Int.lt_or_le ((i - j) - (t - q)) 1 with h | h
        · omega
        · have b1 : m * 2 ^ ((i - j) - (t - q)).toNat = v.natAbs * n := by
            have x1 : (i + 1074).toNat + (q + 1074).toNat = ((i - j) - (t - q)).toNat + ((t + 1074).toNat + (j + 1074).toNat) := by omega
            rw [x1, Nat.pow_add, ← Nat.mul_assoc] at a3
            exact Nat.eq_of_mul_eq_mul_right (Nat.two_pow_pos _) a3
          have b2 := log2_mul_pow m hm0 ((i - j) - (t - q)).toNat
          rw [b1] at b2
          have b3 := log2_mul_le v.natAbs n hva (Nat.pos_of_ne_zero hn)
          omega
      refine ⟨(more - ((i - j) - (t - q))).toNat, ?_, by omega⟩
      refine Nat.eq_of_mul_eq_mul_right (Nat.two_pow_pos ((t + 1074).toNat + (j + 1074).toNat)) ?_
      have x2 : (more - ((i - j) - (t - q))).toNat + ((i + 1074).toNat + (q + 1074).toNat) = more + ((t + 1074).toNat + (j + 1074).toNat) := by omega
      have l : v.natAbs * n * 2 ^ (more - ((i - j) - (t - q))).toNat * 2 ^ ((t + 1074).toNat + (j + 1074).toNat) = v.natAbs * n * 2 ^ ((t + 1074).toNat + (j + 1074).toNat) * 2 ^ (more - ((i - j) - (t - q))).toNat := by
        simp only [Nat.mul_assoc, Nat.mul_comm, Nat.mul_left_comm]
      rw [l, ← a3, Nat.mul_assoc, Nat.mul_assoc, ← Nat.pow_add, ← Nat.pow_add]
      congr 2
      omega
    obtain ⟨he1, he2⟩ := he
    have hdiv : (m <<< more) / n = v.natAbs * 2 ^ e := by
      rw [Nat.shiftLeft_eq, he1, show v.natAbs * n * 2 ^ e = v.natAbs * 2 ^ e * n by simp only [Nat.mul_assoc, Nat.mul_comm, Nat.mul_left_comm], Nat.mul_div_cancel _ (Nat.pos_of_ne_zero hn)]
    have hmod : (m <<< more) % n = 0 := by
      rw [Nat.shiftLeft_eq, he1, show v.natAbs * n * 2 ^ e = v.natAbs * 2 ^ e * n by simp only [Nat.mul_assoc, Nat.mul_comm, Nat.mul_left_comm], Nat.mul_mod_left]
    have hsv : signed (s ^^ s') v.natAbs 0 = v := by
      rcases hsg with ⟨rfl, g1⟩ | ⟨rfl, g1⟩ <;> rcases hsg' with ⟨rfl, g2⟩ | ⟨rfl, g2⟩
      · rw [mul_pow_neg] at g1 g2
        have : 0 < v := by
          rcases Int.lt_trichotomy v 0 with h | h | h
          · have := Int.mul_pos_of_neg_of_neg h g2; omega
          · exact absurd h hv0
          · exact h
        show signed false v.natAbs 0 = v
        rw [signed_pos]; simp; omega
      · rw [mul_pow_neg] at g1
        rw [mul_pow_pos] at g2
        have : v < 0 := by
          rcases Int.lt_trichotomy v 0 with h | h | h
          · exact h
          · exact absurd h hv0
          · have := Int.mul_pos h g2; omega
        show signed true v.natAbs 0 = v
        rw [signed_neg]; simp; omega
      · rw [mul_pow_pos] at g1
        rw [mul_pow_neg] at g2
        have : v < 0 := by
          rcases Int.lt_trichotomy v 0 with h | h | h
          · exact h
          · exact absurd h hv0
          · have := Int.mul_neg_of_pos_of_neg h g2; omega
        show signed true v.natAbs 0 = v
        rw [signed_neg]; simp; omega
      · rw [mul_pow_pos] at g1 g2
        have : 0 < v := by
          rcases Int.lt_trichotomy v 0 with h | h | h
          · have := Int.mul_neg_of_neg_of_pos h g2; omega
          · exact absurd h hv0
          · exact h
        show signed false v.natAbs 0 = v
        rw [signed_pos]; simp; omega
    rw [hdiv, hmod]
    have hz : ((0 : Nat) != 0).toNat = 0 := rfl
    rw [hz, Nat.add_zero, show 2 * (v.natAbs * 2 ^ e) = v.natAbs * 2 ^ (e + 1) by rw [Nat.pow_succ]; simp only [Nat.mul_assoc, Nat.mul_comm, Nat.mul_left_comm]]
    refine Fl_write ht ht2 hv (5000 + more + (i - j).natAbs + (t - q).natAbs) (by omega) (by omega) ?_
    rw [signed_mulpow]
    have x3 : e + 1 + (i - j - (more : Int) - 1 + ((5000 + more + (i - j).natAbs + (t - q).natAbs : Nat) : Int)).toNat = 0 + (t - q + ((5000 + more + (i - j).natAbs + (t - q).natAbs : Nat) : Int)).toNat := by omega
    rw [x3, signed_add, hsv]

/-- A whole number's word is its own rounding. -/
theorem rte_Fl {k : Nat} {q : Nat} (h : Fl (k : Int) 0 q) (hk : k < 2 ^ 53) (hq : q < 18446744073709551616) : Fl (k : Int) 0 (rte q) := by
  obtain ⟨h1, h2, h3⟩ := h
  rcases read_cases q hq with ⟨s, m, p, hr, hm, hp0, hp⟩ | ⟨s, hr⟩ | ⟨s, t, hr⟩
  · obtain ⟨A, d, hd, hd0, hA, hdp, hV⟩ := split_number (s := s) hm hp0 hp
    obtain ⟨f1, v1⟩ := rte_V hr hm hp0 hp hA hdp hd0
    rw [hr, hV] at h3
    have e0 : ((0 : Int) + 1074).toNat = d + (1074 - d) := by omega
    have hA2 : A = k * 2 ^ d := by
      have := congrArg Int.natAbs h3
      rw [natAbs_signed, natAbs_mul_pow, Int.natAbs_natCast, e0, Nat.pow_add, ← Nat.mul_assoc] at this
      exact Nat.eq_of_mul_eq_mul_right (Nat.two_pow_pos _) this
    have hRE : RE A d = k := by
      unfold RE
      rw [hA2, Nat.mul_div_cancel _ (Nat.two_pow_pos d), Nat.mul_mod_left, if_neg (by have := Nat.two_pow_pos d; omega)]
      rfl
    refine ⟨f1, by omega, ?_⟩
    rw [v1, hRE, ← h3, hA2, signed_mulpow]
    congr 1
  · rw [hr] at h1; simp only [Fin'] at h1
  · rw [hr] at h1; simp only [Fin'] at h1
end Go.Proofs.Ytbpmgdneiejhoaa
