/-
  A quotient of small numbers, rounded to a double and then made whole.
-/
import Derived.Test.YtbpmgdneiejhoaaQN
namespace Go.Proofs.Ytbpmgdneiejhoaa
open Go.RowKit Ieee
set_option linter.unusedVariables false
set_option linter.unusedSimpArgs false

theorem quot_bounds (M n : Nat) (hn : 0 < n) : (2 * (M / n) + (M % n != 0).toNat) * n ≤ 2 * M + n ∧ 2 * M ≤ (2 * (M / n) + (M % n != 0).toNat) * n + n := by
  have h := Nat.div_add_mod M n
  have hm := Nat.mod_lt M hn
  rw [Nat.mul_comm] at h
  have e : (2 * (M / n) + (M % n != 0).toNat) * n = 2 * (M / n * n) + (M % n != 0).toNat * n := by rw [Nat.add_mul, Nat.mul_assoc]
  rw [e]
  generalize M / n * n = X at *
  by_cases hz : M % n = 0
  · rw [hz]; simp; omega
  · have : (M % n != 0).toNat = 1 := by
      have : (M % n != 0) = true := bne_iff_ne.2 hz
      rw [this]; rfl
    rw [this, Nat.one_mul]; omega

theorem div_near {P a : Nat} {x y : Nat} (hx : Fl (P : Int) (-6) x) (hy : Fl (a : Int) (-4) y) (hP : 0 < P) (hP2 : P < 1048576) (ha : 0 < a) (ha2 : a ≤ 64) :
    ∃ q N : Nat, double.div x y = some q ∧ q < 18446744073709551616 ∧ nan q = false ∧ Fl (N : Int) 0 (rte q) ∧ P ≤ 4 * a * N + 2 * a ∧ 4 * a * N ≤ P + 2 * a := by
  obtain ⟨s, m, i, e1, hi⟩ := fin_number hx.1
  obtain ⟨s', n, j, e2, hj⟩ := fin_number hy.1
  have h3 := hx.2.2
  have k3 := hy.2.2
  rw [e1] at h3
  rw [e2] at k3
  simp only [V] at h3 k3
  have hs : s = false := by
    have hp : 0 < (P : Int) * 2 ^ ((-6 : Int) + 1074).toNat := (mul_pow_pos _).2 (by omega)
    rcases sign_of h3 (by omega) with ⟨_, h1⟩ | ⟨h1, _⟩
    · omega
    · exact h1
  have hs' : s' = false := by
    have hp : 0 < (a : Int) * 2 ^ ((-4 : Int) + 1074).toNat := (mul_pow_pos _).2 (by omega)
    rcases sign_of k3 (by omega) with ⟨_, h1⟩ | ⟨h1, _⟩
    · omega
    · exact h1
  subst hs hs'
  have a1 : m * 2 ^ (i + 1074).toNat = P * 2 ^ ((-6 : Int) + 1074).toNat := by
    have := congrArg Int.natAbs h3
    rw [natAbs_signed, natAbs_mul_pow, Int.natAbs_natCast] at this
    exact this
  have a2 : n * 2 ^ (j + 1074).toNat = a * 2 ^ ((-4 : Int) + 1074).toNat := by
    have := congrArg Int.natAbs k3
    rw [natAbs_signed, natAbs_mul_pow, Int.natAbs_natCast] at this
    exact this
  have hn : 0 < n := by
    rcases Nat.eq_zero_or_pos n with h | h
    · rw [h, Nat.zero_mul] at a2
      have := Nat.mul_pos ha (Nat.two_pow_pos ((-4 : Int) + 1074).toNat)
      omega
    · exact h
  have hm : 0 < m := by
    rcases Nat.eq_zero_or_pos m with h | h
    · rw [h, Nat.zero_mul] at a1
      have := Nat.mul_pos hP (Nat.two_pow_pos ((-6 : Int) + 1074).toNat)
      omega
    · exact h
  obtain ⟨more, hmore⟩ : ∃ more, more = 54 + n.log2 - m.log2 := ⟨_, rfl⟩
  obtain ⟨M, hM⟩ : ∃ M, M = m * 2 ^ more := ⟨_, rfl⟩
  obtain ⟨mag, hmag⟩ : ∃ mag, mag = 2 * (M / n) + (M % n != 0).toNat := ⟨_, rfl⟩
  have hdiv : double.div x y = some (double.nearest false mag (i - j - (more : Int) - 1)) := by
    unfold Format.div
    rw [e1, e2]
    unfold Datum.quotient
    simp only [if_neg (Nat.pos_iff_ne_zero.1 hn)]
    rw [hmag, hM, ← Nat.shiftLeft_eq, hmore]
    rfl
  obtain ⟨b1, b2⟩ := quot_bounds M n hn
  rw [← hmag] at b1 b2
  -- how great M is
  have hlM : 2 ^ (54 + n.log2) ≤ M := by
    have h1 : 2 ^ m.log2 ≤ m := Nat.log2_self_le (by omega)
    have h2 : 2 ^ m.log2 * 2 ^ more ≤ m * 2 ^ more := Nat.mul_le_mul_right _ h1
    rw [← Nat.pow_add, ← hM] at h2
    exact Nat.le_trans (Nat.pow_le_pow_right (by omega) (by omega)) h2
  have hln : n < 2 ^ (n.log2 + 1) := Nat.lt_log2_self
  -- the cross product
  have c1 : P * n * 2 ^ (more + (j + 2142).toNat) = 4 * a * M * 2 ^ (i + 2142).toNat := by
    refine Nat.eq_of_mul_eq_mul_right (Nat.two_pow_pos ((-6 : Int) + 1074).toNat) ?_
    have x1 : (i + 2142).toNat = (i + 1074).toNat + ((-6 : Int) + 1074).toNat := by omega
    have x2 : (j + 2142).toNat + 2 = (j + 1074).toNat + ((-4 : Int) + 1074).toNat := by omega
    have x3 : (j + 2142).toNat = (j + 1074).toNat + ((-6 : Int) + 1074).toNat := by omega
    have l : P * n * 2 ^ (more + (j + 2142).toNat) * 2 ^ ((-6 : Int) + 1074).toNat = (P * 2 ^ ((-6 : Int) + 1074).toNat) * (n * 2 ^ (j + 1074).toNat) * 2 ^ more * 2 ^ ((-6 : Int) + 1074).toNat := by
      rw [x3, Nat.pow_add, Nat.pow_add]; simp only [Nat.mul_assoc, Nat.mul_comm, Nat.mul_left_comm]
    have r : 4 * a * M * 2 ^ (i + 2142).toNat * 2 ^ ((-6 : Int) + 1074).toNat = (m * 2 ^ (i + 1074).toNat) * (a * 2 ^ (2 + ((-6 : Int) + 1074).toNat)) * 2 ^ more * 2 ^ ((-6 : Int) + 1074).toNat := by
      rw [x1, hM, Nat.pow_add, Nat.pow_add 2 2, show (2 : Nat) ^ 2 = 4 from rfl]; simp only [Nat.mul_assoc, Nat.mul_comm, Nat.mul_left_comm]
    rw [l, r, a1, a2]
    have x4 : 2 + ((-6 : Int) + 1074).toNat = ((-4 : Int) + 1074).toNat := by omega
    rw [x4]
  have hE36 : (i + 2142).toNat + 36 ≤ more + (j + 2142).toNat := by
    rcases Nat.lt_or_ge (more + (j + 2142).toNat) ((i + 2142).toNat + 36) with h | h
    · exfalso
      have q1 : P * n * 2 ^ (more + (j + 2142).toNat) ≤ P * n * 2 ^ ((i + 2142).toNat + 35) := Nat.mul_le_mul_left _ (Nat.pow_le_pow_right (by omega) (by omega))
      rw [c1, Nat.add_comm (i + 2142).toNat 35, Nat.pow_add, ← Nat.mul_assoc] at q1
      have q2 := Nat.le_of_mul_le_mul_right q1 (Nat.two_pow_pos _)
      have q3 : P * n < 2 ^ 20 * 2 ^ (n.log2 + 1) := Nat.mul_lt_mul'' (show P < 2 ^ 20 from hP2) hln
      have q4 : P * n * 2 ^ 35 < 2 ^ 20 * 2 ^ (n.log2 + 1) * 2 ^ 35 := Nat.mul_lt_mul_of_pos_right q3 (Nat.two_pow_pos 35)
      rw [← Nat.pow_add, ← Nat.pow_add] at q4
      have q5 : 4 * 2 ^ (54 + n.log2) ≤ 4 * a * M := Nat.mul_le_mul (by omega) hlM
      have q6 : 2 ^ (20 + (n.log2 + 1) + 35) = 4 * 2 ^ (54 + n.log2) := by rw [show 20 + (n.log2 + 1) + 35 = 2 + (54 + n.log2) by omega, Nat.pow_add 2 2]
      omega
    · exact h
  obtain ⟨E, hE⟩ : ∃ E, E = more + (j + 2142).toNat - (i + 2142).toNat := ⟨_, rfl⟩
  have ea : P * n * 2 ^ E = 4 * a * M := by
    have x : more + (j + 2142).toNat = E + (i + 2142).toNat := by omega
    rw [x, Nat.pow_add, ← Nat.mul_assoc] at c1
    exact Nat.eq_of_mul_eq_mul_right (Nat.two_pow_pos _) c1
  have hplace : i - j - (more : Int) - 1 = -(E : Int) - 1 := by omega
  -- how great mag is
  have hQ : 2 ^ 53 ≤ M / n := by
    refine (Nat.le_div_iff_mul_le hn).2 ?_
    have h1 : 2 ^ 53 * n ≤ 2 ^ 53 * 2 ^ (n.log2 + 1) := Nat.mul_le_mul_left _ (by omega)
    rw [← Nat.pow_add, show 53 + (n.log2 + 1) = 54 + n.log2 by omega] at h1
    omega
  have hmlo : 2 ^ 54 ≤ mag := by rw [hmag, show (2 : Nat) ^ 54 = 2 * 2 ^ 53 from rfl]; omega
  have hm0 : mag ≠ 0 := by have : (0 : Nat) < 2 ^ 54 := Nat.two_pow_pos 54; omega
  have hlogl : 54 ≤ mag.log2 := (Nat.le_log2 hm0).2 hmlo
  have hself : 2 ^ mag.log2 ≤ mag := Nat.log2_self_le hm0
  have hltm : mag < 2 ^ (mag.log2 + 1) := Nat.lt_log2_self
  have hup : mag.log2 ≤ 19 + E := by
    have h1 : 4 * M ≤ P * n * 2 ^ E := by rw [ea]; exact Nat.mul_le_mul_right _ (by omega)
    have h2 : 2 * mag * n ≤ (P * 2 ^ E + 2) * n := by
      have h3 : P * n * 2 ^ E = P * 2 ^ E * n := by simp only [Nat.mul_assoc, Nat.mul_comm, Nat.mul_left_comm]
      rw [Nat.add_mul, Nat.mul_assoc 2 mag, ← h3]
      omega
    have h3 := Nat.le_of_mul_le_mul_right h2 hn
    have h4 : P * 2 ^ E ≤ (2 ^ 20 - 1) * 2 ^ E := Nat.mul_le_mul_right _ (by omega)
    have h5 : (2 ^ 20 - 1) * 2 ^ E + 2 ^ E = 2 ^ (20 + E) := by rw [Nat.pow_add]; omega
    have h6 : 36 ≤ E := by omega
    have h7 : 2 ^ 36 ≤ 2 ^ E := Nat.pow_le_pow_right (by omega) h6
    have h8 : (2 : Nat) ^ 36 = 68719476736 := by decide
    have h9 : 2 * mag < 2 ^ (20 + E) := by omega
    have h10 : mag < 2 ^ (19 + E) := by rw [show 20 + E = 19 + E + 1 by omega, Nat.pow_succ] at h9; omega
    have := (Nat.log2_lt hm0).2 h10
    omega
  have hdown : E ≤ 8 + mag.log2 := by
    have h1 : n * 2 ^ E ≤ 256 * M := by
      have h2 : n * 2 ^ E ≤ P * n * 2 ^ E := Nat.mul_le_mul_right _ (Nat.le_mul_of_pos_left n hP)
      rw [ea] at h2
      exact Nat.le_trans h2 (Nat.mul_le_mul_right _ (by omega))
    have h3 : n * 2 ^ E ≤ n * (128 * (mag + 1)) := by
      have : n * (128 * (mag + 1)) = 128 * (mag * n + n) := by rw [Nat.mul_add 128, Nat.mul_add n, Nat.mul_add 128]; simp only [Nat.mul_assoc, Nat.mul_comm, Nat.mul_left_comm]
      omega
    have h4 := Nat.le_of_mul_le_mul_left h3 hn
    have h5 : 128 * (mag + 1) ≤ 128 * 2 ^ (mag.log2 + 1) := Nat.mul_le_mul_left _ hltm
    have h6 : 128 * 2 ^ (mag.log2 + 1) = 2 ^ (8 + mag.log2) := by rw [show 8 + mag.log2 = 7 + (mag.log2 + 1) by omega, Nat.pow_add 2 7]
    rw [h6] at h5
    exact (Nat.pow_le_pow_iff_right (by omega)).1 (Nat.le_trans h4 h5)
  obtain ⟨drop, hdr⟩ : ∃ drop, drop = mag.log2 - 52 := ⟨_, rfl⟩
  obtain ⟨d, hd⟩ : ∃ d, d = E + 1 - drop := ⟨_, rfl⟩
  have hd34 : 34 ≤ d := by omega
  have hd61 : d ≤ 61 := by omega
  obtain ⟨kept, hkept⟩ : ∃ kept, kept = RE mag drop := ⟨_, rfl⟩
  have hkb : kept ≤ 9007199254740992 ∧ 4503599627370496 ≤ kept := by
    have h1 : mag / 2 ^ drop < 2 ^ 53 := by
      refine (Nat.div_lt_iff_lt_mul (Nat.two_pow_pos _)).2 ?_
      rw [← Nat.pow_add, show 53 + drop = mag.log2 + 1 by omega]; exact hltm
    have h2 : 2 ^ 52 ≤ mag / 2 ^ drop := by
      refine (Nat.le_div_iff_mul_le (Nat.two_pow_pos _)).2 ?_
      rw [← Nat.pow_add, show 52 + drop = mag.log2 by omega]; exact hself
    have h3 : (2 : Nat) ^ 53 = 9007199254740992 := by decide
    have h4 : (2 : Nat) ^ 52 = 4503599627370496 := by decide
    rw [hkept]; unfold RE
    split <;> omega
  obtain ⟨r1, r2⟩ := RE_near mag drop
  rw [← hkept] at r1 r2
  obtain ⟨n1, n2⟩ := near_arith P a m n more E drop d mag kept hn (by omega) (by omega) (by rw [← hM]; exact ea) (by rw [← hM]; exact b1) (by rw [← hM]; exact b2) r1 r2
  obtain ⟨f1, f2⟩ := nearest_V false mag (i - j - (more : Int) - 1) (-(d : Int)) kept hm0 (by omega)
    (by rw [cut_even, show (i - j - (more : Int) - 1 - -(d : Int)).toNat = 0 by omega, show (-(d : Int) - (i - j - (more : Int) - 1)).toNat = drop by omega, Nat.shiftLeft_zero]; exact hkept) hkb.1 (fun _ => hkb.2) (by omega)
  rw [show (-(d : Int) + 1074).toNat = 1074 - d by omega, signed_pos] at f2
  obtain ⟨q, hq⟩ : ∃ q, q = double.nearest false mag (i - j - (more : Int) - 1) := ⟨_, rfl⟩
  rw [← hq] at f1 f2 hdiv
  have q64 : q < 18446744073709551616 := double.div_lt hdiv
  have hIs : IsN (double.read q) := by obtain ⟨s, m', p, e, _⟩ := fin_number f1; exact ⟨s, m', p, e⟩
  have hNum : Num (double.read q) := by obtain ⟨_, _, _, e⟩ := hIs; rw [e]; exact num_number
  rcases read_cases q q64 with ⟨s, m', p, hr, hm', hp0, hp⟩ | ⟨s, hr⟩ | ⟨s, t, hr⟩
  · obtain ⟨A, d', hd', hd0, hA, hdp, hV⟩ := split_number (s := s) hm' hp0 hp
    have hs : s = false := by
      rw [hr, hV] at f2
      have hpos : 0 < (kept : Int) * 2 ^ (1074 - d) := (mul_pow_pos _).2 (by omega)
      rcases sign_of f2 (by omega) with ⟨_, h1⟩ | ⟨h1, _⟩
      · omega
      · exact h1
    subst hs
    obtain ⟨g1, g2⟩ := rte_V hr hm' hp0 hp hA hdp hd0
    rw [hr, hV, signed_pos] at f2
    have f3 : A * 2 ^ (1074 - d') = kept * 2 ^ (1074 - d) := by
      have e1 : (A : Int) * 2 ^ (1074 - d') = ((A * 2 ^ (1074 - d') : Nat) : Int) := by simp
      have e2 : (kept : Int) * 2 ^ (1074 - d) = ((kept * 2 ^ (1074 - d) : Nat) : Int) := by simp
      rw [e1, e2] at f2
      exact Int.ofNat_inj.1 f2
    obtain ⟨w1, w2⟩ := RE_near A d'
    have hw : 2 * kept ≤ 2 * (RE A d' * 2 ^ d) + 2 ^ d ∧ 2 * (RE A d' * 2 ^ d) ≤ 2 * kept + 2 ^ d := by
      have hpp : 0 < 2 ^ (1074 - d) := Nat.two_pow_pos _
      have z1 : 2 ^ d' * 2 ^ (1074 - d') = 2 ^ d * 2 ^ (1074 - d) := by rw [← Nat.pow_add, ← Nat.pow_add]; congr 1; omega
      have m1 := Nat.mul_le_mul_right (2 ^ (1074 - d')) w1
      have m2 := Nat.mul_le_mul_right (2 ^ (1074 - d')) w2
      simp only [Nat.add_mul, Nat.mul_assoc, f3, z1] at m1 m2
      constructor
      · refine Nat.le_of_mul_le_mul_right ?_ hpp
        simp only [Nat.add_mul, Nat.mul_assoc]; exact m1
      · refine Nat.le_of_mul_le_mul_right ?_ hpp
        simp only [Nat.add_mul, Nat.mul_assoc]; exact m2
    have hp34 : 2 ^ 34 ≤ 2 ^ d := Nat.pow_le_pow_right (by omega) hd34
    have h34 : (2 : Nat) ^ 34 = 17179869184 := by decide
    refine ⟨q, RE A d', hdiv, q64, nan_false hNum, ⟨g1, by omega, by rw [g2, signed_pos, show ((0 : Int) + 1074).toNat = 1074 by omega]⟩, ?_, ?_⟩
    · -- from above
      have u1 := Nat.mul_le_mul_left (2 * a) hw.1
      have u2 : 2 * a * (2 * kept) = 4 * a * kept := by simp only [Nat.mul_assoc, Nat.mul_comm, Nat.mul_left_comm, show 4 = 2 * 2 from rfl]
      have u3 : 2 * a * (2 * (RE A d' * 2 ^ d) + 2 ^ d) = (4 * a * RE A d' + 2 * a) * 2 ^ d := by
        rw [Nat.mul_add, Nat.add_mul]; simp only [Nat.mul_assoc, Nat.mul_comm, Nat.mul_left_comm, show 4 = 2 * 2 from rfl]
      rw [u2, u3] at u1
      have u4 : P * 2 ^ d ≤ (4 * a * RE A d' + 2 * a) * 2 ^ d + 4 * a := by omega
      rcases Nat.lt_or_ge (4 * a * RE A d' + 2 * a) P with h | h
      · exfalso
        have u5 : (4 * a * RE A d' + 2 * a + 1) * 2 ^ d ≤ P * 2 ^ d := Nat.mul_le_mul_right _ h
        rw [Nat.add_mul, Nat.one_mul] at u5
        omega
      · exact h
    · have u1 := Nat.mul_le_mul_left (2 * a) hw.2
      have u2 : 2 * a * (2 * (RE A d' * 2 ^ d)) = 4 * a * RE A d' * 2 ^ d := by simp only [Nat.mul_assoc, Nat.mul_comm, Nat.mul_left_comm, show 4 = 2 * 2 from rfl]
      have u3 : 2 * a * (2 * kept + 2 ^ d) = 4 * a * kept + 2 * a * 2 ^ d := by
        rw [Nat.mul_add]; simp only [Nat.mul_assoc, Nat.mul_comm, Nat.mul_left_comm, show 4 = 2 * 2 from rfl]
      rw [u2, u3] at u1
      have u4 : 4 * a * RE A d' * 2 ^ d ≤ (P + 2 * a) * 2 ^ d + 4 * a := by rw [Nat.add_mul]; omega
      rcases Nat.lt_or_ge (P + 2 * a) (4 * a * RE A d') with h | h
      · exfalso
        have u5 : (P + 2 * a + 1) * 2 ^ d ≤ 4 * a * RE A d' * 2 ^ d := Nat.mul_le_mul_right _ h
        rw [Nat.add_mul, Nat.one_mul] at u5
        omega
      · exact h
  · rw [hr] at f1; simp only [Fin'] at f1
  · rw [hr] at f1; simp only [Fin'] at f1
end Go.Proofs.Ytbpmgdneiejhoaa
