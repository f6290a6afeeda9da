/-
  Doubles in order: the plain law.
-/
import Derived.Test.YtbpmgdneiejhoaaQO
namespace Go.Proofs.Ytbpmgdneiejhoaa
open Go.RowKit Ieee
set_option linter.unusedVariables false
set_option linter.unusedSimpArgs false

theorem read_inv {x : Nat} (hx : x < 18446744073709551616) {s : Bool} {m : Nat} {p : Int} (h : double.read x = .number s m p) :
    x = double.word s ((p + 1074).toNat * 4503599627370496 + m) ∧ m < 9007199254740992 ∧ -1074 ≤ p ∧ (m < 4503599627370496 → p = -1074) := by
  unfold Format.read at h
  simp only [d_sign, d_bin, d_inf, d_least] at h
  have hsx : (x / 9223372036854775808 % 2 == 1) = true ∧ 9223372036854775808 ≤ x ∨ (x / 9223372036854775808 % 2 == 1) = false ∧ x < 9223372036854775808 := by
    rcases Nat.lt_or_ge x 9223372036854775808 with g | g
    · right; refine ⟨?_, g⟩; rw [beq_eq_false_iff_ne]; omega
    · left; refine ⟨?_, g⟩; rw [beq_iff_eq]; omega
  generalize hs : (x / 9223372036854775808 % 2 == 1) = b at h hsx
  have hw : ∀ r, r = x % 9223372036854775808 → x = double.word b r := by
    intro r hr
    unfold Format.word
    rw [d_sign]
    rcases hsx with ⟨rfl, g⟩ | ⟨rfl, g⟩
    · simp; omega
    · simp; omega
  have hlt : x % 9223372036854775808 < 9223372036854775808 := Nat.mod_lt _ (by omega)
  generalize hr : x % 9223372036854775808 = r at h hw hlt
  by_cases h1 : r < 4503599627370496
  · rw [if_pos h1] at h
    cases h
    refine ⟨?_, by omega, by omega, fun _ => rfl⟩
    rw [show ((-1074 : Int) + 1074).toNat = 0 by omega, Nat.zero_mul, Nat.zero_add]
    exact hw _ rfl
  · rw [if_neg h1] at h
    by_cases h2 : r < 9218868437227405312
    · rw [if_pos h2] at h
      cases h
      refine ⟨?_, by omega, by omega, fun g => by omega⟩
      have e : ((-1074 : Int) + ((r / 4503599627370496 - 1 : Nat) : Int) + 1074).toNat * 4503599627370496 + (4503599627370496 + r % 4503599627370496) = r := by omega
      rw [e]
      exact hw _ rfl
    · rw [if_neg h2] at h
      by_cases h3 : r = 9218868437227405312
      · rw [if_pos h3] at h; cases h
      · rw [if_neg h3] at h; cases h
theorem inf_inv {x : Nat} (hx : x < 18446744073709551616) {s : Bool} (h : double.read x = .infinity s) : x = double.word s 9218868437227405312 := by
  unfold Format.read at h
  simp only [d_sign, d_bin, d_inf, d_least] at h
  have hsx : (x / 9223372036854775808 % 2 == 1) = true ∧ 9223372036854775808 ≤ x ∨ (x / 9223372036854775808 % 2 == 1) = false ∧ x < 9223372036854775808 := by
    rcases Nat.lt_or_ge x 9223372036854775808 with g | g
    · right; refine ⟨?_, g⟩; rw [beq_eq_false_iff_ne]; omega
    · left; refine ⟨?_, g⟩; rw [beq_iff_eq]; omega
  generalize hs : (x / 9223372036854775808 % 2 == 1) = b at h hsx
  by_cases h1 : x % 9223372036854775808 < 4503599627370496
  · rw [if_pos h1] at h; cases h
  · rw [if_neg h1] at h
    by_cases h2 : x % 9223372036854775808 < 9218868437227405312
    · rw [if_pos h2] at h; cases h
    · rw [if_neg h2] at h
      by_cases h3 : x % 9223372036854775808 = 9218868437227405312
      · rw [if_pos h3] at h
        cases h
        unfold Format.word
        rw [d_sign]
        rcases hsx with ⟨rfl, g⟩ | ⟨rfl, g⟩
        · simp; omega
        · simp; omega
      · rw [if_neg h3] at h; cases h

theorem norm_inj {m m' e e' : Nat} (h : m * 2 ^ e = m' * 2 ^ e') (hm : m < 9007199254740992) (hm' : m' < 9007199254740992) (n : m < 4503599627370496 → e = 0) (n' : m' < 4503599627370496 → e' = 0) (h0 : m ≠ 0) : m = m' ∧ e = e' := by
  rcases Nat.lt_trichotomy e e' with g | g | g
  · have : m = m' * 2 ^ (e' - e) := by
      have x : e' = (e' - e) + e := by omega
      rw [x, Nat.pow_add, ← Nat.mul_assoc] at h
      exact Nat.eq_of_mul_eq_mul_right (Nat.two_pow_pos _) h
    have h2 : 2 ≤ 2 ^ (e' - e) := by
      have := Nat.pow_le_pow_right (show 0 < 2 by omega) (show 1 ≤ e' - e by omega)
      simpa using this
    have h3 : 4503599627370496 ≤ m' := by
      rcases Nat.lt_or_ge m' 4503599627370496 with q | q
      · have := n' q; omega
      · exact q
    have := Nat.mul_le_mul h3 h2
    omega
  · subst g
    exact ⟨Nat.eq_of_mul_eq_mul_right (Nat.two_pow_pos _) h, rfl⟩
  · have : m' = m * 2 ^ (e - e') := by
      have x : e = (e - e') + e' := by omega
      rw [x, Nat.pow_add, ← Nat.mul_assoc] at h
      exact (Nat.eq_of_mul_eq_mul_right (Nat.two_pow_pos _) h).symm
    have h2 : 2 ≤ 2 ^ (e - e') := by
      have := Nat.pow_le_pow_right (show 0 < 2 by omega) (show 1 ≤ e - e' by omega)
      simpa using this
    have h3 : 4503599627370496 ≤ m := by
      rcases Nat.lt_or_ge m 4503599627370496 with q | q
      · have := n q; omega
      · exact q
    have := Nat.mul_le_mul h3 h2
    omega

/-- Two finite words of one value: one word, or noughts. -/
theorem V_inj {x y : Nat} (hx : x < 18446744073709551616) (hy : y < 18446744073709551616) (ix : IsN (double.read x)) (iy : IsN (double.read y)) (h : V (double.read x) = V (double.read y)) (h0 : V (double.read x) ≠ 0) : x = y := by
  obtain ⟨s, m, p, ex⟩ := ix
  obtain ⟨t, n, q, ey⟩ := iy
  obtain ⟨wx, hm, hp, nx⟩ := read_inv hx ex
  obtain ⟨wy, hn, hq, ny⟩ := read_inv hy ey
  rw [ex, ey] at h
  rw [ex] at h0
  simp only [V] at h h0
  have hst : s = t := by
    rcases sign_of rfl h0 with ⟨h1, g1⟩ | ⟨h1, g1⟩ <;> rcases sign_of h.symm h0 with ⟨h2, g2⟩ | ⟨h2, g2⟩
    · rw [h1, h2]
    · omega
    · omega
    · rw [h1, h2]
  subst hst
  have hab : m * 2 ^ (p + 1074).toNat = n * 2 ^ (q + 1074).toNat := by
    have := congrArg Int.natAbs h
    rw [natAbs_signed, natAbs_signed] at this
    exact this
  have hm0 : m ≠ 0 := by rintro rfl; exact h0 (signed_zero _ _)
  obtain ⟨e1, e2⟩ := norm_inj hab hm hn (fun g => by have := nx g; omega) (fun g => by have := ny g; omega) hm0
  rw [wx, wy, e1, e2]

theorem order_num {x y : Nat} (ix : IsN (double.read x)) (iy : IsN (double.read y)) (hx : x < 18446744073709551616) (hy : y < 18446744073709551616) : FloatKind.f64.format.order x y = some (compare (V (double.read x)) (V (double.read y))) := by
  obtain ⟨s, m, p, ex⟩ := ix
  obtain ⟨t, n, q, ey⟩ := iy
  have := order_V (x := double.read x) (y := double.read y) (by rw [ex]; exact (read_inv hx ex).2.2.1) (by rw [ey]; exact (read_inv hy ey).2.2.1)
  exact this

theorem order_nan_left {x y : Nat} (h : nan x = true) : FloatKind.f64.format.order x y = none := by
  show (double.read x).order (double.read y) = none
  cases hr : double.read x with
  | nan s t => rfl
  | infinity s => rw [nan_false (by rw [hr]; exact num_infinity)] at h; cases h
  | number s m p => rw [nan_false (by rw [hr]; exact num_number)] at h; cases h
theorem order_nan_right {x y : Nat} (h : nan y = true) : FloatKind.f64.format.order x y = none := by
  show (double.read x).order (double.read y) = none
  cases hr : double.read y with
  | nan s t => cases double.read x <;> rfl
  | infinity s => rw [nan_false (by rw [hr]; exact num_infinity)] at h; cases h
  | number s m p => rw [nan_false (by rw [hr]; exact num_number)] at h; cases h

/-- Two that are numbers: which comes first; when they are the same. -/
inductive Ord3 (x y : Nat) : Prop
  | lt (h : FloatKind.f64.format.order x y = some .lt) (g : FloatKind.f64.format.order y x = some .gt) (c : cleanV x ≠ cleanV y)
  | eq (h : FloatKind.f64.format.order x y = some .eq) (g : FloatKind.f64.format.order y x = some .eq) (c : cleanV x = cleanV y)
  | gt (h : FloatKind.f64.format.order x y = some .gt) (g : FloatKind.f64.format.order y x = some .lt) (c : cleanV x ≠ cleanV y)

theorem cleanV_zero {x : Nat} (h : FloatKind.f64.format.order x 0 = some .eq) : cleanV x = 0 := by unfold cleanV; rw [h]; rfl
theorem cleanV_some {x : Nat} (h : FloatKind.f64.format.order x 0 ≠ some .eq) : cleanV x = x := by
  unfold cleanV
  rw [if_neg (by simpa using h)]

theorem ord3 {x y : Nat} (hx : x < 18446744073709551616) (hy : y < 18446744073709551616) (nx : nan x = false) (ny : nan y = false) : Ord3 x y := by
  have i0 : IsN (double.read 0) := ⟨_, _, _, read_zero⟩
  have self : ∀ z, nan z = false → FloatKind.f64.format.order z z = some .eq := by
    intro z hz
    unfold nan at hz
    simpa using hz
  -- from a difference in order to one of the words
  have key : (FloatKind.f64.format.order x y ≠ some .eq) → cleanV x ≠ cleanV y := by
    intro hne hc
    by_cases zx : FloatKind.f64.format.order x 0 = some .eq
    · rw [cleanV_zero zx] at hc
      have zy : FloatKind.f64.format.order y 0 = some .eq := by
        by_cases g : FloatKind.f64.format.order y 0 = some .eq
        · exact g
        · rw [cleanV_some g] at hc; subst hc; exact self 0 ny
      have num0 : ∀ z, z < 18446744073709551616 → nan z = false → FloatKind.f64.format.order z 0 = some .eq → IsN (double.read z) ∧ V (double.read z) = 0 := by
        intro z hz nz h
        rcases (num_of_nan nz).cases with hn | ⟨s, hi⟩
        · refine ⟨hn, ?_⟩
          rw [order_num hn i0 hz (by omega), V_zero] at h
          rcases cmp_cases (V (double.read z)) 0 with ⟨hc, _⟩ | ⟨_, hv⟩ | ⟨hc, _⟩
          · rw [hc] at h; cases h
          · exact hv
          · rw [hc] at h; cases h
        · rw [order_infinity hi i0] at h; cases s <;> cases h
      obtain ⟨ix, vx⟩ := num0 x hx nx zx
      obtain ⟨iy, vy⟩ := num0 y hy ny zy
      exact hne (by rw [order_num ix iy hx hy, vx, vy]; rfl)
    · rw [cleanV_some zx] at hc
      by_cases zy : FloatKind.f64.format.order y 0 = some .eq
      · rw [cleanV_zero zy] at hc; subst hc; exact zx (self 0 nx)
      · rw [cleanV_some zy] at hc; subst hc; exact hne (self _ nx)
  rcases (num_of_nan nx).cases with ix | ⟨s, ix⟩ <;> rcases (num_of_nan ny).cases with iy | ⟨t, iy⟩
  · have h := order_num ix iy hx hy
    have g := order_num iy ix hy hx
    rcases cmp_cases (V (double.read x)) (V (double.read y)) with ⟨hc, hv⟩ | ⟨hc, hv⟩ | ⟨hc, hv⟩
    · rw [hc] at h; rw [cmp_gt hv] at g
      exact .lt h g (key (by rw [h]; intro e; cases e))
    · rw [hc] at h; rw [cmp_eq hv.symm] at g
      refine .eq h g ?_
      by_cases h0 : V (double.read x) = 0
      · have zx : FloatKind.f64.format.order x 0 = some .eq := by rw [order_num ix i0 hx (by omega), V_zero, h0]; rfl
        have zy : FloatKind.f64.format.order y 0 = some .eq := by rw [order_num iy i0 hy (by omega), V_zero, ← hv, h0]; rfl
        rw [cleanV_zero zx, cleanV_zero zy]
      · rw [V_inj hx hy ix iy hv h0]
    · rw [hc] at h; rw [cmp_lt hv] at g
      exact .gt h g (key (by rw [h]; intro e; cases e))
  · have g := order_infinity iy ix
    have h : FloatKind.f64.format.order x y = some (if t then .gt else .lt) := by
      obtain ⟨s, m, p, e⟩ := ix
      show (double.read x).order (double.read y) = _
      rw [e, iy]; rfl
    cases t
    · exact .lt h g (key (by rw [h]; intro e; cases e))
    · exact .gt h g (key (by rw [h]; intro e; cases e))
  · have h := order_infinity ix iy
    have g : FloatKind.f64.format.order y x = some (if s then .gt else .lt) := by
      obtain ⟨s', m, p, e⟩ := iy
      show (double.read y).order (double.read x) = _
      rw [e, ix]; rfl
    cases s
    · exact .gt h g (key (by rw [h]; intro e; cases e))
    · exact .lt h g (key (by rw [h]; intro e; cases e))
  · have hh : ∀ {a b : Nat} {s t : Bool}, double.read a = .infinity s → double.read b = .infinity t → FloatKind.f64.format.order a b = some (compare t.toNat s.toNat) := by
      intro a b s t ha hb
      show (double.read a).order (double.read b) = _
      rw [ha, hb]; rfl
    have h := hh ix iy
    have g := hh iy ix
    cases s <;> cases t
    · refine .eq h g ?_
      rw [inf_inv hx ix, inf_inv hy iy]
    · exact .gt h g (key (by rw [h]; decide))
    · exact .lt h g (key (by rw [h]; decide))
    · refine .eq h g ?_
      rw [inf_inv hx ix, inf_inv hy iy]

/-- All that a law asks of two doubles. -/
structure PF (x y : Nat) (b1 b2 b3 b4 s : Bool) (n : Int) : Prop where
  h1 : (FloatKind.f64.format.order x y == some .eq) = b1
  h2 : (FloatKind.f64.format.order x x != some .eq) = b2
  h3 : (FloatKind.f64.format.order y y != some .eq) = b3
  h4 : (FloatKind.f64.format.order x y == some .lt) = b4
  hs : sameV x y = s
  hn : cmpV x y = n
  hm : cmpV y x = -n
  hb : (bitsV x == bitsV y) = s

theorem pf {x y : Nat} (hx : x < 18446744073709551616) (hy : y < 18446744073709551616) :
    PF x y false true true false true 0 ∨ PF x y false true false false false (-1) ∨ PF x y false false true false false 1 ∨ PF x y false false false true false (-1) ∨ PF x y true false false false true 0 ∨ PF x y false false false false false 1 := by
  have nb : nan 9221120237041090561 = true := by decide +kernel
  have bn : ∀ z, nan z = false → ((cleanV z : Int) ≠ 9221120237041090561) := by
    intro z hz he
    unfold cleanV at he
    split at he
    · cases he
    · have : z = 9221120237041090561 := by omega
      rw [this, nb] at hz; cases hz
  cases nx : nan x <;> cases ny : nan y
  · have e2 : (FloatKind.f64.format.order x x != some .eq) = false := nx
    have e3 : (FloatKind.f64.format.order y y != some .eq) = false := ny
    rcases ord3 hx hy nx ny with ⟨h, g, c⟩ | ⟨h, g, c⟩ | ⟨h, g, c⟩
    · refine .inr (.inr (.inr (.inl ⟨by rw [h]; rfl, e2, e3, by rw [h]; rfl, ?_, ?_, ?_, ?_⟩)))
      · unfold sameV; rw [h, nx]; rfl
      · unfold cmpV sameV; rw [h, nx, ny]; rfl
      · unfold cmpV sameV; rw [g, nx, ny]; rfl
      · unfold bitsV; rw [nx, ny]; simp only [Bool.false_eq_true, if_false, beq_eq_false_iff_ne]; omega
    · refine .inr (.inr (.inr (.inr (.inl ⟨by rw [h]; rfl, e2, e3, by rw [h]; rfl, ?_, ?_, ?_, ?_⟩))))
      · unfold sameV; rw [h]; rfl
      · unfold cmpV sameV; rw [h]; rfl
      · unfold cmpV sameV; rw [g]; rfl
      · unfold bitsV; rw [nx, ny, c]; simp
    · refine .inr (.inr (.inr (.inr (.inr ⟨by rw [h]; rfl, e2, e3, by rw [h]; rfl, ?_, ?_, ?_, ?_⟩))))
      · unfold sameV; rw [h, nx]; rfl
      · unfold cmpV sameV; rw [h, nx, ny]; rfl
      · unfold cmpV sameV; rw [g, nx, ny]; rfl
      · unfold bitsV; rw [nx, ny]; simp only [Bool.false_eq_true, if_false, beq_eq_false_iff_ne]; omega
  · have h := order_nan_right (x := x) ny
    have g := order_nan_left (y := x) ny
    refine .inr (.inr (.inl ⟨by rw [h]; rfl, nx, ny, by rw [h]; rfl, ?_, ?_, ?_, ?_⟩))
    · unfold sameV; rw [h, nx]; rfl
    · unfold cmpV sameV; rw [h, nx]; rfl
    · unfold cmpV sameV; rw [g, nx, ny]; rfl
    · unfold bitsV; rw [nx, ny]; simp only [Bool.false_eq_true, if_false, if_true, beq_eq_false_iff_ne]; exact bn x nx
  · have h := order_nan_left (y := y) nx
    have g := order_nan_right (x := y) nx
    refine .inr (.inl ⟨by rw [h]; rfl, nx, ny, by rw [h]; rfl, ?_, ?_, ?_, ?_⟩)
    · unfold sameV; rw [h, nx, ny]; rfl
    · unfold cmpV sameV; rw [h, nx, ny]; rfl
    · unfold cmpV sameV; rw [g, nx, ny]; rfl
    · unfold bitsV; rw [nx, ny]; simp only [Bool.false_eq_true, if_false, if_true, beq_eq_false_iff_ne]; exact fun e => bn y ny e.symm
  · have h := order_nan_left (y := y) nx
    have g := order_nan_left (y := x) ny
    refine .inl ⟨by rw [h]; rfl, nx, ny, by rw [h]; rfl, ?_, ?_, ?_, ?_⟩
    · unfold sameV; rw [h, nx, ny]; rfl
    · unfold cmpV sameV; rw [h, nx, ny]; rfl
    · unfold cmpV sameV; rw [g, nx, ny]; rfl
    · unfold bitsV; rw [nx, ny]; rfl

/-- All that a law asks of one double. -/
theorem one {x : Nat} : ((FloatKind.f64.format.order x x == some .eq) = false) ∨ ((FloatKind.f64.format.order x x == some .eq) = true ∧ (FloatKind.f64.format.order x 0 != some .eq) = false) ∨
    ((FloatKind.f64.format.order x x == some .eq) = true ∧ (FloatKind.f64.format.order x 0 != some .eq) = true ∧ bitsV x = (x : Int)) := by
  cases h : FloatKind.f64.format.order x x == some .eq
  · exact .inl rfl
  · right
    have nx : nan x = false := by unfold nan; rw [bne, h]; rfl
    cases g : FloatKind.f64.format.order x 0 != some .eq
    · exact .inl ⟨rfl, rfl⟩
    · refine .inr ⟨rfl, rfl, ?_⟩
      unfold bitsV
      rw [nx, cleanV_some (by simpa using g)]
      rfl
end Go.Proofs.Ytbpmgdneiejhoaa
