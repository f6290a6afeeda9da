/-
  The walks of gold: Pow, Inv.
-/
import Derived.Test.YtnajihlhcdedgaaG2
import Derived.Test.YtnajihlhcdedgaaFermat
namespace Go.Proofs.Ytnajihlhcdedgaa
open Go.RowKit
set_option linter.unusedVariables false

theorem bits_and_one (m : Int) (h0 : 0 ≤ m) (h1 : m ≤ 18446744073709551615) : bits .and .u64 m 1 = m % 2 := by
  obtain ⟨A, rfl⟩ := Int.eq_ofNat_of_zero_le h0
  have h := bits_and_u64_nat A 1 (by omega) (by omega)
  rw [Nat.and_one_is_mod] at h
  have h' : bits .and .u64 (A : Int) 1 = ((A % 2 : Nat) : Int) := h
  rw [h']; omega

/-- What Pow's loop keeps: what is out, times what is left to be raised. -/
def PowRel (T : Int) (x m y : Int) : Prop := (y * x ^ m.toNat) % gP = T

theorem PowRel.odd {T x m y : Int} (h : PowRel T x m y) (h0 : 0 ≤ m) (h1 : m % 2 = 1) : PowRel T (x * x % gP) (m / 2) (y * x % gP) := by
  unfold PowRel at *
  rw [← h]
  have e : m.toNat = (m / 2).toNat + (m / 2).toNat + 1 := by omega
  rw [e, Int.pow_succ, Int.pow_add, Int.mul_emod, Int.emod_emod]
  have e2 : (x * x % gP) ^ (m / 2).toNat % gP = (x ^ (m / 2).toNat * x ^ (m / 2).toNat) % gP := by
    rw [← Int.mul_pow]
    generalize (m / 2).toNat = k
    induction k with
    | zero => simp
    | succ k ih => rw [Int.pow_succ, Int.pow_succ, Int.mul_emod, ih, Int.emod_emod, ← Int.mul_emod]
  rw [e2, ← Int.mul_emod]
  congr 1
  generalize x ^ (m / 2).toNat = q
  rw [Int.mul_assoc, Int.mul_comm x (q * q)]
theorem PowRel.even {T x m y : Int} (h : PowRel T x m y) (h0 : 0 ≤ m) (h1 : m % 2 = 0) : PowRel T (x * x % gP) (m / 2) y := by
  unfold PowRel at *
  rw [← h]
  have e : m.toNat = (m / 2).toNat + (m / 2).toNat := by omega
  rw [e, Int.pow_add, Int.mul_emod]
  have e2 : (x * x % gP) ^ (m / 2).toNat % gP = (x ^ (m / 2).toNat * x ^ (m / 2).toNat) % gP := by
    rw [← Int.mul_pow]
    generalize (m / 2).toNat = k
    induction k with
    | zero => simp
    | succ k ih => rw [Int.pow_succ, Int.pow_succ, Int.mul_emod, ih, Int.emod_emod, ← Int.mul_emod]
  rw [e2, ← Int.mul_emod]

def isG (y : Int) : Prop := 0 ≤ y ∧ y < gP
theorem isG_emod (x : Int) : isG (x % gP) := by unfold isG gP; omega
theorem isG.is64 {y : Int} (h : isG y) : is64 y := by unfold isG gP at h; unfold Go.Proofs.Ytnajihlhcdedgaa.is64; omega

set_option maxHeartbeats 1000000 in
theorem gold_Pow_in (a n X T : Int) (w : World) (hn : is64 n) (hX : isG X) (HO : Hid (Gives 31 #[.int .u64 a] (.int .u64 X))) (HT : Hid (PowRel T X n 1)) :
    Calls Try.prog 39 #[.int .u64 a, .int .u64 n] w fun e w' => e = .returned (.int .u64 T) ∧ w = w' := by
  go_enter Try.func39, Try.ntmps39
  go_wp2_with fail
  refine (HO.out _).mono ?_
  rintro e w' ⟨rfl, rfl⟩
  go_wp2_with fail
  go_loop [0, 1, 5] (fun va vn vo => ∃ x m y : Int, va = .int .u64 x ∧ vn = .int .u64 m ∧ vo = .int .u64 y ∧ Hid (isG x) ∧ Hid (is64 m) ∧ Hid (isG y) ∧ Hid (PowRel T x m y)) (fun _ vn _ => (intOf vn).toNat)
  case atStart => exact ⟨X, n, 1, rfl, rfl, rfl, hX, hn, (by unfold Hid isG gP; omega), HT⟩
  case round =>
    obtain ⟨x, m, y, rfl, rfl, rfl, hx, hm, hy, hr⟩ := hrel
    have m0 : 0 ≤ m := hm.out.1
    have m1 : m ≤ 18446744073709551615 := hm.out.2
    by_cases hpos : 0 < m
    · have hb := bits_and_one m m0 m1
      have HS := Lib.hid (g_Mul hx.out.is64 hx.out.is64)
      have hx2 := Lib.hid (isG_emod (x * x))
      have hm2 : Hid (is64 (m / 2)) := by unfold Hid is64; omega
      by_cases hodd : m % 2 = 1
      · have HM := Lib.hid (g_Mul hy.out.is64 hx.out.is64)
        have hy2 := Lib.hid (isG_emod (y * x))
        have hr2 := Lib.hid (hr.out.odd m0 hodd)
        generalize x * x % gP = X2 at *
        generalize y * x % gP = Y2 at *
        go_wp2_with fail
        refine (HM.out _).mono ?_
        rintro e w' ⟨rfl, rfl⟩
        go_wp2_with fail
        refine (HS.out _).mono ?_
        rintro e w' ⟨rfl, rfl⟩
        go_wp2_with fail
        go_round
        case rel => exact ⟨X2, m / 2, Y2, rfl, rfl, rfl, hx2, hm2, hy2, hr2⟩
        case measure => simp only [intOf]; omega
      · have heven : m % 2 = 0 := by omega
        have hr2 := Lib.hid (hr.out.even m0 heven)
        generalize x * x % gP = X2 at *
        go_wp2_with fail
        refine (HS.out _).mono ?_
        rintro e w' ⟨rfl, rfl⟩
        go_wp2_with fail
        go_round
        case rel => exact ⟨X2, m / 2, y, rfl, rfl, rfl, hx2, hm2, hy, hr2⟩
        case measure => simp only [intOf]; omega
    · go_wp2
      go_ret
      have hm0 : m = 0 := by omega
      have h1 := hr.out
      have h2 := hy.out
      unfold PowRel at h1
      rw [hm0] at h1
      exact ⟨ret_u64 (by
        unfold isG at h2
        rw [← h1]
        simp only [Int.toNat_zero, Int.pow_zero, Int.mul_one]
        rw [Int.emod_eq_of_lt h2.1 h2.2]), rfl⟩

theorem emod_pow (x p : Int) (n : Nat) : (x % p) ^ n % p = x ^ n % p := by
  induction n with
  | zero => simp
  | succ k ih => rw [Int.pow_succ, Int.pow_succ, Int.mul_emod, ih, Int.emod_emod, ← Int.mul_emod]

theorem g_Pow {a n : Int} (ha : is64 a) (hn : is64 n) : Gives 39 #[.int .u64 a, .int .u64 n] (.int .u64 (a ^ n.toNat % gP)) := fun w =>
  gold_Pow_in a n (a % gP) _ w hn (isG_emod a) (g_Of ha) (by unfold Hid PowRel; rw [Int.one_mul, emod_pow])

theorem gold_Inv_no (a : Int) (HO : Hid (Gives 31 #[.int .u64 a] (.int .u64 0))) : Gives 41 #[.int .u64 a] (.tuple #[.int .u64 0, .int .i64 8]) := fun w => by
  go_enter Try.func41, Try.ntmps41
  go_wp2_with fail
  refine (HO.out _).mono ?_
  rintro e w' ⟨rfl, rfl⟩
  go_wp2_with fail
  go_ret2
  exact ⟨rfl, rfl⟩
theorem gold_Inv_yes (a X R : Int) (hX : (X == 0) = false) (HO : Hid (Gives 31 #[.int .u64 a] (.int .u64 X))) (HP : Hid (Gives 39 #[.int .u64 a, .int .u64 18446744069414584319] (.int .u64 R))) : Gives 41 #[.int .u64 a] (.tuple #[.int .u64 R, .int .i64 0]) := fun w => by
  go_enter Try.func41, Try.ntmps41
  go_wp2_with fail
  refine (HO.out _).mono ?_
  rintro e w' ⟨rfl, rfl⟩
  go_wp2_with fail
  refine (HP.out _).mono ?_
  rintro e w' ⟨rfl, rfl⟩
  go_wp2_with fail
  go_ret2
  exact ⟨rfl, rfl⟩

/-- By which a has to be multiplied. -/
def gInv (a : Int) : Int := a ^ 18446744069414584319 % gP
theorem g_Inv_no {a : Int} (ha : is64 a) (h : a % gP = 0) : Gives 41 #[.int .u64 a] (.tuple #[.int .u64 0, .int .i64 8]) :=
  gold_Inv_no a (by have := g_Of ha; rw [h] at this; exact this)
end Go.Proofs.Ytnajihlhcdedgaa
