/-
  The reference's constants of a round.
-/
import Derived.Test.YtnajihlhcdedgaaK6
namespace Go.Proofs.Ytnajihlhcdedgaa
open Go.RowKit
set_option linter.unusedVariables false
set_option linter.unusedSimpArgs false

def lstep (y : Nat) : Nat := if 256 ≤ y * 2 then (y * 2) ^^^ 369 else y * 2
def lfN : Nat → Nat
  | 0 => 1
  | k + 1 => lstep (lfN k)
theorem lstep_lt : ∀ y, y < 256 → lstep y < 256 := by decide +kernel
theorem lfN_lt (k : Nat) : lfN k < 256 := by
  induction k with
  | zero => decide
  | succ k ih => exact lstep_lt _ ih
theorem lstep_big : ∀ y : Nat, y < 256 → 128 ≤ y → bits .xor .i64 ((y : Int) * 2) 369 = (lstep y : Int) := by decide +kernel
theorem lstep_small (y : Nat) (h : y < 128) : (lstep y : Int) = (y : Int) * 2 := by
  unfold lstep; rw [if_neg (by omega)]; omega

set_option maxRecDepth 100000 in
set_option maxHeartbeats 4000000 in
theorem r_shift {n : Nat} (hn : n < 255) : Pure Try.prog 139 #[.int .i64 (n : Int)] (.int .u64 (lfN n % 2 : Nat)) := fun w => by
  have e1 : (n : Int).tmod 255 = (n : Int) := by rw [Int.tmod_eq_emod_of_nonneg (by omega)]; omega
  have e2 : (n : Int) % 255 = (n : Int) := by omega
  go_enter Try.func139, Try.ntmps139
  go_wp2_with fail
  go_loopw [3, 4] (fun v t wr => ∃ k : Nat, k ≤ n ∧ t = .int .i64 k ∧ v = .int .i64 (lfN k) ∧ wr = w) (fun _ t _ => n - (intOf t).toNat)
  case atStart => exact ⟨0, Nat.zero_le _, rfl, rfl, rfl⟩
  case round =>
    obtain ⟨k, hk, rfl, rfl, rfl⟩ := hrel
    have hy := lfN_lt k
    rcases Nat.lt_or_ge k n with hkn | hkn
    · have hkn2 : (k : Int) < (n : Int) := by omega
      have HS : Hid (lfN (k + 1) = lstep (lfN k)) := Lib.hid rfl
      generalize lfN k = y at *
      rcases Nat.lt_or_ge y 128 with hb | hb
      · have hs := lstep_small y hb
        have hc : (y : Int) * 2 < 256 := by omega
        have w1 : IntKind.i64.wrap ((y : Int) * 2) = (y : Int) * 2 := IntWalk.i64_in _ (by omega)
        have HL := Lib.hid hs
        clear hs
        go_wp2_with fail
        go_roundw
        case rel => exact ⟨k + 1, by omega, by go_num, by rw [HS.out, HL.out], by first | rfl | trivial⟩
        case measure => simp [intOf]; omega
      · have hs := lstep_big y hy hb
        have hc : (256 : Int) ≤ (y : Int) * 2 := by omega
        have w1 : IntKind.i64.wrap ((y : Int) * 2) = (y : Int) * 2 := IntWalk.i64_in _ (by omega)
        have HL := Lib.hid hs
        clear hs
        go_wp2_with fail
        go_roundw
        case rel => exact ⟨k + 1, by omega, by go_num, by rw [HS.out, ← HL.out], by first | rfl | trivial⟩
        case measure => simp [intOf]; omega
    · have hkn2 : (n : Int) ≤ (k : Int) := by omega
      obtain rfl : k = n := by omega
      obtain ⟨y, hyy⟩ : ∃ y, lfN k = y := ⟨_, rfl⟩
      rw [hyy] at hy
      simp only [hyy]
      have HY := Lib.hid hyy
      clear hyy
      have e3 : (y : Int).tmod 2 = ((y % 2 : Nat) : Int) := by rw [Int.tmod_eq_emod_of_nonneg (by omega)]; omega
      have e4 : (y : Int) % 2 = ((y % 2 : Nat) : Int) := by omega
      have e5 : y % 2 < 2 := by omega
      obtain ⟨z, hz⟩ : ∃ z, y % 2 = z := ⟨_, rfl⟩
      have HZ := Lib.hid hz
      rw [hz] at e3 e4 e5
      clear hz
      have w1 : IntKind.u64.wrap (z : Int) = (z : Int) := by simp [IntKind.wrap, IntKind.bits, IntKind.signed]; omega
      go_wp2_with fail
      go_ret
      exact ⟨by rw [HY.out, HZ.out]; rfl, Kept.refl _⟩

/-- What a round's constant is by the first j of its seven bits. -/
def cst (r : Nat) : Nat → Int
  | 0 => 0
  | j + 1 => IntKind.u64.wrap (cst r j + IntKind.u64.wrap ((lfN (j + 7 * r) % 2 : Nat) * 2 ^ (2 ^ j - 1)))
theorem cst_ok : ∀ r, r < 12 → cst (12 + r) 7 = conN r := by decide +kernel
theorem pow_small : ∀ j, j < 7 → 1 ≤ 2 ^ j ∧ 2 ^ j ≤ 64 := by decide

set_option maxRecDepth 100000 in
set_option maxHeartbeats 4000000 in
theorem r_constant {r : Nat} (hr : r < 12) : Pure Try.prog 137 #[.int .i64 ((12 + r : Nat) : Int)] (.int .u64 (conN r)) := fun w => by
  rw [← cst_ok r hr]
  obtain ⟨q, hq⟩ : ∃ q, 12 + r = q := ⟨_, rfl⟩
  have hq24 : q < 24 := by omega
  rw [hq]
  clear hq hr
  go_enter Try.func137, Try.ntmps137
  go_wp2_with fail
  go_loopw [3, 4, 5] (fun v m t wr => ∃ k : Nat, k ≤ 7 ∧ t = .int .i64 k ∧ v = .int .u64 (cst q k) ∧ m = .int .i64 (2 ^ k : Nat) ∧ Kept w wr) (fun _ _ t _ => 7 - (intOf t).toNat)
  case atStart => exact ⟨0, Nat.zero_le _, rfl, rfl, rfl, Kept.refl _⟩
  case round =>
    obtain ⟨k, hk, rfl, rfl, rfl, kr⟩ := hrel
    rcases Nat.lt_or_ge k 7 with hkn | hkn
    · have hkn2 : (k : Int) ≤ 6 := by omega
      have hk0 : (0 : Int) ≤ (k : Int) := by omega
      obtain ⟨hm1, hm2⟩ := pow_small k hkn
      have hm3 : 2 ^ (k + 1) = 2 ^ k * 2 := Nat.pow_succ ..
      have HC : Hid (cst q (k + 1) = IntKind.u64.wrap (cst q k + IntKind.u64.wrap ((lfN (k + 7 * q) % 2 : Nat) * 2 ^ (2 ^ k - 1)))) := Lib.hid rfl
      generalize 2 ^ k = m at *
      have HM := Lib.hid hm3
      clear hm3
      obtain ⟨p, hp⟩ : ∃ p, m - 1 = p := ⟨_, rfl⟩
      rw [hp] at HC
      have e1 : (m : Int) - 1 = (p : Int) := by omega
      have hp64 : p < 64 := by omega
      obtain ⟨z, hz⟩ : ∃ z, k + 7 * q = z := ⟨_, rfl⟩
      rw [hz] at HC
      have e2 : (k : Int) + 7 * (q : Int) = (z : Int) := by omega
      have hz255 : z < 255 := by omega
      have HS := Lib.hid (r_shift hz255)
      have HP := Lib.hid (r_power hp64)
      generalize lfN z % 2 = A at HS HC
      generalize (2 : Int) ^ p = B at HP HC
      generalize hc1 : cst q (k + 1) = c1 at HC
      generalize cst q k = c0 at *
      have w1 : IntKind.i64.wrap (7 * (q : Int)) = 7 * (q : Int) := IntWalk.i64_in _ (by omega)
      have w2 : IntKind.i64.wrap (z : Int) = (z : Int) := IntWalk.i64_in _ (by omega)
      have w3 : IntKind.i64.wrap (p : Int) = (p : Int) := IntWalk.i64_in _ (by omega)
      have w4 : IntKind.i64.wrap ((m : Int) * 2) = (m : Int) * 2 := IntWalk.i64_in _ (by omega)
      clear hp hz
      go_wp2_with fail
      refine (HS.out _).mono ?_
      rintro e W1 ⟨rfl, hk1⟩
      have k1 := kr.trans hk1
      clear kr hk1
      go_wp2_with fail
      refine (HP.out _).mono ?_
      rintro e W2 ⟨rfl, hk2⟩
      have k2 := k1.trans hk2
      clear k1 hk2
      go_wp2_with fail
      go_roundw
      case rel => exact ⟨k + 1, by omega, by go_num, by rw [hc1, HC.out]; try (congr 1; go_num), by rw [HM.out]; go_num, k2⟩
      case measure => simp [intOf]; omega
    · have hkn2 : (6 : Int) < (k : Int) := by omega
      obtain rfl : k = 7 := by omega
      go_wp2_with fail
      go_ret
      exact ⟨rfl, kr⟩
end Go.Proofs.Ytnajihlhcdedgaa
