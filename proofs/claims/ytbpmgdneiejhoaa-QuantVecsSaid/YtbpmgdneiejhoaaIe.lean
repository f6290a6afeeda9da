/-
  Doubles: what a datum is worth in units of 2^-1074; writing what the format has is exact.
-/
import Ieee.Arith
namespace Go.Proofs.Ytbpmgdneiejhoaa
open Ieee
set_option linter.unusedVariables false

/-- What a finite datum is worth, in units of 2^-1074. -/
def V : Datum → Int
  | .number s m p => signed s m (p + 1074).toNat
  | _ => 0
/-- A number of the doubles' places. -/
def Fin' : Datum → Prop
  | .number _ _ p => -1074 ≤ p
  | _ => False

theorem signed_eq (s : Bool) (m u : Nat) : signed s m u = (if s then -1 else 1) * ((m : Int) * 2 ^ u) := by
  unfold signed
  have : ((m <<< u : Nat) : Int) = (m : Int) * 2 ^ u := by
    rw [Nat.shiftLeft_eq]; simp
  rw [this]
  cases s <;> simp

theorem signed_add (s : Bool) (m u v : Nat) : signed s m (u + v) = signed s m u * 2 ^ v := by
  rw [signed_eq, signed_eq, Int.pow_add, Int.mul_assoc, Int.mul_assoc]

theorem pow_pos2 (k : Nat) : (0 : Int) < 2 ^ k := by
  have h : (0 : Nat) < 2 ^ k := Nat.two_pow_pos k
  have := Int.ofNat_lt.2 h
  simpa using this

theorem compare_scale (a b : Int) (k : Nat) : compare (a * 2 ^ k) (b * 2 ^ k) = compare a b := by
  have hp := pow_pos2 k
  simp only [compare, compareOfLessAndEq]
  have h1 : a * 2 ^ k < b * 2 ^ k ↔ a < b := ⟨fun h => Int.lt_of_mul_lt_mul_right h (Int.le_of_lt hp), fun h => Int.mul_lt_mul_of_pos_right h hp⟩
  have h2 : a * 2 ^ k = b * 2 ^ k ↔ a = b := ⟨fun h => Int.eq_of_mul_eq_mul_right (by omega) h, fun h => by rw [h]⟩
  by_cases h : a < b
  · rw [if_pos h, if_pos (h1.2 h)]
  · rw [if_neg h, if_neg (fun h' => h (h1.1 h'))]
    by_cases h' : a = b
    · rw [if_pos h', if_pos (h2.2 h')]
    · rw [if_neg h', if_neg (fun h'' => h' (h2.1 h''))]

theorem order_V {x y : Datum} (hx : Fin' x) (hy : Fin' y) : x.order y = some (compare (V x) (V y)) := by
  cases x <;> simp only [Fin'] at hx
  cases y <;> simp only [Fin'] at hy
  rename_i s m i t n j
  have hi : (i + 1074).toNat = (i - min i j).toNat + (min i j + 1074).toNat := by omega
  have hj : (j + 1074).toNat = (j - min i j).toNat + (min i j + 1074).toNat := by omega
  simp only [Datum.order, V]
  rw [hi, hj, signed_add, signed_add, compare_scale]

theorem sum_V {x y : Datum} (hx : Fin' x) (hy : Fin' y) : ∃ d, x.sum y = some d ∧ Fin' d ∧ V d = V x + V y := by
  cases x <;> simp only [Fin'] at hx
  cases y <;> simp only [Fin'] at hy
  rename_i s m i t n j
  simp only [Datum.sum]
  refine ⟨_, rfl, by simp only [Fin']; omega, ?_⟩
  have hi : (i + 1074).toNat = (i - min i j).toNat + (min i j + 1074).toNat := by omega
  have hj : (j + 1074).toNat = (j - min i j).toNat + (min i j + 1074).toNat := by omega
  simp only [V]
  rw [hi, hj, signed_add, signed_add, ← Int.add_mul]
  generalize signed s m (i - min i j).toNat + signed t n (j - min i j).toNat = T
  rw [signed_eq]
  by_cases h0 : T = 0
  · subst h0; simp
  · rw [if_neg h0]
    by_cases hn : T < 0
    · simp only [hn, decide_true, if_true]
      have : (T.natAbs : Int) = -T := by omega
      rw [this, Int.neg_mul, Int.neg_mul, Int.one_mul, Int.neg_neg]
    · simp only [hn, decide_false, Bool.false_eq_true, if_false]
      have : (T.natAbs : Int) = T := by omega
      rw [this, Int.one_mul]

theorem V_opposite (x : Datum) : V x.opposite = - V x := by
  cases x with
  | number s m p =>
    simp only [Datum.opposite, V, signed_eq]
    cases s <;> simp
  | _ => simp [Datum.opposite, V]
theorem Fin'_opposite {x : Datum} (h : Fin' x) : Fin' x.opposite := by cases x <;> first | exact h | (simp only [Fin'] at h)

theorem log2_mul_pow (k : Nat) (hk : 0 < k) : ∀ e, (k * 2 ^ e).log2 = k.log2 + e
  | 0 => by simp
  | e + 1 => by
    have h0 : k * 2 ^ e ≠ 0 := Nat.pos_iff_ne_zero.1 (Nat.mul_pos hk (Nat.two_pow_pos e))
    rw [Nat.pow_succ, ← Nat.mul_assoc, Nat.mul_comm _ 2, Nat.log2_two_mul h0, log2_mul_pow k hk e]
    omega

theorem cut_exact (s : Bool) (c d : Nat) (hc : 0 < c) : Toward.even.cut s (c * 2 ^ d) d = c := by
  have hp : 0 < 2 ^ d := Nat.two_pow_pos d
  have hm : min d ((c * 2 ^ d).log2 + 2) = d := by rw [log2_mul_pow c hc]; omega
  unfold Toward.cut
  simp only [hm, Nat.shiftLeft_eq, Nat.one_mul, Nat.mul_mod_left, Nat.mul_div_cancel c hp, Nat.mul_zero]
  have h1 : ¬ (2 ^ d < 0) := by omega
  have h2 : (2 ^ d == 0) = false := by simp
  simp [h2]

theorem d_least : double.leastPlace = -1074 := by decide
theorem d_inf : double.infRung = 9218868437227405312 := by decide
theorem d_sign : double.signWeight = 9223372036854775808 := by decide
theorem d_bin : double.binade = 4503599627370496 := by decide
theorem d_frac : double.fractionBits = 52 := rfl

theorem read_word (s : Bool) (r : Nat) (hr : r < 9218868437227405312) :
    double.read (double.word s r) = if r < 4503599627370496 then .number s r (-1074) else .number s (4503599627370496 + r % 4503599627370496) (-1074 + (r / 4503599627370496 - 1 : Nat)) := by
  have hs : double.word s r / double.signWeight % 2 = if s then 1 else 0 := by
    unfold Format.word
    rw [d_sign]
    cases s <;> simp <;> omega
  have hm : double.word s r % double.signWeight = r := by
    unfold Format.word
    rw [d_sign]
    cases s <;> simp <;> omega
  unfold Format.read
  simp only [hs, hm, d_bin, d_inf, d_least, if_pos hr]
  cases s <;> simp

/-- A whole number of few digits, at a place that the format has: written just so. -/
theorem write_exact (s : Bool) (k e : Nat) (p : Int) (hk0 : 0 < k) (hk : k < 2 ^ 53) (hp : -1074 ≤ p + e) (ht : p + e + (k.log2 : Int) ≤ 1023) :
    Fin' (double.read (double.nearest s (k * 2 ^ e) p)) ∧ V (double.read (double.nearest s (k * 2 ^ e) p)) = signed s k (p + e + 1074).toNat := by
  have hlk : k.log2 ≤ 52 := by
    have := (Nat.log2_lt (by omega : k ≠ 0)).2 hk
    omega
  have hlo : 2 ^ k.log2 ≤ k := Nat.log2_self_le (by omega)
  have hhi : k < 2 ^ (k.log2 + 1) := Nat.lt_log2_self
  have hm0 : k * 2 ^ e ≠ 0 := Nat.pos_iff_ne_zero.1 (Nat.mul_pos hk0 (Nat.two_pow_pos e))
  have hlog := log2_mul_pow k hk0 e
  obtain ⟨last, hlast⟩ : ∃ last : Int, last = max (p + ((k * 2 ^ e).log2 : Nat) - (52 : Nat)) (-1074) := ⟨_, rfl⟩
  have hl1 : last ≤ p + e := by rw [hlast, hlog]; omega
  have hl2 : -1074 ≤ last := by rw [hlast]; omega
  have hl3 : last ≤ 971 := by rw [hlast, hlog]; omega
  obtain ⟨j, hj⟩ : ∃ j : Nat, j = (p + e - last).toNat := ⟨_, rfl⟩
  have hkept : Toward.even.cut s ((k * 2 ^ e) <<< (p - last).toNat) (last - p).toNat = k * 2 ^ j := by
    rw [Nat.shiftLeft_eq]
    by_cases h : last ≤ p
    · have h1 : (last - p).toNat = 0 := by omega
      rw [h1]
      have := cut_exact s (k * 2 ^ e * 2 ^ (p - last).toNat) 0 (Nat.mul_pos (by omega) (Nat.two_pow_pos _))
      rw [Nat.pow_zero, Nat.mul_one] at this
      rw [this, Nat.mul_assoc, ← Nat.pow_add]
      congr 2
      omega
    · have h1 : (p - last).toNat = 0 := by omega
      rw [h1, Nat.pow_zero, Nat.mul_one]
      have := cut_exact s (k * 2 ^ j) (last - p).toNat (Nat.mul_pos hk0 (Nat.two_pow_pos _))
      rw [Nat.mul_assoc, ← Nat.pow_add] at this
      rw [show e = j + (last - p).toNat by omega]
      exact this
  have hj52 : k.log2 + j ≤ 52 := by rw [hj, hlast, hlog]; omega
  have hkl : k * 2 ^ j < 9007199254740992 := by
    have h1 : k * 2 ^ j < 2 ^ (k.log2 + 1) * 2 ^ j := Nat.mul_lt_mul_of_pos_right hhi (Nat.two_pow_pos _)
    rw [← Nat.pow_add] at h1
    have h2 : 2 ^ (k.log2 + 1 + j) ≤ 2 ^ 53 := Nat.pow_le_pow_right (by omega) (by omega)
    have h3 : (2 : Nat) ^ 53 = 9007199254740992 := by decide
    omega
  have hge : -1074 < last → 4503599627370496 ≤ k * 2 ^ j := by
    intro h
    have h1 : k.log2 + j = 52 := by rw [hj, hlast, hlog]; rw [hlast, hlog] at h; omega
    have h2 : 2 ^ k.log2 * 2 ^ j ≤ k * 2 ^ j := Nat.mul_le_mul_right _ hlo
    rw [← Nat.pow_add, h1] at h2
    have h3 : (2 : Nat) ^ 52 = 4503599627370496 := by decide
    omega
  have hn : double.nearest s (k * 2 ^ e) p = double.word s ((last + 1074).toNat * 4503599627370496 + k * 2 ^ j) := by
    unfold Format.nearest
    rw [if_neg hm0]
    simp only [d_least, d_bin, d_inf, d_frac]
    rw [← hlast, hkept, show last - -1074 = last + 1074 by omega, Nat.min_eq_left (by omega)]
  rw [hn, read_word s _ (by omega)]
  obtain ⟨kept, hkp⟩ : ∃ kept, kept = k * 2 ^ j := ⟨_, rfl⟩
  rw [← hkp] at hkl hge ⊢
  have hval : ∀ x : Nat, x + j = (p + e + 1074).toNat → signed s kept x = signed s k (p + e + 1074).toNat := by
    intro x hx
    rw [signed_eq, signed_eq, ← hx, hkp, Int.pow_add]
    congr 1
    simp only [Int.natCast_mul, Int.natCast_pow]
    rw [Int.mul_assoc, Int.mul_comm (2 ^ x)]
    rfl
  by_cases hb : -1074 < last
  · have h1 := hge hb
    have hr : ¬ ((last + 1074).toNat * 4503599627370496 + kept < 4503599627370496) := by omega
    rw [if_neg hr]
    have e1 : 4503599627370496 + ((last + 1074).toNat * 4503599627370496 + kept) % 4503599627370496 = kept := by omega
    have e2 : (-1074 : Int) + (((last + 1074).toNat * 4503599627370496 + kept) / 4503599627370496 - 1 : Nat) = last := by omega
    rw [e1, e2]
    exact ⟨by simp only [Fin']; omega, hval _ (by omega)⟩
  · have z : (last + 1074).toNat = 0 := by omega
    rw [z, Nat.zero_mul, Nat.zero_add]
    have hv : signed s kept 0 = signed s k (p + e + 1074).toNat := hval 0 (by omega)
    have fin : ∀ q : Int, q = -1074 → Fin' (.number s kept q) ∧ V (.number s kept q) = signed s k (p + e + 1074).toNat := fun q hq => by
      have hq1 : (q + 1074).toNat = 0 := by omega
      exact ⟨by simp only [Fin']; omega, by simp only [V]; rw [hq1]; exact hv⟩
    by_cases hr : kept < 4503599627370496
    · rw [if_pos hr]
      exact fin _ rfl
    · rw [if_neg hr]
      have e1 : 4503599627370496 + kept % 4503599627370496 = kept := by omega
      have e2 : kept / 4503599627370496 - 1 = 0 := by omega
      rw [e1, e2]
      exact fin _ rfl
end Go.Proofs.Ytbpmgdneiejhoaa
