/-
  The walks of gold: Of, Add, Neg, Sub, fold, Mul, In, over integers: what each returns is a number modulo 2^64 - 2^32 + 1.
  Conditions: the arguments are numbers of 64 bits.
-/
import Derived.Test.YtnajihlhcdedgaaRows
import Derived.Test.YtnajihlhcdedgaaCalm
import Derived.WalkKit
import Derived.WalkSpells
import Derived.WalkLawsBesides
import Derived.Lib.Mul64
import Derived.Lib.Hide
import Derived.Laws.Bits64b
namespace Go.Proofs.Ytnajihlhcdedgaa
open Go.RowKit
set_option linter.unusedVariables false

theorem ret_u64 {a b : Int} (h : a = b) : Ending.returned (.int .u64 a) = .returned (.int .u64 b) := by rw [h]

namespace Mul64
theorem maskN (a : Nat) (ha : a < 18446744073709551616) : bits .and .u64 (a : Int) 4294967295 = ((a % 4294967296 : Nat) : Int) := by
  have h := bits_and_u64_nat a 4294967295 ha (by omega)
  have e : a &&& 4294967295 = a % 4294967296 := Nat.and_two_pow_sub_one_eq_mod a 32
  rw [e] at h
  exact h
theorem divN (a : Nat) : (a : Int) / 4294967296 = ((a / 4294967296 : Nat) : Int) := by omega
theorem mulN (a b : Nat) : (a : Int) * (b : Int) = ((a * b : Nat) : Int) := (Int.natCast_mul a b).symm
theorem addN (a b : Nat) : (a : Int) + (b : Int) = ((a + b : Nat) : Int) := (Int.natCast_add a b).symm
theorem wrapN (a : Nat) (ha : a < 18446744073709551616) : IntKind.u64.wrap (a : Int) = (a : Int) := by rw [IntKind.wrap_u64]; omega
theorem wrapM (a : Nat) : IntKind.u64.wrap (a : Int) = ((a % 18446744073709551616 : Nat) : Int) := by rw [IntKind.wrap_u64]; omega
end Mul64

set_option maxHeartbeats 1000000 in
/-- The product's upper and lower half. -/
theorem bits_Mul64N (x y : Nat) (hx : x < 18446744073709551616) (hy : y < 18446744073709551616) (w : World) :
    Calls Try.prog 111 #[.int .u64 x, .int .u64 y] w fun e w' => e = .returned (.tuple #[.int .u64 ((x * y / 18446744073709551616 : Nat) : Int), .int .u64 ((x * y % 18446744073709551616 : Nat) : Int)]) ∧ w = w' := by
  obtain ⟨bd, bt, bw, hhi⟩ := Lib.mul64_hi x y hx hy
  have ba := Lib.half_mul_le (a := x / 4294967296) (b := y / 4294967296) (by omega) (by omega)
  have bb := Lib.half_mul_le (a := x / 4294967296) (b := y % 4294967296) (by omega) (by omega)
  have bc := Lib.half_mul_le (a := x % 4294967296) (b := y / 4294967296) (by omega) (by omega)
  have ba' : x / 4294967296 * (y / 4294967296) < 18446744073709551616 := by omega
  have bb' : x / 4294967296 * (y % 4294967296) < 18446744073709551616 := by omega
  have bc' : x % 4294967296 * (y / 4294967296) < 18446744073709551616 := by omega
  have bh1 : x / 4294967296 * (y / 4294967296) + (x / 4294967296 * (y % 4294967296) + x % 4294967296 * (y % 4294967296) / 4294967296) / 4294967296 < 18446744073709551616 := by omega
  have bh : x / 4294967296 * (y / 4294967296) + (x / 4294967296 * (y % 4294967296) + x % 4294967296 * (y % 4294967296) / 4294967296) / 4294967296 + ((x / 4294967296 * (y % 4294967296) + x % 4294967296 * (y % 4294967296) / 4294967296) % 4294967296 + x % 4294967296 * (y / 4294967296)) / 4294967296 < 18446744073709551616 := by omega
  go_enter Try.func111, Try.ntmps111
  go_wp2
  simp only [Mul64.maskN x hx, Mul64.maskN y hy, Mul64.divN, Mul64.mulN, Mul64.addN, Mul64.wrapN _ bd, Mul64.wrapN _ bb', Mul64.wrapN _ bt, Mul64.maskN _ bt, Mul64.wrapN _ bc', Mul64.wrapN _ bw, Mul64.wrapN _ ba', Mul64.wrapN _ bh1, Mul64.wrapN _ bh, Mul64.wrapM (x * y)]
  rw [hhi]
  go_ret2
  exact ⟨rfl, rfl⟩

theorem bits_Mul64 (x y : Int) (hx0 : 0 ≤ x) (hx : x ≤ 18446744073709551615) (hy0 : 0 ≤ y) (hy : y ≤ 18446744073709551615) (w : World) :
    Calls Try.prog 111 #[.int .u64 x, .int .u64 y] w fun e w' => e = .returned (.tuple #[.int .u64 (x * y / 18446744073709551616), .int .u64 (x * y % 18446744073709551616)]) ∧ w = w' := by
  obtain ⟨X, rfl⟩ := Int.eq_ofNat_of_zero_le hx0
  obtain ⟨Y, rfl⟩ := Int.eq_ofNat_of_zero_le hy0
  have h := bits_Mul64N X Y (by omega) (by omega) w
  have e1 : ((X * Y / 18446744073709551616 : Nat) : Int) = (X : Int) * (Y : Int) / 18446744073709551616 := by
    rw [Int.natCast_ediv, Int.natCast_mul]; rfl
  have e2 : ((X * Y % 18446744073709551616 : Nat) : Int) = (X : Int) * (Y : Int) % 18446744073709551616 := by
    rw [Int.natCast_emod, Int.natCast_mul]; rfl
  rw [e1, e2] at h
  exact h

set_option maxHeartbeats 400000 in
theorem gold_Of (x : Int) (w : World) (h0 : 0 ≤ x) (h1 : x ≤ 18446744073709551615) :
    Calls Try.prog 31 #[.int .u64 x] w fun e w' => e = .returned (.int .u64 (x % 18446744069414584321)) ∧ w = w' := by
  by_cases h : x < 18446744069414584321
  · go_enter Try.func31, Try.ntmps31
    go_wp2
    go_ret
    exact ⟨ret_u64 (by omega), rfl⟩
  · go_enter Try.func31, Try.ntmps31
    go_wp2
    go_ret
    exact ⟨ret_u64 (by omega), rfl⟩

set_option maxHeartbeats 400000 in
theorem gold_Neg (x : Int) (w : World) (h0 : 0 ≤ x) (h1 : x ≤ 18446744073709551615) :
    Calls Try.prog 29 #[.int .u64 x] w fun e w' => e = .returned (.int .u64 ((-x) % 18446744069414584321)) ∧ w = w' := by
  obtain ⟨y, hy⟩ : ∃ y, y = x % 18446744069414584321 := ⟨_, rfl⟩
  have y0 : 0 ≤ y := by omega
  have y1 : y < 18446744069414584321 := by omega
  have hn : (-x) % 18446744069414584321 = (-y) % 18446744069414584321 := by rw [hy]; omega
  have H : Hid _ := hn
  have HY : Hid _ := hy
  clear hn hy
  by_cases h : y = 0
  · subst h
    go_enter Try.func29, Try.ntmps29
    go_wp2_with (go_at_call 31; refine (gold_Of x _ h0 h1).mono ?_; rw [← HY.out]; rintro e w' ⟨rfl, rfl⟩)
    go_ret
    exact ⟨ret_u64 (by have := HY.out; omega), rfl⟩
  · go_enter Try.func29, Try.ntmps29
    go_wp2_with (go_at_call 31; refine (gold_Of x _ h0 h1).mono ?_; rw [← HY.out]; rintro e w' ⟨rfl, rfl⟩)
    go_ret
    exact ⟨ret_u64 (by have := HY.out; omega), rfl⟩



/-- The model's entry for math/bits.Sub64. -/
def sub64E : Array Value → Sem Value := fun args => do
  let (x, y, b) ← Extern.MathBitsCarry.three "Sub64" args
  pure (Extern.MathBitsCarry.pair ((x + Extern.MathBitsCarry.m64 - y - b) % Extern.MathBitsCarry.m64) (if x < y + b then 1 else 0))

theorem run_sub64E {P : Program} (x y b : Nat) (hb : b ≤ 1) (w : World) :
    (sub64E #[.int .u64 x, .int .u64 y, .int .u64 b]).run P w =
      .ok (.tuple #[.int .u64 (((x + 18446744073709551616 - y - b) % 18446744073709551616 : Nat) : Int), .int .u64 ((if x < y + b then 1 else 0 : Nat) : Int)]) w := by
  have : b = 0 ∨ b = 1 := by omega
  rcases this with rfl | rfl <;> rfl

theorem run_Add64 (x y c : Int) (hx : 0 ≤ x) (hy : 0 ≤ y) (hc : 0 ≤ c) (hc1 : c ≤ 1) (w : World) :
    (callFunc 110 #[.int .u64 x, .int .u64 y, .int .u64 c]).run Try.prog w =
      .ok (.value (.tuple #[.int .u64 ((x + y + c) % 18446744073709551616), .int .u64 ((x + y + c) / 18446744073709551616)])) w := by
  rw [run_callFunc_extern Try.func110 (by kernel_rfl) (by kernel_rfl) (by kernel_rfl) (e := add64Entry) (by kernel_rfl), run_add64 x y c hx hy hc hc1]
  rfl

theorem run_Sub64 (x y c : Int) (hx : 0 ≤ x) (hy : 0 ≤ y) (hx1 : x ≤ 18446744073709551615) (hy1 : y ≤ 18446744073709551615) (hc : 0 ≤ c) (hc1 : c ≤ 1) (w : World) :
    (callFunc 133 #[.int .u64 x, .int .u64 y, .int .u64 c]).run Try.prog w =
      .ok (.value (.tuple #[.int .u64 ((x - y - c) % 18446744073709551616), .int .u64 (if x < y + c then 1 else 0)])) w := by
  obtain ⟨X, rfl⟩ := Int.eq_ofNat_of_zero_le hx
  obtain ⟨Y, rfl⟩ := Int.eq_ofNat_of_zero_le hy
  obtain ⟨C, rfl⟩ := Int.eq_ofNat_of_zero_le hc
  rw [run_callFunc_extern Try.func133 (by kernel_rfl) (by kernel_rfl) (by kernel_rfl) (e := sub64E) (by kernel_rfl), run_sub64E X Y C (by omega)]
  have e1 : (((X + 18446744073709551616 - Y - C) % 18446744073709551616 : Nat) : Int) = ((X : Int) - Y - C) % 18446744073709551616 := by omega
  have e2 : ((if X < Y + C then 1 else 0 : Nat) : Int) = (if (X : Int) < Y + C then 1 else 0) := by
    by_cases h : X < Y + C
    · rw [if_pos h, if_pos (by omega)]; rfl
    · rw [if_neg h, if_neg (by omega)]; rfl
  rw [e1, e2]
  rfl

/-- What Add64 says, in plain cases. -/
theorem add64_low (x y c : Int) (hx : 0 ≤ x) (hy : 0 ≤ y) (hc : 0 ≤ c) (hc1 : c ≤ 1) (h : x + y + c < 18446744073709551616) (w : World) :
    (callFunc 110 #[.int .u64 x, .int .u64 y, .int .u64 c]).run Try.prog w = .ok (.value (.tuple #[.int .u64 (x + y + c), .int .u64 0])) w := by
  rw [run_Add64 x y c hx hy hc hc1, show (x + y + c) % 18446744073709551616 = x + y + c by omega, show (x + y + c) / 18446744073709551616 = 0 by omega]
theorem add64_high (x y c : Int) (hx : 0 ≤ x) (hy : 0 ≤ y) (hx1 : x ≤ 18446744073709551615) (hy1 : y ≤ 18446744073709551615) (hc : 0 ≤ c) (hc1 : c ≤ 1) (h : 18446744073709551616 ≤ x + y + c) (w : World) :
    (callFunc 110 #[.int .u64 x, .int .u64 y, .int .u64 c]).run Try.prog w = .ok (.value (.tuple #[.int .u64 (x + y + c - 18446744073709551616), .int .u64 1])) w := by
  rw [run_Add64 x y c hx hy hc hc1, show (x + y + c) % 18446744073709551616 = x + y + c - 18446744073709551616 by omega, show (x + y + c) / 18446744073709551616 = 1 by omega]
theorem sub64_ok (x y c : Int) (hx : 0 ≤ x) (hy : 0 ≤ y) (hx1 : x ≤ 18446744073709551615) (hy1 : y ≤ 18446744073709551615) (hc : 0 ≤ c) (hc1 : c ≤ 1) (h : y + c ≤ x) (w : World) :
    (callFunc 133 #[.int .u64 x, .int .u64 y, .int .u64 c]).run Try.prog w = .ok (.value (.tuple #[.int .u64 (x - y - c), .int .u64 0])) w := by
  rw [run_Sub64 x y c hx hy hx1 hy1 hc hc1, show (x - y - c) % 18446744073709551616 = x - y - c by omega, if_neg (by omega)]
theorem sub64_borrow (x y c : Int) (hx : 0 ≤ x) (hy : 0 ≤ y) (hx1 : x ≤ 18446744073709551615) (hy1 : y ≤ 18446744073709551615) (hc : 0 ≤ c) (hc1 : c ≤ 1) (h : x < y + c) (w : World) :
    (callFunc 133 #[.int .u64 x, .int .u64 y, .int .u64 c]).run Try.prog w = .ok (.value (.tuple #[.int .u64 (x - y - c + 18446744073709551616), .int .u64 1])) w := by
  rw [run_Sub64 x y c hx hy hx1 hy1 hc hc1, show (x - y - c) % 18446744073709551616 = x - y - c + 18446744073709551616 by omega, if_pos (by omega)]

/-- Add, of numbers that Of has taken in. -/
theorem gold_Add_in (x y X Y S C R : Int) (w : World) (x0 : 0 ≤ X) (x1 : X < 18446744069414584321) (y0 : 0 ≤ Y) (y1 : Y < 18446744069414584321)
    (HX : Hid (∀ w, Calls Try.prog 31 #[.int .u64 x] w fun e w' => e = .returned (.int .u64 X) ∧ w = w'))
    (HY : Hid (∀ w, Calls Try.prog 31 #[.int .u64 y] w fun e w' => e = .returned (.int .u64 Y) ∧ w = w'))
    (HA : ∀ w, (callFunc 110 #[.int .u64 X, .int .u64 Y, .int .u64 0]).run Try.prog w = .ok (.value (.tuple #[.int .u64 S, .int .u64 C])) w)
    (hS : 0 ≤ S) (hS1 : S ≤ 18446744073709551615) (HR : Hid ((C = 0 ∧ S < 18446744069414584321 ∧ R = S) ∨ ((C = 1 ∨ (C = 0 ∧ 18446744069414584321 ≤ S)) ∧ R = (S - 18446744069414584321) % 18446744073709551616))) :
    Calls Try.prog 27 #[.int .u64 x, .int .u64 y] w fun e w' => e = .returned (.int .u64 R) ∧ w = w' := by
  rcases HR.out with ⟨rfl, hs, rfl⟩ | ⟨rfl | ⟨rfl, hs⟩, rfl⟩
  all_goals
    clear HR
    go_enter Try.func27, Try.ntmps27
    go_wp2_with fail
    refine (HX.out _).mono ?_
    rintro e w' ⟨rfl, rfl⟩
    go_wp2_with fail
    refine (HY.out _).mono ?_
    rintro e w' ⟨rfl, rfl⟩
    go_wp2_with fail
    go_ret
    exact ⟨ret_u64 (by first | rfl | rw [IntKind.wrap_u64] | omega), rfl⟩

theorem gold_Add (x y : Int) (w : World) (h0 : 0 ≤ x) (h1 : x ≤ 18446744073709551615) (g0 : 0 ≤ y) (g1 : y ≤ 18446744073709551615) :
    Calls Try.prog 27 #[.int .u64 x, .int .u64 y] w fun e w' => e = .returned (.int .u64 ((x + y) % 18446744069414584321)) ∧ w = w' := by
  have key := gold_Add_in x y (x % 18446744069414584321) (y % 18446744069414584321)
  by_cases h : x % 18446744069414584321 + y % 18446744069414584321 < 18446744073709551616
  · exact key _ _ _ w (by omega) (by omega) (by omega) (by omega) (Lib.hid fun w => gold_Of x w h0 h1) (Lib.hid fun w => gold_Of y w g0 g1)
      (fun w => add64_low _ _ 0 (by omega) (by omega) (by omega) (by omega) (by omega) w) (by omega) (by omega) (by
        show (_ : Prop)
        by_cases h2 : x % 18446744069414584321 + y % 18446744069414584321 < 18446744069414584321
        · exact .inl ⟨rfl, by omega, by omega⟩
        · exact .inr ⟨.inr ⟨rfl, by omega⟩, by omega⟩)
  · exact key _ _ _ w (by omega) (by omega) (by omega) (by omega) (Lib.hid fun w => gold_Of x w h0 h1) (Lib.hid fun w => gold_Of y w g0 g1)
      (fun w => add64_high _ _ 0 (by omega) (by omega) (by omega) (by omega) (by omega) (by omega) (by omega) w) (by omega) (by omega) (.inr ⟨.inl rfl, by omega⟩)

set_option maxHeartbeats 400000 in
theorem gold_Sub (x y : Int) (w : World) (h0 : 0 ≤ x) (h1 : x ≤ 18446744073709551615) (g0 : 0 ≤ y) (g1 : y ≤ 18446744073709551615) :
    Calls Try.prog 30 #[.int .u64 x, .int .u64 y] w fun e w' => e = .returned (.int .u64 ((x - y) % 18446744069414584321)) ∧ w = w' := by
  obtain ⟨Z, hZ⟩ : ∃ Z, Z = (-y) % 18446744069414584321 := ⟨_, rfl⟩
  have z0 : 0 ≤ Z := by omega
  have z1 : Z ≤ 18446744073709551615 := by omega
  have CN := fun w => gold_Neg y w g0 g1
  have CA := fun w => gold_Add x Z w h0 h1 z0 z1
  rw [← hZ] at CN
  rw [show (x + Z) % 18446744069414584321 = (x - y) % 18446744069414584321 by rw [hZ]; omega] at CA
  have HN := Lib.hid CN
  have HA := Lib.hid CA
  clear CN CA hZ
  go_enter Try.func30, Try.ntmps30
  go_wp2_with fail
  refine (HN.out _).mono ?_
  rintro e w' ⟨rfl, rfl⟩
  go_wp2_with fail
  refine (HA.out _).mono ?_
  rintro e w' ⟨rfl, rfl⟩
  go_wp2_with fail
  go_ret
  exact ⟨rfl, rfl⟩

theorem and32 (a : Int) (h0 : 0 ≤ a) (h1 : a ≤ 18446744073709551615) : bits .and .u64 a 4294967295 = a % 4294967296 := by
  obtain ⟨A, rfl⟩ := Int.eq_ofNat_of_zero_le h0
  rw [Mul64.maskN A (by omega)]
  omega

set_option maxHeartbeats 400000 in
/-- fold, of a difference that Sub64 has told. -/
theorem gold_fold_in (hi lo L N C M R : Int) (w : World) (h0 : 0 ≤ hi) (h1 : hi ≤ 18446744073709551615) (g0 : 0 ≤ lo) (g1 : lo ≤ 18446744073709551615)
    (HL : bits .and .u64 hi 4294967295 = L) (l0 : 0 ≤ L) (l1 : L < 4294967296) (n0 : 0 ≤ N) (n1 : N ≤ 18446744073709551615)
    (HS : ∀ w, (callFunc 133 #[.int .u64 lo, .int .u64 (hi / 4294967296), .int .u64 0]).run Try.prog w = .ok (.value (.tuple #[.int .u64 N, .int .u64 C])) w)
    (HC : Hid ((C = 0 ∧ N = M) ∨ (C = 1 ∧ 4294967295 ≤ N ∧ M = N - 4294967295)))
    (HA : Hid (∀ w, Calls Try.prog 27 #[.int .u64 M, .int .u64 (L * 4294967295)] w fun e w' => e = .returned (.int .u64 R) ∧ w = w')) :
    Calls Try.prog 112 #[.int .u64 hi, .int .u64 lo] w fun e w' => e = .returned (.int .u64 R) ∧ w = w' := by
  rcases HC.out with ⟨rfl, rfl⟩ | ⟨rfl, hn, rfl⟩
  all_goals
    clear HC
    go_enter Try.func112, Try.ntmps112
    go_wp2_with fail
    refine (HA.out _).mono ?_
    rintro e w' ⟨rfl, rfl⟩
    go_wp2_with fail
    go_ret
    exact ⟨rfl, rfl⟩

theorem gold_fold (hi lo : Int) (w : World) (h0 : 0 ≤ hi) (h1 : hi ≤ 18446744073709551615) (g0 : 0 ≤ lo) (g1 : lo ≤ 18446744073709551615) :
    Calls Try.prog 112 #[.int .u64 hi, .int .u64 lo] w fun e w' => e = .returned (.int .u64 ((hi * 18446744073709551616 + lo) % 18446744069414584321)) ∧ w = w' := by
  by_cases h : hi / 4294967296 ≤ lo
  · have HA := fun w => gold_Add (lo - hi / 4294967296 - 0) (hi % 4294967296 * 4294967295) w (by omega) (by omega) (by omega) (by omega)
    rw [show (lo - hi / 4294967296 - 0 + hi % 4294967296 * 4294967295) % 18446744069414584321 = (hi * 18446744073709551616 + lo) % 18446744069414584321 by omega] at HA
    exact gold_fold_in hi lo (hi % 4294967296) _ _ _ _ w h0 h1 g0 g1 (and32 hi h0 h1) (by omega) (by omega) (by omega) (by omega)
      (fun w => sub64_ok _ _ 0 (by omega) (by omega) (by omega) (by omega) (by omega) (by omega) (by omega) w) (.inl ⟨rfl, rfl⟩) (Lib.hid HA)
  · have HA := fun w => gold_Add (lo - hi / 4294967296 - 0 + 18446744073709551616 - 4294967295) (hi % 4294967296 * 4294967295) w (by omega) (by omega) (by omega) (by omega)
    rw [show (lo - hi / 4294967296 - 0 + 18446744073709551616 - 4294967295 + hi % 4294967296 * 4294967295) % 18446744069414584321 = (hi * 18446744073709551616 + lo) % 18446744069414584321 by omega] at HA
    exact gold_fold_in hi lo (hi % 4294967296) _ _ _ _ w h0 h1 g0 g1 (and32 hi h0 h1) (by omega) (by omega) (by omega) (by omega)
      (fun w => sub64_borrow _ _ 0 (by omega) (by omega) (by omega) (by omega) (by omega) (by omega) (by omega) w) (.inr ⟨rfl, by omega, rfl⟩) (Lib.hid HA)

theorem mul_lt_sq {x y b : Int} (hx0 : 0 ≤ x) (hx : x ≤ b) (hy0 : 0 ≤ y) (hy : y ≤ b) (hb : 0 ≤ b) : 0 ≤ x * y ∧ x * y ≤ b * b :=
  ⟨Int.mul_nonneg hx0 hy0, Int.mul_le_mul hx hy hy0 hb⟩

set_option maxHeartbeats 400000 in
theorem gold_Mul (x y : Int) (w : World) (h0 : 0 ≤ x) (h1 : x ≤ 18446744073709551615) (g0 : 0 ≤ y) (g1 : y ≤ 18446744073709551615) :
    Calls Try.prog 28 #[.int .u64 x, .int .u64 y] w fun e w' => e = .returned (.int .u64 ((x * y) % 18446744069414584321)) ∧ w = w' := by
  have hXY : (x * y) % 18446744069414584321 = ((x % 18446744069414584321) * (y % 18446744069414584321)) % 18446744069414584321 := Int.mul_emod _ _ _
  have CX := fun w => gold_Of x w h0 h1
  have CY := fun w => gold_Of y w g0 g1
  have x0 : 0 ≤ x % 18446744069414584321 := by omega
  have x1 : x % 18446744069414584321 ≤ 18446744073709551615 := by omega
  have y0 : 0 ≤ y % 18446744069414584321 := by omega
  have y1 : y % 18446744069414584321 ≤ 18446744073709551615 := by omega
  rw [hXY]
  clear hXY
  generalize x % 18446744069414584321 = X at *
  generalize y % 18446744069414584321 = Y at *
  have CM := fun w => bits_Mul64 X Y x0 x1 y0 y1 w
  obtain ⟨m0, m1⟩ := mul_lt_sq x0 x1 y0 y1 (by omega)
  generalize X * Y = M at *
  have CF := fun w => gold_fold (M / 18446744073709551616) (M % 18446744073709551616) w (by omega) (by omega) (by omega) (by omega)
  rw [show M / 18446744073709551616 * 18446744073709551616 + M % 18446744073709551616 = M by omega] at CF
  have p0 : 0 ≤ M / 18446744073709551616 := by omega
  have q0 : 0 ≤ M % 18446744073709551616 := by omega
  generalize M / 18446744073709551616 = H at *
  generalize M % 18446744073709551616 = Lo at *
  have HX := Lib.hid CX
  have HY := Lib.hid CY
  have HM := Lib.hid CM
  have HF := Lib.hid CF
  clear CX CY CM CF m0 m1
  go_enter Try.func28, Try.ntmps28
  go_wp2_with fail
  refine (HX.out _).mono ?_
  rintro e w' ⟨rfl, rfl⟩
  go_wp2_with fail
  refine (HY.out _).mono ?_
  rintro e w' ⟨rfl, rfl⟩
  go_wp2_with fail
  refine (HM.out _).mono ?_
  rintro e w' ⟨rfl, rfl⟩
  go_wp2_with fail
  refine (HF.out _).mono ?_
  rintro e w' ⟨rfl, rfl⟩
  go_wp2_with fail
  go_ret
  exact ⟨rfl, rfl⟩

theorem gold_In (x : Int) (w : World) : Calls Try.prog 34 #[.int .u64 x] w fun e w' => e = .returned (.bool (decide (x < 18446744069414584321))) ∧ w = w' := by
  go_enter Try.func34, Try.ntmps34
  go_wp2
  go_ret
  exact ⟨rfl, rfl⟩

#print axioms gold_Mul
end Go.Proofs.Ytnajihlhcdedgaa
