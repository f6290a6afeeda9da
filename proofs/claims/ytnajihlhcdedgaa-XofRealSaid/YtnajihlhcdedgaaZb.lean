/-
  Texts joined: G1 R1 R2 R3 R4 R5 G2 GSums GSumsLaw Fermat G3 GPow G4 G5 G6 G7 G8 GBytes.
-/
import Derived.Test.YtnajihlhcdedgaaRows
import Derived.Test.YtnajihlhcdedgaaZa
import Derived.WalkKit
import Derived.WalkSpells
import Derived.WalkLawsBesides
import Derived.Lib.Mul64
import Derived.Lib.Hide
import Derived.Laws.Bits64b
import Derived.OpenShut
import Derived.IntWalk
import Derived.Outline
import Derived.Deep.Cut
namespace Go.Proofs.Ytnajihlhcdedgaa
open Go.RowKit
set_option linter.unusedVariables false

theorem ret_u64 {a b : Int} (h : a = b) : Ending.returned (.int .u64 a) = .returned (.int .u64 b) := by rw [h]

namespace Mul64
theorem maskN (a : Nat) (ha : a < 18446744073709551616) : bits .and .u64 (a : Int) 4294967295 = ((a % 4294967296 : Nat) : Int) := by
  have h := bits_and_u64_nat a 4294967295 ha (by omega)
  have e : a &&& 4294967295 = a % 4294967296 := Nat.and_two_pow_sub_one_eq_mod a 32
  rw [e] at h
  exact h
theorem divN (a : Nat) : (a : Int) / 4294967296 = ((a / 4294967296 : Nat) : Int) := by omega
theorem mulN (a b : Nat) : (a : Int) * (b : Int) = ((a * b : Nat) : Int) := (Int.natCast_mul a b).symm
theorem addN (a b : Nat) : (a : Int) + (b : Int) = ((a + b : Nat) : Int) := (Int.natCast_add a b).symm
theorem wrapN (a : Nat) (ha : a < 18446744073709551616) : IntKind.u64.wrap (a : Int) = (a : Int) := by rw [IntKind.wrap_u64]; omega
theorem wrapM (a : Nat) : IntKind.u64.wrap (a : Int) = ((a % 18446744073709551616 : Nat) : Int) := by rw [IntKind.wrap_u64]; omega
end Mul64

set_option maxHeartbeats 1000000 in
/-- The product's upper and lower half. -/
theorem bits_Mul64N (x y : Nat) (hx : x < 18446744073709551616) (hy : y < 18446744073709551616) (w : World) :
    Calls Try.prog 111 #[.int .u64 x, .int .u64 y] w fun e w' => e = .returned (.tuple #[.int .u64 ((x * y / 18446744073709551616 : Nat) : Int), .int .u64 ((x * y % 18446744073709551616 : Nat) : Int)]) ∧ w = w' := by
  obtain ⟨bd, bt, bw, hhi⟩ := Lib.mul64_hi x y hx hy
  have ba := Lib.half_mul_le (a := x / 4294967296) (b := y / 4294967296) (by omega) (by omega)
  have bb := Lib.half_mul_le (a := x / 4294967296) (b := y % 4294967296) (by omega) (by omega)
  have bc := Lib.half_mul_le (a := x % 4294967296) (b := y / 4294967296) (by omega) (by omega)
  have ba' : x / 4294967296 * (y / 4294967296) < 18446744073709551616 := by omega
  have bb' : x / 4294967296 * (y % 4294967296) < 18446744073709551616 := by omega
  have bc' : x % 4294967296 * (y / 4294967296) < 18446744073709551616 := by omega
  have bh1 : x / 4294967296 * (y / 4294967296) + (x / 4294967296 * (y % 4294967296) + x % 4294967296 * (y % 4294967296) / 4294967296) / 4294967296 < 18446744073709551616 := by omega
  have bh : x / 4294967296 * (y / 4294967296) + (x / 4294967296 * (y % 4294967296) + x % 4294967296 * (y % 4294967296) / 4294967296) / 4294967296 + ((x / 4294967296 * (y % 4294967296) + x % 4294967296 * (y % 4294967296) / 4294967296) % 4294967296 + x % 4294967296 * (y / 4294967296)) / 4294967296 < 18446744073709551616 := by omega
  go_enter Try.func111, Try.ntmps111
  go_wp2
  simp only [Mul64.maskN x hx, Mul64.maskN y hy, Mul64.divN, Mul64.mulN, Mul64.addN, Mul64.wrapN _ bd, Mul64.wrapN _ bb', Mul64.wrapN _ bt, Mul64.maskN _ bt, Mul64.wrapN _ bc', Mul64.wrapN _ bw, Mul64.wrapN _ ba', Mul64.wrapN _ bh1, Mul64.wrapN _ bh, Mul64.wrapM (x * y)]
  rw [hhi]
  go_ret2
  exact ⟨rfl, rfl⟩

theorem bits_Mul64 (x y : Int) (hx0 : 0 ≤ x) (hx : x ≤ 18446744073709551615) (hy0 : 0 ≤ y) (hy : y ≤ 18446744073709551615) (w : World) :
    Calls Try.prog 111 #[.int .u64 x, .int .u64 y] w fun e w' => e = .returned (.tuple #[.int .u64 (x * y / 18446744073709551616), .int .u64 (x * y % 18446744073709551616)]) ∧ w = w' := by
  obtain ⟨X, rfl⟩ := Int.eq_ofNat_of_zero_le hx0
  obtain ⟨Y, rfl⟩ := Int.eq_ofNat_of_zero_le hy0
  have h := bits_Mul64N X Y (by omega) (by omega) w
  have e1 : ((X * Y / 18446744073709551616 : Nat) : Int) = (X : Int) * (Y : Int) / 18446744073709551616 := by
    rw [Int.natCast_ediv, Int.natCast_mul]; rfl
  have e2 : ((X * Y % 18446744073709551616 : Nat) : Int) = (X : Int) * (Y : Int) % 18446744073709551616 := by
    rw [Int.natCast_emod, Int.natCast_mul]; rfl
  rw [e1, e2] at h
  exact h

set_option maxHeartbeats 400000 in
theorem gold_Of (x : Int) (w : World) (h0 : 0 ≤ x) (h1 : x ≤ 18446744073709551615) :
    Calls Try.prog 31 #[.int .u64 x] w fun e w' => e = .returned (.int .u64 (x % 18446744069414584321)) ∧ w = w' := by
  by_cases h : x < 18446744069414584321
  · go_enter Try.func31, Try.ntmps31
    go_wp2
    go_ret
    exact ⟨ret_u64 (by omega), rfl⟩
  · go_enter Try.func31, Try.ntmps31
    go_wp2
    go_ret
    exact ⟨ret_u64 (by omega), rfl⟩

set_option maxHeartbeats 400000 in
theorem gold_Neg (x : Int) (w : World) (h0 : 0 ≤ x) (h1 : x ≤ 18446744073709551615) :
    Calls Try.prog 29 #[.int .u64 x] w fun e w' => e = .returned (.int .u64 ((-x) % 18446744069414584321)) ∧ w = w' := by
  obtain ⟨y, hy⟩ : ∃ y, y = x % 18446744069414584321 := ⟨_, rfl⟩
  have y0 : 0 ≤ y := by omega
  have y1 : y < 18446744069414584321 := by omega
  have hn : (-x) % 18446744069414584321 = (-y) % 18446744069414584321 := by rw [hy]; omega
  have H : Hid _ := hn
  have HY : Hid _ := hy
  clear hn hy
  by_cases h : y = 0
  · subst h
    go_enter Try.func29, Try.ntmps29
    go_wp2_with (go_at_call 31; refine (gold_Of x _ h0 h1).mono ?_; rw [← HY.out]; rintro e w' ⟨rfl, rfl⟩)
    go_ret
    exact ⟨ret_u64 (by have := HY.out; omega), rfl⟩
  · go_enter Try.func29, Try.ntmps29
    go_wp2_with (go_at_call 31; refine (gold_Of x _ h0 h1).mono ?_; rw [← HY.out]; rintro e w' ⟨rfl, rfl⟩)
    go_ret
    exact ⟨ret_u64 (by have := HY.out; omega), rfl⟩



/-- The model's entry for math/bits.Sub64. -/
def sub64E : Array Value → Sem Value := fun args => do
  let (x, y, b) ← Extern.MathBitsCarry.three "Sub64" args
  pure (Extern.MathBitsCarry.pair ((x + Extern.MathBitsCarry.m64 - y - b) % Extern.MathBitsCarry.m64) (if x < y + b then 1 else 0))

theorem run_sub64E {P : Program} (x y b : Nat) (hb : b ≤ 1) (w : World) :
    (sub64E #[.int .u64 x, .int .u64 y, .int .u64 b]).run P w =
      .ok (.tuple #[.int .u64 (((x + 18446744073709551616 - y - b) % 18446744073709551616 : Nat) : Int), .int .u64 ((if x < y + b then 1 else 0 : Nat) : Int)]) w := by
  have : b = 0 ∨ b = 1 := by omega
  rcases this with rfl | rfl <;> rfl

theorem run_Add64 (x y c : Int) (hx : 0 ≤ x) (hy : 0 ≤ y) (hc : 0 ≤ c) (hc1 : c ≤ 1) (w : World) :
    (callFunc 110 #[.int .u64 x, .int .u64 y, .int .u64 c]).run Try.prog w =
      .ok (.value (.tuple #[.int .u64 ((x + y + c) % 18446744073709551616), .int .u64 ((x + y + c) / 18446744073709551616)])) w := by
  rw [run_callFunc_extern Try.func110 (by kernel_rfl) (by kernel_rfl) (by kernel_rfl) (e := add64Entry) (by kernel_rfl), run_add64 x y c hx hy hc hc1]
  rfl

theorem run_Sub64 (x y c : Int) (hx : 0 ≤ x) (hy : 0 ≤ y) (hx1 : x ≤ 18446744073709551615) (hy1 : y ≤ 18446744073709551615) (hc : 0 ≤ c) (hc1 : c ≤ 1) (w : World) :
    (callFunc 133 #[.int .u64 x, .int .u64 y, .int .u64 c]).run Try.prog w =
      .ok (.value (.tuple #[.int .u64 ((x - y - c) % 18446744073709551616), .int .u64 (if x < y + c then 1 else 0)])) w := by
  obtain ⟨X, rfl⟩ := Int.eq_ofNat_of_zero_le hx
  obtain ⟨Y, rfl⟩ := Int.eq_ofNat_of_zero_le hy
  obtain ⟨C, rfl⟩ := Int.eq_ofNat_of_zero_le hc
  rw [run_callFunc_extern Try.func133 (by kernel_rfl) (by kernel_rfl) (by kernel_rfl) (e := sub64E) (by kernel_rfl), run_sub64E X Y C (by omega)]
  have e1 : (((X + 18446744073709551616 - Y - C) % 18446744073709551616 : Nat) : Int) = ((X : Int) - Y - C) % 18446744073709551616 := by omega
  have e2 : ((if X < Y + C then 1 else 0 : Nat) : Int) = (if (X : Int) < Y + C then 1 else 0) := by
    by_cases h : X < Y + C
    · rw [if_pos h, if_pos (by omega)]; rfl
    · rw [if_neg h, if_neg (by omega)]; rfl
  rw [e1, e2]
  rfl

/-- What Add64 says, in plain cases. -/
theorem add64_low (x y c : Int) (hx : 0 ≤ x) (hy : 0 ≤ y) (hc : 0 ≤ c) (hc1 : c ≤ 1) (h : x + y + c < 18446744073709551616) (w : World) :
    (callFunc 110 #[.int .u64 x, .int .u64 y, .int .u64 c]).run Try.prog w = .ok (.value (.tuple #[.int .u64 (x + y + c), .int .u64 0])) w := by
  rw [run_Add64 x y c hx hy hc hc1, show (x + y + c) % 18446744073709551616 = x + y + c by omega, show (x + y + c) / 18446744073709551616 = 0 by omega]
theorem add64_high (x y c : Int) (hx : 0 ≤ x) (hy : 0 ≤ y) (hx1 : x ≤ 18446744073709551615) (hy1 : y ≤ 18446744073709551615) (hc : 0 ≤ c) (hc1 : c ≤ 1) (h : 18446744073709551616 ≤ x + y + c) (w : World) :
    (callFunc 110 #[.int .u64 x, .int .u64 y, .int .u64 c]).run Try.prog w = .ok (.value (.tuple #[.int .u64 (x + y + c - 18446744073709551616), .int .u64 1])) w := by
  rw [run_Add64 x y c hx hy hc hc1, show (x + y + c) % 18446744073709551616 = x + y + c - 18446744073709551616 by omega, show (x + y + c) / 18446744073709551616 = 1 by omega]
theorem sub64_ok (x y c : Int) (hx : 0 ≤ x) (hy : 0 ≤ y) (hx1 : x ≤ 18446744073709551615) (hy1 : y ≤ 18446744073709551615) (hc : 0 ≤ c) (hc1 : c ≤ 1) (h : y + c ≤ x) (w : World) :
    (callFunc 133 #[.int .u64 x, .int .u64 y, .int .u64 c]).run Try.prog w = .ok (.value (.tuple #[.int .u64 (x - y - c), .int .u64 0])) w := by
  rw [run_Sub64 x y c hx hy hx1 hy1 hc hc1, show (x - y - c) % 18446744073709551616 = x - y - c by omega, if_neg (by omega)]
theorem sub64_borrow (x y c : Int) (hx : 0 ≤ x) (hy : 0 ≤ y) (hx1 : x ≤ 18446744073709551615) (hy1 : y ≤ 18446744073709551615) (hc : 0 ≤ c) (hc1 : c ≤ 1) (h : x < y + c) (w : World) :
    (callFunc 133 #[.int .u64 x, .int .u64 y, .int .u64 c]).run Try.prog w = .ok (.value (.tuple #[.int .u64 (x - y - c + 18446744073709551616), .int .u64 1])) w := by
  rw [run_Sub64 x y c hx hy hx1 hy1 hc hc1, show (x - y - c) % 18446744073709551616 = x - y - c + 18446744073709551616 by omega, if_pos (by omega)]

/-- Add, of numbers that Of has taken in. -/
theorem gold_Add_in (x y X Y S C R : Int) (w : World) (x0 : 0 ≤ X) (x1 : X < 18446744069414584321) (y0 : 0 ≤ Y) (y1 : Y < 18446744069414584321)
    (HX : Hid (∀ w, Calls Try.prog 31 #[.int .u64 x] w fun e w' => e = .returned (.int .u64 X) ∧ w = w'))
    (HY : Hid (∀ w, Calls Try.prog 31 #[.int .u64 y] w fun e w' => e = .returned (.int .u64 Y) ∧ w = w'))
    (HA : ∀ w, (callFunc 110 #[.int .u64 X, .int .u64 Y, .int .u64 0]).run Try.prog w = .ok (.value (.tuple #[.int .u64 S, .int .u64 C])) w)
    (hS : 0 ≤ S) (hS1 : S ≤ 18446744073709551615) (HR : Hid ((C = 0 ∧ S < 18446744069414584321 ∧ R = S) ∨ ((C = 1 ∨ (C = 0 ∧ 18446744069414584321 ≤ S)) ∧ R = (S - 18446744069414584321) % 18446744073709551616))) :
    Calls Try.prog 27 #[.int .u64 x, .int .u64 y] w fun e w' => e = .returned (.int .u64 R) ∧ w = w' := by
  rcases HR.out with ⟨rfl, hs, rfl⟩ | ⟨rfl | ⟨rfl, hs⟩, rfl⟩
  all_goals
    clear HR
    go_enter Try.func27, Try.ntmps27
    go_wp2_with fail
    refine (HX.out _).mono ?_
    rintro e w' ⟨rfl, rfl⟩
    go_wp2_with fail
    refine (HY.out _).mono ?_
    rintro e w' ⟨rfl, rfl⟩
    go_wp2_with fail
    go_ret
    exact ⟨ret_u64 (by first | rfl | rw [IntKind.wrap_u64] | omega), rfl⟩

theorem gold_Add (x y : Int) (w : World) (h0 : 0 ≤ x) (h1 : x ≤ 18446744073709551615) (g0 : 0 ≤ y) (g1 : y ≤ 18446744073709551615) :
    Calls Try.prog 27 #[.int .u64 x, .int .u64 y] w fun e w' => e = .returned (.int .u64 ((x + y) % 18446744069414584321)) ∧ w = w' := by
  have key := gold_Add_in x y (x % 18446744069414584321) (y % 18446744069414584321)
  by_cases h : x % 18446744069414584321 + y % 18446744069414584321 < 18446744073709551616
  · exact key _ _ _ w (by omega) (by omega) (by omega) (by omega) (Lib.hid fun w => gold_Of x w h0 h1) (Lib.hid fun w => gold_Of y w g0 g1)
      (fun w => add64_low _ _ 0 (by omega) (by omega) (by omega) (by omega) (by omega) w) (by omega) (by omega) (by
        show (_ : Prop)
        by_cases h2 : x % 18446744069414584321 + y % 18446744069414584321 < 18446744069414584321
        · exact .inl ⟨rfl, by omega, by omega⟩
        · exact .inr ⟨.inr ⟨rfl, by omega⟩, by omega⟩)
  · exact key _ _ _ w (by omega) (by omega) (by omega) (by omega) (Lib.hid fun w => gold_Of x w h0 h1) (Lib.hid fun w => gold_Of y w g0 g1)
      (fun w => add64_high _ _ 0 (by omega) (by omega) (by omega) (by omega) (by omega) (by omega) (by omega) w) (by omega) (by omega) (.inr ⟨.inl rfl, by omega⟩)

set_option maxHeartbeats 400000 in
theorem gold_Sub (x y : Int) (w : World) (h0 : 0 ≤ x) (h1 : x ≤ 18446744073709551615) (g0 : 0 ≤ y) (g1 : y ≤ 18446744073709551615) :
    Calls Try.prog 30 #[.int .u64 x, .int .u64 y] w fun e w' => e = .returned (.int .u64 ((x - y) % 18446744069414584321)) ∧ w = w' := by
  obtain ⟨Z, hZ⟩ : ∃ Z, Z = (-y) % 18446744069414584321 := ⟨_, rfl⟩
  have z0 : 0 ≤ Z := by omega
  have z1 : Z ≤ 18446744073709551615 := by omega
  have CN := fun w => gold_Neg y w g0 g1
  have CA := fun w => gold_Add x Z w h0 h1 z0 z1
  rw [← hZ] at CN
  rw [show (x + Z) % 18446744069414584321 = (x - y) % 18446744069414584321 by rw [hZ]; omega] at CA
  have HN := Lib.hid CN
  have HA := Lib.hid CA
  clear CN CA hZ
  go_enter Try.func30, Try.ntmps30
  go_wp2_with fail
  refine (HN.out _).mono ?_
  rintro e w' ⟨rfl, rfl⟩
  go_wp2_with fail
  refine (HA.out _).mono ?_
  rintro e w' ⟨rfl, rfl⟩
  go_wp2_with fail
  go_ret
  exact ⟨rfl, rfl⟩

theorem and32 (a : Int) (h0 : 0 ≤ a) (h1 : a ≤ 18446744073709551615) : bits .and .u64 a 4294967295 = a % 4294967296 := by
  obtain ⟨A, rfl⟩ := Int.eq_ofNat_of_zero_le h0
  rw [Mul64.maskN A (by omega)]
  omega

set_option maxHeartbeats 400000 in
/-- fold, of a difference that Sub64 has told. -/
theorem gold_fold_in (hi lo L N C M R : Int) (w : World) (h0 : 0 ≤ hi) (h1 : hi ≤ 18446744073709551615) (g0 : 0 ≤ lo) (g1 : lo ≤ 18446744073709551615)
    (HL : bits .and .u64 hi 4294967295 = L) (l0 : 0 ≤ L) (l1 : L < 4294967296) (n0 : 0 ≤ N) (n1 : N ≤ 18446744073709551615)
    (HS : ∀ w, (callFunc 133 #[.int .u64 lo, .int .u64 (hi / 4294967296), .int .u64 0]).run Try.prog w = .ok (.value (.tuple #[.int .u64 N, .int .u64 C])) w)
    (HC : Hid ((C = 0 ∧ N = M) ∨ (C = 1 ∧ 4294967295 ≤ N ∧ M = N - 4294967295)))
    (HA : Hid (∀ w, Calls Try.prog 27 #[.int .u64 M, .int .u64 (L * 4294967295)] w fun e w' => e = .returned (.int .u64 R) ∧ w = w')) :
    Calls Try.prog 112 #[.int .u64 hi, .int .u64 lo] w fun e w' => e = .returned (.int .u64 R) ∧ w = w' := by
  rcases HC.out with ⟨rfl, rfl⟩ | ⟨rfl, hn, rfl⟩
  all_goals
    clear HC
    go_enter Try.func112, Try.ntmps112
    go_wp2_with fail
    refine (HA.out _).mono ?_
    rintro e w' ⟨rfl, rfl⟩
    go_wp2_with fail
    go_ret
    exact ⟨rfl, rfl⟩

theorem gold_fold (hi lo : Int) (w : World) (h0 : 0 ≤ hi) (h1 : hi ≤ 18446744073709551615) (g0 : 0 ≤ lo) (g1 : lo ≤ 18446744073709551615) :
    Calls Try.prog 112 #[.int .u64 hi, .int .u64 lo] w fun e w' => e = .returned (.int .u64 ((hi * 18446744073709551616 + lo) % 18446744069414584321)) ∧ w = w' := by
  by_cases h : hi / 4294967296 ≤ lo
  · have HA := fun w => gold_Add (lo - hi / 4294967296 - 0) (hi % 4294967296 * 4294967295) w (by omega) (by omega) (by omega) (by omega)
    rw [show (lo - hi / 4294967296 - 0 + hi % 4294967296 * 4294967295) % 18446744069414584321 = (hi * 18446744073709551616 + lo) % 18446744069414584321 by omega] at HA
    exact gold_fold_in hi lo (hi % 4294967296) _ _ _ _ w h0 h1 g0 g1 (and32 hi h0 h1) (by omega) (by omega) (by omega) (by omega)
      (fun w => sub64_ok _ _ 0 (by omega) (by omega) (by omega) (by omega) (by omega) (by omega) (by omega) w) (.inl ⟨rfl, rfl⟩) (Lib.hid HA)
  · have HA := fun w => gold_Add (lo - hi / 4294967296 - 0 + 18446744073709551616 - 4294967295) (hi % 4294967296 * 4294967295) w (by omega) (by omega) (by omega) (by omega)
    rw [show (lo - hi / 4294967296 - 0 + 18446744073709551616 - 4294967295 + hi % 4294967296 * 4294967295) % 18446744069414584321 = (hi * 18446744073709551616 + lo) % 18446744069414584321 by omega] at HA
    exact gold_fold_in hi lo (hi % 4294967296) _ _ _ _ w h0 h1 g0 g1 (and32 hi h0 h1) (by omega) (by omega) (by omega) (by omega)
      (fun w => sub64_borrow _ _ 0 (by omega) (by omega) (by omega) (by omega) (by omega) (by omega) (by omega) w) (.inr ⟨rfl, by omega, rfl⟩) (Lib.hid HA)

theorem mul_lt_sq {x y b : Int} (hx0 : 0 ≤ x) (hx : x ≤ b) (hy0 : 0 ≤ y) (hy : y ≤ b) (hb : 0 ≤ b) : 0 ≤ x * y ∧ x * y ≤ b * b :=
  ⟨Int.mul_nonneg hx0 hy0, Int.mul_le_mul hx hy hy0 hb⟩

set_option maxHeartbeats 400000 in
theorem gold_Mul (x y : Int) (w : World) (h0 : 0 ≤ x) (h1 : x ≤ 18446744073709551615) (g0 : 0 ≤ y) (g1 : y ≤ 18446744073709551615) :
    Calls Try.prog 28 #[.int .u64 x, .int .u64 y] w fun e w' => e = .returned (.int .u64 ((x * y) % 18446744069414584321)) ∧ w = w' := by
  have hXY : (x * y) % 18446744069414584321 = ((x % 18446744069414584321) * (y % 18446744069414584321)) % 18446744069414584321 := Int.mul_emod _ _ _
  have CX := fun w => gold_Of x w h0 h1
  have CY := fun w => gold_Of y w g0 g1
  have x0 : 0 ≤ x % 18446744069414584321 := by omega
  have x1 : x % 18446744069414584321 ≤ 18446744073709551615 := by omega
  have y0 : 0 ≤ y % 18446744069414584321 := by omega
  have y1 : y % 18446744069414584321 ≤ 18446744073709551615 := by omega
  rw [hXY]
  clear hXY
  generalize x % 18446744069414584321 = X at *
  generalize y % 18446744069414584321 = Y at *
  have CM := fun w => bits_Mul64 X Y x0 x1 y0 y1 w
  obtain ⟨m0, m1⟩ := mul_lt_sq x0 x1 y0 y1 (by omega)
  generalize X * Y = M at *
  have CF := fun w => gold_fold (M / 18446744073709551616) (M % 18446744073709551616) w (by omega) (by omega) (by omega) (by omega)
  rw [show M / 18446744073709551616 * 18446744073709551616 + M % 18446744073709551616 = M by omega] at CF
  have p0 : 0 ≤ M / 18446744073709551616 := by omega
  have q0 : 0 ≤ M % 18446744073709551616 := by omega
  generalize M / 18446744073709551616 = H at *
  generalize M % 18446744073709551616 = Lo at *
  have HX := Lib.hid CX
  have HY := Lib.hid CY
  have HM := Lib.hid CM
  have HF := Lib.hid CF
  clear CX CY CM CF m0 m1
  go_enter Try.func28, Try.ntmps28
  go_wp2_with fail
  refine (HX.out _).mono ?_
  rintro e w' ⟨rfl, rfl⟩
  go_wp2_with fail
  refine (HY.out _).mono ?_
  rintro e w' ⟨rfl, rfl⟩
  go_wp2_with fail
  refine (HM.out _).mono ?_
  rintro e w' ⟨rfl, rfl⟩
  go_wp2_with fail
  refine (HF.out _).mono ?_
  rintro e w' ⟨rfl, rfl⟩
  go_wp2_with fail
  go_ret
  exact ⟨rfl, rfl⟩

theorem gold_In (x : Int) (w : World) : Calls Try.prog 34 #[.int .u64 x] w fun e w' => e = .returned (.bool (decide (x < 18446744069414584321))) ∧ w = w' := by
  go_enter Try.func34, Try.ntmps34
  go_wp2
  go_ret
  exact ⟨rfl, rfl⟩

#print axioms gold_Mul
end Go.Proofs.Ytnajihlhcdedgaa

namespace Go.Proofs.Ytnajihlhcdedgaa
open Go.RowKit
set_option linter.unusedVariables false

/-- A number of 64 bits. -/
def is64 (x : Int) : Prop := 0 ≤ x ∧ x ≤ 18446744073709551615
/-- A number of 128 bits. -/
def is128 (x : Int) : Prop := 0 ≤ x ∧ x ≤ 340282366920938463463374607431768211455
/-- A number of 128 bits as an element: its low half, its high one. -/
def E (n : Int) : Value := .agg #[.int .u64 (n % 18446744073709551616), .int .u64 (n / 18446744073709551616)]

theorem is64_lo (n : Int) : is64 (n % 18446744073709551616) := by unfold is64; omega
theorem is64_hi {n : Int} (h : is128 n) : is64 (n / 18446744073709551616) := by unfold is128 at h; unfold is64; omega
theorem E_mk {lo hi : Int} (h : is64 lo) : E (lo + hi * 18446744073709551616) = .agg #[.int .u64 lo, .int .u64 hi] := by
  unfold is64 at h; unfold E
  rw [show (lo + hi * 18446744073709551616) % 18446744073709551616 = lo by omega, show (lo + hi * 18446744073709551616) / 18446744073709551616 = hi by omega]
theorem E_congr {a b : Int} (h : a = b) : E a = E b := by rw [h]
theorem agg2_congr {a b c d : Int} (h : a = c) (k : b = d) : (Value.agg #[.int .u64 a, .int .u64 b]) = .agg #[.int .u64 c, .int .u64 d] := by rw [h, k]

/-- Two moduli. -/
def gP : Int := 18446744069414584321
def wP : Int := 340282366920938462946865773367900766209

/-- The world behind blocks that the call laid. -/
theorem kept2 (w : World) (a b : Obj) : Kept w ((w.alloc a).alloc b) := ((Kept.refl w).alloc _).alloc _

set_option maxHeartbeats 400000 in
theorem ref_P1 : Pure Try.prog 59 #[.int .i64 1] (E gP) := fun w => by
  go_enter Try.func59, Try.ntmps59
  go_wp2
  exact bodyPost_ret (v := .agg #[.int .u64 18446744069414584321, .int .u64 0]) (by simp [results, Try.results59, go_sem]) rfl ⟨rfl, (Kept.refl w).alloc _⟩
set_option maxHeartbeats 400000 in
theorem ref_P2 : Pure Try.prog 59 #[.int .i64 2] (E wP) := fun w => by
  go_enter Try.func59, Try.ntmps59
  go_wp2
  exact bodyPost_ret (v := .agg #[.int .u64 1, .int .u64 18446744073709551588]) (by simp [results, Try.results59, go_sem]) rfl ⟨rfl, (Kept.refl w).alloc _⟩

theorem ref_Less_raw (a0 a1 b0 b1 : Int) : Pure Try.prog 113 #[.agg #[.int .u64 a0, .int .u64 a1], .agg #[.int .u64 b0, .int .u64 b1]] (.bool (decide (a1 < b1 ∨ (a1 = b1 ∧ a0 < b0)))) := fun w => by
  by_cases h : a1 = b1
  · subst h
    go_enter Try.func113, Try.ntmps113
    go_wp2
    go_ret
    exact ⟨by simp, kept2 w _ _⟩
  · go_enter Try.func113, Try.ntmps113
    go_wp2
    go_ret
    exact ⟨by simp [h], kept2 w _ _⟩

theorem ref_Less {a b : Int} (ha : is128 a) (hb : is128 b) : Pure Try.prog 113 #[E a, E b] (.bool (decide (a < b))) := by
  have := ref_Less_raw (a % 18446744073709551616) (a / 18446744073709551616) (b % 18446744073709551616) (b / 18446744073709551616)
  have e : (a / 18446744073709551616 < b / 18446744073709551616 ∨ (a / 18446744073709551616 = b / 18446744073709551616 ∧ a % 18446744073709551616 < b % 18446744073709551616)) ↔ a < b := by omega
  rw [decide_eq_decide.2 e] at this
  exact this

set_option maxHeartbeats 400000 in
theorem ref_take_raw (a0 a1 b0 b1 R0 R1 : Int) (h0 : Hid (R0 = (a0 - b0) % 18446744073709551616)) (h1 : Hid (R1 = if a0 < b0 then (a1 - b1 - 1) % 18446744073709551616 else (a1 - b1) % 18446744073709551616)) :
    Pure Try.prog 114 #[.agg #[.int .u64 a0, .int .u64 a1], .agg #[.int .u64 b0, .int .u64 b1]] (.agg #[.int .u64 R0, .int .u64 R1]) := fun w => by
  by_cases h : a0 < b0
  · go_enter Try.func114, Try.ntmps114
    go_wp2
    refine bodyPost_ret (v := _) (by simp [results, Try.results114, go_sem]; rfl) rfl ⟨?_, ?_⟩
    · rw [h0.out, h1.out, if_pos h]
      simp only [IntKind.wrap_u64]
      rw [show ((a1 - b1) % 18446744073709551616 - 1) % 18446744073709551616 = (a1 - b1 - 1) % 18446744073709551616 by omega]
    · exact (kept2 w _ _).trans (kept2 _ _ _)
  · go_enter Try.func114, Try.ntmps114
    go_wp2
    refine bodyPost_ret (v := _) (by simp [results, Try.results114, go_sem]; rfl) rfl ⟨?_, ?_⟩
    · rw [h0.out, h1.out, if_neg (by omega)]
      simp only [IntKind.wrap_u64]
    · exact (kept2 w _ _).trans (kept2 _ _ _)

theorem ref_take {a b : Int} (ha : is128 a) (hb : is128 b) : Pure Try.prog 114 #[E a, E b] (E ((a - b) % 340282366920938463463374607431768211456)) := by
  unfold is128 at ha hb
  refine ref_take_raw _ _ _ _ _ _ ?_ ?_
  · show _ = _; omega
  · show _ = _
    by_cases h : a % 18446744073709551616 < b % 18446744073709551616
    · rw [if_pos h]; omega
    · rw [if_neg h]; omega

set_option maxHeartbeats 400000 in
theorem ref_plus_raw (a0 a1 b0 b1 R0 R1 : Int) (ha : is64 a0) (hb : is64 b0) (h0 : Hid (R0 = (a0 + b0) % 18446744073709551616)) (h1 : Hid (R1 = if R0 < a0 then (a1 + b1 + 1) % 18446744073709551616 else (a1 + b1) % 18446744073709551616)) :
    Pure Try.prog 115 #[.agg #[.int .u64 a0, .int .u64 a1], .agg #[.int .u64 b0, .int .u64 b1]] (.agg #[.int .u64 R0, .int .u64 R1]) := fun w => by
  obtain ⟨X, hX⟩ : ∃ X, X = IntKind.u64.wrap (a0 + b0) := ⟨_, rfl⟩
  have hw : IntKind.u64.wrap (a0 + b0) = R0 := by rw [h0.out, IntKind.wrap_u64]
  clear hX X ha hb
  by_cases h : R0 < a0
  · go_enter Try.func115, Try.ntmps115
    go_wp2
    refine bodyPost_ret (v := _) (by simp [results, Try.results115, go_sem]; rfl) rfl ⟨?_, ?_⟩
    · rw [h1.out, if_pos h]
      simp only [IntKind.wrap_u64]
      rw [show ((a1 + b1) % 18446744073709551616 + 1) % 18446744073709551616 = (a1 + b1 + 1) % 18446744073709551616 by omega]
    · exact (kept2 w _ _).trans (kept2 _ _ _)
  · go_enter Try.func115, Try.ntmps115
    go_wp2
    refine bodyPost_ret (v := _) (by simp [results, Try.results115, go_sem]; rfl) rfl ⟨?_, ?_⟩
    · rw [h1.out, if_neg (by omega)]
      simp only [IntKind.wrap_u64]
    · exact (kept2 w _ _).trans (kept2 _ _ _)

theorem ref_plus {a b : Int} (ha : is128 a) (hb : is128 b) : Pure Try.prog 115 #[E a, E b] (E ((a + b) % 340282366920938463463374607431768211456)) := by
  unfold is128 at ha hb
  refine ref_plus_raw _ _ _ _ _ _ (is64_lo a) (is64_lo b) ?_ ?_
  · show _ = _; omega
  · show _ = _
    by_cases h : (a + b) % 340282366920938463463374607431768211456 % 18446744073709551616 < a % 18446744073709551616
    · rw [if_pos h]; omega
    · rw [if_neg h]; omega

end Go.Proofs.Ytnajihlhcdedgaa

namespace Go.Proofs.Ytnajihlhcdedgaa
open Go.RowKit
set_option linter.unusedVariables false

/-- Which field: its modulus; a number in it. -/
def isF (f : Int) : Prop := f = 1 ∨ f = 2
def rP (f : Int) : Int := if f = 1 then gP else wP
def rOf (f n : Int) : Int := if f = 1 then n % 18446744073709551616 % gP else n % wP
theorem rP_pos (f : Int) : 0 < rP f := by unfold rP gP wP; split <;> omega
theorem rP_lt (f : Int) : rP f ≤ 340282366920938462946865773367900766209 := by unfold rP gP wP; split <;> omega
theorem rOf_lo (f n : Int) : 0 ≤ rOf f n := by unfold rOf gP wP; split <;> omega
theorem rOf_lt (f n : Int) : rOf f n < rP f := by unfold rOf rP gP wP; split <;> omega
theorem is128_rOf (f n : Int) : is128 (rOf f n) := by have := rOf_lo f n; have := rOf_lt f n; have := rP_lt f; unfold is128; omega
theorem is128_rP (f : Int) : is128 (rP f) := by have := rP_pos f; have := rP_lt f; unfold is128; omega
theorem is128_emod (f n : Int) : is128 (n % rP f) := by
  have h := rP_pos f; have := rP_lt f; have := Int.emod_nonneg n (by omega : rP f ≠ 0); have := Int.emod_lt_of_pos n h; unfold is128; omega

theorem ref_P {f : Int} (hf : isF f) : Pure Try.prog 59 #[.int .i64 f] (E (rP f)) := by
  rcases hf with rfl | rfl
  · exact ref_P1
  · exact ref_P2

set_option maxRecDepth 100000 in
set_option maxHeartbeats 400000 in
theorem ref_Of_stay2 (a0 a1 : Int) (p : Value) (hP : Pure Try.prog 59 #[.int .i64 2] p)
    (hL : Pure Try.prog 113 #[.agg #[.int .u64 a0, .int .u64 a1], p] (.bool true)) :
    Pure Try.prog 32 #[.int .i64 2, .agg #[.int .u64 a0, .int .u64 a1]] (.agg #[.int .u64 a0, .int .u64 a1]) := fun w => by
  have HP := Lib.hid hP
  have HL := Lib.hid hL
  clear hP hL
  go_enter Try.func32, Try.ntmps32
  go_wp2_with fail
  refine wp_region_calm 5 (by kernel_rfl) (by kernel_rfl) ?_
  simp only [List.take_succ_cons, List.take_zero, List.drop_succ_cons, List.drop_zero]
  repeat (first
    | (refine calm_skip rfl ?_; simp only [Act.put, List.setIfInBounds_toArray, List.set_cons_zero, List.set_cons_succ])
    | (refine calm_ex rfl ?_; apply Exists.intro; refine And.intro (fun w' hk => ?_) ?_; (focus (have hc := hk.cells; clear hk; go_simp; exact rfl)); simp only [Act.put, List.setIfInBounds_toArray, List.set_cons_zero, List.set_cons_succ])
    | (refine calm_step _ rfl (HP.out.call ?_) ?_; (focus (intro w'; go_simp; done)); simp only [Act.put, List.setIfInBounds_toArray, List.set_cons_zero, List.set_cons_succ])
    | (refine calm_step _ rfl (HL.out.call ?_) ?_; (focus (intro w'; go_simp; done)); simp only [Act.put, List.setIfInBounds_toArray, List.set_cons_zero, List.set_cons_succ]))
  refine calm_nil ?_
  intro w1 hkw1
  have hcw1 := hkw1.cells
  have hfw1 := hkw1.marks
  have hzw10 : w.heap.size < w1.heap.size := by have := hkw1.size; (try simp at this); omega
  have hzw11 : w.heap.size + 1 < w1.heap.size := by have := hkw1.size; (try simp at this); omega
  go_wp2
  refine bodyPost_ret (v := .agg #[.int .u64 a0, .int .u64 a1]) (by simp [results, Try.results32, go_sem, hcw1]) rfl ⟨rfl, ?_⟩
  repeat (first | exact Kept.refl _ | (refine Kept.setCell ?_ (by simp) _) | (refine Kept.trans ?_ hkw1) | apply Kept.alloc)

set_option maxRecDepth 100000 in
set_option maxHeartbeats 400000 in
theorem ref_Of_take2 (a0 a1 r0 r1 : Int) (p : Value) (hP : Pure Try.prog 59 #[.int .i64 2] p)
    (hL : Pure Try.prog 113 #[.agg #[.int .u64 a0, .int .u64 a1], p] (.bool false)) (hT : Pure Try.prog 114 #[.agg #[.int .u64 a0, .int .u64 a1], p] (.agg #[.int .u64 r0, .int .u64 r1])) :
    Pure Try.prog 32 #[.int .i64 2, .agg #[.int .u64 a0, .int .u64 a1]] (.agg #[.int .u64 r0, .int .u64 r1]) := fun w => by
  have HP := Lib.hid hP
  have HL := Lib.hid hL
  have HT := Lib.hid hT
  clear hP hL hT
  go_enter Try.func32, Try.ntmps32
  go_wp2_with fail
  refine wp_region_calm 5 (by kernel_rfl) (by kernel_rfl) ?_
  simp only [List.take_succ_cons, List.take_zero, List.drop_succ_cons, List.drop_zero]
  repeat (first
    | (refine calm_skip rfl ?_; simp only [Act.put, List.setIfInBounds_toArray, List.set_cons_zero, List.set_cons_succ])
    | (refine calm_ex rfl ?_; apply Exists.intro; refine And.intro (fun w' hk => ?_) ?_; (focus (have hc := hk.cells; clear hk; go_simp; exact rfl)); simp only [Act.put, List.setIfInBounds_toArray, List.set_cons_zero, List.set_cons_succ])
    | (refine calm_step _ rfl (HP.out.call ?_) ?_; (focus (intro w'; go_simp; done)); simp only [Act.put, List.setIfInBounds_toArray, List.set_cons_zero, List.set_cons_succ])
    | (refine calm_step _ rfl (HL.out.call ?_) ?_; (focus (intro w'; go_simp; done)); simp only [Act.put, List.setIfInBounds_toArray, List.set_cons_zero, List.set_cons_succ]))
  refine calm_nil ?_
  intro w1 hkw1
  have hcw1 := hkw1.cells
  have hfw1 := hkw1.marks
  have hzw10 : w.heap.size < w1.heap.size := by have := hkw1.size; (try simp at this); omega
  have hzw11 : w.heap.size + 1 < w1.heap.size := by have := hkw1.size; (try simp at this); omega
  go_wp2_with fail
  refine wp_region_calm 4 (by kernel_rfl) (by kernel_rfl) ?_
  simp only [List.take_succ_cons, List.take_zero, List.drop_succ_cons, List.drop_zero]
  repeat (first
    | (refine calm_skip rfl ?_; simp only [Act.put, List.setIfInBounds_toArray, List.set_cons_zero, List.set_cons_succ])
    | (refine calm_ex rfl ?_; apply Exists.intro; refine And.intro (fun w' hk => ?_) ?_; (focus (have hc := hk.cells; clear hk; go_simp; exact rfl)); simp only [Act.put, List.setIfInBounds_toArray, List.set_cons_zero, List.set_cons_succ])
    | (refine calm_step _ rfl (HP.out.call ?_) ?_; (focus (intro w'; go_simp; done)); simp only [Act.put, List.setIfInBounds_toArray, List.set_cons_zero, List.set_cons_succ])
    | (refine calm_step _ rfl (HT.out.call ?_) ?_; (focus (intro w'; go_simp; done)); simp only [Act.put, List.setIfInBounds_toArray, List.set_cons_zero, List.set_cons_succ]))
  refine calm_nil ?_
  intro w2 hkw2
  have hcw2 := hkw2.cells
  have hfw2 := hkw2.marks
  have hzw20 : w.heap.size < w2.heap.size := by have := hkw2.size; (try simp at this); omega
  have hzw21 : w.heap.size + 1 < w2.heap.size := by have := hkw2.size; (try simp at this); omega
  go_wp2
  refine bodyPost_ret (v := .agg #[.int .u64 r0, .int .u64 r1]) (by simp [results, Try.results32, go_sem, hcw1, hcw2, hzw11]) rfl ⟨rfl, ?_⟩
  repeat (first | exact Kept.refl _ | (refine Kept.setCell ?_ (by simp) _) | (refine Kept.trans ?_ hkw2) | (refine Kept.trans ?_ hkw1) | apply Kept.alloc)

set_option maxRecDepth 100000 in
set_option maxHeartbeats 400000 in
theorem ref_Of_stay1 (a0 a1 : Int) (p : Value) (hP : Pure Try.prog 59 #[.int .i64 1] p)
    (hL : Pure Try.prog 113 #[.agg #[.int .u64 a0, .int .u64 0], p] (.bool true)) :
    Pure Try.prog 32 #[.int .i64 1, .agg #[.int .u64 a0, .int .u64 a1]] (.agg #[.int .u64 a0, .int .u64 0]) := fun w => by
  have HP := Lib.hid hP
  have HL := Lib.hid hL
  clear hP hL
  go_enter Try.func32, Try.ntmps32
  go_wp2_with fail
  refine wp_region_calm 5 (by kernel_rfl) (by kernel_rfl) ?_
  simp only [List.take_succ_cons, List.take_zero, List.drop_succ_cons, List.drop_zero]
  repeat (first
    | (refine calm_skip rfl ?_; simp only [Act.put, List.setIfInBounds_toArray, List.set_cons_zero, List.set_cons_succ])
    | (refine calm_ex rfl ?_; apply Exists.intro; refine And.intro (fun w' hk => ?_) ?_; (focus (have hc := hk.cells; clear hk; go_simp; exact rfl)); simp only [Act.put, List.setIfInBounds_toArray, List.set_cons_zero, List.set_cons_succ])
    | (refine calm_step _ rfl (HP.out.call ?_) ?_; (focus (intro w'; go_simp; done)); simp only [Act.put, List.setIfInBounds_toArray, List.set_cons_zero, List.set_cons_succ])
    | (refine calm_step _ rfl (HL.out.call ?_) ?_; (focus (intro w'; go_simp; done)); simp only [Act.put, List.setIfInBounds_toArray, List.set_cons_zero, List.set_cons_succ]))
  refine calm_nil ?_
  intro w1 hkw1
  have hcw1 := hkw1.cells
  have hfw1 := hkw1.marks
  have hzw10 : w.heap.size < w1.heap.size := by have := hkw1.size; (try simp at this); omega
  have hzw11 : w.heap.size + 1 < w1.heap.size := by have := hkw1.size; (try simp at this); omega
  go_wp2
  refine bodyPost_ret (v := .agg #[.int .u64 a0, .int .u64 0]) (by simp [results, Try.results32, go_sem, hcw1]) rfl ⟨rfl, ?_⟩
  repeat (first | exact Kept.refl _ | (refine Kept.setCell ?_ (by simp) _) | (refine Kept.trans ?_ hkw1) | apply Kept.alloc)

set_option maxRecDepth 100000 in
set_option maxHeartbeats 400000 in
theorem ref_Of_take1 (a0 a1 r0 r1 : Int) (p : Value) (hP : Pure Try.prog 59 #[.int .i64 1] p)
    (hL : Pure Try.prog 113 #[.agg #[.int .u64 a0, .int .u64 0], p] (.bool false)) (hT : Pure Try.prog 114 #[.agg #[.int .u64 a0, .int .u64 0], p] (.agg #[.int .u64 r0, .int .u64 r1])) :
    Pure Try.prog 32 #[.int .i64 1, .agg #[.int .u64 a0, .int .u64 a1]] (.agg #[.int .u64 r0, .int .u64 r1]) := fun w => by
  have HP := Lib.hid hP
  have HL := Lib.hid hL
  have HT := Lib.hid hT
  clear hP hL hT
  go_enter Try.func32, Try.ntmps32
  go_wp2_with fail
  refine wp_region_calm 5 (by kernel_rfl) (by kernel_rfl) ?_
  simp only [List.take_succ_cons, List.take_zero, List.drop_succ_cons, List.drop_zero]
  repeat (first
    | (refine calm_skip rfl ?_; simp only [Act.put, List.setIfInBounds_toArray, List.set_cons_zero, List.set_cons_succ])
    | (refine calm_ex rfl ?_; apply Exists.intro; refine And.intro (fun w' hk => ?_) ?_; (focus (have hc := hk.cells; clear hk; go_simp; exact rfl)); simp only [Act.put, List.setIfInBounds_toArray, List.set_cons_zero, List.set_cons_succ])
    | (refine calm_step _ rfl (HP.out.call ?_) ?_; (focus (intro w'; go_simp; done)); simp only [Act.put, List.setIfInBounds_toArray, List.set_cons_zero, List.set_cons_succ])
    | (refine calm_step _ rfl (HL.out.call ?_) ?_; (focus (intro w'; go_simp; done)); simp only [Act.put, List.setIfInBounds_toArray, List.set_cons_zero, List.set_cons_succ]))
  refine calm_nil ?_
  intro w1 hkw1
  have hcw1 := hkw1.cells
  have hfw1 := hkw1.marks
  have hzw10 : w.heap.size < w1.heap.size := by have := hkw1.size; (try simp at this); omega
  have hzw11 : w.heap.size + 1 < w1.heap.size := by have := hkw1.size; (try simp at this); omega
  go_wp2_with fail
  refine wp_region_calm 4 (by kernel_rfl) (by kernel_rfl) ?_
  simp only [List.take_succ_cons, List.take_zero, List.drop_succ_cons, List.drop_zero]
  repeat (first
    | (refine calm_skip rfl ?_; simp only [Act.put, List.setIfInBounds_toArray, List.set_cons_zero, List.set_cons_succ])
    | (refine calm_ex rfl ?_; apply Exists.intro; refine And.intro (fun w' hk => ?_) ?_; (focus (have hc := hk.cells; clear hk; go_simp; exact rfl)); simp only [Act.put, List.setIfInBounds_toArray, List.set_cons_zero, List.set_cons_succ])
    | (refine calm_step _ rfl (HP.out.call ?_) ?_; (focus (intro w'; go_simp; done)); simp only [Act.put, List.setIfInBounds_toArray, List.set_cons_zero, List.set_cons_succ])
    | (refine calm_step _ rfl (HT.out.call ?_) ?_; (focus (intro w'; go_simp; done)); simp only [Act.put, List.setIfInBounds_toArray, List.set_cons_zero, List.set_cons_succ]))
  refine calm_nil ?_
  intro w2 hkw2
  have hcw2 := hkw2.cells
  have hfw2 := hkw2.marks
  have hzw20 : w.heap.size < w2.heap.size := by have := hkw2.size; (try simp at this); omega
  have hzw21 : w.heap.size + 1 < w2.heap.size := by have := hkw2.size; (try simp at this); omega
  go_wp2
  refine bodyPost_ret (v := .agg #[.int .u64 r0, .int .u64 r1]) (by simp [results, Try.results32, go_sem, hcw1, hcw2, hzw11]) rfl ⟨rfl, ?_⟩
  repeat (first | exact Kept.refl _ | (refine Kept.setCell ?_ (by simp) _) | (refine Kept.trans ?_ hkw2) | (refine Kept.trans ?_ hkw1) | apply Kept.alloc)

theorem ref_Of {f n : Int} (hf : isF f) (hn : is128 n) : Pure Try.prog 32 #[.int .i64 f, E n] (E (rOf f n)) := by
  rcases hf with rfl | rfl
  · have h0 : is64 (n % 18446744073709551616) := is64_lo n
    have e0 : E (n % 18446744073709551616) = .agg #[.int .u64 (n % 18446744073709551616), .int .u64 0] := by
      have := E_mk (lo := n % 18446744073709551616) (hi := 0) h0
      rw [← this]; exact E_congr (by omega)
    have hm : is128 (n % 18446744073709551616) := by unfold is64 at h0; unfold is128; omega
    have hg : is128 gP := by unfold is128 gP; omega
    by_cases h : n % 18446744073709551616 < gP
    · have hL := ref_Less hm hg
      rw [decide_eq_true h, e0] at hL
      have := ref_Of_stay1 (n % 18446744073709551616) (n / 18446744073709551616) _ ref_P1 hL
      rw [← e0] at this
      rw [show rOf 1 n = n % 18446744073709551616 by unfold rOf; rw [if_pos rfl]; unfold gP at *; omega]
      exact this
    · have hL := ref_Less hm hg
      rw [decide_eq_false h, e0] at hL
      have hT := ref_take hm hg
      rw [e0] at hT
      have := ref_Of_take1 (n % 18446744073709551616) (n / 18446744073709551616) _ _ _ ref_P1 hL hT
      rw [show rOf 1 n = (n % 18446744073709551616 - gP) % 340282366920938463463374607431768211456 by unfold rOf; rw [if_pos rfl]; unfold gP at *; omega]
      exact this
  · have hg : is128 wP := by unfold is128 wP; omega
    by_cases h : n < wP
    · have hL := ref_Less hn hg
      rw [decide_eq_true h] at hL
      rw [show rOf 2 n = n by unfold rOf; rw [if_neg (by omega)]; unfold wP is128 at *; omega]
      exact ref_Of_stay2 _ _ _ ref_P2 hL
    · have hL := ref_Less hn hg
      rw [decide_eq_false h] at hL
      rw [show rOf 2 n = (n - wP) % 340282366920938463463374607431768211456 by unfold rOf; rw [if_neg (by omega)]; unfold wP is128 at *; omega]
      exact ref_Of_take2 _ _ _ _ _ ref_P2 hL (ref_take hn hg)

end Go.Proofs.Ytnajihlhcdedgaa

namespace Go.Proofs.Ytnajihlhcdedgaa
open Go.RowKit
set_option linter.unusedVariables false
set_option linter.unusedSimpArgs false
attribute [local simp] blkAt_setCell blkAt_alloc blkAt_drew Obj.put_cells

theorem isMaker28 : isMaker Try.prog { dst := some 7, op := Op.alloc 28, type := 28, pos := "ref.go:57", after := #[], guard := none } (fun b => .pointer (some ⟨b, 0, none⟩), .cells #[.int .u64 0, .int .u64 0] 28) :=
  ⟨rfl, fun a w => by go_simp⟩

set_option maxRecDepth 100000 in
set_option maxHeartbeats 1000000 in
theorem ref_Add_plus (f a0 a1 b0 b1 x0 x1 y0 y1 r0 r1 s0 s1 : Int) (p : Value) 
    (hA : Pure Try.prog 32 #[.int .i64 f, .agg #[.int .u64 a0, .int .u64 a1]] (.agg #[.int .u64 x0, .int .u64 x1]))
    (hB : Pure Try.prog 32 #[.int .i64 f, .agg #[.int .u64 b0, .int .u64 b1]] (.agg #[.int .u64 y0, .int .u64 y1]))
    (hP : Pure Try.prog 59 #[.int .i64 f] p)
    (hT : Pure Try.prog 114 #[p, .agg #[.int .u64 y0, .int .u64 y1]] (.agg #[.int .u64 r0, .int .u64 r1]))
    (hL : Pure Try.prog 113 #[.agg #[.int .u64 x0, .int .u64 x1], .agg #[.int .u64 r0, .int .u64 r1]] (.bool true))
    (hS : Pure Try.prog 115 #[.agg #[.int .u64 x0, .int .u64 x1], .agg #[.int .u64 y0, .int .u64 y1]] (.agg #[.int .u64 s0, .int .u64 s1])) :
    Pure Try.prog 35 #[.int .i64 f, .agg #[.int .u64 a0, .int .u64 a1], .agg #[.int .u64 b0, .int .u64 b1]] (.agg #[.int .u64 s0, .int .u64 s1]) := fun w => by
  have HA := Lib.hid hA
  have HB := Lib.hid hB
  have HP := Lib.hid hP
  have HT := Lib.hid hT
  have HL := Lib.hid hL
  have HS := Lib.hid hS
  clear hA hB hP hT hL hS
  have ne0_2 : w.heap.size ≠ w.heap.size + 1 + 1 := by omega
  have ne2_0 : w.heap.size + 1 + 1 ≠ w.heap.size := by omega
  go_enter Try.func35, Try.ntmps35
  go_wp2_with fail
  refine abs_world (fun W => Kept w W ∧ Blk W (w.heap.size) 28 #[.int .u64 a0, .int .u64 a1] ∧ Blk W (w.heap.size + 1) 28 #[.int .u64 b0, .int .u64 b1] ∧ Blk W (w.heap.size + 1 + 1) 28 #[.int .u64 0, .int .u64 0]) ?_ ?_
  · refine ⟨?_, ?_, ?_, ?_⟩
    · repeat (first | exact Kept.refl _ | (refine Kept.setCell ?_ (kept_side (by first | assumption | omega)) _) | apply Kept.alloc)
    · simp [Blk, *] <;> (intros; omega)
    · simp [Blk, *] <;> (intros; omega)
    · simp [Blk, *] <;> (intros; omega)
  rintro W1 ⟨kW1, BW1_0, BW1_1, BW1_2⟩
  have cW1_0_0 : W1.cell? ⟨w.heap.size, 0, none⟩ = some (.int .u64 a0) := BW1_0.cell 0 rfl
  have cW1_0_1 : W1.cell? ⟨w.heap.size, 1, none⟩ = some (.int .u64 a1) := BW1_0.cell 1 rfl
  have fW1_0 := BW1_0.free
  have cW1_1_0 : W1.cell? ⟨w.heap.size + 1, 0, none⟩ = some (.int .u64 b0) := BW1_1.cell 0 rfl
  have cW1_1_1 : W1.cell? ⟨w.heap.size + 1, 1, none⟩ = some (.int .u64 b1) := BW1_1.cell 1 rfl
  have fW1_1 := BW1_1.free
  have cW1_2_0 : W1.cell? ⟨w.heap.size + 1 + 1, 0, none⟩ = some (.int .u64 0) := BW1_2.cell 0 rfl
  have cW1_2_1 : W1.cell? ⟨w.heap.size + 1 + 1, 1, none⟩ = some (.int .u64 0) := BW1_2.cell 1 rfl
  have fW1_2 := BW1_2.free
  refine wp_region_calm 6 (by kernel_rfl) (by kernel_rfl) ?_
  simp only [List.take_succ_cons, List.take_zero, List.drop_succ_cons, List.drop_zero]
  repeat (first
    | (refine calm_skip rfl ?_; simp only [Act.put, List.setIfInBounds_toArray, List.set_cons_zero, List.set_cons_succ])
    | (refine calm_ex rfl ?_; apply Exists.intro; refine And.intro (fun w' hk => ?_) ?_; (focus (have q0 := hk.cell cW1_0_0; have q1 := hk.cell cW1_0_1; have q2 := hk.cell cW1_1_0; have q3 := hk.cell cW1_1_1; have q4 := hk.cell cW1_2_0; have q5 := hk.cell cW1_2_1; clear hk; go_simp; exact rfl)); simp only [Act.put, List.setIfInBounds_toArray, List.set_cons_zero, List.set_cons_succ])
    | (refine calm_step _ rfl (HA.out.call ?_) ?_; (focus (intro w'; go_simp; done)); simp only [Act.put, List.setIfInBounds_toArray, List.set_cons_zero, List.set_cons_succ])
    | (refine calm_step _ rfl (HB.out.call ?_) ?_; (focus (intro w'; go_simp; done)); simp only [Act.put, List.setIfInBounds_toArray, List.set_cons_zero, List.set_cons_succ]))
  refine calm_nil ?_
  intro W2 hkW2
  have kW2 := kW1.trans hkW2
  have BW2_0 := BW1_0.kept hkW2
  have BW2_1 := BW1_1.kept hkW2
  have BW2_2 := BW1_2.kept hkW2
  clear cW1_0_0 cW1_0_1 cW1_1_0 cW1_1_1 cW1_2_0 cW1_2_1 fW1_0 fW1_1 fW1_2 BW1_0 BW1_1 BW1_2 kW1 hkW2
  have cW2_0_0 : W2.cell? ⟨w.heap.size, 0, none⟩ = some (.int .u64 a0) := BW2_0.cell 0 rfl
  have cW2_0_1 : W2.cell? ⟨w.heap.size, 1, none⟩ = some (.int .u64 a1) := BW2_0.cell 1 rfl
  have fW2_0 := BW2_0.free
  have cW2_1_0 : W2.cell? ⟨w.heap.size + 1, 0, none⟩ = some (.int .u64 b0) := BW2_1.cell 0 rfl
  have cW2_1_1 : W2.cell? ⟨w.heap.size + 1, 1, none⟩ = some (.int .u64 b1) := BW2_1.cell 1 rfl
  have fW2_1 := BW2_1.free
  have cW2_2_0 : W2.cell? ⟨w.heap.size + 1 + 1, 0, none⟩ = some (.int .u64 0) := BW2_2.cell 0 rfl
  have cW2_2_1 : W2.cell? ⟨w.heap.size + 1 + 1, 1, none⟩ = some (.int .u64 0) := BW2_2.cell 1 rfl
  have fW2_2 := BW2_2.free
  go_wp2_with fail
  refine abs_world (fun W => Kept w W ∧ Blk W (w.heap.size) 28 #[.int .u64 x0, .int .u64 x1] ∧ Blk W (w.heap.size + 1) 28 #[.int .u64 y0, .int .u64 y1] ∧ Blk W (w.heap.size + 1 + 1) 28 #[.int .u64 0, .int .u64 0]) ?_ ?_
  · refine ⟨?_, ?_, ?_, ?_⟩
    · repeat (first | exact kW2 | (refine Kept.setCell ?_ (kept_side (by first | assumption | omega)) _) | apply Kept.alloc)
    · simp [Blk, *] <;> (intros; omega)
    · simp [Blk, *] <;> (intros; omega)
    · simp [Blk, *] <;> (intros; omega)
  rintro W3 ⟨kW3, BW3_0, BW3_1, BW3_2⟩
  have cW3_0_0 : W3.cell? ⟨w.heap.size, 0, none⟩ = some (.int .u64 x0) := BW3_0.cell 0 rfl
  have cW3_0_1 : W3.cell? ⟨w.heap.size, 1, none⟩ = some (.int .u64 x1) := BW3_0.cell 1 rfl
  have fW3_0 := BW3_0.free
  have cW3_1_0 : W3.cell? ⟨w.heap.size + 1, 0, none⟩ = some (.int .u64 y0) := BW3_1.cell 0 rfl
  have cW3_1_1 : W3.cell? ⟨w.heap.size + 1, 1, none⟩ = some (.int .u64 y1) := BW3_1.cell 1 rfl
  have fW3_1 := BW3_1.free
  have cW3_2_0 : W3.cell? ⟨w.heap.size + 1 + 1, 0, none⟩ = some (.int .u64 0) := BW3_2.cell 0 rfl
  have cW3_2_1 : W3.cell? ⟨w.heap.size + 1 + 1, 1, none⟩ = some (.int .u64 0) := BW3_2.cell 1 rfl
  have fW3_2 := BW3_2.free
  refine wp_region_calm1 4 _ _ (by kernel_rfl) (by kernel_rfl) rfl isMaker28 (by kernel_rfl) ?_
  simp only [List.take_succ_cons, List.take_zero, List.drop_succ_cons, List.drop_zero]
  repeat (first
    | (refine calm_skip rfl ?_; simp only [Act.put, List.setIfInBounds_toArray, List.set_cons_zero, List.set_cons_succ])
    | (refine calm_ex rfl ?_; apply Exists.intro; refine And.intro (fun w' hk => ?_) ?_; (focus (have q0 := hk.cell cW3_0_0; have q1 := hk.cell cW3_0_1; have q2 := hk.cell cW3_1_0; have q3 := hk.cell cW3_1_1; have q4 := hk.cell cW3_2_0; have q5 := hk.cell cW3_2_1; clear hk; go_simp; exact rfl)); simp only [Act.put, List.setIfInBounds_toArray, List.set_cons_zero, List.set_cons_succ])
    | (refine calm_step _ rfl (HP.out.call ?_) ?_; (focus (intro w'; go_simp; done)); simp only [Act.put, List.setIfInBounds_toArray, List.set_cons_zero, List.set_cons_succ])
    | (refine calm_step _ rfl (HT.out.call ?_) ?_; (focus (intro w'; go_simp; done)); simp only [Act.put, List.setIfInBounds_toArray, List.set_cons_zero, List.set_cons_succ]))
  refine calm_nil ?_
  intro W4 b7 hkW4 hlob7 hatb7
  simp only [Act.put, List.setIfInBounds_toArray, List.set_cons_zero, List.set_cons_succ]
  have neb7_0 : w.heap.size ≠ b7 := by have := BW3_0.lt; omega
  have enb7_0 : b7 ≠ w.heap.size := neb7_0.symm
  have neb7_1 : w.heap.size + 1 ≠ b7 := by have := BW3_1.lt; omega
  have enb7_1 : b7 ≠ w.heap.size + 1 := neb7_1.symm
  have neb7_2 : w.heap.size + 1 + 1 ≠ b7 := by have := BW3_2.lt; omega
  have enb7_2 : b7 ≠ w.heap.size + 1 + 1 := neb7_2.symm
  have lob7 : w.heap.size ≤ b7 := Nat.le_trans kW3.size hlob7
  have BW4_3 : Blk W4 (b7) 28 #[.int .u64 0, .int .u64 0] := hatb7
  clear hatb7 hlob7
  have kW4 := kW3.trans hkW4
  have BW4_0 := BW3_0.kept hkW4
  have BW4_1 := BW3_1.kept hkW4
  have BW4_2 := BW3_2.kept hkW4
  clear cW3_0_0 cW3_0_1 cW3_1_0 cW3_1_1 cW3_2_0 cW3_2_1 fW3_0 fW3_1 fW3_2 BW3_0 BW3_1 BW3_2 kW3 hkW4
  have cW4_0_0 : W4.cell? ⟨w.heap.size, 0, none⟩ = some (.int .u64 x0) := BW4_0.cell 0 rfl
  have cW4_0_1 : W4.cell? ⟨w.heap.size, 1, none⟩ = some (.int .u64 x1) := BW4_0.cell 1 rfl
  have fW4_0 := BW4_0.free
  have cW4_1_0 : W4.cell? ⟨w.heap.size + 1, 0, none⟩ = some (.int .u64 y0) := BW4_1.cell 0 rfl
  have cW4_1_1 : W4.cell? ⟨w.heap.size + 1, 1, none⟩ = some (.int .u64 y1) := BW4_1.cell 1 rfl
  have fW4_1 := BW4_1.free
  have cW4_2_0 : W4.cell? ⟨w.heap.size + 1 + 1, 0, none⟩ = some (.int .u64 0) := BW4_2.cell 0 rfl
  have cW4_2_1 : W4.cell? ⟨w.heap.size + 1 + 1, 1, none⟩ = some (.int .u64 0) := BW4_2.cell 1 rfl
  have fW4_2 := BW4_2.free
  have cW4_3_0 : W4.cell? ⟨b7, 0, none⟩ = some (.int .u64 0) := BW4_3.cell 0 rfl
  have cW4_3_1 : W4.cell? ⟨b7, 1, none⟩ = some (.int .u64 0) := BW4_3.cell 1 rfl
  have fW4_3 := BW4_3.free
  go_wp2_with fail
  refine abs_calls (fun W => Kept w W ∧ Blk W (w.heap.size) 28 #[.int .u64 x0, .int .u64 x1] ∧ Blk W (w.heap.size + 1) 28 #[.int .u64 y0, .int .u64 y1] ∧ Blk W (w.heap.size + 1 + 1) 28 #[.int .u64 0, .int .u64 0] ∧ Blk W (b7) 28 #[.int .u64 r0, .int .u64 r1]) ?_ ?_
  · refine ⟨?_, ?_, ?_, ?_, ?_⟩
    · repeat (first | exact kW4 | (refine Kept.setCell ?_ (kept_side (by first | assumption | omega)) _) | apply Kept.alloc)
    · simp [Blk, *] <;> (intros; omega)
    · simp [Blk, *] <;> (intros; omega)
    · simp [Blk, *] <;> (intros; omega)
    · simp [Blk, *] <;> (intros; omega)
  rintro W5 ⟨kW5, BW5_0, BW5_1, BW5_2, BW5_3⟩
  have cW5_0_0 : W5.cell? ⟨w.heap.size, 0, none⟩ = some (.int .u64 x0) := BW5_0.cell 0 rfl
  have cW5_0_1 : W5.cell? ⟨w.heap.size, 1, none⟩ = some (.int .u64 x1) := BW5_0.cell 1 rfl
  have fW5_0 := BW5_0.free
  have cW5_1_0 : W5.cell? ⟨w.heap.size + 1, 0, none⟩ = some (.int .u64 y0) := BW5_1.cell 0 rfl
  have cW5_1_1 : W5.cell? ⟨w.heap.size + 1, 1, none⟩ = some (.int .u64 y1) := BW5_1.cell 1 rfl
  have fW5_1 := BW5_1.free
  have cW5_2_0 : W5.cell? ⟨w.heap.size + 1 + 1, 0, none⟩ = some (.int .u64 0) := BW5_2.cell 0 rfl
  have cW5_2_1 : W5.cell? ⟨w.heap.size + 1 + 1, 1, none⟩ = some (.int .u64 0) := BW5_2.cell 1 rfl
  have fW5_2 := BW5_2.free
  have cW5_3_0 : W5.cell? ⟨b7, 0, none⟩ = some (.int .u64 r0) := BW5_3.cell 0 rfl
  have cW5_3_1 : W5.cell? ⟨b7, 1, none⟩ = some (.int .u64 r1) := BW5_3.cell 1 rfl
  have fW5_3 := BW5_3.free
  refine (HL.out _).mono ?_
  rintro e W6 ⟨rfl, hkW6⟩
  have kW6 := kW5.trans hkW6
  have BW6_0 := BW5_0.kept hkW6
  have BW6_1 := BW5_1.kept hkW6
  have BW6_2 := BW5_2.kept hkW6
  have BW6_3 := BW5_3.kept hkW6
  clear cW5_0_0 cW5_0_1 cW5_1_0 cW5_1_1 cW5_2_0 cW5_2_1 cW5_3_0 cW5_3_1 fW5_0 fW5_1 fW5_2 fW5_3 BW5_0 BW5_1 BW5_2 BW5_3 kW5 hkW6
  have cW6_0_0 : W6.cell? ⟨w.heap.size, 0, none⟩ = some (.int .u64 x0) := BW6_0.cell 0 rfl
  have cW6_0_1 : W6.cell? ⟨w.heap.size, 1, none⟩ = some (.int .u64 x1) := BW6_0.cell 1 rfl
  have fW6_0 := BW6_0.free
  have cW6_1_0 : W6.cell? ⟨w.heap.size + 1, 0, none⟩ = some (.int .u64 y0) := BW6_1.cell 0 rfl
  have cW6_1_1 : W6.cell? ⟨w.heap.size + 1, 1, none⟩ = some (.int .u64 y1) := BW6_1.cell 1 rfl
  have fW6_1 := BW6_1.free
  have cW6_2_0 : W6.cell? ⟨w.heap.size + 1 + 1, 0, none⟩ = some (.int .u64 0) := BW6_2.cell 0 rfl
  have cW6_2_1 : W6.cell? ⟨w.heap.size + 1 + 1, 1, none⟩ = some (.int .u64 0) := BW6_2.cell 1 rfl
  have fW6_2 := BW6_2.free
  have cW6_3_0 : W6.cell? ⟨b7, 0, none⟩ = some (.int .u64 r0) := BW6_3.cell 0 rfl
  have cW6_3_1 : W6.cell? ⟨b7, 1, none⟩ = some (.int .u64 r1) := BW6_3.cell 1 rfl
  have fW6_3 := BW6_3.free
  go_wp2_with fail
  refine (HS.out _).mono ?_
  rintro e W7 ⟨rfl, hkW7⟩
  have kW7 := kW6.trans hkW7
  have BW7_0 := BW6_0.kept hkW7
  have BW7_1 := BW6_1.kept hkW7
  have BW7_2 := BW6_2.kept hkW7
  have BW7_3 := BW6_3.kept hkW7
  clear cW6_0_0 cW6_0_1 cW6_1_0 cW6_1_1 cW6_2_0 cW6_2_1 cW6_3_0 cW6_3_1 fW6_0 fW6_1 fW6_2 fW6_3 BW6_0 BW6_1 BW6_2 BW6_3 kW6 hkW7
  have cW7_0_0 : W7.cell? ⟨w.heap.size, 0, none⟩ = some (.int .u64 x0) := BW7_0.cell 0 rfl
  have cW7_0_1 : W7.cell? ⟨w.heap.size, 1, none⟩ = some (.int .u64 x1) := BW7_0.cell 1 rfl
  have fW7_0 := BW7_0.free
  have cW7_1_0 : W7.cell? ⟨w.heap.size + 1, 0, none⟩ = some (.int .u64 y0) := BW7_1.cell 0 rfl
  have cW7_1_1 : W7.cell? ⟨w.heap.size + 1, 1, none⟩ = some (.int .u64 y1) := BW7_1.cell 1 rfl
  have fW7_1 := BW7_1.free
  have cW7_2_0 : W7.cell? ⟨w.heap.size + 1 + 1, 0, none⟩ = some (.int .u64 0) := BW7_2.cell 0 rfl
  have cW7_2_1 : W7.cell? ⟨w.heap.size + 1 + 1, 1, none⟩ = some (.int .u64 0) := BW7_2.cell 1 rfl
  have fW7_2 := BW7_2.free
  have cW7_3_0 : W7.cell? ⟨b7, 0, none⟩ = some (.int .u64 r0) := BW7_3.cell 0 rfl
  have cW7_3_1 : W7.cell? ⟨b7, 1, none⟩ = some (.int .u64 r1) := BW7_3.cell 1 rfl
  have fW7_3 := BW7_3.free
  go_wp2_with fail
  refine bodyPost_ret (v := .agg #[.int .u64 s0, .int .u64 s1]) (by simp [results, Try.results35, go_sem, *]) rfl ⟨rfl, ?_⟩
  repeat (first | exact kW7 | (refine Kept.setCell ?_ (kept_side (by first | assumption | omega)) _) | apply Kept.alloc)

set_option maxRecDepth 100000 in
set_option maxHeartbeats 1000000 in
theorem ref_Add_take (f a0 a1 b0 b1 x0 x1 y0 y1 r0 r1 s0 s1 : Int) (p : Value) 
    (hA : Pure Try.prog 32 #[.int .i64 f, .agg #[.int .u64 a0, .int .u64 a1]] (.agg #[.int .u64 x0, .int .u64 x1]))
    (hB : Pure Try.prog 32 #[.int .i64 f, .agg #[.int .u64 b0, .int .u64 b1]] (.agg #[.int .u64 y0, .int .u64 y1]))
    (hP : Pure Try.prog 59 #[.int .i64 f] p)
    (hT : Pure Try.prog 114 #[p, .agg #[.int .u64 y0, .int .u64 y1]] (.agg #[.int .u64 r0, .int .u64 r1]))
    (hL : Pure Try.prog 113 #[.agg #[.int .u64 x0, .int .u64 x1], .agg #[.int .u64 r0, .int .u64 r1]] (.bool false))
    (hS : Pure Try.prog 114 #[.agg #[.int .u64 x0, .int .u64 x1], .agg #[.int .u64 r0, .int .u64 r1]] (.agg #[.int .u64 s0, .int .u64 s1])) :
    Pure Try.prog 35 #[.int .i64 f, .agg #[.int .u64 a0, .int .u64 a1], .agg #[.int .u64 b0, .int .u64 b1]] (.agg #[.int .u64 s0, .int .u64 s1]) := fun w => by
  have HA := Lib.hid hA
  have HB := Lib.hid hB
  have HP := Lib.hid hP
  have HT := Lib.hid hT
  have HL := Lib.hid hL
  have HS := Lib.hid hS
  clear hA hB hP hT hL hS
  have ne0_2 : w.heap.size ≠ w.heap.size + 1 + 1 := by omega
  have ne2_0 : w.heap.size + 1 + 1 ≠ w.heap.size := by omega
  go_enter Try.func35, Try.ntmps35
  go_wp2_with fail
  refine abs_world (fun W => Kept w W ∧ Blk W (w.heap.size) 28 #[.int .u64 a0, .int .u64 a1] ∧ Blk W (w.heap.size + 1) 28 #[.int .u64 b0, .int .u64 b1] ∧ Blk W (w.heap.size + 1 + 1) 28 #[.int .u64 0, .int .u64 0]) ?_ ?_
  · refine ⟨?_, ?_, ?_, ?_⟩
    · repeat (first | exact Kept.refl _ | (refine Kept.setCell ?_ (kept_side (by first | assumption | omega)) _) | apply Kept.alloc)
    · simp [Blk, *] <;> (intros; omega)
    · simp [Blk, *] <;> (intros; omega)
    · simp [Blk, *] <;> (intros; omega)
  rintro W1 ⟨kW1, BW1_0, BW1_1, BW1_2⟩
  have cW1_0_0 : W1.cell? ⟨w.heap.size, 0, none⟩ = some (.int .u64 a0) := BW1_0.cell 0 rfl
  have cW1_0_1 : W1.cell? ⟨w.heap.size, 1, none⟩ = some (.int .u64 a1) := BW1_0.cell 1 rfl
  have fW1_0 := BW1_0.free
  have cW1_1_0 : W1.cell? ⟨w.heap.size + 1, 0, none⟩ = some (.int .u64 b0) := BW1_1.cell 0 rfl
  have cW1_1_1 : W1.cell? ⟨w.heap.size + 1, 1, none⟩ = some (.int .u64 b1) := BW1_1.cell 1 rfl
  have fW1_1 := BW1_1.free
  have cW1_2_0 : W1.cell? ⟨w.heap.size + 1 + 1, 0, none⟩ = some (.int .u64 0) := BW1_2.cell 0 rfl
  have cW1_2_1 : W1.cell? ⟨w.heap.size + 1 + 1, 1, none⟩ = some (.int .u64 0) := BW1_2.cell 1 rfl
  have fW1_2 := BW1_2.free
  refine wp_region_calm 6 (by kernel_rfl) (by kernel_rfl) ?_
  simp only [List.take_succ_cons, List.take_zero, List.drop_succ_cons, List.drop_zero]
  repeat (first
    | (refine calm_skip rfl ?_; simp only [Act.put, List.setIfInBounds_toArray, List.set_cons_zero, List.set_cons_succ])
    | (refine calm_ex rfl ?_; apply Exists.intro; refine And.intro (fun w' hk => ?_) ?_; (focus (have q0 := hk.cell cW1_0_0; have q1 := hk.cell cW1_0_1; have q2 := hk.cell cW1_1_0; have q3 := hk.cell cW1_1_1; have q4 := hk.cell cW1_2_0; have q5 := hk.cell cW1_2_1; clear hk; go_simp; exact rfl)); simp only [Act.put, List.setIfInBounds_toArray, List.set_cons_zero, List.set_cons_succ])
    | (refine calm_step _ rfl (HA.out.call ?_) ?_; (focus (intro w'; go_simp; done)); simp only [Act.put, List.setIfInBounds_toArray, List.set_cons_zero, List.set_cons_succ])
    | (refine calm_step _ rfl (HB.out.call ?_) ?_; (focus (intro w'; go_simp; done)); simp only [Act.put, List.setIfInBounds_toArray, List.set_cons_zero, List.set_cons_succ]))
  refine calm_nil ?_
  intro W2 hkW2
  have kW2 := kW1.trans hkW2
  have BW2_0 := BW1_0.kept hkW2
  have BW2_1 := BW1_1.kept hkW2
  have BW2_2 := BW1_2.kept hkW2
  clear cW1_0_0 cW1_0_1 cW1_1_0 cW1_1_1 cW1_2_0 cW1_2_1 fW1_0 fW1_1 fW1_2 BW1_0 BW1_1 BW1_2 kW1 hkW2
  have cW2_0_0 : W2.cell? ⟨w.heap.size, 0, none⟩ = some (.int .u64 a0) := BW2_0.cell 0 rfl
  have cW2_0_1 : W2.cell? ⟨w.heap.size, 1, none⟩ = some (.int .u64 a1) := BW2_0.cell 1 rfl
  have fW2_0 := BW2_0.free
  have cW2_1_0 : W2.cell? ⟨w.heap.size + 1, 0, none⟩ = some (.int .u64 b0) := BW2_1.cell 0 rfl
  have cW2_1_1 : W2.cell? ⟨w.heap.size + 1, 1, none⟩ = some (.int .u64 b1) := BW2_1.cell 1 rfl
  have fW2_1 := BW2_1.free
  have cW2_2_0 : W2.cell? ⟨w.heap.size + 1 + 1, 0, none⟩ = some (.int .u64 0) := BW2_2.cell 0 rfl
  have cW2_2_1 : W2.cell? ⟨w.heap.size + 1 + 1, 1, none⟩ = some (.int .u64 0) := BW2_2.cell 1 rfl
  have fW2_2 := BW2_2.free
  go_wp2_with fail
  refine abs_world (fun W => Kept w W ∧ Blk W (w.heap.size) 28 #[.int .u64 x0, .int .u64 x1] ∧ Blk W (w.heap.size + 1) 28 #[.int .u64 y0, .int .u64 y1] ∧ Blk W (w.heap.size + 1 + 1) 28 #[.int .u64 0, .int .u64 0]) ?_ ?_
  · refine ⟨?_, ?_, ?_, ?_⟩
    · repeat (first | exact kW2 | (refine Kept.setCell ?_ (kept_side (by first | assumption | omega)) _) | apply Kept.alloc)
    · simp [Blk, *] <;> (intros; omega)
    · simp [Blk, *] <;> (intros; omega)
    · simp [Blk, *] <;> (intros; omega)
  rintro W3 ⟨kW3, BW3_0, BW3_1, BW3_2⟩
  have cW3_0_0 : W3.cell? ⟨w.heap.size, 0, none⟩ = some (.int .u64 x0) := BW3_0.cell 0 rfl
  have cW3_0_1 : W3.cell? ⟨w.heap.size, 1, none⟩ = some (.int .u64 x1) := BW3_0.cell 1 rfl
  have fW3_0 := BW3_0.free
  have cW3_1_0 : W3.cell? ⟨w.heap.size + 1, 0, none⟩ = some (.int .u64 y0) := BW3_1.cell 0 rfl
  have cW3_1_1 : W3.cell? ⟨w.heap.size + 1, 1, none⟩ = some (.int .u64 y1) := BW3_1.cell 1 rfl
  have fW3_1 := BW3_1.free
  have cW3_2_0 : W3.cell? ⟨w.heap.size + 1 + 1, 0, none⟩ = some (.int .u64 0) := BW3_2.cell 0 rfl
  have cW3_2_1 : W3.cell? ⟨w.heap.size + 1 + 1, 1, none⟩ = some (.int .u64 0) := BW3_2.cell 1 rfl
  have fW3_2 := BW3_2.free
  refine wp_region_calm1 4 _ _ (by kernel_rfl) (by kernel_rfl) rfl isMaker28 (by kernel_rfl) ?_
  simp only [List.take_succ_cons, List.take_zero, List.drop_succ_cons, List.drop_zero]
  repeat (first
    | (refine calm_skip rfl ?_; simp only [Act.put, List.setIfInBounds_toArray, List.set_cons_zero, List.set_cons_succ])
    | (refine calm_ex rfl ?_; apply Exists.intro; refine And.intro (fun w' hk => ?_) ?_; (focus (have q0 := hk.cell cW3_0_0; have q1 := hk.cell cW3_0_1; have q2 := hk.cell cW3_1_0; have q3 := hk.cell cW3_1_1; have q4 := hk.cell cW3_2_0; have q5 := hk.cell cW3_2_1; clear hk; go_simp; exact rfl)); simp only [Act.put, List.setIfInBounds_toArray, List.set_cons_zero, List.set_cons_succ])
    | (refine calm_step _ rfl (HP.out.call ?_) ?_; (focus (intro w'; go_simp; done)); simp only [Act.put, List.setIfInBounds_toArray, List.set_cons_zero, List.set_cons_succ])
    | (refine calm_step _ rfl (HT.out.call ?_) ?_; (focus (intro w'; go_simp; done)); simp only [Act.put, List.setIfInBounds_toArray, List.set_cons_zero, List.set_cons_succ]))
  refine calm_nil ?_
  intro W4 b7 hkW4 hlob7 hatb7
  simp only [Act.put, List.setIfInBounds_toArray, List.set_cons_zero, List.set_cons_succ]
  have neb7_0 : w.heap.size ≠ b7 := by have := BW3_0.lt; omega
  have enb7_0 : b7 ≠ w.heap.size := neb7_0.symm
  have neb7_1 : w.heap.size + 1 ≠ b7 := by have := BW3_1.lt; omega
  have enb7_1 : b7 ≠ w.heap.size + 1 := neb7_1.symm
  have neb7_2 : w.heap.size + 1 + 1 ≠ b7 := by have := BW3_2.lt; omega
  have enb7_2 : b7 ≠ w.heap.size + 1 + 1 := neb7_2.symm
  have lob7 : w.heap.size ≤ b7 := Nat.le_trans kW3.size hlob7
  have BW4_3 : Blk W4 (b7) 28 #[.int .u64 0, .int .u64 0] := hatb7
  clear hatb7 hlob7
  have kW4 := kW3.trans hkW4
  have BW4_0 := BW3_0.kept hkW4
  have BW4_1 := BW3_1.kept hkW4
  have BW4_2 := BW3_2.kept hkW4
  clear cW3_0_0 cW3_0_1 cW3_1_0 cW3_1_1 cW3_2_0 cW3_2_1 fW3_0 fW3_1 fW3_2 BW3_0 BW3_1 BW3_2 kW3 hkW4
  have cW4_0_0 : W4.cell? ⟨w.heap.size, 0, none⟩ = some (.int .u64 x0) := BW4_0.cell 0 rfl
  have cW4_0_1 : W4.cell? ⟨w.heap.size, 1, none⟩ = some (.int .u64 x1) := BW4_0.cell 1 rfl
  have fW4_0 := BW4_0.free
  have cW4_1_0 : W4.cell? ⟨w.heap.size + 1, 0, none⟩ = some (.int .u64 y0) := BW4_1.cell 0 rfl
  have cW4_1_1 : W4.cell? ⟨w.heap.size + 1, 1, none⟩ = some (.int .u64 y1) := BW4_1.cell 1 rfl
  have fW4_1 := BW4_1.free
  have cW4_2_0 : W4.cell? ⟨w.heap.size + 1 + 1, 0, none⟩ = some (.int .u64 0) := BW4_2.cell 0 rfl
  have cW4_2_1 : W4.cell? ⟨w.heap.size + 1 + 1, 1, none⟩ = some (.int .u64 0) := BW4_2.cell 1 rfl
  have fW4_2 := BW4_2.free
  have cW4_3_0 : W4.cell? ⟨b7, 0, none⟩ = some (.int .u64 0) := BW4_3.cell 0 rfl
  have cW4_3_1 : W4.cell? ⟨b7, 1, none⟩ = some (.int .u64 0) := BW4_3.cell 1 rfl
  have fW4_3 := BW4_3.free
  go_wp2_with fail
  refine abs_calls (fun W => Kept w W ∧ Blk W (w.heap.size) 28 #[.int .u64 x0, .int .u64 x1] ∧ Blk W (w.heap.size + 1) 28 #[.int .u64 y0, .int .u64 y1] ∧ Blk W (w.heap.size + 1 + 1) 28 #[.int .u64 0, .int .u64 0] ∧ Blk W (b7) 28 #[.int .u64 r0, .int .u64 r1]) ?_ ?_
  · refine ⟨?_, ?_, ?_, ?_, ?_⟩
    · repeat (first | exact kW4 | (refine Kept.setCell ?_ (kept_side (by first | assumption | omega)) _) | apply Kept.alloc)
    · simp [Blk, *] <;> (intros; omega)
    · simp [Blk, *] <;> (intros; omega)
    · simp [Blk, *] <;> (intros; omega)
    · simp [Blk, *] <;> (intros; omega)
  rintro W5 ⟨kW5, BW5_0, BW5_1, BW5_2, BW5_3⟩
  have cW5_0_0 : W5.cell? ⟨w.heap.size, 0, none⟩ = some (.int .u64 x0) := BW5_0.cell 0 rfl
  have cW5_0_1 : W5.cell? ⟨w.heap.size, 1, none⟩ = some (.int .u64 x1) := BW5_0.cell 1 rfl
  have fW5_0 := BW5_0.free
  have cW5_1_0 : W5.cell? ⟨w.heap.size + 1, 0, none⟩ = some (.int .u64 y0) := BW5_1.cell 0 rfl
  have cW5_1_1 : W5.cell? ⟨w.heap.size + 1, 1, none⟩ = some (.int .u64 y1) := BW5_1.cell 1 rfl
  have fW5_1 := BW5_1.free
  have cW5_2_0 : W5.cell? ⟨w.heap.size + 1 + 1, 0, none⟩ = some (.int .u64 0) := BW5_2.cell 0 rfl
  have cW5_2_1 : W5.cell? ⟨w.heap.size + 1 + 1, 1, none⟩ = some (.int .u64 0) := BW5_2.cell 1 rfl
  have fW5_2 := BW5_2.free
  have cW5_3_0 : W5.cell? ⟨b7, 0, none⟩ = some (.int .u64 r0) := BW5_3.cell 0 rfl
  have cW5_3_1 : W5.cell? ⟨b7, 1, none⟩ = some (.int .u64 r1) := BW5_3.cell 1 rfl
  have fW5_3 := BW5_3.free
  refine (HL.out _).mono ?_
  rintro e W6 ⟨rfl, hkW6⟩
  have kW6 := kW5.trans hkW6
  have BW6_0 := BW5_0.kept hkW6
  have BW6_1 := BW5_1.kept hkW6
  have BW6_2 := BW5_2.kept hkW6
  have BW6_3 := BW5_3.kept hkW6
  clear cW5_0_0 cW5_0_1 cW5_1_0 cW5_1_1 cW5_2_0 cW5_2_1 cW5_3_0 cW5_3_1 fW5_0 fW5_1 fW5_2 fW5_3 BW5_0 BW5_1 BW5_2 BW5_3 kW5 hkW6
  have cW6_0_0 : W6.cell? ⟨w.heap.size, 0, none⟩ = some (.int .u64 x0) := BW6_0.cell 0 rfl
  have cW6_0_1 : W6.cell? ⟨w.heap.size, 1, none⟩ = some (.int .u64 x1) := BW6_0.cell 1 rfl
  have fW6_0 := BW6_0.free
  have cW6_1_0 : W6.cell? ⟨w.heap.size + 1, 0, none⟩ = some (.int .u64 y0) := BW6_1.cell 0 rfl
  have cW6_1_1 : W6.cell? ⟨w.heap.size + 1, 1, none⟩ = some (.int .u64 y1) := BW6_1.cell 1 rfl
  have fW6_1 := BW6_1.free
  have cW6_2_0 : W6.cell? ⟨w.heap.size + 1 + 1, 0, none⟩ = some (.int .u64 0) := BW6_2.cell 0 rfl
  have cW6_2_1 : W6.cell? ⟨w.heap.size + 1 + 1, 1, none⟩ = some (.int .u64 0) := BW6_2.cell 1 rfl
  have fW6_2 := BW6_2.free
  have cW6_3_0 : W6.cell? ⟨b7, 0, none⟩ = some (.int .u64 r0) := BW6_3.cell 0 rfl
  have cW6_3_1 : W6.cell? ⟨b7, 1, none⟩ = some (.int .u64 r1) := BW6_3.cell 1 rfl
  have fW6_3 := BW6_3.free
  go_wp2_with fail
  refine (HS.out _).mono ?_
  rintro e W7 ⟨rfl, hkW7⟩
  have kW7 := kW6.trans hkW7
  have BW7_0 := BW6_0.kept hkW7
  have BW7_1 := BW6_1.kept hkW7
  have BW7_2 := BW6_2.kept hkW7
  have BW7_3 := BW6_3.kept hkW7
  clear cW6_0_0 cW6_0_1 cW6_1_0 cW6_1_1 cW6_2_0 cW6_2_1 cW6_3_0 cW6_3_1 fW6_0 fW6_1 fW6_2 fW6_3 BW6_0 BW6_1 BW6_2 BW6_3 kW6 hkW7
  have cW7_0_0 : W7.cell? ⟨w.heap.size, 0, none⟩ = some (.int .u64 x0) := BW7_0.cell 0 rfl
  have cW7_0_1 : W7.cell? ⟨w.heap.size, 1, none⟩ = some (.int .u64 x1) := BW7_0.cell 1 rfl
  have fW7_0 := BW7_0.free
  have cW7_1_0 : W7.cell? ⟨w.heap.size + 1, 0, none⟩ = some (.int .u64 y0) := BW7_1.cell 0 rfl
  have cW7_1_1 : W7.cell? ⟨w.heap.size + 1, 1, none⟩ = some (.int .u64 y1) := BW7_1.cell 1 rfl
  have fW7_1 := BW7_1.free
  have cW7_2_0 : W7.cell? ⟨w.heap.size + 1 + 1, 0, none⟩ = some (.int .u64 0) := BW7_2.cell 0 rfl
  have cW7_2_1 : W7.cell? ⟨w.heap.size + 1 + 1, 1, none⟩ = some (.int .u64 0) := BW7_2.cell 1 rfl
  have fW7_2 := BW7_2.free
  have cW7_3_0 : W7.cell? ⟨b7, 0, none⟩ = some (.int .u64 r0) := BW7_3.cell 0 rfl
  have cW7_3_1 : W7.cell? ⟨b7, 1, none⟩ = some (.int .u64 r1) := BW7_3.cell 1 rfl
  have fW7_3 := BW7_3.free
  go_wp2_with fail
  refine bodyPost_ret (v := .agg #[.int .u64 s0, .int .u64 s1]) (by simp [results, Try.results35, go_sem, *]) rfl ⟨rfl, ?_⟩
  repeat (first | exact kW7 | (refine Kept.setCell ?_ (kept_side (by first | assumption | omega)) _) | apply Kept.alloc)

theorem ref_Add {f a b : Int} (hf : isF f) (ha : is128 a) (hb : is128 b) : Pure Try.prog 35 #[.int .i64 f, E a, E b] (E ((rOf f a + rOf f b) % rP f)) := by
  have hA := ref_Of hf ha
  have hB := ref_Of hf hb
  have hx := is128_rOf f a
  have hy := is128_rOf f b
  have x0 := rOf_lo f a
  have x1 := rOf_lt f a
  have y0 := rOf_lo f b
  have y1 := rOf_lt f b
  have p1 := rP_lt f
  generalize rOf f a = X at *
  generalize rOf f b = Y at *
  have hT := ref_take (is128_rP f) hy
  rw [show (rP f - Y) % 340282366920938463463374607431768211456 = rP f - Y by omega] at hT
  have hr : is128 (rP f - Y) := by unfold is128; omega
  by_cases h : X < rP f - Y
  · have hL := ref_Less hx hr
    rw [decide_eq_true h] at hL
    have hS := ref_plus hx hy
    rw [show (X + Y) % 340282366920938463463374607431768211456 = X + Y by omega] at hS
    rw [Int.emod_eq_of_lt (by omega) (by omega)]
    exact ref_Add_plus f _ _ _ _ _ _ _ _ _ _ _ _ _ hA hB (ref_P hf) hT hL hS
  · have hL := ref_Less hx hr
    rw [decide_eq_false h] at hL
    have hS := ref_take hx hr
    rw [show (X - (rP f - Y)) % 340282366920938463463374607431768211456 = X + Y - rP f by omega] at hS
    have e : (X + Y) % rP f = X + Y - rP f := by
      rw [← Int.sub_emod_right, Int.emod_eq_of_lt (by omega) (by omega)]
    rw [e]
    exact ref_Add_take f _ _ _ _ _ _ _ _ _ _ _ _ _ hA hB (ref_P hf) hT hL hS

set_option maxRecDepth 100000 in
set_option maxHeartbeats 1000000 in
theorem ref_Neg_nought (f a0 a1 : Int) (hA : Pure Try.prog 32 #[.int .i64 f, .agg #[.int .u64 a0, .int .u64 a1]] (.agg #[.int .u64 0, .int .u64 0])) :
    Pure Try.prog 37 #[.int .i64 f, .agg #[.int .u64 a0, .int .u64 a1]] (.agg #[.int .u64 0, .int .u64 0]) := fun w => by
  have HA := Lib.hid hA
  clear hA
  have hq := fun w => run_eql28 0 0 0 0 w
  go_enter Try.func37, Try.ntmps37
  go_wp2_with fail
  refine abs_calls (fun W => Kept w W ∧ Blk W (w.heap.size) 28 #[.int .u64 a0, .int .u64 a1] ∧ Blk W (w.heap.size + 1) 28 #[.int .u64 0, .int .u64 0]) ?_ ?_
  · refine ⟨?_, ?_, ?_⟩
    · repeat (first | exact Kept.refl _ | (refine Kept.setCell ?_ (kept_side (by first | assumption | omega)) _) | apply Kept.alloc)
    · simp [Blk, *] <;> (intros; omega)
    · simp [Blk, *] <;> (intros; omega)
  rintro W1 ⟨kW1, BW1_0, BW1_1⟩
  have cW1_0_0 : W1.cell? ⟨w.heap.size, 0, none⟩ = some (.int .u64 a0) := BW1_0.cell 0 rfl
  have cW1_0_1 : W1.cell? ⟨w.heap.size, 1, none⟩ = some (.int .u64 a1) := BW1_0.cell 1 rfl
  have fW1_0 := BW1_0.free
  have cW1_1_0 : W1.cell? ⟨w.heap.size + 1, 0, none⟩ = some (.int .u64 0) := BW1_1.cell 0 rfl
  have cW1_1_1 : W1.cell? ⟨w.heap.size + 1, 1, none⟩ = some (.int .u64 0) := BW1_1.cell 1 rfl
  have fW1_1 := BW1_1.free
  refine (HA.out _).mono ?_
  rintro e W2 ⟨rfl, hkW2⟩
  have kW2 := kW1.trans hkW2
  have BW2_0 := BW1_0.kept hkW2
  have BW2_1 := BW1_1.kept hkW2
  clear cW1_0_0 cW1_0_1 cW1_1_0 cW1_1_1 fW1_0 fW1_1 BW1_0 BW1_1 kW1 hkW2
  have cW2_0_0 : W2.cell? ⟨w.heap.size, 0, none⟩ = some (.int .u64 a0) := BW2_0.cell 0 rfl
  have cW2_0_1 : W2.cell? ⟨w.heap.size, 1, none⟩ = some (.int .u64 a1) := BW2_0.cell 1 rfl
  have fW2_0 := BW2_0.free
  have cW2_1_0 : W2.cell? ⟨w.heap.size + 1, 0, none⟩ = some (.int .u64 0) := BW2_1.cell 0 rfl
  have cW2_1_1 : W2.cell? ⟨w.heap.size + 1, 1, none⟩ = some (.int .u64 0) := BW2_1.cell 1 rfl
  have fW2_1 := BW2_1.free
  go_wp2_with fail
  refine bodyPost_ret (v := .agg #[.int .u64 0, .int .u64 0]) (by simp [results, Try.results37, go_sem, *]) rfl ⟨rfl, ?_⟩
  repeat (first | exact kW2 | (refine Kept.setCell ?_ (kept_side (by first | assumption | omega)) _) | apply Kept.alloc)

set_option maxRecDepth 100000 in
set_option maxHeartbeats 1000000 in
theorem ref_Neg_take (f a0 a1 x0 x1 r0 r1 : Int) (p : Value) (hA : Pure Try.prog 32 #[.int .i64 f, .agg #[.int .u64 a0, .int .u64 a1]] (.agg #[.int .u64 x0, .int .u64 x1]))
    (hx : decide (x0 = 0 ∧ x1 = 0) = false) (hP : Pure Try.prog 59 #[.int .i64 f] p)
    (hT : Pure Try.prog 114 #[p, .agg #[.int .u64 x0, .int .u64 x1]] (.agg #[.int .u64 r0, .int .u64 r1])) :
    Pure Try.prog 37 #[.int .i64 f, .agg #[.int .u64 a0, .int .u64 a1]] (.agg #[.int .u64 r0, .int .u64 r1]) := fun w => by
  have HA := Lib.hid hA
  have HP := Lib.hid hP
  have HT := Lib.hid hT
  clear hA hP hT
  have hq := fun w => run_eql28 x0 x1 0 0 w
  simp only [hx] at hq
  go_enter Try.func37, Try.ntmps37
  go_wp2_with fail
  refine abs_calls (fun W => Kept w W ∧ Blk W (w.heap.size) 28 #[.int .u64 a0, .int .u64 a1] ∧ Blk W (w.heap.size + 1) 28 #[.int .u64 0, .int .u64 0]) ?_ ?_
  · refine ⟨?_, ?_, ?_⟩
    · repeat (first | exact Kept.refl _ | (refine Kept.setCell ?_ (kept_side (by first | assumption | omega)) _) | apply Kept.alloc)
    · simp [Blk, *] <;> (intros; omega)
    · simp [Blk, *] <;> (intros; omega)
  rintro W1 ⟨kW1, BW1_0, BW1_1⟩
  have cW1_0_0 : W1.cell? ⟨w.heap.size, 0, none⟩ = some (.int .u64 a0) := BW1_0.cell 0 rfl
  have cW1_0_1 : W1.cell? ⟨w.heap.size, 1, none⟩ = some (.int .u64 a1) := BW1_0.cell 1 rfl
  have fW1_0 := BW1_0.free
  have cW1_1_0 : W1.cell? ⟨w.heap.size + 1, 0, none⟩ = some (.int .u64 0) := BW1_1.cell 0 rfl
  have cW1_1_1 : W1.cell? ⟨w.heap.size + 1, 1, none⟩ = some (.int .u64 0) := BW1_1.cell 1 rfl
  have fW1_1 := BW1_1.free
  refine (HA.out _).mono ?_
  rintro e W2 ⟨rfl, hkW2⟩
  have kW2 := kW1.trans hkW2
  have BW2_0 := BW1_0.kept hkW2
  have BW2_1 := BW1_1.kept hkW2
  clear cW1_0_0 cW1_0_1 cW1_1_0 cW1_1_1 fW1_0 fW1_1 BW1_0 BW1_1 kW1 hkW2
  have cW2_0_0 : W2.cell? ⟨w.heap.size, 0, none⟩ = some (.int .u64 a0) := BW2_0.cell 0 rfl
  have cW2_0_1 : W2.cell? ⟨w.heap.size, 1, none⟩ = some (.int .u64 a1) := BW2_0.cell 1 rfl
  have fW2_0 := BW2_0.free
  have cW2_1_0 : W2.cell? ⟨w.heap.size + 1, 0, none⟩ = some (.int .u64 0) := BW2_1.cell 0 rfl
  have cW2_1_1 : W2.cell? ⟨w.heap.size + 1, 1, none⟩ = some (.int .u64 0) := BW2_1.cell 1 rfl
  have fW2_1 := BW2_1.free
  go_wp2_with fail
  refine abs_world (fun W => Kept w W ∧ Blk W (w.heap.size) 28 #[.int .u64 x0, .int .u64 x1] ∧ Blk W (w.heap.size + 1) 28 #[.int .u64 0, .int .u64 0]) ?_ ?_
  · refine ⟨?_, ?_, ?_⟩
    · repeat (first | exact kW2 | (refine Kept.setCell ?_ (kept_side (by first | assumption | omega)) _) | apply Kept.alloc)
    · simp [Blk, *] <;> (intros; omega)
    · simp [Blk, *] <;> (intros; omega)
  rintro W3 ⟨kW3, BW3_0, BW3_1⟩
  have cW3_0_0 : W3.cell? ⟨w.heap.size, 0, none⟩ = some (.int .u64 x0) := BW3_0.cell 0 rfl
  have cW3_0_1 : W3.cell? ⟨w.heap.size, 1, none⟩ = some (.int .u64 x1) := BW3_0.cell 1 rfl
  have fW3_0 := BW3_0.free
  have cW3_1_0 : W3.cell? ⟨w.heap.size + 1, 0, none⟩ = some (.int .u64 0) := BW3_1.cell 0 rfl
  have cW3_1_1 : W3.cell? ⟨w.heap.size + 1, 1, none⟩ = some (.int .u64 0) := BW3_1.cell 1 rfl
  have fW3_1 := BW3_1.free
  refine wp_region_calm 4 (by kernel_rfl) (by kernel_rfl) ?_
  simp only [List.take_succ_cons, List.take_zero, List.drop_succ_cons, List.drop_zero]
  repeat (first
    | (refine calm_skip rfl ?_; simp only [Act.put, List.setIfInBounds_toArray, List.set_cons_zero, List.set_cons_succ])
    | (refine calm_ex rfl ?_; apply Exists.intro; refine And.intro (fun w' hk => ?_) ?_; (focus (have q0 := hk.cell cW3_0_0; have q1 := hk.cell cW3_0_1; have q2 := hk.cell cW3_1_0; have q3 := hk.cell cW3_1_1; clear hk; go_simp; exact rfl)); simp only [Act.put, List.setIfInBounds_toArray, List.set_cons_zero, List.set_cons_succ])
    | (refine calm_step _ rfl (HP.out.call ?_) ?_; (focus (intro w'; go_simp; done)); simp only [Act.put, List.setIfInBounds_toArray, List.set_cons_zero, List.set_cons_succ])
    | (refine calm_step _ rfl (HT.out.call ?_) ?_; (focus (intro w'; go_simp; done)); simp only [Act.put, List.setIfInBounds_toArray, List.set_cons_zero, List.set_cons_succ]))
  refine calm_nil ?_
  intro W4 hkW4
  have kW4 := kW3.trans hkW4
  have BW4_0 := BW3_0.kept hkW4
  have BW4_1 := BW3_1.kept hkW4
  clear cW3_0_0 cW3_0_1 cW3_1_0 cW3_1_1 fW3_0 fW3_1 BW3_0 BW3_1 kW3 hkW4
  have cW4_0_0 : W4.cell? ⟨w.heap.size, 0, none⟩ = some (.int .u64 x0) := BW4_0.cell 0 rfl
  have cW4_0_1 : W4.cell? ⟨w.heap.size, 1, none⟩ = some (.int .u64 x1) := BW4_0.cell 1 rfl
  have fW4_0 := BW4_0.free
  have cW4_1_0 : W4.cell? ⟨w.heap.size + 1, 0, none⟩ = some (.int .u64 0) := BW4_1.cell 0 rfl
  have cW4_1_1 : W4.cell? ⟨w.heap.size + 1, 1, none⟩ = some (.int .u64 0) := BW4_1.cell 1 rfl
  have fW4_1 := BW4_1.free
  go_wp2_with fail
  refine bodyPost_ret (v := .agg #[.int .u64 r0, .int .u64 r1]) (by simp [results, Try.results37, go_sem, *]) rfl ⟨rfl, ?_⟩
  repeat (first | exact kW4 | (refine Kept.setCell ?_ (kept_side (by first | assumption | omega)) _) | apply Kept.alloc)

set_option maxRecDepth 100000 in
set_option maxHeartbeats 1000000 in
theorem ref_Sub_raw (f a0 a1 b0 b1 n0 n1 s0 s1 : Int)
    (hN : Pure Try.prog 37 #[.int .i64 f, .agg #[.int .u64 b0, .int .u64 b1]] (.agg #[.int .u64 n0, .int .u64 n1]))
    (hA : Pure Try.prog 35 #[.int .i64 f, .agg #[.int .u64 a0, .int .u64 a1], .agg #[.int .u64 n0, .int .u64 n1]] (.agg #[.int .u64 s0, .int .u64 s1])) :
    Pure Try.prog 36 #[.int .i64 f, .agg #[.int .u64 a0, .int .u64 a1], .agg #[.int .u64 b0, .int .u64 b1]] (.agg #[.int .u64 s0, .int .u64 s1]) := fun w => by
  have HN := Lib.hid hN
  have HA := Lib.hid hA
  clear hN hA
  have ne0_2 : w.heap.size ≠ w.heap.size + 1 + 1 := by omega
  have ne2_0 : w.heap.size + 1 + 1 ≠ w.heap.size := by omega
  go_enter Try.func36, Try.ntmps36
  go_wp2_with fail
  refine abs_world (fun W => Kept w W ∧ Blk W (w.heap.size) 28 #[.int .u64 a0, .int .u64 a1] ∧ Blk W (w.heap.size + 1) 28 #[.int .u64 b0, .int .u64 b1] ∧ Blk W (w.heap.size + 1 + 1) 28 #[.int .u64 0, .int .u64 0]) ?_ ?_
  · refine ⟨?_, ?_, ?_, ?_⟩
    · repeat (first | exact Kept.refl _ | (refine Kept.setCell ?_ (kept_side (by first | assumption | omega)) _) | apply Kept.alloc)
    · simp [Blk, *] <;> (intros; omega)
    · simp [Blk, *] <;> (intros; omega)
    · simp [Blk, *] <;> (intros; omega)
  rintro W1 ⟨kW1, BW1_0, BW1_1, BW1_2⟩
  have cW1_0_0 : W1.cell? ⟨w.heap.size, 0, none⟩ = some (.int .u64 a0) := BW1_0.cell 0 rfl
  have cW1_0_1 : W1.cell? ⟨w.heap.size, 1, none⟩ = some (.int .u64 a1) := BW1_0.cell 1 rfl
  have fW1_0 := BW1_0.free
  have cW1_1_0 : W1.cell? ⟨w.heap.size + 1, 0, none⟩ = some (.int .u64 b0) := BW1_1.cell 0 rfl
  have cW1_1_1 : W1.cell? ⟨w.heap.size + 1, 1, none⟩ = some (.int .u64 b1) := BW1_1.cell 1 rfl
  have fW1_1 := BW1_1.free
  have cW1_2_0 : W1.cell? ⟨w.heap.size + 1 + 1, 0, none⟩ = some (.int .u64 0) := BW1_2.cell 0 rfl
  have cW1_2_1 : W1.cell? ⟨w.heap.size + 1 + 1, 1, none⟩ = some (.int .u64 0) := BW1_2.cell 1 rfl
  have fW1_2 := BW1_2.free
  refine wp_region_calm 6 (by kernel_rfl) (by kernel_rfl) ?_
  simp only [List.take_succ_cons, List.take_zero, List.drop_succ_cons, List.drop_zero]
  repeat (first
    | (refine calm_skip rfl ?_; simp only [Act.put, List.setIfInBounds_toArray, List.set_cons_zero, List.set_cons_succ])
    | (refine calm_ex rfl ?_; apply Exists.intro; refine And.intro (fun w' hk => ?_) ?_; (focus (have q0 := hk.cell cW1_0_0; have q1 := hk.cell cW1_0_1; have q2 := hk.cell cW1_1_0; have q3 := hk.cell cW1_1_1; have q4 := hk.cell cW1_2_0; have q5 := hk.cell cW1_2_1; clear hk; go_simp; exact rfl)); simp only [Act.put, List.setIfInBounds_toArray, List.set_cons_zero, List.set_cons_succ])
    | (refine calm_step _ rfl (HN.out.call ?_) ?_; (focus (intro w'; go_simp; done)); simp only [Act.put, List.setIfInBounds_toArray, List.set_cons_zero, List.set_cons_succ])
    | (refine calm_step _ rfl (HA.out.call ?_) ?_; (focus (intro w'; go_simp; done)); simp only [Act.put, List.setIfInBounds_toArray, List.set_cons_zero, List.set_cons_succ]))
  refine calm_nil ?_
  intro W2 hkW2
  have kW2 := kW1.trans hkW2
  have BW2_0 := BW1_0.kept hkW2
  have BW2_1 := BW1_1.kept hkW2
  have BW2_2 := BW1_2.kept hkW2
  clear cW1_0_0 cW1_0_1 cW1_1_0 cW1_1_1 cW1_2_0 cW1_2_1 fW1_0 fW1_1 fW1_2 BW1_0 BW1_1 BW1_2 kW1 hkW2
  have cW2_0_0 : W2.cell? ⟨w.heap.size, 0, none⟩ = some (.int .u64 a0) := BW2_0.cell 0 rfl
  have cW2_0_1 : W2.cell? ⟨w.heap.size, 1, none⟩ = some (.int .u64 a1) := BW2_0.cell 1 rfl
  have fW2_0 := BW2_0.free
  have cW2_1_0 : W2.cell? ⟨w.heap.size + 1, 0, none⟩ = some (.int .u64 b0) := BW2_1.cell 0 rfl
  have cW2_1_1 : W2.cell? ⟨w.heap.size + 1, 1, none⟩ = some (.int .u64 b1) := BW2_1.cell 1 rfl
  have fW2_1 := BW2_1.free
  have cW2_2_0 : W2.cell? ⟨w.heap.size + 1 + 1, 0, none⟩ = some (.int .u64 0) := BW2_2.cell 0 rfl
  have cW2_2_1 : W2.cell? ⟨w.heap.size + 1 + 1, 1, none⟩ = some (.int .u64 0) := BW2_2.cell 1 rfl
  have fW2_2 := BW2_2.free
  go_wp2_with fail
  refine bodyPost_ret (v := .agg #[.int .u64 s0, .int .u64 s1]) (by simp [results, Try.results36, go_sem, *]) rfl ⟨rfl, ?_⟩
  repeat (first | exact kW2 | (refine Kept.setCell ?_ (kept_side (by first | assumption | omega)) _) | apply Kept.alloc)
end Go.Proofs.Ytnajihlhcdedgaa

namespace Go.Proofs.Ytnajihlhcdedgaa
open Go.RowKit
set_option linter.unusedVariables false
set_option linter.unusedSimpArgs false
attribute [local simp] blkAt_setCell blkAt_alloc blkAt_drew Obj.put_cells

theorem rOf_of_lt {f x : Int} (h0 : 0 ≤ x) (h1 : x < rP f) : rOf f x = x := by
  unfold rOf rP gP wP at *
  split <;> rename_i h <;> simp only [h, if_true, if_false] at h1 <;> omega
theorem rOf_emod (f x : Int) : rOf f (x % rP f) = x % rP f := rOf_of_lt (Int.emod_nonneg _ (by have := rP_pos f; omega)) (Int.emod_lt_of_pos _ (rP_pos f))

theorem ref_Neg {f a : Int} (hf : isF f) (ha : is128 a) : Pure Try.prog 37 #[.int .i64 f, E a] (E ((-rOf f a) % rP f)) := by
  have hA := ref_Of hf ha
  have hx := is128_rOf f a
  have x0 := rOf_lo f a
  have x1 := rOf_lt f a
  have p1 := rP_lt f
  generalize rOf f a = X at *
  by_cases h : X = 0
  · subst h
    have e : E ((-0) % rP f) = .agg #[.int .u64 0, .int .u64 0] := by
      rw [show (-0 : Int) % rP f = 0 by simp]; rfl
    rw [e]
    exact ref_Neg_nought f _ _ hA
  · have hT := ref_take (is128_rP f) hx
    rw [show (rP f - X) % 340282366920938463463374607431768211456 = rP f - X by omega] at hT
    have e : (-X) % rP f = rP f - X := by
      rw [← Int.add_emod_right, Int.emod_eq_of_lt (by omega) (by omega)]; omega
    rw [e]
    exact ref_Neg_take f _ _ _ _ _ _ _ hA (decide_eq_false (by unfold is128 at hx; omega)) (ref_P hf) hT

theorem ref_Sub {f a b : Int} (hf : isF f) (ha : is128 a) (hb : is128 b) : Pure Try.prog 36 #[.int .i64 f, E a, E b] (E ((rOf f a - rOf f b) % rP f)) := by
  have hN := ref_Neg hf hb
  have hA := ref_Add hf ha (is128_emod f (-rOf f b))
  rw [rOf_emod, Int.add_emod_emod, ← Int.sub_eq_add_neg] at hA
  exact ref_Sub_raw f _ _ _ _ _ _ _ _ hN hA

theorem pow_pos2 (k : Nat) : (0 : Int) < 2 ^ k := by
  have := Nat.two_pow_pos k
  have e : ((2 ^ k : Nat) : Int) = 2 ^ k := by simp
  omega
theorem div_pow_succ (c : Int) (k : Nat) : c / 2 ^ (k + 1) = c / 2 ^ k / 2 := by
  rw [Int.ediv_ediv_of_nonneg (by have := pow_pos2 k; omega), Int.pow_succ]

set_option maxRecDepth 100000 in
set_option maxHeartbeats 1000000 in
theorem ref_bit_raw0 (a0 a1 : Int) (m : Nat) (i : Int) (w : World) (hc0 : 0 ≤ a0) (hc1 : a0 ≤ 18446744073709551615) (hi0 : 0 ≤ i) (hi1 : i ≤ 127) (hj : i / 64 = 0) (hm : i % 64 = (m : Int)) (hm1 : m ≤ 63) (b : Bool) (hb : Hid (b = (a0 / 2 ^ m % 2 == 1))) :
    Calls Try.prog 116 #[.agg #[.int .u64 a0, .int .u64 a1], .int .i64 i] w fun e w' => e = .returned (.bool b) ∧ Kept w w' := by
  go_enter Try.func116, Try.ntmps116
  go_wp2_with fail
  refine abs_world (fun W => Kept w W ∧ Blk W (w.heap.size) 28 #[.int .u64 a0, .int .u64 a1]) ?_ ?_
  · refine ⟨?_, ?_⟩
    · repeat (first | exact Kept.refl _ | (refine Kept.setCell ?_ (kept_side (by first | assumption | omega)) _) | apply Kept.alloc)
    · simp [Blk, *] <;> (intros; omega)
  rintro W1 ⟨kW1, BW1_0⟩
  have cW1_0_0 : W1.cell? ⟨w.heap.size, 0, none⟩ = some (.int .u64 a0) := BW1_0.cell 0 rfl
  have cW1_0_1 : W1.cell? ⟨w.heap.size, 1, none⟩ = some (.int .u64 a1) := BW1_0.cell 1 rfl
  have fW1_0 := BW1_0.free
  go_wp2
  go_loop [5, 6] (fun v t => ∃ k : Nat, k ≤ m ∧ t = .int .i64 k ∧ ∃ x : Int, 0 ≤ x ∧ x ≤ 18446744073709551615 ∧ v = .int .u64 x ∧ Hid (x = a0 / 2 ^ k)) (fun _ t => m - (intOf t).toNat)
  case atStart => exact ⟨0, Nat.zero_le _, rfl, _, hc0, hc1, rfl, by show a0 = a0 / 2 ^ 0; simp⟩
  case round =>
    obtain ⟨k, hk, rfl, x, hx0, hx1, rfl, hx⟩ := hrel
    by_cases hlt : k < m
    · go_wp2
      go_round
      case rel => exact ⟨k + 1, by omega, by go_num, _, by omega, by omega, rfl, by rw [hx.out]; show _ = _; rw [div_pow_succ]⟩
      case measure => simp [intOf]; omega
    · have hkm : Hid (k = m) := by show k = m; omega
      go_wp2
      go_ret
      exact ⟨by rw [hb.out, ← hkm.out, ← hx.out]; rfl, kW1⟩

set_option maxRecDepth 100000 in
set_option maxHeartbeats 1000000 in
theorem ref_bit_raw1 (a0 a1 : Int) (m : Nat) (i : Int) (w : World) (hc0 : 0 ≤ a1) (hc1 : a1 ≤ 18446744073709551615) (hi0 : 0 ≤ i) (hi1 : i ≤ 127) (hj : i / 64 = 1) (hm : i % 64 = (m : Int)) (hm1 : m ≤ 63) (b : Bool) (hb : Hid (b = (a1 / 2 ^ m % 2 == 1))) :
    Calls Try.prog 116 #[.agg #[.int .u64 a0, .int .u64 a1], .int .i64 i] w fun e w' => e = .returned (.bool b) ∧ Kept w w' := by
  go_enter Try.func116, Try.ntmps116
  go_wp2_with fail
  refine abs_world (fun W => Kept w W ∧ Blk W (w.heap.size) 28 #[.int .u64 a0, .int .u64 a1]) ?_ ?_
  · refine ⟨?_, ?_⟩
    · repeat (first | exact Kept.refl _ | (refine Kept.setCell ?_ (kept_side (by first | assumption | omega)) _) | apply Kept.alloc)
    · simp [Blk, *] <;> (intros; omega)
  rintro W1 ⟨kW1, BW1_0⟩
  have cW1_0_0 : W1.cell? ⟨w.heap.size, 0, none⟩ = some (.int .u64 a0) := BW1_0.cell 0 rfl
  have cW1_0_1 : W1.cell? ⟨w.heap.size, 1, none⟩ = some (.int .u64 a1) := BW1_0.cell 1 rfl
  have fW1_0 := BW1_0.free
  go_wp2
  go_loop [5, 6] (fun v t => ∃ k : Nat, k ≤ m ∧ t = .int .i64 k ∧ ∃ x : Int, 0 ≤ x ∧ x ≤ 18446744073709551615 ∧ v = .int .u64 x ∧ Hid (x = a1 / 2 ^ k)) (fun _ t => m - (intOf t).toNat)
  case atStart => exact ⟨0, Nat.zero_le _, rfl, _, hc0, hc1, rfl, by show a1 = a1 / 2 ^ 0; simp⟩
  case round =>
    obtain ⟨k, hk, rfl, x, hx0, hx1, rfl, hx⟩ := hrel
    by_cases hlt : k < m
    · go_wp2
      go_round
      case rel => exact ⟨k + 1, by omega, by go_num, _, by omega, by omega, rfl, by rw [hx.out]; show _ = _; rw [div_pow_succ]⟩
      case measure => simp [intOf]; omega
    · have hkm : Hid (k = m) := by show k = m; omega
      go_wp2
      go_ret
      exact ⟨by rw [hb.out, ← hkm.out, ← hx.out]; rfl, kW1⟩

theorem testBit_int (N i : Nat) : (((N : Int) / 2 ^ i % 2 == 1) : Bool) = N.testBit i := by
  rw [Nat.testBit_eq_decide_div_mod_eq]
  have e : (N : Int) / 2 ^ i % 2 = ((N / 2 ^ i % 2 : Nat) : Int) := by simp
  rw [e]
  by_cases h : N / 2 ^ i % 2 = 1
  · simp [h]
  · simp only [h, decide_false, beq_eq_false_iff_ne]; omega

theorem ref_bit {n : Int} (hn : is128 n) (i : Nat) (hi : i < 128) : Pure Try.prog 116 #[E n, .int .i64 (i : Int)] (.bool (n / 2 ^ i % 2 == 1)) := fun w => by
  unfold is128 at hn
  obtain ⟨N, rfl⟩ := Int.eq_ofNat_of_zero_le hn.1
  rw [testBit_int]
  by_cases h : i < 64
  · refine ref_bit_raw0 _ _ i i w (by omega) (by omega) (by omega) (by omega) (by omega) (by omega) (by omega) _ ?_
    show _ = _
    rw [show ((N : Int) % 18446744073709551616) = ((N % 2 ^ 64 : Nat) : Int) by omega, testBit_int, Nat.testBit_mod_two_pow]
    simp [h]
  · refine ref_bit_raw1 _ _ (i - 64) i w (by omega) (by omega) (by omega) (by omega) (by omega) (by omega) (by omega) _ ?_
    show _ = _
    rw [show ((N : Int) / 18446744073709551616) = ((N / 2 ^ 64 : Nat) : Int) by omega, testBit_int, Nat.testBit_div_two_pow]
    congr 1; omega

end Go.Proofs.Ytnajihlhcdedgaa

namespace Go.Proofs.Ytnajihlhcdedgaa
open Go.RowKit
set_option linter.unusedVariables false
set_option linter.unusedSimpArgs false
attribute [local simp] blkAt_setCell blkAt_alloc blkAt_drew Obj.put_cells

set_option maxRecDepth 100000 in
set_option maxHeartbeats 2000000 in
theorem ref_Mul_raw (f a0 a1 b0 b1 x0 x1 y0 y1 : Int) (o0 o1 d0 d1 : Nat → Int) (bt : Nat → Bool)
    (hA : Pure Try.prog 32 #[.int .i64 f, .agg #[.int .u64 a0, .int .u64 a1]] (.agg #[.int .u64 x0, .int .u64 x1]))
    (hB : Pure Try.prog 32 #[.int .i64 f, .agg #[.int .u64 b0, .int .u64 b1]] (.agg #[.int .u64 y0, .int .u64 y1]))
    (h128 : o0 128 = 0) (h128' : o1 128 = 0)
    (hD : Hid (∀ j, j < 128 → Pure Try.prog 35 #[.int .i64 f, .agg #[.int .u64 (o0 (j + 1)), .int .u64 (o1 (j + 1))], .agg #[.int .u64 (o0 (j + 1)), .int .u64 (o1 (j + 1))]] (.agg #[.int .u64 (d0 j), .int .u64 (d1 j)])))
    (hBit : Hid (∀ j : Nat, j < 128 → Pure Try.prog 116 #[.agg #[.int .u64 y0, .int .u64 y1], .int .i64 (j : Int)] (.bool (bt j))))
    (hS : Hid (∀ j, j < 128 → bt j = true → Pure Try.prog 35 #[.int .i64 f, .agg #[.int .u64 (d0 j), .int .u64 (d1 j)], .agg #[.int .u64 x0, .int .u64 x1]] (.agg #[.int .u64 (o0 j), .int .u64 (o1 j)])))
    (hN : Hid (∀ j, j < 128 → bt j = false → d0 j = o0 j ∧ d1 j = o1 j)) :
    Pure Try.prog 38 #[.int .i64 f, .agg #[.int .u64 a0, .int .u64 a1], .agg #[.int .u64 b0, .int .u64 b1]] (.agg #[.int .u64 (o0 0), .int .u64 (o1 0)]) := fun w => by
  have HA := Lib.hid hA
  have HB := Lib.hid hB
  clear hA hB
  have ne0_2 : w.heap.size ≠ w.heap.size + 1 + 1 := by omega
  have ne2_0 : w.heap.size + 1 + 1 ≠ w.heap.size := by omega
  go_enter Try.func38, Try.ntmps38
  go_wp2_with fail
  refine abs_world (fun W => Kept w W ∧ Blk W (w.heap.size) 28 #[.int .u64 a0, .int .u64 a1] ∧ Blk W (w.heap.size + 1) 28 #[.int .u64 b0, .int .u64 b1] ∧ Blk W (w.heap.size + 1 + 1) 28 #[.int .u64 0, .int .u64 0]) ?_ ?_
  · refine ⟨?_, ?_, ?_, ?_⟩
    · repeat (first | exact Kept.refl _ | (refine Kept.setCell ?_ (kept_side (by first | assumption | omega)) _) | apply Kept.alloc)
    · simp [Blk, *] <;> (intros; omega)
    · simp [Blk, *] <;> (intros; omega)
    · simp [Blk, *] <;> (intros; omega)
  rintro W1 ⟨kW1, BW1_0, BW1_1, BW1_2⟩
  have cW1_0_0 : W1.cell? ⟨w.heap.size, 0, none⟩ = some (.int .u64 a0) := BW1_0.cell 0 rfl
  have cW1_0_1 : W1.cell? ⟨w.heap.size, 1, none⟩ = some (.int .u64 a1) := BW1_0.cell 1 rfl
  have fW1_0 := BW1_0.free
  have cW1_1_0 : W1.cell? ⟨w.heap.size + 1, 0, none⟩ = some (.int .u64 b0) := BW1_1.cell 0 rfl
  have cW1_1_1 : W1.cell? ⟨w.heap.size + 1, 1, none⟩ = some (.int .u64 b1) := BW1_1.cell 1 rfl
  have fW1_1 := BW1_1.free
  have cW1_2_0 : W1.cell? ⟨w.heap.size + 1 + 1, 0, none⟩ = some (.int .u64 0) := BW1_2.cell 0 rfl
  have cW1_2_1 : W1.cell? ⟨w.heap.size + 1 + 1, 1, none⟩ = some (.int .u64 0) := BW1_2.cell 1 rfl
  have fW1_2 := BW1_2.free
  refine wp_region_calm 6 (by kernel_rfl) (by kernel_rfl) ?_
  simp only [List.take_succ_cons, List.take_zero, List.drop_succ_cons, List.drop_zero]
  repeat (first
    | (refine calm_skip rfl ?_; simp only [Act.put, List.setIfInBounds_toArray, List.set_cons_zero, List.set_cons_succ])
    | (refine calm_ex rfl ?_; apply Exists.intro; refine And.intro (fun w' hk => ?_) ?_; (focus (have q0 := hk.cell cW1_0_0; have q1 := hk.cell cW1_0_1; have q2 := hk.cell cW1_1_0; have q3 := hk.cell cW1_1_1; have q4 := hk.cell cW1_2_0; have q5 := hk.cell cW1_2_1; clear hk; go_simp; exact rfl)); simp only [Act.put, List.setIfInBounds_toArray, List.set_cons_zero, List.set_cons_succ])
    | (refine calm_step _ rfl (HA.out.call ?_) ?_; (focus (intro w'; go_simp; done)); simp only [Act.put, List.setIfInBounds_toArray, List.set_cons_zero, List.set_cons_succ])
    | (refine calm_step _ rfl (HB.out.call ?_) ?_; (focus (intro w'; go_simp; done)); simp only [Act.put, List.setIfInBounds_toArray, List.set_cons_zero, List.set_cons_succ]))
  refine calm_nil ?_
  intro W2 hkW2
  have kW2 := kW1.trans hkW2
  have BW2_0 := BW1_0.kept hkW2
  have BW2_1 := BW1_1.kept hkW2
  have BW2_2 := BW1_2.kept hkW2
  clear cW1_0_0 cW1_0_1 cW1_1_0 cW1_1_1 cW1_2_0 cW1_2_1 fW1_0 fW1_1 fW1_2 BW1_0 BW1_1 BW1_2 kW1 hkW2
  have cW2_0_0 : W2.cell? ⟨w.heap.size, 0, none⟩ = some (.int .u64 a0) := BW2_0.cell 0 rfl
  have cW2_0_1 : W2.cell? ⟨w.heap.size, 1, none⟩ = some (.int .u64 a1) := BW2_0.cell 1 rfl
  have fW2_0 := BW2_0.free
  have cW2_1_0 : W2.cell? ⟨w.heap.size + 1, 0, none⟩ = some (.int .u64 b0) := BW2_1.cell 0 rfl
  have cW2_1_1 : W2.cell? ⟨w.heap.size + 1, 1, none⟩ = some (.int .u64 b1) := BW2_1.cell 1 rfl
  have fW2_1 := BW2_1.free
  have cW2_2_0 : W2.cell? ⟨w.heap.size + 1 + 1, 0, none⟩ = some (.int .u64 0) := BW2_2.cell 0 rfl
  have cW2_2_1 : W2.cell? ⟨w.heap.size + 1 + 1, 1, none⟩ = some (.int .u64 0) := BW2_2.cell 1 rfl
  have fW2_2 := BW2_2.free
  obtain ⟨b7, hb7⟩ : ∃ b, W2.heap.size = b := ⟨_, rfl⟩
  have neb7_0 : w.heap.size ≠ b7 := by have := BW2_0.lt; omega
  have enb7_0 : b7 ≠ w.heap.size := neb7_0.symm
  have neb7_1 : w.heap.size + 1 ≠ b7 := by have := BW2_1.lt; omega
  have enb7_1 : b7 ≠ w.heap.size + 1 := neb7_1.symm
  have neb7_2 : w.heap.size + 1 + 1 ≠ b7 := by have := BW2_2.lt; omega
  have enb7_2 : b7 ≠ w.heap.size + 1 + 1 := neb7_2.symm
  have lob7 : w.heap.size ≤ b7 := hb7 ▸ kW2.size
  go_wp2_with fail
  refine abs_world (fun W => Kept w W ∧ Blk W (w.heap.size) 28 #[.int .u64 x0, .int .u64 x1] ∧ Blk W (w.heap.size + 1) 28 #[.int .u64 y0, .int .u64 y1] ∧ Blk W (w.heap.size + 1 + 1) 28 #[.int .u64 0, .int .u64 0] ∧ Blk W (b7) 28 #[.int .u64 (o0 128), .int .u64 (o1 128)]) ?_ ?_
  · refine ⟨?_, ?_, ?_, ?_, ?_⟩
    · repeat (first | exact kW2 | (refine Kept.setCell ?_ (kept_side (by first | assumption | omega)) _) | apply Kept.alloc)
    · simp [Blk, *] <;> (intros; omega)
    · simp [Blk, *] <;> (intros; omega)
    · simp [Blk, *] <;> (intros; omega)
    · simp [Blk, *] <;> (intros; omega)
  rintro W3 ⟨kW3, BW3_0, BW3_1, BW3_2, BW3_3⟩
  have cW3_0_0 : W3.cell? ⟨w.heap.size, 0, none⟩ = some (.int .u64 x0) := BW3_0.cell 0 rfl
  have cW3_0_1 : W3.cell? ⟨w.heap.size, 1, none⟩ = some (.int .u64 x1) := BW3_0.cell 1 rfl
  have fW3_0 := BW3_0.free
  have cW3_1_0 : W3.cell? ⟨w.heap.size + 1, 0, none⟩ = some (.int .u64 y0) := BW3_1.cell 0 rfl
  have cW3_1_1 : W3.cell? ⟨w.heap.size + 1, 1, none⟩ = some (.int .u64 y1) := BW3_1.cell 1 rfl
  have fW3_1 := BW3_1.free
  have cW3_2_0 : W3.cell? ⟨w.heap.size + 1 + 1, 0, none⟩ = some (.int .u64 0) := BW3_2.cell 0 rfl
  have cW3_2_1 : W3.cell? ⟨w.heap.size + 1 + 1, 1, none⟩ = some (.int .u64 0) := BW3_2.cell 1 rfl
  have fW3_2 := BW3_2.free
  have cW3_3_0 : W3.cell? ⟨b7, 0, none⟩ = some (.int .u64 (o0 128)) := BW3_3.cell 0 rfl
  have cW3_3_1 : W3.cell? ⟨b7, 1, none⟩ = some (.int .u64 (o1 128)) := BW3_3.cell 1 rfl
  have fW3_3 := BW3_3.free
  go_loopw [8] (fun t wr => ∃ k : Nat, k ≤ 128 ∧ t = .int .i64 ((k : Int) - 1) ∧ Kept w wr ∧ Blk wr (w.heap.size) 28 #[.int .u64 x0, .int .u64 x1] ∧ Blk wr (w.heap.size + 1) 28 #[.int .u64 y0, .int .u64 y1] ∧ Blk wr (w.heap.size + 1 + 1) 28 #[.int .u64 0, .int .u64 0] ∧ Blk wr (b7) 28 #[.int .u64 (o0 k), .int .u64 (o1 k)]) (fun t _ => (intOf t + 1).toNat)
  case atStart => exact ⟨128, Nat.le_refl _, rfl, kW3, BW3_0, BW3_1, BW3_2, BW3_3⟩
  case round =>
    clear cW3_0_0 cW3_0_1 cW3_1_0 cW3_1_1 cW3_2_0 cW3_2_1 cW3_3_0 cW3_3_1 fW3_0 fW3_1 fW3_2 fW3_3 BW3_0 BW3_1 BW3_2 BW3_3 kW3
    obtain ⟨k, hk, rfl, kwr, Bwr_0, Bwr_1, Bwr_2, Bwr_3⟩ := hrel
    cases k with
    | zero =>
      have cwr_0_0 : wr.cell? ⟨w.heap.size, 0, none⟩ = some (.int .u64 x0) := Bwr_0.cell 0 rfl
      have cwr_0_1 : wr.cell? ⟨w.heap.size, 1, none⟩ = some (.int .u64 x1) := Bwr_0.cell 1 rfl
      have fwr_0 := Bwr_0.free
      have cwr_1_0 : wr.cell? ⟨w.heap.size + 1, 0, none⟩ = some (.int .u64 y0) := Bwr_1.cell 0 rfl
      have cwr_1_1 : wr.cell? ⟨w.heap.size + 1, 1, none⟩ = some (.int .u64 y1) := Bwr_1.cell 1 rfl
      have fwr_1 := Bwr_1.free
      have cwr_2_0 : wr.cell? ⟨w.heap.size + 1 + 1, 0, none⟩ = some (.int .u64 0) := Bwr_2.cell 0 rfl
      have cwr_2_1 : wr.cell? ⟨w.heap.size + 1 + 1, 1, none⟩ = some (.int .u64 0) := Bwr_2.cell 1 rfl
      have fwr_2 := Bwr_2.free
      have cwr_3_0 : wr.cell? ⟨b7, 0, none⟩ = some (.int .u64 (o0 0)) := Bwr_3.cell 0 rfl
      have cwr_3_1 : wr.cell? ⟨b7, 1, none⟩ = some (.int .u64 (o1 0)) := Bwr_3.cell 1 rfl
      have fwr_3 := Bwr_3.free
      go_wp2
      refine bodyPost_ret (v := .agg #[.int .u64 (o0 0), .int .u64 (o1 0)]) (by simp [results, Try.results38, go_sem, *]) rfl ⟨rfl, ?_⟩
      repeat (first | exact kwr | (refine Kept.setCell ?_ (kept_side (by first | assumption | omega)) _) | apply Kept.alloc)
    | succ j =>
      have cwr_0_0 : wr.cell? ⟨w.heap.size, 0, none⟩ = some (.int .u64 x0) := Bwr_0.cell 0 rfl
      have cwr_0_1 : wr.cell? ⟨w.heap.size, 1, none⟩ = some (.int .u64 x1) := Bwr_0.cell 1 rfl
      have fwr_0 := Bwr_0.free
      have cwr_1_0 : wr.cell? ⟨w.heap.size + 1, 0, none⟩ = some (.int .u64 y0) := Bwr_1.cell 0 rfl
      have cwr_1_1 : wr.cell? ⟨w.heap.size + 1, 1, none⟩ = some (.int .u64 y1) := Bwr_1.cell 1 rfl
      have fwr_1 := Bwr_1.free
      have cwr_2_0 : wr.cell? ⟨w.heap.size + 1 + 1, 0, none⟩ = some (.int .u64 0) := Bwr_2.cell 0 rfl
      have cwr_2_1 : wr.cell? ⟨w.heap.size + 1 + 1, 1, none⟩ = some (.int .u64 0) := Bwr_2.cell 1 rfl
      have fwr_2 := Bwr_2.free
      have cwr_3_0 : wr.cell? ⟨b7, 0, none⟩ = some (.int .u64 (o0 (j + 1))) := Bwr_3.cell 0 rfl
      have cwr_3_1 : wr.cell? ⟨b7, 1, none⟩ = some (.int .u64 (o1 (j + 1))) := Bwr_3.cell 1 rfl
      have fwr_3 := Bwr_3.free
      rw [show ((j + 1 : Nat) : Int) - 1 = (j : Int) from by omega]
      have HD := Lib.hid (hD.out j (by omega))
      have HT := Lib.hid (hBit.out j (by omega))
      go_wp2_with fail
      refine (HD.out _).mono ?_
      rintro e W4 ⟨rfl, hkW4⟩
      have kW4 := kwr.trans hkW4
      have BW4_0 := Bwr_0.kept hkW4
      have BW4_1 := Bwr_1.kept hkW4
      have BW4_2 := Bwr_2.kept hkW4
      have BW4_3 := Bwr_3.kept hkW4
      clear cwr_0_0 cwr_0_1 cwr_1_0 cwr_1_1 cwr_2_0 cwr_2_1 cwr_3_0 cwr_3_1 fwr_0 fwr_1 fwr_2 fwr_3 Bwr_0 Bwr_1 Bwr_2 Bwr_3 kwr hkW4
      have cW4_0_0 : W4.cell? ⟨w.heap.size, 0, none⟩ = some (.int .u64 x0) := BW4_0.cell 0 rfl
      have cW4_0_1 : W4.cell? ⟨w.heap.size, 1, none⟩ = some (.int .u64 x1) := BW4_0.cell 1 rfl
      have fW4_0 := BW4_0.free
      have cW4_1_0 : W4.cell? ⟨w.heap.size + 1, 0, none⟩ = some (.int .u64 y0) := BW4_1.cell 0 rfl
      have cW4_1_1 : W4.cell? ⟨w.heap.size + 1, 1, none⟩ = some (.int .u64 y1) := BW4_1.cell 1 rfl
      have fW4_1 := BW4_1.free
      have cW4_2_0 : W4.cell? ⟨w.heap.size + 1 + 1, 0, none⟩ = some (.int .u64 0) := BW4_2.cell 0 rfl
      have cW4_2_1 : W4.cell? ⟨w.heap.size + 1 + 1, 1, none⟩ = some (.int .u64 0) := BW4_2.cell 1 rfl
      have fW4_2 := BW4_2.free
      have cW4_3_0 : W4.cell? ⟨b7, 0, none⟩ = some (.int .u64 (o0 (j + 1))) := BW4_3.cell 0 rfl
      have cW4_3_1 : W4.cell? ⟨b7, 1, none⟩ = some (.int .u64 (o1 (j + 1))) := BW4_3.cell 1 rfl
      have fW4_3 := BW4_3.free
      go_wp2_with fail
      refine abs_calls (fun W => Kept w W ∧ Blk W (w.heap.size) 28 #[.int .u64 x0, .int .u64 x1] ∧ Blk W (w.heap.size + 1) 28 #[.int .u64 y0, .int .u64 y1] ∧ Blk W (w.heap.size + 1 + 1) 28 #[.int .u64 0, .int .u64 0] ∧ Blk W (b7) 28 #[.int .u64 (d0 j), .int .u64 (d1 j)]) ?_ ?_
      · refine ⟨?_, ?_, ?_, ?_, ?_⟩
        · repeat (first | exact kW4 | (refine Kept.setCell ?_ (kept_side (by first | assumption | omega)) _) | apply Kept.alloc)
        · simp [Blk, *] <;> (intros; omega)
        · simp [Blk, *] <;> (intros; omega)
        · simp [Blk, *] <;> (intros; omega)
        · simp [Blk, *] <;> (intros; omega)
      rintro W5 ⟨kW5, BW5_0, BW5_1, BW5_2, BW5_3⟩
      have cW5_0_0 : W5.cell? ⟨w.heap.size, 0, none⟩ = some (.int .u64 x0) := BW5_0.cell 0 rfl
      have cW5_0_1 : W5.cell? ⟨w.heap.size, 1, none⟩ = some (.int .u64 x1) := BW5_0.cell 1 rfl
      have fW5_0 := BW5_0.free
      have cW5_1_0 : W5.cell? ⟨w.heap.size + 1, 0, none⟩ = some (.int .u64 y0) := BW5_1.cell 0 rfl
      have cW5_1_1 : W5.cell? ⟨w.heap.size + 1, 1, none⟩ = some (.int .u64 y1) := BW5_1.cell 1 rfl
      have fW5_1 := BW5_1.free
      have cW5_2_0 : W5.cell? ⟨w.heap.size + 1 + 1, 0, none⟩ = some (.int .u64 0) := BW5_2.cell 0 rfl
      have cW5_2_1 : W5.cell? ⟨w.heap.size + 1 + 1, 1, none⟩ = some (.int .u64 0) := BW5_2.cell 1 rfl
      have fW5_2 := BW5_2.free
      have cW5_3_0 : W5.cell? ⟨b7, 0, none⟩ = some (.int .u64 (d0 j)) := BW5_3.cell 0 rfl
      have cW5_3_1 : W5.cell? ⟨b7, 1, none⟩ = some (.int .u64 (d1 j)) := BW5_3.cell 1 rfl
      have fW5_3 := BW5_3.free
      cases hbj : bt j with
      | false =>
        rw [hbj] at HT
        refine (HT.out _).mono ?_
        rintro e W6 ⟨rfl, hkW6⟩
        have kW6 := kW5.trans hkW6
        have BW6_0 := BW5_0.kept hkW6
        have BW6_1 := BW5_1.kept hkW6
        have BW6_2 := BW5_2.kept hkW6
        have BW6_3 := BW5_3.kept hkW6
        clear cW5_0_0 cW5_0_1 cW5_1_0 cW5_1_1 cW5_2_0 cW5_2_1 cW5_3_0 cW5_3_1 fW5_0 fW5_1 fW5_2 fW5_3 BW5_0 BW5_1 BW5_2 BW5_3 kW5 hkW6
        have cW6_0_0 : W6.cell? ⟨w.heap.size, 0, none⟩ = some (.int .u64 x0) := BW6_0.cell 0 rfl
        have cW6_0_1 : W6.cell? ⟨w.heap.size, 1, none⟩ = some (.int .u64 x1) := BW6_0.cell 1 rfl
        have fW6_0 := BW6_0.free
        have cW6_1_0 : W6.cell? ⟨w.heap.size + 1, 0, none⟩ = some (.int .u64 y0) := BW6_1.cell 0 rfl
        have cW6_1_1 : W6.cell? ⟨w.heap.size + 1, 1, none⟩ = some (.int .u64 y1) := BW6_1.cell 1 rfl
        have fW6_1 := BW6_1.free
        have cW6_2_0 : W6.cell? ⟨w.heap.size + 1 + 1, 0, none⟩ = some (.int .u64 0) := BW6_2.cell 0 rfl
        have cW6_2_1 : W6.cell? ⟨w.heap.size + 1 + 1, 1, none⟩ = some (.int .u64 0) := BW6_2.cell 1 rfl
        have fW6_2 := BW6_2.free
        have cW6_3_0 : W6.cell? ⟨b7, 0, none⟩ = some (.int .u64 (d0 j)) := BW6_3.cell 0 rfl
        have cW6_3_1 : W6.cell? ⟨b7, 1, none⟩ = some (.int .u64 (d1 j)) := BW6_3.cell 1 rfl
        have fW6_3 := BW6_3.free
        go_wp2_with fail
        go_roundw
        case rel => exact ⟨j, by omega, rfl, kW6, BW6_0, BW6_1, BW6_2, by rw [← (hN.out j (by omega) hbj).1, ← (hN.out j (by omega) hbj).2]; exact BW6_3⟩
        case measure => (simp [intOf]) <;> omega
      | true =>
        rw [hbj] at HT
        have HS := Lib.hid (hS.out j (by omega) hbj)
        refine (HT.out _).mono ?_
        rintro e W6 ⟨rfl, hkW6⟩
        have kW6 := kW5.trans hkW6
        have BW6_0 := BW5_0.kept hkW6
        have BW6_1 := BW5_1.kept hkW6
        have BW6_2 := BW5_2.kept hkW6
        have BW6_3 := BW5_3.kept hkW6
        clear cW5_0_0 cW5_0_1 cW5_1_0 cW5_1_1 cW5_2_0 cW5_2_1 cW5_3_0 cW5_3_1 fW5_0 fW5_1 fW5_2 fW5_3 BW5_0 BW5_1 BW5_2 BW5_3 kW5 hkW6
        have cW6_0_0 : W6.cell? ⟨w.heap.size, 0, none⟩ = some (.int .u64 x0) := BW6_0.cell 0 rfl
        have cW6_0_1 : W6.cell? ⟨w.heap.size, 1, none⟩ = some (.int .u64 x1) := BW6_0.cell 1 rfl
        have fW6_0 := BW6_0.free
        have cW6_1_0 : W6.cell? ⟨w.heap.size + 1, 0, none⟩ = some (.int .u64 y0) := BW6_1.cell 0 rfl
        have cW6_1_1 : W6.cell? ⟨w.heap.size + 1, 1, none⟩ = some (.int .u64 y1) := BW6_1.cell 1 rfl
        have fW6_1 := BW6_1.free
        have cW6_2_0 : W6.cell? ⟨w.heap.size + 1 + 1, 0, none⟩ = some (.int .u64 0) := BW6_2.cell 0 rfl
        have cW6_2_1 : W6.cell? ⟨w.heap.size + 1 + 1, 1, none⟩ = some (.int .u64 0) := BW6_2.cell 1 rfl
        have fW6_2 := BW6_2.free
        have cW6_3_0 : W6.cell? ⟨b7, 0, none⟩ = some (.int .u64 (d0 j)) := BW6_3.cell 0 rfl
        have cW6_3_1 : W6.cell? ⟨b7, 1, none⟩ = some (.int .u64 (d1 j)) := BW6_3.cell 1 rfl
        have fW6_3 := BW6_3.free
        go_wp2_with fail
        refine (HS.out _).mono ?_
        rintro e W7 ⟨rfl, hkW7⟩
        have kW7 := kW6.trans hkW7
        have BW7_0 := BW6_0.kept hkW7
        have BW7_1 := BW6_1.kept hkW7
        have BW7_2 := BW6_2.kept hkW7
        have BW7_3 := BW6_3.kept hkW7
        clear cW6_0_0 cW6_0_1 cW6_1_0 cW6_1_1 cW6_2_0 cW6_2_1 cW6_3_0 cW6_3_1 fW6_0 fW6_1 fW6_2 fW6_3 BW6_0 BW6_1 BW6_2 BW6_3 kW6 hkW7
        have cW7_0_0 : W7.cell? ⟨w.heap.size, 0, none⟩ = some (.int .u64 x0) := BW7_0.cell 0 rfl
        have cW7_0_1 : W7.cell? ⟨w.heap.size, 1, none⟩ = some (.int .u64 x1) := BW7_0.cell 1 rfl
        have fW7_0 := BW7_0.free
        have cW7_1_0 : W7.cell? ⟨w.heap.size + 1, 0, none⟩ = some (.int .u64 y0) := BW7_1.cell 0 rfl
        have cW7_1_1 : W7.cell? ⟨w.heap.size + 1, 1, none⟩ = some (.int .u64 y1) := BW7_1.cell 1 rfl
        have fW7_1 := BW7_1.free
        have cW7_2_0 : W7.cell? ⟨w.heap.size + 1 + 1, 0, none⟩ = some (.int .u64 0) := BW7_2.cell 0 rfl
        have cW7_2_1 : W7.cell? ⟨w.heap.size + 1 + 1, 1, none⟩ = some (.int .u64 0) := BW7_2.cell 1 rfl
        have fW7_2 := BW7_2.free
        have cW7_3_0 : W7.cell? ⟨b7, 0, none⟩ = some (.int .u64 (d0 j)) := BW7_3.cell 0 rfl
        have cW7_3_1 : W7.cell? ⟨b7, 1, none⟩ = some (.int .u64 (d1 j)) := BW7_3.cell 1 rfl
        have fW7_3 := BW7_3.free
        go_wp2_with fail
        go_roundw
        case rel =>
          refine ⟨j, by omega, rfl, ?_, ?_, ?_, ?_, ?_⟩
          · repeat (first | exact kW7 | (refine Kept.setCell ?_ (kept_side (by first | assumption | omega)) _) | apply Kept.alloc)
          · simp [Blk, *] <;> (intros; omega)
          · simp [Blk, *] <;> (intros; omega)
          · simp [Blk, *] <;> (intros; omega)
          · simp [Blk, *] <;> (intros; omega)
        case measure => (simp [intOf]) <;> omega

set_option maxRecDepth 100000 in
set_option maxHeartbeats 2000000 in
theorem ref_Pow_raw (f a0 a1 b0 b1 : Int) (o0 o1 d0 d1 : Nat → Int) (bt : Nat → Bool)
    (h128 : o0 128 = 1) (h128' : o1 128 = 0)
    (hD : Hid (∀ j, j < 128 → Pure Try.prog 38 #[.int .i64 f, .agg #[.int .u64 (o0 (j + 1)), .int .u64 (o1 (j + 1))], .agg #[.int .u64 (o0 (j + 1)), .int .u64 (o1 (j + 1))]] (.agg #[.int .u64 (d0 j), .int .u64 (d1 j)])))
    (hBit : Hid (∀ j : Nat, j < 128 → Pure Try.prog 116 #[.agg #[.int .u64 b0, .int .u64 b1], .int .i64 (j : Int)] (.bool (bt j))))
    (hS : Hid (∀ j, j < 128 → bt j = true → Pure Try.prog 38 #[.int .i64 f, .agg #[.int .u64 (d0 j), .int .u64 (d1 j)], .agg #[.int .u64 a0, .int .u64 a1]] (.agg #[.int .u64 (o0 j), .int .u64 (o1 j)])))
    (hN : Hid (∀ j, j < 128 → bt j = false → d0 j = o0 j ∧ d1 j = o1 j)) :
    Pure Try.prog 40 #[.int .i64 f, .agg #[.int .u64 a0, .int .u64 a1], .agg #[.int .u64 b0, .int .u64 b1]] (.agg #[.int .u64 (o0 0), .int .u64 (o1 0)]) := fun w => by
  have ne0_2 : w.heap.size ≠ w.heap.size + 1 + 1 := by omega
  have ne2_0 : w.heap.size + 1 + 1 ≠ w.heap.size := by omega
  have ne0_3 : w.heap.size ≠ w.heap.size + 1 + 1 + 1 := by omega
  have ne3_0 : w.heap.size + 1 + 1 + 1 ≠ w.heap.size := by omega
  have ne1_3 : w.heap.size + 1 ≠ w.heap.size + 1 + 1 + 1 := by omega
  have ne3_1 : w.heap.size + 1 + 1 + 1 ≠ w.heap.size + 1 := by omega
  go_enter Try.func40, Try.ntmps40
  go_wp2_with fail
  refine abs_world (fun W => Kept w W ∧ Blk W (w.heap.size) 28 #[.int .u64 a0, .int .u64 a1] ∧ Blk W (w.heap.size + 1) 28 #[.int .u64 b0, .int .u64 b1] ∧ Blk W (w.heap.size + 1 + 1) 28 #[.int .u64 0, .int .u64 0] ∧ Blk W (w.heap.size + 1 + 1 + 1) 28 #[.int .u64 (o0 128), .int .u64 (o1 128)]) ?_ ?_
  · refine ⟨?_, ?_, ?_, ?_, ?_⟩
    · repeat (first | exact Kept.refl _ | (refine Kept.setCell ?_ (kept_side (by first | assumption | omega)) _) | apply Kept.alloc)
    · simp [Blk, *] <;> (intros; omega)
    · simp [Blk, *] <;> (intros; omega)
    · simp [Blk, *] <;> (intros; omega)
    · simp [Blk, *] <;> (intros; omega)
  rintro W1 ⟨kW1, BW1_0, BW1_1, BW1_2, BW1_3⟩
  have cW1_0_0 : W1.cell? ⟨w.heap.size, 0, none⟩ = some (.int .u64 a0) := BW1_0.cell 0 rfl
  have cW1_0_1 : W1.cell? ⟨w.heap.size, 1, none⟩ = some (.int .u64 a1) := BW1_0.cell 1 rfl
  have fW1_0 := BW1_0.free
  have cW1_1_0 : W1.cell? ⟨w.heap.size + 1, 0, none⟩ = some (.int .u64 b0) := BW1_1.cell 0 rfl
  have cW1_1_1 : W1.cell? ⟨w.heap.size + 1, 1, none⟩ = some (.int .u64 b1) := BW1_1.cell 1 rfl
  have fW1_1 := BW1_1.free
  have cW1_2_0 : W1.cell? ⟨w.heap.size + 1 + 1, 0, none⟩ = some (.int .u64 0) := BW1_2.cell 0 rfl
  have cW1_2_1 : W1.cell? ⟨w.heap.size + 1 + 1, 1, none⟩ = some (.int .u64 0) := BW1_2.cell 1 rfl
  have fW1_2 := BW1_2.free
  have cW1_3_0 : W1.cell? ⟨w.heap.size + 1 + 1 + 1, 0, none⟩ = some (.int .u64 (o0 128)) := BW1_3.cell 0 rfl
  have cW1_3_1 : W1.cell? ⟨w.heap.size + 1 + 1 + 1, 1, none⟩ = some (.int .u64 (o1 128)) := BW1_3.cell 1 rfl
  have fW1_3 := BW1_3.free
  go_loopw [8] (fun t wr => ∃ k : Nat, k ≤ 128 ∧ t = .int .i64 ((k : Int) - 1) ∧ Kept w wr ∧ Blk wr (w.heap.size) 28 #[.int .u64 a0, .int .u64 a1] ∧ Blk wr (w.heap.size + 1) 28 #[.int .u64 b0, .int .u64 b1] ∧ Blk wr (w.heap.size + 1 + 1) 28 #[.int .u64 0, .int .u64 0] ∧ Blk wr (w.heap.size + 1 + 1 + 1) 28 #[.int .u64 (o0 k), .int .u64 (o1 k)]) (fun t _ => (intOf t + 1).toNat)
  case atStart => exact ⟨128, Nat.le_refl _, rfl, kW1, BW1_0, BW1_1, BW1_2, BW1_3⟩
  case round =>
    clear cW1_0_0 cW1_0_1 cW1_1_0 cW1_1_1 cW1_2_0 cW1_2_1 cW1_3_0 cW1_3_1 fW1_0 fW1_1 fW1_2 fW1_3 BW1_0 BW1_1 BW1_2 BW1_3 kW1
    obtain ⟨k, hk, rfl, kwr, Bwr_0, Bwr_1, Bwr_2, Bwr_3⟩ := hrel
    cases k with
    | zero =>
      have cwr_0_0 : wr.cell? ⟨w.heap.size, 0, none⟩ = some (.int .u64 a0) := Bwr_0.cell 0 rfl
      have cwr_0_1 : wr.cell? ⟨w.heap.size, 1, none⟩ = some (.int .u64 a1) := Bwr_0.cell 1 rfl
      have fwr_0 := Bwr_0.free
      have cwr_1_0 : wr.cell? ⟨w.heap.size + 1, 0, none⟩ = some (.int .u64 b0) := Bwr_1.cell 0 rfl
      have cwr_1_1 : wr.cell? ⟨w.heap.size + 1, 1, none⟩ = some (.int .u64 b1) := Bwr_1.cell 1 rfl
      have fwr_1 := Bwr_1.free
      have cwr_2_0 : wr.cell? ⟨w.heap.size + 1 + 1, 0, none⟩ = some (.int .u64 0) := Bwr_2.cell 0 rfl
      have cwr_2_1 : wr.cell? ⟨w.heap.size + 1 + 1, 1, none⟩ = some (.int .u64 0) := Bwr_2.cell 1 rfl
      have fwr_2 := Bwr_2.free
      have cwr_3_0 : wr.cell? ⟨w.heap.size + 1 + 1 + 1, 0, none⟩ = some (.int .u64 (o0 0)) := Bwr_3.cell 0 rfl
      have cwr_3_1 : wr.cell? ⟨w.heap.size + 1 + 1 + 1, 1, none⟩ = some (.int .u64 (o1 0)) := Bwr_3.cell 1 rfl
      have fwr_3 := Bwr_3.free
      go_wp2
      refine bodyPost_ret (v := .agg #[.int .u64 (o0 0), .int .u64 (o1 0)]) (by simp [results, Try.results40, go_sem, *]) rfl ⟨rfl, ?_⟩
      repeat (first | exact kwr | (refine Kept.setCell ?_ (kept_side (by first | assumption | omega)) _) | apply Kept.alloc)
    | succ j =>
      have cwr_0_0 : wr.cell? ⟨w.heap.size, 0, none⟩ = some (.int .u64 a0) := Bwr_0.cell 0 rfl
      have cwr_0_1 : wr.cell? ⟨w.heap.size, 1, none⟩ = some (.int .u64 a1) := Bwr_0.cell 1 rfl
      have fwr_0 := Bwr_0.free
      have cwr_1_0 : wr.cell? ⟨w.heap.size + 1, 0, none⟩ = some (.int .u64 b0) := Bwr_1.cell 0 rfl
      have cwr_1_1 : wr.cell? ⟨w.heap.size + 1, 1, none⟩ = some (.int .u64 b1) := Bwr_1.cell 1 rfl
      have fwr_1 := Bwr_1.free
      have cwr_2_0 : wr.cell? ⟨w.heap.size + 1 + 1, 0, none⟩ = some (.int .u64 0) := Bwr_2.cell 0 rfl
      have cwr_2_1 : wr.cell? ⟨w.heap.size + 1 + 1, 1, none⟩ = some (.int .u64 0) := Bwr_2.cell 1 rfl
      have fwr_2 := Bwr_2.free
      have cwr_3_0 : wr.cell? ⟨w.heap.size + 1 + 1 + 1, 0, none⟩ = some (.int .u64 (o0 (j + 1))) := Bwr_3.cell 0 rfl
      have cwr_3_1 : wr.cell? ⟨w.heap.size + 1 + 1 + 1, 1, none⟩ = some (.int .u64 (o1 (j + 1))) := Bwr_3.cell 1 rfl
      have fwr_3 := Bwr_3.free
      rw [show ((j + 1 : Nat) : Int) - 1 = (j : Int) from by omega]
      have HD := Lib.hid (hD.out j (by omega))
      have HT := Lib.hid (hBit.out j (by omega))
      go_wp2_with fail
      refine (HD.out _).mono ?_
      rintro e W2 ⟨rfl, hkW2⟩
      have kW2 := kwr.trans hkW2
      have BW2_0 := Bwr_0.kept hkW2
      have BW2_1 := Bwr_1.kept hkW2
      have BW2_2 := Bwr_2.kept hkW2
      have BW2_3 := Bwr_3.kept hkW2
      clear cwr_0_0 cwr_0_1 cwr_1_0 cwr_1_1 cwr_2_0 cwr_2_1 cwr_3_0 cwr_3_1 fwr_0 fwr_1 fwr_2 fwr_3 Bwr_0 Bwr_1 Bwr_2 Bwr_3 kwr hkW2
      have cW2_0_0 : W2.cell? ⟨w.heap.size, 0, none⟩ = some (.int .u64 a0) := BW2_0.cell 0 rfl
      have cW2_0_1 : W2.cell? ⟨w.heap.size, 1, none⟩ = some (.int .u64 a1) := BW2_0.cell 1 rfl
      have fW2_0 := BW2_0.free
      have cW2_1_0 : W2.cell? ⟨w.heap.size + 1, 0, none⟩ = some (.int .u64 b0) := BW2_1.cell 0 rfl
      have cW2_1_1 : W2.cell? ⟨w.heap.size + 1, 1, none⟩ = some (.int .u64 b1) := BW2_1.cell 1 rfl
      have fW2_1 := BW2_1.free
      have cW2_2_0 : W2.cell? ⟨w.heap.size + 1 + 1, 0, none⟩ = some (.int .u64 0) := BW2_2.cell 0 rfl
      have cW2_2_1 : W2.cell? ⟨w.heap.size + 1 + 1, 1, none⟩ = some (.int .u64 0) := BW2_2.cell 1 rfl
      have fW2_2 := BW2_2.free
      have cW2_3_0 : W2.cell? ⟨w.heap.size + 1 + 1 + 1, 0, none⟩ = some (.int .u64 (o0 (j + 1))) := BW2_3.cell 0 rfl
      have cW2_3_1 : W2.cell? ⟨w.heap.size + 1 + 1 + 1, 1, none⟩ = some (.int .u64 (o1 (j + 1))) := BW2_3.cell 1 rfl
      have fW2_3 := BW2_3.free
      go_wp2_with fail
      refine abs_calls (fun W => Kept w W ∧ Blk W (w.heap.size) 28 #[.int .u64 a0, .int .u64 a1] ∧ Blk W (w.heap.size + 1) 28 #[.int .u64 b0, .int .u64 b1] ∧ Blk W (w.heap.size + 1 + 1) 28 #[.int .u64 0, .int .u64 0] ∧ Blk W (w.heap.size + 1 + 1 + 1) 28 #[.int .u64 (d0 j), .int .u64 (d1 j)]) ?_ ?_
      · refine ⟨?_, ?_, ?_, ?_, ?_⟩
        · repeat (first | exact kW2 | (refine Kept.setCell ?_ (kept_side (by first | assumption | omega)) _) | apply Kept.alloc)
        · simp [Blk, *] <;> (intros; omega)
        · simp [Blk, *] <;> (intros; omega)
        · simp [Blk, *] <;> (intros; omega)
        · simp [Blk, *] <;> (intros; omega)
      rintro W3 ⟨kW3, BW3_0, BW3_1, BW3_2, BW3_3⟩
      have cW3_0_0 : W3.cell? ⟨w.heap.size, 0, none⟩ = some (.int .u64 a0) := BW3_0.cell 0 rfl
      have cW3_0_1 : W3.cell? ⟨w.heap.size, 1, none⟩ = some (.int .u64 a1) := BW3_0.cell 1 rfl
      have fW3_0 := BW3_0.free
      have cW3_1_0 : W3.cell? ⟨w.heap.size + 1, 0, none⟩ = some (.int .u64 b0) := BW3_1.cell 0 rfl
      have cW3_1_1 : W3.cell? ⟨w.heap.size + 1, 1, none⟩ = some (.int .u64 b1) := BW3_1.cell 1 rfl
      have fW3_1 := BW3_1.free
      have cW3_2_0 : W3.cell? ⟨w.heap.size + 1 + 1, 0, none⟩ = some (.int .u64 0) := BW3_2.cell 0 rfl
      have cW3_2_1 : W3.cell? ⟨w.heap.size + 1 + 1, 1, none⟩ = some (.int .u64 0) := BW3_2.cell 1 rfl
      have fW3_2 := BW3_2.free
      have cW3_3_0 : W3.cell? ⟨w.heap.size + 1 + 1 + 1, 0, none⟩ = some (.int .u64 (d0 j)) := BW3_3.cell 0 rfl
      have cW3_3_1 : W3.cell? ⟨w.heap.size + 1 + 1 + 1, 1, none⟩ = some (.int .u64 (d1 j)) := BW3_3.cell 1 rfl
      have fW3_3 := BW3_3.free
      cases hbj : bt j with
      | false =>
        rw [hbj] at HT
        refine (HT.out _).mono ?_
        rintro e W4 ⟨rfl, hkW4⟩
        have kW4 := kW3.trans hkW4
        have BW4_0 := BW3_0.kept hkW4
        have BW4_1 := BW3_1.kept hkW4
        have BW4_2 := BW3_2.kept hkW4
        have BW4_3 := BW3_3.kept hkW4
        clear cW3_0_0 cW3_0_1 cW3_1_0 cW3_1_1 cW3_2_0 cW3_2_1 cW3_3_0 cW3_3_1 fW3_0 fW3_1 fW3_2 fW3_3 BW3_0 BW3_1 BW3_2 BW3_3 kW3 hkW4
        have cW4_0_0 : W4.cell? ⟨w.heap.size, 0, none⟩ = some (.int .u64 a0) := BW4_0.cell 0 rfl
        have cW4_0_1 : W4.cell? ⟨w.heap.size, 1, none⟩ = some (.int .u64 a1) := BW4_0.cell 1 rfl
        have fW4_0 := BW4_0.free
        have cW4_1_0 : W4.cell? ⟨w.heap.size + 1, 0, none⟩ = some (.int .u64 b0) := BW4_1.cell 0 rfl
        have cW4_1_1 : W4.cell? ⟨w.heap.size + 1, 1, none⟩ = some (.int .u64 b1) := BW4_1.cell 1 rfl
        have fW4_1 := BW4_1.free
        have cW4_2_0 : W4.cell? ⟨w.heap.size + 1 + 1, 0, none⟩ = some (.int .u64 0) := BW4_2.cell 0 rfl
        have cW4_2_1 : W4.cell? ⟨w.heap.size + 1 + 1, 1, none⟩ = some (.int .u64 0) := BW4_2.cell 1 rfl
        have fW4_2 := BW4_2.free
        have cW4_3_0 : W4.cell? ⟨w.heap.size + 1 + 1 + 1, 0, none⟩ = some (.int .u64 (d0 j)) := BW4_3.cell 0 rfl
        have cW4_3_1 : W4.cell? ⟨w.heap.size + 1 + 1 + 1, 1, none⟩ = some (.int .u64 (d1 j)) := BW4_3.cell 1 rfl
        have fW4_3 := BW4_3.free
        go_wp2_with fail
        go_roundw
        case rel => exact ⟨j, by omega, rfl, kW4, BW4_0, BW4_1, BW4_2, by rw [← (hN.out j (by omega) hbj).1, ← (hN.out j (by omega) hbj).2]; exact BW4_3⟩
        case measure => (simp [intOf]) <;> omega
      | true =>
        rw [hbj] at HT
        have HS := Lib.hid (hS.out j (by omega) hbj)
        refine (HT.out _).mono ?_
        rintro e W4 ⟨rfl, hkW4⟩
        have kW4 := kW3.trans hkW4
        have BW4_0 := BW3_0.kept hkW4
        have BW4_1 := BW3_1.kept hkW4
        have BW4_2 := BW3_2.kept hkW4
        have BW4_3 := BW3_3.kept hkW4
        clear cW3_0_0 cW3_0_1 cW3_1_0 cW3_1_1 cW3_2_0 cW3_2_1 cW3_3_0 cW3_3_1 fW3_0 fW3_1 fW3_2 fW3_3 BW3_0 BW3_1 BW3_2 BW3_3 kW3 hkW4
        have cW4_0_0 : W4.cell? ⟨w.heap.size, 0, none⟩ = some (.int .u64 a0) := BW4_0.cell 0 rfl
        have cW4_0_1 : W4.cell? ⟨w.heap.size, 1, none⟩ = some (.int .u64 a1) := BW4_0.cell 1 rfl
        have fW4_0 := BW4_0.free
        have cW4_1_0 : W4.cell? ⟨w.heap.size + 1, 0, none⟩ = some (.int .u64 b0) := BW4_1.cell 0 rfl
        have cW4_1_1 : W4.cell? ⟨w.heap.size + 1, 1, none⟩ = some (.int .u64 b1) := BW4_1.cell 1 rfl
        have fW4_1 := BW4_1.free
        have cW4_2_0 : W4.cell? ⟨w.heap.size + 1 + 1, 0, none⟩ = some (.int .u64 0) := BW4_2.cell 0 rfl
        have cW4_2_1 : W4.cell? ⟨w.heap.size + 1 + 1, 1, none⟩ = some (.int .u64 0) := BW4_2.cell 1 rfl
        have fW4_2 := BW4_2.free
        have cW4_3_0 : W4.cell? ⟨w.heap.size + 1 + 1 + 1, 0, none⟩ = some (.int .u64 (d0 j)) := BW4_3.cell 0 rfl
        have cW4_3_1 : W4.cell? ⟨w.heap.size + 1 + 1 + 1, 1, none⟩ = some (.int .u64 (d1 j)) := BW4_3.cell 1 rfl
        have fW4_3 := BW4_3.free
        go_wp2_with fail
        refine (HS.out _).mono ?_
        rintro e W5 ⟨rfl, hkW5⟩
        have kW5 := kW4.trans hkW5
        have BW5_0 := BW4_0.kept hkW5
        have BW5_1 := BW4_1.kept hkW5
        have BW5_2 := BW4_2.kept hkW5
        have BW5_3 := BW4_3.kept hkW5
        clear cW4_0_0 cW4_0_1 cW4_1_0 cW4_1_1 cW4_2_0 cW4_2_1 cW4_3_0 cW4_3_1 fW4_0 fW4_1 fW4_2 fW4_3 BW4_0 BW4_1 BW4_2 BW4_3 kW4 hkW5
        have cW5_0_0 : W5.cell? ⟨w.heap.size, 0, none⟩ = some (.int .u64 a0) := BW5_0.cell 0 rfl
        have cW5_0_1 : W5.cell? ⟨w.heap.size, 1, none⟩ = some (.int .u64 a1) := BW5_0.cell 1 rfl
        have fW5_0 := BW5_0.free
        have cW5_1_0 : W5.cell? ⟨w.heap.size + 1, 0, none⟩ = some (.int .u64 b0) := BW5_1.cell 0 rfl
        have cW5_1_1 : W5.cell? ⟨w.heap.size + 1, 1, none⟩ = some (.int .u64 b1) := BW5_1.cell 1 rfl
        have fW5_1 := BW5_1.free
        have cW5_2_0 : W5.cell? ⟨w.heap.size + 1 + 1, 0, none⟩ = some (.int .u64 0) := BW5_2.cell 0 rfl
        have cW5_2_1 : W5.cell? ⟨w.heap.size + 1 + 1, 1, none⟩ = some (.int .u64 0) := BW5_2.cell 1 rfl
        have fW5_2 := BW5_2.free
        have cW5_3_0 : W5.cell? ⟨w.heap.size + 1 + 1 + 1, 0, none⟩ = some (.int .u64 (d0 j)) := BW5_3.cell 0 rfl
        have cW5_3_1 : W5.cell? ⟨w.heap.size + 1 + 1 + 1, 1, none⟩ = some (.int .u64 (d1 j)) := BW5_3.cell 1 rfl
        have fW5_3 := BW5_3.free
        go_wp2_with fail
        go_roundw
        case rel =>
          refine ⟨j, by omega, rfl, ?_, ?_, ?_, ?_, ?_⟩
          · repeat (first | exact kW5 | (refine Kept.setCell ?_ (kept_side (by first | assumption | omega)) _) | apply Kept.alloc)
          · simp [Blk, *] <;> (intros; omega)
          · simp [Blk, *] <;> (intros; omega)
          · simp [Blk, *] <;> (intros; omega)
          · simp [Blk, *] <;> (intros; omega)
        case measure => (simp [intOf]) <;> omega

/-- How far doubling and adding has come: the high bits of y have been taken in, k are left. -/
def mulAt (f x y : Int) (k : Nat) : Int := (x * (y / 2 ^ k)) % rP f
def mulTw (f x y : Int) (j : Nat) : Int := (mulAt f x y (j + 1) + mulAt f x y (j + 1)) % rP f
theorem bit_cases (y : Int) (j : Nat) (h : 0 ≤ y) : y / 2 ^ j = 2 * (y / 2 ^ (j + 1)) + y / 2 ^ j % 2 := by
  rw [div_pow_succ]; omega

theorem ref_Mul {f a b : Int} (hf : isF f) (ha : is128 a) (hb : is128 b) : Pure Try.prog 38 #[.int .i64 f, E a, E b] (E ((rOf f a * rOf f b) % rP f)) := by
  have hA := ref_Of hf ha
  have hB := ref_Of hf hb
  have hx := is128_rOf f a
  have hy := is128_rOf f b
  have x0 := rOf_lo f a
  have x1 := rOf_lt f a
  have y0 := rOf_lo f b
  generalize rOf f a = X at *
  generalize rOf f b = Y at *
  have pp := rP_pos f
  have e128 : Y / 2 ^ 128 = 0 := by unfold is128 at hy; exact Int.ediv_eq_zero_of_lt y0 (by omega)
  have em : ∀ k, is128 (mulAt f X Y k) := fun k => is128_emod f _
  have ed : ∀ k, is128 (mulTw f X Y k) := fun k => is128_emod f _
  have o128 : mulAt f X Y 128 = 0 := by unfold mulAt; rw [e128, Int.mul_zero, Int.zero_emod]
  have key := ref_Mul_raw f _ _ _ _ _ _ _ _ (fun k => mulAt f X Y k % 18446744073709551616) (fun k => mulAt f X Y k / 18446744073709551616) (fun k => mulTw f X Y k % 18446744073709551616) (fun k => mulTw f X Y k / 18446744073709551616) (fun j => Y / 2 ^ j % 2 == 1)
    hA hB (by show mulAt f X Y 128 % _ = 0; rw [o128]; rfl) (by show mulAt f X Y 128 / _ = 0; rw [o128]; rfl) ?_ ?_ ?_ ?_
  · have e0 : mulAt f X Y 0 = X * Y % rP f := by unfold mulAt; simp
    rw [← e0]; exact key
  · intro j hj
    have h := ref_Add hf (em (j + 1)) (em (j + 1))
    rw [show rOf f (mulAt f X Y (j + 1)) = mulAt f X Y (j + 1) from rOf_emod f _] at h
    exact h
  · intro j hj
    exact ref_bit hy j hj
  · intro j hj hbt
    have h := ref_Add hf (ed j) hx
    rw [show rOf f (mulTw f X Y j) = mulTw f X Y j from rOf_emod f _, rOf_of_lt x0 x1] at h
    have e : (mulTw f X Y j + X) % rP f = mulAt f X Y j := by
      have hb1 : Y / 2 ^ j % 2 = 1 := by simpa using hbt
      unfold mulTw mulAt
      rw [Int.emod_add_emod, Int.add_assoc, Int.emod_add_emod, Int.add_comm (X * (Y / 2 ^ (j + 1)) % rP f), ← Int.add_assoc, Int.add_emod_emod]
      rw [bit_cases Y j y0, hb1, Int.mul_add, Int.mul_one, Int.two_mul, Int.mul_add]
      congr 1; omega
    rw [e] at h
    exact h
  · intro j hj hbt
    have hb0 : Y / 2 ^ j % 2 = 0 := by
      have : Y / 2 ^ j % 2 ≠ 1 := by simpa using hbt
      omega
    have e : mulTw f X Y j = mulAt f X Y j := by
      unfold mulTw mulAt
      rw [← Int.add_emod, bit_cases Y j y0, hb0, Int.add_zero, Int.two_mul, Int.mul_add]
    exact ⟨by rw [e], by rw [e]⟩

def powAt (f x : Int) (n : Nat) (k : Nat) : Int := (x ^ (n / 2 ^ k)) % rP f
def powTw (f x : Int) (n : Nat) (j : Nat) : Int := (powAt f x n (j + 1) * powAt f x n (j + 1)) % rP f

theorem ref_Pow {f a : Int} {n : Nat} (hf : isF f) (ha : is128 a) (hn : is128 n) : Pure Try.prog 40 #[.int .i64 f, E a, E n] (E ((rOf f a ^ n) % rP f)) := by
  have em : ∀ k, is128 (powAt f (rOf f a) n k) := fun k => is128_emod f _
  have ed : ∀ k, is128 (powTw f (rOf f a) n k) := fun k => is128_emod f _
  have e128 : n / 2 ^ 128 = 0 := by unfold is128 at hn; exact Nat.div_eq_of_lt (by omega)
  have hp1 : (1 : Int) % rP f = 1 := by rcases hf with rfl | rfl <;> rfl
  have one : powAt f (rOf f a) n 128 = 1 := by unfold powAt; rw [e128, Int.pow_zero, hp1]
  have key := ref_Pow_raw f (a % 18446744073709551616) (a / 18446744073709551616) ((n : Int) % 18446744073709551616) ((n : Int) / 18446744073709551616) (fun k => powAt f (rOf f a) n k % 18446744073709551616) (fun k => powAt f (rOf f a) n k / 18446744073709551616) (fun k => powTw f (rOf f a) n k % 18446744073709551616) (fun k => powTw f (rOf f a) n k / 18446744073709551616) (fun j => (n : Int) / 2 ^ j % 2 == 1)
    (by show powAt f (rOf f a) n 128 % _ = 1; rw [one]; rfl) (by show powAt f (rOf f a) n 128 / _ = 0; rw [one]; rfl) ?_ ?_ ?_ ?_
  · have e0 : powAt f (rOf f a) n 0 = rOf f a ^ n % rP f := by unfold powAt; simp
    rw [← e0]; exact key
  · intro j hj
    have h := ref_Mul hf (em (j + 1)) (em (j + 1))
    rw [show rOf f (powAt f (rOf f a) n (j + 1)) = powAt f (rOf f a) n (j + 1) from rOf_emod f _] at h
    exact h
  · intro j hj
    exact ref_bit hn j hj
  · intro j hj hbt
    have h := ref_Mul hf (ed j) ha
    rw [show rOf f (powTw f (rOf f a) n j) = powTw f (rOf f a) n j from rOf_emod f _] at h
    have e : (powTw f (rOf f a) n j * rOf f a) % rP f = powAt f (rOf f a) n j := by
      have hb1 : n / 2 ^ j % 2 = 1 := by rw [testBit_int, Nat.testBit_eq_decide_div_mod_eq] at hbt; simpa using hbt
      have en : n / 2 ^ j = n / 2 ^ (j + 1) + n / 2 ^ (j + 1) + 1 := by rw [Nat.pow_succ, ← Nat.div_div_eq_div_mul]; omega
      unfold powTw powAt
      rw [← Int.mul_emod, en, Int.pow_succ, Int.pow_add, Int.mul_emod (_ % rP f), Int.emod_emod, ← Int.mul_emod]
    rw [e] at h
    exact h
  · intro j hj hbt
    have hb0 : n / 2 ^ j % 2 = 0 := by
      rw [testBit_int, Nat.testBit_eq_decide_div_mod_eq] at hbt
      have : n / 2 ^ j % 2 ≠ 1 := by simpa using hbt
      omega
    have en : n / 2 ^ j = n / 2 ^ (j + 1) + n / 2 ^ (j + 1) := by rw [Nat.pow_succ, ← Nat.div_div_eq_div_mul]; omega
    have e : powTw f (rOf f a) n j = powAt f (rOf f a) n j := by
      unfold powTw powAt
      rw [← Int.mul_emod, en, Int.pow_add]
    exact ⟨by rw [e], by rw [e]⟩

end Go.Proofs.Ytnajihlhcdedgaa

namespace Go.Proofs.Ytnajihlhcdedgaa
open Go.RowKit
set_option linter.unusedVariables false

theorem is64_emod (x : Int) : is64 (x % gP) := by unfold is64 gP; omega
theorem is64_mk {x : Int} (h : (Lit.int .u64 x).wf = true) : is64 x := by
  have := bounds_u64 h
  unfold is64; omega

abbrev Gives (f : FuncId) (args : Array Value) (v : Value) : Prop := ∀ w, Calls Try.prog f args w fun e w' => e = .returned v ∧ w = w'

theorem g_Of {x : Int} (h : is64 x) : Gives 31 #[.int .u64 x] (.int .u64 (x % gP)) := fun w => gold_Of x w h.1 h.2
theorem g_Neg {x : Int} (h : is64 x) : Gives 29 #[.int .u64 x] (.int .u64 (-x % gP)) := fun w => gold_Neg x w h.1 h.2
theorem g_Add {x y : Int} (h : is64 x) (g : is64 y) : Gives 27 #[.int .u64 x, .int .u64 y] (.int .u64 ((x + y) % gP)) := fun w => gold_Add x y w h.1 h.2 g.1 g.2
theorem g_Sub {x y : Int} (h : is64 x) (g : is64 y) : Gives 30 #[.int .u64 x, .int .u64 y] (.int .u64 ((x - y) % gP)) := fun w => gold_Sub x y w h.1 h.2 g.1 g.2
theorem g_Mul {x y : Int} (h : is64 x) (g : is64 y) : Gives 28 #[.int .u64 x, .int .u64 y] (.int .u64 ((x * y) % gP)) := fun w => gold_Mul x y w h.1 h.2 g.1 g.2

theorem Gives.to {f : FuncId} {args : Array Value} {x y : Int} (h : Gives f args (.int .u64 x)) (e : x = y) : Gives f args (.int .u64 y) := e ▸ h

theorem gold_Awake : Gives 26 #[] (.bool true) := by
  have h1 := (g_Neg (x := 1) (by unfold is64; omega)).to (y := 18446744069414584320) (by unfold gP; omega)
  have h2 := (g_Mul (x := 9223372036854775808) (y := 2) (by unfold is64; omega) (by unfold is64; omega)).to (y := 4294967295) (by unfold gP; omega)
  have H1 := Lib.hid h1
  have H2 := Lib.hid h2
  clear h1 h2
  intro w
  go_enter Try.func26, Try.ntmps26
  go_wp2_with fail
  refine (H1.out _).mono ?_
  rintro e w' ⟨rfl, rfl⟩
  go_wp2_with fail
  refine (H2.out _).mono ?_
  rintro e w' ⟨rfl, rfl⟩
  go_wp2_with fail
  go_ret
  exact ⟨rfl, rfl⟩


theorem Gives.pure {f : FuncId} {args : Array Value} {v : Value} (h : Gives f args v) : Pure Try.prog f args v := fun w => (h w).mono fun e w' ⟨h1, h2⟩ => ⟨h1, h2 ▸ Kept.refl w⟩

end Go.Proofs.Ytnajihlhcdedgaa

namespace Go.Proofs.Ytnajihlhcdedgaa
open Go.RowKit
set_option linter.unusedVariables false
set_option linter.unusedSimpArgs false
attribute [local simp] blkAt_setCell blkAt_alloc blkAt_drew Obj.put_cells

theorem law_e (t : Int) : Pure Try.prog 33 #[.int .u64 t] (.agg #[.int .u64 t, .int .u64 0]) := fun w => by
  go_enter Try.func33, Try.ntmps33
  go_wp2
  exact bodyPost_ret (v := .agg #[.int .u64 t, .int .u64 0]) (by simp [results, Try.results33, go_sem]) rfl ⟨rfl, (Kept.refl w).alloc _⟩

set_option maxRecDepth 100000 in
set_option maxHeartbeats 4000000 in
theorem gold_sums_raw (a b X Y S D N M : Int) (c : Bool)
    (hK : Gives 26 #[] (.bool true)) (hE : ∀ t, Pure Try.prog 33 #[.int .u64 t] (.agg #[.int .u64 t, .int .u64 0]))
    (hOa : Pure Try.prog 32 #[.int .i64 1, .agg #[.int .u64 a, .int .u64 0]] (.agg #[.int .u64 X, .int .u64 0]))
    (hOb : Pure Try.prog 32 #[.int .i64 1, .agg #[.int .u64 b, .int .u64 0]] (.agg #[.int .u64 Y, .int .u64 0]))
    (hOf : Pure Try.prog 31 #[.int .u64 a] (.int .u64 X)) (hIn : Pure Try.prog 34 #[.int .u64 a] (.bool c))
    (hAd : Pure Try.prog 27 #[.int .u64 a, .int .u64 b] (.int .u64 S)) (hSu : Pure Try.prog 30 #[.int .u64 a, .int .u64 b] (.int .u64 D))
    (hNe : Pure Try.prog 29 #[.int .u64 a] (.int .u64 N)) (hMu : Pure Try.prog 28 #[.int .u64 a, .int .u64 b] (.int .u64 M))
    (hRa : Pure Try.prog 35 #[.int .i64 1, .agg #[.int .u64 X, .int .u64 0], .agg #[.int .u64 Y, .int .u64 0]] (.agg #[.int .u64 S, .int .u64 0]))
    (hRs : Pure Try.prog 36 #[.int .i64 1, .agg #[.int .u64 X, .int .u64 0], .agg #[.int .u64 Y, .int .u64 0]] (.agg #[.int .u64 D, .int .u64 0]))
    (hRn : Pure Try.prog 37 #[.int .i64 1, .agg #[.int .u64 X, .int .u64 0]] (.agg #[.int .u64 N, .int .u64 0]))
    (hRm : Pure Try.prog 38 #[.int .i64 1, .agg #[.int .u64 X, .int .u64 0], .agg #[.int .u64 Y, .int .u64 0]] (.agg #[.int .u64 M, .int .u64 0]))
    (hq : ∀ w, (binOp .eql 28 (.agg #[.int .u64 X, .int .u64 0]) (.agg #[.int .u64 a, .int .u64 0])).run Try.prog w = .ok (.bool c) w)
    (hs : ∀ t w, (binOp .eql 28 (.agg #[.int .u64 t, .int .u64 0]) (.agg #[.int .u64 t, .int .u64 0])).run Try.prog w = .ok (.bool true) w)
    (w : World) : Calls Try.prog 4 #[.int .u64 a, .int .u64 b] w fun e w' => e = .returned (.bool true) ∧ Kept w w' := by
  have HK := Lib.hid hK
  have HE := Lib.hid hE
  have HOa := Lib.hid hOa
  have HOb := Lib.hid hOb
  have HOf := Lib.hid hOf
  have HIn := Lib.hid hIn
  have HAd := Lib.hid hAd
  have HSu := Lib.hid hSu
  have HNe := Lib.hid hNe
  have HMu := Lib.hid hMu
  have HRa := Lib.hid hRa
  have HRs := Lib.hid hRs
  have HRn := Lib.hid hRn
  have HRm := Lib.hid hRm
  clear hK hE hOa hOb hOf hIn hAd hSu hNe hMu hRa hRs hRn hRm
  go_enter Try.func4, Try.ntmps4
  go_wp2_with fail
  refine (HK.out _).mono ?_
  rintro e w' ⟨rfl, rfl⟩
  go_wp2_with fail
  refine (HE.out _ _).mono ?_
  rintro e W1 ⟨rfl, kW1⟩
  go_wp2_with fail
  refine (HOa.out _).mono ?_
  rintro e W2 ⟨rfl, hkW2⟩
  have kW2 := kW1.trans hkW2
  clear kW1 hkW2
  go_wp2_with fail
  refine (HE.out _ _).mono ?_
  rintro e W3 ⟨rfl, hkW3⟩
  have kW3 := kW2.trans hkW3
  clear kW2 hkW3
  go_wp2_with fail
  refine (HOb.out _).mono ?_
  rintro e W4 ⟨rfl, hkW4⟩
  have kW4 := kW3.trans hkW4
  clear kW3 hkW4
  have HEX := Lib.hid (HE.out X)
  have HEa := Lib.hid (HE.out a)
  have HES := Lib.hid (HE.out S)
  have HED := Lib.hid (HE.out D)
  have HEN := Lib.hid (HE.out N)
  have HEM := Lib.hid (HE.out M)
  obtain ⟨b5, hb5⟩ : ∃ b, W4.heap.size = b := ⟨_, rfl⟩
  have lob5 : w.heap.size ≤ b5 := hb5 ▸ kW4.size
  go_wp2_with fail
  refine abs_world (fun W => Kept w W ∧ Blk W (b5) 28 #[.int .u64 X, .int .u64 0] ∧ Blk W (b5 + 1) 28 #[.int .u64 Y, .int .u64 0]) ?_ ?_
  · refine ⟨?_, ?_, ?_⟩
    · repeat (first | exact kW4 | (refine Kept.setCell ?_ (kept_side (by first | assumption | omega)) _) | apply Kept.alloc)
    · simp [Blk, *] <;> (intros; omega)
    · simp [Blk, *] <;> (intros; omega)
  rintro W5 ⟨kW5, BW5_0, BW5_1⟩
  have cW5_0_0 : W5.cell? ⟨b5, 0, none⟩ = some (.int .u64 X) := BW5_0.cell 0 rfl
  have cW5_0_1 : W5.cell? ⟨b5, 1, none⟩ = some (.int .u64 0) := BW5_0.cell 1 rfl
  have fW5_0 := BW5_0.free
  have cW5_1_0 : W5.cell? ⟨b5 + 1, 0, none⟩ = some (.int .u64 Y) := BW5_1.cell 0 rfl
  have cW5_1_1 : W5.cell? ⟨b5 + 1, 1, none⟩ = some (.int .u64 0) := BW5_1.cell 1 rfl
  have fW5_1 := BW5_1.free
  refine wp_region_calm 52 (by kernel_rfl) (by kernel_rfl) ?_
  simp only [List.take_succ_cons, List.take_zero, List.drop_succ_cons, List.drop_zero]
  repeat (first
    | (refine calm_skip rfl ?_; simp only [Act.put, List.setIfInBounds_toArray, List.set_cons_zero, List.set_cons_succ])
    | (refine calm_ex rfl ?_; apply Exists.intro; refine And.intro (fun w' hk => ?_) ?_; (focus (have q0 := hk.cell cW5_0_0; have q1 := hk.cell cW5_0_1; have q2 := hk.cell cW5_1_0; have q3 := hk.cell cW5_1_1; clear hk; go_simp; exact rfl)); simp only [Act.put, List.setIfInBounds_toArray, List.set_cons_zero, List.set_cons_succ])
    | (refine calm_step _ rfl (HEX.out.call ?_) ?_; (focus (intro w'; go_simp; done)); simp only [Act.put, List.setIfInBounds_toArray, List.set_cons_zero, List.set_cons_succ])
    | (refine calm_step _ rfl (HEa.out.call ?_) ?_; (focus (intro w'; go_simp; done)); simp only [Act.put, List.setIfInBounds_toArray, List.set_cons_zero, List.set_cons_succ])
    | (refine calm_step _ rfl (HES.out.call ?_) ?_; (focus (intro w'; go_simp; done)); simp only [Act.put, List.setIfInBounds_toArray, List.set_cons_zero, List.set_cons_succ])
    | (refine calm_step _ rfl (HED.out.call ?_) ?_; (focus (intro w'; go_simp; done)); simp only [Act.put, List.setIfInBounds_toArray, List.set_cons_zero, List.set_cons_succ])
    | (refine calm_step _ rfl (HEN.out.call ?_) ?_; (focus (intro w'; go_simp; done)); simp only [Act.put, List.setIfInBounds_toArray, List.set_cons_zero, List.set_cons_succ])
    | (refine calm_step _ rfl (HEM.out.call ?_) ?_; (focus (intro w'; go_simp; done)); simp only [Act.put, List.setIfInBounds_toArray, List.set_cons_zero, List.set_cons_succ])
    | (refine calm_step _ rfl (HOf.out.call ?_) ?_; (focus (intro w'; go_simp; done)); simp only [Act.put, List.setIfInBounds_toArray, List.set_cons_zero, List.set_cons_succ])
    | (refine calm_step _ rfl (HIn.out.call ?_) ?_; (focus (intro w'; go_simp; done)); simp only [Act.put, List.setIfInBounds_toArray, List.set_cons_zero, List.set_cons_succ])
    | (refine calm_step _ rfl (HAd.out.call ?_) ?_; (focus (intro w'; go_simp; done)); simp only [Act.put, List.setIfInBounds_toArray, List.set_cons_zero, List.set_cons_succ])
    | (refine calm_step _ rfl (HSu.out.call ?_) ?_; (focus (intro w'; go_simp; done)); simp only [Act.put, List.setIfInBounds_toArray, List.set_cons_zero, List.set_cons_succ])
    | (refine calm_step _ rfl (HNe.out.call ?_) ?_; (focus (intro w'; go_simp; done)); simp only [Act.put, List.setIfInBounds_toArray, List.set_cons_zero, List.set_cons_succ])
    | (refine calm_step _ rfl (HMu.out.call ?_) ?_; (focus (intro w'; go_simp; done)); simp only [Act.put, List.setIfInBounds_toArray, List.set_cons_zero, List.set_cons_succ])
    | (refine calm_step _ rfl (HRa.out.call ?_) ?_; (focus (intro w'; go_simp; done)); simp only [Act.put, List.setIfInBounds_toArray, List.set_cons_zero, List.set_cons_succ])
    | (refine calm_step _ rfl (HRs.out.call ?_) ?_; (focus (intro w'; go_simp; done)); simp only [Act.put, List.setIfInBounds_toArray, List.set_cons_zero, List.set_cons_succ])
    | (refine calm_step _ rfl (HRn.out.call ?_) ?_; (focus (intro w'; go_simp; done)); simp only [Act.put, List.setIfInBounds_toArray, List.set_cons_zero, List.set_cons_succ])
    | (refine calm_step _ rfl (HRm.out.call ?_) ?_; (focus (intro w'; go_simp; done)); simp only [Act.put, List.setIfInBounds_toArray, List.set_cons_zero, List.set_cons_succ]))
  refine calm_nil ?_
  intro W6 hkW6
  have kW6 := kW5.trans hkW6
  have BW6_0 := BW5_0.kept hkW6
  have BW6_1 := BW5_1.kept hkW6
  clear cW5_0_0 cW5_0_1 cW5_1_0 cW5_1_1 fW5_0 fW5_1 BW5_0 BW5_1 kW5 hkW6
  have cW6_0_0 : W6.cell? ⟨b5, 0, none⟩ = some (.int .u64 X) := BW6_0.cell 0 rfl
  have cW6_0_1 : W6.cell? ⟨b5, 1, none⟩ = some (.int .u64 0) := BW6_0.cell 1 rfl
  have fW6_0 := BW6_0.free
  have cW6_1_0 : W6.cell? ⟨b5 + 1, 0, none⟩ = some (.int .u64 Y) := BW6_1.cell 0 rfl
  have cW6_1_1 : W6.cell? ⟨b5 + 1, 1, none⟩ = some (.int .u64 0) := BW6_1.cell 1 rfl
  have fW6_1 := BW6_1.free
  go_wp2_with fail
  go_ret
  exact ⟨rfl, kW6⟩

end Go.Proofs.Ytnajihlhcdedgaa

namespace Go.Proofs.Ytnajihlhcdedgaa
open Go.RowKit
set_option linter.unusedVariables false

theorem E_small {a : Int} (h : is64 a) : E a = .agg #[.int .u64 a, .int .u64 0] := by
  have := E_mk (lo := a) (hi := 0) h
  rw [← this]; exact E_congr (by omega)
theorem is128_of64 {a : Int} (h : is64 a) : is128 a := by unfold is64 at h; unfold is128; omega
theorem rOf1 {a : Int} (h : is64 a) : rOf 1 a = a % gP := by
  unfold rOf; rw [if_pos rfl]; unfold is64 at h; rw [show a % 18446744073709551616 = a by omega]
theorem rP1 : rP 1 = gP := by unfold rP; rw [if_pos rfl]
theorem isF1 : isF 1 := .inl rfl
theorem isF2 : isF 2 := .inr rfl

theorem gold_sums_law (a : Int) (wa : (Lit.int .u64 a).wf = true) (b : Int) (wb : (Lit.int .u64 b).wf = true) (w : World) :
    Calls Try.prog 4 #[.int .u64 a, .int .u64 b] w fun e w' => e = .returned (.bool true) ∧ Kept w w' := by
  have ha := is64_mk wa
  have hb := is64_mk wb
  have hX : is64 (a % gP) := is64_emod a
  have hY : is64 (b % gP) := is64_emod b
  have oa := ref_Of isF1 (is128_of64 ha)
  have ob := ref_Of isF1 (is128_of64 hb)
  have ra := ref_Add isF1 (is128_of64 hX) (is128_of64 hY)
  have rs := ref_Sub isF1 (is128_of64 hX) (is128_of64 hY)
  have rn := ref_Neg isF1 (is128_of64 hX)
  have rm := ref_Mul isF1 (is128_of64 hX) (is128_of64 hY)
  rw [rOf1 ha, E_small ha, E_small hX] at oa
  rw [rOf1 hb, E_small hb, E_small hY] at ob
  rw [rOf1 hX, rOf1 hY, rP1, E_small hX, E_small hY, Int.emod_emod, Int.emod_emod, ← Int.add_emod, E_small (is64_emod _)] at ra
  rw [rOf1 hX, rOf1 hY, rP1, E_small hX, E_small hY, Int.emod_emod, Int.emod_emod, ← Int.sub_emod, E_small (is64_emod _)] at rs
  rw [rOf1 hX, rP1, E_small hX, Int.emod_emod, show -(a % gP) % gP = -a % gP by unfold gP; omega, E_small (is64_emod _)] at rn
  rw [rOf1 hX, rOf1 hY, rP1, E_small hX, E_small hY, Int.emod_emod, Int.emod_emod, ← Int.mul_emod, E_small (is64_emod _)] at rm
  have hin : Pure Try.prog 34 #[.int .u64 a] (.bool (decide (a % gP = a ∧ (0 : Int) = 0))) := fun w => by
    have := gold_In a w
    rw [show decide (a < 18446744069414584321) = decide (a % gP = a ∧ (0 : Int) = 0) from decide_eq_decide.2 (by unfold gP is64 at *; omega)] at this
    exact (show Gives 34 #[.int .u64 a] _ from fun w => by
      have := gold_In a w
      rw [show decide (a < 18446744069414584321) = decide (a % gP = a ∧ (0 : Int) = 0) from decide_eq_decide.2 (by unfold gP is64 at *; omega)] at this
      exact this).pure w
  exact gold_sums_raw a b _ _ _ _ _ _ _ gold_Awake law_e oa ob (g_Of ha).pure hin (g_Add ha hb).pure (g_Sub ha hb).pure (g_Neg ha).pure (g_Mul ha hb).pure ra rs rn rm
    (fun w => run_eql28 _ _ _ _ w) (fun t w => by rw [run_eql28]; simp) w

end Go.Proofs.Ytnajihlhcdedgaa

namespace Go.Proofs.Ytnajihlhcdedgaa

/-- An injective map of the first n numbers into themselves is onto. -/
theorem inj_surj : ∀ (n : Nat) (f : Nat → Nat), (∀ i, i < n → f i < n) → (∀ i j, i < n → j < n → f i = f j → i = j) → ∀ y, y < n → ∃ i, i < n ∧ f i = y
  | 0, _, _, _, y, hy => absurd hy (Nat.not_lt_zero y)
  | n + 1, f, h1, h2, y, hy => by
    have IH := inj_surj n (fun i => if f i = n then f n else f i) ?_ ?_
    · by_cases hc : f n = n
      · by_cases hyn : y = n
        · exact ⟨n, by omega, by rw [hc, hyn]⟩
        · obtain ⟨i, hi, he⟩ := IH y (by omega)
          by_cases hfi : f i = n
          · rw [if_pos hfi, hc] at he; omega
          · rw [if_neg hfi] at he; exact ⟨i, by omega, he⟩
      · have hcl : f n < n := by have := h1 n (by omega); omega
        by_cases hyn : y = n
        · obtain ⟨i, hi, he⟩ := IH (f n) hcl
          by_cases hfi : f i = n
          · exact ⟨i, by omega, by rw [hfi, hyn]⟩
          · rw [if_neg hfi] at he
            have := h2 i n (by omega) (by omega) he
            omega
        · obtain ⟨i, hi, he⟩ := IH y (by omega)
          by_cases hfi : f i = n
          · rw [if_pos hfi] at he; exact ⟨n, by omega, he⟩
          · rw [if_neg hfi] at he; exact ⟨i, by omega, he⟩
    · intro i hi
      by_cases hfi : f i = n
      · rw [if_pos hfi]
        by_cases hc : f n = n
        · have := h2 i n (by omega) (by omega) (hfi.trans hc.symm); omega
        · have := h1 n (by omega); omega
      · rw [if_neg hfi]; have := h1 i (by omega); omega
    · intro i j hi hj he
      by_cases hfi : f i = n
      · by_cases hfj : f j = n
        · exact h2 i j (by omega) (by omega) (hfi.trans hfj.symm)
        · rw [if_pos hfi, if_neg hfj] at he
          have := h2 n j (by omega) (by omega) he; omega
      · by_cases hfj : f j = n
        · rw [if_neg hfi, if_pos hfj] at he
          have := h2 i n (by omega) (by omega) he; omega
        · rw [if_neg hfi, if_neg hfj] at he
          exact h2 i j (by omega) (by omega) he

/-- Prime, as it is used: what it does not divide is coprime to it. -/
def IsPr (q : Nat) : Prop := 1 < q ∧ ∀ m, ¬ q ∣ m → Nat.Coprime m q

theorem isPr_trial {q : Nat} (h1 : 1 < q) (k : Nat) (hk : q < (k + 1) * (k + 1)) (h : ∀ d, d < k + 1 → 2 ≤ d → q % d ≠ 0) : IsPr q := by
  have small : ∀ d, d ∣ q → d ≠ 1 → d = q := by
    intro d hd hne
    obtain ⟨c, hc⟩ := hd
    have hd0 : d ≠ 0 := by rintro rfl; omega
    have hc0 : c ≠ 0 := by rintro rfl; omega
    by_cases hc1 : c = 1
    · rw [hc1] at hc; omega
    · exfalso
      by_cases hdk : d < k + 1
      · exact h d hdk (by omega) (by rw [hc]; exact Nat.mul_mod_right d c)
      · by_cases hck : c < k + 1
        · exact h c hck (by omega) (by rw [hc, Nat.mul_comm]; exact Nat.mul_mod_right c d)
        · have : (k + 1) * (k + 1) ≤ d * c := Nat.mul_le_mul (by omega) (by omega)
          omega
  refine ⟨h1, fun m hm => ?_⟩
  unfold Nat.Coprime
  by_cases hg : Nat.gcd m q = 1
  · exact hg
  · have := small _ (Nat.gcd_dvd_right m q) hg
    exact absurd (this ▸ Nat.gcd_dvd_left m q) hm

theorem pow_mod_one {g p d : Nat} (hp : 1 < p) (h : g ^ d % p = 1) (k : Nat) : g ^ (d * k) % p = 1 := by
  rw [Nat.pow_mul, Nat.pow_mod, h, Nat.one_pow, Nat.mod_eq_of_lt hp]

theorem pow_gcd {g p : Nat} (hp : 1 < p) (a b : Nat) : g ^ a % p = 1 → g ^ b % p = 1 → g ^ (Nat.gcd a b) % p = 1 := by
  induction a, b using Nat.gcd.induction with
  | H0 n => intro _ h; rw [Nat.gcd_zero_left]; exact h
  | H1 m n hm ih =>
    intro ha hb
    rw [Nat.gcd_rec]
    refine ih ?_ ha
    have e : g ^ n = g ^ (m * (n / m)) * g ^ (n % m) := by rw [← Nat.pow_add, Nat.div_add_mod]
    rw [e, Nat.mul_mod, pow_mod_one hp ha, Nat.one_mul, Nat.mod_mod] at hb
    exact hb

/-- What the list of primes with their powers multiplies to. -/
def prodOf : List (Nat × Nat) → Nat
  | [] => 1
  | (q, k) :: r => q ^ k * prodOf r

theorem coprime_prodOf (m : Nat) : ∀ (fs : List (Nat × Nat)), (∀ x ∈ fs, Nat.Coprime m x.1) → Nat.Coprime m (prodOf fs)
  | [], _ => Nat.coprime_one_right m
  | (q, k) :: r, h => Nat.Coprime.mul_right (Nat.Coprime.pow_right k (h (q, k) (by simp))) (coprime_prodOf m r fun x hx => h x (by simp [hx]))

theorem no_less {p g N : Nat} (hp : 1 < p) (h1 : g ^ N % p = 1) (fs : List (Nat × Nat)) (hprod : prodOf fs = N)
    (hfs : ∀ x ∈ fs, IsPr x.1 ∧ x.1 ∣ N ∧ g ^ (N / x.1) % p ≠ 1) (e : Nat) (he0 : 0 < e) (he : e < N) : g ^ e % p ≠ 1 := by
  intro h
  have hd := pow_gcd hp e N h h1
  have hdN := Nat.gcd_dvd_right e N
  have hdle : Nat.gcd e N ≤ e := Nat.le_of_dvd he0 (Nat.gcd_dvd_left e N)
  have hdpos : 0 < Nat.gcd e N := Nat.gcd_pos_of_pos_left _ he0
  generalize Nat.gcd e N = d at *
  obtain ⟨m, hm⟩ := hdN
  have hm1 : m ≠ 1 := by rintro rfl; omega
  have key : ∀ x ∈ fs, ¬ x.1 ∣ m := by
    rintro x hx ⟨c, hc⟩
    refine (hfs x hx).2.2 ?_
    have hq : 0 < x.1 := by have := (hfs x hx).1.1; omega
    have : N / x.1 = d * c := by
      rw [hm, hc, show d * (x.1 * c) = x.1 * (d * c) by rw [Nat.mul_left_comm]]
      exact Nat.mul_div_cancel_left _ hq
    rw [this]
    exact pow_mod_one hp hd c
  have hcop : Nat.Coprime m N := by
    rw [← hprod]
    exact coprime_prodOf m fs fun x hx => (hfs x hx).1.2 m (key x hx)
  have : m ∣ N := ⟨d, by rw [hm, Nat.mul_comm]⟩
  have h3 : Nat.gcd m N = m := Nat.gcd_eq_left this
  unfold Nat.Coprime at hcop
  omega

/-- Every number that p does not divide is a power of the root. -/
theorem is_power {p g : Nat} (hp : 2 < p) (h1 : g ^ (p - 1) % p = 1) (hno : ∀ e, 0 < e → e < p - 1 → g ^ e % p ≠ 1) (a : Nat) (ha : a % p ≠ 0) : ∃ k, a % p = g ^ k % p := by
  have hp1 : 1 < p := by omega
  have nz : ∀ i, i < p - 1 → g ^ i % p ≠ 0 := by
    intro i hi h0
    have e : g ^ (p - 1) = g ^ i * g ^ (p - 1 - i) := by rw [← Nat.pow_add]; congr 1; omega
    rw [e, Nat.mul_mod, h0, Nat.zero_mul, Nat.zero_mod] at h1
    omega
  have dist : ∀ i j, i < j → j < p - 1 → g ^ i % p ≠ g ^ j % p := by
    intro i j hij hj h
    refine hno (j - i) (by omega) (by omega) ?_
    have e1 : g ^ i * g ^ (p - 1 - i) = g ^ (p - 1) := by rw [← Nat.pow_add]; congr 1; omega
    have e2 : g ^ j * g ^ (p - 1 - i) = g ^ (p - 1) * g ^ (j - i) := by rw [← Nat.pow_add, ← Nat.pow_add]; congr 1; omega
    have h3 : (g ^ i * g ^ (p - 1 - i)) % p = (g ^ j * g ^ (p - 1 - i)) % p := by rw [Nat.mul_mod, h, ← Nat.mul_mod]
    rw [e1, e2, h1, Nat.mul_mod, h1, Nat.one_mul, Nat.mod_mod] at h3
    exact h3.symm
  obtain ⟨i, hi, he⟩ := inj_surj (p - 1) (fun i => g ^ i % p - 1) (fun i hi => by
      have := Nat.mod_lt (g ^ i) (show p > 0 by omega)
      have := nz i hi
      omega) (fun i j hi hj h => by
      have hi0 := nz i hi
      have hj0 := nz j hj
      rcases Nat.lt_trichotomy i j with h4 | h4 | h4
      · exact absurd (by omega) (dist i j h4 hj)
      · exact h4
      · exact absurd (by omega) (dist j i h4 hi)) (a % p - 1) (by have := Nat.mod_lt a (show p > 0 by omega); omega)
  refine ⟨i, ?_⟩
  have := nz i hi
  omega

theorem fermat_of {p g : Nat} (hp : 2 < p) (h1 : g ^ (p - 1) % p = 1) (hno : ∀ e, 0 < e → e < p - 1 → g ^ e % p ≠ 1) (a : Nat) (ha : a % p ≠ 0) : a ^ (p - 1) % p = 1 := by
  obtain ⟨k, hk⟩ := is_power hp h1 hno a ha
  rw [Nat.pow_mod, hk, ← Nat.pow_mod, ← Nat.pow_mul, Nat.mul_comm]
  exact pow_mod_one (by omega) h1 k

theorem isPr_of {p g : Nat} (hp : 2 < p) (h1 : g ^ (p - 1) % p = 1) (hno : ∀ e, 0 < e → e < p - 1 → g ^ e % p ≠ 1) : IsPr p := by
  refine ⟨by omega, fun m hm => ?_⟩
  obtain ⟨k, hk⟩ := is_power hp h1 hno m (fun h => hm (Nat.dvd_of_mod_eq_zero h))
  have hg : Nat.Coprime g p := by
    have hd1 : Nat.gcd g p ∣ g ^ (p - 1) := Nat.dvd_trans (Nat.gcd_dvd_left g p) (by
      rw [show p - 1 = (p - 2) + 1 by omega, Nat.pow_succ]; exact Nat.dvd_mul_left g _)
    have hd2 : Nat.gcd g p ∣ p := Nat.gcd_dvd_right g p
    have e : g ^ (p - 1) = p * (g ^ (p - 1) / p) + 1 := by
      have := Nat.div_add_mod (g ^ (p - 1)) p
      omega
    rw [e] at hd1
    have := (Nat.dvd_add_right (Nat.dvd_trans hd2 (Nat.dvd_mul_right p _))).1 hd1
    exact Nat.dvd_one.1 this
  have h2 : Nat.Coprime (g ^ k) p := Nat.Coprime.pow_left k hg
  unfold Nat.Coprime at *
  rw [Nat.gcd_comm, Nat.gcd_rec, hk, ← Nat.gcd_rec, Nat.gcd_comm]
  exact h2

/-- A power modulo p, by squaring. -/
def pm (p : Nat) : Nat → Nat → Nat → Nat
  | 0, _, _ => 1 % p
  | f + 1, b, n => if n % 2 = 1 then b * pm p f (b * b % p) (n / 2) % p else pm p f (b * b % p) (n / 2)

theorem pm_eq (p : Nat) : ∀ (f b n : Nat), n < 2 ^ f → pm p f b n = b ^ n % p
  | 0, b, n, h => by
    have : n = 0 := by simpa using h
    subst this
    simp [pm]
  | f + 1, b, n, h => by
    have hn : n / 2 < 2 ^ f := by rw [Nat.pow_succ] at h; omega
    have ih := pm_eq p f (b * b % p) (n / 2) hn
    have e : (b * b % p) ^ (n / 2) % p = b ^ (2 * (n / 2)) % p := by
      rw [← Nat.pow_mod, Nat.pow_mul, Nat.pow_two]
    unfold pm
    by_cases h2 : n % 2 = 1
    · rw [if_pos h2, ih, Nat.mul_mod, Nat.mod_mod, e, ← Nat.mul_mod, Nat.mul_comm b, ← Nat.pow_succ]
      congr 2; omega
    · rw [if_neg h2, ih, e]
      congr 2; omega

theorem small_trial (q k : Nat) (h : (List.range (k + 1)).all (fun d => decide (d < 2) || decide (q % d ≠ 0)) = true) : ∀ d, d < k + 1 → 2 ≤ d → q % d ≠ 0 := by
  intro d hd h2
  have := List.all_eq_true.1 h d (List.mem_range.2 hd)
  simp only [Bool.or_eq_true, decide_eq_true_eq] at this
  omega

theorem pr2 : IsPr 2 := isPr_trial (by decide) 1 (by decide) (small_trial _ _ (by decide +kernel))
theorem pr3 : IsPr 3 := isPr_trial (by decide) 1 (by decide) (small_trial _ _ (by decide +kernel))
theorem pr5 : IsPr 5 := isPr_trial (by decide) 2 (by decide) (small_trial _ _ (by decide +kernel))
theorem pr17 : IsPr 17 := isPr_trial (by decide) 4 (by decide) (small_trial _ _ (by decide +kernel))
theorem pr257 : IsPr 257 := isPr_trial (by decide) 16 (by decide) (small_trial _ _ (by decide +kernel))
theorem pr65537 : IsPr 65537 := isPr_trial (by decide) 256 (by decide) (small_trial _ _ (by decide +kernel))
theorem pr3491 : IsPr 3491 := isPr_trial (by decide) 59 (by decide) (small_trial _ _ (by decide +kernel))
theorem pr72973 : IsPr 72973 := isPr_trial (by decide) 270 (by decide) (small_trial _ _ (by decide +kernel))
theorem pr125714447 : IsPr 125714447 := isPr_trial (by decide) 11213 (by decide) (small_trial _ _ (by decide +kernel))

/-- The root's powers run through all. -/
def Full (p g : Nat) : Prop := g ^ (p - 1) % p = 1 ∧ ∀ e, 0 < e → e < p - 1 → g ^ e % p ≠ 1

theorem lucas (p g f : Nat) (fs : List (Nat × Nat)) (hp : 2 < p) (hf : p - 1 < 2 ^ f) (h1 : pm p f g (p - 1) = 1) (hprod : prodOf fs = p - 1)
    (hpr : ∀ x ∈ fs, IsPr x.1) (hno : fs.all (fun x => decide ((p - 1) % x.1 = 0) && decide (pm p f g ((p - 1) / x.1) ≠ 1)) = true) : Full p g := by
  have h1' : g ^ (p - 1) % p = 1 := by rw [← pm_eq p f g (p - 1) hf]; exact h1
  refine ⟨h1', fun e he0 he => no_less (by omega) h1' fs hprod (fun x hx => ?_) e he0 he⟩
  have := List.all_eq_true.1 hno x hx
  simp only [Bool.and_eq_true, decide_eq_true_eq] at this
  refine ⟨hpr x hx, Nat.dvd_of_mod_eq_zero this.1, ?_⟩
  rw [← pm_eq p f g _ (Nat.lt_of_le_of_lt (Nat.div_le_self _ _) hf)]
  exact this.2

def qN : Nat := 440340496364689
def gN : Nat := 18446744069414584321
def wN : Nat := 340282366920938462946865773367900766209

theorem lucas_q : Full qN 11 :=
  lucas qN 11 64 [(2, 4), (3, 1), (72973, 1), (125714447, 1)] (by decide) (by decide +kernel) (by decide +kernel) (by decide +kernel)
    (by
      intro x hx
      simp only [List.mem_cons, List.not_mem_nil, or_false] at hx
      rcases hx with rfl | rfl | rfl | rfl
      · exact pr2
      · exact pr3
      · exact pr72973
      · exact pr125714447) (by decide +kernel)
theorem prq : IsPr qN := isPr_of (by decide) lucas_q.1 lucas_q.2

/-- The small field's modulus. -/
theorem lucas_gold : Full gN 7 :=
  lucas gN 7 64 [(2, 32), (3, 1), (5, 1), (17, 1), (257, 1), (65537, 1)] (by decide) (by decide +kernel) (by decide +kernel) (by decide +kernel)
    (by
      intro x hx
      simp only [List.mem_cons, List.not_mem_nil, or_false] at hx
      rcases hx with rfl | rfl | rfl | rfl | rfl | rfl
      · exact pr2
      · exact pr3
      · exact pr5
      · exact pr17
      · exact pr257
      · exact pr65537) (by decide +kernel)
theorem fermat_gold (a : Nat) (ha : a % gN ≠ 0) : a ^ (gN - 1) % gN = 1 := fermat_of (by decide) lucas_gold.1 lucas_gold.2 a ha

/-- The large field's modulus. -/
theorem lucas_wide : Full wN 7 :=
  lucas wN 7 128 [(2, 66), (3, 1), (3491, 1), (qN, 1)] (by decide) (by decide +kernel) (by decide +kernel) (by decide +kernel)
    (by
      intro x hx
      simp only [List.mem_cons, List.not_mem_nil, or_false] at hx
      rcases hx with rfl | rfl | rfl | rfl
      · exact pr2
      · exact pr3
      · exact pr3491
      · exact prq) (by decide +kernel)
theorem fermat_wide (a : Nat) (ha : a % wN ≠ 0) : a ^ (wN - 1) % wN = 1 := fermat_of (by decide) lucas_wide.1 lucas_wide.2 a ha

end Go.Proofs.Ytnajihlhcdedgaa

namespace Go.Proofs.Ytnajihlhcdedgaa
open Go.RowKit
set_option linter.unusedVariables false

theorem bits_and_one (m : Int) (h0 : 0 ≤ m) (h1 : m ≤ 18446744073709551615) : bits .and .u64 m 1 = m % 2 := by
  obtain ⟨A, rfl⟩ := Int.eq_ofNat_of_zero_le h0
  have h := bits_and_u64_nat A 1 (by omega) (by omega)
  rw [Nat.and_one_is_mod] at h
  have h' : bits .and .u64 (A : Int) 1 = ((A % 2 : Nat) : Int) := h
  rw [h']; omega

/-- What Pow's loop keeps: what is out, times what is left to be raised. -/
def PowRel (T : Int) (x m y : Int) : Prop := (y * x ^ m.toNat) % gP = T

theorem PowRel.odd {T x m y : Int} (h : PowRel T x m y) (h0 : 0 ≤ m) (h1 : m % 2 = 1) : PowRel T (x * x % gP) (m / 2) (y * x % gP) := by
  unfold PowRel at *
  rw [← h]
  have e : m.toNat = (m / 2).toNat + (m / 2).toNat + 1 := by omega
  rw [e, Int.pow_succ, Int.pow_add, Int.mul_emod, Int.emod_emod]
  have e2 : (x * x % gP) ^ (m / 2).toNat % gP = (x ^ (m / 2).toNat * x ^ (m / 2).toNat) % gP := by
    rw [← Int.mul_pow]
    generalize (m / 2).toNat = k
    induction k with
    | zero => simp
    | succ k ih => rw [Int.pow_succ, Int.pow_succ, Int.mul_emod, ih, Int.emod_emod, ← Int.mul_emod]
  rw [e2, ← Int.mul_emod]
  congr 1
  generalize x ^ (m / 2).toNat = q
  rw [Int.mul_assoc, Int.mul_comm x (q * q)]
theorem PowRel.even {T x m y : Int} (h : PowRel T x m y) (h0 : 0 ≤ m) (h1 : m % 2 = 0) : PowRel T (x * x % gP) (m / 2) y := by
  unfold PowRel at *
  rw [← h]
  have e : m.toNat = (m / 2).toNat + (m / 2).toNat := by omega
  rw [e, Int.pow_add, Int.mul_emod]
  have e2 : (x * x % gP) ^ (m / 2).toNat % gP = (x ^ (m / 2).toNat * x ^ (m / 2).toNat) % gP := by
    rw [← Int.mul_pow]
    generalize (m / 2).toNat = k
    induction k with
    | zero => simp
    | succ k ih => rw [Int.pow_succ, Int.pow_succ, Int.mul_emod, ih, Int.emod_emod, ← Int.mul_emod]
  rw [e2, ← Int.mul_emod]

def isG (y : Int) : Prop := 0 ≤ y ∧ y < gP
theorem isG_emod (x : Int) : isG (x % gP) := by unfold isG gP; omega
theorem isG.is64 {y : Int} (h : isG y) : is64 y := by unfold isG gP at h; unfold Go.Proofs.Ytnajihlhcdedgaa.is64; omega

set_option maxHeartbeats 1000000 in
theorem gold_Pow_in (a n X T : Int) (w : World) (hn : is64 n) (hX : isG X) (HO : Hid (Gives 31 #[.int .u64 a] (.int .u64 X))) (HT : Hid (PowRel T X n 1)) :
    Calls Try.prog 39 #[.int .u64 a, .int .u64 n] w fun e w' => e = .returned (.int .u64 T) ∧ w = w' := by
  go_enter Try.func39, Try.ntmps39
  go_wp2_with fail
  refine (HO.out _).mono ?_
  rintro e w' ⟨rfl, rfl⟩
  go_wp2_with fail
  go_loop [0, 1, 5] (fun va vn vo => ∃ x m y : Int, va = .int .u64 x ∧ vn = .int .u64 m ∧ vo = .int .u64 y ∧ Hid (isG x) ∧ Hid (is64 m) ∧ Hid (isG y) ∧ Hid (PowRel T x m y)) (fun _ vn _ => (intOf vn).toNat)
  case atStart => exact ⟨X, n, 1, rfl, rfl, rfl, hX, hn, (by unfold Hid isG gP; omega), HT⟩
  case round =>
    obtain ⟨x, m, y, rfl, rfl, rfl, hx, hm, hy, hr⟩ := hrel
    have m0 : 0 ≤ m := hm.out.1
    have m1 : m ≤ 18446744073709551615 := hm.out.2
    by_cases hpos : 0 < m
    · have hb := bits_and_one m m0 m1
      have HS := Lib.hid (g_Mul hx.out.is64 hx.out.is64)
      have hx2 := Lib.hid (isG_emod (x * x))
      have hm2 : Hid (is64 (m / 2)) := by unfold Hid is64; omega
      by_cases hodd : m % 2 = 1
      · have HM := Lib.hid (g_Mul hy.out.is64 hx.out.is64)
        have hy2 := Lib.hid (isG_emod (y * x))
        have hr2 := Lib.hid (hr.out.odd m0 hodd)
        generalize x * x % gP = X2 at *
        generalize y * x % gP = Y2 at *
        go_wp2_with fail
        refine (HM.out _).mono ?_
        rintro e w' ⟨rfl, rfl⟩
        go_wp2_with fail
        refine (HS.out _).mono ?_
        rintro e w' ⟨rfl, rfl⟩
        go_wp2_with fail
        go_round
        case rel => exact ⟨X2, m / 2, Y2, rfl, rfl, rfl, hx2, hm2, hy2, hr2⟩
        case measure => simp only [intOf]; omega
      · have heven : m % 2 = 0 := by omega
        have hr2 := Lib.hid (hr.out.even m0 heven)
        generalize x * x % gP = X2 at *
        go_wp2_with fail
        refine (HS.out _).mono ?_
        rintro e w' ⟨rfl, rfl⟩
        go_wp2_with fail
        go_round
        case rel => exact ⟨X2, m / 2, y, rfl, rfl, rfl, hx2, hm2, hy, hr2⟩
        case measure => simp only [intOf]; omega
    · go_wp2
      go_ret
      have hm0 : m = 0 := by omega
      have h1 := hr.out
      have h2 := hy.out
      unfold PowRel at h1
      rw [hm0] at h1
      exact ⟨ret_u64 (by
        unfold isG at h2
        rw [← h1]
        simp only [Int.toNat_zero, Int.pow_zero, Int.mul_one]
        rw [Int.emod_eq_of_lt h2.1 h2.2]), rfl⟩

theorem emod_pow (x p : Int) (n : Nat) : (x % p) ^ n % p = x ^ n % p := by
  induction n with
  | zero => simp
  | succ k ih => rw [Int.pow_succ, Int.pow_succ, Int.mul_emod, ih, Int.emod_emod, ← Int.mul_emod]

theorem g_Pow {a n : Int} (ha : is64 a) (hn : is64 n) : Gives 39 #[.int .u64 a, .int .u64 n] (.int .u64 (a ^ n.toNat % gP)) := fun w =>
  gold_Pow_in a n (a % gP) _ w hn (isG_emod a) (g_Of ha) (by unfold Hid PowRel; rw [Int.one_mul, emod_pow])

theorem gold_Inv_no (a : Int) (HO : Hid (Gives 31 #[.int .u64 a] (.int .u64 0))) : Gives 41 #[.int .u64 a] (.tuple #[.int .u64 0, .int .i64 8]) := fun w => by
  go_enter Try.func41, Try.ntmps41
  go_wp2_with fail
  refine (HO.out _).mono ?_
  rintro e w' ⟨rfl, rfl⟩
  go_wp2_with fail
  go_ret2
  exact ⟨rfl, rfl⟩
theorem gold_Inv_yes (a X R : Int) (hX : (X == 0) = false) (HO : Hid (Gives 31 #[.int .u64 a] (.int .u64 X))) (HP : Hid (Gives 39 #[.int .u64 a, .int .u64 18446744069414584319] (.int .u64 R))) : Gives 41 #[.int .u64 a] (.tuple #[.int .u64 R, .int .i64 0]) := fun w => by
  go_enter Try.func41, Try.ntmps41
  go_wp2_with fail
  refine (HO.out _).mono ?_
  rintro e w' ⟨rfl, rfl⟩
  go_wp2_with fail
  refine (HP.out _).mono ?_
  rintro e w' ⟨rfl, rfl⟩
  go_wp2_with fail
  go_ret2
  exact ⟨rfl, rfl⟩

/-- By which a has to be multiplied. -/
def gInv (a : Int) : Int := a ^ 18446744069414584319 % gP
theorem g_Inv_no {a : Int} (ha : is64 a) (h : a % gP = 0) : Gives 41 #[.int .u64 a] (.tuple #[.int .u64 0, .int .i64 8]) :=
  gold_Inv_no a (by have := g_Of ha; rw [h] at this; exact this)
end Go.Proofs.Ytnajihlhcdedgaa

namespace Go.Proofs.Ytnajihlhcdedgaa
open Go.RowKit
set_option linter.unusedVariables false
set_option linter.unusedSimpArgs false
attribute [local simp] blkAt_setCell blkAt_alloc blkAt_drew Obj.put_cells

set_option maxRecDepth 100000 in
set_option maxHeartbeats 4000000 in
theorem gold_powers_no (a n T : Int)
    (hK : Pure Try.prog 26 #[] (.bool true)) (hE : ∀ t, Pure Try.prog 33 #[.int .u64 t] (.agg #[.int .u64 t, .int .u64 0]))
    (hP : Pure Try.prog 39 #[.int .u64 a, .int .u64 n] (.int .u64 T)) (hRp : Pure Try.prog 40 #[.int .i64 1, .agg #[.int .u64 a, .int .u64 0], .agg #[.int .u64 n, .int .u64 0]] (.agg #[.int .u64 T, .int .u64 0]))
    (hq : ∀ t w, (binOp .neq 28 (.agg #[.int .u64 t, .int .u64 0]) (.agg #[.int .u64 t, .int .u64 0])).run Try.prog w = .ok (.bool false) w)
    (hI : Pure Try.prog 41 #[.int .u64 a] (.tuple #[.int .u64 0, .int .i64 8])) (hO : Pure Try.prog 31 #[.int .u64 a] (.int .u64 0)) (w : World) :
    Calls Try.prog 5 #[.int .u64 a, .int .u64 n] w fun e w' => e = .returned (.bool true) ∧ Kept w w' := by
  have hET := hE T
  have hEa := hE a
  have hEn := hE n
  clear hE
  have HK := Lib.hid hK
  have HP := Lib.hid hP
  have HET := Lib.hid hET
  have HEa := Lib.hid hEa
  have HEn := Lib.hid hEn
  have HRp := Lib.hid hRp
  have HI := Lib.hid hI
  have HO := Lib.hid hO
  clear hK hP hET hEa hEn hRp hI hO
  have kw := Kept.refl w
  go_enter Try.func5, Try.ntmps5
  go_wp2_with fail
  refine (HK.out _).mono ?_
  rintro e W1 ⟨rfl, hkW1⟩
  have kW1 := kw.trans hkW1
  clear kw hkW1
  go_wp2_with fail
  refine (HP.out _).mono ?_
  rintro e W2 ⟨rfl, hkW2⟩
  have kW2 := kW1.trans hkW2
  clear kW1 hkW2
  go_wp2_with fail
  refine (HET.out _).mono ?_
  rintro e W3 ⟨rfl, hkW3⟩
  have kW3 := kW2.trans hkW3
  clear kW2 hkW3
  go_wp2_with fail
  refine (HEa.out _).mono ?_
  rintro e W4 ⟨rfl, hkW4⟩
  have kW4 := kW3.trans hkW4
  clear kW3 hkW4
  go_wp2_with fail
  refine (HEn.out _).mono ?_
  rintro e W5 ⟨rfl, hkW5⟩
  have kW5 := kW4.trans hkW5
  clear kW4 hkW5
  go_wp2_with fail
  refine (HRp.out _).mono ?_
  rintro e W6 ⟨rfl, hkW6⟩
  have kW6 := kW5.trans hkW6
  clear kW5 hkW6
  go_wp2_with fail
  refine (HI.out _).mono ?_
  rintro e W7 ⟨rfl, hkW7⟩
  have kW7 := kW6.trans hkW7
  clear kW6 hkW7
  go_wp2_with fail
  refine (HO.out _).mono ?_
  rintro e W8 ⟨rfl, hkW8⟩
  have kW8 := kW7.trans hkW8
  clear kW7 hkW8
  go_wp2_with fail
  go_ret
  exact ⟨rfl, kW8⟩

set_option maxRecDepth 100000 in
set_option maxHeartbeats 4000000 in
theorem gold_powers_yes (a n T X R : Int)
    (hK : Pure Try.prog 26 #[] (.bool true)) (hE : ∀ t, Pure Try.prog 33 #[.int .u64 t] (.agg #[.int .u64 t, .int .u64 0]))
    (hP : Pure Try.prog 39 #[.int .u64 a, .int .u64 n] (.int .u64 T)) (hRp : Pure Try.prog 40 #[.int .i64 1, .agg #[.int .u64 a, .int .u64 0], .agg #[.int .u64 n, .int .u64 0]] (.agg #[.int .u64 T, .int .u64 0]))
    (hq : ∀ t w, (binOp .neq 28 (.agg #[.int .u64 t, .int .u64 0]) (.agg #[.int .u64 t, .int .u64 0])).run Try.prog w = .ok (.bool false) w)
    (hI : Pure Try.prog 41 #[.int .u64 a] (.tuple #[.int .u64 R, .int .i64 0])) (hO : Pure Try.prog 31 #[.int .u64 a] (.int .u64 X)) (hX : (X == 0) = false)
    (hIn : Pure Try.prog 34 #[.int .u64 R] (.bool true)) (hRm : Pure Try.prog 38 #[.int .i64 1, .agg #[.int .u64 a, .int .u64 0], .agg #[.int .u64 R, .int .u64 0]] (.agg #[.int .u64 1, .int .u64 0]))
    (hs : ∀ t w, (binOp .eql 28 (.agg #[.int .u64 t, .int .u64 0]) (.agg #[.int .u64 t, .int .u64 0])).run Try.prog w = .ok (.bool true) w) (w : World) :
    Calls Try.prog 5 #[.int .u64 a, .int .u64 n] w fun e w' => e = .returned (.bool true) ∧ Kept w w' := by
  have hET := hE T
  have hEa := hE a
  have hEn := hE n
  have hEb := hE R
  have hE1 := hE 1
  clear hE
  have HK := Lib.hid hK
  have HP := Lib.hid hP
  have HET := Lib.hid hET
  have HEa := Lib.hid hEa
  have HEn := Lib.hid hEn
  have HEb := Lib.hid hEb
  have HE1 := Lib.hid hE1
  have HRp := Lib.hid hRp
  have HI := Lib.hid hI
  have HO := Lib.hid hO
  have HIn := Lib.hid hIn
  have HRm := Lib.hid hRm
  clear hK hP hET hEa hEn hEb hE1 hRp hI hO hIn hRm
  have kw := Kept.refl w
  go_enter Try.func5, Try.ntmps5
  go_wp2_with fail
  refine (HK.out _).mono ?_
  rintro e W1 ⟨rfl, hkW1⟩
  have kW1 := kw.trans hkW1
  clear kw hkW1
  go_wp2_with fail
  refine (HP.out _).mono ?_
  rintro e W2 ⟨rfl, hkW2⟩
  have kW2 := kW1.trans hkW2
  clear kW1 hkW2
  go_wp2_with fail
  refine (HET.out _).mono ?_
  rintro e W3 ⟨rfl, hkW3⟩
  have kW3 := kW2.trans hkW3
  clear kW2 hkW3
  go_wp2_with fail
  refine (HEa.out _).mono ?_
  rintro e W4 ⟨rfl, hkW4⟩
  have kW4 := kW3.trans hkW4
  clear kW3 hkW4
  go_wp2_with fail
  refine (HEn.out _).mono ?_
  rintro e W5 ⟨rfl, hkW5⟩
  have kW5 := kW4.trans hkW5
  clear kW4 hkW5
  go_wp2_with fail
  refine (HRp.out _).mono ?_
  rintro e W6 ⟨rfl, hkW6⟩
  have kW6 := kW5.trans hkW6
  clear kW5 hkW6
  go_wp2_with fail
  refine (HI.out _).mono ?_
  rintro e W7 ⟨rfl, hkW7⟩
  have kW7 := kW6.trans hkW7
  clear kW6 hkW7
  go_wp2_with fail
  refine (HO.out _).mono ?_
  rintro e W8 ⟨rfl, hkW8⟩
  have kW8 := kW7.trans hkW8
  clear kW7 hkW8
  go_wp2_with fail
  refine (HIn.out _).mono ?_
  rintro e W9 ⟨rfl, hkW9⟩
  have kW9 := kW8.trans hkW9
  clear kW8 hkW9
  go_wp2_with fail
  refine (HEa.out _).mono ?_
  rintro e W10 ⟨rfl, hkW10⟩
  have kW10 := kW9.trans hkW10
  clear kW9 hkW10
  go_wp2_with fail
  refine (HEb.out _).mono ?_
  rintro e W11 ⟨rfl, hkW11⟩
  have kW11 := kW10.trans hkW11
  clear kW10 hkW11
  go_wp2_with fail
  refine (HRm.out _).mono ?_
  rintro e W12 ⟨rfl, hkW12⟩
  have kW12 := kW11.trans hkW12
  clear kW11 hkW12
  go_wp2_with fail
  refine (HE1.out _).mono ?_
  rintro e W13 ⟨rfl, hkW13⟩
  have kW13 := kW12.trans hkW13
  clear kW12 hkW13
  go_wp2_with fail
  go_ret
  exact ⟨rfl, kW13⟩

/-- The power by which a number is 1. -/
def eG : Nat := Int.toNat 18446744069414584319
theorem eG_eq : eG + 1 = gN - 1 := by decide +kernel

theorem fermat_goldI (a : Int) (h0 : 0 ≤ a) (h : a % gP ≠ 0) : a * (a ^ eG % gP) % gP = 1 := by
  obtain ⟨A, rfl⟩ := Int.eq_ofNat_of_zero_le h0
  have hA : A % gN ≠ 0 := by unfold gN; unfold gP at h; omega
  have hf := fermat_gold A hA
  rw [← eG_eq, Nat.pow_succ] at hf
  rw [Int.mul_emod, Int.emod_emod, ← Int.mul_emod]
  have e : (A : Int) * (A : Int) ^ eG = ((A ^ eG * A : Nat) : Int) := by
    rw [Int.natCast_mul, Int.natCast_pow, Int.mul_comm]
  rw [e, show gP = (gN : Int) from rfl, ← Int.natCast_emod, hf]
  rfl

theorem gold_powers_law (a : Int) (wa : (Lit.int .u64 a).wf = true) (n : Int) (wn : (Lit.int .u64 n).wf = true) (w : World) :
    Calls Try.prog 5 #[.int .u64 a, .int .u64 n] w fun e w' => e = .returned (.bool true) ∧ Kept w w' := by
  have ha := is64_mk wa
  have hn := is64_mk wn
  have rp := ref_Pow (f := 1) (a := a) (n := n.toNat) isF1 (is128_of64 ha) (by rw [Int.toNat_of_nonneg hn.1]; exact is128_of64 hn)
  rw [Int.toNat_of_nonneg hn.1, rOf1 ha, rP1, emod_pow, E_small ha, E_small hn, E_small (is64_emod _)] at rp
  by_cases h : a % gP = 0
  · have ho := g_Of ha
    rw [h] at ho
    exact gold_powers_no a n _ gold_Awake.pure law_e (g_Pow ha hn).pure rp (fun t w => by rw [run_neq28]; simp) (g_Inv_no ha h).pure ho.pure w
  · have hp := g_Pow (n := 18446744069414584319) ha (by unfold is64; omega)
    rw [show Int.toNat 18446744069414584319 = eG from rfl] at hp
    have hR : isG (a ^ eG % gP) := isG_emod _
    have hf := fermat_goldI a ha.1 h
    generalize a ^ eG % gP = R at *
    have hi := gold_Inv_yes a _ R (by simp [h]) (g_Of ha) hp
    have rm := ref_Mul isF1 (is128_of64 ha) (is128_of64 hR.is64)
    rw [rOf1 ha, rOf1 hR.is64, rP1, ← Int.mul_emod, hf, E_small ha, E_small hR.is64, E_small (a := 1) (by unfold is64; omega)] at rm
    have hin : Gives 34 #[.int .u64 R] (.bool true) := fun w => by
      have := gold_In R w
      rw [decide_eq_true (show R < 18446744069414584321 from hR.2)] at this
      exact this
    exact gold_powers_yes a n _ _ R gold_Awake.pure law_e (g_Pow ha hn).pure rp (fun t w => by rw [run_neq28]; simp) hi.pure (g_Of ha).pure (by simp [h]) hin.pure rm (fun t w => by rw [run_eql28]; simp) w

end Go.Proofs.Ytnajihlhcdedgaa

namespace Go.Proofs.Ytnajihlhcdedgaa
open Go.RowKit
set_option linter.unusedVariables false

/-- 7 to (2^32 - 1) times 2^k. -/
def gRoot (k : Nat) : Int := (7 : Int) ^ (4294967295 * 2 ^ k) % gP
theorem gRoot_succ (k : Nat) : gRoot k * gRoot k % gP = gRoot (k + 1) := by
  unfold gRoot
  rw [← Int.mul_emod, ← Int.pow_add]
  congr 2
  rw [Nat.pow_succ]; omega
theorem isG_gRoot (k : Nat) : isG (gRoot k) := isG_emod _

set_option maxHeartbeats 1000000 in
theorem gold_Root_in (l : Int) (r : Nat → Int) (h0 : 0 ≤ l) (h1 : l ≤ 32) (hR : Hid (Gives 39 #[.int .u64 7, .int .u64 4294967295] (.int .u64 (r 0)))) (hM : Hid (∀ k, Gives 28 #[.int .u64 (r k), .int .u64 (r k)] (.int .u64 (r (k + 1))))) (N : Nat) (hN : Hid (N = (32 - l).toNat)) :
    Gives 46 #[.int .i64 l] (.tuple #[.int .u64 (r N), .int .i64 0]) := fun w => by
  have hl1 : ¬ l < 0 := by omega
  have hl2 : ¬ 32 < l := by omega
  have hN1 : N ≤ 32 := by have := hN.out; omega
  have hN2 : (N : Int) ≤ 32 - l := by have := hN.out; omega
  have hN3 : 32 - l ≤ (N : Int) := by have := hN.out; omega
  go_enter Try.func46, Try.ntmps46
  go_wp2_with fail
  refine (hR.out _).mono ?_
  rintro e w' ⟨rfl, rfl⟩
  go_wp2_with fail
  go_loop [4, 14] (fun v i => ∃ k : Nat, k ≤ N ∧ i = .int .i64 k ∧ v = .int .u64 (r k)) (fun _ i => N - (intOf i).toNat)
  case atStart => exact ⟨0, Nat.zero_le _, rfl, rfl⟩
  case round =>
    obtain ⟨k, hk, rfl, rfl⟩ := hrel
    by_cases hlt : k < N
    · go_wp2_with fail
      refine (hM.out k _).mono ?_
      rintro e w' ⟨rfl, rfl⟩
      go_wp2_with fail
      go_round
      case rel => exact ⟨k + 1, by omega, by go_num, rfl⟩
      case measure => (simp [intOf]) <;> omega
    · have hkN : k = N := by omega
      go_wp2_with fail
      go_ret2
      rw [← hkN]
      exact ⟨rfl, rfl⟩

theorem g_Root {l : Int} (h0 : 0 ≤ l) (h1 : l ≤ 32) : Gives 46 #[.int .i64 l] (.tuple #[.int .u64 (gRoot (32 - l).toNat), .int .i64 0]) := by
  refine gold_Root_in l gRoot h0 h1 ?_ ?_ _ rfl
  · have := g_Pow (a := 7) (n := 4294967295) (by unfold is64; omega) (by unfold is64; omega)
    show Gives _ _ _
    have e : gRoot 0 = (7 : Int) ^ (4294967295 : Int).toNat % gP := by unfold gRoot; rw [Nat.pow_zero, Nat.mul_one]; rfl
    rw [e]
    exact this
  · intro k
    have := g_Mul (isG_gRoot k).is64 (isG_gRoot k).is64
    rw [gRoot_succ] at this
    exact this

theorem g_Root_no {l : Int} (h : l < 0 ∨ 32 < l) : Gives 46 #[.int .i64 l] (.tuple #[.int .u64 0, .int .i64 6]) := fun w => by
  rcases h with h | h
  · go_enter Try.func46, Try.ntmps46
    go_wp2_with fail
    go_ret2
    exact ⟨rfl, rfl⟩
  · have hl1 : ¬ l < 0 := by omega
    go_enter Try.func46, Try.ntmps46
    go_wp2_with fail
    go_ret2
    exact ⟨rfl, rfl⟩

theorem gRoot_val (k m : Nat) (h : pm gN 64 7 (4294967295 * 2 ^ k) = m) (hk : 4294967295 * 2 ^ k < 2 ^ 64) : gRoot k = (m : Int) := by
  rw [pm_eq gN 64 7 _ hk] at h
  unfold gRoot
  rw [← h, show gP = (gN : Int) from rfl]
  simp
theorem gRoot31 : gRoot 31 = 18446744069414584320 := gRoot_val 31 18446744069414584320 (by decide +kernel) (by decide +kernel)
theorem gRoot32 : gRoot 32 = 1 := gRoot_val 32 1 (by decide +kernel) (by decide +kernel)
theorem shr_val (l : Int) (h0 : 0 ≤ l) (h1 : l ≤ 32) : (18446744069414584320 : Int) / 2 ^ l.toNat = ((4294967295 * 2 ^ (32 - l).toNat : Nat) : Int) := by
  obtain ⟨L, rfl⟩ := Int.eq_ofNat_of_zero_le h0
  have hL : L ≤ 32 := by omega
  rw [Int.toNat_natCast, show ((32 : Int) - (L : Int)).toNat = 32 - L by omega]
  have e : (18446744069414584320 : Int) = ((4294967295 * 2 ^ (32 - L) : Nat) : Int) * 2 ^ L := by
    have h2 : (4294967295 * 2 ^ (32 - L)) * 2 ^ L = 18446744069414584320 := by
      rw [Nat.mul_assoc, ← Nat.pow_add, show 32 - L + L = 32 by omega]
    rw [show (18446744069414584320 : Int) = ((18446744069414584320 : Nat) : Int) from rfl, ← h2, Int.natCast_mul]
    simp
  rw [e]
  exact Int.mul_ediv_cancel _ (by have := pow_pos2 L; omega)
end Go.Proofs.Ytnajihlhcdedgaa

namespace Go.Proofs.Ytnajihlhcdedgaa
open Go.RowKit
set_option linter.unusedVariables false
set_option linter.unusedSimpArgs false

/-- A number's lowest bytes, so many, the lowest first. -/
def leBytes : Nat → Int → List Int
  | 0, _ => []
  | n + 1, x => x % 256 :: leBytes n (x / 256)
/-- Bytes as a number. -/
def leVal : List Int → Int
  | [] => 0
  | b :: r => b + 256 * leVal r
/-- A row of bytes. -/
def bytesV (l : List Int) : List Value := l.map (Value.int .u8)
def isByte (b : Int) : Prop := 0 ≤ b ∧ b ≤ 255

set_option maxRecDepth 100000 in
set_option maxHeartbeats 4000000 in
theorem gold_Bytes_in (a X : Int) (w : World) (x0 : 0 ≤ X) (x1 : X ≤ 18446744073709551615) (HO : Hid (Gives 31 #[.int .u64 a] (.int .u64 X))) :
    Calls Try.prog 42 #[.int .u64 a] w fun e w' => e = .returned (.agg #[.int .u8 (X % 256), .int .u8 (X / 256 % 256), .int .u8 (X / 65536 % 256), .int .u8 (X / 16777216 % 256), .int .u8 (X / 4294967296 % 256), .int .u8 (X / 1099511627776 % 256), .int .u8 (X / 281474976710656 % 256), .int .u8 (X / 72057594037927936)]) ∧ Kept w w' := by
  go_enter Try.func42, Try.ntmps42
  go_wp2_with fail
  refine (HO.out _).mono ?_
  rintro e w' ⟨rfl, rfl⟩
  go_wp2_with fail
  refine wp_loop_rounds 9 ?_
  iterate 9 (rw [rounds_succ]; go_wp2_with fail)
  refine bodyPost_ret (v := .agg #[.int .u8 (X % 256), .int .u8 (X / 256 % 256), .int .u8 (X / 65536 % 256), .int .u8 (X / 16777216 % 256), .int .u8 (X / 4294967296 % 256), .int .u8 (X / 1099511627776 % 256), .int .u8 (X / 281474976710656 % 256), .int .u8 (X / 72057594037927936)]) (by simp [results, Try.results42, go_sem]) rfl ⟨rfl, ?_⟩
  exact ((Kept.refl w).alloc _).alloc _

theorem div_256 (X : Int) (n : Int) (h : 0 ≤ n) : X / n / 256 = X / (n * 256) := Int.ediv_ediv_of_nonneg h
theorem leBytes8 (X : Int) : leBytes 8 X = [X % 256, X / 256 % 256, X / 65536 % 256, X / 16777216 % 256, X / 4294967296 % 256, X / 1099511627776 % 256, X / 281474976710656 % 256, X / 72057594037927936 % 256] := by
  simp only [leBytes]
  rw [div_256 X 256 (by omega), div_256 X _ (by omega), div_256 X _ (by omega), div_256 X _ (by omega), div_256 X _ (by omega), div_256 X _ (by omega)]
  rfl

theorem g_Bytes {a : Int} (ha : is64 a) : Pure Try.prog 42 #[.int .u64 a] (.agg (bytesV (leBytes 8 (a % gP))).toArray) := fun w => by
  rw [leBytes8]
  have hx := is64_emod a
  have key := gold_Bytes_in a _ w hx.1 hx.2 (g_Of ha)
  have e : a % gP / 72057594037927936 = a % gP / 72057594037927936 % 256 := by unfold is64 at hx; omega
  rw [← e]
  exact key

set_option maxRecDepth 100000 in
set_option maxHeartbeats 4000000 in
theorem gold_Take_yes (b0 v0 b1 v1 b2 v2 b3 v3 b4 v4 b5 v5 b6 v6 b7 v7 : Int) (w : World) (l0 : 0 ≤ b0) (u0 : b0 ≤ 255) (l1 : 0 ≤ b1) (u1 : b1 ≤ 255) (l2 : 0 ≤ b2) (u2 : b2 ≤ 255) (l3 : 0 ≤ b3) (u3 : b3 ≤ 255) (l4 : 0 ≤ b4) (u4 : b4 ≤ 255) (l5 : 0 ≤ b5) (u5 : b5 ≤ 255) (l6 : 0 ≤ b6) (u6 : b6 ≤ 255) (l7 : 0 ≤ b7) (u7 : b7 ≤ 255)
    (o0 : bits .or .u64 0 b0 = v0) (o1 : bits .or .u64 v0 (b1 * 256) = v1) (o2 : bits .or .u64 v1 (b2 * 65536) = v2) (o3 : bits .or .u64 v2 (b3 * 16777216) = v3) (o4 : bits .or .u64 v3 (b4 * 4294967296) = v4) (o5 : bits .or .u64 v4 (b5 * 1099511627776) = v5) (o6 : bits .or .u64 v5 (b6 * 281474976710656) = v6) (o7 : bits .or .u64 v6 (b7 * 72057594037927936) = v7) (HI : Hid (Gives 34 #[.int .u64 v7] (.bool true))) :
    Calls Try.prog 43 #[.agg #[.int .u8 b0, .int .u8 b1, .int .u8 b2, .int .u8 b3, .int .u8 b4, .int .u8 b5, .int .u8 b6, .int .u8 b7]] w fun e w' => e = .returned (.tuple #[.int .u64 v7, .int .i64 0]) ∧ Kept w w' := by
  have i0 : ∀ w, (Instr.index 37 (.agg #[.int .u8 b0, .int .u8 b1, .int .u8 b2, .int .u8 b3, .int .u8 b4, .int .u8 b5, .int .u8 b6, .int .u8 b7]) (.int .i64 0)).run Try.prog w = .ok (.int .u8 b0) w := fun _ => by kernel_rfl
  have i1 : ∀ w, (Instr.index 37 (.agg #[.int .u8 b0, .int .u8 b1, .int .u8 b2, .int .u8 b3, .int .u8 b4, .int .u8 b5, .int .u8 b6, .int .u8 b7]) (.int .i64 1)).run Try.prog w = .ok (.int .u8 b1) w := fun _ => by kernel_rfl
  have i2 : ∀ w, (Instr.index 37 (.agg #[.int .u8 b0, .int .u8 b1, .int .u8 b2, .int .u8 b3, .int .u8 b4, .int .u8 b5, .int .u8 b6, .int .u8 b7]) (.int .i64 2)).run Try.prog w = .ok (.int .u8 b2) w := fun _ => by kernel_rfl
  have i3 : ∀ w, (Instr.index 37 (.agg #[.int .u8 b0, .int .u8 b1, .int .u8 b2, .int .u8 b3, .int .u8 b4, .int .u8 b5, .int .u8 b6, .int .u8 b7]) (.int .i64 3)).run Try.prog w = .ok (.int .u8 b3) w := fun _ => by kernel_rfl
  have i4 : ∀ w, (Instr.index 37 (.agg #[.int .u8 b0, .int .u8 b1, .int .u8 b2, .int .u8 b3, .int .u8 b4, .int .u8 b5, .int .u8 b6, .int .u8 b7]) (.int .i64 4)).run Try.prog w = .ok (.int .u8 b4) w := fun _ => by kernel_rfl
  have i5 : ∀ w, (Instr.index 37 (.agg #[.int .u8 b0, .int .u8 b1, .int .u8 b2, .int .u8 b3, .int .u8 b4, .int .u8 b5, .int .u8 b6, .int .u8 b7]) (.int .i64 5)).run Try.prog w = .ok (.int .u8 b5) w := fun _ => by kernel_rfl
  have i6 : ∀ w, (Instr.index 37 (.agg #[.int .u8 b0, .int .u8 b1, .int .u8 b2, .int .u8 b3, .int .u8 b4, .int .u8 b5, .int .u8 b6, .int .u8 b7]) (.int .i64 6)).run Try.prog w = .ok (.int .u8 b6) w := fun _ => by kernel_rfl
  have i7 : ∀ w, (Instr.index 37 (.agg #[.int .u8 b0, .int .u8 b1, .int .u8 b2, .int .u8 b3, .int .u8 b4, .int .u8 b5, .int .u8 b6, .int .u8 b7]) (.int .i64 7)).run Try.prog w = .ok (.int .u8 b7) w := fun _ => by kernel_rfl
  go_enter Try.func43, Try.ntmps43
  go_wp2_with fail
  refine wp_loop_rounds 9 ?_
  iterate 9 (rw [rounds_succ]; go_wp2_with fail)
  refine (HI.out _).mono ?_
  rintro e w' ⟨rfl, rfl⟩
  go_wp2_with fail
  go_ret2
  exact ⟨rfl, (Kept.refl w).alloc _⟩

set_option maxRecDepth 100000 in
set_option maxHeartbeats 4000000 in
theorem gold_Take_no (b0 v0 b1 v1 b2 v2 b3 v3 b4 v4 b5 v5 b6 v6 b7 v7 : Int) (w : World) (l0 : 0 ≤ b0) (u0 : b0 ≤ 255) (l1 : 0 ≤ b1) (u1 : b1 ≤ 255) (l2 : 0 ≤ b2) (u2 : b2 ≤ 255) (l3 : 0 ≤ b3) (u3 : b3 ≤ 255) (l4 : 0 ≤ b4) (u4 : b4 ≤ 255) (l5 : 0 ≤ b5) (u5 : b5 ≤ 255) (l6 : 0 ≤ b6) (u6 : b6 ≤ 255) (l7 : 0 ≤ b7) (u7 : b7 ≤ 255)
    (o0 : bits .or .u64 0 b0 = v0) (o1 : bits .or .u64 v0 (b1 * 256) = v1) (o2 : bits .or .u64 v1 (b2 * 65536) = v2) (o3 : bits .or .u64 v2 (b3 * 16777216) = v3) (o4 : bits .or .u64 v3 (b4 * 4294967296) = v4) (o5 : bits .or .u64 v4 (b5 * 1099511627776) = v5) (o6 : bits .or .u64 v5 (b6 * 281474976710656) = v6) (o7 : bits .or .u64 v6 (b7 * 72057594037927936) = v7) (HI : Hid (Gives 34 #[.int .u64 v7] (.bool false))) :
    Calls Try.prog 43 #[.agg #[.int .u8 b0, .int .u8 b1, .int .u8 b2, .int .u8 b3, .int .u8 b4, .int .u8 b5, .int .u8 b6, .int .u8 b7]] w fun e w' => e = .returned (.tuple #[.int .u64 0, .int .i64 7]) ∧ Kept w w' := by
  have i0 : ∀ w, (Instr.index 37 (.agg #[.int .u8 b0, .int .u8 b1, .int .u8 b2, .int .u8 b3, .int .u8 b4, .int .u8 b5, .int .u8 b6, .int .u8 b7]) (.int .i64 0)).run Try.prog w = .ok (.int .u8 b0) w := fun _ => by kernel_rfl
  have i1 : ∀ w, (Instr.index 37 (.agg #[.int .u8 b0, .int .u8 b1, .int .u8 b2, .int .u8 b3, .int .u8 b4, .int .u8 b5, .int .u8 b6, .int .u8 b7]) (.int .i64 1)).run Try.prog w = .ok (.int .u8 b1) w := fun _ => by kernel_rfl
  have i2 : ∀ w, (Instr.index 37 (.agg #[.int .u8 b0, .int .u8 b1, .int .u8 b2, .int .u8 b3, .int .u8 b4, .int .u8 b5, .int .u8 b6, .int .u8 b7]) (.int .i64 2)).run Try.prog w = .ok (.int .u8 b2) w := fun _ => by kernel_rfl
  have i3 : ∀ w, (Instr.index 37 (.agg #[.int .u8 b0, .int .u8 b1, .int .u8 b2, .int .u8 b3, .int .u8 b4, .int .u8 b5, .int .u8 b6, .int .u8 b7]) (.int .i64 3)).run Try.prog w = .ok (.int .u8 b3) w := fun _ => by kernel_rfl
  have i4 : ∀ w, (Instr.index 37 (.agg #[.int .u8 b0, .int .u8 b1, .int .u8 b2, .int .u8 b3, .int .u8 b4, .int .u8 b5, .int .u8 b6, .int .u8 b7]) (.int .i64 4)).run Try.prog w = .ok (.int .u8 b4) w := fun _ => by kernel_rfl
  have i5 : ∀ w, (Instr.index 37 (.agg #[.int .u8 b0, .int .u8 b1, .int .u8 b2, .int .u8 b3, .int .u8 b4, .int .u8 b5, .int .u8 b6, .int .u8 b7]) (.int .i64 5)).run Try.prog w = .ok (.int .u8 b5) w := fun _ => by kernel_rfl
  have i6 : ∀ w, (Instr.index 37 (.agg #[.int .u8 b0, .int .u8 b1, .int .u8 b2, .int .u8 b3, .int .u8 b4, .int .u8 b5, .int .u8 b6, .int .u8 b7]) (.int .i64 6)).run Try.prog w = .ok (.int .u8 b6) w := fun _ => by kernel_rfl
  have i7 : ∀ w, (Instr.index 37 (.agg #[.int .u8 b0, .int .u8 b1, .int .u8 b2, .int .u8 b3, .int .u8 b4, .int .u8 b5, .int .u8 b6, .int .u8 b7]) (.int .i64 7)).run Try.prog w = .ok (.int .u8 b7) w := fun _ => by kernel_rfl
  go_enter Try.func43, Try.ntmps43
  go_wp2_with fail
  refine wp_loop_rounds 9 ?_
  iterate 9 (rw [rounds_succ]; go_wp2_with fail)
  refine (HI.out _).mono ?_
  rintro e w' ⟨rfl, rfl⟩
  go_wp2_with fail
  go_ret2
  exact ⟨rfl, (Kept.refl w).alloc _⟩


theorem bits_or_add (v b : Int) (k : Nat) (hv0 : 0 ≤ v) (hv : v < 2 ^ k) (hb0 : 0 ≤ b) (hlt : v + b * 2 ^ k ≤ 18446744073709551615) : bits .or .u64 v (b * 2 ^ k) = v + b * 2 ^ k := by
  obtain ⟨V, rfl⟩ := Int.eq_ofNat_of_zero_le hv0
  obtain ⟨B, rfl⟩ := Int.eq_ofNat_of_zero_le hb0
  have e : (B : Int) * 2 ^ k = ((B * 2 ^ k : Nat) : Int) := by simp
  rw [e] at hlt ⊢
  have hv' : V < 2 ^ k := by
    have : ((2 ^ k : Nat) : Int) = 2 ^ k := by simp
    omega
  rw [bits_or_u64_nat V (B * 2 ^ k) (by omega) (by omega), Nat.or_comm, Nat.mul_comm B, ← Nat.two_pow_add_eq_or_of_lt hv']
  omega

theorem leVal_lo : ∀ (l : List Int), (∀ b ∈ l, isByte b) → 0 ≤ leVal l
  | [], _ => by simp [leVal]
  | b :: r, h => by
    have := leVal_lo r fun x hx => h x (by simp [hx])
    have := h b (by simp)
    unfold isByte at this
    simp only [leVal]; omega

theorem g_Take {bs : List Int} (hl : bs.length = 8) (hb : ∀ b ∈ bs, isByte b) :
    Pure Try.prog 43 #[.agg (bytesV bs).toArray] (if leVal bs < gP then .tuple #[.int .u64 (leVal bs), .int .i64 0] else .tuple #[.int .u64 0, .int .i64 7]) := fun w => by
  match bs, hl with
  | [b0, b1, b2, b3, b4, b5, b6, b7], _ =>
    have h0 := hb b0 (by simp)
    have h1 := hb b1 (by simp)
    have h2 := hb b2 (by simp)
    have h3 := hb b3 (by simp)
    have h4 := hb b4 (by simp)
    have h5 := hb b5 (by simp)
    have h6 := hb b6 (by simp)
    have h7 := hb b7 (by simp)
    unfold isByte at h0 h1 h2 h3 h4 h5 h6 h7
    have e : leVal [b0, b1, b2, b3, b4, b5, b6, b7] = b0 + b1 * 256 + b2 * 65536 + b3 * 16777216 + b4 * 4294967296 + b5 * 1099511627776 + b6 * 281474976710656 + b7 * 72057594037927936 := by simp only [leVal]; omega
    have hin : Gives 34 #[.int .u64 (b0 + b1 * 256 + b2 * 65536 + b3 * 16777216 + b4 * 4294967296 + b5 * 1099511627776 + b6 * 281474976710656 + b7 * 72057594037927936)] (.bool (decide (b0 + b1 * 256 + b2 * 65536 + b3 * 16777216 + b4 * 4294967296 + b5 * 1099511627776 + b6 * 281474976710656 + b7 * 72057594037927936 < gP))) := fun w => gold_In _ w
    rw [e]
    have o0 : bits .or .u64 0 b0 = b0 := by
      have := bits_or_add 0 b0 0 (by omega) (by omega) (by omega) (by omega)
      simpa using this
    have o1 : bits .or .u64 (b0) (b1 * 256) = b0 + b1 * 256 := bits_or_add _ b1 8 (by omega) (by omega) (by omega) (by omega)
    have o2 : bits .or .u64 (b0 + b1 * 256) (b2 * 65536) = b0 + b1 * 256 + b2 * 65536 := bits_or_add _ b2 16 (by omega) (by omega) (by omega) (by omega)
    have o3 : bits .or .u64 (b0 + b1 * 256 + b2 * 65536) (b3 * 16777216) = b0 + b1 * 256 + b2 * 65536 + b3 * 16777216 := bits_or_add _ b3 24 (by omega) (by omega) (by omega) (by omega)
    have o4 : bits .or .u64 (b0 + b1 * 256 + b2 * 65536 + b3 * 16777216) (b4 * 4294967296) = b0 + b1 * 256 + b2 * 65536 + b3 * 16777216 + b4 * 4294967296 := bits_or_add _ b4 32 (by omega) (by omega) (by omega) (by omega)
    have o5 : bits .or .u64 (b0 + b1 * 256 + b2 * 65536 + b3 * 16777216 + b4 * 4294967296) (b5 * 1099511627776) = b0 + b1 * 256 + b2 * 65536 + b3 * 16777216 + b4 * 4294967296 + b5 * 1099511627776 := bits_or_add _ b5 40 (by omega) (by omega) (by omega) (by omega)
    have o6 : bits .or .u64 (b0 + b1 * 256 + b2 * 65536 + b3 * 16777216 + b4 * 4294967296 + b5 * 1099511627776) (b6 * 281474976710656) = b0 + b1 * 256 + b2 * 65536 + b3 * 16777216 + b4 * 4294967296 + b5 * 1099511627776 + b6 * 281474976710656 := bits_or_add _ b6 48 (by omega) (by omega) (by omega) (by omega)
    have o7 : bits .or .u64 (b0 + b1 * 256 + b2 * 65536 + b3 * 16777216 + b4 * 4294967296 + b5 * 1099511627776 + b6 * 281474976710656) (b7 * 72057594037927936) = b0 + b1 * 256 + b2 * 65536 + b3 * 16777216 + b4 * 4294967296 + b5 * 1099511627776 + b6 * 281474976710656 + b7 * 72057594037927936 := bits_or_add _ b7 56 (by omega) (by omega) (by omega) (by omega)
    by_cases h : b0 + b1 * 256 + b2 * 65536 + b3 * 16777216 + b4 * 4294967296 + b5 * 1099511627776 + b6 * 281474976710656 + b7 * 72057594037927936 < gP
    · rw [if_pos h]
      rw [decide_eq_true h] at hin
      exact gold_Take_yes b0 _ b1 _ b2 _ b3 _ b4 _ b5 _ b6 _ b7 _ w h0.1 h0.2 h1.1 h1.2 h2.1 h2.2 h3.1 h3.2 h4.1 h4.2 h5.1 h5.2 h6.1 h6.2 h7.1 h7.2 o0 o1 o2 o3 o4 o5 o6 o7 hin
    · rw [if_neg h]
      rw [decide_eq_false h] at hin
      exact gold_Take_no b0 _ b1 _ b2 _ b3 _ b4 _ b5 _ b6 _ b7 _ w h0.1 h0.2 h1.1 h1.2 h2.1 h2.2 h3.1 h3.2 h4.1 h4.2 h5.1 h5.2 h6.1 h6.2 h7.1 h7.2 o0 o1 o2 o3 o4 o5 o6 o7 hin

end Go.Proofs.Ytnajihlhcdedgaa

namespace Go.Proofs.Ytnajihlhcdedgaa
open Go.RowKit
set_option linter.unusedVariables false
set_option linter.unusedSimpArgs false
attribute [local simp] blkAt_setCell blkAt_alloc blkAt_drew Obj.put_cells

theorem ref_Size {f : Int} (hf : isF f) : Pure Try.prog 107 #[.int .i64 f] (.int .i64 (8 * f)) := fun w => by
  have h0 : 0 ≤ f := by unfold isF at hf; omega
  have h1 : f ≤ 2 := by unfold isF at hf; omega
  clear hf
  go_enter Try.func107, Try.ntmps107
  go_wp2_with fail
  go_ret
  exact ⟨rfl, Kept.refl _⟩

set_option maxRecDepth 100000 in
set_option maxHeartbeats 4000000 in
theorem ref_In_raw1 (a0 a1 : Int) (e : Bool) (p : Value)
    (hP : Pure Try.prog 59 #[.int .i64 1] p) (hL : Pure Try.prog 113 #[.agg #[.int .u64 a0, .int .u64 a1], p] (.bool e)) :
    Pure Try.prog 93 #[.int .i64 1, .agg #[.int .u64 a0, .int .u64 a1]] (.bool e) := fun w => by
  have HP := Lib.hid hP
  have HL := Lib.hid hL
  clear hP hL
  go_enter Try.func93, Try.ntmps93
  go_wp2_with fail
  refine abs_world (fun W => Kept w W ∧ Blk W (w.heap.size) 28 #[.int .u64 a0, .int .u64 a1]) ?_ ?_
  · refine ⟨?_, ?_⟩
    · repeat (first | exact Kept.refl _ | (refine Kept.setCell ?_ (kept_side (by first | assumption | omega)) _) | apply Kept.alloc | apply Kept.drew)
    · simp [Blk, *] <;> (intros; omega)
  rintro W1 ⟨kW1, BW1_0⟩
  have cW1_0_0 : W1.cell? ⟨w.heap.size, 0, none⟩ = some (.int .u64 a0) := BW1_0.cell 0 rfl
  have cW1_0_1 : W1.cell? ⟨w.heap.size, 1, none⟩ = some (.int .u64 a1) := BW1_0.cell 1 rfl
  have fW1_0 := BW1_0.free
  refine wp_region_calm 12 (by kernel_rfl) (by kernel_rfl) ?_
  simp only [List.take_succ_cons, List.take_zero, List.drop_succ_cons, List.drop_zero]
  repeat (first
    | (refine calm_skip rfl ?_; simp only [Act.put, List.setIfInBounds_toArray, List.set_cons_zero, List.set_cons_succ])
    | (refine calm_ex rfl ?_; apply Exists.intro; refine And.intro (fun w' hk => ?_) ?_; (focus (have q0 := hk.cell cW1_0_0; have q1 := hk.cell cW1_0_1; clear hk; go_simp; exact rfl)); simp only [Act.put, List.setIfInBounds_toArray, List.set_cons_zero, List.set_cons_succ])
    | (refine calm_step _ rfl (HP.out.call ?_) ?_; (focus (intro w'; go_simp; done)); simp only [Act.put, List.setIfInBounds_toArray, List.set_cons_zero, List.set_cons_succ])
    | (refine calm_step _ rfl (HL.out.call ?_) ?_; (focus (intro w'; go_simp; done)); simp only [Act.put, List.setIfInBounds_toArray, List.set_cons_zero, List.set_cons_succ]))
  refine calm_nil ?_
  intro W2 hkW2
  have kW2 := kW1.trans hkW2
  have BW2_0 := BW1_0.kept hkW2
  clear cW1_0_0 cW1_0_1 fW1_0 BW1_0 kW1 hkW2
  have cW2_0_0 : W2.cell? ⟨w.heap.size, 0, none⟩ = some (.int .u64 a0) := BW2_0.cell 0 rfl
  have cW2_0_1 : W2.cell? ⟨w.heap.size, 1, none⟩ = some (.int .u64 a1) := BW2_0.cell 1 rfl
  have fW2_0 := BW2_0.free
  go_wp2_with fail
  go_ret
  exact ⟨rfl, kW2⟩

set_option maxRecDepth 100000 in
set_option maxHeartbeats 4000000 in
theorem ref_In_raw2 (a0 a1 : Int) (e : Bool) (p : Value)
    (hP : Pure Try.prog 59 #[.int .i64 2] p) (hL : Pure Try.prog 113 #[.agg #[.int .u64 a0, .int .u64 a1], p] (.bool e)) :
    Pure Try.prog 93 #[.int .i64 2, .agg #[.int .u64 a0, .int .u64 a1]] (.bool e) := fun w => by
  have HP := Lib.hid hP
  have HL := Lib.hid hL
  clear hP hL
  go_enter Try.func93, Try.ntmps93
  go_wp2_with fail
  refine abs_world (fun W => Kept w W ∧ Blk W (w.heap.size) 28 #[.int .u64 a0, .int .u64 a1]) ?_ ?_
  · refine ⟨?_, ?_⟩
    · repeat (first | exact Kept.refl _ | (refine Kept.setCell ?_ (kept_side (by first | assumption | omega)) _) | apply Kept.alloc | apply Kept.drew)
    · simp [Blk, *] <;> (intros; omega)
  rintro W1 ⟨kW1, BW1_0⟩
  have cW1_0_0 : W1.cell? ⟨w.heap.size, 0, none⟩ = some (.int .u64 a0) := BW1_0.cell 0 rfl
  have cW1_0_1 : W1.cell? ⟨w.heap.size, 1, none⟩ = some (.int .u64 a1) := BW1_0.cell 1 rfl
  have fW1_0 := BW1_0.free
  refine wp_region_calm 12 (by kernel_rfl) (by kernel_rfl) ?_
  simp only [List.take_succ_cons, List.take_zero, List.drop_succ_cons, List.drop_zero]
  repeat (first
    | (refine calm_skip rfl ?_; simp only [Act.put, List.setIfInBounds_toArray, List.set_cons_zero, List.set_cons_succ])
    | (refine calm_ex rfl ?_; apply Exists.intro; refine And.intro (fun w' hk => ?_) ?_; (focus (have q0 := hk.cell cW1_0_0; have q1 := hk.cell cW1_0_1; clear hk; go_simp; exact rfl)); simp only [Act.put, List.setIfInBounds_toArray, List.set_cons_zero, List.set_cons_succ])
    | (refine calm_step _ rfl (HP.out.call ?_) ?_; (focus (intro w'; go_simp; done)); simp only [Act.put, List.setIfInBounds_toArray, List.set_cons_zero, List.set_cons_succ])
    | (refine calm_step _ rfl (HL.out.call ?_) ?_; (focus (intro w'; go_simp; done)); simp only [Act.put, List.setIfInBounds_toArray, List.set_cons_zero, List.set_cons_succ]))
  refine calm_nil ?_
  intro W2 hkW2
  have kW2 := kW1.trans hkW2
  have BW2_0 := BW1_0.kept hkW2
  clear cW1_0_0 cW1_0_1 fW1_0 BW1_0 kW1 hkW2
  have cW2_0_0 : W2.cell? ⟨w.heap.size, 0, none⟩ = some (.int .u64 a0) := BW2_0.cell 0 rfl
  have cW2_0_1 : W2.cell? ⟨w.heap.size, 1, none⟩ = some (.int .u64 a1) := BW2_0.cell 1 rfl
  have fW2_0 := BW2_0.free
  go_wp2_with fail
  go_ret
  exact ⟨rfl, kW2⟩

theorem ref_In {f a : Int} (hf : isF f) (ha : is128 a) : Pure Try.prog 93 #[.int .i64 f, E a] (.bool (decide (a < rP f))) := by
  have hP := ref_P hf
  have hL := ref_Less ha (is128_rP f)
  rcases hf with rfl | rfl
  · exact ref_In_raw1 _ _ _ _ hP hL
  · exact ref_In_raw2 _ _ _ _ hP hL
end Go.Proofs.Ytnajihlhcdedgaa

namespace Go.Proofs.Ytnajihlhcdedgaa
open Go.RowKit
set_option linter.unusedVariables false
set_option linter.unusedSimpArgs false
attribute [local simp] blkAt_setCell blkAt_alloc blkAt_drew Obj.put_cells

theorem div256_succ (c : Int) (k : Nat) : c / 256 ^ (k + 1) = c / 256 ^ k / 256 := by
  rw [Int.pow_succ, Int.ediv_ediv_of_nonneg (Int.le_of_lt (Int.pow_pos (by omega)))]

set_option maxRecDepth 100000 in
set_option maxHeartbeats 4000000 in
theorem ref_Bytes_raw (f a0 a1 x0 x1 : Int) (N : Nat) (bt : Nat → Int) (hN : N ≤ 16) (x00 : 0 ≤ x0) (x01 : x0 ≤ 18446744073709551615) (x10 : 0 ≤ x1) (x11 : x1 ≤ 18446744073709551615)
    (hA : Pure Try.prog 32 #[.int .i64 f, .agg #[.int .u64 a0, .int .u64 a1]] (.agg #[.int .u64 x0, .int .u64 x1]))
    (hS : Pure Try.prog 107 #[.int .i64 f] (.int .i64 (N : Int)))
    (hb0 : Hid (∀ i : Nat, i < 8 → x0 / 256 ^ i % 256 = bt i)) (hb1 : Hid (∀ i : Nat, i < 8 → x1 / 256 ^ i % 256 = bt (8 + i))) (w : World) :
    Calls Try.prog 45 #[.int .i64 f, .agg #[.int .u64 a0, .int .u64 a1]] w fun e w' => ∃ v, e = .returned v ∧ w'.ownsRow (w.heap.size + 1) 5 1 v N ((List.range N).map fun j => Value.int .u8 (bt j)) ∧ Kept w w' := by
  have HA := Lib.hid hA
  have HS := Lib.hid hS
  clear hA hS
  go_enter Try.func45, Try.ntmps45
  go_wp2_with fail
  refine abs_calls (fun W => Kept w W ∧ Blk W (w.heap.size) 28 #[.int .u64 a0, .int .u64 a1]) ?_ ?_
  · refine ⟨?_, ?_⟩
    · repeat (first | exact Kept.refl _ | (refine Kept.setCell ?_ (kept_side (by first | assumption | omega)) _) | apply Kept.alloc | apply Kept.drew)
    · simp [Blk, *] <;> (intros; omega)
  rintro W1 ⟨kW1, BW1_0⟩
  have cW1_0_0 : W1.cell? ⟨w.heap.size, 0, none⟩ = some (.int .u64 a0) := BW1_0.cell 0 rfl
  have cW1_0_1 : W1.cell? ⟨w.heap.size, 1, none⟩ = some (.int .u64 a1) := BW1_0.cell 1 rfl
  have fW1_0 := BW1_0.free
  refine (HA.out _).mono ?_
  rintro e W2 ⟨rfl, hkW2⟩
  have kW2 := kW1.trans hkW2
  have BW2_0 := BW1_0.kept hkW2
  clear cW1_0_0 cW1_0_1 fW1_0 BW1_0 kW1 hkW2
  have cW2_0_0 : W2.cell? ⟨w.heap.size, 0, none⟩ = some (.int .u64 a0) := BW2_0.cell 0 rfl
  have cW2_0_1 : W2.cell? ⟨w.heap.size, 1, none⟩ = some (.int .u64 a1) := BW2_0.cell 1 rfl
  have fW2_0 := BW2_0.free
  go_wp2_with fail
  refine abs_world (fun W => Kept w W ∧ Blk W (w.heap.size) 28 #[.int .u64 x0, .int .u64 x1]) ?_ ?_
  · refine ⟨?_, ?_⟩
    · repeat (first | exact kW2 | (refine Kept.setCell ?_ (kept_side (by first | assumption | omega)) _) | apply Kept.alloc | apply Kept.drew)
    · simp [Blk, *] <;> (intros; omega)
  rintro W3 ⟨kW3, BW3_0⟩
  have cW3_0_0 : W3.cell? ⟨w.heap.size, 0, none⟩ = some (.int .u64 x0) := BW3_0.cell 0 rfl
  have cW3_0_1 : W3.cell? ⟨w.heap.size, 1, none⟩ = some (.int .u64 x1) := BW3_0.cell 1 rfl
  have fW3_0 := BW3_0.free
  have hz1 : w.heap.size + 1 ≤ W3.heap.size := by have := BW3_0.lt; omega
  go_loopw [5, 6] (fun v t wr => ∃ i : Nat, i ≤ N ∧ t = .int .i64 i ∧ Kept w wr ∧ Blk wr (w.heap.size) 28 #[.int .u64 x0, .int .u64 x1] ∧ wr.ownsRow (w.heap.size + 1) 5 1 v i ((List.range i).map fun j => Value.int .u8 (bt j))) (fun _ t _ => N - (intOf t).toNat)
  case atStart => exact ⟨0, Nat.zero_le _, rfl, kW3, BW3_0, World.ownsRow_nil _ _ _ _⟩
  case round =>
    obtain ⟨i, hi, rfl, kwr, Bwr_0, hown⟩ := hrel
    clear cW3_0_0 cW3_0_1 fW3_0 BW3_0 kW3 hz1
    by_cases hlt : i < N
    · have hlt' := hlt
      have cwr_0_0 : wr.cell? ⟨w.heap.size, 0, none⟩ = some (.int .u64 x0) := Bwr_0.cell 0 rfl
      have cwr_0_1 : wr.cell? ⟨w.heap.size, 1, none⟩ = some (.int .u64 x1) := Bwr_0.cell 1 rfl
      have fwr_0 := Bwr_0.free
      go_wp2_with fail
      refine (HS.out _).mono ?_
      rintro e W4 ⟨rfl, hkW4⟩
      have hown2 := ownsRow_kept hown hkW4
      clear hown
      have kW4 := kwr.trans hkW4
      have BW4_0 := Bwr_0.kept hkW4
      clear cwr_0_0 cwr_0_1 fwr_0 Bwr_0 kwr hkW4
      have cW4_0_0 : W4.cell? ⟨w.heap.size, 0, none⟩ = some (.int .u64 x0) := BW4_0.cell 0 rfl
      have cW4_0_1 : W4.cell? ⟨w.heap.size, 1, none⟩ = some (.int .u64 x1) := BW4_0.cell 1 rfl
      have fW4_0 := BW4_0.free
      obtain ⟨x, hx0, hx1, hcx, hbx⟩ : ∃ x : Int, 0 ≤ x ∧ x ≤ 18446744073709551615 ∧ W4.cell? ⟨w.heap.size, i / 8, none⟩ = some (.int .u64 x) ∧ Hid (x / 256 ^ (i % 8) % 256 = bt i) := by
        by_cases h8 : i < 8
        · refine ⟨x0, x00, x01, ?_, ?_⟩
          · rw [show i / 8 = 0 by omega]; exact cW4_0_0
          · have := hb0.out i h8; rw [show i % 8 = i by omega]; exact this
        · refine ⟨x1, x10, x11, ?_, ?_⟩
          · rw [show i / 8 = 1 by omega]; exact cW4_0_1
          · have := hb1.out (i - 8) (by omega); rw [show 8 + (i - 8) = i by omega] at this; rw [show i % 8 = i - 8 by omega]; exact this
      go_wp2_with fail
      go_loop [7, 8] (fun v t => ∃ k : Nat, k ≤ i % 8 ∧ t = .int .i64 k ∧ ∃ y : Int, 0 ≤ y ∧ y ≤ 18446744073709551615 ∧ v = .int .u64 y ∧ Hid (y = x / 256 ^ k)) (fun _ t => i % 8 - (intOf t).toNat)
      case atStart => exact ⟨0, Nat.zero_le _, rfl, x, hx0, hx1, rfl, by show x = x / 256 ^ 0; simp⟩
      case round =>
        obtain ⟨k, hk, rfl, y, hy0, hy1, rfl, hy⟩ := hrel
        by_cases hkl : k < i % 8
        · go_wp2_with fail
          go_round
          case rel => exact ⟨k + 1, by omega, by go_num, y / 256, by omega, by omega, rfl, by show _ = _; rw [hy.out, div256_succ]⟩
          case measure => simp [intOf]; omega
        · have hkm : Hid (k = i % 8) := by show k = i % 8; omega
          have hby : Hid (y % 256 = bt i) := by show y % 256 = bt i; rw [hy.out, hkm.out]; exact hbx.out
          have hkl2 : (i : Int) % 8 ≤ (k : Int) := by omega
          clear hkl hbx hcx
          have hbase : w.heap.size + 1 ≤ W4.heap.size := by have := BW4_0.lt; omega
          go_wp2_with (at_builtin; refine wpList_append_one 42 5 info5 Try.underlying42 rfl (by decide) hown2 [.int .u8 (y % 256)] rfl (by intro u hu; simp at hu; subst hu; rfl) (by omega) (by decide) hbase (.tmp 30) (.tmp 34) rfl rfl rfl rfl ?_; intro v' w1 hown3 hgrow hne)
          have kw1 := grown_kept kW4 hown2 hgrow (by omega)
          have Bw1 := grown_blk BW4_0 hown2 hgrow (by omega)
          clear hown2 hgrow hbase cW4_0_0 cW4_0_1 fW4_0 BW4_0 kW4
          go_wp2_with fail
          go_roundw
          case rel => exact ⟨i + 1, by omega, by go_num, kw1, Bw1, by rw [List.range_succ, List.map_append, List.map_singleton, ← hby.out]; exact hown3⟩
          case measure => simp [intOf]; omega
    · have hge := hlt
      have cwr_0_0 : wr.cell? ⟨w.heap.size, 0, none⟩ = some (.int .u64 x0) := Bwr_0.cell 0 rfl
      have cwr_0_1 : wr.cell? ⟨w.heap.size, 1, none⟩ = some (.int .u64 x1) := Bwr_0.cell 1 rfl
      have fwr_0 := Bwr_0.free
      go_wp2_with fail
      refine (HS.out _).mono ?_
      rintro e W5 ⟨rfl, hkW5⟩
      have hown2 := ownsRow_kept hown hkW5
      clear hown
      have kW5 := kwr.trans hkW5
      have BW5_0 := Bwr_0.kept hkW5
      clear cwr_0_0 cwr_0_1 fwr_0 Bwr_0 kwr hkW5
      have cW5_0_0 : W5.cell? ⟨w.heap.size, 0, none⟩ = some (.int .u64 x0) := BW5_0.cell 0 rfl
      have cW5_0_1 : W5.cell? ⟨w.heap.size, 1, none⟩ = some (.int .u64 x1) := BW5_0.cell 1 rfl
      have fW5_0 := BW5_0.free
      have hiN : i = N := by omega
      have HiN := Lib.hid hiN
      clear hiN
      go_wp2_with fail
      go_ret
      exact ⟨_, rfl, by rw [← HiN.out]; exact hown2, kW5⟩

theorem limb0 (n : Int) (k : Nat) (hk : k < 8) : n % 18446744073709551616 / 256 ^ k % 256 = n / 256 ^ k % 256 := by
  match k, hk with
  | 0, _ | 1, _ | 2, _ | 3, _ | 4, _ | 5, _ | 6, _ | 7, _ => omega
theorem limb1 (n : Int) (k : Nat) : n / 18446744073709551616 / 256 ^ k % 256 = n / 256 ^ (8 + k) % 256 := by
  rw [Int.pow_add, ← Int.ediv_ediv_of_nonneg (show (0 : Int) ≤ 256 ^ 8 by decide)]
  rfl
theorem leBytes_range : ∀ (N : Nat) (n : Int), leBytes N n = (List.range N).map fun k => n / 256 ^ k % 256
  | 0, _ => rfl
  | N + 1, n => by
    rw [List.range_succ_eq_map, List.map_cons, List.map_map, leBytes, leBytes_range N]
    congr 1
    · simp
    · refine List.map_congr_left fun k _ => ?_
      show n / 256 / 256 ^ k % 256 = n / 256 ^ (k + 1) % 256
      rw [Int.pow_succ, Int.mul_comm, ← Int.ediv_ediv_of_nonneg (show (0 : Int) ≤ 256 by decide)]

/-- The reference's Bytes: a slice of its own. -/
theorem ref_Bytes {f a : Int} (hf : isF f) (ha : is128 a) (w : World) :
    Calls Try.prog 45 #[.int .i64 f, E a] w fun e w' => ∃ v, e = .returned v ∧ w'.ownsRow (w.heap.size + 1) 5 1 v (8 * f).toNat (bytesV (leBytes (8 * f).toNat (rOf f a))) ∧ Kept w w' := by
  have h8 : 8 * f = ((8 * f).toNat : Int) := by unfold isF at hf; omega
  have hN : (8 * f).toNat ≤ 16 := by unfold isF at hf; omega
  have hS := ref_Size hf
  rw [h8] at hS
  have hx := is128_rOf f a
  have e0 := is64_lo (rOf f a)
  have e1 := is64_hi hx
  unfold is64 at e0 e1
  have := ref_Bytes_raw f _ _ _ _ _ (fun k => rOf f a / 256 ^ k % 256) hN e0.1 e0.2 e1.1 e1.2 (ref_Of hf ha) hS (fun k hk => limb0 _ _ hk) (fun k hk => limb1 _ _) w
  rw [leBytes_range, bytesV, List.map_map]
  exact this
end Go.Proofs.Ytnajihlhcdedgaa

namespace Go.Proofs.Ytnajihlhcdedgaa
open Go.RowKit
set_option linter.unusedVariables false
set_option linter.unusedSimpArgs false
attribute [local simp] blkAt_setCell blkAt_alloc blkAt_drew Obj.put_cells

set_option maxRecDepth 100000 in
set_option maxHeartbeats 4000000 in
theorem ref_Take_yes (f : Int) (L b o cap : Nat) (bt : Nat → Int) (A0 A1 : Nat → Int) (hL : L ≤ 16) (w : World) (hbw : b < w.heap.size)
    (hA0L : A0 L = 0) (hA1L : A1 L = 0) (hbt : Hid (∀ j, j < L → 0 ≤ bt j ∧ bt j ≤ 255))
    (hcell : Hid (∀ j, j < L → w.cell? ⟨b, o + j, none⟩ = some (.int .u8 (bt j))))
    (hstep : Hid (∀ j, j < L → (j < 8 → 0 ≤ A0 (j + 1) ∧ A0 (j + 1) ≤ 72057594037927935 ∧ A0 (j + 1) * 256 + bt j = A0 j ∧ A1 (j + 1) = A1 j) ∧ (8 ≤ j → 0 ≤ A1 (j + 1) ∧ A1 (j + 1) ≤ 72057594037927935 ∧ A1 (j + 1) * 256 + bt j = A1 j ∧ A0 (j + 1) = A0 j)))
    (hI : Pure Try.prog 93 #[.int .i64 f, .agg #[.int .u64 (A0 0), .int .u64 (A1 0)]] (.bool true)) :
    Calls Try.prog 44 #[.int .i64 f, .slice (some ⟨b, o, none⟩) L cap] w fun e w' => e = .returned (.tuple #[.agg #[.int .u64 (A0 0), .int .u64 (A1 0)], .bool true]) ∧ Kept w w' := by
  have HI := Lib.hid hI
  clear hI
  go_enter Try.func44, Try.ntmps44
  go_wp2_with fail
  refine abs_world (fun W => Kept w W ∧ Blk W (w.heap.size) 28 #[.int .u64 0, .int .u64 0] ∧ Blk W (w.heap.size + 1) 28 #[.int .u64 0, .int .u64 0]) ?_ ?_
  · refine ⟨?_, ?_, ?_⟩
    · repeat (first | exact Kept.refl _ | (refine Kept.setCell ?_ (kept_side (by first | assumption | omega)) _) | apply Kept.alloc | apply Kept.drew)
    · simp [Blk, *] <;> (intros; omega)
    · simp [Blk, *] <;> (intros; omega)
  rintro W1 ⟨kW1, BW1_0, BW1_1⟩
  have cW1_0_0 : W1.cell? ⟨w.heap.size, 0, none⟩ = some (.int .u64 0) := BW1_0.cell 0 rfl
  have cW1_0_1 : W1.cell? ⟨w.heap.size, 1, none⟩ = some (.int .u64 0) := BW1_0.cell 1 rfl
  have fW1_0 := BW1_0.free
  have cW1_1_0 : W1.cell? ⟨w.heap.size + 1, 0, none⟩ = some (.int .u64 0) := BW1_1.cell 0 rfl
  have cW1_1_1 : W1.cell? ⟨w.heap.size + 1, 1, none⟩ = some (.int .u64 0) := BW1_1.cell 1 rfl
  have fW1_1 := BW1_1.free
  go_wp2_with fail
  go_loopw [7] (fun t wr => ∃ k : Nat, k ≤ L ∧ t = .int .i64 ((k : Int) - 1) ∧ Kept w wr ∧ Blk wr (w.heap.size) 28 #[.int .u64 0, .int .u64 0] ∧ Blk wr (w.heap.size + 1) 28 #[.int .u64 (A0 k), .int .u64 (A1 k)]) (fun t _ => (intOf t + 1).toNat)
  case atStart => exact ⟨L, Nat.le_refl _, rfl, kW1, BW1_0, by rw [hA0L, hA1L]; exact BW1_1⟩
  case round =>
    obtain ⟨k, hk, rfl, kwr, Bwr_0, Bwr_1⟩ := hrel
    clear cW1_0_0 cW1_0_1 cW1_1_0 cW1_1_1 fW1_0 BW1_0 fW1_1 BW1_1 kW1
    rcases Nat.eq_zero_or_pos k with hk0 | hk0
    · subst hk0
      have cwr_0_0 : wr.cell? ⟨w.heap.size, 0, none⟩ = some (.int .u64 0) := Bwr_0.cell 0 rfl
      have cwr_0_1 : wr.cell? ⟨w.heap.size, 1, none⟩ = some (.int .u64 0) := Bwr_0.cell 1 rfl
      have fwr_0 := Bwr_0.free
      have cwr_1_0 : wr.cell? ⟨w.heap.size + 1, 0, none⟩ = some (.int .u64 (A0 0)) := Bwr_1.cell 0 rfl
      have cwr_1_1 : wr.cell? ⟨w.heap.size + 1, 1, none⟩ = some (.int .u64 (A1 0)) := Bwr_1.cell 1 rfl
      have fwr_1 := Bwr_1.free
      go_wp2_with fail
      refine (HI.out _).mono ?_
      rintro e W2 ⟨rfl, hkW2⟩
      have kW2 := kwr.trans hkW2
      have BW2_0 := Bwr_0.kept hkW2
      have BW2_1 := Bwr_1.kept hkW2
      clear cwr_0_0 cwr_0_1 cwr_1_0 cwr_1_1 fwr_0 fwr_1 Bwr_0 Bwr_1 kwr hkW2
      have cW2_0_0 : W2.cell? ⟨w.heap.size, 0, none⟩ = some (.int .u64 0) := BW2_0.cell 0 rfl
      have cW2_0_1 : W2.cell? ⟨w.heap.size, 1, none⟩ = some (.int .u64 0) := BW2_0.cell 1 rfl
      have fW2_0 := BW2_0.free
      have cW2_1_0 : W2.cell? ⟨w.heap.size + 1, 0, none⟩ = some (.int .u64 (A0 0)) := BW2_1.cell 0 rfl
      have cW2_1_1 : W2.cell? ⟨w.heap.size + 1, 1, none⟩ = some (.int .u64 (A1 0)) := BW2_1.cell 1 rfl
      have fW2_1 := BW2_1.free
      go_wp2_with fail
      go_wp2_with fail
      refine bodyPost_ret (v := .tuple #[.agg #[.int .u64 (A0 0), .int .u64 (A1 0)], .bool true]) (by simp [results, Try.results44, go_sem, *]) rfl ⟨rfl, ?_⟩
      repeat (first | exact kW2 | (refine Kept.setCell ?_ (kept_side (by first | assumption | omega)) _) | apply Kept.alloc | apply Kept.drew)
    · obtain ⟨j, rfl⟩ : ∃ j, k = j + 1 := ⟨k - 1, by omega⟩
      have hj : j < L := by omega
      have ej : ((j + 1 : Nat) : Int) - 1 = (j : Int) := by omega
      rw [ej]
      clear ej
      have hb := hbt.out j hj
      have hc := hcell.out j hj
      have hj16 : j < 16 := by omega
      have hi0 : (0 : Int) ≤ (j : Int) := by omega
      have hiL : (j : Int) < (L : Int) := by omega
      have hiL2 : (j : Int) / 8 < 2 := by omega
      have hj8 : j / 8 < 2 := by omega
      obtain ⟨hb0, hb1⟩ := hb
      have hst := hstep.out j hj
      rcases Nat.lt_or_ge j 8 with h8 | h8
      · obtain ⟨g0, g1, gE, gN⟩ := hst.1 h8
        have GE := Lib.hid gE
        have GN := Lib.hid gN
        clear gE gN hst
        have cwr_0_0 : wr.cell? ⟨w.heap.size, 0, none⟩ = some (.int .u64 0) := Bwr_0.cell 0 rfl
        have cwr_0_1 : wr.cell? ⟨w.heap.size, 1, none⟩ = some (.int .u64 0) := Bwr_0.cell 1 rfl
        have fwr_0 := Bwr_0.free
        have cwr_1_0 : wr.cell? ⟨w.heap.size + 1, 0, none⟩ = some (.int .u64 (A0 (j + 1))) := Bwr_1.cell 0 rfl
        have cwr_1_1 : wr.cell? ⟨w.heap.size + 1, 1, none⟩ = some (.int .u64 (A1 (j + 1))) := Bwr_1.cell 1 rfl
        have fwr_1 := Bwr_1.free
        have et : ((j : Int) / 8).toNat = 0 := by omega
        have cb := kwr.cell hc
        have ew8 : IntKind.i64.wrap ((j : Int) / 8) = (j : Int) / 8 := IntWalk.i64_in _ (by omega)
        clear h8
        go_wp2_with fail
        refine wp_region_calm 14 (by kernel_rfl) (by kernel_rfl) ?_
        simp only [List.take_succ_cons, List.take_zero, List.drop_succ_cons, List.drop_zero]
        repeat (first
          | (refine calm_skip rfl ?_; simp only [Act.put, List.setIfInBounds_toArray, List.set_cons_zero, List.set_cons_succ])
          | (refine calm_ex rfl ?_; apply Exists.intro; refine And.intro (fun w' hk => ?_) ?_; (focus (have q0 := hk.cell cwr_0_0; have q1 := hk.cell cwr_0_1; have q2 := hk.cell cwr_1_0; have q3 := hk.cell cwr_1_1; have q4 := hk.cell cb; clear hk; go_simp; exact rfl)); simp only [Act.put, List.setIfInBounds_toArray, List.set_cons_zero, List.set_cons_succ]))
        refine calm_nil ?_
        intro W3 hkW3
        have kW3 := kwr.trans hkW3
        have BW3_0 := Bwr_0.kept hkW3
        have BW3_1 := Bwr_1.kept hkW3
        clear cwr_0_0 cwr_0_1 cwr_1_0 cwr_1_1 cb fwr_0 fwr_1 Bwr_0 Bwr_1 kwr hkW3
        have cW3_0_0 : W3.cell? ⟨w.heap.size, 0, none⟩ = some (.int .u64 0) := BW3_0.cell 0 rfl
        have cW3_0_1 : W3.cell? ⟨w.heap.size, 1, none⟩ = some (.int .u64 0) := BW3_0.cell 1 rfl
        have fW3_0 := BW3_0.free
        have cW3_1_0 : W3.cell? ⟨w.heap.size + 1, 0, none⟩ = some (.int .u64 (A0 (j + 1))) := BW3_1.cell 0 rfl
        have cW3_1_1 : W3.cell? ⟨w.heap.size + 1, 1, none⟩ = some (.int .u64 (A1 (j + 1))) := BW3_1.cell 1 rfl
        have fW3_1 := BW3_1.free
        go_wp2_with fail
        go_roundw
        case rel =>
          refine ⟨j, by omega, rfl, ?_, ?_, ?_⟩
          · exact kW3.setCell (kept_side (by omega)) _
          · simp [Blk, *]
          · rw [← GE.out, ← GN.out]; simp [Blk, *]
        case measure => (simp [intOf]) <;> omega
      · obtain ⟨g0, g1, gE, gN⟩ := hst.2 h8
        have GE := Lib.hid gE
        have GN := Lib.hid gN
        clear gE gN hst
        have cwr_0_0 : wr.cell? ⟨w.heap.size, 0, none⟩ = some (.int .u64 0) := Bwr_0.cell 0 rfl
        have cwr_0_1 : wr.cell? ⟨w.heap.size, 1, none⟩ = some (.int .u64 0) := Bwr_0.cell 1 rfl
        have fwr_0 := Bwr_0.free
        have cwr_1_0 : wr.cell? ⟨w.heap.size + 1, 0, none⟩ = some (.int .u64 (A0 (j + 1))) := Bwr_1.cell 0 rfl
        have cwr_1_1 : wr.cell? ⟨w.heap.size + 1, 1, none⟩ = some (.int .u64 (A1 (j + 1))) := Bwr_1.cell 1 rfl
        have fwr_1 := Bwr_1.free
        have et : ((j : Int) / 8).toNat = 1 := by omega
        have cb := kwr.cell hc
        have ew8 : IntKind.i64.wrap ((j : Int) / 8) = (j : Int) / 8 := IntWalk.i64_in _ (by omega)
        clear h8
        go_wp2_with fail
        refine wp_region_calm 14 (by kernel_rfl) (by kernel_rfl) ?_
        simp only [List.take_succ_cons, List.take_zero, List.drop_succ_cons, List.drop_zero]
        repeat (first
          | (refine calm_skip rfl ?_; simp only [Act.put, List.setIfInBounds_toArray, List.set_cons_zero, List.set_cons_succ])
          | (refine calm_ex rfl ?_; apply Exists.intro; refine And.intro (fun w' hk => ?_) ?_; (focus (have q0 := hk.cell cwr_0_0; have q1 := hk.cell cwr_0_1; have q2 := hk.cell cwr_1_0; have q3 := hk.cell cwr_1_1; have q4 := hk.cell cb; clear hk; go_simp; exact rfl)); simp only [Act.put, List.setIfInBounds_toArray, List.set_cons_zero, List.set_cons_succ]))
        refine calm_nil ?_
        intro W4 hkW4
        have kW4 := kwr.trans hkW4
        have BW4_0 := Bwr_0.kept hkW4
        have BW4_1 := Bwr_1.kept hkW4
        clear cwr_0_0 cwr_0_1 cwr_1_0 cwr_1_1 cb fwr_0 fwr_1 Bwr_0 Bwr_1 kwr hkW4
        have cW4_0_0 : W4.cell? ⟨w.heap.size, 0, none⟩ = some (.int .u64 0) := BW4_0.cell 0 rfl
        have cW4_0_1 : W4.cell? ⟨w.heap.size, 1, none⟩ = some (.int .u64 0) := BW4_0.cell 1 rfl
        have fW4_0 := BW4_0.free
        have cW4_1_0 : W4.cell? ⟨w.heap.size + 1, 0, none⟩ = some (.int .u64 (A0 (j + 1))) := BW4_1.cell 0 rfl
        have cW4_1_1 : W4.cell? ⟨w.heap.size + 1, 1, none⟩ = some (.int .u64 (A1 (j + 1))) := BW4_1.cell 1 rfl
        have fW4_1 := BW4_1.free
        go_wp2_with fail
        go_roundw
        case rel =>
          refine ⟨j, by omega, rfl, ?_, ?_, ?_⟩
          · exact kW4.setCell (kept_side (by omega)) _
          · simp [Blk, *]
          · rw [← GE.out, ← GN.out]; simp [Blk, *]
        case measure => (simp [intOf]) <;> omega

set_option maxRecDepth 100000 in
set_option maxHeartbeats 4000000 in
theorem ref_Take_no (f : Int) (L b o cap : Nat) (bt : Nat → Int) (A0 A1 : Nat → Int) (hL : L ≤ 16) (w : World) (hbw : b < w.heap.size)
    (hA0L : A0 L = 0) (hA1L : A1 L = 0) (hbt : Hid (∀ j, j < L → 0 ≤ bt j ∧ bt j ≤ 255))
    (hcell : Hid (∀ j, j < L → w.cell? ⟨b, o + j, none⟩ = some (.int .u8 (bt j))))
    (hstep : Hid (∀ j, j < L → (j < 8 → 0 ≤ A0 (j + 1) ∧ A0 (j + 1) ≤ 72057594037927935 ∧ A0 (j + 1) * 256 + bt j = A0 j ∧ A1 (j + 1) = A1 j) ∧ (8 ≤ j → 0 ≤ A1 (j + 1) ∧ A1 (j + 1) ≤ 72057594037927935 ∧ A1 (j + 1) * 256 + bt j = A1 j ∧ A0 (j + 1) = A0 j)))
    (hI : Pure Try.prog 93 #[.int .i64 f, .agg #[.int .u64 (A0 0), .int .u64 (A1 0)]] (.bool false)) :
    Calls Try.prog 44 #[.int .i64 f, .slice (some ⟨b, o, none⟩) L cap] w fun e w' => e = .returned (.tuple #[.agg #[.int .u64 0, .int .u64 0], .bool false]) ∧ Kept w w' := by
  have HI := Lib.hid hI
  clear hI
  go_enter Try.func44, Try.ntmps44
  go_wp2_with fail
  refine abs_world (fun W => Kept w W ∧ Blk W (w.heap.size) 28 #[.int .u64 0, .int .u64 0] ∧ Blk W (w.heap.size + 1) 28 #[.int .u64 0, .int .u64 0]) ?_ ?_
  · refine ⟨?_, ?_, ?_⟩
    · repeat (first | exact Kept.refl _ | (refine Kept.setCell ?_ (kept_side (by first | assumption | omega)) _) | apply Kept.alloc | apply Kept.drew)
    · simp [Blk, *] <;> (intros; omega)
    · simp [Blk, *] <;> (intros; omega)
  rintro W1 ⟨kW1, BW1_0, BW1_1⟩
  have cW1_0_0 : W1.cell? ⟨w.heap.size, 0, none⟩ = some (.int .u64 0) := BW1_0.cell 0 rfl
  have cW1_0_1 : W1.cell? ⟨w.heap.size, 1, none⟩ = some (.int .u64 0) := BW1_0.cell 1 rfl
  have fW1_0 := BW1_0.free
  have cW1_1_0 : W1.cell? ⟨w.heap.size + 1, 0, none⟩ = some (.int .u64 0) := BW1_1.cell 0 rfl
  have cW1_1_1 : W1.cell? ⟨w.heap.size + 1, 1, none⟩ = some (.int .u64 0) := BW1_1.cell 1 rfl
  have fW1_1 := BW1_1.free
  go_wp2_with fail
  go_loopw [7] (fun t wr => ∃ k : Nat, k ≤ L ∧ t = .int .i64 ((k : Int) - 1) ∧ Kept w wr ∧ Blk wr (w.heap.size) 28 #[.int .u64 0, .int .u64 0] ∧ Blk wr (w.heap.size + 1) 28 #[.int .u64 (A0 k), .int .u64 (A1 k)]) (fun t _ => (intOf t + 1).toNat)
  case atStart => exact ⟨L, Nat.le_refl _, rfl, kW1, BW1_0, by rw [hA0L, hA1L]; exact BW1_1⟩
  case round =>
    obtain ⟨k, hk, rfl, kwr, Bwr_0, Bwr_1⟩ := hrel
    clear cW1_0_0 cW1_0_1 cW1_1_0 cW1_1_1 fW1_0 BW1_0 fW1_1 BW1_1 kW1
    rcases Nat.eq_zero_or_pos k with hk0 | hk0
    · subst hk0
      have cwr_0_0 : wr.cell? ⟨w.heap.size, 0, none⟩ = some (.int .u64 0) := Bwr_0.cell 0 rfl
      have cwr_0_1 : wr.cell? ⟨w.heap.size, 1, none⟩ = some (.int .u64 0) := Bwr_0.cell 1 rfl
      have fwr_0 := Bwr_0.free
      have cwr_1_0 : wr.cell? ⟨w.heap.size + 1, 0, none⟩ = some (.int .u64 (A0 0)) := Bwr_1.cell 0 rfl
      have cwr_1_1 : wr.cell? ⟨w.heap.size + 1, 1, none⟩ = some (.int .u64 (A1 0)) := Bwr_1.cell 1 rfl
      have fwr_1 := Bwr_1.free
      go_wp2_with fail
      refine (HI.out _).mono ?_
      rintro e W2 ⟨rfl, hkW2⟩
      have kW2 := kwr.trans hkW2
      have BW2_0 := Bwr_0.kept hkW2
      have BW2_1 := Bwr_1.kept hkW2
      clear cwr_0_0 cwr_0_1 cwr_1_0 cwr_1_1 fwr_0 fwr_1 Bwr_0 Bwr_1 kwr hkW2
      have cW2_0_0 : W2.cell? ⟨w.heap.size, 0, none⟩ = some (.int .u64 0) := BW2_0.cell 0 rfl
      have cW2_0_1 : W2.cell? ⟨w.heap.size, 1, none⟩ = some (.int .u64 0) := BW2_0.cell 1 rfl
      have fW2_0 := BW2_0.free
      have cW2_1_0 : W2.cell? ⟨w.heap.size + 1, 0, none⟩ = some (.int .u64 (A0 0)) := BW2_1.cell 0 rfl
      have cW2_1_1 : W2.cell? ⟨w.heap.size + 1, 1, none⟩ = some (.int .u64 (A1 0)) := BW2_1.cell 1 rfl
      have fW2_1 := BW2_1.free
      go_wp2_with fail
      go_wp2_with fail
      refine bodyPost_ret (v := .tuple #[.agg #[.int .u64 0, .int .u64 0], .bool false]) (by simp [results, Try.results44, go_sem, *]) rfl ⟨rfl, ?_⟩
      repeat (first | exact kW2 | (refine Kept.setCell ?_ (kept_side (by first | assumption | omega)) _) | apply Kept.alloc | apply Kept.drew)
    · obtain ⟨j, rfl⟩ : ∃ j, k = j + 1 := ⟨k - 1, by omega⟩
      have hj : j < L := by omega
      have ej : ((j + 1 : Nat) : Int) - 1 = (j : Int) := by omega
      rw [ej]
      clear ej
      have hb := hbt.out j hj
      have hc := hcell.out j hj
      have hj16 : j < 16 := by omega
      have hi0 : (0 : Int) ≤ (j : Int) := by omega
      have hiL : (j : Int) < (L : Int) := by omega
      have hiL2 : (j : Int) / 8 < 2 := by omega
      have hj8 : j / 8 < 2 := by omega
      obtain ⟨hb0, hb1⟩ := hb
      have hst := hstep.out j hj
      rcases Nat.lt_or_ge j 8 with h8 | h8
      · obtain ⟨g0, g1, gE, gN⟩ := hst.1 h8
        have GE := Lib.hid gE
        have GN := Lib.hid gN
        clear gE gN hst
        have cwr_0_0 : wr.cell? ⟨w.heap.size, 0, none⟩ = some (.int .u64 0) := Bwr_0.cell 0 rfl
        have cwr_0_1 : wr.cell? ⟨w.heap.size, 1, none⟩ = some (.int .u64 0) := Bwr_0.cell 1 rfl
        have fwr_0 := Bwr_0.free
        have cwr_1_0 : wr.cell? ⟨w.heap.size + 1, 0, none⟩ = some (.int .u64 (A0 (j + 1))) := Bwr_1.cell 0 rfl
        have cwr_1_1 : wr.cell? ⟨w.heap.size + 1, 1, none⟩ = some (.int .u64 (A1 (j + 1))) := Bwr_1.cell 1 rfl
        have fwr_1 := Bwr_1.free
        have et : ((j : Int) / 8).toNat = 0 := by omega
        have cb := kwr.cell hc
        have ew8 : IntKind.i64.wrap ((j : Int) / 8) = (j : Int) / 8 := IntWalk.i64_in _ (by omega)
        clear h8
        go_wp2_with fail
        refine wp_region_calm 14 (by kernel_rfl) (by kernel_rfl) ?_
        simp only [List.take_succ_cons, List.take_zero, List.drop_succ_cons, List.drop_zero]
        repeat (first
          | (refine calm_skip rfl ?_; simp only [Act.put, List.setIfInBounds_toArray, List.set_cons_zero, List.set_cons_succ])
          | (refine calm_ex rfl ?_; apply Exists.intro; refine And.intro (fun w' hk => ?_) ?_; (focus (have q0 := hk.cell cwr_0_0; have q1 := hk.cell cwr_0_1; have q2 := hk.cell cwr_1_0; have q3 := hk.cell cwr_1_1; have q4 := hk.cell cb; clear hk; go_simp; exact rfl)); simp only [Act.put, List.setIfInBounds_toArray, List.set_cons_zero, List.set_cons_succ]))
        refine calm_nil ?_
        intro W3 hkW3
        have kW3 := kwr.trans hkW3
        have BW3_0 := Bwr_0.kept hkW3
        have BW3_1 := Bwr_1.kept hkW3
        clear cwr_0_0 cwr_0_1 cwr_1_0 cwr_1_1 cb fwr_0 fwr_1 Bwr_0 Bwr_1 kwr hkW3
        have cW3_0_0 : W3.cell? ⟨w.heap.size, 0, none⟩ = some (.int .u64 0) := BW3_0.cell 0 rfl
        have cW3_0_1 : W3.cell? ⟨w.heap.size, 1, none⟩ = some (.int .u64 0) := BW3_0.cell 1 rfl
        have fW3_0 := BW3_0.free
        have cW3_1_0 : W3.cell? ⟨w.heap.size + 1, 0, none⟩ = some (.int .u64 (A0 (j + 1))) := BW3_1.cell 0 rfl
        have cW3_1_1 : W3.cell? ⟨w.heap.size + 1, 1, none⟩ = some (.int .u64 (A1 (j + 1))) := BW3_1.cell 1 rfl
        have fW3_1 := BW3_1.free
        go_wp2_with fail
        go_roundw
        case rel =>
          refine ⟨j, by omega, rfl, ?_, ?_, ?_⟩
          · exact kW3.setCell (kept_side (by omega)) _
          · simp [Blk, *]
          · rw [← GE.out, ← GN.out]; simp [Blk, *]
        case measure => (simp [intOf]) <;> omega
      · obtain ⟨g0, g1, gE, gN⟩ := hst.2 h8
        have GE := Lib.hid gE
        have GN := Lib.hid gN
        clear gE gN hst
        have cwr_0_0 : wr.cell? ⟨w.heap.size, 0, none⟩ = some (.int .u64 0) := Bwr_0.cell 0 rfl
        have cwr_0_1 : wr.cell? ⟨w.heap.size, 1, none⟩ = some (.int .u64 0) := Bwr_0.cell 1 rfl
        have fwr_0 := Bwr_0.free
        have cwr_1_0 : wr.cell? ⟨w.heap.size + 1, 0, none⟩ = some (.int .u64 (A0 (j + 1))) := Bwr_1.cell 0 rfl
        have cwr_1_1 : wr.cell? ⟨w.heap.size + 1, 1, none⟩ = some (.int .u64 (A1 (j + 1))) := Bwr_1.cell 1 rfl
        have fwr_1 := Bwr_1.free
        have et : ((j : Int) / 8).toNat = 1 := by omega
        have cb := kwr.cell hc
        have ew8 : IntKind.i64.wrap ((j : Int) / 8) = (j : Int) / 8 := IntWalk.i64_in _ (by omega)
        clear h8
        go_wp2_with fail
        refine wp_region_calm 14 (by kernel_rfl) (by kernel_rfl) ?_
        simp only [List.take_succ_cons, List.take_zero, List.drop_succ_cons, List.drop_zero]
        repeat (first
          | (refine calm_skip rfl ?_; simp only [Act.put, List.setIfInBounds_toArray, List.set_cons_zero, List.set_cons_succ])
          | (refine calm_ex rfl ?_; apply Exists.intro; refine And.intro (fun w' hk => ?_) ?_; (focus (have q0 := hk.cell cwr_0_0; have q1 := hk.cell cwr_0_1; have q2 := hk.cell cwr_1_0; have q3 := hk.cell cwr_1_1; have q4 := hk.cell cb; clear hk; go_simp; exact rfl)); simp only [Act.put, List.setIfInBounds_toArray, List.set_cons_zero, List.set_cons_succ]))
        refine calm_nil ?_
        intro W4 hkW4
        have kW4 := kwr.trans hkW4
        have BW4_0 := Bwr_0.kept hkW4
        have BW4_1 := Bwr_1.kept hkW4
        clear cwr_0_0 cwr_0_1 cwr_1_0 cwr_1_1 cb fwr_0 fwr_1 Bwr_0 Bwr_1 kwr hkW4
        have cW4_0_0 : W4.cell? ⟨w.heap.size, 0, none⟩ = some (.int .u64 0) := BW4_0.cell 0 rfl
        have cW4_0_1 : W4.cell? ⟨w.heap.size, 1, none⟩ = some (.int .u64 0) := BW4_0.cell 1 rfl
        have fW4_0 := BW4_0.free
        have cW4_1_0 : W4.cell? ⟨w.heap.size + 1, 0, none⟩ = some (.int .u64 (A0 (j + 1))) := BW4_1.cell 0 rfl
        have cW4_1_1 : W4.cell? ⟨w.heap.size + 1, 1, none⟩ = some (.int .u64 (A1 (j + 1))) := BW4_1.cell 1 rfl
        have fW4_1 := BW4_1.free
        go_wp2_with fail
        go_roundw
        case rel =>
          refine ⟨j, by omega, rfl, ?_, ?_, ?_⟩
          · exact kW4.setCell (kept_side (by omega)) _
          · simp [Blk, *]
          · rw [← GE.out, ← GN.out]; simp [Blk, *]
        case measure => (simp [intOf]) <;> omega


/-- Bytes k.. of the low eight, and of the others. -/
def tkLo (bs : List Int) (k : Nat) : Int := leVal ((bs.take 8).drop k)
def tkHi (bs : List Int) (k : Nat) : Int := leVal (bs.drop (max 8 k))
theorem leVal_cons (b : Int) (r : List Int) : leVal (b :: r) = b + 256 * leVal r := rfl
theorem leVal_bound : ∀ (l : List Int), (∀ b ∈ l, isByte b) → 0 ≤ leVal l ∧ leVal l + 1 ≤ 256 ^ l.length
  | [], _ => by simp [leVal]
  | b :: r, h => by
    have ih := leVal_bound r fun x hx => h x (by simp [hx])
    have hb := h b (by simp)
    unfold isByte at hb
    have e : (256 : Int) ^ (b :: r).length = 256 * 256 ^ r.length := by rw [List.length_cons, Int.pow_succ, Int.mul_comm]
    rw [e, leVal_cons]
    omega
theorem leVal_append : ∀ (l r : List Int), leVal (l ++ r) = leVal l + 256 ^ l.length * leVal r
  | [], r => by simp [leVal]
  | b :: l, r => by
    rw [List.cons_append, leVal_cons, leVal_cons, leVal_append l r, List.length_cons, Int.pow_succ, Int.mul_add, Int.add_assoc, ← Int.mul_assoc, Int.mul_comm (256 ^ l.length) 256]
theorem pow256_le (k m : Nat) (h : k ≤ m) : (256 : Int) ^ k ≤ 256 ^ m := by
  have : (256 : Nat) ^ k ≤ 256 ^ m := Nat.pow_le_pow_right (by omega) h
  have e : ∀ n : Nat, (256 : Int) ^ n = ((256 ^ n : Nat) : Int) := fun n => by rw [Int.natCast_pow]; rfl
  rw [e, e]
  exact Int.ofNat_le.2 this

theorem ref_Take {f : Int} (hf : isF f) {b o cap : Nat} {bs : List Int} (hl : bs.length ≤ 16) (hb : ∀ x ∈ bs, isByte x) (w : World) (hbw : b < w.heap.size)
    (hc : ∀ j, j < bs.length → w.cell? ⟨b, o + j, none⟩ = some (.int .u8 (bs.getD j 0))) :
    Calls Try.prog 44 #[.int .i64 f, .slice (some ⟨b, o, none⟩) bs.length cap] w fun e w' => e = .returned (.tuple #[if leVal bs < rP f then E (leVal bs) else E 0, .bool (decide (leVal bs < rP f))]) ∧ Kept w w' := by
  have hval : leVal bs = tkLo bs 0 + tkHi bs 0 * 18446744073709551616 := by
    unfold tkLo tkHi
    have h := leVal_append (bs.take 8) (bs.drop 8)
    rw [List.take_append_drop] at h
    rw [List.drop_zero, show max 8 0 = 8 from rfl, h]
    rcases Nat.lt_or_ge bs.length 8 with h8 | h8
    · rw [List.drop_eq_nil_of_le (by omega)]; simp [leVal]
    · rw [List.length_take, Nat.min_eq_left h8, Int.mul_comm]; rfl
  have hbd := leVal_bound bs hb
  have hp := pow256_le bs.length 16 hl
  have h128 : is128 (leVal bs) := by unfold is128; omega
  have hlo : is64 (tkLo bs 0) := by
    unfold tkLo is64
    have := leVal_bound ((bs.take 8).drop 0) fun x hx => hb x (List.mem_of_mem_take (List.mem_of_mem_drop hx))
    have hp := pow256_le ((bs.take 8).drop 0).length 8 (by simp; omega)
    omega
  have hE : E (leVal bs) = .agg #[.int .u64 (tkLo bs 0), .int .u64 (tkHi bs 0)] := by rw [hval]; exact E_mk hlo
  have hI := ref_In hf h128
  rw [hE] at hI
  have hbt : ∀ j, j < bs.length → 0 ≤ bs.getD j 0 ∧ bs.getD j 0 ≤ 255 := fun j hj => by
    have := hb bs[j] (List.getElem_mem hj)
    rw [List.getD_eq_getElem?_getD, List.getElem?_eq_getElem hj]
    exact this
  have hstep : ∀ j, j < bs.length → (j < 8 → 0 ≤ tkLo bs (j + 1) ∧ tkLo bs (j + 1) ≤ 72057594037927935 ∧ tkLo bs (j + 1) * 256 + bs.getD j 0 = tkLo bs j ∧ tkHi bs (j + 1) = tkHi bs j) ∧ (8 ≤ j → 0 ≤ tkHi bs (j + 1) ∧ tkHi bs (j + 1) ≤ 72057594037927935 ∧ tkHi bs (j + 1) * 256 + bs.getD j 0 = tkHi bs j ∧ tkLo bs (j + 1) = tkLo bs j) := by
    intro j hj
    have eg : bs.getD j 0 = bs[j] := by rw [List.getD_eq_getElem?_getD, List.getElem?_eq_getElem hj]; rfl
    rw [eg]
    constructor
    · intro h8
      have hlt : j < (bs.take 8).length := by rw [List.length_take]; omega
      have h1 := leVal_bound ((bs.take 8).drop (j + 1)) fun x hx => hb x (List.mem_of_mem_take (List.mem_of_mem_drop hx))
      have hp := pow256_le ((bs.take 8).drop (j + 1)).length 7 (by simp; omega)
      unfold tkLo tkHi
      rw [List.drop_eq_getElem_cons hlt, leVal_cons, List.getElem_take, show max 8 (j + 1) = 8 by omega, show max 8 j = 8 by omega]
      refine ⟨h1.1, by omega, by omega, rfl⟩
    · intro h8
      have h1 := leVal_bound (bs.drop (j + 1)) fun x hx => hb x (List.mem_of_mem_drop hx)
      have hp := pow256_le (bs.drop (j + 1)).length 7 (by simp; omega)
      unfold tkLo tkHi
      have d1 : (bs.take 8).drop (j + 1) = [] := List.drop_eq_nil_of_le (by rw [List.length_take]; omega)
      have d2 : (bs.take 8).drop j = [] := List.drop_eq_nil_of_le (by rw [List.length_take]; omega)
      rw [show max 8 (j + 1) = j + 1 by omega, show max 8 j = j by omega, List.drop_eq_getElem_cons hj, leVal_cons, d1, d2]
      refine ⟨h1.1, by omega, by omega, rfl⟩
  have z0 : tkLo bs bs.length = 0 := by unfold tkLo; rw [List.drop_eq_nil_of_le (by rw [List.length_take]; omega)]; rfl
  have z1 : tkHi bs bs.length = 0 := by unfold tkHi; rw [List.drop_eq_nil_of_le (by omega)]; rfl
  by_cases h : leVal bs < rP f
  · rw [if_pos h, decide_eq_true h, hE]
    rw [decide_eq_true h] at hI
    exact ref_Take_yes f _ b o cap _ _ _ hl w hbw z0 z1 hbt hc hstep hI
  · rw [if_neg h, decide_eq_false h]
    rw [decide_eq_false h] at hI
    exact ref_Take_no f _ b o cap _ _ _ hl w hbw z0 z1 hbt hc hstep hI
end Go.Proofs.Ytnajihlhcdedgaa

namespace Go.Proofs.Ytnajihlhcdedgaa
open Go.RowKit
set_option linter.unusedVariables false
set_option linter.unusedSimpArgs false
attribute [local simp] blkAt_setCell blkAt_alloc blkAt_drew Obj.put_cells

set_option maxRecDepth 100000 in
set_option maxHeartbeats 4000000 in
theorem gold_bytes_true (b0 b1 b2 b3 b4 b5 b6 b7 x0 x1 x2 x3 x4 x5 x6 x7 a n y : Int) (S : ByteArray)
    (hK : Pure Try.prog 26 #[] (.bool true))
    (hB : Pure Try.prog 42 #[.int .u64 a] (.agg #[.int .u8 x0, .int .u8 x1, .int .u8 x2, .int .u8 x3, .int .u8 x4, .int .u8 x5, .int .u8 x6, .int .u8 x7]))
    (hT : Pure Try.prog 43 #[.agg #[.int .u8 b0, .int .u8 b1, .int .u8 b2, .int .u8 b3, .int .u8 b4, .int .u8 b5, .int .u8 b6, .int .u8 b7]] (.tuple #[.int .u64 n, .int .i64 0]))
    (HR : Hid (∀ w' b', Blk w' b' 37 #[.int .u8 b0, .int .u8 b1, .int .u8 b2, .int .u8 b3, .int .u8 b4, .int .u8 b5, .int .u8 b6, .int .u8 b7] → Calls Try.prog 44 #[.int .i64 1, .slice (some ⟨b', 0, none⟩) 8 8] w' fun e w'' => e = .returned (.tuple #[.agg #[.int .u64 n, .int .u64 0], .bool true]) ∧ Kept w' w''))
    (hV : Pure Try.prog 43 #[.agg #[.int .u8 x0, .int .u8 x1, .int .u8 x2, .int .u8 x3, .int .u8 x4, .int .u8 x5, .int .u8 x6, .int .u8 x7]] (.tuple #[.int .u64 y, .int .i64 0]))
    (hEa : Pure Try.prog 33 #[.int .u64 a] (.agg #[.int .u64 a, .int .u64 0])) (hEn : Pure Try.prog 33 #[.int .u64 n] (.agg #[.int .u64 n, .int .u64 0]))
    (hM : Makes Try.prog 45 #[.int .i64 1, .agg #[.int .u64 a, .int .u64 0]] (fun v w' => Reads w' v (bytesV [x0, x1, x2, x3, x4, x5, x6, x7])))
    (hO : Pure Try.prog 31 #[.int .u64 a] (.int .u64 y))
    (HC : Hid (∀ w' b', Blk w' b' 37 #[.int .u8 x0, .int .u8 x1, .int .u8 x2, .int .u8 x3, .int .u8 x4, .int .u8 x5, .int .u8 x6, .int .u8 x7] → (convert 42 9 (.slice (some ⟨b', 0, none⟩) 8 8)).run Try.prog w' = .ok (.string S) w'))
    (HD : Hid (∀ v w', Reads w' v (bytesV [x0, x1, x2, x3, x4, x5, x6, x7]) → (convert 42 9 v).run Try.prog w' = .ok (.string S) w'))
    (hs : ∀ s t w, (binOp .eql 28 (.agg #[.int .u64 s, .int .u64 t]) (.agg #[.int .u64 s, .int .u64 t])).run Try.prog w = .ok (.bool true) w)
    (w : World) : Calls Try.prog 6 #[.int .u64 a, .agg #[.int .u8 b0, .int .u8 b1, .int .u8 b2, .int .u8 b3, .int .u8 b4, .int .u8 b5, .int .u8 b6, .int .u8 b7]] w fun e w' => e = .returned (.bool true) ∧ Kept w w' := by
  let mn : Mean := ⟨fun v w' => Reads w' v (bytesV [x0, x1, x2, x3, x4, x5, x6, x7]), fun v w w' h hk => h.kept hk, fun b w h => by rcases h with ⟨h, _⟩ | ⟨_, _, _, h, _⟩ <;> cases h⟩
  have HK := Lib.hid hK
  have HB := Lib.hid hB
  have HT := Lib.hid hT
  have HV := Lib.hid hV
  have HEa := Lib.hid hEa
  have HEn := Lib.hid hEn
  have HM := Lib.hid hM
  have HO := Lib.hid hO
  clear hK hB hT hV hEa hEn hM hO
  go_enter Try.func6, Try.ntmps6
  go_wp2_with fail
  refine abs_calls (fun W => Kept w W ∧ Blk W (w.heap.size) 37 #[.int .u8 b0, .int .u8 b1, .int .u8 b2, .int .u8 b3, .int .u8 b4, .int .u8 b5, .int .u8 b6, .int .u8 b7]) ?_ ?_
  · refine ⟨?_, ?_⟩
    · repeat (first | exact Kept.refl _ | (refine Kept.setCell ?_ (kept_side (by first | assumption | omega)) _) | apply Kept.alloc | apply Kept.drew)
    · simp [Blk, *] <;> (intros; omega)
  rintro W1 ⟨kW1, BW1_0⟩
  have cW1_0_0 : W1.cell? ⟨w.heap.size, 0, none⟩ = some (.int .u8 b0) := BW1_0.cell 0 rfl
  have cW1_0_1 : W1.cell? ⟨w.heap.size, 1, none⟩ = some (.int .u8 b1) := BW1_0.cell 1 rfl
  have cW1_0_2 : W1.cell? ⟨w.heap.size, 2, none⟩ = some (.int .u8 b2) := BW1_0.cell 2 rfl
  have cW1_0_3 : W1.cell? ⟨w.heap.size, 3, none⟩ = some (.int .u8 b3) := BW1_0.cell 3 rfl
  have cW1_0_4 : W1.cell? ⟨w.heap.size, 4, none⟩ = some (.int .u8 b4) := BW1_0.cell 4 rfl
  have cW1_0_5 : W1.cell? ⟨w.heap.size, 5, none⟩ = some (.int .u8 b5) := BW1_0.cell 5 rfl
  have cW1_0_6 : W1.cell? ⟨w.heap.size, 6, none⟩ = some (.int .u8 b6) := BW1_0.cell 6 rfl
  have cW1_0_7 : W1.cell? ⟨w.heap.size, 7, none⟩ = some (.int .u8 b7) := BW1_0.cell 7 rfl
  have fW1_0 := BW1_0.free
  refine (HK.out _).mono ?_
  rintro e W2 ⟨rfl, hkW2⟩
  have kW2 := kW1.trans hkW2
  have BW2_0 := BW1_0.kept hkW2
  clear cW1_0_0 cW1_0_1 cW1_0_2 cW1_0_3 cW1_0_4 cW1_0_5 cW1_0_6 cW1_0_7 fW1_0 BW1_0 kW1 hkW2
  have cW2_0_0 : W2.cell? ⟨w.heap.size, 0, none⟩ = some (.int .u8 b0) := BW2_0.cell 0 rfl
  have cW2_0_1 : W2.cell? ⟨w.heap.size, 1, none⟩ = some (.int .u8 b1) := BW2_0.cell 1 rfl
  have cW2_0_2 : W2.cell? ⟨w.heap.size, 2, none⟩ = some (.int .u8 b2) := BW2_0.cell 2 rfl
  have cW2_0_3 : W2.cell? ⟨w.heap.size, 3, none⟩ = some (.int .u8 b3) := BW2_0.cell 3 rfl
  have cW2_0_4 : W2.cell? ⟨w.heap.size, 4, none⟩ = some (.int .u8 b4) := BW2_0.cell 4 rfl
  have cW2_0_5 : W2.cell? ⟨w.heap.size, 5, none⟩ = some (.int .u8 b5) := BW2_0.cell 5 rfl
  have cW2_0_6 : W2.cell? ⟨w.heap.size, 6, none⟩ = some (.int .u8 b6) := BW2_0.cell 6 rfl
  have cW2_0_7 : W2.cell? ⟨w.heap.size, 7, none⟩ = some (.int .u8 b7) := BW2_0.cell 7 rfl
  have fW2_0 := BW2_0.free
  go_wp2_with fail
  refine (HB.out _).mono ?_
  rintro e W3 ⟨rfl, hkW3⟩
  have kW3 := kW2.trans hkW3
  have BW3_0 := BW2_0.kept hkW3
  clear cW2_0_0 cW2_0_1 cW2_0_2 cW2_0_3 cW2_0_4 cW2_0_5 cW2_0_6 cW2_0_7 fW2_0 BW2_0 kW2 hkW3
  have cW3_0_0 : W3.cell? ⟨w.heap.size, 0, none⟩ = some (.int .u8 b0) := BW3_0.cell 0 rfl
  have cW3_0_1 : W3.cell? ⟨w.heap.size, 1, none⟩ = some (.int .u8 b1) := BW3_0.cell 1 rfl
  have cW3_0_2 : W3.cell? ⟨w.heap.size, 2, none⟩ = some (.int .u8 b2) := BW3_0.cell 2 rfl
  have cW3_0_3 : W3.cell? ⟨w.heap.size, 3, none⟩ = some (.int .u8 b3) := BW3_0.cell 3 rfl
  have cW3_0_4 : W3.cell? ⟨w.heap.size, 4, none⟩ = some (.int .u8 b4) := BW3_0.cell 4 rfl
  have cW3_0_5 : W3.cell? ⟨w.heap.size, 5, none⟩ = some (.int .u8 b5) := BW3_0.cell 5 rfl
  have cW3_0_6 : W3.cell? ⟨w.heap.size, 6, none⟩ = some (.int .u8 b6) := BW3_0.cell 6 rfl
  have cW3_0_7 : W3.cell? ⟨w.heap.size, 7, none⟩ = some (.int .u8 b7) := BW3_0.cell 7 rfl
  have fW3_0 := BW3_0.free
  obtain ⟨g5, hg5⟩ : ∃ b, W3.heap.size = b := ⟨_, rfl⟩
  have neg5_0 : w.heap.size ≠ g5 := by have := BW3_0.lt; omega
  have eng5_0 : g5 ≠ w.heap.size := neg5_0.symm
  have log5 : w.heap.size ≤ g5 := hg5 ▸ kW3.size
  go_upto_region 4 with (fail)
  refine abs_world (fun W => Kept w W ∧ Blk W (w.heap.size) 37 #[.int .u8 b0, .int .u8 b1, .int .u8 b2, .int .u8 b3, .int .u8 b4, .int .u8 b5, .int .u8 b6, .int .u8 b7] ∧ Blk W (g5) 37 #[.int .u8 x0, .int .u8 x1, .int .u8 x2, .int .u8 x3, .int .u8 x4, .int .u8 x5, .int .u8 x6, .int .u8 x7]) ?_ ?_
  · refine ⟨?_, ?_, ?_⟩
    · repeat (first | exact kW3 | (refine Kept.setCell ?_ (kept_side (by first | assumption | omega)) _) | apply Kept.alloc | apply Kept.drew)
    · simp [Blk, *] <;> (intros; omega)
    · simp [Blk, *] <;> (intros; omega)
  rintro W4 ⟨kW4, BW4_0, BW4_1⟩
  have cW4_0_0 : W4.cell? ⟨w.heap.size, 0, none⟩ = some (.int .u8 b0) := BW4_0.cell 0 rfl
  have cW4_0_1 : W4.cell? ⟨w.heap.size, 1, none⟩ = some (.int .u8 b1) := BW4_0.cell 1 rfl
  have cW4_0_2 : W4.cell? ⟨w.heap.size, 2, none⟩ = some (.int .u8 b2) := BW4_0.cell 2 rfl
  have cW4_0_3 : W4.cell? ⟨w.heap.size, 3, none⟩ = some (.int .u8 b3) := BW4_0.cell 3 rfl
  have cW4_0_4 : W4.cell? ⟨w.heap.size, 4, none⟩ = some (.int .u8 b4) := BW4_0.cell 4 rfl
  have cW4_0_5 : W4.cell? ⟨w.heap.size, 5, none⟩ = some (.int .u8 b5) := BW4_0.cell 5 rfl
  have cW4_0_6 : W4.cell? ⟨w.heap.size, 6, none⟩ = some (.int .u8 b6) := BW4_0.cell 6 rfl
  have cW4_0_7 : W4.cell? ⟨w.heap.size, 7, none⟩ = some (.int .u8 b7) := BW4_0.cell 7 rfl
  have fW4_0 := BW4_0.free
  have cW4_1_0 : W4.cell? ⟨g5, 0, none⟩ = some (.int .u8 x0) := BW4_1.cell 0 rfl
  have cW4_1_1 : W4.cell? ⟨g5, 1, none⟩ = some (.int .u8 x1) := BW4_1.cell 1 rfl
  have cW4_1_2 : W4.cell? ⟨g5, 2, none⟩ = some (.int .u8 x2) := BW4_1.cell 2 rfl
  have cW4_1_3 : W4.cell? ⟨g5, 3, none⟩ = some (.int .u8 x3) := BW4_1.cell 3 rfl
  have cW4_1_4 : W4.cell? ⟨g5, 4, none⟩ = some (.int .u8 x4) := BW4_1.cell 4 rfl
  have cW4_1_5 : W4.cell? ⟨g5, 5, none⟩ = some (.int .u8 x5) := BW4_1.cell 5 rfl
  have cW4_1_6 : W4.cell? ⟨g5, 6, none⟩ = some (.int .u8 x6) := BW4_1.cell 6 rfl
  have cW4_1_7 : W4.cell? ⟨g5, 7, none⟩ = some (.int .u8 x7) := BW4_1.cell 7 rfl
  have fW4_1 := BW4_1.free
  go_wp2_with fail
  refine (HT.out _).mono ?_
  rintro e W5 ⟨rfl, hkW5⟩
  have kW5 := kW4.trans hkW5
  have BW5_0 := BW4_0.kept hkW5
  have BW5_1 := BW4_1.kept hkW5
  clear cW4_0_0 cW4_0_1 cW4_0_2 cW4_0_3 cW4_0_4 cW4_0_5 cW4_0_6 cW4_0_7 cW4_1_0 cW4_1_1 cW4_1_2 cW4_1_3 cW4_1_4 cW4_1_5 cW4_1_6 cW4_1_7 fW4_0 fW4_1 BW4_0 BW4_1 kW4 hkW5
  have cW5_0_0 : W5.cell? ⟨w.heap.size, 0, none⟩ = some (.int .u8 b0) := BW5_0.cell 0 rfl
  have cW5_0_1 : W5.cell? ⟨w.heap.size, 1, none⟩ = some (.int .u8 b1) := BW5_0.cell 1 rfl
  have cW5_0_2 : W5.cell? ⟨w.heap.size, 2, none⟩ = some (.int .u8 b2) := BW5_0.cell 2 rfl
  have cW5_0_3 : W5.cell? ⟨w.heap.size, 3, none⟩ = some (.int .u8 b3) := BW5_0.cell 3 rfl
  have cW5_0_4 : W5.cell? ⟨w.heap.size, 4, none⟩ = some (.int .u8 b4) := BW5_0.cell 4 rfl
  have cW5_0_5 : W5.cell? ⟨w.heap.size, 5, none⟩ = some (.int .u8 b5) := BW5_0.cell 5 rfl
  have cW5_0_6 : W5.cell? ⟨w.heap.size, 6, none⟩ = some (.int .u8 b6) := BW5_0.cell 6 rfl
  have cW5_0_7 : W5.cell? ⟨w.heap.size, 7, none⟩ = some (.int .u8 b7) := BW5_0.cell 7 rfl
  have fW5_0 := BW5_0.free
  have cW5_1_0 : W5.cell? ⟨g5, 0, none⟩ = some (.int .u8 x0) := BW5_1.cell 0 rfl
  have cW5_1_1 : W5.cell? ⟨g5, 1, none⟩ = some (.int .u8 x1) := BW5_1.cell 1 rfl
  have cW5_1_2 : W5.cell? ⟨g5, 2, none⟩ = some (.int .u8 x2) := BW5_1.cell 2 rfl
  have cW5_1_3 : W5.cell? ⟨g5, 3, none⟩ = some (.int .u8 x3) := BW5_1.cell 3 rfl
  have cW5_1_4 : W5.cell? ⟨g5, 4, none⟩ = some (.int .u8 x4) := BW5_1.cell 4 rfl
  have cW5_1_5 : W5.cell? ⟨g5, 5, none⟩ = some (.int .u8 x5) := BW5_1.cell 5 rfl
  have cW5_1_6 : W5.cell? ⟨g5, 6, none⟩ = some (.int .u8 x6) := BW5_1.cell 6 rfl
  have cW5_1_7 : W5.cell? ⟨g5, 7, none⟩ = some (.int .u8 x7) := BW5_1.cell 7 rfl
  have fW5_1 := BW5_1.free
  go_wp2_with fail
  refine (HR.out _ _ BW5_0).mono ?_
  rintro e W6 ⟨rfl, hkW6⟩
  have kW6 := kW5.trans hkW6
  have BW6_0 := BW5_0.kept hkW6
  have BW6_1 := BW5_1.kept hkW6
  clear cW5_0_0 cW5_0_1 cW5_0_2 cW5_0_3 cW5_0_4 cW5_0_5 cW5_0_6 cW5_0_7 cW5_1_0 cW5_1_1 cW5_1_2 cW5_1_3 cW5_1_4 cW5_1_5 cW5_1_6 cW5_1_7 fW5_0 fW5_1 BW5_0 BW5_1 kW5 hkW6
  have cW6_0_0 : W6.cell? ⟨w.heap.size, 0, none⟩ = some (.int .u8 b0) := BW6_0.cell 0 rfl
  have cW6_0_1 : W6.cell? ⟨w.heap.size, 1, none⟩ = some (.int .u8 b1) := BW6_0.cell 1 rfl
  have cW6_0_2 : W6.cell? ⟨w.heap.size, 2, none⟩ = some (.int .u8 b2) := BW6_0.cell 2 rfl
  have cW6_0_3 : W6.cell? ⟨w.heap.size, 3, none⟩ = some (.int .u8 b3) := BW6_0.cell 3 rfl
  have cW6_0_4 : W6.cell? ⟨w.heap.size, 4, none⟩ = some (.int .u8 b4) := BW6_0.cell 4 rfl
  have cW6_0_5 : W6.cell? ⟨w.heap.size, 5, none⟩ = some (.int .u8 b5) := BW6_0.cell 5 rfl
  have cW6_0_6 : W6.cell? ⟨w.heap.size, 6, none⟩ = some (.int .u8 b6) := BW6_0.cell 6 rfl
  have cW6_0_7 : W6.cell? ⟨w.heap.size, 7, none⟩ = some (.int .u8 b7) := BW6_0.cell 7 rfl
  have fW6_0 := BW6_0.free
  have cW6_1_0 : W6.cell? ⟨g5, 0, none⟩ = some (.int .u8 x0) := BW6_1.cell 0 rfl
  have cW6_1_1 : W6.cell? ⟨g5, 1, none⟩ = some (.int .u8 x1) := BW6_1.cell 1 rfl
  have cW6_1_2 : W6.cell? ⟨g5, 2, none⟩ = some (.int .u8 x2) := BW6_1.cell 2 rfl
  have cW6_1_3 : W6.cell? ⟨g5, 3, none⟩ = some (.int .u8 x3) := BW6_1.cell 3 rfl
  have cW6_1_4 : W6.cell? ⟨g5, 4, none⟩ = some (.int .u8 x4) := BW6_1.cell 4 rfl
  have cW6_1_5 : W6.cell? ⟨g5, 5, none⟩ = some (.int .u8 x5) := BW6_1.cell 5 rfl
  have cW6_1_6 : W6.cell? ⟨g5, 6, none⟩ = some (.int .u8 x6) := BW6_1.cell 6 rfl
  have cW6_1_7 : W6.cell? ⟨g5, 7, none⟩ = some (.int .u8 x7) := BW6_1.cell 7 rfl
  have fW6_1 := BW6_1.free
  obtain ⟨g8, hg8⟩ : ∃ b, W6.heap.size = b := ⟨_, rfl⟩
  have neg8_0 : w.heap.size ≠ g8 := by have := BW6_0.lt; omega
  have eng8_0 : g8 ≠ w.heap.size := neg8_0.symm
  have neg8_1 : g5 ≠ g8 := by have := BW6_1.lt; omega
  have eng8_1 : g8 ≠ g5 := neg8_1.symm
  have log8 : w.heap.size ≤ g8 := hg8 ▸ kW6.size
  go_upto_region 6 with (fail)
  refine abs_world (fun W => Kept w W ∧ Blk W (w.heap.size) 37 #[.int .u8 b0, .int .u8 b1, .int .u8 b2, .int .u8 b3, .int .u8 b4, .int .u8 b5, .int .u8 b6, .int .u8 b7] ∧ Blk W (g5) 37 #[.int .u8 x0, .int .u8 x1, .int .u8 x2, .int .u8 x3, .int .u8 x4, .int .u8 x5, .int .u8 x6, .int .u8 x7] ∧ Blk W (g8) 28 #[.int .u64 n, .int .u64 0]) ?_ ?_
  · refine ⟨?_, ?_, ?_, ?_⟩
    · repeat (first | exact kW6 | (refine Kept.setCell ?_ (kept_side (by first | assumption | omega)) _) | apply Kept.alloc | apply Kept.drew)
    · simp [Blk, *] <;> (intros; omega)
    · simp [Blk, *] <;> (intros; omega)
    · simp [Blk, *] <;> (intros; omega)
  rintro W7 ⟨kW7, BW7_0, BW7_1, BW7_2⟩
  have cW7_0_0 : W7.cell? ⟨w.heap.size, 0, none⟩ = some (.int .u8 b0) := BW7_0.cell 0 rfl
  have cW7_0_1 : W7.cell? ⟨w.heap.size, 1, none⟩ = some (.int .u8 b1) := BW7_0.cell 1 rfl
  have cW7_0_2 : W7.cell? ⟨w.heap.size, 2, none⟩ = some (.int .u8 b2) := BW7_0.cell 2 rfl
  have cW7_0_3 : W7.cell? ⟨w.heap.size, 3, none⟩ = some (.int .u8 b3) := BW7_0.cell 3 rfl
  have cW7_0_4 : W7.cell? ⟨w.heap.size, 4, none⟩ = some (.int .u8 b4) := BW7_0.cell 4 rfl
  have cW7_0_5 : W7.cell? ⟨w.heap.size, 5, none⟩ = some (.int .u8 b5) := BW7_0.cell 5 rfl
  have cW7_0_6 : W7.cell? ⟨w.heap.size, 6, none⟩ = some (.int .u8 b6) := BW7_0.cell 6 rfl
  have cW7_0_7 : W7.cell? ⟨w.heap.size, 7, none⟩ = some (.int .u8 b7) := BW7_0.cell 7 rfl
  have fW7_0 := BW7_0.free
  have cW7_1_0 : W7.cell? ⟨g5, 0, none⟩ = some (.int .u8 x0) := BW7_1.cell 0 rfl
  have cW7_1_1 : W7.cell? ⟨g5, 1, none⟩ = some (.int .u8 x1) := BW7_1.cell 1 rfl
  have cW7_1_2 : W7.cell? ⟨g5, 2, none⟩ = some (.int .u8 x2) := BW7_1.cell 2 rfl
  have cW7_1_3 : W7.cell? ⟨g5, 3, none⟩ = some (.int .u8 x3) := BW7_1.cell 3 rfl
  have cW7_1_4 : W7.cell? ⟨g5, 4, none⟩ = some (.int .u8 x4) := BW7_1.cell 4 rfl
  have cW7_1_5 : W7.cell? ⟨g5, 5, none⟩ = some (.int .u8 x5) := BW7_1.cell 5 rfl
  have cW7_1_6 : W7.cell? ⟨g5, 6, none⟩ = some (.int .u8 x6) := BW7_1.cell 6 rfl
  have cW7_1_7 : W7.cell? ⟨g5, 7, none⟩ = some (.int .u8 x7) := BW7_1.cell 7 rfl
  have fW7_1 := BW7_1.free
  have cW7_2_0 : W7.cell? ⟨g8, 0, none⟩ = some (.int .u64 n) := BW7_2.cell 0 rfl
  have cW7_2_1 : W7.cell? ⟨g8, 1, none⟩ = some (.int .u64 0) := BW7_2.cell 1 rfl
  have fW7_2 := BW7_2.free
  go_wp2_with fail
  refine (HV.out _).mono ?_
  rintro e W8 ⟨rfl, hkW8⟩
  have kW8 := kW7.trans hkW8
  have BW8_0 := BW7_0.kept hkW8
  have BW8_1 := BW7_1.kept hkW8
  have BW8_2 := BW7_2.kept hkW8
  clear cW7_0_0 cW7_0_1 cW7_0_2 cW7_0_3 cW7_0_4 cW7_0_5 cW7_0_6 cW7_0_7 cW7_1_0 cW7_1_1 cW7_1_2 cW7_1_3 cW7_1_4 cW7_1_5 cW7_1_6 cW7_1_7 cW7_2_0 cW7_2_1 fW7_0 fW7_1 fW7_2 BW7_0 BW7_1 BW7_2 kW7 hkW8
  have cW8_0_0 : W8.cell? ⟨w.heap.size, 0, none⟩ = some (.int .u8 b0) := BW8_0.cell 0 rfl
  have cW8_0_1 : W8.cell? ⟨w.heap.size, 1, none⟩ = some (.int .u8 b1) := BW8_0.cell 1 rfl
  have cW8_0_2 : W8.cell? ⟨w.heap.size, 2, none⟩ = some (.int .u8 b2) := BW8_0.cell 2 rfl
  have cW8_0_3 : W8.cell? ⟨w.heap.size, 3, none⟩ = some (.int .u8 b3) := BW8_0.cell 3 rfl
  have cW8_0_4 : W8.cell? ⟨w.heap.size, 4, none⟩ = some (.int .u8 b4) := BW8_0.cell 4 rfl
  have cW8_0_5 : W8.cell? ⟨w.heap.size, 5, none⟩ = some (.int .u8 b5) := BW8_0.cell 5 rfl
  have cW8_0_6 : W8.cell? ⟨w.heap.size, 6, none⟩ = some (.int .u8 b6) := BW8_0.cell 6 rfl
  have cW8_0_7 : W8.cell? ⟨w.heap.size, 7, none⟩ = some (.int .u8 b7) := BW8_0.cell 7 rfl
  have fW8_0 := BW8_0.free
  have cW8_1_0 : W8.cell? ⟨g5, 0, none⟩ = some (.int .u8 x0) := BW8_1.cell 0 rfl
  have cW8_1_1 : W8.cell? ⟨g5, 1, none⟩ = some (.int .u8 x1) := BW8_1.cell 1 rfl
  have cW8_1_2 : W8.cell? ⟨g5, 2, none⟩ = some (.int .u8 x2) := BW8_1.cell 2 rfl
  have cW8_1_3 : W8.cell? ⟨g5, 3, none⟩ = some (.int .u8 x3) := BW8_1.cell 3 rfl
  have cW8_1_4 : W8.cell? ⟨g5, 4, none⟩ = some (.int .u8 x4) := BW8_1.cell 4 rfl
  have cW8_1_5 : W8.cell? ⟨g5, 5, none⟩ = some (.int .u8 x5) := BW8_1.cell 5 rfl
  have cW8_1_6 : W8.cell? ⟨g5, 6, none⟩ = some (.int .u8 x6) := BW8_1.cell 6 rfl
  have cW8_1_7 : W8.cell? ⟨g5, 7, none⟩ = some (.int .u8 x7) := BW8_1.cell 7 rfl
  have fW8_1 := BW8_1.free
  have cW8_2_0 : W8.cell? ⟨g8, 0, none⟩ = some (.int .u64 n) := BW8_2.cell 0 rfl
  have cW8_2_1 : W8.cell? ⟨g8, 1, none⟩ = some (.int .u64 0) := BW8_2.cell 1 rfl
  have fW8_2 := BW8_2.free
  go_wp2_with fail
  refine wp_region_marks (fun _ => mn) 36 (by kernel_rfl) (by kernel_rfl) rfl ?_
  simp only [List.take_succ_cons, List.take_zero, List.drop_succ_cons, List.drop_zero]
  repeat (first
    | (refine marks_skip rfl ?_; simp only [Act.put, List.setIfInBounds_toArray, List.set_cons_zero, List.set_cons_succ])
    | (refine marks_ex rfl rfl (by kernel_rfl) ?_; apply Exists.intro; refine And.intro (fun w' hk => ?_) (And.intro ?_ ?_); (focus (have q0 := hk.cell cW8_0_0; have q1 := hk.cell cW8_0_1; have q2 := hk.cell cW8_0_2; have q3 := hk.cell cW8_0_3; have q4 := hk.cell cW8_0_4; have q5 := hk.cell cW8_0_5; have q6 := hk.cell cW8_0_6; have q7 := hk.cell cW8_0_7; have q8 := hk.cell cW8_1_0; have q9 := hk.cell cW8_1_1; have q10 := hk.cell cW8_1_2; have q11 := hk.cell cW8_1_3; have q12 := hk.cell cW8_1_4; have q13 := hk.cell cW8_1_5; have q14 := hk.cell cW8_1_6; have q15 := hk.cell cW8_1_7; have q16 := hk.cell cW8_2_0; have q17 := hk.cell cW8_2_1; have qcv := HC.out w' _ (BW8_1.kept hk); clear hk; go_simp; exact rfl)); (focus (exact rfl)); simp only [Act.put, List.setIfInBounds_toArray, List.set_cons_zero, List.set_cons_succ])
    | (refine marks_call rfl rfl (by kernel_rfl) rfl HEa.out ?_ ?_; (focus (intro w'; go_simp; done)); simp only [Act.put, List.setIfInBounds_toArray, List.set_cons_zero, List.set_cons_succ])
    | (refine marks_call rfl rfl (by kernel_rfl) rfl HEn.out ?_ ?_; (focus (intro w'; go_simp; done)); simp only [Act.put, List.setIfInBounds_toArray, List.set_cons_zero, List.set_cons_succ])
    | (refine marks_call rfl rfl (by kernel_rfl) rfl HO.out ?_ ?_; (focus (intro w'; go_simp; done)); simp only [Act.put, List.setIfInBounds_toArray, List.set_cons_zero, List.set_cons_succ])
    | (refine marks_make 0 rfl rfl (by kernel_rfl) HM.out (fun v w' h => h) ?_ ?_; (focus (intro w'; go_simp; done)); simp only [Act.put, List.setIfInBounds_toArray, List.set_cons_zero, List.set_cons_succ])
    | (refine marks_step (.string S) rfl (calmM_conv rfl rfl _ rfl HD.out) ?_; simp only [Act.put, List.setIfInBounds_toArray, List.set_cons_zero, List.set_cons_succ]))
  refine marks_nil ?_
  intro a'' W9 hkW9 hra
  obtain ⟨m35, hm35, rfl⟩ := hra.mark1 35 0 rfl rfl
  simp only [Act.put, List.setIfInBounds_toArray, List.set_cons_zero, List.set_cons_succ]
  clear hra
  have kW9 := kW8.trans hkW9
  have BW9_0 := BW8_0.kept hkW9
  have BW9_1 := BW8_1.kept hkW9
  have BW9_2 := BW8_2.kept hkW9
  clear cW8_0_0 cW8_0_1 cW8_0_2 cW8_0_3 cW8_0_4 cW8_0_5 cW8_0_6 cW8_0_7 cW8_1_0 cW8_1_1 cW8_1_2 cW8_1_3 cW8_1_4 cW8_1_5 cW8_1_6 cW8_1_7 cW8_2_0 cW8_2_1 fW8_0 fW8_1 fW8_2 BW8_0 BW8_1 BW8_2 kW8 hkW9
  have cW9_0_0 : W9.cell? ⟨w.heap.size, 0, none⟩ = some (.int .u8 b0) := BW9_0.cell 0 rfl
  have cW9_0_1 : W9.cell? ⟨w.heap.size, 1, none⟩ = some (.int .u8 b1) := BW9_0.cell 1 rfl
  have cW9_0_2 : W9.cell? ⟨w.heap.size, 2, none⟩ = some (.int .u8 b2) := BW9_0.cell 2 rfl
  have cW9_0_3 : W9.cell? ⟨w.heap.size, 3, none⟩ = some (.int .u8 b3) := BW9_0.cell 3 rfl
  have cW9_0_4 : W9.cell? ⟨w.heap.size, 4, none⟩ = some (.int .u8 b4) := BW9_0.cell 4 rfl
  have cW9_0_5 : W9.cell? ⟨w.heap.size, 5, none⟩ = some (.int .u8 b5) := BW9_0.cell 5 rfl
  have cW9_0_6 : W9.cell? ⟨w.heap.size, 6, none⟩ = some (.int .u8 b6) := BW9_0.cell 6 rfl
  have cW9_0_7 : W9.cell? ⟨w.heap.size, 7, none⟩ = some (.int .u8 b7) := BW9_0.cell 7 rfl
  have fW9_0 := BW9_0.free
  have cW9_1_0 : W9.cell? ⟨g5, 0, none⟩ = some (.int .u8 x0) := BW9_1.cell 0 rfl
  have cW9_1_1 : W9.cell? ⟨g5, 1, none⟩ = some (.int .u8 x1) := BW9_1.cell 1 rfl
  have cW9_1_2 : W9.cell? ⟨g5, 2, none⟩ = some (.int .u8 x2) := BW9_1.cell 2 rfl
  have cW9_1_3 : W9.cell? ⟨g5, 3, none⟩ = some (.int .u8 x3) := BW9_1.cell 3 rfl
  have cW9_1_4 : W9.cell? ⟨g5, 4, none⟩ = some (.int .u8 x4) := BW9_1.cell 4 rfl
  have cW9_1_5 : W9.cell? ⟨g5, 5, none⟩ = some (.int .u8 x5) := BW9_1.cell 5 rfl
  have cW9_1_6 : W9.cell? ⟨g5, 6, none⟩ = some (.int .u8 x6) := BW9_1.cell 6 rfl
  have cW9_1_7 : W9.cell? ⟨g5, 7, none⟩ = some (.int .u8 x7) := BW9_1.cell 7 rfl
  have fW9_1 := BW9_1.free
  have cW9_2_0 : W9.cell? ⟨g8, 0, none⟩ = some (.int .u64 n) := BW9_2.cell 0 rfl
  have cW9_2_1 : W9.cell? ⟨g8, 1, none⟩ = some (.int .u64 0) := BW9_2.cell 1 rfl
  have fW9_2 := BW9_2.free
  go_wp2_with fail
  go_ret
  exact ⟨rfl, kW9⟩

set_option maxRecDepth 100000 in
set_option maxHeartbeats 4000000 in
theorem gold_bytes_false (b0 b1 b2 b3 b4 b5 b6 b7 x0 x1 x2 x3 x4 x5 x6 x7 a n y : Int) (S : ByteArray)
    (hK : Pure Try.prog 26 #[] (.bool true))
    (hB : Pure Try.prog 42 #[.int .u64 a] (.agg #[.int .u8 x0, .int .u8 x1, .int .u8 x2, .int .u8 x3, .int .u8 x4, .int .u8 x5, .int .u8 x6, .int .u8 x7]))
    (hT : Pure Try.prog 43 #[.agg #[.int .u8 b0, .int .u8 b1, .int .u8 b2, .int .u8 b3, .int .u8 b4, .int .u8 b5, .int .u8 b6, .int .u8 b7]] (.tuple #[.int .u64 n, .int .i64 7]))
    (HR : Hid (∀ w' b', Blk w' b' 37 #[.int .u8 b0, .int .u8 b1, .int .u8 b2, .int .u8 b3, .int .u8 b4, .int .u8 b5, .int .u8 b6, .int .u8 b7] → Calls Try.prog 44 #[.int .i64 1, .slice (some ⟨b', 0, none⟩) 8 8] w' fun e w'' => e = .returned (.tuple #[.agg #[.int .u64 n, .int .u64 0], .bool false]) ∧ Kept w' w''))
    (hV : Pure Try.prog 43 #[.agg #[.int .u8 x0, .int .u8 x1, .int .u8 x2, .int .u8 x3, .int .u8 x4, .int .u8 x5, .int .u8 x6, .int .u8 x7]] (.tuple #[.int .u64 y, .int .i64 0]))
    (hEa : Pure Try.prog 33 #[.int .u64 a] (.agg #[.int .u64 a, .int .u64 0])) (hEn : Pure Try.prog 33 #[.int .u64 n] (.agg #[.int .u64 n, .int .u64 0]))
    (hM : Makes Try.prog 45 #[.int .i64 1, .agg #[.int .u64 a, .int .u64 0]] (fun v w' => Reads w' v (bytesV [x0, x1, x2, x3, x4, x5, x6, x7])))
    (hO : Pure Try.prog 31 #[.int .u64 a] (.int .u64 y))
    (HC : Hid (∀ w' b', Blk w' b' 37 #[.int .u8 x0, .int .u8 x1, .int .u8 x2, .int .u8 x3, .int .u8 x4, .int .u8 x5, .int .u8 x6, .int .u8 x7] → (convert 42 9 (.slice (some ⟨b', 0, none⟩) 8 8)).run Try.prog w' = .ok (.string S) w'))
    (HD : Hid (∀ v w', Reads w' v (bytesV [x0, x1, x2, x3, x4, x5, x6, x7]) → (convert 42 9 v).run Try.prog w' = .ok (.string S) w'))
    (hs : ∀ s t w, (binOp .eql 28 (.agg #[.int .u64 s, .int .u64 t]) (.agg #[.int .u64 s, .int .u64 t])).run Try.prog w = .ok (.bool true) w)
    (w : World) : Calls Try.prog 6 #[.int .u64 a, .agg #[.int .u8 b0, .int .u8 b1, .int .u8 b2, .int .u8 b3, .int .u8 b4, .int .u8 b5, .int .u8 b6, .int .u8 b7]] w fun e w' => e = .returned (.bool true) ∧ Kept w w' := by
  let mn : Mean := ⟨fun v w' => Reads w' v (bytesV [x0, x1, x2, x3, x4, x5, x6, x7]), fun v w w' h hk => h.kept hk, fun b w h => by rcases h with ⟨h, _⟩ | ⟨_, _, _, h, _⟩ <;> cases h⟩
  have HK := Lib.hid hK
  have HB := Lib.hid hB
  have HT := Lib.hid hT
  have HV := Lib.hid hV
  have HEa := Lib.hid hEa
  have HEn := Lib.hid hEn
  have HM := Lib.hid hM
  have HO := Lib.hid hO
  clear hK hB hT hV hEa hEn hM hO
  go_enter Try.func6, Try.ntmps6
  go_wp2_with fail
  refine abs_calls (fun W => Kept w W ∧ Blk W (w.heap.size) 37 #[.int .u8 b0, .int .u8 b1, .int .u8 b2, .int .u8 b3, .int .u8 b4, .int .u8 b5, .int .u8 b6, .int .u8 b7]) ?_ ?_
  · refine ⟨?_, ?_⟩
    · repeat (first | exact Kept.refl _ | (refine Kept.setCell ?_ (kept_side (by first | assumption | omega)) _) | apply Kept.alloc | apply Kept.drew)
    · simp [Blk, *] <;> (intros; omega)
  rintro W1 ⟨kW1, BW1_0⟩
  have cW1_0_0 : W1.cell? ⟨w.heap.size, 0, none⟩ = some (.int .u8 b0) := BW1_0.cell 0 rfl
  have cW1_0_1 : W1.cell? ⟨w.heap.size, 1, none⟩ = some (.int .u8 b1) := BW1_0.cell 1 rfl
  have cW1_0_2 : W1.cell? ⟨w.heap.size, 2, none⟩ = some (.int .u8 b2) := BW1_0.cell 2 rfl
  have cW1_0_3 : W1.cell? ⟨w.heap.size, 3, none⟩ = some (.int .u8 b3) := BW1_0.cell 3 rfl
  have cW1_0_4 : W1.cell? ⟨w.heap.size, 4, none⟩ = some (.int .u8 b4) := BW1_0.cell 4 rfl
  have cW1_0_5 : W1.cell? ⟨w.heap.size, 5, none⟩ = some (.int .u8 b5) := BW1_0.cell 5 rfl
  have cW1_0_6 : W1.cell? ⟨w.heap.size, 6, none⟩ = some (.int .u8 b6) := BW1_0.cell 6 rfl
  have cW1_0_7 : W1.cell? ⟨w.heap.size, 7, none⟩ = some (.int .u8 b7) := BW1_0.cell 7 rfl
  have fW1_0 := BW1_0.free
  refine (HK.out _).mono ?_
  rintro e W2 ⟨rfl, hkW2⟩
  have kW2 := kW1.trans hkW2
  have BW2_0 := BW1_0.kept hkW2
  clear cW1_0_0 cW1_0_1 cW1_0_2 cW1_0_3 cW1_0_4 cW1_0_5 cW1_0_6 cW1_0_7 fW1_0 BW1_0 kW1 hkW2
  have cW2_0_0 : W2.cell? ⟨w.heap.size, 0, none⟩ = some (.int .u8 b0) := BW2_0.cell 0 rfl
  have cW2_0_1 : W2.cell? ⟨w.heap.size, 1, none⟩ = some (.int .u8 b1) := BW2_0.cell 1 rfl
  have cW2_0_2 : W2.cell? ⟨w.heap.size, 2, none⟩ = some (.int .u8 b2) := BW2_0.cell 2 rfl
  have cW2_0_3 : W2.cell? ⟨w.heap.size, 3, none⟩ = some (.int .u8 b3) := BW2_0.cell 3 rfl
  have cW2_0_4 : W2.cell? ⟨w.heap.size, 4, none⟩ = some (.int .u8 b4) := BW2_0.cell 4 rfl
  have cW2_0_5 : W2.cell? ⟨w.heap.size, 5, none⟩ = some (.int .u8 b5) := BW2_0.cell 5 rfl
  have cW2_0_6 : W2.cell? ⟨w.heap.size, 6, none⟩ = some (.int .u8 b6) := BW2_0.cell 6 rfl
  have cW2_0_7 : W2.cell? ⟨w.heap.size, 7, none⟩ = some (.int .u8 b7) := BW2_0.cell 7 rfl
  have fW2_0 := BW2_0.free
  go_wp2_with fail
  refine (HB.out _).mono ?_
  rintro e W3 ⟨rfl, hkW3⟩
  have kW3 := kW2.trans hkW3
  have BW3_0 := BW2_0.kept hkW3
  clear cW2_0_0 cW2_0_1 cW2_0_2 cW2_0_3 cW2_0_4 cW2_0_5 cW2_0_6 cW2_0_7 fW2_0 BW2_0 kW2 hkW3
  have cW3_0_0 : W3.cell? ⟨w.heap.size, 0, none⟩ = some (.int .u8 b0) := BW3_0.cell 0 rfl
  have cW3_0_1 : W3.cell? ⟨w.heap.size, 1, none⟩ = some (.int .u8 b1) := BW3_0.cell 1 rfl
  have cW3_0_2 : W3.cell? ⟨w.heap.size, 2, none⟩ = some (.int .u8 b2) := BW3_0.cell 2 rfl
  have cW3_0_3 : W3.cell? ⟨w.heap.size, 3, none⟩ = some (.int .u8 b3) := BW3_0.cell 3 rfl
  have cW3_0_4 : W3.cell? ⟨w.heap.size, 4, none⟩ = some (.int .u8 b4) := BW3_0.cell 4 rfl
  have cW3_0_5 : W3.cell? ⟨w.heap.size, 5, none⟩ = some (.int .u8 b5) := BW3_0.cell 5 rfl
  have cW3_0_6 : W3.cell? ⟨w.heap.size, 6, none⟩ = some (.int .u8 b6) := BW3_0.cell 6 rfl
  have cW3_0_7 : W3.cell? ⟨w.heap.size, 7, none⟩ = some (.int .u8 b7) := BW3_0.cell 7 rfl
  have fW3_0 := BW3_0.free
  obtain ⟨g5, hg5⟩ : ∃ b, W3.heap.size = b := ⟨_, rfl⟩
  have neg5_0 : w.heap.size ≠ g5 := by have := BW3_0.lt; omega
  have eng5_0 : g5 ≠ w.heap.size := neg5_0.symm
  have log5 : w.heap.size ≤ g5 := hg5 ▸ kW3.size
  go_upto_region 4 with (fail)
  refine abs_world (fun W => Kept w W ∧ Blk W (w.heap.size) 37 #[.int .u8 b0, .int .u8 b1, .int .u8 b2, .int .u8 b3, .int .u8 b4, .int .u8 b5, .int .u8 b6, .int .u8 b7] ∧ Blk W (g5) 37 #[.int .u8 x0, .int .u8 x1, .int .u8 x2, .int .u8 x3, .int .u8 x4, .int .u8 x5, .int .u8 x6, .int .u8 x7]) ?_ ?_
  · refine ⟨?_, ?_, ?_⟩
    · repeat (first | exact kW3 | (refine Kept.setCell ?_ (kept_side (by first | assumption | omega)) _) | apply Kept.alloc | apply Kept.drew)
    · simp [Blk, *] <;> (intros; omega)
    · simp [Blk, *] <;> (intros; omega)
  rintro W4 ⟨kW4, BW4_0, BW4_1⟩
  have cW4_0_0 : W4.cell? ⟨w.heap.size, 0, none⟩ = some (.int .u8 b0) := BW4_0.cell 0 rfl
  have cW4_0_1 : W4.cell? ⟨w.heap.size, 1, none⟩ = some (.int .u8 b1) := BW4_0.cell 1 rfl
  have cW4_0_2 : W4.cell? ⟨w.heap.size, 2, none⟩ = some (.int .u8 b2) := BW4_0.cell 2 rfl
  have cW4_0_3 : W4.cell? ⟨w.heap.size, 3, none⟩ = some (.int .u8 b3) := BW4_0.cell 3 rfl
  have cW4_0_4 : W4.cell? ⟨w.heap.size, 4, none⟩ = some (.int .u8 b4) := BW4_0.cell 4 rfl
  have cW4_0_5 : W4.cell? ⟨w.heap.size, 5, none⟩ = some (.int .u8 b5) := BW4_0.cell 5 rfl
  have cW4_0_6 : W4.cell? ⟨w.heap.size, 6, none⟩ = some (.int .u8 b6) := BW4_0.cell 6 rfl
  have cW4_0_7 : W4.cell? ⟨w.heap.size, 7, none⟩ = some (.int .u8 b7) := BW4_0.cell 7 rfl
  have fW4_0 := BW4_0.free
  have cW4_1_0 : W4.cell? ⟨g5, 0, none⟩ = some (.int .u8 x0) := BW4_1.cell 0 rfl
  have cW4_1_1 : W4.cell? ⟨g5, 1, none⟩ = some (.int .u8 x1) := BW4_1.cell 1 rfl
  have cW4_1_2 : W4.cell? ⟨g5, 2, none⟩ = some (.int .u8 x2) := BW4_1.cell 2 rfl
  have cW4_1_3 : W4.cell? ⟨g5, 3, none⟩ = some (.int .u8 x3) := BW4_1.cell 3 rfl
  have cW4_1_4 : W4.cell? ⟨g5, 4, none⟩ = some (.int .u8 x4) := BW4_1.cell 4 rfl
  have cW4_1_5 : W4.cell? ⟨g5, 5, none⟩ = some (.int .u8 x5) := BW4_1.cell 5 rfl
  have cW4_1_6 : W4.cell? ⟨g5, 6, none⟩ = some (.int .u8 x6) := BW4_1.cell 6 rfl
  have cW4_1_7 : W4.cell? ⟨g5, 7, none⟩ = some (.int .u8 x7) := BW4_1.cell 7 rfl
  have fW4_1 := BW4_1.free
  go_wp2_with fail
  refine (HT.out _).mono ?_
  rintro e W5 ⟨rfl, hkW5⟩
  have kW5 := kW4.trans hkW5
  have BW5_0 := BW4_0.kept hkW5
  have BW5_1 := BW4_1.kept hkW5
  clear cW4_0_0 cW4_0_1 cW4_0_2 cW4_0_3 cW4_0_4 cW4_0_5 cW4_0_6 cW4_0_7 cW4_1_0 cW4_1_1 cW4_1_2 cW4_1_3 cW4_1_4 cW4_1_5 cW4_1_6 cW4_1_7 fW4_0 fW4_1 BW4_0 BW4_1 kW4 hkW5
  have cW5_0_0 : W5.cell? ⟨w.heap.size, 0, none⟩ = some (.int .u8 b0) := BW5_0.cell 0 rfl
  have cW5_0_1 : W5.cell? ⟨w.heap.size, 1, none⟩ = some (.int .u8 b1) := BW5_0.cell 1 rfl
  have cW5_0_2 : W5.cell? ⟨w.heap.size, 2, none⟩ = some (.int .u8 b2) := BW5_0.cell 2 rfl
  have cW5_0_3 : W5.cell? ⟨w.heap.size, 3, none⟩ = some (.int .u8 b3) := BW5_0.cell 3 rfl
  have cW5_0_4 : W5.cell? ⟨w.heap.size, 4, none⟩ = some (.int .u8 b4) := BW5_0.cell 4 rfl
  have cW5_0_5 : W5.cell? ⟨w.heap.size, 5, none⟩ = some (.int .u8 b5) := BW5_0.cell 5 rfl
  have cW5_0_6 : W5.cell? ⟨w.heap.size, 6, none⟩ = some (.int .u8 b6) := BW5_0.cell 6 rfl
  have cW5_0_7 : W5.cell? ⟨w.heap.size, 7, none⟩ = some (.int .u8 b7) := BW5_0.cell 7 rfl
  have fW5_0 := BW5_0.free
  have cW5_1_0 : W5.cell? ⟨g5, 0, none⟩ = some (.int .u8 x0) := BW5_1.cell 0 rfl
  have cW5_1_1 : W5.cell? ⟨g5, 1, none⟩ = some (.int .u8 x1) := BW5_1.cell 1 rfl
  have cW5_1_2 : W5.cell? ⟨g5, 2, none⟩ = some (.int .u8 x2) := BW5_1.cell 2 rfl
  have cW5_1_3 : W5.cell? ⟨g5, 3, none⟩ = some (.int .u8 x3) := BW5_1.cell 3 rfl
  have cW5_1_4 : W5.cell? ⟨g5, 4, none⟩ = some (.int .u8 x4) := BW5_1.cell 4 rfl
  have cW5_1_5 : W5.cell? ⟨g5, 5, none⟩ = some (.int .u8 x5) := BW5_1.cell 5 rfl
  have cW5_1_6 : W5.cell? ⟨g5, 6, none⟩ = some (.int .u8 x6) := BW5_1.cell 6 rfl
  have cW5_1_7 : W5.cell? ⟨g5, 7, none⟩ = some (.int .u8 x7) := BW5_1.cell 7 rfl
  have fW5_1 := BW5_1.free
  go_wp2_with fail
  refine (HR.out _ _ BW5_0).mono ?_
  rintro e W6 ⟨rfl, hkW6⟩
  have kW6 := kW5.trans hkW6
  have BW6_0 := BW5_0.kept hkW6
  have BW6_1 := BW5_1.kept hkW6
  clear cW5_0_0 cW5_0_1 cW5_0_2 cW5_0_3 cW5_0_4 cW5_0_5 cW5_0_6 cW5_0_7 cW5_1_0 cW5_1_1 cW5_1_2 cW5_1_3 cW5_1_4 cW5_1_5 cW5_1_6 cW5_1_7 fW5_0 fW5_1 BW5_0 BW5_1 kW5 hkW6
  have cW6_0_0 : W6.cell? ⟨w.heap.size, 0, none⟩ = some (.int .u8 b0) := BW6_0.cell 0 rfl
  have cW6_0_1 : W6.cell? ⟨w.heap.size, 1, none⟩ = some (.int .u8 b1) := BW6_0.cell 1 rfl
  have cW6_0_2 : W6.cell? ⟨w.heap.size, 2, none⟩ = some (.int .u8 b2) := BW6_0.cell 2 rfl
  have cW6_0_3 : W6.cell? ⟨w.heap.size, 3, none⟩ = some (.int .u8 b3) := BW6_0.cell 3 rfl
  have cW6_0_4 : W6.cell? ⟨w.heap.size, 4, none⟩ = some (.int .u8 b4) := BW6_0.cell 4 rfl
  have cW6_0_5 : W6.cell? ⟨w.heap.size, 5, none⟩ = some (.int .u8 b5) := BW6_0.cell 5 rfl
  have cW6_0_6 : W6.cell? ⟨w.heap.size, 6, none⟩ = some (.int .u8 b6) := BW6_0.cell 6 rfl
  have cW6_0_7 : W6.cell? ⟨w.heap.size, 7, none⟩ = some (.int .u8 b7) := BW6_0.cell 7 rfl
  have fW6_0 := BW6_0.free
  have cW6_1_0 : W6.cell? ⟨g5, 0, none⟩ = some (.int .u8 x0) := BW6_1.cell 0 rfl
  have cW6_1_1 : W6.cell? ⟨g5, 1, none⟩ = some (.int .u8 x1) := BW6_1.cell 1 rfl
  have cW6_1_2 : W6.cell? ⟨g5, 2, none⟩ = some (.int .u8 x2) := BW6_1.cell 2 rfl
  have cW6_1_3 : W6.cell? ⟨g5, 3, none⟩ = some (.int .u8 x3) := BW6_1.cell 3 rfl
  have cW6_1_4 : W6.cell? ⟨g5, 4, none⟩ = some (.int .u8 x4) := BW6_1.cell 4 rfl
  have cW6_1_5 : W6.cell? ⟨g5, 5, none⟩ = some (.int .u8 x5) := BW6_1.cell 5 rfl
  have cW6_1_6 : W6.cell? ⟨g5, 6, none⟩ = some (.int .u8 x6) := BW6_1.cell 6 rfl
  have cW6_1_7 : W6.cell? ⟨g5, 7, none⟩ = some (.int .u8 x7) := BW6_1.cell 7 rfl
  have fW6_1 := BW6_1.free
  obtain ⟨g8, hg8⟩ : ∃ b, W6.heap.size = b := ⟨_, rfl⟩
  have neg8_0 : w.heap.size ≠ g8 := by have := BW6_0.lt; omega
  have eng8_0 : g8 ≠ w.heap.size := neg8_0.symm
  have neg8_1 : g5 ≠ g8 := by have := BW6_1.lt; omega
  have eng8_1 : g8 ≠ g5 := neg8_1.symm
  have log8 : w.heap.size ≤ g8 := hg8 ▸ kW6.size
  go_upto_region 6 with (fail)
  refine abs_world (fun W => Kept w W ∧ Blk W (w.heap.size) 37 #[.int .u8 b0, .int .u8 b1, .int .u8 b2, .int .u8 b3, .int .u8 b4, .int .u8 b5, .int .u8 b6, .int .u8 b7] ∧ Blk W (g5) 37 #[.int .u8 x0, .int .u8 x1, .int .u8 x2, .int .u8 x3, .int .u8 x4, .int .u8 x5, .int .u8 x6, .int .u8 x7] ∧ Blk W (g8) 28 #[.int .u64 n, .int .u64 0]) ?_ ?_
  · refine ⟨?_, ?_, ?_, ?_⟩
    · repeat (first | exact kW6 | (refine Kept.setCell ?_ (kept_side (by first | assumption | omega)) _) | apply Kept.alloc | apply Kept.drew)
    · simp [Blk, *] <;> (intros; omega)
    · simp [Blk, *] <;> (intros; omega)
    · simp [Blk, *] <;> (intros; omega)
  rintro W7 ⟨kW7, BW7_0, BW7_1, BW7_2⟩
  have cW7_0_0 : W7.cell? ⟨w.heap.size, 0, none⟩ = some (.int .u8 b0) := BW7_0.cell 0 rfl
  have cW7_0_1 : W7.cell? ⟨w.heap.size, 1, none⟩ = some (.int .u8 b1) := BW7_0.cell 1 rfl
  have cW7_0_2 : W7.cell? ⟨w.heap.size, 2, none⟩ = some (.int .u8 b2) := BW7_0.cell 2 rfl
  have cW7_0_3 : W7.cell? ⟨w.heap.size, 3, none⟩ = some (.int .u8 b3) := BW7_0.cell 3 rfl
  have cW7_0_4 : W7.cell? ⟨w.heap.size, 4, none⟩ = some (.int .u8 b4) := BW7_0.cell 4 rfl
  have cW7_0_5 : W7.cell? ⟨w.heap.size, 5, none⟩ = some (.int .u8 b5) := BW7_0.cell 5 rfl
  have cW7_0_6 : W7.cell? ⟨w.heap.size, 6, none⟩ = some (.int .u8 b6) := BW7_0.cell 6 rfl
  have cW7_0_7 : W7.cell? ⟨w.heap.size, 7, none⟩ = some (.int .u8 b7) := BW7_0.cell 7 rfl
  have fW7_0 := BW7_0.free
  have cW7_1_0 : W7.cell? ⟨g5, 0, none⟩ = some (.int .u8 x0) := BW7_1.cell 0 rfl
  have cW7_1_1 : W7.cell? ⟨g5, 1, none⟩ = some (.int .u8 x1) := BW7_1.cell 1 rfl
  have cW7_1_2 : W7.cell? ⟨g5, 2, none⟩ = some (.int .u8 x2) := BW7_1.cell 2 rfl
  have cW7_1_3 : W7.cell? ⟨g5, 3, none⟩ = some (.int .u8 x3) := BW7_1.cell 3 rfl
  have cW7_1_4 : W7.cell? ⟨g5, 4, none⟩ = some (.int .u8 x4) := BW7_1.cell 4 rfl
  have cW7_1_5 : W7.cell? ⟨g5, 5, none⟩ = some (.int .u8 x5) := BW7_1.cell 5 rfl
  have cW7_1_6 : W7.cell? ⟨g5, 6, none⟩ = some (.int .u8 x6) := BW7_1.cell 6 rfl
  have cW7_1_7 : W7.cell? ⟨g5, 7, none⟩ = some (.int .u8 x7) := BW7_1.cell 7 rfl
  have fW7_1 := BW7_1.free
  have cW7_2_0 : W7.cell? ⟨g8, 0, none⟩ = some (.int .u64 n) := BW7_2.cell 0 rfl
  have cW7_2_1 : W7.cell? ⟨g8, 1, none⟩ = some (.int .u64 0) := BW7_2.cell 1 rfl
  have fW7_2 := BW7_2.free
  go_wp2_with fail
  refine (HV.out _).mono ?_
  rintro e W8 ⟨rfl, hkW8⟩
  have kW8 := kW7.trans hkW8
  have BW8_0 := BW7_0.kept hkW8
  have BW8_1 := BW7_1.kept hkW8
  have BW8_2 := BW7_2.kept hkW8
  clear cW7_0_0 cW7_0_1 cW7_0_2 cW7_0_3 cW7_0_4 cW7_0_5 cW7_0_6 cW7_0_7 cW7_1_0 cW7_1_1 cW7_1_2 cW7_1_3 cW7_1_4 cW7_1_5 cW7_1_6 cW7_1_7 cW7_2_0 cW7_2_1 fW7_0 fW7_1 fW7_2 BW7_0 BW7_1 BW7_2 kW7 hkW8
  have cW8_0_0 : W8.cell? ⟨w.heap.size, 0, none⟩ = some (.int .u8 b0) := BW8_0.cell 0 rfl
  have cW8_0_1 : W8.cell? ⟨w.heap.size, 1, none⟩ = some (.int .u8 b1) := BW8_0.cell 1 rfl
  have cW8_0_2 : W8.cell? ⟨w.heap.size, 2, none⟩ = some (.int .u8 b2) := BW8_0.cell 2 rfl
  have cW8_0_3 : W8.cell? ⟨w.heap.size, 3, none⟩ = some (.int .u8 b3) := BW8_0.cell 3 rfl
  have cW8_0_4 : W8.cell? ⟨w.heap.size, 4, none⟩ = some (.int .u8 b4) := BW8_0.cell 4 rfl
  have cW8_0_5 : W8.cell? ⟨w.heap.size, 5, none⟩ = some (.int .u8 b5) := BW8_0.cell 5 rfl
  have cW8_0_6 : W8.cell? ⟨w.heap.size, 6, none⟩ = some (.int .u8 b6) := BW8_0.cell 6 rfl
  have cW8_0_7 : W8.cell? ⟨w.heap.size, 7, none⟩ = some (.int .u8 b7) := BW8_0.cell 7 rfl
  have fW8_0 := BW8_0.free
  have cW8_1_0 : W8.cell? ⟨g5, 0, none⟩ = some (.int .u8 x0) := BW8_1.cell 0 rfl
  have cW8_1_1 : W8.cell? ⟨g5, 1, none⟩ = some (.int .u8 x1) := BW8_1.cell 1 rfl
  have cW8_1_2 : W8.cell? ⟨g5, 2, none⟩ = some (.int .u8 x2) := BW8_1.cell 2 rfl
  have cW8_1_3 : W8.cell? ⟨g5, 3, none⟩ = some (.int .u8 x3) := BW8_1.cell 3 rfl
  have cW8_1_4 : W8.cell? ⟨g5, 4, none⟩ = some (.int .u8 x4) := BW8_1.cell 4 rfl
  have cW8_1_5 : W8.cell? ⟨g5, 5, none⟩ = some (.int .u8 x5) := BW8_1.cell 5 rfl
  have cW8_1_6 : W8.cell? ⟨g5, 6, none⟩ = some (.int .u8 x6) := BW8_1.cell 6 rfl
  have cW8_1_7 : W8.cell? ⟨g5, 7, none⟩ = some (.int .u8 x7) := BW8_1.cell 7 rfl
  have fW8_1 := BW8_1.free
  have cW8_2_0 : W8.cell? ⟨g8, 0, none⟩ = some (.int .u64 n) := BW8_2.cell 0 rfl
  have cW8_2_1 : W8.cell? ⟨g8, 1, none⟩ = some (.int .u64 0) := BW8_2.cell 1 rfl
  have fW8_2 := BW8_2.free
  go_wp2_with fail
  refine wp_region_marks (fun _ => mn) 36 (by kernel_rfl) (by kernel_rfl) rfl ?_
  simp only [List.take_succ_cons, List.take_zero, List.drop_succ_cons, List.drop_zero]
  repeat (first
    | (refine marks_skip rfl ?_; simp only [Act.put, List.setIfInBounds_toArray, List.set_cons_zero, List.set_cons_succ])
    | (refine marks_ex rfl rfl (by kernel_rfl) ?_; apply Exists.intro; refine And.intro (fun w' hk => ?_) (And.intro ?_ ?_); (focus (have q0 := hk.cell cW8_0_0; have q1 := hk.cell cW8_0_1; have q2 := hk.cell cW8_0_2; have q3 := hk.cell cW8_0_3; have q4 := hk.cell cW8_0_4; have q5 := hk.cell cW8_0_5; have q6 := hk.cell cW8_0_6; have q7 := hk.cell cW8_0_7; have q8 := hk.cell cW8_1_0; have q9 := hk.cell cW8_1_1; have q10 := hk.cell cW8_1_2; have q11 := hk.cell cW8_1_3; have q12 := hk.cell cW8_1_4; have q13 := hk.cell cW8_1_5; have q14 := hk.cell cW8_1_6; have q15 := hk.cell cW8_1_7; have q16 := hk.cell cW8_2_0; have q17 := hk.cell cW8_2_1; have qcv := HC.out w' _ (BW8_1.kept hk); clear hk; go_simp; exact rfl)); (focus (exact rfl)); simp only [Act.put, List.setIfInBounds_toArray, List.set_cons_zero, List.set_cons_succ])
    | (refine marks_call rfl rfl (by kernel_rfl) rfl HEa.out ?_ ?_; (focus (intro w'; go_simp; done)); simp only [Act.put, List.setIfInBounds_toArray, List.set_cons_zero, List.set_cons_succ])
    | (refine marks_call rfl rfl (by kernel_rfl) rfl HEn.out ?_ ?_; (focus (intro w'; go_simp; done)); simp only [Act.put, List.setIfInBounds_toArray, List.set_cons_zero, List.set_cons_succ])
    | (refine marks_call rfl rfl (by kernel_rfl) rfl HO.out ?_ ?_; (focus (intro w'; go_simp; done)); simp only [Act.put, List.setIfInBounds_toArray, List.set_cons_zero, List.set_cons_succ])
    | (refine marks_make 0 rfl rfl (by kernel_rfl) HM.out (fun v w' h => h) ?_ ?_; (focus (intro w'; go_simp; done)); simp only [Act.put, List.setIfInBounds_toArray, List.set_cons_zero, List.set_cons_succ])
    | (refine marks_step (.string S) rfl (calmM_conv rfl rfl _ rfl HD.out) ?_; simp only [Act.put, List.setIfInBounds_toArray, List.set_cons_zero, List.set_cons_succ]))
  refine marks_nil ?_
  intro a'' W9 hkW9 hra
  obtain ⟨m35, hm35, rfl⟩ := hra.mark1 35 0 rfl rfl
  simp only [Act.put, List.setIfInBounds_toArray, List.set_cons_zero, List.set_cons_succ]
  clear hra
  have kW9 := kW8.trans hkW9
  have BW9_0 := BW8_0.kept hkW9
  have BW9_1 := BW8_1.kept hkW9
  have BW9_2 := BW8_2.kept hkW9
  clear cW8_0_0 cW8_0_1 cW8_0_2 cW8_0_3 cW8_0_4 cW8_0_5 cW8_0_6 cW8_0_7 cW8_1_0 cW8_1_1 cW8_1_2 cW8_1_3 cW8_1_4 cW8_1_5 cW8_1_6 cW8_1_7 cW8_2_0 cW8_2_1 fW8_0 fW8_1 fW8_2 BW8_0 BW8_1 BW8_2 kW8 hkW9
  have cW9_0_0 : W9.cell? ⟨w.heap.size, 0, none⟩ = some (.int .u8 b0) := BW9_0.cell 0 rfl
  have cW9_0_1 : W9.cell? ⟨w.heap.size, 1, none⟩ = some (.int .u8 b1) := BW9_0.cell 1 rfl
  have cW9_0_2 : W9.cell? ⟨w.heap.size, 2, none⟩ = some (.int .u8 b2) := BW9_0.cell 2 rfl
  have cW9_0_3 : W9.cell? ⟨w.heap.size, 3, none⟩ = some (.int .u8 b3) := BW9_0.cell 3 rfl
  have cW9_0_4 : W9.cell? ⟨w.heap.size, 4, none⟩ = some (.int .u8 b4) := BW9_0.cell 4 rfl
  have cW9_0_5 : W9.cell? ⟨w.heap.size, 5, none⟩ = some (.int .u8 b5) := BW9_0.cell 5 rfl
  have cW9_0_6 : W9.cell? ⟨w.heap.size, 6, none⟩ = some (.int .u8 b6) := BW9_0.cell 6 rfl
  have cW9_0_7 : W9.cell? ⟨w.heap.size, 7, none⟩ = some (.int .u8 b7) := BW9_0.cell 7 rfl
  have fW9_0 := BW9_0.free
  have cW9_1_0 : W9.cell? ⟨g5, 0, none⟩ = some (.int .u8 x0) := BW9_1.cell 0 rfl
  have cW9_1_1 : W9.cell? ⟨g5, 1, none⟩ = some (.int .u8 x1) := BW9_1.cell 1 rfl
  have cW9_1_2 : W9.cell? ⟨g5, 2, none⟩ = some (.int .u8 x2) := BW9_1.cell 2 rfl
  have cW9_1_3 : W9.cell? ⟨g5, 3, none⟩ = some (.int .u8 x3) := BW9_1.cell 3 rfl
  have cW9_1_4 : W9.cell? ⟨g5, 4, none⟩ = some (.int .u8 x4) := BW9_1.cell 4 rfl
  have cW9_1_5 : W9.cell? ⟨g5, 5, none⟩ = some (.int .u8 x5) := BW9_1.cell 5 rfl
  have cW9_1_6 : W9.cell? ⟨g5, 6, none⟩ = some (.int .u8 x6) := BW9_1.cell 6 rfl
  have cW9_1_7 : W9.cell? ⟨g5, 7, none⟩ = some (.int .u8 x7) := BW9_1.cell 7 rfl
  have fW9_1 := BW9_1.free
  have cW9_2_0 : W9.cell? ⟨g8, 0, none⟩ = some (.int .u64 n) := BW9_2.cell 0 rfl
  have cW9_2_1 : W9.cell? ⟨g8, 1, none⟩ = some (.int .u64 0) := BW9_2.cell 1 rfl
  have fW9_2 := BW9_2.free
  go_wp2_with fail
  go_ret
  exact ⟨rfl, kW9⟩


theorem leVal_leBytes : ∀ (k : Nat) (n : Int), 0 ≤ n → n < 256 ^ k → leVal (leBytes k n) = n
  | 0, n, h0, h1 => by simp only [leBytes, leVal]; rw [Int.pow_zero] at h1; omega
  | k + 1, n, h0, h1 => by
    rw [Int.pow_succ, Int.mul_comm] at h1
    have h2 : n / 256 < 256 ^ k := Int.ediv_lt_of_lt_mul (by omega) (by rw [Int.mul_comm]; exact h1)
    rw [leBytes, leVal_cons, leVal_leBytes k (n / 256) (by omega) h2]
    omega
theorem isByte_leBytes : ∀ (k : Nat) (n : Int), ∀ x ∈ leBytes k n, isByte x
  | 0, n, x, hx => by simp [leBytes] at hx
  | k + 1, n, x, hx => by
    rw [leBytes] at hx
    rcases List.mem_cons.1 hx with rfl | hx
    · unfold isByte; omega
    · exact isByte_leBytes k _ x hx
theorem blk_bytes {w : World} {b : Nat} {t : TypeId} {bs : List Int} (h : Blk w b t (bytesV bs).toArray) : ∀ j, j < bs.length → w.cell? ⟨b, 0 + j, none⟩ = some (.int .u8 (bs.getD j 0)) := by
  intro j hj
  rw [Nat.zero_add]
  refine h.cell j ?_
  rw [List.getD_eq_getElem?_getD, List.getElem?_eq_getElem hj]
  simp [bytesV, hj]
theorem reads_bytes {w : World} {v : Value} {bs : List Int} (h : Reads w v (bytesV bs)) (hne : bs ≠ []) : ∃ b o cap, v = .slice (some ⟨b, o, none⟩) bs.length cap ∧ bs.length ≤ cap ∧ ∀ j, j < bs.length → w.cell? ⟨b, o + j, none⟩ = some (.int .u8 (bs.getD j 0)) := by
  rcases h with ⟨_, h⟩ | ⟨b, o, cap, h1, h2, h3⟩
  · unfold bytesV at h; exact absurd (List.map_eq_nil_iff.1 h) hne
  · rw [show (bytesV bs).length = bs.length by simp [bytesV]] at h1 h2
    refine ⟨b, o, cap, h1, h2, fun j hj => h3 j _ ?_⟩
    rw [List.getD_eq_getElem?_getD, List.getElem?_eq_getElem hj]
    simp [bytesV, hj]
theorem conv_reads {w : World} {v : Value} {bs : List Int} (h : Reads w v (bytesV bs)) (hne : bs ≠ []) (hb : ∀ x ∈ bs, isByte x) : (convert 42 9 v).run Try.prog w = .ok (.string (strOf bs)) w := by
  obtain ⟨b, o, cap, rfl, _, h3⟩ := reads_bytes h hne
  exact conv_str Try.underlying42 Try.underlying5 Try.underlying9 w hb h3
theorem list8 {l : List Int} (h : l.length = 8) : ∃ x0 x1 x2 x3 x4 x5 x6 x7, l = [x0, x1, x2, x3, x4, x5, x6, x7] := by
  match l, h with
  | [x0, x1, x2, x3, x4, x5, x6, x7], _ => exact ⟨_, _, _, _, _, _, _, _, rfl⟩
theorem length_leBytes : ∀ (k : Nat) (n : Int), (leBytes k n).length = k
  | 0, _ => rfl
  | k + 1, n => by rw [leBytes, List.length_cons, length_leBytes k]

theorem eql28_selfB (s t : Int) (w : World) : (binOp .eql 28 (.agg #[.int .u64 s, .int .u64 t]) (.agg #[.int .u64 s, .int .u64 t])).run Try.prog w = .ok (.bool true) w := by rw [run_eql28]; simp

theorem gold_bytes_law (a : Int) (wa : (Lit.int .u64 a).wf = true) (b : List Int) (lb : b.length = 8) (wb : ∀ z ∈ b, (Lit.int .u8 z).wf = true) (w : World) :
    Calls Try.prog 6 #[.int .u64 a, .agg (b.map (Value.int .u8)).toArray] w fun e w' => e = .returned (.bool true) ∧ Kept w w' := by
  have ha := is64_mk wa
  have hb : ∀ z ∈ b, isByte z := fun z hz => by
    have := wb z hz
    simp [Lit.wf, IntKind.min, IntKind.max, IntKind.signed, IntKind.bits] at this
    unfold isByte; omega
  have hg : is64 (a % gP) := is64_emod a
  have hgl : a % gP < gP := Int.emod_lt_of_pos _ (by unfold gP; omega)
  have hB := g_Bytes ha
  have hV := g_Take (length_leBytes 8 (a % gP)) (isByte_leBytes 8 (a % gP))
  rw [leVal_leBytes 8 _ hg.1 (by unfold is64 at hg; omega), if_pos hgl] at hV
  have hM : Makes Try.prog 45 #[.int .i64 1, .agg #[.int .u64 a, .int .u64 0]] (fun v w' => Reads w' v (bytesV (leBytes 8 (a % gP)))) := fun w => by
    have := ref_Bytes (.inl rfl) (is128_of64 ha) w
    rw [E_small ha, rOf1 ha] at this
    exact this.mono fun e w' ⟨v, h1, h2, h3⟩ => ⟨v, h1, reads_of_own h2, h3⟩
  have hC : ∀ w' b', Blk w' b' 37 (bytesV (leBytes 8 (a % gP))).toArray → (convert 42 9 (.slice (some ⟨b', 0, none⟩) 8 8)).run Try.prog w' = .ok (.string (strOf (leBytes 8 (a % gP)))) w' := fun w' b' h => by
    have := conv_str (cap := 8) Try.underlying42 Try.underlying5 Try.underlying9 w' (isByte_leBytes 8 (a % gP)) (blk_bytes h)
    rw [length_leBytes] at this
    exact this
  have hD : ∀ v w', Reads w' v (bytesV (leBytes 8 (a % gP))) → (convert 42 9 v).run Try.prog w' = .ok (.string (strOf (leBytes 8 (a % gP)))) w' := fun v w' h => conv_reads h (by simp [leBytes]) (isByte_leBytes 8 (a % gP))
  have hT := g_Take lb hb
  have hR : ∀ w' b', Blk w' b' 37 (bytesV b).toArray → Calls Try.prog 44 #[.int .i64 1, .slice (some ⟨b', 0, none⟩) 8 8] w' fun e w'' => e = .returned (.tuple #[if leVal b < gP then E (leVal b) else E 0, .bool (decide (leVal b < gP))]) ∧ Kept w' w'' := fun w' b' h => by
    have := ref_Take (f := 1) (cap := 8) (.inl rfl) (by omega) hb w' h.lt (blk_bytes h)
    rw [lb, rP1] at this
    exact this
  have h0 := leVal_lo b hb
  obtain ⟨x0, x1, x2, x3, x4, x5, x6, x7, hX⟩ := list8 (length_leBytes 8 (a % gP))
  rw [hX] at hB hV hM hC hD
  generalize strOf _ = S at hC hD
  by_cases h : leVal b < gP
  · rw [if_pos h] at hT
    simp only [if_pos h, decide_eq_true h] at hR
    have hn : is64 (leVal b) := by unfold gP at h; unfold is64; omega
    rw [E_small hn] at hR
    obtain ⟨b0, b1, b2, b3, b4, b5, b6, b7, rfl⟩ := list8 lb
    generalize leVal _ = n at hT hR
    exact gold_bytes_true _ _ _ _ _ _ _ _ _ _ _ _ _ _ _ _ a n _ S gold_Awake.pure hB hT hR hV (law_e a) (law_e n) hM (g_Of ha).pure hC hD eql28_selfB w
  · rw [if_neg h] at hT
    simp only [if_neg h, decide_eq_false h] at hR
    rw [E_small (a := 0) (by unfold is64; omega)] at hR
    obtain ⟨b0, b1, b2, b3, b4, b5, b6, b7, rfl⟩ := list8 lb
    exact gold_bytes_false _ _ _ _ _ _ _ _ _ _ _ _ _ _ _ _ a 0 _ S gold_Awake.pure hB hT hR hV (law_e a) (law_e 0) hM (g_Of ha).pure hC hD eql28_selfB w
end Go.Proofs.Ytnajihlhcdedgaa
