/-
  The walks of wide: product told whole.
-/
import Derived.Test.YtnajihlhcdedgaaW2
namespace Go.Proofs.Ytnajihlhcdedgaa
open Go.RowKit
set_option linter.unusedVariables false
set_option linter.unusedSimpArgs false
attribute [local simp] blkAt_setCell blkAt_alloc blkAt_drew Obj.put_cells

/-- A number of 256 bits as four of 64. -/
def Q4 (n : Int) : Value := .agg #[.int .u64 (n % 18446744073709551616), .int .u64 (n / 18446744073709551616 % 18446744073709551616), .int .u64 (n / 340282366920938463463374607431768211456 % 18446744073709551616), .int .u64 (n / 6277101735386680763835789423207666416102355444464034512896)]
theorem agg4_congr {a b c d a' b' c' d' : Int} (h1 : a = a') (h2 : b = b') (h3 : c = c') (h4 : d = d') : (Value.agg #[.int .u64 a, .int .u64 b, .int .u64 c, .int .u64 d]) = .agg #[.int .u64 a', .int .u64 b', .int .u64 c', .int .u64 d'] := by rw [h1, h2, h3, h4]
theorem Q4_mk (a b c d n : Int) (ha : is64 a) (hb : is64 b) (hc : is64 c) (hn : n = a + b * 18446744073709551616 + c * 340282366920938463463374607431768211456 + d * 6277101735386680763835789423207666416102355444464034512896) : Q4 n = .agg #[.int .u64 a, .int .u64 b, .int .u64 c, .int .u64 d] := by
  unfold is64 at *; unfold Q4
  exact agg4_congr (by omega) (by omega) (by omega) (by omega)

theorem wrap_id {x : Int} (h : is64 x) : IntKind.u64.wrap x = x := by unfold is64 at h; rw [IntKind.wrap_u64]; omega

theorem prod_round (p o cy : Int) (p0 : 0 ≤ p) (p1 : p ≤ 340282366920938463426481119284349108225) (ho : is64 o) (hc : is64 cy) :
    ∃ m c j d, (∀ w, (callFunc 110 #[.int .u64 (p % 18446744073709551616), .int .u64 o, .int .u64 0]).run Try.prog w = .ok (.value (.tuple #[.int .u64 m, .int .u64 c])) w) ∧ IntKind.u64.wrap (p / 18446744073709551616 + c) = j ∧
      (∀ w, (callFunc 110 #[.int .u64 m, .int .u64 cy, .int .u64 0]).run Try.prog w = .ok (.value (.tuple #[.int .u64 ((p + o + cy) % 18446744073709551616), .int .u64 d])) w) ∧ IntKind.u64.wrap (j + d) = (p + o + cy) / 18446744073709551616 := by
  unfold is64 at ho hc
  refine ⟨_, _, _, ((p % 18446744073709551616 + o + 0) % 18446744073709551616 + cy + 0) / 18446744073709551616, fun w => run_Add64 _ _ 0 (by omega) (by omega) (by omega) (by omega) w, rfl, fun w => ?_, ?_⟩
  · rw [run_Add64 _ _ 0 (by omega) (by omega) (by omega) (by omega) w, show ((p % 18446744073709551616 + o + 0) % 18446744073709551616 + cy + 0) % 18446744073709551616 = (p + o + cy) % 18446744073709551616 by omega]
  · rw [wrap_id (x := p / 18446744073709551616 + _) (by unfold is64; omega), wrap_id (by unfold is64; omega)]
    omega

theorem mul_bound {x y : Int} (hx : is64 x) (hy : is64 y) : 0 ≤ x * y ∧ x * y ≤ 340282366920938463426481119284349108225 := by
  unfold is64 at hx hy
  refine ⟨Int.mul_nonneg hx.1 hy.1, ?_⟩
  exact Int.le_trans (Int.mul_le_mul hx.2 hy.2 hy.1 (by omega)) (by omega)

theorem mul_pure {x y : Int} (hx : is64 x) (hy : is64 y) : Pure Try.prog 111 #[.int .u64 x, .int .u64 y] (.tuple #[.int .u64 (x * y / 18446744073709551616), .int .u64 (x * y % 18446744073709551616)]) :=
  Gives.pure fun w => bits_Mul64 x y hx.1 hx.2 hy.1 hy.2 w

theorem is64_of {x : Int} (h0 : 0 ≤ x) (h1 : x ≤ 18446744073709551615) : is64 x := ⟨h0, h1⟩

theorem w_product_limbs {a0 a1 b0 b1 : Int} (h0 : is64 a0) (h1 : is64 a1) (g0 : is64 b0) (g1 : is64 b1) :
    Pure Try.prog 119 #[.agg #[.int .u64 a0, .int .u64 a1], .agg #[.int .u64 b0, .int .u64 b1]] (Q4 (a0 * b0 + (a0 * b1 + a1 * b0) * 18446744073709551616 + a1 * b1 * 340282366920938463463374607431768211456)) := by
  have p00 := mul_bound h0 g0
  have p01 := mul_bound h0 g1
  have p10 := mul_bound h1 g0
  have p11 := mul_bound h1 g1
  have M00 := mul_pure h0 g0
  have M01 := mul_pure h0 g1
  have M10 := mul_pure h1 g0
  have M11 := mul_pure h1 g1
  generalize a0 * b0 = P00 at *
  generalize a0 * b1 = P01 at *
  generalize a1 * b0 = P10 at *
  generalize a1 * b1 = P11 at *
  clear h0 h1 g0 g1
  have z : is64 0 := is64_of (by omega) (by omega)
  obtain ⟨m00, c00, j00, d00, A00, w00, B00, x00⟩ := prod_round P00 0 0 p00.1 p00.2 z z
  obtain ⟨o00, ho00⟩ : ∃ x, (P00 + 0 + 0) % 18446744073709551616 = x := ⟨_, rfl⟩
  obtain ⟨k00, hk00⟩ : ∃ x, (P00 + 0 + 0) / 18446744073709551616 = x := ⟨_, rfl⟩
  rw [ho00] at B00; rw [hk00] at x00
  have bo00 : is64 o00 := is64_of (by omega) (by omega)
  have bk00 : is64 k00 := is64_of (by omega) (by omega)
  obtain ⟨m01, c01, j01, d01, A01, w01, B01, x01⟩ := prod_round P01 0 k00 p01.1 p01.2 z bk00
  obtain ⟨o01, ho01⟩ : ∃ x, (P01 + 0 + k00) % 18446744073709551616 = x := ⟨_, rfl⟩
  obtain ⟨k01, hk01⟩ : ∃ x, (P01 + 0 + k00) / 18446744073709551616 = x := ⟨_, rfl⟩
  rw [ho01] at B01; rw [hk01] at x01
  have bo01 : is64 o01 := is64_of (by unfold is64 at bk00; omega) (by unfold is64 at bk00; omega)
  have bk01 : is64 k01 := is64_of (by unfold is64 at bk00; omega) (by unfold is64 at bk00; omega)
  obtain ⟨m10, c10, j10, d10, A10, w10, B10, x10⟩ := prod_round P10 o01 0 p10.1 p10.2 bo01 z
  obtain ⟨o10, ho10⟩ : ∃ x, (P10 + o01 + 0) % 18446744073709551616 = x := ⟨_, rfl⟩
  obtain ⟨k10, hk10⟩ : ∃ x, (P10 + o01 + 0) / 18446744073709551616 = x := ⟨_, rfl⟩
  rw [ho10] at B10; rw [hk10] at x10
  have bo10 : is64 o10 := is64_of (by unfold is64 at bo01; omega) (by unfold is64 at bo01; omega)
  have bk10 : is64 k10 := is64_of (by unfold is64 at bo01; omega) (by unfold is64 at bo01; omega)
  obtain ⟨m11, c11, j11, d11, A11, w11, B11, x11⟩ := prod_round P11 k01 k10 p11.1 p11.2 bk01 bk10
  obtain ⟨o11, ho11⟩ : ∃ x, (P11 + k01 + k10) % 18446744073709551616 = x := ⟨_, rfl⟩
  obtain ⟨k11, hk11⟩ : ∃ x, (P11 + k01 + k10) / 18446744073709551616 = x := ⟨_, rfl⟩
  rw [ho11] at B11; rw [hk11] at x11
  have bo11 : is64 o11 := is64_of (by unfold is64 at bk01 bk10; omega) (by unfold is64 at bk01 bk10; omega)
  have key := w_product_raw (h00 := P00 / 18446744073709551616) (l00 := P00 % 18446744073709551616) (h01 := P01 / 18446744073709551616) (l01 := P01 % 18446744073709551616) (h10 := P10 / 18446744073709551616) (l10 := P10 % 18446744073709551616) (h11 := P11 / 18446744073709551616) (l11 := P11 % 18446744073709551616) (hM00 := M00) (SA00 := A00) (w100 := w00) (SB00 := B00) (w200 := x00) (hM01 := M01) (SA01 := A01) (w101 := w01) (SB01 := B01) (w201 := x01)
    (hM10 := M10) (SA10 := A10) (w110 := w10) (SB10 := B10) (w210 := x10) (hM11 := M11) (SA11 := A11) (w111 := w11) (SB11 := B11) (w211 := x11)
  rw [Q4_mk o00 o10 o11 k11 _ bo00 bo10 bo11 (by omega)]
  exact key

def is256 (n : Int) : Prop := 0 ≤ n ∧ n < 115792089237316195423570985008687907853269984665640564039457584007913129639936

theorem split128 {a : Int} (ha : is128 a) : is64 (a % 18446744073709551616) ∧ is64 (a / 18446744073709551616) ∧ a = a % 18446744073709551616 + a / 18446744073709551616 * 18446744073709551616 := ⟨is64_lo a, is64_hi ha, by omega⟩

theorem w_product {a b : Int} (ha : is128 a) (hb : is128 b) : Pure Try.prog 119 #[E a, E b] (Q4 (a * b)) := by
  obtain ⟨h0, h1, ea⟩ := split128 ha
  obtain ⟨g0, g1, eb⟩ := split128 hb
  have key := w_product_limbs h0 h1 g0 g1
  have e : a * b = a % 18446744073709551616 * (b % 18446744073709551616) + (a % 18446744073709551616 * (b / 18446744073709551616) + a / 18446744073709551616 * (b % 18446744073709551616)) * 18446744073709551616 + a / 18446744073709551616 * (b / 18446744073709551616) * 340282366920938463463374607431768211456 := by
    conv => lhs; rw [ea, eb]
    generalize a % 18446744073709551616 = x0
    generalize a / 18446744073709551616 = x1
    generalize b % 18446744073709551616 = y0
    generalize b / 18446744073709551616 = y1
    rw [show (340282366920938463463374607431768211456 : Int) = 18446744073709551616 * 18446744073709551616 from rfl]
    simp only [Int.add_mul, Int.mul_add, Int.mul_assoc, Int.mul_left_comm, Int.mul_comm]
    ac_rfl
  rw [e]
  exact key

end Go.Proofs.Ytnajihlhcdedgaa
