/-
  The walks of wide: fold told whole; Mul.
-/
import Derived.Test.YtnajihlhcdedgaaW4
import Derived.Deep.LoopGhost
namespace Go.Proofs.Ytnajihlhcdedgaa
open Go.RowKit
set_option linter.unusedVariables false
set_option linter.unusedSimpArgs false
attribute [local simp] blkAt_setCell blkAt_alloc blkAt_drew Obj.put_cells

/-- The high half taken in once. -/
def fold (n : Int) : Int := n % 340282366920938463463374607431768211456 + n / 340282366920938463463374607431768211456 * 516508834063867445248 - n / 340282366920938463463374607431768211456

theorem fold_ok {n : Int} (h : is256 n) : is256 (fold n) := by unfold is256 fold at *; omega
theorem fold_lt {n : Int} (h : is256 n) (g : 340282366920938463463374607431768211456 ≤ n) : (fold n).toNat < n.toNat := by unfold is256 fold at *; omega
theorem fold_mod (n : Int) : fold n % wP = n % wP := by
  have e : n = fold n + wP * (n / 340282366920938463463374607431768211456) := by unfold fold wP; omega
  conv => rhs; rw [e, Int.add_mul_emod_self_left]

theorem add_step (x y c : Int) (hx : is64 x) (hy : is64 y) (hc : 0 ≤ c ∧ c ≤ 1) (s d : Int) (hs : s = (x + y + c) % 18446744073709551616) (hd : d = (x + y + c) / 18446744073709551616) :
    ∀ w, (callFunc 110 #[.int .u64 x, .int .u64 y, .int .u64 c]).run Try.prog w = .ok (.value (.tuple #[.int .u64 s, .int .u64 d])) w := fun w => by
  unfold is64 at hx hy
  rw [hs, hd, run_Add64 _ _ _ hx.1 hy.1 hc.1 hc.2]
theorem sub_step (x y c : Int) (hx : is64 x) (hy : is64 y) (hc : 0 ≤ c ∧ c ≤ 1) (s d : Int) (hs : s = (x - y - c) % 18446744073709551616) (hd : d = if x < y + c then 1 else 0) :
    ∀ w, (callFunc 133 #[.int .u64 x, .int .u64 y, .int .u64 c]).run Try.prog w = .ok (.value (.tuple #[.int .u64 s, .int .u64 d])) w := fun w => by
  unfold is64 at hx hy
  rw [hs, hd, run_Sub64 _ _ _ hx.1 hy.1 hx.2 hy.2 hc.1 hc.2]
theorem sub_step' {x y c : Int} (hx : is64 x) (hy : is64 y) (hc : 0 ≤ c ∧ c ≤ 1) :
    ∃ s d, is64 s ∧ (0 ≤ d ∧ d ≤ 1) ∧ s = x - y - c + d * 18446744073709551616 ∧ ∀ w, (callFunc 133 #[.int .u64 x, .int .u64 y, .int .u64 c]).run Try.prog w = .ok (.value (.tuple #[.int .u64 s, .int .u64 d])) w := by
  unfold is64 at *
  by_cases h : x < y + c
  · exact ⟨x - y - c + 1 * 18446744073709551616, 1, by omega, by omega, rfl, sub_step x y c hx hy hc _ _ (by omega) (by rw [if_pos h])⟩
  · exact ⟨x - y - c + 0 * 18446744073709551616, 0, by omega, by omega, rfl, sub_step x y c hx hy hc _ _ (by omega) (by rw [if_neg h])⟩
theorem add_step' {x y c : Int} (hx : is64 x) (hy : is64 y) (hc : 0 ≤ c ∧ c ≤ 1) :
    ∃ s d, is64 s ∧ (0 ≤ d ∧ d ≤ 1) ∧ s = x + y + c - d * 18446744073709551616 ∧ ∀ w, (callFunc 110 #[.int .u64 x, .int .u64 y, .int .u64 c]).run Try.prog w = .ok (.value (.tuple #[.int .u64 s, .int .u64 d])) w := by
  unfold is64 at *
  exact ⟨(x + y + c) % 18446744073709551616, (x + y + c) / 18446744073709551616, by omega, by omega, by omega, add_step x y c hx hy hc _ _ rfl rfl⟩

def l0 (n : Int) : Int := n % 18446744073709551616
def l1 (n : Int) : Int := n / 18446744073709551616 % 18446744073709551616
def l2 (n : Int) : Int := n / 340282366920938463463374607431768211456 % 18446744073709551616
def l3 (n : Int) : Int := n / 6277101735386680763835789423207666416102355444464034512896
theorem Q4_l (n : Int) : Q4 n = .agg #[.int .u64 (l0 n), .int .u64 (l1 n), .int .u64 (l2 n), .int .u64 (l3 n)] := rfl
theorem l_split (n : Int) : n = l0 n + l1 n * 18446744073709551616 + l2 n * 340282366920938463463374607431768211456 + l3 n * 6277101735386680763835789423207666416102355444464034512896 := by unfold l0 l1 l2 l3; omega
theorem l_ok {n : Int} (h : is256 n) : is64 (l0 n) ∧ is64 (l1 n) ∧ is64 (l2 n) ∧ is64 (l3 n) := by unfold is256 at h; unfold is64 l0 l1 l2 l3; omega

theorem lim_add (q0 q1 m0 m1 m2 m3 s0 s1 s2 s3 c0 c1 c2 c3 M : Int) (e0 : s0 = q0 + m0 + 0 - c0 * 18446744073709551616) (e1 : s1 = q1 + m1 + c0 - c1 * 18446744073709551616) (e2 : s2 = 0 + m2 + c1 - c2 * 18446744073709551616) (e3 : s3 = 0 + m3 + c2 - c3 * 18446744073709551616)
    (em : M = m0 + m1 * 18446744073709551616 + m2 * 340282366920938463463374607431768211456 + m3 * 6277101735386680763835789423207666416102355444464034512896) : s0 + s1 * 18446744073709551616 + s2 * 340282366920938463463374607431768211456 + s3 * 6277101735386680763835789423207666416102355444464034512896 = q0 + q1 * 18446744073709551616 + M - c3 * 115792089237316195423570985008687907853269984665640564039457584007913129639936 := by
  rw [e0, e1, e2, e3, em]; omega
theorem lim_sub (q2 q3 s0 s1 s2 s3 r0 r1 r2 r3 d0 d1 d2 d3 : Int) (f0 : r0 = s0 - q2 - 0 + d0 * 18446744073709551616) (f1 : r1 = s1 - q3 - d0 + d1 * 18446744073709551616) (f2 : r2 = s2 - 0 - d1 + d2 * 18446744073709551616) (f3 : r3 = s3 - 0 - d2 + d3 * 18446744073709551616) :
    r0 + r1 * 18446744073709551616 + r2 * 340282366920938463463374607431768211456 + r3 * 6277101735386680763835789423207666416102355444464034512896 = (s0 + s1 * 18446744073709551616 + s2 * 340282366920938463463374607431768211456 + s3 * 6277101735386680763835789423207666416102355444464034512896) - (q2 + q3 * 18446744073709551616) + d3 * 115792089237316195423570985008687907853269984665640564039457584007913129639936 := by
  rw [f0, f1, f2, f3]; omega
theorem lim_256 {s0 s1 s2 s3 : Int} (h0 : is64 s0) (h1 : is64 s1) (h2 : is64 s2) (h3 : is64 s3) : is256 (s0 + s1 * 18446744073709551616 + s2 * 340282366920938463463374607431768211456 + s3 * 6277101735386680763835789423207666416102355444464034512896) := by
  unfold is64 at *; unfold is256; omega
theorem no_carry (S X c : Int) (hS : is256 S) (hX : X < 115792089237316195423570985008687907853269984665640564039457584007913129639936) (hc : 0 ≤ c ∧ c ≤ 1) (h : S = X - c * 115792089237316195423570985008687907853269984665640564039457584007913129639936) : S = X := by
  unfold is256 at hS; omega
theorem no_borrow (R X d : Int) (hR : is256 R) (hX : 0 ≤ X) (hd : 0 ≤ d ∧ d ≤ 1) (h : R = X + d * 115792089237316195423570985008687907853269984665640564039457584007913129639936) : R = X := by
  unfold is256 at hR; omega
theorem fold_M (q2 q3 M : Int) (h2 : is64 q2) (h3 : is64 q3) (hM : q2 * 28 * 18446744073709551616 + q3 * 28 * 340282366920938463463374607431768211456 = M) : is256 M ∧ M < 1606938044258990275541962092341162602522202993782792835301376 ∧ M = (q2 + q3 * 18446744073709551616) * 516508834063867445248 ∧ q2 + q3 * 18446744073709551616 ≤ M := by
  unfold is64 at *; unfold is256; omega

theorem lim_x {q0 q1 M : Int} (h0 : is64 q0) (h1 : is64 q1) (hM : M < 1606938044258990275541962092341162602522202993782792835301376) : q0 + q1 * 18446744073709551616 + M < 115792089237316195423570985008687907853269984665640564039457584007913129639936 := by unfold is64 at *; omega
theorem lim_y {q0 q1 M H : Int} (h0 : is64 q0) (h1 : is64 q1) (hM : H ≤ M) : 0 ≤ q0 + q1 * 18446744073709551616 + M - H := by unfold is64 at *; omega

theorem w_fold {n : Int} (h : is256 n) : Pure Try.prog 120 #[Q4 n] (Q4 (fold n)) := by
  obtain ⟨hq0, hq1, hq2, hq3⟩ := l_ok h
  have ehi : n / 340282366920938463463374607431768211456 = l2 n + l3 n * 18446744073709551616 := by clear hq0 hq1 hq2 hq3; unfold l2 l3; unfold is256 at h; omega
  have elo : n % 340282366920938463463374607431768211456 = l0 n + l1 n * 18446744073709551616 := by clear hq0 hq1 hq2 hq3 ehi; unfold l0 l1; omega
  have hf : fold n = l0 n + l1 n * 18446744073709551616 + (l2 n + l3 n * 18446744073709551616) * 516508834063867445248 - (l2 n + l3 n * 18446744073709551616) := by unfold fold; rw [ehi, elo]
  have hP := w_product_limbs hq2 hq3 (b0 := 0) (b1 := 28) (is64_of (by decide) (by decide)) (is64_of (by decide) (by decide))
  rw [Int.mul_zero, Int.mul_zero, Int.zero_add, Int.add_zero] at hP
  rw [Q4_l n]
  generalize hM : l2 n * 28 * 18446744073709551616 + l3 n * 28 * 340282366920938463463374607431768211456 = M at hP
  clear ehi elo
  generalize fold n = F at *
  generalize l0 n = q0 at *
  generalize l1 n = q1 at *
  generalize l2 n = q2 at *
  generalize l3 n = q3 at *
  clear h
  obtain ⟨hm, hm1, hm2, hm3⟩ := fold_M q2 q3 M hq2 hq3 hM
  clear hM
  obtain ⟨g0, g1, g2, g3⟩ := l_ok hm
  have em := l_split M
  rw [Q4_l M] at hP
  generalize l0 M = m0 at *
  generalize l1 M = m1 at *
  generalize l2 M = m2 at *
  generalize l3 M = m3 at *
  have z : is64 0 := is64_of (by decide) (by decide)
  obtain ⟨s0, c0, hs0, hc0, e0, A0⟩ := add_step' hq0 g0 (c := 0) (by decide)
  obtain ⟨s1, c1, hs1, hc1, e1, A1⟩ := add_step' hq1 g1 hc0
  obtain ⟨s2, c2, hs2, hc2, e2, A2⟩ := add_step' z g2 hc1
  obtain ⟨s3, c3, hs3, hc3, e3, A3⟩ := add_step' z g3 hc2
  obtain ⟨r0, d0, hr0, hd0, f0, S0⟩ := sub_step' hs0 hq2 (c := 0) (by decide)
  obtain ⟨r1, d1, hr1, hd1, f1, S1⟩ := sub_step' hs1 hq3 hd0
  obtain ⟨r2, d2, hr2, hd2, f2, S2⟩ := sub_step' hs2 z hd1
  obtain ⟨r3, d3, hr3, hd3, f3, S3⟩ := sub_step' hs3 z hd2
  have key := w_fold_raw q0 q1 q2 q3 m0 m1 m2 m3 s0 c0 s1 c1 s2 c2 s3 c3 r0 d0 r1 d1 r2 d2 r3 d3 hP A0 A1 A2 A3 S0 S1 S2 S3
  clear A0 A1 A2 A3 S0 S1 S2 S3 hP
  have E1 := lim_add q0 q1 m0 m1 m2 m3 s0 s1 s2 s3 c0 c1 c2 c3 M e0 e1 e2 e3 em
  have E2 := lim_sub q2 q3 s0 s1 s2 s3 r0 r1 r2 r3 d0 d1 d2 d3 f0 f1 f2 f3
  have E3 := no_carry _ _ c3 (lim_256 hs0 hs1 hs2 hs3) (lim_x hq0 hq1 hm1) hc3 E1
  rw [E3] at E2
  have E4 := no_borrow _ _ d3 (lim_256 hr0 hr1 hr2 hr3) (lim_y hq0 hq1 hm3) hd3 E2
  rw [Q4_mk r0 r1 r2 r3 F hr0 hr1 hr2 (by rw [E4, hf, hm2])]
  exact key

end Go.Proofs.Ytnajihlhcdedgaa
