/-
  Texts joined: K2 K3 K4 K5 K6 K7 K8 K9 K10 K11 M2.
-/
import Derived.Test.YtnajihlhcdedgaaZa
import Derived.Test.YtnajihlhcdedgaaZb
import Derived.Deep.LoopGhost
import Derived.Deep.Cut
import Derived.Laws.MakeOwn
namespace Go.Proofs.Ytnajihlhcdedgaa
open Go.RowKit
set_option linter.unusedVariables false
set_option linter.unusedSimpArgs false

theorem mul_emod_r (b c : Int) {a : Int} (H : 0 < a) : b * a % (c * a) = b % c * a := by rw [Int.mul_comm b, Int.mul_comm c, Int.mul_emod_mul_of_pos _ _ H, Int.mul_comm]
theorem pow_lt64 {k : Nat} (hk : k < 64) : (2 : Int) ^ k < 18446744073709551616 := by
  have h1 : 2 ^ k < 2 ^ 64 := Nat.pow_lt_pow_right (by decide) hk
  have h2 : ((2 ^ k : Nat) : Int) = 2 ^ k := by simp
  rw [← h2]; omega
/-- A number turned by n. -/
def rotL (x : Int) (n : Nat) : Int := x * 2 ^ n % 18446744073709551616 + x / 2 ^ (64 - n)
def in64 (x : Int) : Prop := 0 ≤ x ∧ x ≤ 18446744073709551615

theorem rotL_zero {x : Int} (h : in64 x) : rotL x 0 = x := by
  unfold rotL in64 at *
  have e : (2 : Int) ^ (64 - 0) = 18446744073709551616 := by decide
  rw [e]
  omega
theorem rotL_step {x A B : Int} (h0 : 0 ≤ x) (h1 : x < 18446744073709551616) (hA : 0 < A) (hB : 0 < B) (hAB : A * B = 9223372036854775808) :
    x * (2 * A) % 18446744073709551616 + x / B = (x * A % 18446744073709551616 + x / (2 * B)) * 2 % 18446744073709551616 + (x * A % 18446744073709551616 + x / (2 * B)) / 9223372036854775808 := by
  have m1 : (18446744073709551616 : Int) = 2 * B * A := by rw [Int.mul_assoc, Int.mul_comm B A, hAB]; rfl
  have m2 : (18446744073709551616 : Int) = B * (2 * A) := by rw [Int.mul_left_comm, Int.mul_comm B A, hAB]; rfl
  have e1 : x * A % 18446744073709551616 = (x % (2 * B)) * A := by rw [m1, mul_emod_r _ _ hA]
  have e2 : x * (2 * A) % 18446744073709551616 = (x % B) * (2 * A) := by
    have := mul_emod_r x B (show (0 : Int) < 2 * A by omega)
    rw [← m2] at this; exact this
  have d1 : x / (2 * B) = x / B / 2 := by rw [Int.mul_comm, Int.ediv_ediv_of_nonneg (by omega)]
  have d2 : x % (2 * B) = B * (x / B % 2) + x % B := by
    have a1 := Int.emod_def x (2 * B)
    rw [d1] at a1
    have a2 := Int.emod_def x B
    have a3 := Int.emod_def (x / B) 2
    rw [a1, a3, Int.mul_sub, ← Int.mul_assoc, Int.mul_comm B 2]
    omega
  have hl0 := Int.emod_nonneg x (Int.ne_of_gt hB)
  have hl1 := Int.emod_lt_of_pos x hB
  have hq0 : 0 ≤ x / B := Int.ediv_nonneg h0 (by omega)
  have hq1 : x / (2 * B) < A := Int.ediv_lt_of_lt_mul (by omega) (by rw [Int.mul_comm, ← m1]; exact h1)
  rw [e1, e2, d2, d1]
  rw [d1] at hq1
  generalize x % B = l at *
  generalize x / B = q at *
  have hP : l * A ≤ 9223372036854775808 - A := by
    have := Int.mul_le_mul_of_nonneg_right (show l ≤ B - 1 by omega) (show (0 : Int) ≤ A by omega)
    rw [Int.sub_mul, Int.mul_comm B A, hAB] at this
    omega
  have hP0 : 0 ≤ l * A := Int.mul_nonneg hl0 (by omega)
  have e3 : (B * (q % 2) + l) * A = 9223372036854775808 * (q % 2) + l * A := by rw [Int.add_mul, Int.mul_right_comm, Int.mul_comm B A, hAB]
  have e4 : l * (2 * A) = 2 * (l * A) := by rw [Int.mul_left_comm]
  rw [e3, e4]
  generalize l * A = P at *
  omega
theorem rotL_succ {x : Int} (h : in64 x) {k : Nat} (hk : k < 63) : rotL x (k + 1) = rotL x k * 2 % 18446744073709551616 + rotL x k / 9223372036854775808 := by
  unfold rotL in64 at *
  have hA : (0 : Int) < 2 ^ k := Int.pow_pos (by omega)
  have hB : (0 : Int) < 2 ^ (63 - k) := Int.pow_pos (by omega)
  have hAB : (2 : Int) ^ k * 2 ^ (63 - k) = 9223372036854775808 := by rw [← Int.pow_add, show k + (63 - k) = 63 by omega]; rfl
  have := rotL_step h.1 (by omega : x < 18446744073709551616) hA hB hAB
  rw [show (2 : Int) ^ (k + 1) = 2 * 2 ^ k by rw [Int.pow_succ, Int.mul_comm], show 64 - (k + 1) = 63 - k by omega, show (2 : Int) ^ (64 - k) = 2 * 2 ^ (63 - k) by rw [show 64 - k = (63 - k) + 1 by omega, Int.pow_succ, Int.mul_comm]]
  exact this
set_option maxHeartbeats 4000000 in
theorem rotL_in {x : Int} (h : in64 x) {k : Nat} (hk : k < 64) : in64 (rotL x k) := by
  induction k with
  | zero => rw [rotL_zero h]; exact h
  | succ k ih =>
    have := ih (by omega)
    rw [rotL_succ h (by omega)]
    unfold in64 at *
    omega

theorem bits_or_comm (x y : Int) : bits .or .u64 x y = bits .or .u64 y x := by
  unfold bits
  simp only [BitVec.or_comm]

theorem rot_or {x : Int} (h : in64 x) {n : Nat} (hn : n < 64) : bits .or .u64 (IntKind.u64.wrap (x * 2 ^ n)) (x / 2 ^ (64 - n)) = rotL x n := by
  have hw : IntKind.u64.wrap (x * 2 ^ n) = x * 2 ^ n % 18446744073709551616 := by simp [IntKind.wrap, IntKind.bits, IntKind.signed]
  have hp : (18446744073709551616 : Int) = 2 ^ (64 - n) * 2 ^ n := by
    rw [← Int.pow_add, show 64 - n + n = 64 by omega]; rfl
  have hpos : (0 : Int) < 2 ^ n := Int.pow_pos (by omega)
  have hpos2 : (0 : Int) < 2 ^ (64 - n) := Int.pow_pos (by omega)
  have e : x * 2 ^ n % 18446744073709551616 = (x % 2 ^ (64 - n)) * 2 ^ n := by
    rw [hp, mul_emod_r _ _ hpos]
  have hr := rotL_in h hn
  unfold rotL in64 at *
  rw [hw, bits_or_comm, e]
  rw [e] at hr
  rw [bits_or_add _ _ _ (Int.ediv_nonneg h.1 (Int.le_of_lt hpos2)) ?_ (Int.emod_nonneg _ (Int.ne_of_gt hpos2)) ?_]
  · omega
  · exact Int.ediv_lt_of_lt_mul hpos2 (by rw [Int.mul_comm, ← hp]; omega)
  · omega

set_option maxRecDepth 100000 in
set_option maxHeartbeats 4000000 in
theorem rot_raw (x : Int) (n : Nat) (hn : n < 64) (ha : bits .and .u64 (n : Int) 63 = (n : Int)) (r : Int) (hr : bits .or .u64 (IntKind.u64.wrap (x * 2 ^ n)) (x / 2 ^ (64 - n)) = r) :
    Pure Try.prog 134 #[.int .u64 x, .int .i64 (n : Int)] (.int .u64 r) := fun w => by
  have h0 : (0 : Int) ≤ (n : Int) := by omega
  have h1 : (n : Int) ≤ 64 := by omega
  have h3 : IntKind.u64.wrap (64 - (n : Int)) = ((64 - n : Nat) : Int) := by simp [IntKind.wrap, IntKind.bits, IntKind.signed]; omega
  have h4 : ((64 - n : Nat) : Int) ≤ 64 := by omega
  go_enter Try.func134, Try.ntmps134
  go_wp2_with fail
  go_ret
  exact ⟨rfl, Kept.refl w⟩
theorem and_63 : ∀ n : Nat, n < 64 → bits .and .u64 (n : Int) 63 = (n : Int) := by decide +kernel
/-- bits.RotateLeft64 -/
theorem k_rot {x : Int} (h : in64 x) {n : Nat} (hn : n < 64) : Pure Try.prog 134 #[.int .u64 x, .int .i64 (n : Int)] (.int .u64 (rotL x n)) :=
  rot_raw x n hn (and_63 n hn) _ (rot_or h hn)

set_option maxRecDepth 100000 in
set_option maxHeartbeats 4000000 in
/-- The reference's rotate -/
theorem r_rot {x : Int} (h : in64 x) {n : Nat} (hn : n < 64) : Pure Try.prog 136 #[.int .u64 x, .int .i64 (n : Int)] (.int .u64 (rotL x n)) := fun w => by
  have hz := rotL_zero h
  go_enter Try.func136, Try.ntmps136
  go_wp2_with fail
  go_loopw [0, 5] (fun v t wr => ∃ k : Nat, k ≤ n ∧ t = .int .i64 k ∧ v = .int .u64 (rotL x k) ∧ wr = w) (fun _ t _ => n - (intOf t).toNat)
  case atStart => exact ⟨0, Nat.zero_le _, rfl, by rw [hz], rfl⟩
  case round =>
    obtain ⟨k, hk, rfl, rfl, rfl⟩ := hrel
    clear hz
    have hy := rotL_in h (k := k) (by omega)
    rcases Nat.lt_or_ge k n with hkn | hkn
    · have hs := rotL_succ h (k := k) (by omega)
      have hS := Lib.hid hs
      clear hs
      generalize hyy : rotL x k = y at *
      unfold in64 at hy
      have hkn2 : (k : Int) < (n : Int) := by omega
      have w1 : IntKind.u64.wrap (y * 2) = y * 2 % 18446744073709551616 := by simp [IntKind.wrap, IntKind.bits, IntKind.signed]
      have w2 : IntKind.u64.wrap (y * 2 % 18446744073709551616 + y / 9223372036854775808) = y * 2 % 18446744073709551616 + y / 9223372036854775808 := by simp [IntKind.wrap, IntKind.bits, IntKind.signed]; omega
      have w3 : IntKind.u64.wrap (y * 2 + y / 9223372036854775808) = y * 2 % 18446744073709551616 + y / 9223372036854775808 := by simp [IntKind.wrap, IntKind.bits, IntKind.signed]; omega
      go_wp2_with fail
      go_roundw
      case rel => exact ⟨k + 1, by omega, by go_num, by rw [hS.out], by first | rfl | trivial⟩
      case measure => simp [intOf]; omega
    · have hkn2 : (n : Int) ≤ (k : Int) := by omega
      obtain rfl : k = n := by omega
      go_wp2_with fail
      go_ret
      exact ⟨rfl, Kept.refl _⟩

set_option maxRecDepth 100000 in
set_option maxHeartbeats 4000000 in
/-- The reference's power -/
theorem r_power {n : Nat} (hn : n < 64) : Pure Try.prog 138 #[.int .i64 (n : Int)] (.int .u64 (2 ^ n)) := fun w => by
  go_enter Try.func138, Try.ntmps138
  go_wp2_with fail
  go_loopw [3, 4] (fun v t wr => ∃ k : Nat, k ≤ n ∧ t = .int .i64 k ∧ v = .int .u64 (2 ^ k) ∧ wr = w) (fun _ t _ => n - (intOf t).toNat)
  case atStart => exact ⟨0, Nat.zero_le _, rfl, rfl, rfl⟩
  case round =>
    obtain ⟨k, hk, rfl, rfl, rfl⟩ := hrel
    rcases Nat.lt_or_ge k n with hkn | hkn
    · have hkn2 : (k : Int) < (n : Int) := by omega
      have e : IntKind.u64.wrap ((2 : Int) ^ k * 2) = 2 ^ (k + 1) := by
        have : (2 : Int) ^ (k + 1) < 18446744073709551616 := by
          exact pow_lt64 (by omega)
        have h0 : (0 : Int) < 2 ^ (k + 1) := Int.pow_pos (by omega)
        rw [← Int.pow_succ]
        simp only [IntKind.wrap, IntKind.bits, IntKind.signed]
        simp
        omega
      go_wp2_with fail
      go_roundw
      case rel => exact ⟨k + 1, by omega, by go_num, by first | rfl | (congr 1; go_num; done) | (congr 1; go_num; omega), by first | rfl | trivial⟩
      case measure => simp [intOf]; omega
    · have hkn2 : (n : Int) ≤ (k : Int) := by omega
      obtain rfl : k = n := by omega
      go_wp2_with fail
      go_ret
      exact ⟨rfl, Kept.refl _⟩
end Go.Proofs.Ytnajihlhcdedgaa

namespace Go.Proofs.Ytnajihlhcdedgaa
open Go.RowKit
set_option linter.unusedVariables false
set_option linter.unusedSimpArgs false

abbrev xr (x y : Int) : Int := bits .xor .u64 x y
theorem bits_in (op : BinOp) (x y : Int) : in64 (bits op .u64 x y) := by
  unfold in64 bits IntKind.wrap
  simp only [IntKind.bits, IntKind.signed]
  simp
  omega
theorem rem5 (i : Nat) : (i : Int).tmod 5 = ((i % 5 : Nat) : Int) := by
  rw [Int.tmod_eq_emod_of_nonneg (by omega)]; omega
theorem quo5 (i : Nat) : (i : Int).tdiv 5 = ((i / 5 : Nat) : Int) := by
  rw [Int.tdiv_eq_ediv_of_nonneg (by omega)]; omega

/-- The sum of column c over the first i lanes. -/
def sumTo (s : Nat → Int) : Nat → Nat → Int
  | 0, _ => 0
  | i + 1, c => if c = i % 5 then bits .xor .u64 (sumTo s i c) (s i) else sumTo s i c
theorem sumTo_in {s : Nat → Int} (i c : Nat) : in64 (sumTo s i c) := by
  induction i with
  | zero => unfold sumTo in64; omega
  | succ i ih => unfold sumTo; split; exact bits_in _ _ _; exact ih
/-- What mix makes of the lanes. -/
def kmix (s : Nat → Int) (i : Nat) : Int := bits .xor .u64 (s i) (bits .xor .u64 (sumTo s 25 ((i + 4) % 5)) (rotL (sumTo s 25 ((i + 1) % 5)) 1))

set_option maxRecDepth 100000 in
set_option maxHeartbeats 4000000 in
theorem k_mix (w : World) (b n : Nat) (t : TypeId) (s : Nat → Int) (f : Nat → Value) (hn : 25 ≤ n) (hB : Blk w b t (rowF n (lanes s f))) :
    Calls Try.prog 122 #[.pointer (some ⟨b, 0, none⟩)] w fun e w' => e = .returned (.tuple #[]) ∧ Touch b w w' ∧ Blk w' b t (rowF n (lanes (kmix s) f)) := by
  go_enter Try.func122, Try.ntmps122
  obtain ⟨g, hg⟩ : ∃ g, w.heap.size = g := ⟨_, rfl⟩
  have hbg : b ≠ g := by have := hB.lt; omega
  have hgb : g ≠ b := hbg.symm
  go_wp2_with fail
  try simp only [hg]
  refine abs_world (fun W => Touch b w W ∧ Blk W b t (rowF n (lanes s f)) ∧ Blk W g 153 (rowF 5 (fun c => .int .u64 (sumTo s 0 c)))) ?_ ?_
  · exact ⟨Touch.alloc _ _ _, hB.alloc _, by rw [← hg]; exact Blk.new _ _ _⟩
  rintro W1 ⟨k1, Bb1, Bg1⟩
  go_loopw [7] (fun t' wr => ∃ i : Nat, i ≤ 25 ∧ t' = .int .i64 i ∧ Touch b w wr ∧ Blk wr b t (rowF n (lanes s f)) ∧ Blk wr g 153 (rowF 5 (fun c => .int .u64 (sumTo s i c)))) (fun t' _ => 25 - (intOf t').toNat)
  case atStart => exact ⟨0, Nat.zero_le _, rfl, k1, Bb1, Bg1⟩
  case round =>
    clear k1 Bb1 Bg1
    obtain ⟨i, hi, rfl, kr, Bb, Bg⟩ := hrel
    have hi0 : (0 : Int) ≤ (i : Int) := by omega
    rcases Nat.lt_or_ge i 25 with hlt | hge
    · have hi2 : (i : Int) < 25 := by omega
      have c0 := Bb.lane hn hlt
      go_upto_region 3 with (fail)
      refine wp_region_calm 6 (by kernel_rfl) (by kernel_rfl) ?_
      simp only [List.take_succ_cons, List.take_zero, List.drop_succ_cons, List.drop_zero]
      repeat (first
        | (refine calm_skip rfl ?_; simp only [Act.put, List.setIfInBounds_toArray, List.set_cons_zero, List.set_cons_succ])
        | (refine calm_ex rfl ?_; apply Exists.intro; refine And.intro (fun w' hk => ?_) ?_; (focus (have q0 := hk.cell c0; clear hk; go_simp; exact rfl)); simp only [Act.put, List.setIfInBounds_toArray, List.set_cons_zero, List.set_cons_succ]))
      refine calm_nil ?_
      intro W2 hkW2
      have k2 := kr.later hkW2
      have Bb2 := Bb.kept hkW2
      have Bg2 := Bg.kept hkW2
      clear hkW2 c0 kr Bb Bg
      obtain ⟨m, hm, hm5⟩ : ∃ m, i % 5 = m ∧ m < 5 := ⟨_, rfl, by omega⟩
      have c1 := Bg2.at (i := m) hm5
      have f1 := Bg2.free
      have e1 : (i : Int).tmod 5 = (m : Int) := by rw [rem5, hm]
      have e1' : (i : Int) % 5 = (m : Int) := by omega
      have hm0 : (0 : Int) ≤ (m : Int) := by omega
      have hm2 : (m : Int) < 5 := by omega
      go_wp2_with fail
      go_roundw
      case rel => 
        refine ⟨i + 1, by omega, by go_num, k2.own (by omega) (Touch.set _ _ _ _), Bb2.set_other hgb _, Bg2.set hm5 fun j hj => ?_⟩
        simp only [sumTo, hm]
        split <;> simp [*]
      case measure => simp [intOf]; omega
    · have hi2 : (25 : Int) ≤ (i : Int) := by omega
      obtain rfl : i = 25 := by omega
      go_wp2_with fail
      have z0 : ∀ j, j < 25 → s j = (fun j => if j < 0 then kmix s j else s j) j := fun j hj => rfl
      go_loopw [21] (fun t' wr => ∃ i : Nat, i ≤ 25 ∧ t' = .int .i64 i ∧ Touch b w wr ∧ Blk wr b t (rowF n (lanes (fun j => if j < i then kmix s j else s j) f)) ∧ Blk wr g 153 (rowF 5 (fun c => .int .u64 (sumTo s 25 c)))) (fun t' _ => 25 - (intOf t').toNat)
      case atStart => exact ⟨0, Nat.zero_le _, rfl, kr, by rw [← lanes_congr z0]; exact Bb, Bg⟩
      case round =>
        clear kr Bb Bg
        rename_i wr
        obtain ⟨i, hi, rfl, kr, Bb, Bg⟩ := hrel
        have hi0 : (0 : Int) ≤ (i : Int) := by omega
        rcases Nat.lt_or_ge i 25 with hlt | hge
        · have hi2 : (i : Int) < 25 := by omega
          have c0 := Bb.lane hn hlt
          rw [if_neg (Nat.lt_irrefl _)] at c0
          obtain ⟨m, hm, hm5⟩ : ∃ m, (i + 4) % 5 = m ∧ m < 5 := ⟨_, rfl, by omega⟩
          obtain ⟨o, ho, ho5⟩ : ∃ o, (i + 1) % 5 = o ∧ o < 5 := ⟨_, rfl, by omega⟩
          have c1 := Bg.at (i := m) hm5
          have c2 := Bg.at (i := o) ho5
          have HRot := Lib.hid (k_rot (sumTo_in (s := s) 25 o) (n := 1) (by omega))
          have HM : Hid (kmix s i = bits .xor .u64 (s i) (bits .xor .u64 (sumTo s 25 m) (rotL (sumTo s 25 o) 1))) := Lib.hid (by unfold kmix; rw [hm, ho])
          generalize sumTo s 25 m = x1 at c1 HM
          generalize hx2 : sumTo s 25 o = x2 at c2 HM HRot
          generalize rotL x2 1 = x3 at HM HRot
          generalize hx0 : s i = x0 at c0 HM
          have w1 : IntKind.i64.wrap ((i : Int) + 4) = (i : Int) + 4 := IntWalk.i64_in _ (by omega)
          have w2 : IntKind.i64.wrap ((i : Int) + 1) = (i : Int) + 1 := IntWalk.i64_in _ (by omega)
          have e1 : ((i : Int) + 4).tmod 5 = (m : Int) := by have := rem5 (i + 4); rw [hm] at this; simpa using this
          have e2 : ((i : Int) + 1).tmod 5 = (o : Int) := by have := rem5 (i + 1); rw [ho] at this; simpa using this
          have e1' : ((i : Int) + 4) % 5 = (m : Int) := by omega
          have e2' : ((i : Int) + 1) % 5 = (o : Int) := by omega
          have hm0 : (0 : Int) ≤ (m : Int) := by omega
          have hm2 : (m : Int) < 5 := by omega
          have ho0 : (0 : Int) ≤ (o : Int) := by omega
          have ho2 : (o : Int) < 5 := by omega
          go_upto_region 9 with (fail)
          refine wp_region_calm 20 (by kernel_rfl) (by kernel_rfl) ?_
          simp only [List.take_succ_cons, List.take_zero, List.drop_succ_cons, List.drop_zero]
          repeat (first
            | (refine calm_skip rfl ?_; simp only [Act.put, List.setIfInBounds_toArray, List.set_cons_zero, List.set_cons_succ])
            | (refine calm_ex rfl ?_; apply Exists.intro; refine And.intro (fun w' hk => ?_) ?_; (focus (have q0 := hk.cell c0; have q1 := hk.cell c1; have q2 := hk.cell c2; clear hk; go_simp; exact rfl)); simp only [Act.put, List.setIfInBounds_toArray, List.set_cons_zero, List.set_cons_succ])
            | (refine calm_step _ rfl (HRot.out.call ?_) ?_; (focus (intro w'; go_simp; done)); simp only [Act.put, List.setIfInBounds_toArray, List.set_cons_zero, List.set_cons_succ]))
          refine calm_nil ?_
          intro W2 hkW2
          have k2 := kr.later hkW2
          have Bb2 := Bb.kept hkW2
          have Bg2 := Bg.kept hkW2
          have c9 := hkW2.cell c0
          have f2 := Bb2.free
          clear hkW2 c0 c1 c2 kr Bb Bg
          go_wp2_with fail
          go_roundw
          case rel =>
            refine ⟨i + 1, by omega, by go_num, k2.trans (Touch.set _ _ _ _), Bb2.setLane hn hlt fun j hj => ?_, Bg2.set_other hbg _⟩
            by_cases hji : j = i
            · subst hji; rw [if_pos (by omega), if_pos rfl, HM.out]
            · rw [if_neg hji]
              by_cases hjl : j < i
              · rw [if_pos (by omega), if_pos hjl]
              · rw [if_neg (by omega), if_neg hjl]
          case measure => simp [intOf]; omega
        · have hi2 : (25 : Int) ≤ (i : Int) := by omega
          obtain rfl : i = 25 := by omega
          go_wp2_with fail
          refine bodyPost_end (v := .tuple #[]) (by simp [results, Try.results122, go_sem]) rfl ⟨rfl, kr, ?_⟩
          rw [lanes_congr (s := kmix s) (s' := fun j => if j < 25 then kmix s j else s j) fun j hj => by rw [if_pos hj]]
          exact Bb
end Go.Proofs.Ytnajihlhcdedgaa

namespace Go.Proofs.Ytnajihlhcdedgaa
open Go.RowKit
set_option linter.unusedVariables false
set_option linter.unusedSimpArgs false

/-- By how much each lane is turned. -/
def turnL : List Nat := [0, 1, 62, 28, 27, 36, 44, 6, 55, 20, 3, 10, 43, 25, 39, 41, 45, 15, 21, 8, 18, 2, 61, 56, 14]
def turnN (i : Nat) : Nat := turnL.getD i 0
theorem turnN_lt : ∀ i, i < 25 → turnN i < 64 := by decide
theorem size155 : (Try.prog.info? 155).map (·.size) = some 25 := by kernel_rfl
theorem size61 : (Try.prog.info? 61).map (·.size) = some 25 := by kernel_rfl
theorem size60 : (Try.prog.info? 60).map (·.size) = some 25 := by kernel_rfl
theorem size134 : (Try.prog.info? 134).map (·.size) = some 12 := by kernel_rfl

set_option maxRecDepth 100000 in
set_option maxHeartbeats 4000000 in
theorem k_turns : Pure Try.prog 135 #[] (.agg (rowF 25 (fun i => .int .i64 (turnN i)))) := fun w => by
  have hb : Try.prog.built 155 [(0, Value.int .i64 0), (1, Value.int .i64 1), (2, Value.int .i64 62), (3, Value.int .i64 28), (4, Value.int .i64 27), (5, Value.int .i64 36), (6, Value.int .i64 44), (7, Value.int .i64 6), (8, Value.int .i64 55), (9, Value.int .i64 20), (10, Value.int .i64 3), (11, Value.int .i64 10), (12, Value.int .i64 43), (13, Value.int .i64 25), (14, Value.int .i64 39), (15, Value.int .i64 41), (16, Value.int .i64 45), (17, Value.int .i64 15), (18, Value.int .i64 21), (19, Value.int .i64 8), (20, Value.int .i64 18), (21, Value.int .i64 2), (22, Value.int .i64 61), (23, Value.int .i64 56), (24, Value.int .i64 14)] = some (rowF 25 (fun i => .int .i64 (turnN i))) := by kernel_rfl
  go_enter Try.func135, Try.ntmps135
  go_upto_region 1 with (fail)
  refine abs_world (fun W => Kept w W ∧ Blk W w.heap.size 155 (rowF 25 (fun i => .int .i64 0))) ?_ ?_
  · exact ⟨(Kept.refl w).alloc _, Blk.new _ _ _⟩
  rintro W1 ⟨k1, B1⟩
  go_wp2_with (first | (refine wpList_build rfl 155 _ rfl (by simp only [Act.eval]; exact congrArg Option.isSome hb) ?_; simp only [show (Try.prog.built 155 _) = _ from hb, Option.getD_some]) | (refine wpList_store_part (h' := fun i => .int .i64 (turnN i)) 155 (.tmp 0) (.tmp 1) B1 (Nat.le_refl _) size155 (fun _ => rfl) rfl rfl rfl rfl ?_))
  refine ret_blk rfl (B1.setRow _) Try.underlying155 (by rw [rowF_size]; exact size155) rfl rfl (And.intro ?_ (k1.setRow (Nat.le_refl _) _))
  rw [rowF_congr (g := fun i => Value.int .i64 (turnN i)) fun j hj => by rw [if_pos hj]]

/-- What is added in each round. -/
def conL : List Int := [2147516555, 9223372036854775947, 9223372036854808713, 9223372036854808579, 9223372036854808578, 9223372036854775936, 32778, 9223372039002259466, 9223372039002292353, 9223372036854808704, 2147483649, 9223372039002292232]
def conN (i : Nat) : Int := conL.getD i 0
set_option maxRecDepth 100000 in
set_option maxHeartbeats 4000000 in
theorem k_cons : Pure Try.prog 121 #[] (.agg (rowF 12 (fun i => .int .u64 (conN i)))) := fun w => by
  have hb : Try.prog.built 134 [(0, Value.int .u64 2147516555), (1, Value.int .u64 9223372036854775947), (2, Value.int .u64 9223372036854808713), (3, Value.int .u64 9223372036854808579), (4, Value.int .u64 9223372036854808578), (5, Value.int .u64 9223372036854775936), (6, Value.int .u64 32778), (7, Value.int .u64 9223372039002259466), (8, Value.int .u64 9223372039002292353), (9, Value.int .u64 9223372036854808704), (10, Value.int .u64 2147483649), (11, Value.int .u64 9223372039002292232)] = some (rowF 12 (fun i => .int .u64 (conN i))) := by kernel_rfl
  go_enter Try.func121, Try.ntmps121
  go_upto_region 1 with (fail)
  refine abs_world (fun W => Kept w W ∧ Blk W w.heap.size 134 (rowF 12 (fun i => .int .u64 0))) ?_ ?_
  · exact ⟨(Kept.refl w).alloc _, Blk.new _ _ _⟩
  rintro W1 ⟨k1, B1⟩
  go_wp2_with (first | (refine wpList_build rfl 134 _ rfl (by simp only [Act.eval]; exact congrArg Option.isSome hb) ?_; simp only [show (Try.prog.built 134 _) = _ from hb, Option.getD_some]) | (refine wpList_store_part (h' := fun i => .int .u64 (conN i)) 134 (.tmp 0) (.tmp 1) B1 (Nat.le_refl _) size134 (fun _ => rfl) rfl rfl rfl rfl ?_))
  refine ret_blk rfl (B1.setRow _) Try.underlying134 (by rw [rowF_size]; exact size134) rfl rfl (And.intro ?_ (k1.setRow (Nat.le_refl _) _))
  rw [rowF_congr (g := fun i => Value.int .u64 (conN i)) fun j hj => by rw [if_pos hj]]
end Go.Proofs.Ytnajihlhcdedgaa

namespace Go.Proofs.Ytnajihlhcdedgaa
open Go.RowKit
set_option linter.unusedVariables false
set_option linter.unusedSimpArgs false

/-- Where lane i goes. -/
def place (i : Nat) : Nat := i / 5 + 5 * ((2 * (i % 5) + 3 * (i / 5)) % 5)
/-- Whence lane j came. -/
def source (j : Nat) : Nat := 5 * (j % 5) + (j / 5 + 2 * (j % 5)) * 3 % 5
theorem source_place : ∀ j, j < 25 → ∀ i, i < 25 → (j = place i ↔ source j = i) := by decide +kernel
theorem place_lt : ∀ i, i < 25 → place i < 25 := by decide
theorem source_lt : ∀ i, i < 25 → source i < 25 := by decide
/-- What move makes of the lanes. -/
def kmove (s : Nat → Int) (j : Nat) : Int := rotL (s (source j)) (turnN (source j))

set_option maxRecDepth 100000 in
set_option maxHeartbeats 4000000 in
theorem k_move (w : World) (b n : Nat) (t : TypeId) (s : Nat → Int) (f : Nat → Value) (hn : 25 ≤ n) (hs : Hid (∀ i, i < 25 → in64 (s i))) (hB : Blk w b t (rowF n (lanes s f))) :
    Calls Try.prog 123 #[.pointer (some ⟨b, 0, none⟩)] w fun e w' => e = .returned (.tuple #[]) ∧ Touch b w w' ∧ Blk w' b t (rowF n (lanes (kmove s) f)) := by
  have HT := Lib.hid k_turns
  go_enter Try.func123, Try.ntmps123
  go_wp2_with fail
  refine (HT.out _).mono ?_
  rintro e W0 ⟨rfl, hk0⟩
  have Bb0 := hB.kept hk0
  clear hB
  have h0 : w.heap.size ≤ W0.heap.size := hk0.size
  obtain ⟨h, hh⟩ : ∃ h, W0.heap.size = h := ⟨_, rfl⟩
  have hbh : b ≠ h := by have := Bb0.lt; omega
  have hhb : h ≠ b := hbh.symm
  go_upto_region 1 with (first | (refine abs_world (fun W => Kept w W ∧ Blk W b t (rowF n (lanes s f)) ∧ Blk W h 155 (rowF 25 (fun i => .int .i64 0))) ⟨hk0.alloc _, Bb0.alloc _, by rw [← hh]; exact Blk.new _ _ _⟩ ?_; rintro W1 ⟨k1, Bb1, Bh1⟩; try simp only [hh]) | (refine wpList_store_part (h' := fun i => .int .i64 (turnN i)) 155 (.tmp 2) (.tmp 8) Bh1 (Nat.le_refl _) size155 (fun _ => rfl) rfl rfl rfl rfl ?_))
  refine abs_world (fun W => Kept w W ∧ Blk W b t (rowF n (lanes s f)) ∧ Blk W h 155 (rowF 25 (fun i => .int .i64 (turnN i)))) ⟨k1.setRow (by omega) _, Bb1.setRow_other hhb _, ?_⟩ ?_
  · have := Bh1.setRow (rowF 25 (fun i => if i < 25 then Value.int .i64 (turnN i) else .int .i64 0))
    rw [rowF_congr (g := fun i => Value.int .i64 (turnN i)) fun j hj => by rw [if_pos hj]] at this
    exact this
  rintro W2 ⟨k2, Bb2, Bh2⟩
  clear k1 Bb1 Bh1 Bb0 hk0 hh h0
  obtain ⟨g, hg⟩ : ∃ g, W2.heap.size = g := ⟨_, rfl⟩
  have hbg : b ≠ g := by have := Bb2.lt; omega
  have hgb : g ≠ b := hbg.symm
  have hhg : h ≠ g := by have := Bh2.lt; omega
  have hgh : g ≠ h := hhg.symm
  have hwg : w.heap.size ≤ g := hg ▸ k2.size
  go_upto_region 2 with (fail)
  refine abs_world (fun W => Kept w W ∧ Blk W b t (rowF n (lanes s f)) ∧ Blk W h 155 (rowF 25 (fun i => .int .i64 (turnN i))) ∧ Blk W g 61 (rowF 25 (fun _ => .int .u64 0))) ⟨k2.alloc _, Bb2.alloc _, Bh2.alloc _, by rw [← hg]; exact Blk.new _ _ _⟩ ?_
  rintro W3 ⟨k3, Bb3, Bh3, Bg3⟩
  try simp only [hg]
  clear k2 Bb2 Bh2
  go_wp2_with fail
  go_loopw [10] (fun t' wr => ∃ i : Nat, i ≤ 25 ∧ t' = .int .i64 i ∧ Kept w wr ∧ Blk wr b t (rowF n (lanes s f)) ∧ Blk wr h 155 (rowF 25 (fun i => .int .i64 (turnN i))) ∧ Blk wr g 61 (rowF 25 (fun j => .int .u64 (if source j < i then kmove s j else 0)))) (fun t' _ => 25 - (intOf t').toNat)
  case atStart => exact ⟨0, Nat.zero_le _, rfl, k3, Bb3, Bh3, by rw [rowF_congr (g := fun _ => Value.int .u64 0) fun j hj => by rw [if_neg (Nat.not_lt_zero _)]]; exact Bg3⟩
  case round =>
    clear k3 Bb3 Bh3 Bg3
    obtain ⟨i, hi, rfl, kr, Bb, Bh, Bg⟩ := hrel
    have hi0 : (0 : Int) ≤ (i : Int) := by omega
    rcases Nat.lt_or_ge i 25 with hlt | hge
    · have hi2 : (i : Int) < 25 := by omega
      have c0 := Bb.lane hn hlt
      go_upto_region 4 with (fail)
      refine wp_region_calm 6 (by kernel_rfl) (by kernel_rfl) ?_
      simp only [List.take_succ_cons, List.take_zero, List.drop_succ_cons, List.drop_zero]
      repeat (first
        | (refine calm_skip rfl ?_; simp only [Act.put, List.setIfInBounds_toArray, List.set_cons_zero, List.set_cons_succ])
        | (refine calm_ex rfl ?_; apply Exists.intro; refine And.intro (fun w' hk => ?_) ?_; (focus (have q0 := hk.cell c0; clear hk; go_simp; exact rfl)); simp only [Act.put, List.setIfInBounds_toArray, List.set_cons_zero, List.set_cons_succ]))
      refine calm_nil ?_
      intro W4 hkW4
      have k4 := kr.trans hkW4
      have Bb4 := Bb.kept hkW4
      have Bh4 := Bh.kept hkW4
      have Bg4 := Bg.kept hkW4
      clear hkW4 c0 kr Bb Bg Bh
      have c1 := Bh4.at hlt
      obtain ⟨p, hp⟩ : ∃ p, place i = p := ⟨_, rfl⟩
      have hp25 : p < 25 := hp ▸ place_lt i hlt
      have c2 := Bg4.at (i := p) hp25
      have f2 := Bg4.free
      have HRot := Lib.hid (k_rot (hs.out i hlt) (turnN_lt i hlt))
      have HM : Hid (∀ j, j < 25 → (if source j < i + 1 then kmove s j else 0) = if j = p then rotL (s i) (turnN i) else if source j < i then kmove s j else 0) := Lib.hid (by
        intro j hj
        have hsp := source_place j hj i hlt
        rw [hp] at hsp
        by_cases hjp : j = p
        · have hsi := hsp.1 hjp
          rw [if_pos (by omega), if_pos hjp]
          unfold kmove
          rw [hsi]
        · have hsi : source j ≠ i := fun e => hjp (hsp.2 e)
          rw [if_neg hjp]
          by_cases hsl : source j < i
          · rw [if_pos (by omega), if_pos hsl]
          · rw [if_neg (by omega), if_neg hsl])
      generalize hx0 : s i = x0 at HRot HM
      generalize hT : turnN i = T at c1 HRot HM
      generalize rotL x0 T = x1 at HRot HM
      clear hT
      obtain ⟨m, hm, hm5⟩ : ∃ m, i % 5 = m ∧ m < 5 := ⟨_, rfl, by omega⟩
      obtain ⟨q, hq, hq5⟩ : ∃ q, i / 5 = q ∧ q < 5 := ⟨_, rfl, by omega⟩
      obtain ⟨r, hr, hr5⟩ : ∃ r, (2 * m + 3 * q) % 5 = r ∧ r < 5 := ⟨_, rfl, by omega⟩
      have hp' : q + 5 * r = p := by rw [← hp]; unfold place; rw [hm, hq, hr]
      have e1 : (i : Int).tmod 5 = (m : Int) := by rw [rem5, hm]
      have e1' : (i : Int) % 5 = (m : Int) := by omega
      have e2 : (i : Int).tdiv 5 = (q : Int) := by rw [quo5, hq]
      have e2' : (i : Int) / 5 = (q : Int) := by omega
      have e3 : (2 * (m : Int) + 3 * (q : Int)).tmod 5 = (r : Int) := by have := rem5 (2 * m + 3 * q); rw [hr] at this; simpa using this
      have e3' : (2 * (m : Int) + 3 * (q : Int)) % 5 = (r : Int) := by omega
      have e4 : (q : Int) + 5 * (r : Int) = (p : Int) := by omega
      have b1 : (0 : Int) ≤ (m : Int) := by omega
      have b2 : (m : Int) < 5 := by omega
      have b3 : (0 : Int) ≤ (q : Int) := by omega
      have b4 : (q : Int) < 5 := by omega
      have b5 : (0 : Int) ≤ (r : Int) := by omega
      have b6 : (r : Int) < 5 := by omega
      have b7 : (0 : Int) ≤ (p : Int) := by omega
      have b8 : (p : Int) < 25 := by omega
      have w1 : IntKind.i64.wrap (2 * (m : Int)) = 2 * (m : Int) := IntWalk.i64_in _ (by omega)
      have w2 : IntKind.i64.wrap (3 * (q : Int)) = 3 * (q : Int) := IntWalk.i64_in _ (by omega)
      have w3 : IntKind.i64.wrap (2 * (m : Int) + 3 * (q : Int)) = 2 * (m : Int) + 3 * (q : Int) := IntWalk.i64_in _ (by omega)
      have w4 : IntKind.i64.wrap (5 * (r : Int)) = 5 * (r : Int) := IntWalk.i64_in _ (by omega)
      have w5 : IntKind.i64.wrap ((q : Int) + 5 * (r : Int)) = (p : Int) := by rw [e4]; exact IntWalk.i64_in _ (by omega)
      have w6 : IntKind.i64.wrap (p : Int) = (p : Int) := IntWalk.i64_in _ (by omega)
      clear hp hm hq hr hp'
      go_wp2_with fail
      refine (HRot.out _).mono ?_
      rintro e W5 ⟨rfl, hk5⟩
      have k5 := k4.trans hk5
      have Bb5 := Bb4.kept hk5
      have Bh5 := Bh4.kept hk5
      have Bg5 := Bg4.kept hk5
      clear c1 c2 f2 k4 Bb4 Bh4 Bg4 hk5
      have c2 := Bg5.at (i := p) hp25
      have f2 := Bg5.free
      go_wp2_with fail
      go_roundw
      case rel =>
        refine ⟨i + 1, by omega, by go_num, k5.setCell (by exact hwg) _, Bb5.set_other hgb _, Bh5.set_other hgh _, Bg5.set hp25 fun j hj => ?_⟩
        rw [HM.out j hj]
        split <;> rfl
      case measure => simp [intOf]; omega
    · have hi2 : (25 : Int) ≤ (i : Int) := by omega
      obtain rfl : i = 25 := by omega
      rw [rowF_congr (g := fun j => Value.int .u64 (kmove s j)) fun j hj => by rw [if_pos (source_lt j hj)]] at Bg
      go_wp2_with (first | (refine wpList_load_part 61 (.tmp 3) Bg (Nat.le_refl _) Try.underlying61 size61 rfl rfl rfl ?_) | (refine wpList_store_part (h' := fun j => .int .u64 (kmove s j)) 61 (.tmp 38) (.tmp 37) Bb hn size61 (fun _ => rfl) rfl rfl rfl rfl ?_))
      refine bodyPost_end (v := .tuple #[]) (by simp [results, Try.results123, go_sem]) rfl ⟨rfl, (Touch.of_kept kr).trans (Touch.setRow _ _ _), ?_⟩
      rw [lanes_part]
      exact Bb.setRow _

/-- What bend makes of the lanes. -/
def kbend (s : Nat → Int) (i : Nat) : Int := bits .xor .u64 (s i) (bits .and .u64 (bits .xor .u64 18446744073709551615 (s (i / 5 * 5 + (i + 1) % 5))) (s (i / 5 * 5 + (i + 2) % 5)))

set_option maxRecDepth 100000 in
set_option maxHeartbeats 4000000 in
theorem k_bend (w : World) (b n : Nat) (t : TypeId) (s : Nat → Int) (f : Nat → Value) (hn : 25 ≤ n) (hB : Blk w b t (rowF n (lanes s f))) :
    Calls Try.prog 124 #[.pointer (some ⟨b, 0, none⟩)] w fun e w' => e = .returned (.tuple #[]) ∧ Touch b w w' ∧ Blk w' b t (rowF n (lanes (kbend s) f)) := by
  go_enter Try.func124, Try.ntmps124
  obtain ⟨g, hg⟩ : ∃ g, w.heap.size = g := ⟨_, rfl⟩
  have hbg : b ≠ g := by have := hB.lt; omega
  have hgb : g ≠ b := hbg.symm
  have hwg : w.heap.size ≤ g := by omega
  go_upto_region 1 with (fail)
  refine abs_world (fun W => Kept w W ∧ Blk W b t (rowF n (lanes s f)) ∧ Blk W g 61 (rowF 25 (fun _ => .int .u64 0))) ⟨(Kept.refl w).alloc _, hB.alloc _, by rw [← hg]; exact Blk.new _ _ _⟩ ?_
  rintro W3 ⟨k3, Bb3, Bg3⟩
  try simp only [hg]
  go_wp2_with fail
  go_loopw [7] (fun t' wr => ∃ i : Nat, i ≤ 25 ∧ t' = .int .i64 i ∧ Kept w wr ∧ Blk wr b t (rowF n (lanes s f)) ∧ Blk wr g 61 (rowF 25 (fun j => .int .u64 (if j < i then kbend s j else 0)))) (fun t' _ => 25 - (intOf t').toNat)
  case atStart => exact ⟨0, Nat.zero_le _, rfl, k3, Bb3, by rw [rowF_congr (g := fun _ => Value.int .u64 0) fun j hj => by rw [if_neg (Nat.not_lt_zero _)]]; exact Bg3⟩
  case round =>
    clear k3 Bb3 Bg3 hB
    obtain ⟨i, hi, rfl, kr, Bb, Bg⟩ := hrel
    have hi0 : (0 : Int) ≤ (i : Int) := by omega
    rcases Nat.lt_or_ge i 25 with hlt | hge
    · have hi2 : (i : Int) < 25 := by omega
      have c0 := Bb.lane hn hlt
      go_upto_region 3 with (fail)
      refine wp_region_calm 6 (by kernel_rfl) (by kernel_rfl) ?_
      simp only [List.take_succ_cons, List.take_zero, List.drop_succ_cons, List.drop_zero]
      repeat (first
        | (refine calm_skip rfl ?_; simp only [Act.put, List.setIfInBounds_toArray, List.set_cons_zero, List.set_cons_succ])
        | (refine calm_ex rfl ?_; apply Exists.intro; refine And.intro (fun w' hk => ?_) ?_; (focus (have q0 := hk.cell c0; clear hk; go_simp; exact rfl)); simp only [Act.put, List.setIfInBounds_toArray, List.set_cons_zero, List.set_cons_succ]))
      refine calm_nil ?_
      intro W4 hkW4
      have k4 := kr.trans hkW4
      have Bb4 := Bb.kept hkW4
      have Bg4 := Bg.kept hkW4
      clear hkW4 c0 kr Bb Bg
      obtain ⟨q, hq, hq5⟩ : ∃ q, i / 5 = q ∧ q < 5 := ⟨_, rfl, by omega⟩
      obtain ⟨m1, hm1, hm15⟩ : ∃ m, (i + 1) % 5 = m ∧ m < 5 := ⟨_, rfl, by omega⟩
      obtain ⟨m2, hm2, hm25⟩ : ∃ m, (i + 2) % 5 = m ∧ m < 5 := ⟨_, rfl, by omega⟩
      obtain ⟨p1, hp1, hp15⟩ : ∃ p, q * 5 + m1 = p ∧ p < 25 := ⟨_, rfl, by omega⟩
      obtain ⟨p2, hp2, hp25⟩ : ∃ p, q * 5 + m2 = p ∧ p < 25 := ⟨_, rfl, by omega⟩
      have c1 := Bb4.lane hn hp15
      have c2 := Bb4.lane hn hp25
      have c3 := Bg4.at hlt
      have f3 := Bg4.free
      have HM : Hid (kbend s i = bits .xor .u64 (s i) (bits .and .u64 (bits .xor .u64 18446744073709551615 (s p1)) (s p2))) := Lib.hid (by unfold kbend; rw [hq, hm1, hm2, hp1, hp2])
      generalize s i = x0 at HM ⊢
      generalize s p1 = x1 at HM c1
      generalize s p2 = x2 at HM c2
      have e2 : (i : Int).tdiv 5 = (q : Int) := by rw [quo5, hq]
      have e2' : (i : Int) / 5 = (q : Int) := by omega
      have w1 : IntKind.i64.wrap ((q : Int) * 5) = (q : Int) * 5 := IntWalk.i64_in _ (by omega)
      have w2 : IntKind.i64.wrap ((i : Int) + 1) = (i : Int) + 1 := IntWalk.i64_in _ (by omega)
      have w3 : IntKind.i64.wrap ((i : Int) + 2) = (i : Int) + 2 := IntWalk.i64_in _ (by omega)
      have e3 : ((i : Int) + 1).tmod 5 = (m1 : Int) := by have := rem5 (i + 1); rw [hm1] at this; simpa using this
      have e4 : ((i : Int) + 2).tmod 5 = (m2 : Int) := by have := rem5 (i + 2); rw [hm2] at this; simpa using this
      have e3' : ((i : Int) + 1) % 5 = (m1 : Int) := by omega
      have e4' : ((i : Int) + 2) % 5 = (m2 : Int) := by omega
      have e5 : (q : Int) * 5 + (m1 : Int) = (p1 : Int) := by omega
      have e6 : (q : Int) * 5 + (m2 : Int) = (p2 : Int) := by omega
      have w5 : IntKind.i64.wrap (p1 : Int) = (p1 : Int) := IntWalk.i64_in _ (by omega)
      have w6 : IntKind.i64.wrap (p2 : Int) = (p2 : Int) := IntWalk.i64_in _ (by omega)
      have b1 : (0 : Int) ≤ (p1 : Int) := by omega
      have b2 : (p1 : Int) < 25 := by omega
      have b3 : (0 : Int) ≤ (p2 : Int) := by omega
      have b4 : (p2 : Int) < 25 := by omega
      have b5 : (q : Int) < 5 := by omega
      have b6 : (0 : Int) ≤ (q : Int) := by omega
      clear hq hm1 hm2 hp1 hp2
      go_upto_region 5 with (fail)
      refine wp_region_calm 24 (by kernel_rfl) (by kernel_rfl) ?_
      simp only [List.take_succ_cons, List.take_zero, List.drop_succ_cons, List.drop_zero]
      repeat (first
        | (refine calm_skip rfl ?_; simp only [Act.put, List.setIfInBounds_toArray, List.set_cons_zero, List.set_cons_succ])
        | (refine calm_ex rfl ?_; apply Exists.intro; refine And.intro (fun w' hk => ?_) ?_; (focus (have q0 := hk.cell c1; have q1 := hk.cell c2; clear hk; go_simp; exact rfl)); simp only [Act.put, List.setIfInBounds_toArray, List.set_cons_zero, List.set_cons_succ]))
      refine calm_nil ?_
      intro W5 hkW5
      have k5 := k4.trans hkW5
      have Bb5 := Bb4.kept hkW5
      have Bg5 := Bg4.kept hkW5
      clear hkW5 c1 c2 c3 f3 k4 Bb4 Bg4
      have c3 := Bg5.at hlt
      have f3 := Bg5.free
      go_wp2_with fail
      go_roundw
      case rel =>
        refine ⟨i + 1, by omega, by go_num, k5.setCell (by exact hwg) _, Bb5.set_other hgb _, Bg5.set hlt fun j hj => ?_⟩
        by_cases hji : j = i
        · subst hji; rw [if_pos (by omega), if_pos rfl, HM.out]; rfl
        · rw [if_neg hji]
          by_cases hjl : j < i
          · rw [if_pos (by omega), if_pos hjl]
          · rw [if_neg (by omega), if_neg hjl]
      case measure => simp [intOf]; omega
    · have hi2 : (25 : Int) ≤ (i : Int) := by omega
      obtain rfl : i = 25 := by omega
      rw [rowF_congr (g := fun j => Value.int .u64 (kbend s j)) fun j hj => by rw [if_pos hj]] at Bg
      go_wp2_with (first | (refine wpList_load_part 61 (.tmp 2) Bg (Nat.le_refl _) Try.underlying61 size61 rfl rfl rfl ?_) | (refine wpList_store_part (h' := fun j => .int .u64 (kbend s j)) 61 (.tmp 43) (.tmp 42) Bb hn size61 (fun _ => rfl) rfl rfl rfl rfl ?_))
      refine bodyPost_end (v := .tuple #[]) (by simp [results, Try.results124, go_sem]) rfl ⟨rfl, (Touch.of_kept kr).trans (Touch.setRow _ _ _), ?_⟩
      rw [lanes_part]
      exact Bb.setRow _
end Go.Proofs.Ytnajihlhcdedgaa

namespace Go.Proofs.Ytnajihlhcdedgaa
open Go.RowKit
set_option linter.unusedVariables false
set_option linter.unusedSimpArgs false

/-- A round. -/
def kround (k : Nat) (s : Nat → Int) (i : Nat) : Int := if i = 0 then bits .xor .u64 (kbend (kmove (kmix s)) 0) (conN k) else kbend (kmove (kmix s)) i
/-- The first k rounds. -/
def kperm : Nat → (Nat → Int) → Nat → Int
  | 0, s => s
  | k + 1, s => kround k (kperm k s)
theorem kmix_in (s : Nat → Int) (i : Nat) : in64 (kmix s i) := bits_in _ _ _
theorem kbend_in (s : Nat → Int) (i : Nat) : in64 (kbend s i) := bits_in _ _ _
theorem kround_in (k : Nat) (s : Nat → Int) (i : Nat) : in64 (kround k s i) := by
  unfold kround; split; exact bits_in _ _ _; exact kbend_in _ _
theorem kperm_in {s : Nat → Int} (h : ∀ i, i < 25 → in64 (s i)) (k : Nat) : ∀ i, i < 25 → in64 (kperm k s i) := by
  cases k with
  | zero => exact h
  | succ k => intro i _; exact kround_in _ _ _

theorem run_index_row134 (f : Nat → Value) {i : Nat} (hi : i < 12) {x : Int} (hx : f i = .int .u64 x) (w : World) : (Instr.index 134 (.agg (rowF 12 f)) (.int .i64 (i : Int))).run Try.prog w = .ok (.int .u64 x) w := by
  obtain ⟨j, hj⟩ := info22
  have h1 : (0 : Int) ≤ (i : Int) ∧ (i : Int) < ((12 : Nat) : Int) := by omega
  have hs : j.size = 1 := by have := cells22; unfold Program.cellsOf at this; simpa [hj] using this
  have hp := run_part_int (P := Try.prog) w Try.underlying22 (xs := rowF 12 f) (off := i) (by rw [rowF_get hi, hx])
  simp [Instr.index, run_underlying Try.underlying134, asIntOf, sizeOf, typeInfo, hj, hs, hi, hp]

set_option maxRecDepth 100000 in
set_option maxHeartbeats 4000000 in
/-- Of nobody. -/
theorem k_permute_nil : Pure Try.prog 61 #[.pointer none] (.tuple #[]) := fun w => by
  go_enter Try.func61, Try.ntmps61
  go_wp2_with fail
  refine bodyPost_ret (v := .tuple #[]) (by simp [results, Try.results61, go_sem]) rfl ⟨rfl, Kept.refl w⟩

set_option maxRecDepth 100000 in
set_option maxHeartbeats 4000000 in
theorem k_permute (w : World) (b n : Nat) (t : TypeId) (s : Nat → Int) (f : Nat → Value) (hn : 25 ≤ n) (hB : Blk w b t (rowF n (lanes s f))) :
    Calls Try.prog 61 #[.pointer (some ⟨b, 0, none⟩)] w fun e w' => e = .returned (.tuple #[]) ∧ Touch b w w' ∧ Blk w' b t (rowF n (lanes (kperm 12 s) f)) := by
  have HC := Lib.hid k_cons
  go_enter Try.func61, Try.ntmps61
  go_wp2_with fail
  refine (HC.out _).mono ?_
  rintro e W0 ⟨rfl, hk0⟩
  have Bb0 := hB.kept hk0
  go_wp2_with fail
  go_loopw [7] (fun t' wr => ∃ i : Nat, i ≤ 12 ∧ t' = .int .i64 i ∧ Touch b w wr ∧ Blk wr b t (rowF n (lanes (kperm i s) f))) (fun t' _ => 12 - (intOf t').toNat)
  case atStart => exact ⟨0, Nat.zero_le _, rfl, .of_kept hk0, Bb0⟩
  case round =>
    clear hk0 Bb0 hB
    obtain ⟨i, hi, rfl, kr, Bb⟩ := hrel
    have hi0 : (0 : Int) ≤ (i : Int) := by omega
    rcases Nat.lt_or_ge i 12 with hlt | hge
    · have hi2 : (i : Int) < 12 := by omega
      have hix := run_index_row134 (fun i => .int .u64 (conN i)) hlt (x := conN i) rfl
      have hper : ∀ j, kperm (i + 1) s j = kround i (kperm i s) j := fun j => rfl
      have HP := Lib.hid hper
      clear hper
      generalize kperm i s = u at HP Bb
      go_wp2_with fail
      refine (k_mix _ b n t u f hn Bb).mono ?_
      rintro e W1 ⟨rfl, k1, B1⟩
      have kr1 := kr.trans k1
      clear kr k1 Bb
      go_wp2_with fail
      refine (k_move _ b n t _ f hn (Lib.hid fun i _ => kmix_in u i) B1).mono ?_
      rintro e W2 ⟨rfl, k2, B2⟩
      have kr2 := kr1.trans k2
      clear kr1 k2 B1
      go_wp2_with fail
      refine (k_bend _ b n t _ f hn B2).mono ?_
      rintro e W3 ⟨rfl, k3, B3⟩
      have kr3 := kr2.trans k3
      clear kr2 k3 B2
      have c0 := B3.lane hn (i := 0) (by omega)
      have HK : Hid (∀ j, kround i u j = if j = 0 then bits .xor .u64 (kbend (kmove (kmix u)) 0) (conN i) else kbend (kmove (kmix u)) j) := Lib.hid fun j => rfl
      generalize kbend (kmove (kmix u)) = v at HK B3 c0
      generalize hv0 : v 0 = v0 at HK c0
      generalize conN i = cn at HK hix
      go_upto_region 7 with (fail)
      refine wp_region_calm 8 (by kernel_rfl) (by kernel_rfl) ?_
      simp only [List.take_succ_cons, List.take_zero, List.drop_succ_cons, List.drop_zero]
      repeat (first
        | (refine calm_skip rfl ?_; simp only [Act.put, List.setIfInBounds_toArray, List.set_cons_zero, List.set_cons_succ])
        | (refine calm_ex rfl ?_; apply Exists.intro; refine And.intro (fun w' hk => ?_) ?_; (focus (have q0 := hk.cell c0; clear hk; go_simp; exact rfl)); simp only [Act.put, List.setIfInBounds_toArray, List.set_cons_zero, List.set_cons_succ]))
      refine calm_nil ?_
      intro W4 hkW4
      have k4 := kr3.later hkW4
      have Bb4 := B3.kept hkW4
      clear hkW4 c0 kr3 B3
      have c0 := Bb4.lane hn (i := 0) (by omega)
      have f0 := Bb4.free
      go_wp2_with fail
      go_roundw
      case rel =>
        refine ⟨i + 1, by omega, by go_num, k4.trans (Touch.set _ _ _ _), Bb4.setLane hn (by omega) fun j hj => ?_⟩
        rw [HP.out, HK.out]
      case measure => simp [intOf]; omega
    · have hi2 : (12 : Int) ≤ (i : Int) := by omega
      obtain rfl : i = 12 := by omega
      go_wp2_with fail
      refine bodyPost_end (v := .tuple #[]) (by simp [results, Try.results61, go_sem]) rfl ⟨rfl, kr, Bb⟩
end Go.Proofs.Ytnajihlhcdedgaa

namespace Go.Proofs.Ytnajihlhcdedgaa
open Go.RowKit
set_option linter.unusedVariables false
set_option linter.unusedSimpArgs false

def lstep (y : Nat) : Nat := if 256 ≤ y * 2 then (y * 2) ^^^ 369 else y * 2
def lfN : Nat → Nat
  | 0 => 1
  | k + 1 => lstep (lfN k)
theorem lstep_lt : ∀ y, y < 256 → lstep y < 256 := by decide +kernel
theorem lfN_lt (k : Nat) : lfN k < 256 := by
  induction k with
  | zero => decide
  | succ k ih => exact lstep_lt _ ih
theorem lstep_big : ∀ y : Nat, y < 256 → 128 ≤ y → bits .xor .i64 ((y : Int) * 2) 369 = (lstep y : Int) := by decide +kernel
theorem lstep_small (y : Nat) (h : y < 128) : (lstep y : Int) = (y : Int) * 2 := by
  unfold lstep; rw [if_neg (by omega)]; omega

set_option maxRecDepth 100000 in
set_option maxHeartbeats 4000000 in
theorem r_shift {n : Nat} (hn : n < 255) : Pure Try.prog 139 #[.int .i64 (n : Int)] (.int .u64 (lfN n % 2 : Nat)) := fun w => by
  have e1 : (n : Int).tmod 255 = (n : Int) := by rw [Int.tmod_eq_emod_of_nonneg (by omega)]; omega
  have e2 : (n : Int) % 255 = (n : Int) := by omega
  go_enter Try.func139, Try.ntmps139
  go_wp2_with fail
  go_loopw [3, 4] (fun v t wr => ∃ k : Nat, k ≤ n ∧ t = .int .i64 k ∧ v = .int .i64 (lfN k) ∧ wr = w) (fun _ t _ => n - (intOf t).toNat)
  case atStart => exact ⟨0, Nat.zero_le _, rfl, rfl, rfl⟩
  case round =>
    obtain ⟨k, hk, rfl, rfl, rfl⟩ := hrel
    have hy := lfN_lt k
    rcases Nat.lt_or_ge k n with hkn | hkn
    · have hkn2 : (k : Int) < (n : Int) := by omega
      have HS : Hid (lfN (k + 1) = lstep (lfN k)) := Lib.hid rfl
      generalize lfN k = y at *
      rcases Nat.lt_or_ge y 128 with hb | hb
      · have hs := lstep_small y hb
        have hc : (y : Int) * 2 < 256 := by omega
        have w1 : IntKind.i64.wrap ((y : Int) * 2) = (y : Int) * 2 := IntWalk.i64_in _ (by omega)
        have HL := Lib.hid hs
        clear hs
        go_wp2_with fail
        go_roundw
        case rel => exact ⟨k + 1, by omega, by go_num, by rw [HS.out, HL.out], by first | rfl | trivial⟩
        case measure => simp [intOf]; omega
      · have hs := lstep_big y hy hb
        have hc : (256 : Int) ≤ (y : Int) * 2 := by omega
        have w1 : IntKind.i64.wrap ((y : Int) * 2) = (y : Int) * 2 := IntWalk.i64_in _ (by omega)
        have HL := Lib.hid hs
        clear hs
        go_wp2_with fail
        go_roundw
        case rel => exact ⟨k + 1, by omega, by go_num, by rw [HS.out, ← HL.out], by first | rfl | trivial⟩
        case measure => simp [intOf]; omega
    · have hkn2 : (n : Int) ≤ (k : Int) := by omega
      obtain rfl : k = n := by omega
      obtain ⟨y, hyy⟩ : ∃ y, lfN k = y := ⟨_, rfl⟩
      rw [hyy] at hy
      simp only [hyy]
      have HY := Lib.hid hyy
      clear hyy
      have e3 : (y : Int).tmod 2 = ((y % 2 : Nat) : Int) := by rw [Int.tmod_eq_emod_of_nonneg (by omega)]; omega
      have e4 : (y : Int) % 2 = ((y % 2 : Nat) : Int) := by omega
      have e5 : y % 2 < 2 := by omega
      obtain ⟨z, hz⟩ : ∃ z, y % 2 = z := ⟨_, rfl⟩
      have HZ := Lib.hid hz
      rw [hz] at e3 e4 e5
      clear hz
      have w1 : IntKind.u64.wrap (z : Int) = (z : Int) := by simp [IntKind.wrap, IntKind.bits, IntKind.signed]; omega
      go_wp2_with fail
      go_ret
      exact ⟨by rw [HY.out, HZ.out]; rfl, Kept.refl _⟩

/-- What a round's constant is by the first j of its seven bits. -/
def cst (r : Nat) : Nat → Int
  | 0 => 0
  | j + 1 => IntKind.u64.wrap (cst r j + IntKind.u64.wrap ((lfN (j + 7 * r) % 2 : Nat) * 2 ^ (2 ^ j - 1)))
theorem cst_ok : ∀ r, r < 12 → cst (12 + r) 7 = conN r := by decide +kernel
theorem pow_small : ∀ j, j < 7 → 1 ≤ 2 ^ j ∧ 2 ^ j ≤ 64 := by decide

set_option maxRecDepth 100000 in
set_option maxHeartbeats 4000000 in
theorem r_constant {r : Nat} (hr : r < 12) : Pure Try.prog 137 #[.int .i64 ((12 + r : Nat) : Int)] (.int .u64 (conN r)) := fun w => by
  rw [← cst_ok r hr]
  obtain ⟨q, hq⟩ : ∃ q, 12 + r = q := ⟨_, rfl⟩
  have hq24 : q < 24 := by omega
  rw [hq]
  clear hq hr
  go_enter Try.func137, Try.ntmps137
  go_wp2_with fail
  go_loopw [3, 4, 5] (fun v m t wr => ∃ k : Nat, k ≤ 7 ∧ t = .int .i64 k ∧ v = .int .u64 (cst q k) ∧ m = .int .i64 (2 ^ k : Nat) ∧ Kept w wr) (fun _ _ t _ => 7 - (intOf t).toNat)
  case atStart => exact ⟨0, Nat.zero_le _, rfl, rfl, rfl, Kept.refl _⟩
  case round =>
    obtain ⟨k, hk, rfl, rfl, rfl, kr⟩ := hrel
    rcases Nat.lt_or_ge k 7 with hkn | hkn
    · have hkn2 : (k : Int) ≤ 6 := by omega
      have hk0 : (0 : Int) ≤ (k : Int) := by omega
      obtain ⟨hm1, hm2⟩ := pow_small k hkn
      have hm3 : 2 ^ (k + 1) = 2 ^ k * 2 := Nat.pow_succ ..
      have HC : Hid (cst q (k + 1) = IntKind.u64.wrap (cst q k + IntKind.u64.wrap ((lfN (k + 7 * q) % 2 : Nat) * 2 ^ (2 ^ k - 1)))) := Lib.hid rfl
      generalize 2 ^ k = m at *
      have HM := Lib.hid hm3
      clear hm3
      obtain ⟨p, hp⟩ : ∃ p, m - 1 = p := ⟨_, rfl⟩
      rw [hp] at HC
      have e1 : (m : Int) - 1 = (p : Int) := by omega
      have hp64 : p < 64 := by omega
      obtain ⟨z, hz⟩ : ∃ z, k + 7 * q = z := ⟨_, rfl⟩
      rw [hz] at HC
      have e2 : (k : Int) + 7 * (q : Int) = (z : Int) := by omega
      have hz255 : z < 255 := by omega
      have HS := Lib.hid (r_shift hz255)
      have HP := Lib.hid (r_power hp64)
      generalize lfN z % 2 = A at HS HC
      generalize (2 : Int) ^ p = B at HP HC
      generalize hc1 : cst q (k + 1) = c1 at HC
      generalize cst q k = c0 at *
      have w1 : IntKind.i64.wrap (7 * (q : Int)) = 7 * (q : Int) := IntWalk.i64_in _ (by omega)
      have w2 : IntKind.i64.wrap (z : Int) = (z : Int) := IntWalk.i64_in _ (by omega)
      have w3 : IntKind.i64.wrap (p : Int) = (p : Int) := IntWalk.i64_in _ (by omega)
      have w4 : IntKind.i64.wrap ((m : Int) * 2) = (m : Int) * 2 := IntWalk.i64_in _ (by omega)
      clear hp hz
      go_wp2_with fail
      refine (HS.out _).mono ?_
      rintro e W1 ⟨rfl, hk1⟩
      have k1 := kr.trans hk1
      clear kr hk1
      go_wp2_with fail
      refine (HP.out _).mono ?_
      rintro e W2 ⟨rfl, hk2⟩
      have k2 := k1.trans hk2
      clear k1 hk2
      go_wp2_with fail
      go_roundw
      case rel => exact ⟨k + 1, by omega, by go_num, by rw [hc1, HC.out]; try (congr 1; go_num), by rw [HM.out]; go_num, k2⟩
      case measure => simp [intOf]; omega
    · have hkn2 : (6 : Int) < (k : Int) := by omega
      obtain rfl : k = 7 := by omega
      go_wp2_with fail
      go_ret
      exact ⟨rfl, kr⟩
end Go.Proofs.Ytnajihlhcdedgaa

namespace Go.Proofs.Ytnajihlhcdedgaa
open Go.RowKit
set_option linter.unusedVariables false
set_option linter.unusedSimpArgs false

theorem Blk.setU {w : World} {b n : Nat} {t : TypeId} {s s' : Nat → Int} (h : Blk w b t (rowF n (fun p => .int .u64 (s p)))) {i : Nat} (hi : i < n) {x : Int} (hs : ∀ j, j < n → s' j = if j = i then x else s j) :
    Blk (w.setCell ⟨b, i, none⟩ (.int .u64 x)) b t (rowF n (fun p => .int .u64 (s' p))) :=
  h.set hi fun j hj => by rw [hs j hj]; split <;> rfl
theorem Blk.congrU {w : World} {b n : Nat} {t : TypeId} {s s' : Nat → Int} (h : Blk w b t (rowF n (fun p => .int .u64 (s p)))) (hs : ∀ j, j < n → s j = s' j) : Blk w b t (rowF n (fun p => .int .u64 (s' p))) := by
  rw [← rowF_congr (f := fun p => Value.int .u64 (s p)) fun j hj => by rw [hs j hj]]
  exact h
theorem Blk.cellU {w : World} {b n : Nat} {t : TypeId} {s : Nat → Int} (h : Blk w b t (rowF n (fun p => .int .u64 (s p)))) {i : Nat} (hi : i < n) : w.cell? ⟨b, i, none⟩ = some (.int .u64 (s i)) := h.at hi
theorem upto_step {n C : Nat} {new old : Nat → Int} {v : Int} (hv : new C = v) : ∀ j, j < n → (if j < C + 1 then new j else old j) = if j = C then v else if j < C then new j else old j := by
  intro j _
  by_cases hj : j = C
  · subst hj; rw [if_pos (by omega), if_pos rfl, hv]
  · rw [if_neg hj]
    by_cases hl : j < C
    · rw [if_pos (by omega), if_pos hl]
    · rw [if_neg (by omega), if_neg hl]
theorem upto_stepT {n C q : Nat} {T : Nat → Nat} {new old : Nat → Int} {v : Int} (hq : ∀ j, j < n → (j = q ↔ T j = C)) (hv : new q = v) : ∀ j, j < n → (if T j < C + 1 then new j else old j) = if j = q then v else if T j < C then new j else old j := by
  intro j hn
  by_cases hj : j = q
  · have := (hq j hn).1 hj
    subst hj; rw [if_pos (by omega), if_pos rfl, hv]
  · have : T j ≠ C := fun e => hj ((hq j hn).2 e)
    rw [if_neg hj]
    by_cases hl : T j < C
    · rw [if_pos (by omega), if_pos hl]
    · rw [if_neg (by omega), if_neg hl]

def ra (s : Nat → Int) (p : Nat) : Int := s (p / 5 + 5 * (p % 5))
def csum (a : Nat → Int) (x : Nat) : Int := bits .xor .u64 (bits .xor .u64 (bits .xor .u64 (bits .xor .u64 (a (x * 5)) (a (x * 5 + 1))) (a (x * 5 + 2))) (a (x * 5 + 3))) (a (x * 5 + 4))
def rth (a c : Nat → Int) (p : Nat) : Int := bits .xor .u64 (bits .xor .u64 (a p) (c ((p / 5 + 4) % 5))) (rotL (c ((p / 5 + 1) % 5)) 1)
/-- Where the t-th turn happens. -/
def posXY : Nat → Nat × Nat
  | 0 => (1, 0)
  | t + 1 => ((posXY t).2, (2 * (posXY t).1 + 3 * (posXY t).2) % 5)
def offT (t : Nat) : Nat := (t + 1) * (t + 2) / 2 % 64
def rtu (a : Nat → Int) : Nat → Nat → Int
  | 0, p => a p
  | t + 1, p => if p = (posXY t).1 * 5 + (posXY t).2 then rotL (a p) (offT t) else rtu a t p
def srcM (j : Nat) : Nat := (3 * (j % 5) + j / 5) % 5 * 5 + j / 5
def rbend (m : Nat → Int) (j : Nat) : Int := bits .xor .u64 (m (j % 5 * 5 + j / 5)) (bits .andNot .u64 (m ((j % 5 + 2) % 5 * 5 + j / 5)) (m ((j % 5 + 1) % 5 * 5 + j / 5)))
def trP (j : Nat) : Nat := j % 5 * 5 + j / 5
/-- The reference's round. -/
def rone (r : Nat) (s : Nat → Int) (j : Nat) : Int :=
  let a := rth (ra s) (csum (ra s))
  let m := fun j => rtu a 24 (srcM j)
  if j = 0 then bits .xor .u64 (rbend m 0) (conN r) else rbend m j
theorem posXY_lt : ∀ t, (posXY t).1 < 5 ∧ (posXY t).2 < 5
  | 0 => by decide
  | t + 1 => ⟨(posXY_lt t).2, Nat.mod_lt _ (by decide)⟩
theorem srcM_eq : ∀ x, x < 5 → ∀ y, y < 5 → ∀ j, j < 25 → (j = y * 5 + (2 * x + 3 * y) % 5 ↔ srcM j = x * 5 + y) := by decide +kernel
theorem trP_eq : ∀ x, x < 5 → ∀ y, y < 5 → ∀ j, j < 25 → (j = x + 5 * y ↔ trP j = x * 5 + y) := by decide +kernel
theorem srcM_lt : ∀ j, j < 25 → srcM j < 25 := by decide
theorem trP_lt : ∀ j, j < 25 → trP j < 25 := by decide
theorem off_eq : ∀ t : Nat, t < 24 → (IntKind.i64.wrap (((t : Int) + 1) * ((t : Int) + 2))).tdiv 2 = (((t + 1) * (t + 2) / 2 : Nat) : Int) ∧ (((t + 1) * (t + 2) / 2 : Nat) : Int).tmod 64 = (offT t : Int) ∧ offT t < 64 := by decide +kernel
theorem off_eq2 : ∀ t : Nat, t < 24 → IntKind.i64.wrap (((t : Int) + 1) * ((t : Int) + 2)) = (((t + 1) * (t + 2) : Nat) : Int) := by decide +kernel
theorem size157 : (Try.prog.info? 157).map (·.size) = some 25 := by kernel_rfl
theorem off_eq3 : ∀ t : Nat, t < 24 → (t + 1) * (t + 2) / 2 ≤ 300 := by decide
theorem rth_in (a c : Nat → Int) (p : Nat) : in64 (rth a c p) := bits_in _ _ _
theorem csum_in (a : Nat → Int) (x : Nat) : in64 (csum a x) := bits_in _ _ _

set_option maxRecDepth 100000 in
set_option maxHeartbeats 4000000 in
theorem r_one (w : World) (s : Nat → Int) (r : Nat) (hr : r < 12) (hs : Hid (∀ i, i < 25 → in64 (s i))) :
    Calls Try.prog 125 #[.agg (rowF 25 (fun p => .int .u64 (s p))), .int .i64 ((12 + r : Nat) : Int)] w fun e w' => e = .returned (.agg (rowF 25 (fun p => .int .u64 (rone r s p)))) ∧ Kept w w' := by
  have HConst := Lib.hid (r_constant hr)
  obtain ⟨R, hR⟩ : ∃ R, 12 + r = R := ⟨_, rfl⟩
  rw [hR] at HConst ⊢
  have hR24 : R < 24 := by omega
  clear hR
  go_enter Try.func125, Try.ntmps125
  obtain ⟨g2, hg2⟩ : ∃ g, w.heap.size = g := ⟨_, rfl⟩
  have nwg2 : w.heap.size ≤ g2 := by omega
  have nwg4 : w.heap.size ≤ g2 + 1 := by omega
  go_upto_region 1 with (fail)
  refine abs_world (fun W => Kept w W ∧ Blk W g2 60 (rowF 25 (fun p => .int .u64 (s p))) ∧ Blk W (g2 + 1) 60 (rowF 25 (fun p => .int .u64 0))) ⟨((Kept.refl w).alloc _).alloc _, ?_, ?_⟩ ?_
  · rw [← hg2]; exact (Blk.new _ _ _).alloc _
  · rw [← hg2]; exact heap_alloc2_new w _ _
  rintro W1 ⟨k, Bg2, Bg4⟩
  try simp only [hg2]
  clear hg2
  obtain ⟨g4, hg4⟩ : ∃ g, g2 + 1 = g := ⟨_, rfl⟩
  rw [hg4] at Bg4 nwg4
  try simp only [hg4]
  have ng2g4 : g2 < g4 := by omega
  clear hg4
  obtain ⟨g5, hg5⟩ : ∃ g, W1.heap.size = g := ⟨_, rfl⟩
  have ng2g5 : g2 < g5 := hg5 ▸ Bg2.lt
  have ng4g5 : g4 < g5 := hg5 ▸ Bg4.lt
  have nwg5 : w.heap.size ≤ g5 := hg5 ▸ k.size
  go_upto_region 2 with (fail)
  refine abs_world (fun W => Kept w W ∧ Blk W g2 60 (rowF 25 (fun p => .int .u64 (s p))) ∧ Blk W g4 60 (rowF 25 (fun p => .int .u64 (0))) ∧ Blk W g5 157 (rowF 25 (fun p => .int .u64 (0)))) ⟨k.alloc _, Bg2.alloc _, Bg4.alloc _, by rw [← hg5]; exact Blk.new _ _ _⟩ ?_
  clear k Bg2 Bg4
  rintro W2 ⟨k, Bg2, Bg4, Bg5⟩
  try simp only [hg5]
  clear hg5
  go_wp2_with fail
  go_loopw [6] (fun t' wr => ∃ x : Nat, x ≤ 5 ∧ t' = .int .i64 x ∧ Kept w wr ∧ Blk wr g2 60 (rowF 25 (fun p => .int .u64 (s p))) ∧ Blk wr g4 60 (rowF 25 (fun p => .int .u64 (0))) ∧ Blk wr g5 157 (rowF 25 (fun p => .int .u64 (if p < x * 5 then ra s p else 0)))) (fun t' _ => 5 - (intOf t').toNat)
  case atStart => exact ⟨0, Nat.zero_le _, rfl, k, Bg2, Bg4, Bg5.congrU fun j hj => by rw [if_neg (Nat.not_lt_zero _)]⟩
  case round =>
    clear k Bg2 Bg4 Bg5
    obtain ⟨x, hx, rfl, k, Bg2, Bg4, Bg5⟩ := hrel
    have zx : (0 : Int) ≤ (x : Int) := by omega
    rcases Nat.lt_or_ge x 5 with hltx | hgex
    · have yx : (x : Int) < 5 := by omega
      go_wp2_with fail
      go_loopw [7] (fun t' wr => ∃ y : Nat, y ≤ 5 ∧ t' = .int .i64 y ∧ Kept w wr ∧ Blk wr g2 60 (rowF 25 (fun p => .int .u64 (s p))) ∧ Blk wr g4 60 (rowF 25 (fun p => .int .u64 (0))) ∧ Blk wr g5 157 (rowF 25 (fun p => .int .u64 (if p < x * 5 + y then ra s p else 0)))) (fun t' _ => 5 - (intOf t').toNat)
      case atStart => exact ⟨0, Nat.zero_le _, rfl, k, Bg2, Bg4, Bg5⟩
      case round =>
        clear k Bg2 Bg4 Bg5
        obtain ⟨y, hy, rfl, k, Bg2, Bg4, Bg5⟩ := hrel
        have zy : (0 : Int) ≤ (y : Int) := by omega
        rcases Nat.lt_or_ge y 5 with hlty | hgey
        · have yy : (y : Int) < 5 := by omega
          obtain ⟨q, hq, hq25⟩ : ∃ q, x + 5 * y = q ∧ q < 25 := ⟨_, rfl, by omega⟩
          have c0 := Bg2.cellU hq25
          have w1 : IntKind.i64.wrap (5 * (y : Int)) = 5 * (y : Int) := IntWalk.i64_in _ (by omega)
          have e1 : (x : Int) + 5 * (y : Int) = (q : Int) := by omega
          have w2 : IntKind.i64.wrap (q : Int) = (q : Int) := IntWalk.i64_in _ (by omega)
          have zq : (0 : Int) ≤ (q : Int) := by omega
          have yq : (q : Int) < 25 := by omega
          have HV : Hid (ra s (x * 5 + y) = s q) := Lib.hid (by unfold ra; rw [show (x * 5 + y) / 5 + 5 * ((x * 5 + y) % 5) = q by omega])
          clear hq
          go_upto_region 8 with (fail)
          refine wp_region_calm 10 (by kernel_rfl) (by kernel_rfl) ?_
          simp only [List.take_succ_cons, List.take_zero, List.drop_succ_cons, List.drop_zero]
          repeat (first
            | (refine calm_skip rfl ?_; simp only [Act.put, List.setIfInBounds_toArray, List.set_cons_zero, List.set_cons_succ])
            | (refine calm_ex rfl ?_; apply Exists.intro; refine And.intro (fun w' hk => ?_) ?_; (focus (have q0 := hk.cell c0; clear hk; go_simp; exact rfl)); simp only [Act.put, List.setIfInBounds_toArray, List.set_cons_zero, List.set_cons_succ]))
          refine calm_nil ?_
          intro W9 hkW9
          clear c0
          have k' := k.trans hkW9
          have Bg2' := Bg2.kept hkW9
          have Bg4' := Bg4.kept hkW9
          have Bg5' := Bg5.kept hkW9
          clear hkW9 k Bg2 Bg4 Bg5
          have k := k'
          have Bg2 := Bg2'
          have Bg4 := Bg4'
          have Bg5 := Bg5'
          clear k' Bg2' Bg4' Bg5'
          have c1 := Bg5.cellU (i := x * 5 + y) (by omega)
          have f1 := Bg5.free
          go_wp2_with fail
          go_roundw
          case rel => refine ⟨y + 1, by omega, by go_num, k.setCell (by exact nwg5) _, Bg2.set_other (by omega) _, Bg4.set_other (by omega) _, Bg5.setU (by omega) (upto_step HV.out)⟩
          case measure => simp [intOf]; omega
        · have yy : (5 : Int) ≤ (y : Int) := by omega
          obtain rfl : y = 5 := by omega
          go_wp2_with fail
          go_roundw
          have e5 : (x + 1) * 5 = x * 5 + 5 := by omega
          case rel => refine ⟨x + 1, by omega, by go_num, ?_⟩; rw [e5]; exact ⟨k, Bg2, Bg4, Bg5⟩
          case measure => simp [intOf]; omega
    · have yx : (5 : Int) ≤ (x : Int) := by omega
      obtain rfl : x = 5 := by omega
      clear hgex zx yx hx
      have Bg5 := Bg5.congrU (s' := ra s) fun j hj => by rw [if_pos hj]
      go_upto_region 9 with (fail)
      refine abs_world (fun W => Kept w W ∧ Blk W g2 60 (rowF 25 (fun p => .int .u64 (s p))) ∧ Blk W g4 60 (rowF 25 (fun p => .int .u64 (0))) ∧ Blk W g5 157 (rowF 25 (fun p => .int .u64 (ra s p)))) ⟨k, Bg2, Bg4, Bg5⟩ ?_
      clear k Bg2 Bg4 Bg5
      rintro W3 ⟨k, Bg2, Bg4, Bg5⟩
      obtain ⟨g8, hg8⟩ : ∃ g, W3.heap.size = g := ⟨_, rfl⟩
      have ng2g8 : g2 < g8 := hg8 ▸ Bg2.lt
      have ng4g8 : g4 < g8 := hg8 ▸ Bg4.lt
      have ng5g8 : g5 < g8 := hg8 ▸ Bg5.lt
      have nwg8 : w.heap.size ≤ g8 := hg8 ▸ k.size
      go_upto_region 10 with (fail)
      refine abs_world (fun W => Kept w W ∧ Blk W g2 60 (rowF 25 (fun p => .int .u64 (s p))) ∧ Blk W g4 60 (rowF 25 (fun p => .int .u64 (0))) ∧ Blk W g5 157 (rowF 25 (fun p => .int .u64 (ra s p))) ∧ Blk W g8 153 (rowF 5 (fun p => .int .u64 (0)))) ⟨k.alloc _, Bg2.alloc _, Bg4.alloc _, Bg5.alloc _, by rw [← hg8]; exact Blk.new _ _ _⟩ ?_
      clear k Bg2 Bg4 Bg5
      rintro W4 ⟨k, Bg2, Bg4, Bg5, Bg8⟩
      try simp only [hg8]
      clear hg8
      go_wp2_with fail
      go_loopw [9] (fun t' wr => ∃ x : Nat, x ≤ 5 ∧ t' = .int .i64 x ∧ Kept w wr ∧ Blk wr g2 60 (rowF 25 (fun p => .int .u64 (s p))) ∧ Blk wr g4 60 (rowF 25 (fun p => .int .u64 (0))) ∧ Blk wr g5 157 (rowF 25 (fun p => .int .u64 (ra s p))) ∧ Blk wr g8 153 (rowF 5 (fun p => .int .u64 (if p < x then csum (ra s) p else 0)))) (fun t' _ => 5 - (intOf t').toNat)
      case atStart => exact ⟨0, Nat.zero_le _, rfl, k, Bg2, Bg4, Bg5, Bg8.congrU fun j hj => by rw [if_neg (Nat.not_lt_zero _)]⟩
      case round =>
        clear k Bg2 Bg4 Bg5 Bg8
        obtain ⟨x, hx, rfl, k, Bg2, Bg4, Bg5, Bg8⟩ := hrel
        have zx : (0 : Int) ≤ (x : Int) := by omega
        rcases Nat.lt_or_ge x 5 with hltx | hgex
        · have yx : (x : Int) < 5 := by omega
          have c0 := Bg5.cellU (i := x * 5) (by omega)
          have c1 := Bg5.cellU (i := x * 5 + 1) (by omega)
          have c2 := Bg5.cellU (i := x * 5 + 2) (by omega)
          have c3 := Bg5.cellU (i := x * 5 + 3) (by omega)
          have c4 := Bg5.cellU (i := x * 5 + 4) (by omega)
          have HV : Hid (csum (ra s) x = _) := Lib.hid (by unfold csum; rfl)
          generalize ra s (x * 5) = a0 at *
          generalize ra s (x * 5 + 1) = a1 at *
          generalize ra s (x * 5 + 2) = a2 at *
          generalize ra s (x * 5 + 3) = a3 at *
          generalize ra s (x * 5 + 4) = a4 at *
          go_upto_region 13 with (fail)
          refine wp_region_calm 26 (by kernel_rfl) (by kernel_rfl) ?_
          simp only [List.take_succ_cons, List.take_zero, List.drop_succ_cons, List.drop_zero]
          repeat (first
            | (refine calm_skip rfl ?_; simp only [Act.put, List.setIfInBounds_toArray, List.set_cons_zero, List.set_cons_succ])
            | (refine calm_ex rfl ?_; apply Exists.intro; refine And.intro (fun w' hk => ?_) ?_; (focus (have q0 := hk.cell c0; have q1 := hk.cell c1; have q2 := hk.cell c2; have q3 := hk.cell c3; have q4 := hk.cell c4; clear hk; go_simp; exact rfl)); simp only [Act.put, List.setIfInBounds_toArray, List.set_cons_zero, List.set_cons_succ]))
          refine calm_nil ?_
          intro W9 hkW9
          clear c0 c1 c2 c3 c4
          have k' := k.trans hkW9
          have Bg2' := Bg2.kept hkW9
          have Bg4' := Bg4.kept hkW9
          have Bg5' := Bg5.kept hkW9
          have Bg8' := Bg8.kept hkW9
          clear hkW9 k Bg2 Bg4 Bg5 Bg8
          have k := k'
          have Bg2 := Bg2'
          have Bg4 := Bg4'
          have Bg5 := Bg5'
          have Bg8 := Bg8'
          clear k' Bg2' Bg4' Bg5' Bg8'
          have c1 := Bg8.cellU (i := x) (by omega)
          have f1 := Bg8.free
          go_wp2_with fail
          go_roundw
          case rel => refine ⟨x + 1, by omega, by go_num, k.setCell (by exact nwg8) _, Bg2.set_other (by omega) _, Bg4.set_other (by omega) _, Bg5.set_other (by omega) _, Bg8.setU hltx (upto_step HV.out)⟩
          case measure => simp [intOf]; omega
        · have yx : (5 : Int) ≤ (x : Int) := by omega
          obtain rfl : x = 5 := by omega
          clear hgex zx yx hx
          have Bg8 := Bg8.congrU (s' := csum (ra s)) fun j hj => by rw [if_pos hj]
          go_wp2_with fail
          go_loopw [10] (fun t' wr => ∃ x : Nat, x ≤ 5 ∧ t' = .int .i64 x ∧ Kept w wr ∧ Blk wr g2 60 (rowF 25 (fun p => .int .u64 (s p))) ∧ Blk wr g4 60 (rowF 25 (fun p => .int .u64 (0))) ∧ Blk wr g5 157 (rowF 25 (fun p => .int .u64 (if p < x * 5 then rth (ra s) (csum (ra s)) p else ra s p))) ∧ Blk wr g8 153 (rowF 5 (fun p => .int .u64 (csum (ra s) p)))) (fun t' _ => 5 - (intOf t').toNat)
          case atStart => exact ⟨0, Nat.zero_le _, rfl, k, Bg2, Bg4, Bg5.congrU fun j hj => by rw [if_neg (Nat.not_lt_zero _)], Bg8⟩
          case round =>
            clear k Bg2 Bg4 Bg5 Bg8
            obtain ⟨x, hx, rfl, k, Bg2, Bg4, Bg5, Bg8⟩ := hrel
            have zx : (0 : Int) ≤ (x : Int) := by omega
            rcases Nat.lt_or_ge x 5 with hltx | hgex
            · have yx : (x : Int) < 5 := by omega
              go_wp2_with fail
              go_loopw [11] (fun t' wr => ∃ y : Nat, y ≤ 5 ∧ t' = .int .i64 y ∧ Kept w wr ∧ Blk wr g2 60 (rowF 25 (fun p => .int .u64 (s p))) ∧ Blk wr g4 60 (rowF 25 (fun p => .int .u64 (0))) ∧ Blk wr g5 157 (rowF 25 (fun p => .int .u64 (if p < x * 5 + y then rth (ra s) (csum (ra s)) p else ra s p))) ∧ Blk wr g8 153 (rowF 5 (fun p => .int .u64 (csum (ra s) p)))) (fun t' _ => 5 - (intOf t').toNat)
              case atStart => exact ⟨0, Nat.zero_le _, rfl, k, Bg2, Bg4, Bg5, Bg8⟩
              case round =>
                clear k Bg2 Bg4 Bg5 Bg8
                obtain ⟨y, hy, rfl, k, Bg2, Bg4, Bg5, Bg8⟩ := hrel
                have zy : (0 : Int) ≤ (y : Int) := by omega
                rcases Nat.lt_or_ge y 5 with hlty | hgey
                · have yy : (y : Int) < 5 := by omega
                  obtain ⟨m, hm, hm5⟩ : ∃ m, (x + 4) % 5 = m ∧ m < 5 := ⟨_, rfl, by omega⟩
                  obtain ⟨u, hu, hu5⟩ : ∃ u, (x + 1) % 5 = u ∧ u < 5 := ⟨_, rfl, by omega⟩
                  have c0 := Bg5.cellU (i := x * 5 + y) (by omega)
                  rw [if_neg (Nat.lt_irrefl _)] at c0
                  have c1 := Bg8.cellU hm5
                  have c2 := Bg8.cellU hu5
                  have HRot := Lib.hid (r_rot (csum_in (ra s) u) (n := 1) (by omega))
                  have HV : Hid (rth (ra s) (csum (ra s)) (x * 5 + y) = bits .xor .u64 (bits .xor .u64 (ra s (x * 5 + y)) (csum (ra s) m)) (rotL (csum (ra s) u) 1)) := Lib.hid (by unfold rth; rw [show (x * 5 + y) / 5 = x by omega, hm, hu])
                  generalize ra s (x * 5 + y) = x0 at HV c0
                  generalize csum (ra s) m = x1 at HV c1
                  generalize csum (ra s) u = x2 at HV c2 HRot
                  generalize rotL x2 1 = x3 at HV HRot
                  have w1 : IntKind.i64.wrap ((x : Int) + 4) = (x : Int) + 4 := IntWalk.i64_in _ (by omega)
                  have w2 : IntKind.i64.wrap ((x : Int) + 1) = (x : Int) + 1 := IntWalk.i64_in _ (by omega)
                  have e1 : ((x : Int) + 4).tmod 5 = (m : Int) := by have := rem5 (x + 4); rw [hm] at this; simpa using this
                  have e2 : ((x : Int) + 1).tmod 5 = (u : Int) := by have := rem5 (x + 1); rw [hu] at this; simpa using this
                  have e1' : ((x : Int) + 4) % 5 = (m : Int) := by omega
                  have e2' : ((x : Int) + 1) % 5 = (u : Int) := by omega
                  have zm : (0 : Int) ≤ (m : Int) := by omega
                  have ym : (m : Int) < 5 := by omega
                  have zu : (0 : Int) ≤ (u : Int) := by omega
                  have yu : (u : Int) < 5 := by omega
                  clear hm hu
                  go_upto_region 20 with (fail)
                  refine wp_region_calm 22 (by kernel_rfl) (by kernel_rfl) ?_
                  simp only [List.take_succ_cons, List.take_zero, List.drop_succ_cons, List.drop_zero]
                  repeat (first
                    | (refine calm_skip rfl ?_; simp only [Act.put, List.setIfInBounds_toArray, List.set_cons_zero, List.set_cons_succ])
                    | (refine calm_ex rfl ?_; apply Exists.intro; refine And.intro (fun w' hk => ?_) ?_; (focus (have q0 := hk.cell c0; have q1 := hk.cell c1; have q2 := hk.cell c2; clear hk; go_simp; exact rfl)); simp only [Act.put, List.setIfInBounds_toArray, List.set_cons_zero, List.set_cons_succ])
                    | (refine calm_step _ rfl (HRot.out.call ?_) ?_; (focus (intro w'; go_simp; done)); simp only [Act.put, List.setIfInBounds_toArray, List.set_cons_zero, List.set_cons_succ]))
                  refine calm_nil ?_
                  intro W9 hkW9
                  have c9 := hkW9.cell c0
                  clear c0 c1 c2
                  have k' := k.trans hkW9
                  have Bg2' := Bg2.kept hkW9
                  have Bg4' := Bg4.kept hkW9
                  have Bg5' := Bg5.kept hkW9
                  have Bg8' := Bg8.kept hkW9
                  clear hkW9 k Bg2 Bg4 Bg5 Bg8
                  have k := k'
                  have Bg2 := Bg2'
                  have Bg4 := Bg4'
                  have Bg5 := Bg5'
                  have Bg8 := Bg8'
                  clear k' Bg2' Bg4' Bg5' Bg8'
                  have f1 := Bg5.free
                  go_wp2_with fail
                  go_roundw
                  case rel => refine ⟨y + 1, by omega, by go_num, k.setCell (by exact nwg5) _, Bg2.set_other (by omega) _, Bg4.set_other (by omega) _, Bg5.setU (by omega) (upto_step HV.out), Bg8.set_other (by omega) _⟩
                  case measure => simp [intOf]; omega
                · have yy : (5 : Int) ≤ (y : Int) := by omega
                  obtain rfl : y = 5 := by omega
                  go_wp2_with fail
                  go_roundw
                  have e5 : (x + 1) * 5 = x * 5 + 5 := by omega
                  case rel => refine ⟨x + 1, by omega, by go_num, ?_⟩; rw [e5]; exact ⟨k, Bg2, Bg4, Bg5, Bg8⟩
                  case measure => simp [intOf]; omega
            · have yx : (5 : Int) ≤ (x : Int) := by omega
              obtain rfl : x = 5 := by omega
              clear hgex zx yx hx
              have Bg5 := Bg5.congrU (s' := rth (ra s) (csum (ra s))) fun j hj => by rw [if_pos hj]
              have hA := rth_in (ra s) (csum (ra s))
              have HF : Hid (∀ j, rone r s j = if j = 0 then bits .xor .u64 (rbend (fun j => rtu (rth (ra s) (csum (ra s))) 24 (srcM j)) 0) (conN r) else rbend (fun j => rtu (rth (ra s) (csum (ra s))) 24 (srcM j)) j) := Lib.hid fun j => rfl
              clear Bg8
              generalize rth (ra s) (csum (ra s)) = A at *
              refine abs_world (fun W => Kept w W ∧ Blk W g2 60 (rowF 25 (fun p => .int .u64 (s p))) ∧ Blk W g4 60 (rowF 25 (fun p => .int .u64 (0))) ∧ Blk W g5 157 (rowF 25 (fun p => .int .u64 (A p)))) ⟨k, Bg2, Bg4, Bg5⟩ ?_
              clear k Bg2 Bg4 Bg5
              rintro W5 ⟨k, Bg2, Bg4, Bg5⟩
              obtain ⟨g12, hg12⟩ : ∃ g, W5.heap.size = g := ⟨_, rfl⟩
              have ng2g12 : g2 < g12 := hg12 ▸ Bg2.lt
              have ng4g12 : g4 < g12 := hg12 ▸ Bg4.lt
              have ng5g12 : g5 < g12 := hg12 ▸ Bg5.lt
              have nwg12 : w.heap.size ≤ g12 := hg12 ▸ k.size
              go_upto_region 22 with (first | (refine wpList_load_part 157 (.tmp 5) Bg5 (Nat.le_refl _) Try.underlying157 size157 rfl rfl rfl ?_) | (refine abs_world (fun W => Kept w W ∧ Blk W g2 60 (rowF 25 (fun p => .int .u64 (s p))) ∧ Blk W g4 60 (rowF 25 (fun p => .int .u64 (0))) ∧ Blk W g5 157 (rowF 25 (fun p => .int .u64 (A p))) ∧ Blk W g12 157 (rowF 25 (fun p => .int .u64 (0)))) ⟨k.alloc _, Bg2.alloc _, Bg4.alloc _, Bg5.alloc _, by rw [← hg12]; exact Blk.new _ _ _⟩ ?_; clear k Bg2 Bg4 Bg5; rintro W6 ⟨k, Bg2, Bg4, Bg5, Bg12⟩; try simp only [hg12]) | (refine wpList_store_part (h' := fun p => .int .u64 (A p)) 157 (.tmp 12) (.tmp 102) Bg12 (Nat.le_refl _) size157 (fun _ => rfl) rfl rfl rfl rfl ?_))
              clear hg12
              refine abs_world (fun W => Kept w W ∧ Blk W g2 60 (rowF 25 (fun p => .int .u64 (s p))) ∧ Blk W g4 60 (rowF 25 (fun p => .int .u64 (0))) ∧ Blk W g5 157 (rowF 25 (fun p => .int .u64 (A p))) ∧ Blk W g12 157 (rowF 25 (fun p => .int .u64 (A p)))) ⟨k.setRow nwg12 _, Bg2.setRow_other (by omega) _, Bg4.setRow_other (by omega) _, Bg5.setRow_other (by omega) _, ?_⟩ ?_
              · have := Bg12.setRow (rowF 25 (fun i => if i < 25 then Value.int .u64 (A i) else .int .u64 0)); rw [rowF_congr (g := fun i => Value.int .u64 (A i)) fun j hj => by rw [if_pos hj]] at this; exact this
              clear k Bg2 Bg4 Bg5 Bg12
              rintro W7 ⟨k, Bg2, Bg4, Bg5, Bg12⟩
              go_wp2_with fail
              go_loopw [13, 14, 15] (fun vx vy t' wr => ∃ t : Nat, t ≤ 24 ∧ t' = .int .i64 t ∧ vx = .int .i64 (posXY t).1 ∧ vy = .int .i64 (posXY t).2 ∧ Kept w wr ∧ Blk wr g2 60 (rowF 25 (fun p => .int .u64 (s p))) ∧ Blk wr g4 60 (rowF 25 (fun p => .int .u64 (0))) ∧ Blk wr g5 157 (rowF 25 (fun p => .int .u64 (A p))) ∧ Blk wr g12 157 (rowF 25 (fun p => .int .u64 (rtu A t p)))) (fun _ _ t' _ => 24 - (intOf t').toNat)
              case atStart => exact ⟨0, Nat.zero_le _, rfl, rfl, rfl, k, Bg2, Bg4, Bg5, Bg12⟩
              case round =>
                clear k Bg2 Bg4 Bg5 Bg12
                obtain ⟨t, ht, rfl, rfl, rfl, k, Bg2, Bg4, Bg5, Bg12⟩ := hrel
                have zt : (0 : Int) ≤ (t : Int) := by omega
                rcases Nat.lt_or_ge t 24 with hltt | hget
                · have yt : (t : Int) < 24 := by omega
                  obtain ⟨hm5, hu5⟩ := posXY_lt t
                  have HQ : Hid (posXY (t + 1) = ((posXY t).2, (2 * (posXY t).1 + 3 * (posXY t).2) % 5)) := Lib.hid rfl
                  have HV : Hid (∀ p, rtu A (t + 1) p = if p = (posXY t).1 * 5 + (posXY t).2 then rotL (A p) (offT t) else rtu A t p) := Lib.hid fun p => rfl
                  generalize (posXY t).1 = m at *
                  generalize (posXY t).2 = u at *
                  obtain ⟨v, hv, hv5⟩ : ∃ v, (2 * m + 3 * u) % 5 = v ∧ v < 5 := ⟨_, rfl, by omega⟩
                  rw [hv] at HQ
                  obtain ⟨e2, e3, ho64⟩ := off_eq t hltt
                  have e1 := off_eq2 t hltt
                  rw [e1] at e2
                  have hz2 := off_eq3 t hltt
                  have HRot := Lib.hid (r_rot (hA (m * 5 + u)) ho64)
                  generalize (t + 1) * (t + 2) / 2 = z2 at e2 e3 hz2
                  have w6 : IntKind.i64.wrap (z2 : Int) = (z2 : Int) := IntWalk.i64_in _ (by omega)
                  generalize (t + 1) * (t + 2) = z1 at e1 e2
                  generalize offT t = F at HV HRot e3 ho64
                  have e2' : (z1 : Int) / 2 = (z2 : Int) := by rw [Int.tdiv_eq_ediv_of_nonneg (by omega)] at e2; exact e2
                  have e3' : (z2 : Int) % 64 = (F : Int) := by rw [Int.tmod_eq_emod_of_nonneg (by omega)] at e3; exact e3
                  have w1 : IntKind.i64.wrap ((t : Int) + 1) = (t : Int) + 1 := IntWalk.i64_in _ (by omega)
                  have w2 : IntKind.i64.wrap ((t : Int) + 2) = (t : Int) + 2 := IntWalk.i64_in _ (by omega)
                  have c0 := Bg5.cellU (i := m * 5 + u) (by omega)
                  have HV0 := HV.out
                  generalize hx0 : A (m * 5 + u) = x0 at c0 HRot
                  generalize hx1 : rotL x0 F = x1 at HRot
                  have HW : Hid (∀ p, p < 25 → rtu A (t + 1) p = if p = m * 5 + u then x1 else rtu A t p) := Lib.hid (by intro p hp; rw [HV0]; by_cases hpm : p = m * 5 + u; subst hpm; rw [if_pos rfl, if_pos rfl, hx0, hx1]; rw [if_neg hpm, if_neg hpm])
                  clear HV0 HV hx0 hx1
                  have zm : (0 : Int) ≤ (m : Int) := by omega
                  have ym : (m : Int) < 5 := by omega
                  have zu : (0 : Int) ≤ (u : Int) := by omega
                  have yu : (u : Int) < 5 := by omega
                  have zv : (0 : Int) ≤ (v : Int) := by omega
                  have yv : (v : Int) < 5 := by omega
                  go_upto_region 26 with (fail)
                  refine wp_region_calm 17 (by kernel_rfl) (by kernel_rfl) ?_
                  simp only [List.take_succ_cons, List.take_zero, List.drop_succ_cons, List.drop_zero]
                  repeat (first
                    | (refine calm_skip rfl ?_; simp only [Act.put, List.setIfInBounds_toArray, List.set_cons_zero, List.set_cons_succ])
                    | (refine calm_ex rfl ?_; apply Exists.intro; refine And.intro (fun w' hk => ?_) ?_; (focus (have q0 := hk.cell c0; clear hk; go_simp; exact rfl)); simp only [Act.put, List.setIfInBounds_toArray, List.set_cons_zero, List.set_cons_succ])
                    | (refine calm_step _ rfl (HRot.out.call ?_) ?_; (focus (intro w'; go_simp; done)); simp only [Act.put, List.setIfInBounds_toArray, List.set_cons_zero, List.set_cons_succ]))
                  refine calm_nil ?_
                  intro W9 hkW9
                  clear c0 e1 e2 e2' e3 e3'
                  have k' := k.trans hkW9
                  have Bg2' := Bg2.kept hkW9
                  have Bg4' := Bg4.kept hkW9
                  have Bg5' := Bg5.kept hkW9
                  have Bg12' := Bg12.kept hkW9
                  clear hkW9 k Bg2 Bg4 Bg5 Bg12
                  have k := k'
                  have Bg2 := Bg2'
                  have Bg4 := Bg4'
                  have Bg5 := Bg5'
                  have Bg12 := Bg12'
                  clear k' Bg2' Bg4' Bg5' Bg12'
                  have c1 := Bg12.cellU (i := m * 5 + u) (by omega)
                  have f1 := Bg12.free
                  have e4 : (2 * (m : Int) + 3 * (u : Int)).tmod 5 = (v : Int) := by have := rem5 (2 * m + 3 * u); rw [hv] at this; simpa using this
                  have e4' : (2 * (m : Int) + 3 * (u : Int)) % 5 = (v : Int) := by omega
                  have w3 : IntKind.i64.wrap (2 * (m : Int)) = 2 * (m : Int) := IntWalk.i64_in _ (by omega)
                  have w4 : IntKind.i64.wrap (3 * (u : Int)) = 3 * (u : Int) := IntWalk.i64_in _ (by omega)
                  have w5 : IntKind.i64.wrap (2 * (m : Int) + 3 * (u : Int)) = 2 * (m : Int) + 3 * (u : Int) := IntWalk.i64_in _ (by omega)
                  clear hv
                  go_wp2_with fail
                  go_roundw
                  case rel => refine ⟨t + 1, by omega, by go_num, by rw [HQ.out], by rw [HQ.out], k.setCell (by exact nwg12) _, Bg2.set_other (by omega) _, Bg4.set_other (by omega) _, Bg5.set_other (by omega) _, Bg12.setU (by omega) HW.out⟩
                  case measure => simp [intOf]; omega
                · have yt : (24 : Int) ≤ (t : Int) := by omega
                  obtain rfl : t = 24 := by omega
                  clear hget zt yt ht Bg5
                  generalize rtu A 24 = b at *
                  refine abs_world (fun W => Kept w W ∧ Blk W g2 60 (rowF 25 (fun p => .int .u64 (s p))) ∧ Blk W g4 60 (rowF 25 (fun p => .int .u64 (0))) ∧ Blk W g12 157 (rowF 25 (fun p => .int .u64 (b p)))) ⟨k, Bg2, Bg4, Bg12⟩ ?_
                  clear k Bg2 Bg4 Bg12
                  rintro W8 ⟨k, Bg2, Bg4, Bg12⟩
                  obtain ⟨g16, hg16⟩ : ∃ g, W8.heap.size = g := ⟨_, rfl⟩
                  have ng2g16 : g2 < g16 := hg16 ▸ Bg2.lt
                  have ng4g16 : g4 < g16 := hg16 ▸ Bg4.lt
                  have ng12g16 : g12 < g16 := hg16 ▸ Bg12.lt
                  have nwg16 : w.heap.size ≤ g16 := hg16 ▸ k.size
                  go_upto_region 29 with (fail)
                  refine abs_world (fun W => Kept w W ∧ Blk W g2 60 (rowF 25 (fun p => .int .u64 (s p))) ∧ Blk W g4 60 (rowF 25 (fun p => .int .u64 (0))) ∧ Blk W g12 157 (rowF 25 (fun p => .int .u64 (b p))) ∧ Blk W g16 157 (rowF 25 (fun p => .int .u64 (0)))) ⟨k.alloc _, Bg2.alloc _, Bg4.alloc _, Bg12.alloc _, by rw [← hg16]; exact Blk.new _ _ _⟩ ?_
                  clear k Bg2 Bg4 Bg12
                  rintro W10 ⟨k, Bg2, Bg4, Bg12, Bg16⟩
                  try simp only [hg16]
                  clear hg16
                  go_wp2_with fail
                  go_loopw [17] (fun t' wr => ∃ x : Nat, x ≤ 5 ∧ t' = .int .i64 x ∧ Kept w wr ∧ Blk wr g2 60 (rowF 25 (fun p => .int .u64 (s p))) ∧ Blk wr g4 60 (rowF 25 (fun p => .int .u64 (0))) ∧ Blk wr g12 157 (rowF 25 (fun p => .int .u64 (b p))) ∧ Blk wr g16 157 (rowF 25 (fun p => .int .u64 (if srcM p < x * 5 then b (srcM p) else 0)))) (fun t' _ => 5 - (intOf t').toNat)
                  case atStart => exact ⟨0, Nat.zero_le _, rfl, k, Bg2, Bg4, Bg12, Bg16.congrU fun j hj => by rw [if_neg (Nat.not_lt_zero _)]⟩
                  case round =>
                    clear k Bg2 Bg4 Bg12 Bg16
                    obtain ⟨x, hx, rfl, k, Bg2, Bg4, Bg12, Bg16⟩ := hrel
                    have zx : (0 : Int) ≤ (x : Int) := by omega
                    rcases Nat.lt_or_ge x 5 with hltx | hgex
                    · have yx : (x : Int) < 5 := by omega
                      go_wp2_with fail
                      go_loopw [18] (fun t' wr => ∃ y : Nat, y ≤ 5 ∧ t' = .int .i64 y ∧ Kept w wr ∧ Blk wr g2 60 (rowF 25 (fun p => .int .u64 (s p))) ∧ Blk wr g4 60 (rowF 25 (fun p => .int .u64 (0))) ∧ Blk wr g12 157 (rowF 25 (fun p => .int .u64 (b p))) ∧ Blk wr g16 157 (rowF 25 (fun p => .int .u64 (if srcM p < x * 5 + y then b (srcM p) else 0)))) (fun t' _ => 5 - (intOf t').toNat)
                      case atStart => exact ⟨0, Nat.zero_le _, rfl, k, Bg2, Bg4, Bg12, Bg16⟩
                      case round =>
                        clear k Bg2 Bg4 Bg12 Bg16
                        obtain ⟨y, hy, rfl, k, Bg2, Bg4, Bg12, Bg16⟩ := hrel
                        have zy : (0 : Int) ≤ (y : Int) := by omega
                        rcases Nat.lt_or_ge y 5 with hlty | hgey
                        · have yy : (y : Int) < 5 := by omega
                          obtain ⟨v, hv, hv5⟩ : ∃ v, (2 * x + 3 * y) % 5 = v ∧ v < 5 := ⟨_, rfl, by omega⟩
                          have HT : Hid (∀ j, j < 25 → (j = y * 5 + v ↔ srcM j = x * 5 + y)) := Lib.hid (by rw [← hv]; exact srcM_eq x hltx y hlty)
                          have c0 := Bg12.cellU (i := x * 5 + y) (by omega)
                          have e4 : (2 * (x : Int) + 3 * (y : Int)).tmod 5 = (v : Int) := by have := rem5 (2 * x + 3 * y); rw [hv] at this; simpa using this
                          have e4' : (2 * (x : Int) + 3 * (y : Int)) % 5 = (v : Int) := by omega
                          have w3 : IntKind.i64.wrap (2 * (x : Int)) = 2 * (x : Int) := IntWalk.i64_in _ (by omega)
                          have w4 : IntKind.i64.wrap (3 * (y : Int)) = 3 * (y : Int) := IntWalk.i64_in _ (by omega)
                          have w5 : IntKind.i64.wrap (2 * (x : Int) + 3 * (y : Int)) = 2 * (x : Int) + 3 * (y : Int) := IntWalk.i64_in _ (by omega)
                          have zv : (0 : Int) ≤ (v : Int) := by omega
                          have yv : (v : Int) < 5 := by omega
                          have HV : Hid (b (srcM (y * 5 + v)) = b (x * 5 + y)) := Lib.hid (by rw [(HT.out (y * 5 + v) (by omega)).1 rfl])
                          clear hv
                          go_upto_region 35 with (fail)
                          refine wp_region_calm 14 (by kernel_rfl) (by kernel_rfl) ?_
                          simp only [List.take_succ_cons, List.take_zero, List.drop_succ_cons, List.drop_zero]
                          repeat (first
                            | (refine calm_skip rfl ?_; simp only [Act.put, List.setIfInBounds_toArray, List.set_cons_zero, List.set_cons_succ])
                            | (refine calm_ex rfl ?_; apply Exists.intro; refine And.intro (fun w' hk => ?_) ?_; (focus (have q0 := hk.cell c0; clear hk; go_simp; exact rfl)); simp only [Act.put, List.setIfInBounds_toArray, List.set_cons_zero, List.set_cons_succ]))
                          refine calm_nil ?_
                          intro W9 hkW9
                          clear c0
                          have k' := k.trans hkW9
                          have Bg2' := Bg2.kept hkW9
                          have Bg4' := Bg4.kept hkW9
                          have Bg12' := Bg12.kept hkW9
                          have Bg16' := Bg16.kept hkW9
                          clear hkW9 k Bg2 Bg4 Bg12 Bg16
                          have k := k'
                          have Bg2 := Bg2'
                          have Bg4 := Bg4'
                          have Bg12 := Bg12'
                          have Bg16 := Bg16'
                          clear k' Bg2' Bg4' Bg12' Bg16'
                          have c1 := Bg16.cellU (i := y * 5 + v) (by omega)
                          have f1 := Bg16.free
                          go_wp2_with fail
                          go_roundw
                          case rel => refine ⟨y + 1, by omega, by go_num, k.setCell (by exact nwg16) _, Bg2.set_other (by omega) _, Bg4.set_other (by omega) _, Bg12.set_other (by omega) _, Bg16.setU (by omega) (upto_stepT (new := fun j => b (srcM j)) HT.out HV.out)⟩
                          case measure => simp [intOf]; omega
                        · have yy : (5 : Int) ≤ (y : Int) := by omega
                          obtain rfl : y = 5 := by omega
                          go_wp2_with fail
                          go_roundw
                          have e5 : (x + 1) * 5 = x * 5 + 5 := by omega
                          case rel => refine ⟨x + 1, by omega, by go_num, ?_⟩; rw [e5]; exact ⟨k, Bg2, Bg4, Bg12, Bg16⟩
                          case measure => simp [intOf]; omega
                    · have yx : (5 : Int) ≤ (x : Int) := by omega
                      obtain rfl : x = 5 := by omega
                      clear hgex zx yx hx
                      have Bg16 := Bg16.congrU (s' := fun j => b (srcM j)) fun j hj => by rw [if_pos (srcM_lt j hj)]
                      clear Bg12
                      obtain ⟨M, hM⟩ : ∃ M, (fun j => b (srcM j)) = M := ⟨_, rfl⟩
                      have Bg16 := Bg16.congrU (s' := M) fun j hj => by rw [← hM]
                      have HF := HF.out
                      rw [hM] at HF
                      have HF := Lib.hid HF
                      clear hM
                      refine abs_world (fun W => Kept w W ∧ Blk W g2 60 (rowF 25 (fun p => .int .u64 (s p))) ∧ Blk W g4 60 (rowF 25 (fun p => .int .u64 (0))) ∧ Blk W g16 157 (rowF 25 (fun p => .int .u64 (M p)))) ⟨k, Bg2, Bg4, Bg16⟩ ?_
                      clear k Bg2 Bg4 Bg16
                      rintro W11 ⟨k, Bg2, Bg4, Bg16⟩
                      obtain ⟨g19, hg19⟩ : ∃ g, W11.heap.size = g := ⟨_, rfl⟩
                      have ng2g19 : g2 < g19 := hg19 ▸ Bg2.lt
                      have ng4g19 : g4 < g19 := hg19 ▸ Bg4.lt
                      have ng16g19 : g16 < g19 := hg19 ▸ Bg16.lt
                      have nwg19 : w.heap.size ≤ g19 := hg19 ▸ k.size
                      go_upto_region 37 with (fail)
                      refine abs_world (fun W => Kept w W ∧ Blk W g2 60 (rowF 25 (fun p => .int .u64 (s p))) ∧ Blk W g4 60 (rowF 25 (fun p => .int .u64 (0))) ∧ Blk W g16 157 (rowF 25 (fun p => .int .u64 (M p))) ∧ Blk W g19 60 (rowF 25 (fun p => .int .u64 (0)))) ⟨k.alloc _, Bg2.alloc _, Bg4.alloc _, Bg16.alloc _, by rw [← hg19]; exact Blk.new _ _ _⟩ ?_
                      clear k Bg2 Bg4 Bg16
                      rintro W12 ⟨k, Bg2, Bg4, Bg16, Bg19⟩
                      try simp only [hg19]
                      clear hg19
                      go_wp2_with fail
                      go_loopw [20] (fun t' wr => ∃ x : Nat, x ≤ 5 ∧ t' = .int .i64 x ∧ Kept w wr ∧ Blk wr g2 60 (rowF 25 (fun p => .int .u64 (s p))) ∧ Blk wr g4 60 (rowF 25 (fun p => .int .u64 (0))) ∧ Blk wr g16 157 (rowF 25 (fun p => .int .u64 (M p))) ∧ Blk wr g19 60 (rowF 25 (fun p => .int .u64 (if trP p < x * 5 then rbend M p else 0)))) (fun t' _ => 5 - (intOf t').toNat)
                      case atStart => exact ⟨0, Nat.zero_le _, rfl, k, Bg2, Bg4, Bg16, Bg19.congrU fun j hj => by rw [if_neg (Nat.not_lt_zero _)]⟩
                      case round =>
                        clear k Bg2 Bg4 Bg16 Bg19
                        obtain ⟨x, hx, rfl, k, Bg2, Bg4, Bg16, Bg19⟩ := hrel
                        have zx : (0 : Int) ≤ (x : Int) := by omega
                        rcases Nat.lt_or_ge x 5 with hltx | hgex
                        · have yx : (x : Int) < 5 := by omega
                          go_wp2_with fail
                          go_loopw [21] (fun t' wr => ∃ y : Nat, y ≤ 5 ∧ t' = .int .i64 y ∧ Kept w wr ∧ Blk wr g2 60 (rowF 25 (fun p => .int .u64 (s p))) ∧ Blk wr g4 60 (rowF 25 (fun p => .int .u64 (0))) ∧ Blk wr g16 157 (rowF 25 (fun p => .int .u64 (M p))) ∧ Blk wr g19 60 (rowF 25 (fun p => .int .u64 (if trP p < x * 5 + y then rbend M p else 0)))) (fun t' _ => 5 - (intOf t').toNat)
                          case atStart => exact ⟨0, Nat.zero_le _, rfl, k, Bg2, Bg4, Bg16, Bg19⟩
                          case round =>
                            clear k Bg2 Bg4 Bg16 Bg19
                            obtain ⟨y, hy, rfl, k, Bg2, Bg4, Bg16, Bg19⟩ := hrel
                            have zy : (0 : Int) ≤ (y : Int) := by omega
                            rcases Nat.lt_or_ge y 5 with hlty | hgey
                            · have yy : (y : Int) < 5 := by omega
                              obtain ⟨q, hq, hq25⟩ : ∃ q, x + 5 * y = q ∧ q < 25 := ⟨_, rfl, by omega⟩
                              obtain ⟨m, hm, hm5⟩ : ∃ m, (x + 1) % 5 = m ∧ m < 5 := ⟨_, rfl, by omega⟩
                              obtain ⟨u, hu, hu5⟩ : ∃ u, (x + 2) % 5 = u ∧ u < 5 := ⟨_, rfl, by omega⟩
                              have HT : Hid (∀ j, j < 25 → (j = q ↔ trP j = x * 5 + y)) := Lib.hid (by rw [← hq]; exact trP_eq x hltx y hlty)
                              have HV : Hid (rbend M q = bits .xor .u64 (M (x * 5 + y)) (bits .andNot .u64 (M (u * 5 + y)) (M (m * 5 + y)))) := Lib.hid (by unfold rbend; rw [show q % 5 = x by omega, show q / 5 = y by omega, hm, hu])
                              have c0 := Bg16.cellU (i := m * 5 + y) (by omega)
                              have c1 := Bg16.cellU (i := u * 5 + y) (by omega)
                              generalize M (m * 5 + y) = x1 at c0 HV
                              generalize M (u * 5 + y) = x2 at c1 HV
                              have w1 : IntKind.i64.wrap ((x : Int) + 1) = (x : Int) + 1 := IntWalk.i64_in _ (by omega)
                              have w2 : IntKind.i64.wrap ((x : Int) + 2) = (x : Int) + 2 := IntWalk.i64_in _ (by omega)
                              have e1 : ((x : Int) + 1).tmod 5 = (m : Int) := by have := rem5 (x + 1); rw [hm] at this; simpa using this
                              have e2 : ((x : Int) + 2).tmod 5 = (u : Int) := by have := rem5 (x + 2); rw [hu] at this; simpa using this
                              have e1' : ((x : Int) + 1) % 5 = (m : Int) := by omega
                              have e2' : ((x : Int) + 2) % 5 = (u : Int) := by omega
                              have e5 : (x : Int) + 5 * (y : Int) = (q : Int) := by omega
                              have w3 : IntKind.i64.wrap (5 * (y : Int)) = 5 * (y : Int) := IntWalk.i64_in _ (by omega)
                              have w4 : IntKind.i64.wrap (q : Int) = (q : Int) := IntWalk.i64_in _ (by omega)
                              have zm : (0 : Int) ≤ (m : Int) := by omega
                              have ym : (m : Int) < 5 := by omega
                              have zu : (0 : Int) ≤ (u : Int) := by omega
                              have yu : (u : Int) < 5 := by omega
                              have zq : (0 : Int) ≤ (q : Int) := by omega
                              have yq : (q : Int) < 25 := by omega
                              clear hm hu hq
                              go_upto_region 43 with (fail)
                              refine wp_region_calm 16 (by kernel_rfl) (by kernel_rfl) ?_
                              simp only [List.take_succ_cons, List.take_zero, List.drop_succ_cons, List.drop_zero]
                              repeat (first
                                | (refine calm_skip rfl ?_; simp only [Act.put, List.setIfInBounds_toArray, List.set_cons_zero, List.set_cons_succ])
                                | (refine calm_ex rfl ?_; apply Exists.intro; refine And.intro (fun w' hk => ?_) ?_; (focus (have q0 := hk.cell c0; have q1 := hk.cell c1; clear hk; go_simp; exact rfl)); simp only [Act.put, List.setIfInBounds_toArray, List.set_cons_zero, List.set_cons_succ]))
                              refine calm_nil ?_
                              intro W9 hkW9
                              clear c0 c1
                              have k' := k.trans hkW9
                              have Bg2' := Bg2.kept hkW9
                              have Bg4' := Bg4.kept hkW9
                              have Bg16' := Bg16.kept hkW9
                              have Bg19' := Bg19.kept hkW9
                              clear hkW9 k Bg2 Bg4 Bg16 Bg19
                              have k := k'
                              have Bg2 := Bg2'
                              have Bg4 := Bg4'
                              have Bg16 := Bg16'
                              have Bg19 := Bg19'
                              clear k' Bg2' Bg4' Bg16' Bg19'
                              have c0 := Bg16.cellU (i := x * 5 + y) (by omega)
                              have c1 := Bg19.cellU (i := q) hq25
                              have f1 := Bg19.free
                              generalize M (x * 5 + y) = x0 at c0 HV
                              go_wp2_with fail
                              go_roundw
                              case rel => refine ⟨y + 1, by omega, by go_num, k.setCell (by exact nwg19) _, Bg2.set_other (by omega) _, Bg4.set_other (by omega) _, Bg16.set_other (by omega) _, Bg19.setU hq25 (upto_stepT (new := rbend M) HT.out HV.out)⟩
                              case measure => simp [intOf]; omega
                            · have yy : (5 : Int) ≤ (y : Int) := by omega
                              obtain rfl : y = 5 := by omega
                              go_wp2_with fail
                              go_roundw
                              have e5 : (x + 1) * 5 = x * 5 + 5 := by omega
                              case rel => refine ⟨x + 1, by omega, by go_num, ?_⟩; rw [e5]; exact ⟨k, Bg2, Bg4, Bg16, Bg19⟩
                              case measure => simp [intOf]; omega
                        · have yx : (5 : Int) ≤ (x : Int) := by omega
                          obtain rfl : x = 5 := by omega
                          clear hgex zx yx hx
                          have Bg19 := Bg19.congrU (s' := rbend M) fun j hj => by rw [if_pos (trP_lt j hj)]
                          clear Bg16
                          generalize rbend M = o at *
                          have c0 := Bg19.cellU (i := 0) (by omega)
                          go_upto_region 45 with (fail)
                          refine wp_region_calm 5 (by kernel_rfl) (by kernel_rfl) ?_
                          simp only [List.take_succ_cons, List.take_zero, List.drop_succ_cons, List.drop_zero]
                          repeat (first
                            | (refine calm_skip rfl ?_; simp only [Act.put, List.setIfInBounds_toArray, List.set_cons_zero, List.set_cons_succ])
                            | (refine calm_ex rfl ?_; apply Exists.intro; refine And.intro (fun w' hk => ?_) ?_; (focus (have q0 := hk.cell c0; clear hk; go_simp; exact rfl)); simp only [Act.put, List.setIfInBounds_toArray, List.set_cons_zero, List.set_cons_succ])
                            | (refine calm_step _ rfl (HConst.out.call ?_) ?_; (focus (intro w'; go_simp; done)); simp only [Act.put, List.setIfInBounds_toArray, List.set_cons_zero, List.set_cons_succ]))
                          refine calm_nil ?_
                          intro W9 hkW9
                          clear c0
                          have k' := k.trans hkW9
                          have Bg2' := Bg2.kept hkW9
                          have Bg4' := Bg4.kept hkW9
                          have Bg19' := Bg19.kept hkW9
                          clear hkW9 k Bg2 Bg4 Bg19
                          have k := k'
                          have Bg2 := Bg2'
                          have Bg4 := Bg4'
                          have Bg19 := Bg19'
                          clear k' Bg2' Bg4' Bg19'
                          have c0 := Bg19.cellU (i := 0) (by omega)
                          have f1 := Bg19.free
                          go_upto_region 46 with (fail)
                          have Bg19' := Bg19.setU (s' := fun j => if j = 0 then bits .xor .u64 (o 0) (conN r) else o j) (i := 0) (x := bits .xor .u64 (o 0) (conN r)) (by omega) (fun j hj => rfl)
                          have Bg4' := Bg4.set_other (c := g19) (i := 0) (by omega) (.int .u64 (bits .xor .u64 (o 0) (conN r)))
                          have k' := k.setCell (p := ⟨g19, 0, none⟩) (by exact nwg19) (.int .u64 (bits .xor .u64 (o 0) (conN r)))
                          clear c0 f1 Bg19 Bg4 k Bg2
                          go_wp2_with (first | (refine wpList_load_part 60 (.tmp 19) Bg19' (Nat.le_refl _) Try.underlying60 size60 rfl rfl rfl ?_) | (refine wpList_store_part (h' := fun j => .int .u64 (if j = 0 then bits .xor .u64 (o 0) (conN r) else o j)) 60 (.tmp 4) (.tmp 195) Bg4' (Nat.le_refl _) size60 (fun _ => rfl) rfl rfl rfl rfl ?_))
                          refine ret_blk rfl (Bg4'.setRow _) Try.underlying60 (by rw [rowF_size]; exact size60) rfl rfl (And.intro ?_ (k'.setRow nwg4 _))
                          rw [rowF_congr (g := fun i => Value.int .u64 (rone r s i)) fun j hj => by rw [if_pos hj, HF.out]]
end Go.Proofs.Ytnajihlhcdedgaa

namespace Go.Proofs.Ytnajihlhcdedgaa
open Go.RowKit
set_option linter.unusedVariables false
set_option linter.unusedSimpArgs false

theorem wrap_bv (v : BitVec 64) : IntKind.u64.wrap (v.toNat : Int) = (v.toNat : Int) := by
  have := v.isLt
  simp only [IntKind.wrap, IntKind.bits, IntKind.signed]
  simp
  omega
theorem ofInt_bv (v : BitVec 64) : BitVec.ofInt 64 (v.toNat : Int) = v := by
  apply BitVec.eq_of_toNat_eq
  have := v.isLt
  simp
theorem xr_bv (x y : Int) : bits .xor .u64 x y = ((BitVec.ofInt 64 x ^^^ BitVec.ofInt 64 y).toNat : Int) := wrap_bv _
theorem and_bv (x y : Int) : bits .and .u64 x y = ((BitVec.ofInt 64 x &&& BitVec.ofInt 64 y).toNat : Int) := wrap_bv _
theorem andNot_bv (x y : Int) : bits .andNot .u64 x y = ((BitVec.ofInt 64 x &&& ~~~ BitVec.ofInt 64 y).toNat : Int) := wrap_bv _
theorem xr_assoc (x y z : Int) : bits .xor .u64 (bits .xor .u64 x y) z = bits .xor .u64 x (bits .xor .u64 y z) := by
  simp only [xr_bv, ofInt_bv, BitVec.xor_assoc]
theorem xr_zero {x : Int} (h : in64 x) : bits .xor .u64 0 x = x := by
  rw [xr_bv]
  simp
  unfold in64 at h
  omega
theorem and_not (x y : Int) : bits .and .u64 (bits .xor .u64 18446744073709551615 x) y = bits .andNot .u64 y x := by
  rw [and_bv, xr_bv, andNot_bv, ofInt_bv]
  congr 2
  have e : BitVec.ofInt 64 18446744073709551615 = BitVec.allOnes 64 := by decide
  rw [e, BitVec.allOnes_xor, BitVec.and_comm]

def tr (p : Nat) : Nat := p / 5 + 5 * (p % 5)
theorem tr_lt : ∀ p, p < 25 → tr p < 25 := by decide
theorem sum_same {s : Nat → Int} (hs : ∀ i, i < 25 → in64 (s i)) (x : Nat) (hx : x < 5) : sumTo s 25 x = csum (ra s) x := by
  have hz := xr_zero (hs x (by omega))
  rcases (by omega : x = 0 ∨ x = 1 ∨ x = 2 ∨ x = 3 ∨ x = 4) with rfl | rfl | rfl | rfl | rfl <;> simp [sumTo, csum, ra, hz]
theorem mix_same {s : Nat → Int} (hs : ∀ i, i < 25 → in64 (s i)) (p : Nat) (hp : p < 25) : rth (ra s) (csum (ra s)) p = kmix s (tr p) := by
  unfold rth kmix
  rw [xr_assoc, sum_same hs _ (Nat.mod_lt _ (by omega)), sum_same hs _ (Nat.mod_lt _ (by omega))]
  have e : (tr p + 4) % 5 = (p / 5 + 4) % 5 := by unfold tr; omega
  have e' : (tr p + 1) % 5 = (p / 5 + 1) % 5 := by unfold tr; omega
  rw [e, e']
  rfl
theorem turn_same {a : Nat → Int} (ha : ∀ p, in64 (a p)) (p : Nat) (hp : p < 25) : rtu a 24 p = rotL (a p) (turnN (tr p)) := by
  have h0 := rotL_zero (ha 0)
  rcases (by omega : p = 0 ∨ p = 1 ∨ p = 2 ∨ p = 3 ∨ p = 4 ∨ p = 5 ∨ p = 6 ∨ p = 7 ∨ p = 8 ∨ p = 9 ∨ p = 10 ∨ p = 11 ∨ p = 12 ∨ p = 13 ∨ p = 14 ∨ p = 15 ∨ p = 16 ∨ p = 17 ∨ p = 18 ∨ p = 19 ∨ p = 20 ∨ p = 21 ∨ p = 22 ∨ p = 23 ∨ p = 24) with rfl | rfl | rfl | rfl | rfl | rfl | rfl | rfl | rfl | rfl | rfl | rfl | rfl | rfl | rfl | rfl | rfl | rfl | rfl | rfl | rfl | rfl | rfl | rfl | rfl <;> simp [rtu, posXY, offT, turnN, turnL, tr, h0]
theorem source_tr : ∀ j, j < 25 → tr (srcM j) = source (tr j) := by decide
theorem tr_one : ∀ j, j < 25 → tr ((j % 5 + 1) % 5 * 5 + j / 5) = j / 5 * 5 + (j + 1) % 5 := by decide
theorem tr_two : ∀ j, j < 25 → tr ((j % 5 + 2) % 5 * 5 + j / 5) = j / 5 * 5 + (j + 2) % 5 := by decide
theorem rone_same {s : Nat → Int} (hs : ∀ i, i < 25 → in64 (s i)) (k : Nat) (j : Nat) (hj : j < 25) : rone k s j = kround k s j := by
  have hm : ∀ j, j < 25 → rtu (rth (ra s) (csum (ra s))) 24 (srcM j) = kmove (kmix s) (tr j) := by
    intro j hj
    rw [turn_same (rth_in _ _) _ (srcM_lt j hj), mix_same hs _ (srcM_lt j hj), source_tr j hj]
    rfl
  have hb : ∀ j, j < 25 → rbend (fun j => rtu (rth (ra s) (csum (ra s))) 24 (srcM j)) j = kbend (kmove (kmix s)) j := by
    intro j hj
    unfold rbend kbend
    simp only []
    rw [hm _ (by omega), hm _ (by omega), hm _ (by omega), and_not]
    have e0 : tr (j % 5 * 5 + j / 5) = j := by unfold tr; omega
    have e1 := tr_one j hj
    have e2 := tr_two j hj
    rw [e0, e1, e2]
  unfold rone kround
  simp only []
  rw [hb 0 (by omega), hb j hj]

set_option maxRecDepth 100000 in
set_option maxHeartbeats 4000000 in
/-- The reference's permutation -/
theorem r_permute {s : Nat → Int} (hs : ∀ i, i < 25 → in64 (s i)) : Pure Try.prog 62 #[.agg (rowF 25 (fun p => .int .u64 (s p)))] (.agg (rowF 25 (fun p => .int .u64 (kperm 12 s p)))) := fun w => by
  have hin : ∀ k, ∀ i, i < 25 → in64 (kperm k s i) := kperm_in hs
  have HS := Lib.hid hin
  clear hin hs
  go_enter Try.func62, Try.ntmps62
  obtain ⟨g1, hg1⟩ : ∃ g, w.heap.size = g := ⟨_, rfl⟩
  obtain ⟨g2, hg2⟩ : ∃ g, g1 + 1 = g := ⟨_, rfl⟩
  have n12 : g1 < g2 := by omega
  have nw1 : w.heap.size ≤ g1 := by omega
  have nw2 : w.heap.size ≤ g2 := by omega
  go_upto_region 1 with (fail)
  try simp only [hg1]
  try simp only [hg2]
  refine abs_world (fun W => Kept w W ∧ Blk W g1 60 (rowF 25 (fun p => .int .u64 (s p))) ∧ Blk W g2 60 (rowF 25 (fun p => .int .u64 0))) ⟨((Kept.refl w).alloc _).alloc _, ?_, ?_⟩ ?_
  · rw [← hg1]; exact (Blk.new _ _ _).alloc _
  · rw [← hg2, ← hg1]; exact heap_alloc2_new w _ _
  rintro W1 ⟨k, Bg1, Bg2⟩
  clear hg1 hg2
  go_wp2_with fail
  go_loopw [3] (fun t' wr => ∃ i : Nat, i ≤ 12 ∧ t' = .int .i64 ((12 + i : Nat) : Int) ∧ Kept w wr ∧ Blk wr g1 60 (rowF 25 (fun p => .int .u64 (kperm i s p))) ∧ Blk wr g2 60 (rowF 25 (fun p => .int .u64 0))) (fun t' _ => 24 - (intOf t').toNat)
  case atStart => exact ⟨0, Nat.zero_le _, rfl, k, Bg1, Bg2⟩
  case round =>
    clear k Bg1 Bg2
    obtain ⟨i, hi, rfl, k, Bg1, Bg2⟩ := hrel
    rcases Nat.lt_or_ge i 12 with hlt | hge
    · have HR : Hid (∀ p, p < 25 → rone i (kperm i s) p = kperm (i + 1) s p) := Lib.hid fun p hp => rone_same (HS.out i) i p hp
      obtain ⟨R, hR⟩ : ∃ R, 12 + i = R := ⟨_, rfl⟩
      have HOne := fun w => r_one w (kperm i s) i hlt (Lib.hid (HS.out i))
      rw [hR] at HOne ⊢
      have hR2 : (R : Int) < 24 := by omega
      have HOne := Lib.hid HOne
      generalize kperm i s = u at *
      go_wp2_with (refine wpList_load_part 60 (.tmp 1) Bg1 (Nat.le_refl _) Try.underlying60 size60 rfl rfl rfl ?_)
      refine (HOne.out _).mono ?_
      rintro e W2 ⟨rfl, hk⟩
      have k2 := k.trans hk
      have Bg1' := Bg1.kept hk
      have Bg2' := Bg2.kept hk
      clear k Bg1 Bg2 hk
      go_wp2_with (refine wpList_store_part (h' := fun p => .int .u64 (rone i u p)) 60 (.tmp 1) (.tmp 10) Bg1' (Nat.le_refl _) size60 (fun _ => rfl) rfl rfl rfl rfl ?_)
      go_roundw
      case rel =>
        refine ⟨i + 1, by omega, by rw [← hR]; go_num, k2.setRow nw1 _, ?_, Bg2'.setRow_other (by omega) _⟩
        rw [rowF_congr (f := fun p => Value.int .u64 (kperm (i + 1) s p)) (g := fun j => if j < 25 then Value.int .u64 (rone i u j) else Value.int .u64 (u j)) fun j hj => by rw [if_pos hj, HR.out j hj]]
        exact Bg1'.setRow _
      case measure => simp [intOf]; omega
    · obtain rfl : i = 12 := by omega
      go_wp2_with (first | (refine wpList_load_part 60 (.tmp 1) Bg1 (Nat.le_refl _) Try.underlying60 size60 rfl rfl rfl ?_) | (refine wpList_store_part (h' := fun p => .int .u64 (kperm 12 s p)) 60 (.tmp 2) (.tmp 11) Bg2 (Nat.le_refl _) size60 (fun _ => rfl) rfl rfl rfl rfl ?_))
      refine ret_blk rfl (Bg2.setRow _) Try.underlying60 (by rw [rowF_size]; exact size60) rfl rfl (And.intro ?_ (k.setRow nw2 _))
      rw [rowF_congr (g := fun p => Value.int .u64 (kperm 12 s p)) fun j hj => by rw [if_pos hj]]
end Go.Proofs.Ytnajihlhcdedgaa

namespace Go.Proofs.Ytnajihlhcdedgaa
open Go.RowKit
set_option linter.unusedVariables false
set_option linter.unusedSimpArgs false

/-- What stands behind the lanes of a sponge. -/
def spF (a d : Int) (g : Bool) (i : Nat) : Value := if i = 25 then .int .i64 a else if i = 26 then .int .u8 d else if i = 27 then .bool g else undef
/-- A sponge. -/
abbrev Sp (w : World) (b : Nat) (s : Nat → Int) (a d : Int) (g : Bool) : Prop := Blk w b 139 (rowF 28 (lanes s (spF a d g)))
theorem Blk.sat {w : World} {b : Nat} {s : Nat → Int} {a d : Int} {g : Bool} (h : Sp w b s a d g) : w.cell? ⟨b, 25, none⟩ = some (.int .i64 a) := h.at (i := 25) (by omega)
theorem Blk.sdom {w : World} {b : Nat} {s : Nat → Int} {a d : Int} {g : Bool} (h : Sp w b s a d g) : w.cell? ⟨b, 26, none⟩ = some (.int .u8 d) := h.at (i := 26) (by omega)
theorem Blk.sgive {w : World} {b : Nat} {s : Nat → Int} {a d : Int} {g : Bool} (h : Sp w b s a d g) : w.cell? ⟨b, 27, none⟩ = some (.bool g) := h.at (i := 27) (by omega)
theorem Blk.setAt {w : World} {b : Nat} {s : Nat → Int} {a d : Int} {g : Bool} (h : Sp w b s a d g) (a' : Int) : Sp (w.setCell ⟨b, 25, none⟩ (.int .i64 a')) b s a' d g :=
  h.set (by omega) fun j hj => by
    by_cases h25 : j < 25
    · rw [if_neg (by omega)]; simp [lanes, h25]
    · by_cases hj : j = 25
      · subst hj; rfl
      · rw [if_neg hj]; simp [lanes, h25, spF, hj]
theorem Blk.setGive {w : World} {b : Nat} {s : Nat → Int} {a d : Int} {g : Bool} (h : Sp w b s a d g) (g' : Bool) : Sp (w.setCell ⟨b, 27, none⟩ (.bool g')) b s a d g' :=
  h.set (by omega) fun j hj => by
    by_cases h25 : j < 25
    · rw [if_neg (by omega)]; simp [lanes, h25]
    · by_cases hj : j = 27
      · subst hj; rfl
      · rw [if_neg hj]; simp [lanes, h25, spF, hj]

/-- A byte added at a place. -/
def kflip (s : Nat → Int) (a : Nat) (c : Int) (i : Nat) : Int := if i = a / 8 then bits .xor .u64 (s (a / 8)) (c * 2 ^ (8 * (a % 8))) else s i
theorem kflip_in {s : Nat → Int} (h : ∀ i, i < 25 → in64 (s i)) (a : Nat) (c : Int) : ∀ i, i < 25 → in64 (kflip s a c i) := by
  intro i hi
  unfold kflip
  split
  · exact bits_in _ _ _
  · exact h i hi

set_option maxRecDepth 100000 in
set_option maxHeartbeats 4000000 in
theorem k_New (w : World) (d : Int) (h1 : 1 ≤ d) (h2 : d ≤ 127) : Calls Try.prog 66 #[.int .u8 d] w fun e w' => ∃ b, e = .returned (.pointer (some ⟨b, 0, none⟩)) ∧ w.heap.size ≤ b ∧ Sp w' b (fun _ => 0) 0 d false ∧ Kept w w' := by
  go_enter Try.func66, Try.ntmps66
  go_wp2_with fail
  go_ret
  exact ⟨_, rfl, Nat.le_refl _, Blk.new _ _ _, (Kept.refl w).alloc _⟩
set_option maxRecDepth 100000 in
set_option maxHeartbeats 4000000 in
theorem k_New_none (d : Int) (h : d < 1 ∨ 127 < d) : Pure Try.prog 66 #[.int .u8 d] (.pointer none) := fun w => by
  go_enter Try.func66, Try.ntmps66
  rcases h with h | h
  · go_wp2_with fail
    go_ret
    exact ⟨rfl, Kept.refl w⟩
  · go_wp2_with fail
    all_goals (go_ret; exact ⟨rfl, Kept.refl w⟩)

theorem wrap_byte {c : Int} (h0 : 0 ≤ c) (h1 : c ≤ 255) {m : Nat} (hm : m ≤ 56) : IntKind.u64.wrap (c * 2 ^ m) = c * 2 ^ m := by
  have hp : (2 : Int) ^ m ≤ 2 ^ 56 := by
    have h1 : 2 ^ m ≤ 2 ^ 56 := Nat.pow_le_pow_right (by decide) hm
    have h2 : ((2 ^ m : Nat) : Int) = 2 ^ m := by simp
    rw [← h2]; omega
  have hp0 : (0 : Int) < 2 ^ m := Int.pow_pos (by omega)
  have h3 : c * 2 ^ m ≤ 255 * 2 ^ 56 := Int.mul_le_mul h1 hp (by omega) (by omega)
  have h4 : 0 ≤ c * 2 ^ m := Int.mul_nonneg h0 (by omega)
  generalize c * 2 ^ m = x at *
  simp only [IntKind.wrap, IntKind.bits, IntKind.signed]
  simp
  omega

set_option maxRecDepth 100000 in
set_option maxHeartbeats 4000000 in
theorem k_flip (w : World) (b : Nat) (s : Nat → Int) (a' d : Int) (g : Bool) (a : Nat) (ha : a < 200) (c : Int) (c0 : 0 ≤ c) (c1 : c ≤ 255) (hB : Sp w b s a' d g) :
    Calls Try.prog 127 #[.pointer (some ⟨b, 0, none⟩), .int .i64 (a : Int), .int .u8 c] w fun e w' => e = .returned (.tuple #[]) ∧ Touch b w w' ∧ Sp w' b (kflip s a c) a' d g := by
  obtain ⟨q, hq, hq25⟩ : ∃ q, a / 8 = q ∧ q < 25 := ⟨_, rfl, by omega⟩
  obtain ⟨r, hr, hr8⟩ : ∃ r, a % 8 = r ∧ r < 8 := ⟨_, rfl, by omega⟩
  obtain ⟨m, hm, hm56⟩ : ∃ m, 8 * r = m ∧ m ≤ 56 := ⟨_, rfl, by omega⟩
  have e1 : (a : Int).tdiv 8 = (q : Int) := by rw [Int.tdiv_eq_ediv_of_nonneg (by omega)]; omega
  have e1' : (a : Int) / 8 = (q : Int) := by omega
  have e2 : (a : Int).tmod 8 = (r : Int) := by rw [Int.tmod_eq_emod_of_nonneg (by omega)]; omega
  have e2' : (a : Int) % 8 = (r : Int) := by omega
  have e3 : 8 * (r : Int) = (m : Int) := by omega
  have w1 : IntKind.i64.wrap (q : Int) = (q : Int) := IntWalk.i64_in _ (by omega)
  have w2 : IntKind.i64.wrap (m : Int) = (m : Int) := IntWalk.i64_in _ (by omega)
  have w3 : IntKind.u64.wrap c = c := by simp [IntKind.wrap, IntKind.bits, IntKind.signed]; omega
  have w4 := wrap_byte c0 c1 hm56
  have z1 : (0 : Int) ≤ (q : Int) := by omega
  have z2 : (q : Int) < 25 := by omega
  have z3 : (0 : Int) ≤ (m : Int) := by omega
  have z4 : (m : Int) ≤ 64 := by omega
  have cl := hB.lane (by omega) hq25
  have HV : Hid (∀ j, j < 25 → kflip s a c j = if j = q then bits .xor .u64 (s q) (c * 2 ^ m) else s j) := Lib.hid fun j _ => by unfold kflip; rw [hq, hr, hm]
  generalize s q = x0 at cl HV
  clear hq hr hm ha
  go_enter Try.func127, Try.ntmps127
  go_upto_region 0 with (fail)
  refine wp_region_calm 17 (by kernel_rfl) (by kernel_rfl) ?_
  simp only [List.take_succ_cons, List.take_zero, List.drop_succ_cons, List.drop_zero]
  repeat (first
    | (refine calm_skip rfl ?_; simp only [Act.put, List.setIfInBounds_toArray, List.set_cons_zero, List.set_cons_succ])
    | (refine calm_ex rfl ?_; apply Exists.intro; refine And.intro (fun w' hk => ?_) ?_; (focus (have q0 := hk.cell cl; clear hk; go_simp; exact rfl)); simp only [Act.put, List.setIfInBounds_toArray, List.set_cons_zero, List.set_cons_succ]))
  refine calm_nil ?_
  intro W1 hkW1
  have B1 := hB.kept hkW1
  have c9 := hkW1.cell cl
  have f1 := B1.free
  have k1 : Touch b w W1 := .of_kept hkW1
  clear hkW1 cl hB
  go_wp2_with fail
  refine bodyPost_end (v := .tuple #[]) (by simp [results, Try.results127, go_sem]) rfl ⟨rfl, k1.trans (Touch.set _ _ _ _), B1.setLane (by omega) hq25 HV.out⟩
end Go.Proofs.Ytnajihlhcdedgaa

namespace Go.Proofs.Ytnajihlhcdedgaa
open Go.RowKit
set_option linter.unusedVariables false
set_option linter.unusedSimpArgs false

/-- A slice whose cells lie in blocks below N reads as the bytes C 0, .. -/
structure SlB (w : World) (a : Option Addr) (n cap N : Nat) (C : Nat → Int) : Prop where
  at' : ∀ j, j < n → ∃ p : Addr, (∀ w', (Instr.indexAt 42 (.slice a n cap) (.int .i64 (j : Int))).run Try.prog w' = .ok (.pointer (some p)) w') ∧ w.cell? p = some (.int .u8 (C j)) ∧ p.block < N
  byte : ∀ j, j < n → 0 ≤ C j ∧ C j ≤ 255
theorem Touch.cell {b : Nat} {w w' : World} (k : Touch b w w') {p : Addr} {v : Value} (h : w.cell? p = some v) (hb : p.block ≠ b) : w'.cell? p = some v := by
  have hlt := block_lt_of_cell h
  unfold World.cell? at h ⊢
  rw [k.block p.block hlt hb]
  exact h
theorem SlB.touch {w w' : World} {a : Option Addr} {n cap N b : Nat} {C : Nat → Int} (h : SlB w a n cap N C) (hb : N ≤ b) (k : Touch b w w') : SlB w' a n cap N C :=
  ⟨fun j hj => let ⟨p, h1, h2, h3⟩ := h.at' j hj; ⟨p, h1, k.cell h2 (by omega), h3⟩, h.byte⟩
theorem SlB.kept {w w' : World} {a : Option Addr} {n cap N : Nat} {C : Nat → Int} (h : SlB w a n cap N C) (k : Kept w w') : SlB w' a n cap N C :=
  ⟨fun j hj => let ⟨p, h1, h2, h3⟩ := h.at' j hj; ⟨p, h1, k.cell h2, h3⟩, h.byte⟩

/-- A full block is permuted before more comes. -/
def norm (s : Nat → Int) (a : Nat) : Nat → Int := if a = 168 then kperm 12 s else s
def normA (a : Nat) : Nat := if a = 168 then 0 else a
/-- The lanes, and the place, when i bytes are in. -/
def takes (C : Nat → Int) (s : Nat → Int) (a : Nat) : Nat → (Nat → Int) × Nat
  | 0 => (s, a)
  | i + 1 => (kflip (norm (takes C s a i).1 (takes C s a i).2) (normA (takes C s a i).2) (C i), normA (takes C s a i).2 + 1)
theorem takes_le (C : Nat → Int) (s : Nat → Int) {a : Nat} (ha : a ≤ 168) : ∀ i, (takes C s a i).2 ≤ 168
  | 0 => ha
  | i + 1 => by
    have := takes_le C s ha i
    simp only [takes, normA]
    split <;> omega

set_option maxRecDepth 100000 in
set_option maxHeartbeats 4000000 in
/-- Of nobody, or of one who gives. -/
theorem k_Write_nil (a : Option Addr) (n cap : Nat) : Pure Try.prog 65 #[.pointer none, .slice a n cap] (.tuple #[]) := fun w => by
  go_enter Try.func65, Try.ntmps65
  go_wp2_with fail
  refine bodyPost_ret (v := .tuple #[]) (by simp [results, Try.results65, go_sem]) rfl ⟨rfl, Kept.refl w⟩

set_option maxRecDepth 100000 in
set_option maxHeartbeats 4000000 in
theorem k_Write (w : World) (b : Nat) (s : Nat → Int) (a d : Int) (p : Nat) (hp : p ≤ 168) (sl : Option Addr) (n cap N : Nat) (C : Nat → Int) (hn : (n : Int) ≤ 9223372036854775807) (hS : SlB w sl n cap N C) (hN : N ≤ b) (hB : Sp w b s p d false) :
    Calls Try.prog 65 #[.pointer (some ⟨b, 0, none⟩), .slice sl n cap] w fun e w' => e = .returned (.tuple #[]) ∧ Touch b w w' ∧ Sp w' b (takes C s p n).1 (takes C s p n).2 d false := by
  have c0 := hB.sgive
  go_enter Try.func65, Try.ntmps65
  go_wp2_with fail
  clear c0
  go_loopw [16] (fun t' wr => ∃ i : Nat, i ≤ n ∧ t' = .int .i64 i ∧ Touch b w wr ∧ Sp wr b (takes C s p i).1 (takes C s p i).2 d false) (fun t' _ => n - (intOf t').toNat)
  case atStart => exact ⟨0, Nat.zero_le _, rfl, Touch.refl _ _, hB⟩
  case round =>
    obtain ⟨i, hi, rfl, k, B⟩ := hrel
    have zi : (0 : Int) ≤ (i : Int) := by omega
    rcases Nat.lt_or_ge i n with hlt | hge
    · have yi : (i : Int) < (n : Int) := by omega
      obtain ⟨q, hix, hq, hqN⟩ := (hS.touch hN k).at' i hlt
      obtain ⟨c0, c1⟩ := hS.byte i hlt
      have hple := takes_le C s hp i
      have HV : Hid (takes C s p (i + 1) = (kflip (norm (takes C s p i).1 (takes C s p i).2) (normA (takes C s p i).2) (C i), normA (takes C s p i).2 + 1)) := Lib.hid rfl
      generalize (takes C s p i).1 = u at *
      generalize (takes C s p i).2 = m at *
      generalize C i = c at *
      have ca := B.sat
      have fa := B.free
      by_cases hm : m = 168
      · subst hm
        go_wp2_with fail
        refine (k_permute _ b 28 139 u _ (by omega) B).mono ?_
        rintro e W1 ⟨rfl, k1, B1⟩
        have k2 := k.trans k1
        clear k k1 ca fa B
        have ca := B1.sat
        have fa := B1.free
        go_wp2_with fail
        refine (k_flip _ b _ 0 d false 0 (by omega) c c0 c1 (B1.setAt 0)).mono ?_
        rintro e W2 ⟨rfl, k3, B2⟩
        have k4 := (k2.trans (Touch.set _ _ _ _)).trans k3
        clear k2 k3 ca fa B1
        have ca := B2.sat
        have fa := B2.free
        go_wp2_with fail
        go_roundw
        case rel => exact ⟨i + 1, by omega, by go_num, k4.trans (Touch.set _ _ _ _), by rw [HV.out]; exact B2.setAt 1⟩
        case measure => simp [intOf]; omega
      · have hm2 : (m : Int) ≠ 168 := by omega
        have hm3 : ((m : Int) == 168) = false := by simp [hm2]
        have HN : Hid (norm u m = u ∧ normA m = m) := Lib.hid ⟨if_neg hm, if_neg hm⟩
        have w1 : IntKind.i64.wrap ((m : Int) + 1) = (m : Int) + 1 := IntWalk.i64_in _ (by omega)
        go_wp2_with fail
        refine (k_flip _ b _ _ d false m (by omega) c c0 c1 B).mono ?_
        rintro e W2 ⟨rfl, k3, B2⟩
        have k4 := k.trans k3
        clear k k3 ca fa B
        have ca := B2.sat
        have fa := B2.free
        go_wp2_with fail
        go_roundw
        case rel => exact ⟨i + 1, by omega, by go_num, k4.trans (Touch.set _ _ _ _), by rw [HV.out, HN.out.1, HN.out.2]; exact B2.setAt _⟩
        case measure => simp [intOf]; omega
    · have yi : (n : Int) ≤ (i : Int) := by omega
      obtain rfl : i = n := by omega
      go_wp2_with fail
      refine bodyPost_end (v := .tuple #[]) (by simp [results, Try.results65, go_sem]) rfl ⟨rfl, k, B⟩
end Go.Proofs.Ytnajihlhcdedgaa

namespace Go.Proofs.Ytnajihlhcdedgaa
open Go.ChangeShapes Go.WideShapes Go.ChangeAt Go.RowKit
set_option linter.unusedVariables false

theorem run_index_at {t e : TypeId} {ad : Addr} {n cap j : Nat} (ht : Try.prog.underlying t = some (.slice e)) (he : (Try.prog.info? e).map (fun i => i.size) = some 1) (hj : j < n) (w : World) :
    (Instr.indexAt t (.slice (some ad) n cap) (.int .i64 (j : Int))).run Try.prog w = .ok (.pointer (some (ad.add j))) w := by
  cases hq : Try.prog.info? e with
  | none => simp [hq] at he
  | some i =>
    have hs : i.size = 1 := by simpa [hq] using he
    have h1 : (0 : Int) ≤ (j : Int) := by omega
    have h2 : (j : Int) < (n : Int) := by omega
    simp [Instr.indexAt, run_underlying ht, asIntOf, sizeOf, typeInfo, hq, hs, hj]
theorem size5 : (Try.prog.info? 5).map (fun i => i.size) = some 1 := by kernel_rfl
theorem add_zero_at (g j : Nat) : (⟨g, 0, none⟩ : Addr).add j = ⟨g, j, none⟩ := by rw [Addr.add_lit]; simp
theorem SlB.of_blk {w : World} {g n cap : Nat} {C : Nat → Int} (B : Blk w g 5 (rowF n (fun j => .int .u8 (C j)))) (hb : ∀ j, j < n → 0 ≤ C j ∧ C j ≤ 255) : SlB w (some ⟨g, 0, none⟩) n cap (g + 1) C :=
  ⟨fun j hj => ⟨_, fun w' => run_index_at Try.underlying42 size5 hj w', by rw [add_zero_at]; exact B.at hj, by rw [add_zero_at]; exact Nat.lt_succ_self g⟩, hb⟩
theorem SlB.mono {w : World} {a : Option Addr} {n cap N M : Nat} {C : Nat → Int} (h : SlB w a n cap N C) (hM : N ≤ M) : SlB w a n cap M C :=
  ⟨fun j hj => let ⟨p, h1, h2, h3⟩ := h.at' j hj; ⟨p, h1, h2, Nat.lt_of_lt_of_le h3 hM⟩, h.byte⟩
/-- What a slice of bytes of the call's own reads as. -/
theorem SlB.of_own {w : World} {base n : Nat} {a : Option Addr} {cap : Nat} {C : Nat → Int} (h : w.ownsRow base 5 1 (.slice a n cap) n ((List.range n).map fun j => Value.int .u8 (C j))) (hb : ∀ j, j < n → 0 ≤ C j ∧ C j ≤ 255) : SlB w a n cap w.heap.size C := by
  refine ⟨fun j hj => ?_, hb⟩
  rcases h.2 with ⟨h1, rfl⟩ | ⟨g, cap', cur, h1, h2⟩
  · omega
  · injection h1 with h1 h3 h4
    subst h1
    have hc := h.cells (g := g) rfl j (Value.int .u8 (C j)) (by simp [hj])
    exact ⟨_, fun w' => run_index_at Try.underlying42 size5 hj w', hc, block_lt_of_cell hc⟩
/-- Bytes as values. -/
def bytesR (n : Nat) (C : Nat → Int) : List Value := (List.range n).map fun j => Value.int .u8 (C j)
/-- The bytes as a string. -/
def strR (n : Nat) (C : Nat → Int) : ByteArray := strOf ((List.range n).map C)
theorem conv_nil (w : World) : (convert 42 9 (.slice none 0 0)).run Try.prog w = .ok (.string (strOf [])) w := by kernel_rfl
theorem conv_R {w : World} {v : Value} {n : Nat} {C : Nat → Int} (h : Reads w v (bytesR n C)) (hb : ∀ j, j < n → 0 ≤ C j ∧ C j ≤ 255) : (convert 42 9 v).run Try.prog w = .ok (.string (strR n C)) w := by
  rcases h with ⟨rfl, h⟩ | ⟨b, o, cap, h1, h2, h3⟩
  · have h0 : n = 0 := by
      have := congrArg List.length h
      simpa [bytesR] using this
    subst h0
    exact conv_nil w
  · have hl : (bytesR n C).length = ((List.range n).map C).length := by simp [bytesR]
    rw [h1, hl]
    refine conv_str Try.underlying42 Try.underlying5 Try.underlying9 w ?_ ?_
    · intro x hx
      obtain ⟨j, hj, rfl⟩ := List.mem_map.1 hx
      exact hb j (List.mem_range.1 hj)
    · intro j hj
      have hj' : j < n := by simpa using hj
      refine h3 j _ ?_
      rw [List.getD_eq_getElem?_getD]
      simp [bytesR, hj']
theorem makes_zero (z : Value) (hz : z.cells = #[z]) (n : Nat) : madeCells z.cells (n * 1) = rowF n (fun _ => z) := by
  rw [hz, Nat.mul_one]
  apply Array.ext'
  rw [toList_madeCells_one]
  unfold rowF
  apply List.ext_getElem?
  intro i
  rcases Nat.lt_or_ge i n with h | h
  · simp [h]
  · simp [h]
/-- A slice of noughts. -/
theorem makefull42 (c : Nat) (h63 : (c : Int) ≤ 281474976710656) (w : World) : (Instr.makeSlice 42 (.int .i64 (c : Int)) (.int .i64 (c : Int))).run Try.prog w = .ok (.slice (some ⟨w.heap.size, 0, none⟩) c c) (w.alloc (.cells (rowF c (fun _ => .int .u8 0)) 5)) := by
  obtain ⟨i, hi, hz0, hz1, hz2⟩ := info_parts info5
  have hr := run_make (P := Try.prog) w 42 5 i _ Try.underlying42 hi hz0 .i64 .i64 c c (by omega) (by omega) (by rw [hz2]; omega) (by omega)
  simp only [Int.toNat_natCast] at hr
  rw [hr, hz1, makes_zero _ rfl]
/-- What a mark stands for: a slice that reads so. -/
def readMean (L : List Value) : Mean := ⟨fun v w' => Reads w' v L, fun v w w' h hk => h.kept hk, fun b w h => by rcases h with ⟨h, _⟩ | ⟨_, _, _, h, _⟩ <;> cases h⟩
theorem bytesR_length (n : Nat) (C : Nat → Int) : (bytesR n C).length = n := by simp [bytesR]

section
variable {H : Type} {enc : TypeId × Value → H} {W : World} {base : Nat} {spare : Nat → Bool} {held : Bool} {v : Value} {d : DataW H} {p : List MemPlace}
set_option maxRecDepth 100000 in
theorem open_bytes {r : Reach} {b : Nat} (hv : Value.okWide Try.prog W r b 42 v) (h : DataW.Trod enc Try.prog W base spare held 42 v d p) : ∃ a n cap C, v = .slice a n cap ∧ ((n : Int) ≤ 9223372036854775807 ∧ SlB W a n cap W.heap.size C) := by
  obtain ⟨a0, n0, c0, rfl⟩ : ∃ a n cap, v = .slice a n cap := okWide_slice Try.underlying42 hv
  obtain ⟨fuel, hf⟩ := h
  rcases open_ints Try.underlying42 Try.underlying5 (by kernel_rfl) hf with ⟨h1, _⟩ | ⟨a, len, cap, zs, h1, _, hlc, hcm, hzl, _, hcell, hwf⟩
  · simp only [Value.cells, List.cons.injEq, and_true, Value.slice.injEq] at h1
    obtain ⟨rfl, rfl, rfl⟩ := h1
    exact ⟨none, 0, 0, fun _ => 0, rfl, by omega, fun j hj => absurd hj (Nat.not_lt_zero _), fun j hj => absurd hj (Nat.not_lt_zero _)⟩
  · simp only [Value.cells, List.cons.injEq, and_true, Value.slice.injEq] at h1
    obtain ⟨rfl, rfl, rfl⟩ := h1
    have hl : n0 ≤ zs.length := by rw [hzl]; split <;> omega
    refine ⟨some a, n0, c0, fun j => zs.getD j 0, rfl, by unfold maxLen at hcm; omega, fun j hj => ?_, fun j hj => ?_⟩
    · have hc := hcell j (by omega)
      exact ⟨_, fun w' => run_index_at Try.underlying42 size5 hj w', hc, block_lt_of_cell hc⟩
    · have hj' : j < zs.length := by omega
      have := hwf zs[j] (List.getElem_mem hj')
      show 0 ≤ zs.getD j 0 ∧ zs.getD j 0 ≤ 255
      rw [List.getD_eq_getElem?_getD, List.getElem?_eq_getElem hj']
      simp [Lit.wf, IntKind.min, IntKind.max, IntKind.signed, IntKind.bits] at this
      simp only [Option.getD_some]
      omega
end
end Go.Proofs.Ytnajihlhcdedgaa
