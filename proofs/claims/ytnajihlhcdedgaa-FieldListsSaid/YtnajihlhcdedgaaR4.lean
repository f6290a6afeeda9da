/-
  The walks of the reference: Neg, Sub told whole; bit: one of an element's.
-/
import Derived.Test.YtnajihlhcdedgaaR3
namespace Go.Proofs.Ytnajihlhcdedgaa
open Go.RowKit
set_option linter.unusedVariables false
set_option linter.unusedSimpArgs false
attribute [local simp] blkAt_setCell blkAt_alloc blkAt_drew Obj.put_cells

theorem rOf_of_lt {f x : Int} (h0 : 0 ≤ x) (h1 : x < rP f) : rOf f x = x := by
  unfold rOf rP gP wP at *
  split <;> rename_i h <;> simp only [h, if_true, if_false] at h1 <;> omega
theorem rOf_emod (f x : Int) : rOf f (x % rP f) = x % rP f := rOf_of_lt (Int.emod_nonneg _ (by have := rP_pos f; omega)) (Int.emod_lt_of_pos _ (rP_pos f))

theorem ref_Neg {f a : Int} (hf : isF f) (ha : is128 a) : Pure Try.prog 37 #[.int .i64 f, E a] (E ((-rOf f a) % rP f)) := by
  have hA := ref_Of hf ha
  have hx := is128_rOf f a
  have x0 := rOf_lo f a
  have x1 := rOf_lt f a
  have p1 := rP_lt f
  generalize rOf f a = X at *
  by_cases h : X = 0
  · subst h
    have e : E ((-0) % rP f) = .agg #[.int .u64 0, .int .u64 0] := by
      rw [show (-0 : Int) % rP f = 0 by simp]; rfl
    rw [e]
    exact ref_Neg_nought f _ _ hA
  · have hT := ref_take (is128_rP f) hx
    rw [show (rP f - X) % 340282366920938463463374607431768211456 = rP f - X by omega] at hT
    have e : (-X) % rP f = rP f - X := by
      rw [← Int.add_emod_right, Int.emod_eq_of_lt (by omega) (by omega)]; omega
    rw [e]
    exact ref_Neg_take f _ _ _ _ _ _ _ hA (decide_eq_false (by unfold is128 at hx; omega)) (ref_P hf) hT

theorem ref_Sub {f a b : Int} (hf : isF f) (ha : is128 a) (hb : is128 b) : Pure Try.prog 36 #[.int .i64 f, E a, E b] (E ((rOf f a - rOf f b) % rP f)) := by
  have hN := ref_Neg hf hb
  have hA := ref_Add hf ha (is128_emod f (-rOf f b))
  rw [rOf_emod, Int.add_emod_emod, ← Int.sub_eq_add_neg] at hA
  exact ref_Sub_raw f _ _ _ _ _ _ _ _ hN hA

theorem pow_pos2 (k : Nat) : (0 : Int) < 2 ^ k := by
  have := Nat.two_pow_pos k
  have e : ((2 ^ k : Nat) : Int) = 2 ^ k := by simp
  omega
theorem div_pow_succ (c : Int) (k : Nat) : c / 2 ^ (k + 1) = c / 2 ^ k / 2 := by
  rw [Int.ediv_ediv_of_nonneg (by have := pow_pos2 k; omega), Int.pow_succ]

set_option maxRecDepth 100000 in
set_option maxHeartbeats 1000000 in
theorem ref_bit_raw0 (a0 a1 : Int) (m : Nat) (i : Int) (w : World) (hc0 : 0 ≤ a0) (hc1 : a0 ≤ 18446744073709551615) (hi0 : 0 ≤ i) (hi1 : i ≤ 127) (hj : i / 64 = 0) (hm : i % 64 = (m : Int)) (hm1 : m ≤ 63) (b : Bool) (hb : Hid (b = (a0 / 2 ^ m % 2 == 1))) :
    Calls Try.prog 116 #[.agg #[.int .u64 a0, .int .u64 a1], .int .i64 i] w fun e w' => e = .returned (.bool b) ∧ Kept w w' := by
  go_enter Try.func116, Try.ntmps116
  go_wp2_with fail
  refine abs_world (fun W => Kept w W ∧ Blk W (w.heap.size) 28 #[.int .u64 a0, .int .u64 a1]) ?_ ?_
  · refine ⟨?_, ?_⟩
    · repeat (first | exact Kept.refl _ | (refine Kept.setCell ?_ (kept_side (by first | assumption | omega)) _) | apply Kept.alloc)
    · simp [Blk, *] <;> (intros; omega)
  rintro W1 ⟨kW1, BW1_0⟩
  have cW1_0_0 : W1.cell? ⟨w.heap.size, 0, none⟩ = some (.int .u64 a0) := BW1_0.cell 0 rfl
  have cW1_0_1 : W1.cell? ⟨w.heap.size, 1, none⟩ = some (.int .u64 a1) := BW1_0.cell 1 rfl
  have fW1_0 := BW1_0.free
  go_wp2
  go_loop [5, 6] (fun v t => ∃ k : Nat, k ≤ m ∧ t = .int .i64 k ∧ ∃ x : Int, 0 ≤ x ∧ x ≤ 18446744073709551615 ∧ v = .int .u64 x ∧ Hid (x = a0 / 2 ^ k)) (fun _ t => m - (intOf t).toNat)
  case atStart => exact ⟨0, Nat.zero_le _, rfl, _, hc0, hc1, rfl, by show a0 = a0 / 2 ^ 0; simp⟩
  case round =>
    obtain ⟨k, hk, rfl, x, hx0, hx1, rfl, hx⟩ := hrel
    by_cases hlt : k < m
    · go_wp2
      go_round
      case rel => exact ⟨k + 1, by omega, by go_num, _, by omega, by omega, rfl, by rw [hx.out]; show _ = _; rw [div_pow_succ]⟩
      case measure => simp [intOf]; omega
    · have hkm : Hid (k = m) := by show k = m; omega
      go_wp2
      go_ret
      exact ⟨by rw [hb.out, ← hkm.out, ← hx.out]; rfl, kW1⟩

set_option maxRecDepth 100000 in
set_option maxHeartbeats 1000000 in
theorem ref_bit_raw1 (a0 a1 : Int) (m : Nat) (i : Int) (w : World) (hc0 : 0 ≤ a1) (hc1 : a1 ≤ 18446744073709551615) (hi0 : 0 ≤ i) (hi1 : i ≤ 127) (hj : i / 64 = 1) (hm : i % 64 = (m : Int)) (hm1 : m ≤ 63) (b : Bool) (hb : Hid (b = (a1 / 2 ^ m % 2 == 1))) :
    Calls Try.prog 116 #[.agg #[.int .u64 a0, .int .u64 a1], .int .i64 i] w fun e w' => e = .returned (.bool b) ∧ Kept w w' := by
  go_enter Try.func116, Try.ntmps116
  go_wp2_with fail
  refine abs_world (fun W => Kept w W ∧ Blk W (w.heap.size) 28 #[.int .u64 a0, .int .u64 a1]) ?_ ?_
  · refine ⟨?_, ?_⟩
    · repeat (first | exact Kept.refl _ | (refine Kept.setCell ?_ (kept_side (by first | assumption | omega)) _) | apply Kept.alloc)
    · simp [Blk, *] <;> (intros; omega)
  rintro W1 ⟨kW1, BW1_0⟩
  have cW1_0_0 : W1.cell? ⟨w.heap.size, 0, none⟩ = some (.int .u64 a0) := BW1_0.cell 0 rfl
  have cW1_0_1 : W1.cell? ⟨w.heap.size, 1, none⟩ = some (.int .u64 a1) := BW1_0.cell 1 rfl
  have fW1_0 := BW1_0.free
  go_wp2
  go_loop [5, 6] (fun v t => ∃ k : Nat, k ≤ m ∧ t = .int .i64 k ∧ ∃ x : Int, 0 ≤ x ∧ x ≤ 18446744073709551615 ∧ v = .int .u64 x ∧ Hid (x = a1 / 2 ^ k)) (fun _ t => m - (intOf t).toNat)
  case atStart => exact ⟨0, Nat.zero_le _, rfl, _, hc0, hc1, rfl, by show a1 = a1 / 2 ^ 0; simp⟩
  case round =>
    obtain ⟨k, hk, rfl, x, hx0, hx1, rfl, hx⟩ := hrel
    by_cases hlt : k < m
    · go_wp2
      go_round
      case rel => exact ⟨k + 1, by omega, by go_num, _, by omega, by omega, rfl, by rw [hx.out]; show _ = _; rw [div_pow_succ]⟩
      case measure => simp [intOf]; omega
    · have hkm : Hid (k = m) := by show k = m; omega
      go_wp2
      go_ret
      exact ⟨by rw [hb.out, ← hkm.out, ← hx.out]; rfl, kW1⟩

theorem testBit_int (N i : Nat) : (((N : Int) / 2 ^ i % 2 == 1) : Bool) = N.testBit i := by
  rw [Nat.testBit_eq_decide_div_mod_eq]
  have e : (N : Int) / 2 ^ i % 2 = ((N / 2 ^ i % 2 : Nat) : Int) := by simp
  rw [e]
  by_cases h : N / 2 ^ i % 2 = 1
  · simp [h]
  · simp only [h, decide_false, beq_eq_false_iff_ne]; omega

theorem ref_bit {n : Int} (hn : is128 n) (i : Nat) (hi : i < 128) : Pure Try.prog 116 #[E n, .int .i64 (i : Int)] (.bool (n / 2 ^ i % 2 == 1)) := fun w => by
  unfold is128 at hn
  obtain ⟨N, rfl⟩ := Int.eq_ofNat_of_zero_le hn.1
  rw [testBit_int]
  by_cases h : i < 64
  · refine ref_bit_raw0 _ _ i i w (by omega) (by omega) (by omega) (by omega) (by omega) (by omega) (by omega) _ ?_
    show _ = _
    rw [show ((N : Int) % 18446744073709551616) = ((N % 2 ^ 64 : Nat) : Int) by omega, testBit_int, Nat.testBit_mod_two_pow]
    simp [h]
  · refine ref_bit_raw1 _ _ (i - 64) i w (by omega) (by omega) (by omega) (by omega) (by omega) (by omega) (by omega) _ ?_
    show _ = _
    rw [show ((N : Int) / 18446744073709551616) = ((N / 2 ^ 64 : Nat) : Int) by omega, testBit_int, Nat.testBit_div_two_pow]
    congr 1; omega

end Go.Proofs.Ytnajihlhcdedgaa
