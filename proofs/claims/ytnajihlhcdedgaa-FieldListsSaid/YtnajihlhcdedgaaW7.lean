/-
  The walks of wide: Pow.
-/
import Derived.Test.YtnajihlhcdedgaaW6
import Derived.Test.YtnajihlhcdedgaaG3
namespace Go.Proofs.Ytnajihlhcdedgaa
open Go.RowKit
set_option linter.unusedVariables false
set_option linter.unusedSimpArgs false
attribute [local simp] blkAt_setCell blkAt_alloc blkAt_drew Obj.put_cells

set_option maxRecDepth 100000 in
set_option maxHeartbeats 4000000 in
theorem w_Pow_raw (a0 a1 n0 n1 : Int) (s0 s1 o0 o1 : Nat → Int) (bt : Nat → Bool) (hn00 : 0 ≤ n0) (hn01 : n0 ≤ 18446744073709551615) (hn10 : 0 ≤ n1) (hn11 : n1 ≤ 18446744073709551615)
    (hOf : Pure Try.prog 48 #[.agg #[.int .u64 a0, .int .u64 a1]] (.agg #[.int .u64 (s0 0), .int .u64 (s1 0)])) (h0 : o0 0 = 1) (h1 : o1 0 = 0)
    (hS : Hid (∀ k, k < 128 → Pure Try.prog 53 #[.agg #[.int .u64 (s0 k), .int .u64 (s1 k)], .agg #[.int .u64 (s0 k), .int .u64 (s1 k)]] (.agg #[.int .u64 (s0 (k + 1)), .int .u64 (s1 (k + 1))])))
    (hM : Hid (∀ k, k < 128 → bt k = true → Pure Try.prog 53 #[.agg #[.int .u64 (o0 k), .int .u64 (o1 k)], .agg #[.int .u64 (s0 k), .int .u64 (s1 k)]] (.agg #[.int .u64 (o0 (k + 1)), .int .u64 (o1 (k + 1))])))
    (hN : Hid (∀ k, k < 128 → bt k = false → o0 (k + 1) = o0 k ∧ o1 (k + 1) = o1 k))
    (hB0 : Hid (∀ m, m ≤ 63 → bits .and .u64 (n0 / 2 ^ m) 1 = if bt m then 1 else 0))
    (hB1 : Hid (∀ m, m ≤ 63 → bits .and .u64 (n1 / 2 ^ m) 1 = if bt (m + 64) then 1 else 0)) :
    Pure Try.prog 54 #[.agg #[.int .u64 a0, .int .u64 a1], .agg #[.int .u64 n0, .int .u64 n1]] (.agg #[.int .u64 (o0 128), .int .u64 (o1 128)]) := fun w => by
  have HOf := Lib.hid hOf
  clear hOf
  have ne0_2 : w.heap.size ≠ w.heap.size + 1 + 1 := by omega
  have ne2_0 : w.heap.size + 1 + 1 ≠ w.heap.size := by omega
  have ne0_3 : w.heap.size ≠ w.heap.size + 1 + 1 + 1 := by omega
  have ne3_0 : w.heap.size + 1 + 1 + 1 ≠ w.heap.size := by omega
  have ne1_3 : w.heap.size + 1 ≠ w.heap.size + 1 + 1 + 1 := by omega
  have ne3_1 : w.heap.size + 1 + 1 + 1 ≠ w.heap.size + 1 := by omega
  go_enter Try.func54, Try.ntmps54
  go_wp2_with fail
  refine abs_calls (fun W => Kept w W ∧ Blk W (w.heap.size) 28 #[.int .u64 a0, .int .u64 a1] ∧ Blk W (w.heap.size + 1) 28 #[.int .u64 n0, .int .u64 n1] ∧ Blk W (w.heap.size + 1 + 1) 28 #[.int .u64 0, .int .u64 0] ∧ Blk W (w.heap.size + 1 + 1 + 1) 28 #[.int .u64 1, .int .u64 0]) ?_ ?_
  · refine ⟨?_, ?_, ?_, ?_, ?_⟩
    · repeat (first | exact Kept.refl _ | (refine Kept.setCell ?_ (kept_side (by first | assumption | omega)) _) | apply Kept.alloc | apply Kept.drew)
    · simp [Blk, *] <;> (intros; omega)
    · simp [Blk, *] <;> (intros; omega)
    · simp [Blk, *] <;> (intros; omega)
    · simp [Blk, *] <;> (intros; omega)
  rintro W1 ⟨kW1, BW1_0, BW1_1, BW1_2, BW1_3⟩
  have cW1_0_0 : W1.cell? ⟨w.heap.size, 0, none⟩ = some (.int .u64 a0) := BW1_0.cell 0 rfl
  have cW1_0_1 : W1.cell? ⟨w.heap.size, 1, none⟩ = some (.int .u64 a1) := BW1_0.cell 1 rfl
  have fW1_0 := BW1_0.free
  have cW1_1_0 : W1.cell? ⟨w.heap.size + 1, 0, none⟩ = some (.int .u64 n0) := BW1_1.cell 0 rfl
  have cW1_1_1 : W1.cell? ⟨w.heap.size + 1, 1, none⟩ = some (.int .u64 n1) := BW1_1.cell 1 rfl
  have fW1_1 := BW1_1.free
  have cW1_2_0 : W1.cell? ⟨w.heap.size + 1 + 1, 0, none⟩ = some (.int .u64 0) := BW1_2.cell 0 rfl
  have cW1_2_1 : W1.cell? ⟨w.heap.size + 1 + 1, 1, none⟩ = some (.int .u64 0) := BW1_2.cell 1 rfl
  have fW1_2 := BW1_2.free
  have cW1_3_0 : W1.cell? ⟨w.heap.size + 1 + 1 + 1, 0, none⟩ = some (.int .u64 1) := BW1_3.cell 0 rfl
  have cW1_3_1 : W1.cell? ⟨w.heap.size + 1 + 1 + 1, 1, none⟩ = some (.int .u64 0) := BW1_3.cell 1 rfl
  have fW1_3 := BW1_3.free
  refine (HOf.out _).mono ?_
  rintro e W2 ⟨rfl, hkW2⟩
  have kW2 := kW1.trans hkW2
  have BW2_0 := BW1_0.kept hkW2
  have BW2_1 := BW1_1.kept hkW2
  have BW2_2 := BW1_2.kept hkW2
  have BW2_3 := BW1_3.kept hkW2
  clear cW1_0_0 cW1_0_1 cW1_1_0 cW1_1_1 cW1_2_0 cW1_2_1 cW1_3_0 cW1_3_1 fW1_0 fW1_1 fW1_2 fW1_3 BW1_0 BW1_1 BW1_2 BW1_3 kW1 hkW2
  have cW2_0_0 : W2.cell? ⟨w.heap.size, 0, none⟩ = some (.int .u64 a0) := BW2_0.cell 0 rfl
  have cW2_0_1 : W2.cell? ⟨w.heap.size, 1, none⟩ = some (.int .u64 a1) := BW2_0.cell 1 rfl
  have fW2_0 := BW2_0.free
  have cW2_1_0 : W2.cell? ⟨w.heap.size + 1, 0, none⟩ = some (.int .u64 n0) := BW2_1.cell 0 rfl
  have cW2_1_1 : W2.cell? ⟨w.heap.size + 1, 1, none⟩ = some (.int .u64 n1) := BW2_1.cell 1 rfl
  have fW2_1 := BW2_1.free
  have cW2_2_0 : W2.cell? ⟨w.heap.size + 1 + 1, 0, none⟩ = some (.int .u64 0) := BW2_2.cell 0 rfl
  have cW2_2_1 : W2.cell? ⟨w.heap.size + 1 + 1, 1, none⟩ = some (.int .u64 0) := BW2_2.cell 1 rfl
  have fW2_2 := BW2_2.free
  have cW2_3_0 : W2.cell? ⟨w.heap.size + 1 + 1 + 1, 0, none⟩ = some (.int .u64 1) := BW2_3.cell 0 rfl
  have cW2_3_1 : W2.cell? ⟨w.heap.size + 1 + 1 + 1, 1, none⟩ = some (.int .u64 0) := BW2_3.cell 1 rfl
  have fW2_3 := BW2_3.free
  go_wp2_with fail
  refine abs_world (fun W => Kept w W ∧ Blk W (w.heap.size) 28 #[.int .u64 (s0 0), .int .u64 (s1 0)] ∧ Blk W (w.heap.size + 1) 28 #[.int .u64 n0, .int .u64 n1] ∧ Blk W (w.heap.size + 1 + 1) 28 #[.int .u64 0, .int .u64 0] ∧ Blk W (w.heap.size + 1 + 1 + 1) 28 #[.int .u64 (o0 0), .int .u64 (o1 0)]) ?_ ?_
  · refine ⟨?_, ?_, ?_, ?_, ?_⟩
    · repeat (first | exact kW2 | (refine Kept.setCell ?_ (kept_side (by first | assumption | omega)) _) | apply Kept.alloc | apply Kept.drew)
    · simp [Blk, *] <;> (intros; omega)
    · simp [Blk, *] <;> (intros; omega)
    · simp [Blk, *] <;> (intros; omega)
    · simp [Blk, *] <;> (intros; omega)
  rintro W3 ⟨kW3, BW3_0, BW3_1, BW3_2, BW3_3⟩
  have cW3_0_0 : W3.cell? ⟨w.heap.size, 0, none⟩ = some (.int .u64 (s0 0)) := BW3_0.cell 0 rfl
  have cW3_0_1 : W3.cell? ⟨w.heap.size, 1, none⟩ = some (.int .u64 (s1 0)) := BW3_0.cell 1 rfl
  have fW3_0 := BW3_0.free
  have cW3_1_0 : W3.cell? ⟨w.heap.size + 1, 0, none⟩ = some (.int .u64 n0) := BW3_1.cell 0 rfl
  have cW3_1_1 : W3.cell? ⟨w.heap.size + 1, 1, none⟩ = some (.int .u64 n1) := BW3_1.cell 1 rfl
  have fW3_1 := BW3_1.free
  have cW3_2_0 : W3.cell? ⟨w.heap.size + 1 + 1, 0, none⟩ = some (.int .u64 0) := BW3_2.cell 0 rfl
  have cW3_2_1 : W3.cell? ⟨w.heap.size + 1 + 1, 1, none⟩ = some (.int .u64 0) := BW3_2.cell 1 rfl
  have fW3_2 := BW3_2.free
  have cW3_3_0 : W3.cell? ⟨w.heap.size + 1 + 1 + 1, 0, none⟩ = some (.int .u64 (o0 0)) := BW3_3.cell 0 rfl
  have cW3_3_1 : W3.cell? ⟨w.heap.size + 1 + 1 + 1, 1, none⟩ = some (.int .u64 (o1 0)) := BW3_3.cell 1 rfl
  have fW3_3 := BW3_3.free
  go_loopw [10] (fun t wr => ∃ k : Nat, k ≤ 128 ∧ t = .int .i64 (k : Int) ∧ Kept w wr ∧ Blk wr (w.heap.size) 28 #[.int .u64 (s0 k), .int .u64 (s1 k)] ∧ Blk wr (w.heap.size + 1) 28 #[.int .u64 n0, .int .u64 n1] ∧ Blk wr (w.heap.size + 1 + 1) 28 #[.int .u64 0, .int .u64 0] ∧ Blk wr (w.heap.size + 1 + 1 + 1) 28 #[.int .u64 (o0 k), .int .u64 (o1 k)]) (fun t _ => (128 - intOf t).toNat)
  case atStart => exact ⟨0, by omega, rfl, kW3, BW3_0, BW3_1, BW3_2, BW3_3⟩
  case round =>
    clear cW3_0_0 cW3_0_1 cW3_1_0 cW3_1_1 cW3_2_0 cW3_2_1 cW3_3_0 cW3_3_1 fW3_0 fW3_1 fW3_2 fW3_3 BW3_0 BW3_1 BW3_2 BW3_3 kW3
    obtain ⟨k, hk, rfl, kwr, Bwr_0, Bwr_1, Bwr_2, Bwr_3⟩ := hrel
    have cwr_0_0 : wr.cell? ⟨w.heap.size, 0, none⟩ = some (.int .u64 (s0 k)) := Bwr_0.cell 0 rfl
    have cwr_0_1 : wr.cell? ⟨w.heap.size, 1, none⟩ = some (.int .u64 (s1 k)) := Bwr_0.cell 1 rfl
    have fwr_0 := Bwr_0.free
    have cwr_1_0 : wr.cell? ⟨w.heap.size + 1, 0, none⟩ = some (.int .u64 n0) := Bwr_1.cell 0 rfl
    have cwr_1_1 : wr.cell? ⟨w.heap.size + 1, 1, none⟩ = some (.int .u64 n1) := Bwr_1.cell 1 rfl
    have fwr_1 := Bwr_1.free
    have cwr_2_0 : wr.cell? ⟨w.heap.size + 1 + 1, 0, none⟩ = some (.int .u64 0) := Bwr_2.cell 0 rfl
    have cwr_2_1 : wr.cell? ⟨w.heap.size + 1 + 1, 1, none⟩ = some (.int .u64 0) := Bwr_2.cell 1 rfl
    have fwr_2 := Bwr_2.free
    have cwr_3_0 : wr.cell? ⟨w.heap.size + 1 + 1 + 1, 0, none⟩ = some (.int .u64 (o0 k)) := Bwr_3.cell 0 rfl
    have cwr_3_1 : wr.cell? ⟨w.heap.size + 1 + 1 + 1, 1, none⟩ = some (.int .u64 (o1 k)) := Bwr_3.cell 1 rfl
    have fwr_3 := Bwr_3.free
    by_cases hlt : (k : Int) < 128
    · by_cases h64 : k < 64
      · obtain ⟨m, hmk⟩ : ∃ m : Nat, Hid (m = k) := ⟨k, rfl⟩
        have hm1 : m ≤ 63 := by have := hmk.out; omega
        have hj : (k : Int) / 64 = 0 := by omega
        have hr : (k : Int) % 64 = (m : Int) := by have := hmk.out; omega
        cases hbt : bt k with
        | true =>
          have HS := Lib.hid (hS.out k (by omega))
          have HM := Lib.hid (hM.out k (by omega) hbt)
          have hb : bits .and .u64 (n0 / 2 ^ m) 1 = 1 := by have := hB0.out m hm1; rw [show bt m = true by rw [hmk.out]; exact hbt] at this; exact this
          go_wp2_with fail
          refine (HM.out _).mono ?_
          rintro e W4 ⟨rfl, hkW4⟩
          have kW4 := kwr.trans hkW4
          have BW4_0 := Bwr_0.kept hkW4
          have BW4_1 := Bwr_1.kept hkW4
          have BW4_2 := Bwr_2.kept hkW4
          have BW4_3 := Bwr_3.kept hkW4
          clear cwr_0_0 cwr_0_1 cwr_1_0 cwr_1_1 cwr_2_0 cwr_2_1 cwr_3_0 cwr_3_1 fwr_0 fwr_1 fwr_2 fwr_3 Bwr_0 Bwr_1 Bwr_2 Bwr_3 kwr hkW4
          have cW4_0_0 : W4.cell? ⟨w.heap.size, 0, none⟩ = some (.int .u64 (s0 k)) := BW4_0.cell 0 rfl
          have cW4_0_1 : W4.cell? ⟨w.heap.size, 1, none⟩ = some (.int .u64 (s1 k)) := BW4_0.cell 1 rfl
          have fW4_0 := BW4_0.free
          have cW4_1_0 : W4.cell? ⟨w.heap.size + 1, 0, none⟩ = some (.int .u64 n0) := BW4_1.cell 0 rfl
          have cW4_1_1 : W4.cell? ⟨w.heap.size + 1, 1, none⟩ = some (.int .u64 n1) := BW4_1.cell 1 rfl
          have fW4_1 := BW4_1.free
          have cW4_2_0 : W4.cell? ⟨w.heap.size + 1 + 1, 0, none⟩ = some (.int .u64 0) := BW4_2.cell 0 rfl
          have cW4_2_1 : W4.cell? ⟨w.heap.size + 1 + 1, 1, none⟩ = some (.int .u64 0) := BW4_2.cell 1 rfl
          have fW4_2 := BW4_2.free
          have cW4_3_0 : W4.cell? ⟨w.heap.size + 1 + 1 + 1, 0, none⟩ = some (.int .u64 (o0 k)) := BW4_3.cell 0 rfl
          have cW4_3_1 : W4.cell? ⟨w.heap.size + 1 + 1 + 1, 1, none⟩ = some (.int .u64 (o1 k)) := BW4_3.cell 1 rfl
          have fW4_3 := BW4_3.free
          go_wp2_with fail
          refine abs_calls (fun W => Kept w W ∧ Blk W (w.heap.size) 28 #[.int .u64 (s0 k), .int .u64 (s1 k)] ∧ Blk W (w.heap.size + 1) 28 #[.int .u64 n0, .int .u64 n1] ∧ Blk W (w.heap.size + 1 + 1) 28 #[.int .u64 0, .int .u64 0] ∧ Blk W (w.heap.size + 1 + 1 + 1) 28 #[.int .u64 (o0 (k + 1)), .int .u64 (o1 (k + 1))]) ?_ ?_
          · refine ⟨?_, ?_, ?_, ?_, ?_⟩
            · repeat (first | exact kW4 | (refine Kept.setCell ?_ (kept_side (by first | assumption | omega)) _) | apply Kept.alloc | apply Kept.drew)
            · simp [Blk, *] <;> (intros; omega)
            · simp [Blk, *] <;> (intros; omega)
            · simp [Blk, *] <;> (intros; omega)
            · simp [Blk, *] <;> (intros; omega)
          rintro W5 ⟨kW5, BW5_0, BW5_1, BW5_2, BW5_3⟩
          have cW5_0_0 : W5.cell? ⟨w.heap.size, 0, none⟩ = some (.int .u64 (s0 k)) := BW5_0.cell 0 rfl
          have cW5_0_1 : W5.cell? ⟨w.heap.size, 1, none⟩ = some (.int .u64 (s1 k)) := BW5_0.cell 1 rfl
          have fW5_0 := BW5_0.free
          have cW5_1_0 : W5.cell? ⟨w.heap.size + 1, 0, none⟩ = some (.int .u64 n0) := BW5_1.cell 0 rfl
          have cW5_1_1 : W5.cell? ⟨w.heap.size + 1, 1, none⟩ = some (.int .u64 n1) := BW5_1.cell 1 rfl
          have fW5_1 := BW5_1.free
          have cW5_2_0 : W5.cell? ⟨w.heap.size + 1 + 1, 0, none⟩ = some (.int .u64 0) := BW5_2.cell 0 rfl
          have cW5_2_1 : W5.cell? ⟨w.heap.size + 1 + 1, 1, none⟩ = some (.int .u64 0) := BW5_2.cell 1 rfl
          have fW5_2 := BW5_2.free
          have cW5_3_0 : W5.cell? ⟨w.heap.size + 1 + 1 + 1, 0, none⟩ = some (.int .u64 (o0 (k + 1))) := BW5_3.cell 0 rfl
          have cW5_3_1 : W5.cell? ⟨w.heap.size + 1 + 1 + 1, 1, none⟩ = some (.int .u64 (o1 (k + 1))) := BW5_3.cell 1 rfl
          have fW5_3 := BW5_3.free
          refine (HS.out _).mono ?_
          rintro e W6 ⟨rfl, hkW6⟩
          have kW6 := kW5.trans hkW6
          have BW6_0 := BW5_0.kept hkW6
          have BW6_1 := BW5_1.kept hkW6
          have BW6_2 := BW5_2.kept hkW6
          have BW6_3 := BW5_3.kept hkW6
          clear cW5_0_0 cW5_0_1 cW5_1_0 cW5_1_1 cW5_2_0 cW5_2_1 cW5_3_0 cW5_3_1 fW5_0 fW5_1 fW5_2 fW5_3 BW5_0 BW5_1 BW5_2 BW5_3 kW5 hkW6
          have cW6_0_0 : W6.cell? ⟨w.heap.size, 0, none⟩ = some (.int .u64 (s0 k)) := BW6_0.cell 0 rfl
          have cW6_0_1 : W6.cell? ⟨w.heap.size, 1, none⟩ = some (.int .u64 (s1 k)) := BW6_0.cell 1 rfl
          have fW6_0 := BW6_0.free
          have cW6_1_0 : W6.cell? ⟨w.heap.size + 1, 0, none⟩ = some (.int .u64 n0) := BW6_1.cell 0 rfl
          have cW6_1_1 : W6.cell? ⟨w.heap.size + 1, 1, none⟩ = some (.int .u64 n1) := BW6_1.cell 1 rfl
          have fW6_1 := BW6_1.free
          have cW6_2_0 : W6.cell? ⟨w.heap.size + 1 + 1, 0, none⟩ = some (.int .u64 0) := BW6_2.cell 0 rfl
          have cW6_2_1 : W6.cell? ⟨w.heap.size + 1 + 1, 1, none⟩ = some (.int .u64 0) := BW6_2.cell 1 rfl
          have fW6_2 := BW6_2.free
          have cW6_3_0 : W6.cell? ⟨w.heap.size + 1 + 1 + 1, 0, none⟩ = some (.int .u64 (o0 (k + 1))) := BW6_3.cell 0 rfl
          have cW6_3_1 : W6.cell? ⟨w.heap.size + 1 + 1 + 1, 1, none⟩ = some (.int .u64 (o1 (k + 1))) := BW6_3.cell 1 rfl
          have fW6_3 := BW6_3.free
          go_wp2_with fail
          go_roundw
          case rel =>
            refine ⟨k + 1, by omega, by go_num, ?_, ?_, ?_, ?_, ?_⟩
            · repeat (first | exact kW6 | (refine Kept.setCell ?_ (kept_side (by first | assumption | omega)) _) | apply Kept.alloc | apply Kept.drew)
            · simp [Blk, *] <;> (intros; omega)
            · simp [Blk, *] <;> (intros; omega)
            · simp [Blk, *] <;> (intros; omega)
            · simp [Blk, *] <;> (intros; omega)
          case measure => (simp [intOf]) <;> omega
        | false =>
          have HS := Lib.hid (hS.out k (by omega))
          have HN := Lib.hid (hN.out k (by omega) hbt)
          have hb : bits .and .u64 (n0 / 2 ^ m) 1 = 0 := by have := hB0.out m hm1; rw [show bt m = false by rw [hmk.out]; exact hbt] at this; exact this
          go_wp2_with fail
          refine (HS.out _).mono ?_
          rintro e W4 ⟨rfl, hkW4⟩
          have kW4 := kwr.trans hkW4
          have BW4_0 := Bwr_0.kept hkW4
          have BW4_1 := Bwr_1.kept hkW4
          have BW4_2 := Bwr_2.kept hkW4
          have BW4_3 := Bwr_3.kept hkW4
          clear cwr_0_0 cwr_0_1 cwr_1_0 cwr_1_1 cwr_2_0 cwr_2_1 cwr_3_0 cwr_3_1 fwr_0 fwr_1 fwr_2 fwr_3 Bwr_0 Bwr_1 Bwr_2 Bwr_3 kwr hkW4
          have cW4_0_0 : W4.cell? ⟨w.heap.size, 0, none⟩ = some (.int .u64 (s0 k)) := BW4_0.cell 0 rfl
          have cW4_0_1 : W4.cell? ⟨w.heap.size, 1, none⟩ = some (.int .u64 (s1 k)) := BW4_0.cell 1 rfl
          have fW4_0 := BW4_0.free
          have cW4_1_0 : W4.cell? ⟨w.heap.size + 1, 0, none⟩ = some (.int .u64 n0) := BW4_1.cell 0 rfl
          have cW4_1_1 : W4.cell? ⟨w.heap.size + 1, 1, none⟩ = some (.int .u64 n1) := BW4_1.cell 1 rfl
          have fW4_1 := BW4_1.free
          have cW4_2_0 : W4.cell? ⟨w.heap.size + 1 + 1, 0, none⟩ = some (.int .u64 0) := BW4_2.cell 0 rfl
          have cW4_2_1 : W4.cell? ⟨w.heap.size + 1 + 1, 1, none⟩ = some (.int .u64 0) := BW4_2.cell 1 rfl
          have fW4_2 := BW4_2.free
          have cW4_3_0 : W4.cell? ⟨w.heap.size + 1 + 1 + 1, 0, none⟩ = some (.int .u64 (o0 k)) := BW4_3.cell 0 rfl
          have cW4_3_1 : W4.cell? ⟨w.heap.size + 1 + 1 + 1, 1, none⟩ = some (.int .u64 (o1 k)) := BW4_3.cell 1 rfl
          have fW4_3 := BW4_3.free
          go_wp2_with fail
          go_roundw
          case rel =>
            refine ⟨k + 1, by omega, by go_num, ?_, ?_, ?_, ?_, ?_⟩
            · repeat (first | exact kW4 | (refine Kept.setCell ?_ (kept_side (by first | assumption | omega)) _) | apply Kept.alloc | apply Kept.drew)
            · simp [Blk, *] <;> (intros; omega)
            · simp [Blk, *] <;> (intros; omega)
            · simp [Blk, *] <;> (intros; omega)
            · rw [HN.out.1, HN.out.2]; simp [Blk, *] <;> (intros; omega)
          case measure => (simp [intOf]) <;> omega
      · obtain ⟨m, hmk⟩ : ∃ m : Nat, Hid (m + 64 = k) := ⟨k - 64, by show _ = _; omega⟩
        have hm1 : m ≤ 63 := by have := hmk.out; omega
        have hj : (k : Int) / 64 = 1 := by omega
        have hr : (k : Int) % 64 = (m : Int) := by have := hmk.out; omega
        cases hbt : bt k with
        | true =>
          have HS := Lib.hid (hS.out k (by omega))
          have HM := Lib.hid (hM.out k (by omega) hbt)
          have hb : bits .and .u64 (n1 / 2 ^ m) 1 = 1 := by have := hB1.out m hm1; rw [show bt (m + 64) = true by rw [hmk.out]; exact hbt] at this; exact this
          go_wp2_with fail
          refine (HM.out _).mono ?_
          rintro e W4 ⟨rfl, hkW4⟩
          have kW4 := kwr.trans hkW4
          have BW4_0 := Bwr_0.kept hkW4
          have BW4_1 := Bwr_1.kept hkW4
          have BW4_2 := Bwr_2.kept hkW4
          have BW4_3 := Bwr_3.kept hkW4
          clear cwr_0_0 cwr_0_1 cwr_1_0 cwr_1_1 cwr_2_0 cwr_2_1 cwr_3_0 cwr_3_1 fwr_0 fwr_1 fwr_2 fwr_3 Bwr_0 Bwr_1 Bwr_2 Bwr_3 kwr hkW4
          have cW4_0_0 : W4.cell? ⟨w.heap.size, 0, none⟩ = some (.int .u64 (s0 k)) := BW4_0.cell 0 rfl
          have cW4_0_1 : W4.cell? ⟨w.heap.size, 1, none⟩ = some (.int .u64 (s1 k)) := BW4_0.cell 1 rfl
          have fW4_0 := BW4_0.free
          have cW4_1_0 : W4.cell? ⟨w.heap.size + 1, 0, none⟩ = some (.int .u64 n0) := BW4_1.cell 0 rfl
          have cW4_1_1 : W4.cell? ⟨w.heap.size + 1, 1, none⟩ = some (.int .u64 n1) := BW4_1.cell 1 rfl
          have fW4_1 := BW4_1.free
          have cW4_2_0 : W4.cell? ⟨w.heap.size + 1 + 1, 0, none⟩ = some (.int .u64 0) := BW4_2.cell 0 rfl
          have cW4_2_1 : W4.cell? ⟨w.heap.size + 1 + 1, 1, none⟩ = some (.int .u64 0) := BW4_2.cell 1 rfl
          have fW4_2 := BW4_2.free
          have cW4_3_0 : W4.cell? ⟨w.heap.size + 1 + 1 + 1, 0, none⟩ = some (.int .u64 (o0 k)) := BW4_3.cell 0 rfl
          have cW4_3_1 : W4.cell? ⟨w.heap.size + 1 + 1 + 1, 1, none⟩ = some (.int .u64 (o1 k)) := BW4_3.cell 1 rfl
          have fW4_3 := BW4_3.free
          go_wp2_with fail
          refine abs_calls (fun W => Kept w W ∧ Blk W (w.heap.size) 28 #[.int .u64 (s0 k), .int .u64 (s1 k)] ∧ Blk W (w.heap.size + 1) 28 #[.int .u64 n0, .int .u64 n1] ∧ Blk W (w.heap.size + 1 + 1) 28 #[.int .u64 0, .int .u64 0] ∧ Blk W (w.heap.size + 1 + 1 + 1) 28 #[.int .u64 (o0 (k + 1)), .int .u64 (o1 (k + 1))]) ?_ ?_
          · refine ⟨?_, ?_, ?_, ?_, ?_⟩
            · repeat (first | exact kW4 | (refine Kept.setCell ?_ (kept_side (by first | assumption | omega)) _) | apply Kept.alloc | apply Kept.drew)
            · simp [Blk, *] <;> (intros; omega)
            · simp [Blk, *] <;> (intros; omega)
            · simp [Blk, *] <;> (intros; omega)
            · simp [Blk, *] <;> (intros; omega)
          rintro W5 ⟨kW5, BW5_0, BW5_1, BW5_2, BW5_3⟩
          have cW5_0_0 : W5.cell? ⟨w.heap.size, 0, none⟩ = some (.int .u64 (s0 k)) := BW5_0.cell 0 rfl
          have cW5_0_1 : W5.cell? ⟨w.heap.size, 1, none⟩ = some (.int .u64 (s1 k)) := BW5_0.cell 1 rfl
          have fW5_0 := BW5_0.free
          have cW5_1_0 : W5.cell? ⟨w.heap.size + 1, 0, none⟩ = some (.int .u64 n0) := BW5_1.cell 0 rfl
          have cW5_1_1 : W5.cell? ⟨w.heap.size + 1, 1, none⟩ = some (.int .u64 n1) := BW5_1.cell 1 rfl
          have fW5_1 := BW5_1.free
          have cW5_2_0 : W5.cell? ⟨w.heap.size + 1 + 1, 0, none⟩ = some (.int .u64 0) := BW5_2.cell 0 rfl
          have cW5_2_1 : W5.cell? ⟨w.heap.size + 1 + 1, 1, none⟩ = some (.int .u64 0) := BW5_2.cell 1 rfl
          have fW5_2 := BW5_2.free
          have cW5_3_0 : W5.cell? ⟨w.heap.size + 1 + 1 + 1, 0, none⟩ = some (.int .u64 (o0 (k + 1))) := BW5_3.cell 0 rfl
          have cW5_3_1 : W5.cell? ⟨w.heap.size + 1 + 1 + 1, 1, none⟩ = some (.int .u64 (o1 (k + 1))) := BW5_3.cell 1 rfl
          have fW5_3 := BW5_3.free
          refine (HS.out _).mono ?_
          rintro e W6 ⟨rfl, hkW6⟩
          have kW6 := kW5.trans hkW6
          have BW6_0 := BW5_0.kept hkW6
          have BW6_1 := BW5_1.kept hkW6
          have BW6_2 := BW5_2.kept hkW6
          have BW6_3 := BW5_3.kept hkW6
          clear cW5_0_0 cW5_0_1 cW5_1_0 cW5_1_1 cW5_2_0 cW5_2_1 cW5_3_0 cW5_3_1 fW5_0 fW5_1 fW5_2 fW5_3 BW5_0 BW5_1 BW5_2 BW5_3 kW5 hkW6
          have cW6_0_0 : W6.cell? ⟨w.heap.size, 0, none⟩ = some (.int .u64 (s0 k)) := BW6_0.cell 0 rfl
          have cW6_0_1 : W6.cell? ⟨w.heap.size, 1, none⟩ = some (.int .u64 (s1 k)) := BW6_0.cell 1 rfl
          have fW6_0 := BW6_0.free
          have cW6_1_0 : W6.cell? ⟨w.heap.size + 1, 0, none⟩ = some (.int .u64 n0) := BW6_1.cell 0 rfl
          have cW6_1_1 : W6.cell? ⟨w.heap.size + 1, 1, none⟩ = some (.int .u64 n1) := BW6_1.cell 1 rfl
          have fW6_1 := BW6_1.free
          have cW6_2_0 : W6.cell? ⟨w.heap.size + 1 + 1, 0, none⟩ = some (.int .u64 0) := BW6_2.cell 0 rfl
          have cW6_2_1 : W6.cell? ⟨w.heap.size + 1 + 1, 1, none⟩ = some (.int .u64 0) := BW6_2.cell 1 rfl
          have fW6_2 := BW6_2.free
          have cW6_3_0 : W6.cell? ⟨w.heap.size + 1 + 1 + 1, 0, none⟩ = some (.int .u64 (o0 (k + 1))) := BW6_3.cell 0 rfl
          have cW6_3_1 : W6.cell? ⟨w.heap.size + 1 + 1 + 1, 1, none⟩ = some (.int .u64 (o1 (k + 1))) := BW6_3.cell 1 rfl
          have fW6_3 := BW6_3.free
          go_wp2_with fail
          go_roundw
          case rel =>
            refine ⟨k + 1, by omega, by go_num, ?_, ?_, ?_, ?_, ?_⟩
            · repeat (first | exact kW6 | (refine Kept.setCell ?_ (kept_side (by first | assumption | omega)) _) | apply Kept.alloc | apply Kept.drew)
            · simp [Blk, *] <;> (intros; omega)
            · simp [Blk, *] <;> (intros; omega)
            · simp [Blk, *] <;> (intros; omega)
            · simp [Blk, *] <;> (intros; omega)
          case measure => (simp [intOf]) <;> omega
        | false =>
          have HS := Lib.hid (hS.out k (by omega))
          have HN := Lib.hid (hN.out k (by omega) hbt)
          have hb : bits .and .u64 (n1 / 2 ^ m) 1 = 0 := by have := hB1.out m hm1; rw [show bt (m + 64) = false by rw [hmk.out]; exact hbt] at this; exact this
          go_wp2_with fail
          refine (HS.out _).mono ?_
          rintro e W4 ⟨rfl, hkW4⟩
          have kW4 := kwr.trans hkW4
          have BW4_0 := Bwr_0.kept hkW4
          have BW4_1 := Bwr_1.kept hkW4
          have BW4_2 := Bwr_2.kept hkW4
          have BW4_3 := Bwr_3.kept hkW4
          clear cwr_0_0 cwr_0_1 cwr_1_0 cwr_1_1 cwr_2_0 cwr_2_1 cwr_3_0 cwr_3_1 fwr_0 fwr_1 fwr_2 fwr_3 Bwr_0 Bwr_1 Bwr_2 Bwr_3 kwr hkW4
          have cW4_0_0 : W4.cell? ⟨w.heap.size, 0, none⟩ = some (.int .u64 (s0 k)) := BW4_0.cell 0 rfl
          have cW4_0_1 : W4.cell? ⟨w.heap.size, 1, none⟩ = some (.int .u64 (s1 k)) := BW4_0.cell 1 rfl
          have fW4_0 := BW4_0.free
          have cW4_1_0 : W4.cell? ⟨w.heap.size + 1, 0, none⟩ = some (.int .u64 n0) := BW4_1.cell 0 rfl
          have cW4_1_1 : W4.cell? ⟨w.heap.size + 1, 1, none⟩ = some (.int .u64 n1) := BW4_1.cell 1 rfl
          have fW4_1 := BW4_1.free
          have cW4_2_0 : W4.cell? ⟨w.heap.size + 1 + 1, 0, none⟩ = some (.int .u64 0) := BW4_2.cell 0 rfl
          have cW4_2_1 : W4.cell? ⟨w.heap.size + 1 + 1, 1, none⟩ = some (.int .u64 0) := BW4_2.cell 1 rfl
          have fW4_2 := BW4_2.free
          have cW4_3_0 : W4.cell? ⟨w.heap.size + 1 + 1 + 1, 0, none⟩ = some (.int .u64 (o0 k)) := BW4_3.cell 0 rfl
          have cW4_3_1 : W4.cell? ⟨w.heap.size + 1 + 1 + 1, 1, none⟩ = some (.int .u64 (o1 k)) := BW4_3.cell 1 rfl
          have fW4_3 := BW4_3.free
          go_wp2_with fail
          go_roundw
          case rel =>
            refine ⟨k + 1, by omega, by go_num, ?_, ?_, ?_, ?_, ?_⟩
            · repeat (first | exact kW4 | (refine Kept.setCell ?_ (kept_side (by first | assumption | omega)) _) | apply Kept.alloc | apply Kept.drew)
            · simp [Blk, *] <;> (intros; omega)
            · simp [Blk, *] <;> (intros; omega)
            · simp [Blk, *] <;> (intros; omega)
            · rw [HN.out.1, HN.out.2]; simp [Blk, *] <;> (intros; omega)
          case measure => (simp [intOf]) <;> omega
    · skip
      obtain rfl : k = 128 := by omega
      go_wp2_with fail
      refine bodyPost_ret (v := .agg #[.int .u64 (o0 128), .int .u64 (o1 128)]) (by simp [results, Try.results54, go_sem, *]) rfl ⟨rfl, ?_⟩
      repeat (first | exact kwr | (refine Kept.setCell ?_ (kept_side (by first | assumption | omega)) _) | apply Kept.alloc | apply Kept.drew)


def wS (A : Int) (k : Nat) : Int := A ^ (2 ^ k) % wP
def wO (A : Int) (n k : Nat) : Int := A ^ (n % 2 ^ k) % wP
theorem wS_succ (A : Int) (k : Nat) : wS A k * wS A k % wP = wS A (k + 1) := by
  unfold wS
  rw [← Int.mul_emod, ← Int.pow_add, Nat.pow_succ, Nat.mul_two]
theorem mod_succ (n k : Nat) : n % 2 ^ (k + 1) = n % 2 ^ k + (if n.testBit k then 2 ^ k else 0) := by
  rw [Nat.mod_pow_succ, Nat.testBit_eq_decide_div_mod_eq]
  have : n / 2 ^ k % 2 = 0 ∨ n / 2 ^ k % 2 = 1 := by omega
  rcases this with h | h <;> simp [h]
theorem wO_yes (A : Int) (n k : Nat) (h : n.testBit k = true) : wO A n k * wS A k % wP = wO A n (k + 1) := by
  unfold wO wS
  rw [← Int.mul_emod, ← Int.pow_add, mod_succ, if_pos h]
theorem wO_no (A : Int) (n k : Nat) (h : n.testBit k = false) : wO A n (k + 1) = wO A n k := by
  unfold wO
  rw [mod_succ, if_neg (by simp [h]), Nat.add_zero]

theorem bit_and (N m : Nat) (h : (N : Int) ≤ 18446744073709551615) : bits .and .u64 ((N : Int) / 2 ^ m) 1 = if N.testBit m then 1 else 0 := by
  have e : ((N : Int) / 2 ^ m) = ((N / 2 ^ m : Nat) : Int) := by simp
  have hl : N / 2 ^ m ≤ N := Nat.div_le_self _ _
  rw [e, bits_and_one _ (Int.natCast_nonneg _) (Int.le_trans (Int.ofNat_le.2 hl) h), Nat.testBit_eq_decide_div_mod_eq]
  have : N / 2 ^ m % 2 = 0 ∨ N / 2 ^ m % 2 = 1 := by omega
  rcases this with h | h
  · simp [h]; omega
  · simp [h]; omega

theorem w_Pow {a : Int} {n : Nat} (ha : is128 a) (hn : is128 n) : Pure Try.prog 54 #[E a, E n] (E (a ^ n % wP)) := by
  have is := fun k => is128_emod_w ((a % wP) ^ (2 ^ k))
  have io := fun k => is128_emod_w ((a % wP) ^ (n % 2 ^ k))
  have hlt : n < 2 ^ 128 := by unfold is128 at hn; omega
  have hOf := w_Of ha
  have e0 : wS (a % wP) 0 = a % wP := by unfold wS; rw [Nat.pow_zero, Int.pow_one, Int.emod_emod]
  rw [← e0] at hOf
  have one : wO (a % wP) n 0 = 1 := by unfold wO; rw [Nat.pow_zero, Nat.mod_one, Int.pow_zero]; rfl
  have key := w_Pow_raw (a % 18446744073709551616) (a / 18446744073709551616) ((n : Int) % 18446744073709551616) ((n : Int) / 18446744073709551616)
    (fun k => wS (a % wP) k % 18446744073709551616) (fun k => wS (a % wP) k / 18446744073709551616) (fun k => wO (a % wP) n k % 18446744073709551616) (fun k => wO (a % wP) n k / 18446744073709551616) (fun k => n.testBit k)
    (by omega) (by omega) (by omega) (by unfold is128 at hn; omega) hOf (by show wO _ _ 0 % _ = 1; rw [one]; rfl) (by show wO _ _ 0 / _ = 0; rw [one]; rfl) ?_ ?_ ?_ ?_ ?_
  · have e128 : wO (a % wP) n 128 = a ^ n % wP := by
      unfold wO
      rw [Nat.mod_eq_of_lt hlt]
      exact emod_pow a wP n
    rw [← e128]; exact key
  · intro k hk
    have := w_Mul (is k) (is k)
    rw [← wS_succ]
    exact this
  · intro k hk hb
    have := w_Mul (io k) (is k)
    rw [← wO_yes _ _ _ hb]
    exact this
  · intro k hk hb
    have := wO_no (a % wP) n k hb
    exact ⟨by rw [this], by rw [this]⟩
  · intro m hm
    have e : (n : Int) % 18446744073709551616 = ((n % 2 ^ 64 : Nat) : Int) := by omega
    show bits .and .u64 ((n : Int) % 18446744073709551616 / 2 ^ m) 1 = if n.testBit m then 1 else 0
    rw [e, bit_and _ _ (by omega), Nat.testBit_mod_two_pow]
    simp [show m < 64 by omega]
  · intro m hm
    have e : (n : Int) / 18446744073709551616 = ((n / 2 ^ 64 : Nat) : Int) := by omega
    show bits .and .u64 ((n : Int) / 18446744073709551616 / 2 ^ m) 1 = if n.testBit (m + 64) then 1 else 0
    rw [e, bit_and _ _ (by omega), Nat.testBit_div_two_pow]

end Go.Proofs.Ytnajihlhcdedgaa
