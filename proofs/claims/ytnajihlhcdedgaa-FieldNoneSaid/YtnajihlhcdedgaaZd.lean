/-
  Texts joined: W7 WPow WRoots WRootsLaw WB1.
-/
import Derived.Test.YtnajihlhcdedgaaZc
import Derived.Test.YtnajihlhcdedgaaZb
import Derived.Deep.Cut
import Derived.Test.YtnajihlhcdedgaaZa
namespace Go.Proofs.Ytnajihlhcdedgaa
open Go.RowKit
set_option linter.unusedVariables false
set_option linter.unusedSimpArgs false
attribute [local simp] blkAt_setCell blkAt_alloc blkAt_drew Obj.put_cells

set_option maxRecDepth 100000 in
set_option maxHeartbeats 4000000 in
theorem w_Pow_raw (a0 a1 n0 n1 : Int) (s0 s1 o0 o1 : Nat → Int) (bt : Nat → Bool) (hn00 : 0 ≤ n0) (hn01 : n0 ≤ 18446744073709551615) (hn10 : 0 ≤ n1) (hn11 : n1 ≤ 18446744073709551615)
    (hOf : Pure Try.prog 48 #[.agg #[.int .u64 a0, .int .u64 a1]] (.agg #[.int .u64 (s0 0), .int .u64 (s1 0)])) (h0 : o0 0 = 1) (h1 : o1 0 = 0)
    (hS : Hid (∀ k, k < 128 → Pure Try.prog 53 #[.agg #[.int .u64 (s0 k), .int .u64 (s1 k)], .agg #[.int .u64 (s0 k), .int .u64 (s1 k)]] (.agg #[.int .u64 (s0 (k + 1)), .int .u64 (s1 (k + 1))])))
    (hM : Hid (∀ k, k < 128 → bt k = true → Pure Try.prog 53 #[.agg #[.int .u64 (o0 k), .int .u64 (o1 k)], .agg #[.int .u64 (s0 k), .int .u64 (s1 k)]] (.agg #[.int .u64 (o0 (k + 1)), .int .u64 (o1 (k + 1))])))
    (hN : Hid (∀ k, k < 128 → bt k = false → o0 (k + 1) = o0 k ∧ o1 (k + 1) = o1 k))
    (hB0 : Hid (∀ m, m ≤ 63 → bits .and .u64 (n0 / 2 ^ m) 1 = if bt m then 1 else 0))
    (hB1 : Hid (∀ m, m ≤ 63 → bits .and .u64 (n1 / 2 ^ m) 1 = if bt (m + 64) then 1 else 0)) :
    Pure Try.prog 54 #[.agg #[.int .u64 a0, .int .u64 a1], .agg #[.int .u64 n0, .int .u64 n1]] (.agg #[.int .u64 (o0 128), .int .u64 (o1 128)]) := fun w => by
  have HOf := Lib.hid hOf
  clear hOf
  have ne0_2 : w.heap.size ≠ w.heap.size + 1 + 1 := by omega
  have ne2_0 : w.heap.size + 1 + 1 ≠ w.heap.size := by omega
  have ne0_3 : w.heap.size ≠ w.heap.size + 1 + 1 + 1 := by omega
  have ne3_0 : w.heap.size + 1 + 1 + 1 ≠ w.heap.size := by omega
  have ne1_3 : w.heap.size + 1 ≠ w.heap.size + 1 + 1 + 1 := by omega
  have ne3_1 : w.heap.size + 1 + 1 + 1 ≠ w.heap.size + 1 := by omega
  go_enter Try.func54, Try.ntmps54
  go_wp2_with fail
  refine abs_calls (fun W => Kept w W ∧ Blk W (w.heap.size) 28 #[.int .u64 a0, .int .u64 a1] ∧ Blk W (w.heap.size + 1) 28 #[.int .u64 n0, .int .u64 n1] ∧ Blk W (w.heap.size + 1 + 1) 28 #[.int .u64 0, .int .u64 0] ∧ Blk W (w.heap.size + 1 + 1 + 1) 28 #[.int .u64 1, .int .u64 0]) ?_ ?_
  · refine ⟨?_, ?_, ?_, ?_, ?_⟩
    · repeat (first | exact Kept.refl _ | (refine Kept.setCell ?_ (kept_side (by first | assumption | omega)) _) | apply Kept.alloc | apply Kept.drew)
    · simp [Blk, *] <;> (intros; omega)
    · simp [Blk, *] <;> (intros; omega)
    · simp [Blk, *] <;> (intros; omega)
    · simp [Blk, *] <;> (intros; omega)
  rintro W1 ⟨kW1, BW1_0, BW1_1, BW1_2, BW1_3⟩
  have cW1_0_0 : W1.cell? ⟨w.heap.size, 0, none⟩ = some (.int .u64 a0) := BW1_0.cell 0 rfl
  have cW1_0_1 : W1.cell? ⟨w.heap.size, 1, none⟩ = some (.int .u64 a1) := BW1_0.cell 1 rfl
  have fW1_0 := BW1_0.free
  have cW1_1_0 : W1.cell? ⟨w.heap.size + 1, 0, none⟩ = some (.int .u64 n0) := BW1_1.cell 0 rfl
  have cW1_1_1 : W1.cell? ⟨w.heap.size + 1, 1, none⟩ = some (.int .u64 n1) := BW1_1.cell 1 rfl
  have fW1_1 := BW1_1.free
  have cW1_2_0 : W1.cell? ⟨w.heap.size + 1 + 1, 0, none⟩ = some (.int .u64 0) := BW1_2.cell 0 rfl
  have cW1_2_1 : W1.cell? ⟨w.heap.size + 1 + 1, 1, none⟩ = some (.int .u64 0) := BW1_2.cell 1 rfl
  have fW1_2 := BW1_2.free
  have cW1_3_0 : W1.cell? ⟨w.heap.size + 1 + 1 + 1, 0, none⟩ = some (.int .u64 1) := BW1_3.cell 0 rfl
  have cW1_3_1 : W1.cell? ⟨w.heap.size + 1 + 1 + 1, 1, none⟩ = some (.int .u64 0) := BW1_3.cell 1 rfl
  have fW1_3 := BW1_3.free
  refine (HOf.out _).mono ?_
  rintro e W2 ⟨rfl, hkW2⟩
  have kW2 := kW1.trans hkW2
  have BW2_0 := BW1_0.kept hkW2
  have BW2_1 := BW1_1.kept hkW2
  have BW2_2 := BW1_2.kept hkW2
  have BW2_3 := BW1_3.kept hkW2
  clear cW1_0_0 cW1_0_1 cW1_1_0 cW1_1_1 cW1_2_0 cW1_2_1 cW1_3_0 cW1_3_1 fW1_0 fW1_1 fW1_2 fW1_3 BW1_0 BW1_1 BW1_2 BW1_3 kW1 hkW2
  have cW2_0_0 : W2.cell? ⟨w.heap.size, 0, none⟩ = some (.int .u64 a0) := BW2_0.cell 0 rfl
  have cW2_0_1 : W2.cell? ⟨w.heap.size, 1, none⟩ = some (.int .u64 a1) := BW2_0.cell 1 rfl
  have fW2_0 := BW2_0.free
  have cW2_1_0 : W2.cell? ⟨w.heap.size + 1, 0, none⟩ = some (.int .u64 n0) := BW2_1.cell 0 rfl
  have cW2_1_1 : W2.cell? ⟨w.heap.size + 1, 1, none⟩ = some (.int .u64 n1) := BW2_1.cell 1 rfl
  have fW2_1 := BW2_1.free
  have cW2_2_0 : W2.cell? ⟨w.heap.size + 1 + 1, 0, none⟩ = some (.int .u64 0) := BW2_2.cell 0 rfl
  have cW2_2_1 : W2.cell? ⟨w.heap.size + 1 + 1, 1, none⟩ = some (.int .u64 0) := BW2_2.cell 1 rfl
  have fW2_2 := BW2_2.free
  have cW2_3_0 : W2.cell? ⟨w.heap.size + 1 + 1 + 1, 0, none⟩ = some (.int .u64 1) := BW2_3.cell 0 rfl
  have cW2_3_1 : W2.cell? ⟨w.heap.size + 1 + 1 + 1, 1, none⟩ = some (.int .u64 0) := BW2_3.cell 1 rfl
  have fW2_3 := BW2_3.free
  go_wp2_with fail
  refine abs_world (fun W => Kept w W ∧ Blk W (w.heap.size) 28 #[.int .u64 (s0 0), .int .u64 (s1 0)] ∧ Blk W (w.heap.size + 1) 28 #[.int .u64 n0, .int .u64 n1] ∧ Blk W (w.heap.size + 1 + 1) 28 #[.int .u64 0, .int .u64 0] ∧ Blk W (w.heap.size + 1 + 1 + 1) 28 #[.int .u64 (o0 0), .int .u64 (o1 0)]) ?_ ?_
  · refine ⟨?_, ?_, ?_, ?_, ?_⟩
    · repeat (first | exact kW2 | (refine Kept.setCell ?_ (kept_side (by first | assumption | omega)) _) | apply Kept.alloc | apply Kept.drew)
    · simp [Blk, *] <;> (intros; omega)
    · simp [Blk, *] <;> (intros; omega)
    · simp [Blk, *] <;> (intros; omega)
    · simp [Blk, *] <;> (intros; omega)
  rintro W3 ⟨kW3, BW3_0, BW3_1, BW3_2, BW3_3⟩
  have cW3_0_0 : W3.cell? ⟨w.heap.size, 0, none⟩ = some (.int .u64 (s0 0)) := BW3_0.cell 0 rfl
  have cW3_0_1 : W3.cell? ⟨w.heap.size, 1, none⟩ = some (.int .u64 (s1 0)) := BW3_0.cell 1 rfl
  have fW3_0 := BW3_0.free
  have cW3_1_0 : W3.cell? ⟨w.heap.size + 1, 0, none⟩ = some (.int .u64 n0) := BW3_1.cell 0 rfl
  have cW3_1_1 : W3.cell? ⟨w.heap.size + 1, 1, none⟩ = some (.int .u64 n1) := BW3_1.cell 1 rfl
  have fW3_1 := BW3_1.free
  have cW3_2_0 : W3.cell? ⟨w.heap.size + 1 + 1, 0, none⟩ = some (.int .u64 0) := BW3_2.cell 0 rfl
  have cW3_2_1 : W3.cell? ⟨w.heap.size + 1 + 1, 1, none⟩ = some (.int .u64 0) := BW3_2.cell 1 rfl
  have fW3_2 := BW3_2.free
  have cW3_3_0 : W3.cell? ⟨w.heap.size + 1 + 1 + 1, 0, none⟩ = some (.int .u64 (o0 0)) := BW3_3.cell 0 rfl
  have cW3_3_1 : W3.cell? ⟨w.heap.size + 1 + 1 + 1, 1, none⟩ = some (.int .u64 (o1 0)) := BW3_3.cell 1 rfl
  have fW3_3 := BW3_3.free
  go_loopw [10] (fun t wr => ∃ k : Nat, k ≤ 128 ∧ t = .int .i64 (k : Int) ∧ Kept w wr ∧ Blk wr (w.heap.size) 28 #[.int .u64 (s0 k), .int .u64 (s1 k)] ∧ Blk wr (w.heap.size + 1) 28 #[.int .u64 n0, .int .u64 n1] ∧ Blk wr (w.heap.size + 1 + 1) 28 #[.int .u64 0, .int .u64 0] ∧ Blk wr (w.heap.size + 1 + 1 + 1) 28 #[.int .u64 (o0 k), .int .u64 (o1 k)]) (fun t _ => (128 - intOf t).toNat)
  case atStart => exact ⟨0, by omega, rfl, kW3, BW3_0, BW3_1, BW3_2, BW3_3⟩
  case round =>
    clear cW3_0_0 cW3_0_1 cW3_1_0 cW3_1_1 cW3_2_0 cW3_2_1 cW3_3_0 cW3_3_1 fW3_0 fW3_1 fW3_2 fW3_3 BW3_0 BW3_1 BW3_2 BW3_3 kW3
    obtain ⟨k, hk, rfl, kwr, Bwr_0, Bwr_1, Bwr_2, Bwr_3⟩ := hrel
    have cwr_0_0 : wr.cell? ⟨w.heap.size, 0, none⟩ = some (.int .u64 (s0 k)) := Bwr_0.cell 0 rfl
    have cwr_0_1 : wr.cell? ⟨w.heap.size, 1, none⟩ = some (.int .u64 (s1 k)) := Bwr_0.cell 1 rfl
    have fwr_0 := Bwr_0.free
    have cwr_1_0 : wr.cell? ⟨w.heap.size + 1, 0, none⟩ = some (.int .u64 n0) := Bwr_1.cell 0 rfl
    have cwr_1_1 : wr.cell? ⟨w.heap.size + 1, 1, none⟩ = some (.int .u64 n1) := Bwr_1.cell 1 rfl
    have fwr_1 := Bwr_1.free
    have cwr_2_0 : wr.cell? ⟨w.heap.size + 1 + 1, 0, none⟩ = some (.int .u64 0) := Bwr_2.cell 0 rfl
    have cwr_2_1 : wr.cell? ⟨w.heap.size + 1 + 1, 1, none⟩ = some (.int .u64 0) := Bwr_2.cell 1 rfl
    have fwr_2 := Bwr_2.free
    have cwr_3_0 : wr.cell? ⟨w.heap.size + 1 + 1 + 1, 0, none⟩ = some (.int .u64 (o0 k)) := Bwr_3.cell 0 rfl
    have cwr_3_1 : wr.cell? ⟨w.heap.size + 1 + 1 + 1, 1, none⟩ = some (.int .u64 (o1 k)) := Bwr_3.cell 1 rfl
    have fwr_3 := Bwr_3.free
    by_cases hlt : (k : Int) < 128
    · by_cases h64 : k < 64
      · obtain ⟨m, hmk⟩ : ∃ m : Nat, Hid (m = k) := ⟨k, rfl⟩
        have hm1 : m ≤ 63 := by have := hmk.out; omega
        have hj : (k : Int) / 64 = 0 := by omega
        have hr : (k : Int) % 64 = (m : Int) := by have := hmk.out; omega
        cases hbt : bt k with
        | true =>
          have HS := Lib.hid (hS.out k (by omega))
          have HM := Lib.hid (hM.out k (by omega) hbt)
          have hb : bits .and .u64 (n0 / 2 ^ m) 1 = 1 := by have := hB0.out m hm1; rw [show bt m = true by rw [hmk.out]; exact hbt] at this; exact this
          go_wp2_with fail
          refine (HM.out _).mono ?_
          rintro e W4 ⟨rfl, hkW4⟩
          have kW4 := kwr.trans hkW4
          have BW4_0 := Bwr_0.kept hkW4
          have BW4_1 := Bwr_1.kept hkW4
          have BW4_2 := Bwr_2.kept hkW4
          have BW4_3 := Bwr_3.kept hkW4
          clear cwr_0_0 cwr_0_1 cwr_1_0 cwr_1_1 cwr_2_0 cwr_2_1 cwr_3_0 cwr_3_1 fwr_0 fwr_1 fwr_2 fwr_3 Bwr_0 Bwr_1 Bwr_2 Bwr_3 kwr hkW4
          have cW4_0_0 : W4.cell? ⟨w.heap.size, 0, none⟩ = some (.int .u64 (s0 k)) := BW4_0.cell 0 rfl
          have cW4_0_1 : W4.cell? ⟨w.heap.size, 1, none⟩ = some (.int .u64 (s1 k)) := BW4_0.cell 1 rfl
          have fW4_0 := BW4_0.free
          have cW4_1_0 : W4.cell? ⟨w.heap.size + 1, 0, none⟩ = some (.int .u64 n0) := BW4_1.cell 0 rfl
          have cW4_1_1 : W4.cell? ⟨w.heap.size + 1, 1, none⟩ = some (.int .u64 n1) := BW4_1.cell 1 rfl
          have fW4_1 := BW4_1.free
          have cW4_2_0 : W4.cell? ⟨w.heap.size + 1 + 1, 0, none⟩ = some (.int .u64 0) := BW4_2.cell 0 rfl
          have cW4_2_1 : W4.cell? ⟨w.heap.size + 1 + 1, 1, none⟩ = some (.int .u64 0) := BW4_2.cell 1 rfl
          have fW4_2 := BW4_2.free
          have cW4_3_0 : W4.cell? ⟨w.heap.size + 1 + 1 + 1, 0, none⟩ = some (.int .u64 (o0 k)) := BW4_3.cell 0 rfl
          have cW4_3_1 : W4.cell? ⟨w.heap.size + 1 + 1 + 1, 1, none⟩ = some (.int .u64 (o1 k)) := BW4_3.cell 1 rfl
          have fW4_3 := BW4_3.free
          go_wp2_with fail
          refine abs_calls (fun W => Kept w W ∧ Blk W (w.heap.size) 28 #[.int .u64 (s0 k), .int .u64 (s1 k)] ∧ Blk W (w.heap.size + 1) 28 #[.int .u64 n0, .int .u64 n1] ∧ Blk W (w.heap.size + 1 + 1) 28 #[.int .u64 0, .int .u64 0] ∧ Blk W (w.heap.size + 1 + 1 + 1) 28 #[.int .u64 (o0 (k + 1)), .int .u64 (o1 (k + 1))]) ?_ ?_
          · refine ⟨?_, ?_, ?_, ?_, ?_⟩
            · repeat (first | exact kW4 | (refine Kept.setCell ?_ (kept_side (by first | assumption | omega)) _) | apply Kept.alloc | apply Kept.drew)
            · simp [Blk, *] <;> (intros; omega)
            · simp [Blk, *] <;> (intros; omega)
            · simp [Blk, *] <;> (intros; omega)
            · simp [Blk, *] <;> (intros; omega)
          rintro W5 ⟨kW5, BW5_0, BW5_1, BW5_2, BW5_3⟩
          have cW5_0_0 : W5.cell? ⟨w.heap.size, 0, none⟩ = some (.int .u64 (s0 k)) := BW5_0.cell 0 rfl
          have cW5_0_1 : W5.cell? ⟨w.heap.size, 1, none⟩ = some (.int .u64 (s1 k)) := BW5_0.cell 1 rfl
          have fW5_0 := BW5_0.free
          have cW5_1_0 : W5.cell? ⟨w.heap.size + 1, 0, none⟩ = some (.int .u64 n0) := BW5_1.cell 0 rfl
          have cW5_1_1 : W5.cell? ⟨w.heap.size + 1, 1, none⟩ = some (.int .u64 n1) := BW5_1.cell 1 rfl
          have fW5_1 := BW5_1.free
          have cW5_2_0 : W5.cell? ⟨w.heap.size + 1 + 1, 0, none⟩ = some (.int .u64 0) := BW5_2.cell 0 rfl
          have cW5_2_1 : W5.cell? ⟨w.heap.size + 1 + 1, 1, none⟩ = some (.int .u64 0) := BW5_2.cell 1 rfl
          have fW5_2 := BW5_2.free
          have cW5_3_0 : W5.cell? ⟨w.heap.size + 1 + 1 + 1, 0, none⟩ = some (.int .u64 (o0 (k + 1))) := BW5_3.cell 0 rfl
          have cW5_3_1 : W5.cell? ⟨w.heap.size + 1 + 1 + 1, 1, none⟩ = some (.int .u64 (o1 (k + 1))) := BW5_3.cell 1 rfl
          have fW5_3 := BW5_3.free
          refine (HS.out _).mono ?_
          rintro e W6 ⟨rfl, hkW6⟩
          have kW6 := kW5.trans hkW6
          have BW6_0 := BW5_0.kept hkW6
          have BW6_1 := BW5_1.kept hkW6
          have BW6_2 := BW5_2.kept hkW6
          have BW6_3 := BW5_3.kept hkW6
          clear cW5_0_0 cW5_0_1 cW5_1_0 cW5_1_1 cW5_2_0 cW5_2_1 cW5_3_0 cW5_3_1 fW5_0 fW5_1 fW5_2 fW5_3 BW5_0 BW5_1 BW5_2 BW5_3 kW5 hkW6
          have cW6_0_0 : W6.cell? ⟨w.heap.size, 0, none⟩ = some (.int .u64 (s0 k)) := BW6_0.cell 0 rfl
          have cW6_0_1 : W6.cell? ⟨w.heap.size, 1, none⟩ = some (.int .u64 (s1 k)) := BW6_0.cell 1 rfl
          have fW6_0 := BW6_0.free
          have cW6_1_0 : W6.cell? ⟨w.heap.size + 1, 0, none⟩ = some (.int .u64 n0) := BW6_1.cell 0 rfl
          have cW6_1_1 : W6.cell? ⟨w.heap.size + 1, 1, none⟩ = some (.int .u64 n1) := BW6_1.cell 1 rfl
          have fW6_1 := BW6_1.free
          have cW6_2_0 : W6.cell? ⟨w.heap.size + 1 + 1, 0, none⟩ = some (.int .u64 0) := BW6_2.cell 0 rfl
          have cW6_2_1 : W6.cell? ⟨w.heap.size + 1 + 1, 1, none⟩ = some (.int .u64 0) := BW6_2.cell 1 rfl
          have fW6_2 := BW6_2.free
          have cW6_3_0 : W6.cell? ⟨w.heap.size + 1 + 1 + 1, 0, none⟩ = some (.int .u64 (o0 (k + 1))) := BW6_3.cell 0 rfl
          have cW6_3_1 : W6.cell? ⟨w.heap.size + 1 + 1 + 1, 1, none⟩ = some (.int .u64 (o1 (k + 1))) := BW6_3.cell 1 rfl
          have fW6_3 := BW6_3.free
          go_wp2_with fail
          go_roundw
          case rel =>
            refine ⟨k + 1, by omega, by go_num, ?_, ?_, ?_, ?_, ?_⟩
            · repeat (first | exact kW6 | (refine Kept.setCell ?_ (kept_side (by first | assumption | omega)) _) | apply Kept.alloc | apply Kept.drew)
            · simp [Blk, *] <;> (intros; omega)
            · simp [Blk, *] <;> (intros; omega)
            · simp [Blk, *] <;> (intros; omega)
            · simp [Blk, *] <;> (intros; omega)
          case measure => (simp [intOf]) <;> omega
        | false =>
          have HS := Lib.hid (hS.out k (by omega))
          have HN := Lib.hid (hN.out k (by omega) hbt)
          have hb : bits .and .u64 (n0 / 2 ^ m) 1 = 0 := by have := hB0.out m hm1; rw [show bt m = false by rw [hmk.out]; exact hbt] at this; exact this
          go_wp2_with fail
          refine (HS.out _).mono ?_
          rintro e W4 ⟨rfl, hkW4⟩
          have kW4 := kwr.trans hkW4
          have BW4_0 := Bwr_0.kept hkW4
          have BW4_1 := Bwr_1.kept hkW4
          have BW4_2 := Bwr_2.kept hkW4
          have BW4_3 := Bwr_3.kept hkW4
          clear cwr_0_0 cwr_0_1 cwr_1_0 cwr_1_1 cwr_2_0 cwr_2_1 cwr_3_0 cwr_3_1 fwr_0 fwr_1 fwr_2 fwr_3 Bwr_0 Bwr_1 Bwr_2 Bwr_3 kwr hkW4
          have cW4_0_0 : W4.cell? ⟨w.heap.size, 0, none⟩ = some (.int .u64 (s0 k)) := BW4_0.cell 0 rfl
          have cW4_0_1 : W4.cell? ⟨w.heap.size, 1, none⟩ = some (.int .u64 (s1 k)) := BW4_0.cell 1 rfl
          have fW4_0 := BW4_0.free
          have cW4_1_0 : W4.cell? ⟨w.heap.size + 1, 0, none⟩ = some (.int .u64 n0) := BW4_1.cell 0 rfl
          have cW4_1_1 : W4.cell? ⟨w.heap.size + 1, 1, none⟩ = some (.int .u64 n1) := BW4_1.cell 1 rfl
          have fW4_1 := BW4_1.free
          have cW4_2_0 : W4.cell? ⟨w.heap.size + 1 + 1, 0, none⟩ = some (.int .u64 0) := BW4_2.cell 0 rfl
          have cW4_2_1 : W4.cell? ⟨w.heap.size + 1 + 1, 1, none⟩ = some (.int .u64 0) := BW4_2.cell 1 rfl
          have fW4_2 := BW4_2.free
          have cW4_3_0 : W4.cell? ⟨w.heap.size + 1 + 1 + 1, 0, none⟩ = some (.int .u64 (o0 k)) := BW4_3.cell 0 rfl
          have cW4_3_1 : W4.cell? ⟨w.heap.size + 1 + 1 + 1, 1, none⟩ = some (.int .u64 (o1 k)) := BW4_3.cell 1 rfl
          have fW4_3 := BW4_3.free
          go_wp2_with fail
          go_roundw
          case rel =>
            refine ⟨k + 1, by omega, by go_num, ?_, ?_, ?_, ?_, ?_⟩
            · repeat (first | exact kW4 | (refine Kept.setCell ?_ (kept_side (by first | assumption | omega)) _) | apply Kept.alloc | apply Kept.drew)
            · simp [Blk, *] <;> (intros; omega)
            · simp [Blk, *] <;> (intros; omega)
            · simp [Blk, *] <;> (intros; omega)
            · rw [HN.out.1, HN.out.2]; simp [Blk, *] <;> (intros; omega)
          case measure => (simp [intOf]) <;> omega
      · obtain ⟨m, hmk⟩ : ∃ m : Nat, Hid (m + 64 = k) := ⟨k - 64, by show _ = _; omega⟩
        have hm1 : m ≤ 63 := by have := hmk.out; omega
        have hj : (k : Int) / 64 = 1 := by omega
        have hr : (k : Int) % 64 = (m : Int) := by have := hmk.out; omega
        cases hbt : bt k with
        | true =>
          have HS := Lib.hid (hS.out k (by omega))
          have HM := Lib.hid (hM.out k (by omega) hbt)
          have hb : bits .and .u64 (n1 / 2 ^ m) 1 = 1 := by have := hB1.out m hm1; rw [show bt (m + 64) = true by rw [hmk.out]; exact hbt] at this; exact this
          go_wp2_with fail
          refine (HM.out _).mono ?_
          rintro e W4 ⟨rfl, hkW4⟩
          have kW4 := kwr.trans hkW4
          have BW4_0 := Bwr_0.kept hkW4
          have BW4_1 := Bwr_1.kept hkW4
          have BW4_2 := Bwr_2.kept hkW4
          have BW4_3 := Bwr_3.kept hkW4
          clear cwr_0_0 cwr_0_1 cwr_1_0 cwr_1_1 cwr_2_0 cwr_2_1 cwr_3_0 cwr_3_1 fwr_0 fwr_1 fwr_2 fwr_3 Bwr_0 Bwr_1 Bwr_2 Bwr_3 kwr hkW4
          have cW4_0_0 : W4.cell? ⟨w.heap.size, 0, none⟩ = some (.int .u64 (s0 k)) := BW4_0.cell 0 rfl
          have cW4_0_1 : W4.cell? ⟨w.heap.size, 1, none⟩ = some (.int .u64 (s1 k)) := BW4_0.cell 1 rfl
          have fW4_0 := BW4_0.free
          have cW4_1_0 : W4.cell? ⟨w.heap.size + 1, 0, none⟩ = some (.int .u64 n0) := BW4_1.cell 0 rfl
          have cW4_1_1 : W4.cell? ⟨w.heap.size + 1, 1, none⟩ = some (.int .u64 n1) := BW4_1.cell 1 rfl
          have fW4_1 := BW4_1.free
          have cW4_2_0 : W4.cell? ⟨w.heap.size + 1 + 1, 0, none⟩ = some (.int .u64 0) := BW4_2.cell 0 rfl
          have cW4_2_1 : W4.cell? ⟨w.heap.size + 1 + 1, 1, none⟩ = some (.int .u64 0) := BW4_2.cell 1 rfl
          have fW4_2 := BW4_2.free
          have cW4_3_0 : W4.cell? ⟨w.heap.size + 1 + 1 + 1, 0, none⟩ = some (.int .u64 (o0 k)) := BW4_3.cell 0 rfl
          have cW4_3_1 : W4.cell? ⟨w.heap.size + 1 + 1 + 1, 1, none⟩ = some (.int .u64 (o1 k)) := BW4_3.cell 1 rfl
          have fW4_3 := BW4_3.free
          go_wp2_with fail
          refine abs_calls (fun W => Kept w W ∧ Blk W (w.heap.size) 28 #[.int .u64 (s0 k), .int .u64 (s1 k)] ∧ Blk W (w.heap.size + 1) 28 #[.int .u64 n0, .int .u64 n1] ∧ Blk W (w.heap.size + 1 + 1) 28 #[.int .u64 0, .int .u64 0] ∧ Blk W (w.heap.size + 1 + 1 + 1) 28 #[.int .u64 (o0 (k + 1)), .int .u64 (o1 (k + 1))]) ?_ ?_
          · refine ⟨?_, ?_, ?_, ?_, ?_⟩
            · repeat (first | exact kW4 | (refine Kept.setCell ?_ (kept_side (by first | assumption | omega)) _) | apply Kept.alloc | apply Kept.drew)
            · simp [Blk, *] <;> (intros; omega)
            · simp [Blk, *] <;> (intros; omega)
            · simp [Blk, *] <;> (intros; omega)
            · simp [Blk, *] <;> (intros; omega)
          rintro W5 ⟨kW5, BW5_0, BW5_1, BW5_2, BW5_3⟩
          have cW5_0_0 : W5.cell? ⟨w.heap.size, 0, none⟩ = some (.int .u64 (s0 k)) := BW5_0.cell 0 rfl
          have cW5_0_1 : W5.cell? ⟨w.heap.size, 1, none⟩ = some (.int .u64 (s1 k)) := BW5_0.cell 1 rfl
          have fW5_0 := BW5_0.free
          have cW5_1_0 : W5.cell? ⟨w.heap.size + 1, 0, none⟩ = some (.int .u64 n0) := BW5_1.cell 0 rfl
          have cW5_1_1 : W5.cell? ⟨w.heap.size + 1, 1, none⟩ = some (.int .u64 n1) := BW5_1.cell 1 rfl
          have fW5_1 := BW5_1.free
          have cW5_2_0 : W5.cell? ⟨w.heap.size + 1 + 1, 0, none⟩ = some (.int .u64 0) := BW5_2.cell 0 rfl
          have cW5_2_1 : W5.cell? ⟨w.heap.size + 1 + 1, 1, none⟩ = some (.int .u64 0) := BW5_2.cell 1 rfl
          have fW5_2 := BW5_2.free
          have cW5_3_0 : W5.cell? ⟨w.heap.size + 1 + 1 + 1, 0, none⟩ = some (.int .u64 (o0 (k + 1))) := BW5_3.cell 0 rfl
          have cW5_3_1 : W5.cell? ⟨w.heap.size + 1 + 1 + 1, 1, none⟩ = some (.int .u64 (o1 (k + 1))) := BW5_3.cell 1 rfl
          have fW5_3 := BW5_3.free
          refine (HS.out _).mono ?_
          rintro e W6 ⟨rfl, hkW6⟩
          have kW6 := kW5.trans hkW6
          have BW6_0 := BW5_0.kept hkW6
          have BW6_1 := BW5_1.kept hkW6
          have BW6_2 := BW5_2.kept hkW6
          have BW6_3 := BW5_3.kept hkW6
          clear cW5_0_0 cW5_0_1 cW5_1_0 cW5_1_1 cW5_2_0 cW5_2_1 cW5_3_0 cW5_3_1 fW5_0 fW5_1 fW5_2 fW5_3 BW5_0 BW5_1 BW5_2 BW5_3 kW5 hkW6
          have cW6_0_0 : W6.cell? ⟨w.heap.size, 0, none⟩ = some (.int .u64 (s0 k)) := BW6_0.cell 0 rfl
          have cW6_0_1 : W6.cell? ⟨w.heap.size, 1, none⟩ = some (.int .u64 (s1 k)) := BW6_0.cell 1 rfl
          have fW6_0 := BW6_0.free
          have cW6_1_0 : W6.cell? ⟨w.heap.size + 1, 0, none⟩ = some (.int .u64 n0) := BW6_1.cell 0 rfl
          have cW6_1_1 : W6.cell? ⟨w.heap.size + 1, 1, none⟩ = some (.int .u64 n1) := BW6_1.cell 1 rfl
          have fW6_1 := BW6_1.free
          have cW6_2_0 : W6.cell? ⟨w.heap.size + 1 + 1, 0, none⟩ = some (.int .u64 0) := BW6_2.cell 0 rfl
          have cW6_2_1 : W6.cell? ⟨w.heap.size + 1 + 1, 1, none⟩ = some (.int .u64 0) := BW6_2.cell 1 rfl
          have fW6_2 := BW6_2.free
          have cW6_3_0 : W6.cell? ⟨w.heap.size + 1 + 1 + 1, 0, none⟩ = some (.int .u64 (o0 (k + 1))) := BW6_3.cell 0 rfl
          have cW6_3_1 : W6.cell? ⟨w.heap.size + 1 + 1 + 1, 1, none⟩ = some (.int .u64 (o1 (k + 1))) := BW6_3.cell 1 rfl
          have fW6_3 := BW6_3.free
          go_wp2_with fail
          go_roundw
          case rel =>
            refine ⟨k + 1, by omega, by go_num, ?_, ?_, ?_, ?_, ?_⟩
            · repeat (first | exact kW6 | (refine Kept.setCell ?_ (kept_side (by first | assumption | omega)) _) | apply Kept.alloc | apply Kept.drew)
            · simp [Blk, *] <;> (intros; omega)
            · simp [Blk, *] <;> (intros; omega)
            · simp [Blk, *] <;> (intros; omega)
            · simp [Blk, *] <;> (intros; omega)
          case measure => (simp [intOf]) <;> omega
        | false =>
          have HS := Lib.hid (hS.out k (by omega))
          have HN := Lib.hid (hN.out k (by omega) hbt)
          have hb : bits .and .u64 (n1 / 2 ^ m) 1 = 0 := by have := hB1.out m hm1; rw [show bt (m + 64) = false by rw [hmk.out]; exact hbt] at this; exact this
          go_wp2_with fail
          refine (HS.out _).mono ?_
          rintro e W4 ⟨rfl, hkW4⟩
          have kW4 := kwr.trans hkW4
          have BW4_0 := Bwr_0.kept hkW4
          have BW4_1 := Bwr_1.kept hkW4
          have BW4_2 := Bwr_2.kept hkW4
          have BW4_3 := Bwr_3.kept hkW4
          clear cwr_0_0 cwr_0_1 cwr_1_0 cwr_1_1 cwr_2_0 cwr_2_1 cwr_3_0 cwr_3_1 fwr_0 fwr_1 fwr_2 fwr_3 Bwr_0 Bwr_1 Bwr_2 Bwr_3 kwr hkW4
          have cW4_0_0 : W4.cell? ⟨w.heap.size, 0, none⟩ = some (.int .u64 (s0 k)) := BW4_0.cell 0 rfl
          have cW4_0_1 : W4.cell? ⟨w.heap.size, 1, none⟩ = some (.int .u64 (s1 k)) := BW4_0.cell 1 rfl
          have fW4_0 := BW4_0.free
          have cW4_1_0 : W4.cell? ⟨w.heap.size + 1, 0, none⟩ = some (.int .u64 n0) := BW4_1.cell 0 rfl
          have cW4_1_1 : W4.cell? ⟨w.heap.size + 1, 1, none⟩ = some (.int .u64 n1) := BW4_1.cell 1 rfl
          have fW4_1 := BW4_1.free
          have cW4_2_0 : W4.cell? ⟨w.heap.size + 1 + 1, 0, none⟩ = some (.int .u64 0) := BW4_2.cell 0 rfl
          have cW4_2_1 : W4.cell? ⟨w.heap.size + 1 + 1, 1, none⟩ = some (.int .u64 0) := BW4_2.cell 1 rfl
          have fW4_2 := BW4_2.free
          have cW4_3_0 : W4.cell? ⟨w.heap.size + 1 + 1 + 1, 0, none⟩ = some (.int .u64 (o0 k)) := BW4_3.cell 0 rfl
          have cW4_3_1 : W4.cell? ⟨w.heap.size + 1 + 1 + 1, 1, none⟩ = some (.int .u64 (o1 k)) := BW4_3.cell 1 rfl
          have fW4_3 := BW4_3.free
          go_wp2_with fail
          go_roundw
          case rel =>
            refine ⟨k + 1, by omega, by go_num, ?_, ?_, ?_, ?_, ?_⟩
            · repeat (first | exact kW4 | (refine Kept.setCell ?_ (kept_side (by first | assumption | omega)) _) | apply Kept.alloc | apply Kept.drew)
            · simp [Blk, *] <;> (intros; omega)
            · simp [Blk, *] <;> (intros; omega)
            · simp [Blk, *] <;> (intros; omega)
            · rw [HN.out.1, HN.out.2]; simp [Blk, *] <;> (intros; omega)
          case measure => (simp [intOf]) <;> omega
    · skip
      obtain rfl : k = 128 := by omega
      go_wp2_with fail
      refine bodyPost_ret (v := .agg #[.int .u64 (o0 128), .int .u64 (o1 128)]) (by simp [results, Try.results54, go_sem, *]) rfl ⟨rfl, ?_⟩
      repeat (first | exact kwr | (refine Kept.setCell ?_ (kept_side (by first | assumption | omega)) _) | apply Kept.alloc | apply Kept.drew)


def wS (A : Int) (k : Nat) : Int := A ^ (2 ^ k) % wP
def wO (A : Int) (n k : Nat) : Int := A ^ (n % 2 ^ k) % wP
theorem wS_succ (A : Int) (k : Nat) : wS A k * wS A k % wP = wS A (k + 1) := by
  unfold wS
  rw [← Int.mul_emod, ← Int.pow_add, Nat.pow_succ, Nat.mul_two]
theorem mod_succ (n k : Nat) : n % 2 ^ (k + 1) = n % 2 ^ k + (if n.testBit k then 2 ^ k else 0) := by
  rw [Nat.mod_pow_succ, Nat.testBit_eq_decide_div_mod_eq]
  have : n / 2 ^ k % 2 = 0 ∨ n / 2 ^ k % 2 = 1 := by omega
  rcases this with h | h <;> simp [h]
theorem wO_yes (A : Int) (n k : Nat) (h : n.testBit k = true) : wO A n k * wS A k % wP = wO A n (k + 1) := by
  unfold wO wS
  rw [← Int.mul_emod, ← Int.pow_add, mod_succ, if_pos h]
theorem wO_no (A : Int) (n k : Nat) (h : n.testBit k = false) : wO A n (k + 1) = wO A n k := by
  unfold wO
  rw [mod_succ, if_neg (by simp [h]), Nat.add_zero]

theorem bit_and (N m : Nat) (h : (N : Int) ≤ 18446744073709551615) : bits .and .u64 ((N : Int) / 2 ^ m) 1 = if N.testBit m then 1 else 0 := by
  have e : ((N : Int) / 2 ^ m) = ((N / 2 ^ m : Nat) : Int) := by simp
  have hl : N / 2 ^ m ≤ N := Nat.div_le_self _ _
  rw [e, bits_and_one _ (Int.natCast_nonneg _) (Int.le_trans (Int.ofNat_le.2 hl) h), Nat.testBit_eq_decide_div_mod_eq]
  have : N / 2 ^ m % 2 = 0 ∨ N / 2 ^ m % 2 = 1 := by omega
  rcases this with h | h
  · simp [h]; omega
  · simp [h]; omega

theorem w_Pow {a : Int} {n : Nat} (ha : is128 a) (hn : is128 n) : Pure Try.prog 54 #[E a, E n] (E (a ^ n % wP)) := by
  have is := fun k => is128_emod_w ((a % wP) ^ (2 ^ k))
  have io := fun k => is128_emod_w ((a % wP) ^ (n % 2 ^ k))
  have hlt : n < 2 ^ 128 := by unfold is128 at hn; omega
  have hOf := w_Of ha
  have e0 : wS (a % wP) 0 = a % wP := by unfold wS; rw [Nat.pow_zero, Int.pow_one, Int.emod_emod]
  rw [← e0] at hOf
  have one : wO (a % wP) n 0 = 1 := by unfold wO; rw [Nat.pow_zero, Nat.mod_one, Int.pow_zero]; rfl
  have key := w_Pow_raw (a % 18446744073709551616) (a / 18446744073709551616) ((n : Int) % 18446744073709551616) ((n : Int) / 18446744073709551616)
    (fun k => wS (a % wP) k % 18446744073709551616) (fun k => wS (a % wP) k / 18446744073709551616) (fun k => wO (a % wP) n k % 18446744073709551616) (fun k => wO (a % wP) n k / 18446744073709551616) (fun k => n.testBit k)
    (by omega) (by omega) (by omega) (by unfold is128 at hn; omega) hOf (by show wO _ _ 0 % _ = 1; rw [one]; rfl) (by show wO _ _ 0 / _ = 0; rw [one]; rfl) ?_ ?_ ?_ ?_ ?_
  · have e128 : wO (a % wP) n 128 = a ^ n % wP := by
      unfold wO
      rw [Nat.mod_eq_of_lt hlt]
      exact emod_pow a wP n
    rw [← e128]; exact key
  · intro k hk
    have := w_Mul (is k) (is k)
    rw [← wS_succ]
    exact this
  · intro k hk hb
    have := w_Mul (io k) (is k)
    rw [← wO_yes _ _ _ hb]
    exact this
  · intro k hk hb
    have := wO_no (a % wP) n k hb
    exact ⟨by rw [this], by rw [this]⟩
  · intro m hm
    have e : (n : Int) % 18446744073709551616 = ((n % 2 ^ 64 : Nat) : Int) := by omega
    show bits .and .u64 ((n : Int) % 18446744073709551616 / 2 ^ m) 1 = if n.testBit m then 1 else 0
    rw [e, bit_and _ _ (by omega), Nat.testBit_mod_two_pow]
    simp [show m < 64 by omega]
  · intro m hm
    have e : (n : Int) / 18446744073709551616 = ((n / 2 ^ 64 : Nat) : Int) := by omega
    show bits .and .u64 ((n : Int) / 18446744073709551616 / 2 ^ m) 1 = if n.testBit (m + 64) then 1 else 0
    rw [e, bit_and _ _ (by omega), Nat.testBit_div_two_pow]

end Go.Proofs.Ytnajihlhcdedgaa

namespace Go.Proofs.Ytnajihlhcdedgaa
open Go.RowKit
set_option linter.unusedVariables false
set_option linter.unusedSimpArgs false
attribute [local simp] blkAt_setCell blkAt_alloc blkAt_drew Obj.put_cells

set_option maxRecDepth 100000 in
set_option maxHeartbeats 4000000 in
theorem w_Inv_yes (a0 a1 x0 x1 p0 p1 e0 e1 r0 r1 : Int) (hO : Pure Try.prog 48 #[.agg #[.int .u64 a0, .int .u64 a1]] (.agg #[.int .u64 x0, .int .u64 x1])) (hx : decide (x0 = 0 ∧ x1 = 0) = false)
    (hP : Pure Try.prog 58 #[] (.agg #[.int .u64 p0, .int .u64 p1])) (hT : Pure Try.prog 117 #[.agg #[.int .u64 p0, .int .u64 p1], .agg #[.int .u64 2, .int .u64 0]] (.agg #[.int .u64 e0, .int .u64 e1])) (hW : Pure Try.prog 54 #[.agg #[.int .u64 a0, .int .u64 a1], .agg #[.int .u64 e0, .int .u64 e1]] (.agg #[.int .u64 r0, .int .u64 r1])) :
    Pure Try.prog 55 #[.agg #[.int .u64 a0, .int .u64 a1]] (.tuple #[.agg #[.int .u64 r0, .int .u64 r1], .int .i64 0]) := fun w => by
  have HO := Lib.hid hO
  have HP := Lib.hid hP
  have HT := Lib.hid hT
  have HW := Lib.hid hW
  clear hO hP hT hW
  have hq := fun w => run_eql28 x0 x1 0 0 w
  simp only [hx] at hq
  go_enter Try.func55, Try.ntmps55
  go_wp2_with fail
  refine abs_calls (fun W => Kept w W ∧ Blk W (w.heap.size) 28 #[.int .u64 a0, .int .u64 a1] ∧ Blk W (w.heap.size + 1) 28 #[.int .u64 0, .int .u64 0]) ?_ ?_
  · refine ⟨?_, ?_, ?_⟩
    · repeat (first | exact Kept.refl _ | (refine Kept.setCell ?_ (kept_side (by first | assumption | omega)) _) | apply Kept.alloc | apply Kept.drew)
    · simp [Blk, *] <;> (intros; omega)
    · simp [Blk, *] <;> (intros; omega)
  rintro W1 ⟨kW1, BW1_0, BW1_1⟩
  have cW1_0_0 : W1.cell? ⟨w.heap.size, 0, none⟩ = some (.int .u64 a0) := BW1_0.cell 0 rfl
  have cW1_0_1 : W1.cell? ⟨w.heap.size, 1, none⟩ = some (.int .u64 a1) := BW1_0.cell 1 rfl
  have fW1_0 := BW1_0.free
  have cW1_1_0 : W1.cell? ⟨w.heap.size + 1, 0, none⟩ = some (.int .u64 0) := BW1_1.cell 0 rfl
  have cW1_1_1 : W1.cell? ⟨w.heap.size + 1, 1, none⟩ = some (.int .u64 0) := BW1_1.cell 1 rfl
  have fW1_1 := BW1_1.free
  refine (HO.out _).mono ?_
  rintro e W2 ⟨rfl, hkW2⟩
  have kW2 := kW1.trans hkW2
  have BW2_0 := BW1_0.kept hkW2
  have BW2_1 := BW1_1.kept hkW2
  clear cW1_0_0 cW1_0_1 cW1_1_0 cW1_1_1 fW1_0 fW1_1 BW1_0 BW1_1 kW1 hkW2
  have cW2_0_0 : W2.cell? ⟨w.heap.size, 0, none⟩ = some (.int .u64 a0) := BW2_0.cell 0 rfl
  have cW2_0_1 : W2.cell? ⟨w.heap.size, 1, none⟩ = some (.int .u64 a1) := BW2_0.cell 1 rfl
  have fW2_0 := BW2_0.free
  have cW2_1_0 : W2.cell? ⟨w.heap.size + 1, 0, none⟩ = some (.int .u64 0) := BW2_1.cell 0 rfl
  have cW2_1_1 : W2.cell? ⟨w.heap.size + 1, 1, none⟩ = some (.int .u64 0) := BW2_1.cell 1 rfl
  have fW2_1 := BW2_1.free
  go_wp2_with fail
  refine wp_region_calm 5 (by kernel_rfl) (by kernel_rfl) ?_
  simp only [List.take_succ_cons, List.take_zero, List.drop_succ_cons, List.drop_zero]
  repeat (first
    | (refine calm_skip rfl ?_; simp only [Act.put, List.setIfInBounds_toArray, List.set_cons_zero, List.set_cons_succ])
    | (refine calm_ex rfl ?_; apply Exists.intro; refine And.intro (fun w' hk => ?_) ?_; (focus (have q0 := hk.cell cW2_0_0; have q1 := hk.cell cW2_0_1; have q2 := hk.cell cW2_1_0; have q3 := hk.cell cW2_1_1; clear hk; go_simp; exact rfl)); simp only [Act.put, List.setIfInBounds_toArray, List.set_cons_zero, List.set_cons_succ])
    | (refine calm_step _ rfl (HP.out.call ?_) ?_; (focus (intro w'; go_simp; done)); simp only [Act.put, List.setIfInBounds_toArray, List.set_cons_zero, List.set_cons_succ])
    | (refine calm_step _ rfl (HT.out.call ?_) ?_; (focus (intro w'; go_simp; done)); simp only [Act.put, List.setIfInBounds_toArray, List.set_cons_zero, List.set_cons_succ])
    | (refine calm_step _ rfl (HW.out.call ?_) ?_; (focus (intro w'; go_simp; done)); simp only [Act.put, List.setIfInBounds_toArray, List.set_cons_zero, List.set_cons_succ]))
  refine calm_nil ?_
  intro W3 hkW3
  have kW3 := kW2.trans hkW3
  have BW3_0 := BW2_0.kept hkW3
  have BW3_1 := BW2_1.kept hkW3
  clear cW2_0_0 cW2_0_1 cW2_1_0 cW2_1_1 fW2_0 fW2_1 BW2_0 BW2_1 kW2 hkW3
  have cW3_0_0 : W3.cell? ⟨w.heap.size, 0, none⟩ = some (.int .u64 a0) := BW3_0.cell 0 rfl
  have cW3_0_1 : W3.cell? ⟨w.heap.size, 1, none⟩ = some (.int .u64 a1) := BW3_0.cell 1 rfl
  have fW3_0 := BW3_0.free
  have cW3_1_0 : W3.cell? ⟨w.heap.size + 1, 0, none⟩ = some (.int .u64 0) := BW3_1.cell 0 rfl
  have cW3_1_1 : W3.cell? ⟨w.heap.size + 1, 1, none⟩ = some (.int .u64 0) := BW3_1.cell 1 rfl
  have fW3_1 := BW3_1.free
  go_wp2_with fail
  refine bodyPost_ret (v := .tuple #[.agg #[.int .u64 r0, .int .u64 r1], .int .i64 0]) (by simp [results, Try.results55, go_sem, *]) rfl ⟨rfl, ?_⟩
  repeat (first | exact kW3 | (refine Kept.setCell ?_ (kept_side (by first | assumption | omega)) _) | apply Kept.alloc | apply Kept.drew)

set_option maxRecDepth 100000 in
set_option maxHeartbeats 4000000 in
theorem w_Inv_no (a0 a1 : Int) (hO : Pure Try.prog 48 #[.agg #[.int .u64 a0, .int .u64 a1]] (.agg #[.int .u64 0, .int .u64 0])) :
    Pure Try.prog 55 #[.agg #[.int .u64 a0, .int .u64 a1]] (.tuple #[.agg #[.int .u64 0, .int .u64 0], .int .i64 8]) := fun w => by
  have HO := Lib.hid hO
  clear hO
  have hq := fun w => run_eql28 0 0 0 0 w
  go_enter Try.func55, Try.ntmps55
  go_wp2_with fail
  refine abs_calls (fun W => Kept w W ∧ Blk W (w.heap.size) 28 #[.int .u64 a0, .int .u64 a1] ∧ Blk W (w.heap.size + 1) 28 #[.int .u64 0, .int .u64 0]) ?_ ?_
  · refine ⟨?_, ?_, ?_⟩
    · repeat (first | exact Kept.refl _ | (refine Kept.setCell ?_ (kept_side (by first | assumption | omega)) _) | apply Kept.alloc | apply Kept.drew)
    · simp [Blk, *] <;> (intros; omega)
    · simp [Blk, *] <;> (intros; omega)
  rintro W1 ⟨kW1, BW1_0, BW1_1⟩
  have cW1_0_0 : W1.cell? ⟨w.heap.size, 0, none⟩ = some (.int .u64 a0) := BW1_0.cell 0 rfl
  have cW1_0_1 : W1.cell? ⟨w.heap.size, 1, none⟩ = some (.int .u64 a1) := BW1_0.cell 1 rfl
  have fW1_0 := BW1_0.free
  have cW1_1_0 : W1.cell? ⟨w.heap.size + 1, 0, none⟩ = some (.int .u64 0) := BW1_1.cell 0 rfl
  have cW1_1_1 : W1.cell? ⟨w.heap.size + 1, 1, none⟩ = some (.int .u64 0) := BW1_1.cell 1 rfl
  have fW1_1 := BW1_1.free
  refine (HO.out _).mono ?_
  rintro e W2 ⟨rfl, hkW2⟩
  have kW2 := kW1.trans hkW2
  have BW2_0 := BW1_0.kept hkW2
  have BW2_1 := BW1_1.kept hkW2
  clear cW1_0_0 cW1_0_1 cW1_1_0 cW1_1_1 fW1_0 fW1_1 BW1_0 BW1_1 kW1 hkW2
  have cW2_0_0 : W2.cell? ⟨w.heap.size, 0, none⟩ = some (.int .u64 a0) := BW2_0.cell 0 rfl
  have cW2_0_1 : W2.cell? ⟨w.heap.size, 1, none⟩ = some (.int .u64 a1) := BW2_0.cell 1 rfl
  have fW2_0 := BW2_0.free
  have cW2_1_0 : W2.cell? ⟨w.heap.size + 1, 0, none⟩ = some (.int .u64 0) := BW2_1.cell 0 rfl
  have cW2_1_1 : W2.cell? ⟨w.heap.size + 1, 1, none⟩ = some (.int .u64 0) := BW2_1.cell 1 rfl
  have fW2_1 := BW2_1.free
  go_wp2_with fail
  refine bodyPost_ret (v := .tuple #[.agg #[.int .u64 0, .int .u64 0], .int .i64 8]) (by simp [results, Try.results55, go_sem, *]) rfl ⟨rfl, ?_⟩
  repeat (first | exact kW2 | (refine Kept.setCell ?_ (kept_side (by first | assumption | omega)) _) | apply Kept.alloc | apply Kept.drew)

set_option maxRecDepth 100000 in
set_option maxHeartbeats 4000000 in
theorem wide_powers_no (a0 a1 n0 n1 t0 t1 : Int)
    (hK : Pure Try.prog 47 #[] (.bool true)) (hW : Pure Try.prog 54 #[.agg #[.int .u64 a0, .int .u64 a1], .agg #[.int .u64 n0, .int .u64 n1]] (.agg #[.int .u64 t0, .int .u64 t1])) (hR : Pure Try.prog 40 #[.int .i64 2, .agg #[.int .u64 a0, .int .u64 a1], .agg #[.int .u64 n0, .int .u64 n1]] (.agg #[.int .u64 t0, .int .u64 t1]))
    (hne : ∀ s t w, (binOp .neq 28 (.agg #[.int .u64 s, .int .u64 t]) (.agg #[.int .u64 s, .int .u64 t])).run Try.prog w = .ok (.bool false) w)
    (hs : ∀ s t w, (binOp .eql 28 (.agg #[.int .u64 s, .int .u64 t]) (.agg #[.int .u64 s, .int .u64 t])).run Try.prog w = .ok (.bool true) w)
    (hI : Pure Try.prog 55 #[.agg #[.int .u64 a0, .int .u64 a1]] (.tuple #[.agg #[.int .u64 0, .int .u64 0], .int .i64 8])) (hO : Pure Try.prog 48 #[.agg #[.int .u64 a0, .int .u64 a1]] (.agg #[.int .u64 0, .int .u64 0])) (w : World) :
    Calls Try.prog 9 #[.agg #[.int .u64 a0, .int .u64 a1], .agg #[.int .u64 n0, .int .u64 n1]] w fun e w' => e = .returned (.bool true) ∧ Kept w w' := by
  have HK := Lib.hid hK
  have HW := Lib.hid hW
  have HR := Lib.hid hR
  have HI := Lib.hid hI
  have HO := Lib.hid hO
  clear hK hW hR hI hO
  have hq := fun w => run_eql28 0 0 0 0 w
  go_enter Try.func9, Try.ntmps9
  go_wp2_with fail
  refine abs_calls (fun W => Kept w W ∧ Blk W (w.heap.size) 28 #[.int .u64 a0, .int .u64 a1] ∧ Blk W (w.heap.size + 1) 28 #[.int .u64 n0, .int .u64 n1]) ?_ ?_
  · refine ⟨?_, ?_, ?_⟩
    · repeat (first | exact Kept.refl _ | (refine Kept.setCell ?_ (kept_side (by first | assumption | omega)) _) | apply Kept.alloc | apply Kept.drew)
    · simp [Blk, *] <;> (intros; omega)
    · simp [Blk, *] <;> (intros; omega)
  rintro W1 ⟨kW1, BW1_0, BW1_1⟩
  have cW1_0_0 : W1.cell? ⟨w.heap.size, 0, none⟩ = some (.int .u64 a0) := BW1_0.cell 0 rfl
  have cW1_0_1 : W1.cell? ⟨w.heap.size, 1, none⟩ = some (.int .u64 a1) := BW1_0.cell 1 rfl
  have fW1_0 := BW1_0.free
  have cW1_1_0 : W1.cell? ⟨w.heap.size + 1, 0, none⟩ = some (.int .u64 n0) := BW1_1.cell 0 rfl
  have cW1_1_1 : W1.cell? ⟨w.heap.size + 1, 1, none⟩ = some (.int .u64 n1) := BW1_1.cell 1 rfl
  have fW1_1 := BW1_1.free
  refine (HK.out _).mono ?_
  rintro e W2 ⟨rfl, hkW2⟩
  have kW2 := kW1.trans hkW2
  have BW2_0 := BW1_0.kept hkW2
  have BW2_1 := BW1_1.kept hkW2
  clear cW1_0_0 cW1_0_1 cW1_1_0 cW1_1_1 fW1_0 fW1_1 BW1_0 BW1_1 kW1 hkW2
  have cW2_0_0 : W2.cell? ⟨w.heap.size, 0, none⟩ = some (.int .u64 a0) := BW2_0.cell 0 rfl
  have cW2_0_1 : W2.cell? ⟨w.heap.size, 1, none⟩ = some (.int .u64 a1) := BW2_0.cell 1 rfl
  have fW2_0 := BW2_0.free
  have cW2_1_0 : W2.cell? ⟨w.heap.size + 1, 0, none⟩ = some (.int .u64 n0) := BW2_1.cell 0 rfl
  have cW2_1_1 : W2.cell? ⟨w.heap.size + 1, 1, none⟩ = some (.int .u64 n1) := BW2_1.cell 1 rfl
  have fW2_1 := BW2_1.free
  go_wp2_with fail
  refine wp_region_calm 7 (by kernel_rfl) (by kernel_rfl) ?_
  simp only [List.take_succ_cons, List.take_zero, List.drop_succ_cons, List.drop_zero]
  repeat (first
    | (refine calm_skip rfl ?_; simp only [Act.put, List.setIfInBounds_toArray, List.set_cons_zero, List.set_cons_succ])
    | (refine calm_ex rfl ?_; apply Exists.intro; refine And.intro (fun w' hk => ?_) ?_; (focus (have q0 := hk.cell cW2_0_0; have q1 := hk.cell cW2_0_1; have q2 := hk.cell cW2_1_0; have q3 := hk.cell cW2_1_1; clear hk; go_simp; exact rfl)); simp only [Act.put, List.setIfInBounds_toArray, List.set_cons_zero, List.set_cons_succ])
    | (refine calm_step _ rfl (HW.out.call ?_) ?_; (focus (intro w'; go_simp; done)); simp only [Act.put, List.setIfInBounds_toArray, List.set_cons_zero, List.set_cons_succ])
    | (refine calm_step _ rfl (HR.out.call ?_) ?_; (focus (intro w'; go_simp; done)); simp only [Act.put, List.setIfInBounds_toArray, List.set_cons_zero, List.set_cons_succ]))
  refine calm_nil ?_
  intro W3 hkW3
  have kW3 := kW2.trans hkW3
  have BW3_0 := BW2_0.kept hkW3
  have BW3_1 := BW2_1.kept hkW3
  clear cW2_0_0 cW2_0_1 cW2_1_0 cW2_1_1 fW2_0 fW2_1 BW2_0 BW2_1 kW2 hkW3
  have cW3_0_0 : W3.cell? ⟨w.heap.size, 0, none⟩ = some (.int .u64 a0) := BW3_0.cell 0 rfl
  have cW3_0_1 : W3.cell? ⟨w.heap.size, 1, none⟩ = some (.int .u64 a1) := BW3_0.cell 1 rfl
  have fW3_0 := BW3_0.free
  have cW3_1_0 : W3.cell? ⟨w.heap.size + 1, 0, none⟩ = some (.int .u64 n0) := BW3_1.cell 0 rfl
  have cW3_1_1 : W3.cell? ⟨w.heap.size + 1, 1, none⟩ = some (.int .u64 n1) := BW3_1.cell 1 rfl
  have fW3_1 := BW3_1.free
  go_wp2_with fail
  refine (HI.out _).mono ?_
  rintro e W4 ⟨rfl, hkW4⟩
  have kW4 := kW3.trans hkW4
  have BW4_0 := BW3_0.kept hkW4
  have BW4_1 := BW3_1.kept hkW4
  clear cW3_0_0 cW3_0_1 cW3_1_0 cW3_1_1 fW3_0 fW3_1 BW3_0 BW3_1 kW3 hkW4
  have cW4_0_0 : W4.cell? ⟨w.heap.size, 0, none⟩ = some (.int .u64 a0) := BW4_0.cell 0 rfl
  have cW4_0_1 : W4.cell? ⟨w.heap.size, 1, none⟩ = some (.int .u64 a1) := BW4_0.cell 1 rfl
  have fW4_0 := BW4_0.free
  have cW4_1_0 : W4.cell? ⟨w.heap.size + 1, 0, none⟩ = some (.int .u64 n0) := BW4_1.cell 0 rfl
  have cW4_1_1 : W4.cell? ⟨w.heap.size + 1, 1, none⟩ = some (.int .u64 n1) := BW4_1.cell 1 rfl
  have fW4_1 := BW4_1.free
  obtain ⟨b5, hb5⟩ : ∃ b, W4.heap.size = b := ⟨_, rfl⟩
  have neb5_0 : w.heap.size ≠ b5 := by have := BW4_0.lt; omega
  have enb5_0 : b5 ≠ w.heap.size := neb5_0.symm
  have neb5_1 : w.heap.size + 1 ≠ b5 := by have := BW4_1.lt; omega
  have enb5_1 : b5 ≠ w.heap.size + 1 := neb5_1.symm
  have lob5 : w.heap.size ≤ b5 := hb5 ▸ kW4.size
  go_upto_region 6 with (fail)
  refine abs_world (fun W => Kept w W ∧ Blk W (w.heap.size) 28 #[.int .u64 a0, .int .u64 a1] ∧ Blk W (w.heap.size + 1) 28 #[.int .u64 n0, .int .u64 n1] ∧ Blk W (b5) 28 #[.int .u64 0, .int .u64 0]) ?_ ?_
  · refine ⟨?_, ?_, ?_, ?_⟩
    · repeat (first | exact kW4 | (refine Kept.setCell ?_ (kept_side (by first | assumption | omega)) _) | apply Kept.alloc | apply Kept.drew)
    · simp [Blk, *] <;> (intros; omega)
    · simp [Blk, *] <;> (intros; omega)
    · simp [Blk, *] <;> (intros; omega)
  rintro W5 ⟨kW5, BW5_0, BW5_1, BW5_2⟩
  have cW5_0_0 : W5.cell? ⟨w.heap.size, 0, none⟩ = some (.int .u64 a0) := BW5_0.cell 0 rfl
  have cW5_0_1 : W5.cell? ⟨w.heap.size, 1, none⟩ = some (.int .u64 a1) := BW5_0.cell 1 rfl
  have fW5_0 := BW5_0.free
  have cW5_1_0 : W5.cell? ⟨w.heap.size + 1, 0, none⟩ = some (.int .u64 n0) := BW5_1.cell 0 rfl
  have cW5_1_1 : W5.cell? ⟨w.heap.size + 1, 1, none⟩ = some (.int .u64 n1) := BW5_1.cell 1 rfl
  have fW5_1 := BW5_1.free
  have cW5_2_0 : W5.cell? ⟨b5, 0, none⟩ = some (.int .u64 0) := BW5_2.cell 0 rfl
  have cW5_2_1 : W5.cell? ⟨b5, 1, none⟩ = some (.int .u64 0) := BW5_2.cell 1 rfl
  have fW5_2 := BW5_2.free
  go_wp2_with fail
  refine (HO.out _).mono ?_
  rintro e W6 ⟨rfl, hkW6⟩
  have kW6 := kW5.trans hkW6
  have BW6_0 := BW5_0.kept hkW6
  have BW6_1 := BW5_1.kept hkW6
  have BW6_2 := BW5_2.kept hkW6
  clear cW5_0_0 cW5_0_1 cW5_1_0 cW5_1_1 cW5_2_0 cW5_2_1 fW5_0 fW5_1 fW5_2 BW5_0 BW5_1 BW5_2 kW5 hkW6
  have cW6_0_0 : W6.cell? ⟨w.heap.size, 0, none⟩ = some (.int .u64 a0) := BW6_0.cell 0 rfl
  have cW6_0_1 : W6.cell? ⟨w.heap.size, 1, none⟩ = some (.int .u64 a1) := BW6_0.cell 1 rfl
  have fW6_0 := BW6_0.free
  have cW6_1_0 : W6.cell? ⟨w.heap.size + 1, 0, none⟩ = some (.int .u64 n0) := BW6_1.cell 0 rfl
  have cW6_1_1 : W6.cell? ⟨w.heap.size + 1, 1, none⟩ = some (.int .u64 n1) := BW6_1.cell 1 rfl
  have fW6_1 := BW6_1.free
  have cW6_2_0 : W6.cell? ⟨b5, 0, none⟩ = some (.int .u64 0) := BW6_2.cell 0 rfl
  have cW6_2_1 : W6.cell? ⟨b5, 1, none⟩ = some (.int .u64 0) := BW6_2.cell 1 rfl
  have fW6_2 := BW6_2.free
  go_wp2_with fail
  go_ret
  exact ⟨rfl, kW6⟩

set_option maxRecDepth 100000 in
set_option maxHeartbeats 4000000 in
theorem wide_powers_yes (a0 a1 n0 n1 t0 t1 x0 x1 r0 r1 : Int)
    (hK : Pure Try.prog 47 #[] (.bool true)) (hW : Pure Try.prog 54 #[.agg #[.int .u64 a0, .int .u64 a1], .agg #[.int .u64 n0, .int .u64 n1]] (.agg #[.int .u64 t0, .int .u64 t1])) (hR : Pure Try.prog 40 #[.int .i64 2, .agg #[.int .u64 a0, .int .u64 a1], .agg #[.int .u64 n0, .int .u64 n1]] (.agg #[.int .u64 t0, .int .u64 t1]))
    (hne : ∀ s t w, (binOp .neq 28 (.agg #[.int .u64 s, .int .u64 t]) (.agg #[.int .u64 s, .int .u64 t])).run Try.prog w = .ok (.bool false) w)
    (hs : ∀ s t w, (binOp .eql 28 (.agg #[.int .u64 s, .int .u64 t]) (.agg #[.int .u64 s, .int .u64 t])).run Try.prog w = .ok (.bool true) w)
    (hI : Pure Try.prog 55 #[.agg #[.int .u64 a0, .int .u64 a1]] (.tuple #[.agg #[.int .u64 r0, .int .u64 r1], .int .i64 0])) (hO : Pure Try.prog 48 #[.agg #[.int .u64 a0, .int .u64 a1]] (.agg #[.int .u64 x0, .int .u64 x1])) (hx : decide (x0 = 0 ∧ x1 = 0) = false)
    (hIn : Pure Try.prog 49 #[.agg #[.int .u64 r0, .int .u64 r1]] (.bool true)) (hMu : Pure Try.prog 38 #[.int .i64 2, .agg #[.int .u64 a0, .int .u64 a1], .agg #[.int .u64 r0, .int .u64 r1]] (.agg #[.int .u64 1, .int .u64 0])) (w : World) :
    Calls Try.prog 9 #[.agg #[.int .u64 a0, .int .u64 a1], .agg #[.int .u64 n0, .int .u64 n1]] w fun e w' => e = .returned (.bool true) ∧ Kept w w' := by
  have HK := Lib.hid hK
  have HW := Lib.hid hW
  have HR := Lib.hid hR
  have HI := Lib.hid hI
  have HO := Lib.hid hO
  have HIn := Lib.hid hIn
  have HMu := Lib.hid hMu
  clear hK hW hR hI hO hIn hMu
  have hq := fun w => run_eql28 x0 x1 0 0 w
  simp only [hx] at hq
  go_enter Try.func9, Try.ntmps9
  go_wp2_with fail
  refine abs_calls (fun W => Kept w W ∧ Blk W (w.heap.size) 28 #[.int .u64 a0, .int .u64 a1] ∧ Blk W (w.heap.size + 1) 28 #[.int .u64 n0, .int .u64 n1]) ?_ ?_
  · refine ⟨?_, ?_, ?_⟩
    · repeat (first | exact Kept.refl _ | (refine Kept.setCell ?_ (kept_side (by first | assumption | omega)) _) | apply Kept.alloc | apply Kept.drew)
    · simp [Blk, *] <;> (intros; omega)
    · simp [Blk, *] <;> (intros; omega)
  rintro W1 ⟨kW1, BW1_0, BW1_1⟩
  have cW1_0_0 : W1.cell? ⟨w.heap.size, 0, none⟩ = some (.int .u64 a0) := BW1_0.cell 0 rfl
  have cW1_0_1 : W1.cell? ⟨w.heap.size, 1, none⟩ = some (.int .u64 a1) := BW1_0.cell 1 rfl
  have fW1_0 := BW1_0.free
  have cW1_1_0 : W1.cell? ⟨w.heap.size + 1, 0, none⟩ = some (.int .u64 n0) := BW1_1.cell 0 rfl
  have cW1_1_1 : W1.cell? ⟨w.heap.size + 1, 1, none⟩ = some (.int .u64 n1) := BW1_1.cell 1 rfl
  have fW1_1 := BW1_1.free
  refine (HK.out _).mono ?_
  rintro e W2 ⟨rfl, hkW2⟩
  have kW2 := kW1.trans hkW2
  have BW2_0 := BW1_0.kept hkW2
  have BW2_1 := BW1_1.kept hkW2
  clear cW1_0_0 cW1_0_1 cW1_1_0 cW1_1_1 fW1_0 fW1_1 BW1_0 BW1_1 kW1 hkW2
  have cW2_0_0 : W2.cell? ⟨w.heap.size, 0, none⟩ = some (.int .u64 a0) := BW2_0.cell 0 rfl
  have cW2_0_1 : W2.cell? ⟨w.heap.size, 1, none⟩ = some (.int .u64 a1) := BW2_0.cell 1 rfl
  have fW2_0 := BW2_0.free
  have cW2_1_0 : W2.cell? ⟨w.heap.size + 1, 0, none⟩ = some (.int .u64 n0) := BW2_1.cell 0 rfl
  have cW2_1_1 : W2.cell? ⟨w.heap.size + 1, 1, none⟩ = some (.int .u64 n1) := BW2_1.cell 1 rfl
  have fW2_1 := BW2_1.free
  go_wp2_with fail
  refine wp_region_calm 7 (by kernel_rfl) (by kernel_rfl) ?_
  simp only [List.take_succ_cons, List.take_zero, List.drop_succ_cons, List.drop_zero]
  repeat (first
    | (refine calm_skip rfl ?_; simp only [Act.put, List.setIfInBounds_toArray, List.set_cons_zero, List.set_cons_succ])
    | (refine calm_ex rfl ?_; apply Exists.intro; refine And.intro (fun w' hk => ?_) ?_; (focus (have q0 := hk.cell cW2_0_0; have q1 := hk.cell cW2_0_1; have q2 := hk.cell cW2_1_0; have q3 := hk.cell cW2_1_1; clear hk; go_simp; exact rfl)); simp only [Act.put, List.setIfInBounds_toArray, List.set_cons_zero, List.set_cons_succ])
    | (refine calm_step _ rfl (HW.out.call ?_) ?_; (focus (intro w'; go_simp; done)); simp only [Act.put, List.setIfInBounds_toArray, List.set_cons_zero, List.set_cons_succ])
    | (refine calm_step _ rfl (HR.out.call ?_) ?_; (focus (intro w'; go_simp; done)); simp only [Act.put, List.setIfInBounds_toArray, List.set_cons_zero, List.set_cons_succ]))
  refine calm_nil ?_
  intro W3 hkW3
  have kW3 := kW2.trans hkW3
  have BW3_0 := BW2_0.kept hkW3
  have BW3_1 := BW2_1.kept hkW3
  clear cW2_0_0 cW2_0_1 cW2_1_0 cW2_1_1 fW2_0 fW2_1 BW2_0 BW2_1 kW2 hkW3
  have cW3_0_0 : W3.cell? ⟨w.heap.size, 0, none⟩ = some (.int .u64 a0) := BW3_0.cell 0 rfl
  have cW3_0_1 : W3.cell? ⟨w.heap.size, 1, none⟩ = some (.int .u64 a1) := BW3_0.cell 1 rfl
  have fW3_0 := BW3_0.free
  have cW3_1_0 : W3.cell? ⟨w.heap.size + 1, 0, none⟩ = some (.int .u64 n0) := BW3_1.cell 0 rfl
  have cW3_1_1 : W3.cell? ⟨w.heap.size + 1, 1, none⟩ = some (.int .u64 n1) := BW3_1.cell 1 rfl
  have fW3_1 := BW3_1.free
  go_wp2_with fail
  refine (HI.out _).mono ?_
  rintro e W4 ⟨rfl, hkW4⟩
  have kW4 := kW3.trans hkW4
  have BW4_0 := BW3_0.kept hkW4
  have BW4_1 := BW3_1.kept hkW4
  clear cW3_0_0 cW3_0_1 cW3_1_0 cW3_1_1 fW3_0 fW3_1 BW3_0 BW3_1 kW3 hkW4
  have cW4_0_0 : W4.cell? ⟨w.heap.size, 0, none⟩ = some (.int .u64 a0) := BW4_0.cell 0 rfl
  have cW4_0_1 : W4.cell? ⟨w.heap.size, 1, none⟩ = some (.int .u64 a1) := BW4_0.cell 1 rfl
  have fW4_0 := BW4_0.free
  have cW4_1_0 : W4.cell? ⟨w.heap.size + 1, 0, none⟩ = some (.int .u64 n0) := BW4_1.cell 0 rfl
  have cW4_1_1 : W4.cell? ⟨w.heap.size + 1, 1, none⟩ = some (.int .u64 n1) := BW4_1.cell 1 rfl
  have fW4_1 := BW4_1.free
  obtain ⟨b5, hb5⟩ : ∃ b, W4.heap.size = b := ⟨_, rfl⟩
  have neb5_0 : w.heap.size ≠ b5 := by have := BW4_0.lt; omega
  have enb5_0 : b5 ≠ w.heap.size := neb5_0.symm
  have neb5_1 : w.heap.size + 1 ≠ b5 := by have := BW4_1.lt; omega
  have enb5_1 : b5 ≠ w.heap.size + 1 := neb5_1.symm
  have lob5 : w.heap.size ≤ b5 := hb5 ▸ kW4.size
  go_upto_region 6 with (fail)
  refine abs_world (fun W => Kept w W ∧ Blk W (w.heap.size) 28 #[.int .u64 a0, .int .u64 a1] ∧ Blk W (w.heap.size + 1) 28 #[.int .u64 n0, .int .u64 n1] ∧ Blk W (b5) 28 #[.int .u64 r0, .int .u64 r1]) ?_ ?_
  · refine ⟨?_, ?_, ?_, ?_⟩
    · repeat (first | exact kW4 | (refine Kept.setCell ?_ (kept_side (by first | assumption | omega)) _) | apply Kept.alloc | apply Kept.drew)
    · simp [Blk, *] <;> (intros; omega)
    · simp [Blk, *] <;> (intros; omega)
    · simp [Blk, *] <;> (intros; omega)
  rintro W5 ⟨kW5, BW5_0, BW5_1, BW5_2⟩
  have cW5_0_0 : W5.cell? ⟨w.heap.size, 0, none⟩ = some (.int .u64 a0) := BW5_0.cell 0 rfl
  have cW5_0_1 : W5.cell? ⟨w.heap.size, 1, none⟩ = some (.int .u64 a1) := BW5_0.cell 1 rfl
  have fW5_0 := BW5_0.free
  have cW5_1_0 : W5.cell? ⟨w.heap.size + 1, 0, none⟩ = some (.int .u64 n0) := BW5_1.cell 0 rfl
  have cW5_1_1 : W5.cell? ⟨w.heap.size + 1, 1, none⟩ = some (.int .u64 n1) := BW5_1.cell 1 rfl
  have fW5_1 := BW5_1.free
  have cW5_2_0 : W5.cell? ⟨b5, 0, none⟩ = some (.int .u64 r0) := BW5_2.cell 0 rfl
  have cW5_2_1 : W5.cell? ⟨b5, 1, none⟩ = some (.int .u64 r1) := BW5_2.cell 1 rfl
  have fW5_2 := BW5_2.free
  go_wp2_with fail
  refine (HO.out _).mono ?_
  rintro e W6 ⟨rfl, hkW6⟩
  have kW6 := kW5.trans hkW6
  have BW6_0 := BW5_0.kept hkW6
  have BW6_1 := BW5_1.kept hkW6
  have BW6_2 := BW5_2.kept hkW6
  clear cW5_0_0 cW5_0_1 cW5_1_0 cW5_1_1 cW5_2_0 cW5_2_1 fW5_0 fW5_1 fW5_2 BW5_0 BW5_1 BW5_2 kW5 hkW6
  have cW6_0_0 : W6.cell? ⟨w.heap.size, 0, none⟩ = some (.int .u64 a0) := BW6_0.cell 0 rfl
  have cW6_0_1 : W6.cell? ⟨w.heap.size, 1, none⟩ = some (.int .u64 a1) := BW6_0.cell 1 rfl
  have fW6_0 := BW6_0.free
  have cW6_1_0 : W6.cell? ⟨w.heap.size + 1, 0, none⟩ = some (.int .u64 n0) := BW6_1.cell 0 rfl
  have cW6_1_1 : W6.cell? ⟨w.heap.size + 1, 1, none⟩ = some (.int .u64 n1) := BW6_1.cell 1 rfl
  have fW6_1 := BW6_1.free
  have cW6_2_0 : W6.cell? ⟨b5, 0, none⟩ = some (.int .u64 r0) := BW6_2.cell 0 rfl
  have cW6_2_1 : W6.cell? ⟨b5, 1, none⟩ = some (.int .u64 r1) := BW6_2.cell 1 rfl
  have fW6_2 := BW6_2.free
  go_wp2_with fail
  refine (HIn.out _).mono ?_
  rintro e W7 ⟨rfl, hkW7⟩
  have kW7 := kW6.trans hkW7
  have BW7_0 := BW6_0.kept hkW7
  have BW7_1 := BW6_1.kept hkW7
  have BW7_2 := BW6_2.kept hkW7
  clear cW6_0_0 cW6_0_1 cW6_1_0 cW6_1_1 cW6_2_0 cW6_2_1 fW6_0 fW6_1 fW6_2 BW6_0 BW6_1 BW6_2 kW6 hkW7
  have cW7_0_0 : W7.cell? ⟨w.heap.size, 0, none⟩ = some (.int .u64 a0) := BW7_0.cell 0 rfl
  have cW7_0_1 : W7.cell? ⟨w.heap.size, 1, none⟩ = some (.int .u64 a1) := BW7_0.cell 1 rfl
  have fW7_0 := BW7_0.free
  have cW7_1_0 : W7.cell? ⟨w.heap.size + 1, 0, none⟩ = some (.int .u64 n0) := BW7_1.cell 0 rfl
  have cW7_1_1 : W7.cell? ⟨w.heap.size + 1, 1, none⟩ = some (.int .u64 n1) := BW7_1.cell 1 rfl
  have fW7_1 := BW7_1.free
  have cW7_2_0 : W7.cell? ⟨b5, 0, none⟩ = some (.int .u64 r0) := BW7_2.cell 0 rfl
  have cW7_2_1 : W7.cell? ⟨b5, 1, none⟩ = some (.int .u64 r1) := BW7_2.cell 1 rfl
  have fW7_2 := BW7_2.free
  go_wp2_with fail
  refine (HMu.out _).mono ?_
  rintro e W8 ⟨rfl, hkW8⟩
  have kW8 := kW7.trans hkW8
  have BW8_0 := BW7_0.kept hkW8
  have BW8_1 := BW7_1.kept hkW8
  have BW8_2 := BW7_2.kept hkW8
  clear cW7_0_0 cW7_0_1 cW7_1_0 cW7_1_1 cW7_2_0 cW7_2_1 fW7_0 fW7_1 fW7_2 BW7_0 BW7_1 BW7_2 kW7 hkW8
  have cW8_0_0 : W8.cell? ⟨w.heap.size, 0, none⟩ = some (.int .u64 a0) := BW8_0.cell 0 rfl
  have cW8_0_1 : W8.cell? ⟨w.heap.size, 1, none⟩ = some (.int .u64 a1) := BW8_0.cell 1 rfl
  have fW8_0 := BW8_0.free
  have cW8_1_0 : W8.cell? ⟨w.heap.size + 1, 0, none⟩ = some (.int .u64 n0) := BW8_1.cell 0 rfl
  have cW8_1_1 : W8.cell? ⟨w.heap.size + 1, 1, none⟩ = some (.int .u64 n1) := BW8_1.cell 1 rfl
  have fW8_1 := BW8_1.free
  have cW8_2_0 : W8.cell? ⟨b5, 0, none⟩ = some (.int .u64 r0) := BW8_2.cell 0 rfl
  have cW8_2_1 : W8.cell? ⟨b5, 1, none⟩ = some (.int .u64 r1) := BW8_2.cell 1 rfl
  have fW8_2 := BW8_2.free
  go_wp2_with fail
  go_ret
  exact ⟨rfl, kW8⟩

def eW : Nat := Int.toNat 340282366920938462946865773367900766207
theorem eW_eq : eW + 1 = wN - 1 := by decide +kernel

theorem fermat_wideI (a : Int) (h0 : 0 ≤ a) (h : a % wP ≠ 0) : a * (a ^ eW % wP) % wP = 1 := by
  obtain ⟨A, rfl⟩ := Int.eq_ofNat_of_zero_le h0
  have hA : A % wN ≠ 0 := by unfold wN; unfold wP at h; omega
  have hf := fermat_wide A hA
  rw [← eW_eq, Nat.pow_succ] at hf
  rw [Int.mul_emod, Int.emod_emod, ← Int.mul_emod]
  have e : (A : Int) * (A : Int) ^ eW = ((A ^ eW * A : Nat) : Int) := by
    rw [Int.natCast_mul, Int.natCast_pow, Int.mul_comm]
  rw [e, show wP = (wN : Int) from rfl, ← Int.natCast_emod, hf]
  rfl

theorem eW_val : ((eW : Nat) : Int) = 340282366920938462946865773367900766207 := by decide +kernel

theorem neq28_self (s t : Int) (w : World) : (binOp .neq 28 (.agg #[.int .u64 s, .int .u64 t]) (.agg #[.int .u64 s, .int .u64 t])).run Try.prog w = .ok (.bool false) w := by rw [run_neq28]; simp

theorem w_Inv {a : Int} (ha : is128 a) (h : a % wP ≠ 0) : Pure Try.prog 55 #[E a] (.tuple #[E (a ^ eW % wP), .int .i64 0]) := by
  have hx := is128_emod_w a
  have hT := w_take (a := wP) (b := 2) is128_wP (by unfold is128; omega)
  rw [show (wP - 2) % 340282366920938463463374607431768211456 = ((eW : Nat) : Int) by rw [eW_val]; unfold wP; omega] at hT
  have hW := w_Pow (n := eW) ha (by rw [eW_val]; unfold is128; omega)
  exact w_Inv_yes _ _ _ _ _ _ _ _ _ _ (w_Of ha) (decide_eq_false (by unfold is128 at hx; omega)) w_P hT hW

theorem w_Inv_nought {a : Int} (ha : is128 a) (h : a % wP = 0) : Pure Try.prog 55 #[E a] (.tuple #[.agg #[.int .u64 0, .int .u64 0], .int .i64 8]) := by
  have ho := w_Of ha
  rw [h] at ho
  exact w_Inv_no _ _ ho

theorem wide_powers_E {a n : Int} (ha : is128 a) (hn : is128 n) (w : World) :
    Calls Try.prog 9 #[E a, E n] w fun e w' => e = .returned (.bool true) ∧ Kept w w' := by
  obtain ⟨N, rfl⟩ := Int.eq_ofNat_of_zero_le hn.1
  have hW := w_Pow ha hn
  have hR := ref_Pow (f := 2) (a := a) (n := N) isF2 ha hn
  rw [rOf2, rP2, emod_pow] at hR
  by_cases h : a % wP = 0
  · have ho := w_Of ha
    rw [h] at ho
    exact wide_powers_no _ _ _ _ _ _ wide_Awake hW hR neq28_self eql28_self (w_Inv_nought ha h) ho w
  · have hx := is128_emod_w a
    have hr := is128_emod_w (a ^ eW)
    have hf := fermat_wideI a ha.1 h
    have hi := w_Inv ha h
    have hlt : a ^ eW % wP < wP := by
      have := Int.emod_lt_of_pos (a ^ eW) (b := wP) (by unfold wP; omega)
      exact this
    generalize a ^ eW % wP = R at *
    have hIn := w_In hr
    rw [decide_eq_true hlt] at hIn
    have hMu := ref_Mul isF2 ha hr
    rw [rOf2, rOf2, rP2, ← Int.mul_emod, hf] at hMu
    exact wide_powers_yes _ _ _ _ _ _ _ _ _ _ wide_Awake hW hR neq28_self eql28_self hi (w_Of ha) (decide_eq_false (by unfold is128 at hx; omega)) hIn hMu w

theorem wide_powers_law (a : List Int) (la : a.length = 2) (wa : ∀ z ∈ a, (Lit.int .u64 z).wf = true) (b : List Int) (lb : b.length = 2) (wb : ∀ z ∈ b, (Lit.int .u64 z).wf = true) (w : World) :
    Calls Try.prog 9 #[.agg (a.map (Value.int .u64)).toArray, .agg (b.map (Value.int .u64)).toArray] w fun e w' => e = .returned (.bool true) ∧ Kept w w' := by
  obtain ⟨n, hn, en⟩ := elem_of la wa
  obtain ⟨m, hm, em⟩ := elem_of lb wb
  rw [en, em]
  exact wide_powers_E hn hm w

end Go.Proofs.Ytnajihlhcdedgaa

namespace Go.Proofs.Ytnajihlhcdedgaa
open Go.RowKit
set_option linter.unusedVariables false
set_option linter.unusedSimpArgs false
attribute [local simp] blkAt_setCell blkAt_alloc blkAt_drew Obj.put_cells

set_option maxRecDepth 100000 in
set_option maxHeartbeats 2000000 in
theorem w_Root_in (l : Int) (r0 r1 : Nat → Int) (h0 : 0 ≤ l) (h1 : l ≤ 66) (hR : Pure Try.prog 54 #[.agg #[.int .u64 7, .int .u64 0], .agg #[.int .u64 4611686018427387897, .int .u64 0]] (.agg #[.int .u64 (r0 0), .int .u64 (r1 0)]))
    (hM : Hid (∀ k, Pure Try.prog 53 #[.agg #[.int .u64 (r0 k), .int .u64 (r1 k)], .agg #[.int .u64 (r0 k), .int .u64 (r1 k)]] (.agg #[.int .u64 (r0 (k + 1)), .int .u64 (r1 (k + 1))]))) (N : Nat) (hN : Hid (N = (66 - l).toNat)) :
    Pure Try.prog 68 #[.int .i64 l] (.tuple #[.agg #[.int .u64 (r0 N), .int .u64 (r1 N)], .int .i64 0]) := fun w => by
  have hl1 : ¬ l < 0 := by omega
  have hl2 : ¬ 66 < l := by omega
  have hN1 : N ≤ 66 := by have := hN.out; omega
  have hN2 : (N : Int) ≤ 66 - l := by have := hN.out; omega
  have hN3 : 66 - l ≤ (N : Int) := by have := hN.out; omega
  have HR := Lib.hid hR
  clear hR
  go_enter Try.func68, Try.ntmps68
  go_wp2_with fail
  refine abs_calls (fun W => Kept w W ∧ Blk W (w.heap.size) 28 #[.int .u64 0, .int .u64 0]) ?_ ?_
  · refine ⟨?_, ?_⟩
    · repeat (first | exact Kept.refl _ | (refine Kept.setCell ?_ (kept_side (by first | assumption | omega)) _) | apply Kept.alloc | apply Kept.drew)
    · simp [Blk, *] <;> (intros; omega)
  rintro W1 ⟨kW1, BW1_0⟩
  have cW1_0_0 : W1.cell? ⟨w.heap.size, 0, none⟩ = some (.int .u64 0) := BW1_0.cell 0 rfl
  have cW1_0_1 : W1.cell? ⟨w.heap.size, 1, none⟩ = some (.int .u64 0) := BW1_0.cell 1 rfl
  have fW1_0 := BW1_0.free
  refine (HR.out _).mono ?_
  rintro e W2 ⟨rfl, hkW2⟩
  have kW2 := kW1.trans hkW2
  have BW2_0 := BW1_0.kept hkW2
  clear cW1_0_0 cW1_0_1 fW1_0 BW1_0 kW1 hkW2
  have cW2_0_0 : W2.cell? ⟨w.heap.size, 0, none⟩ = some (.int .u64 0) := BW2_0.cell 0 rfl
  have cW2_0_1 : W2.cell? ⟨w.heap.size, 1, none⟩ = some (.int .u64 0) := BW2_0.cell 1 rfl
  have fW2_0 := BW2_0.free
  obtain ⟨b4, hb4⟩ : ∃ b, W2.heap.size = b := ⟨_, rfl⟩
  have neb4_0 : w.heap.size ≠ b4 := by have := BW2_0.lt; omega
  have enb4_0 : b4 ≠ w.heap.size := neb4_0.symm
  have lob4 : w.heap.size ≤ b4 := hb4 ▸ kW2.size
  go_wp2_with fail
  refine abs_world (fun W => Kept w W ∧ Blk W (w.heap.size) 28 #[.int .u64 0, .int .u64 0] ∧ Blk W (b4) 28 #[.int .u64 (r0 0), .int .u64 (r1 0)]) ?_ ?_
  · refine ⟨?_, ?_, ?_⟩
    · repeat (first | exact kW2 | (refine Kept.setCell ?_ (kept_side (by first | assumption | omega)) _) | apply Kept.alloc | apply Kept.drew)
    · simp [Blk, *] <;> (intros; omega)
    · simp [Blk, *] <;> (intros; omega)
  rintro W3 ⟨kW3, BW3_0, BW3_1⟩
  have cW3_0_0 : W3.cell? ⟨w.heap.size, 0, none⟩ = some (.int .u64 0) := BW3_0.cell 0 rfl
  have cW3_0_1 : W3.cell? ⟨w.heap.size, 1, none⟩ = some (.int .u64 0) := BW3_0.cell 1 rfl
  have fW3_0 := BW3_0.free
  have cW3_1_0 : W3.cell? ⟨b4, 0, none⟩ = some (.int .u64 (r0 0)) := BW3_1.cell 0 rfl
  have cW3_1_1 : W3.cell? ⟨b4, 1, none⟩ = some (.int .u64 (r1 0)) := BW3_1.cell 1 rfl
  have fW3_1 := BW3_1.free
  go_loopw [17] (fun t wr => ∃ k : Nat, k ≤ N ∧ t = .int .i64 (k : Int) ∧ Kept w wr ∧ Blk wr (w.heap.size) 28 #[.int .u64 0, .int .u64 0] ∧ Blk wr (b4) 28 #[.int .u64 (r0 k), .int .u64 (r1 k)]) (fun t _ => N - (intOf t).toNat)
  case atStart => exact ⟨0, Nat.zero_le _, rfl, kW3, BW3_0, BW3_1⟩
  case round =>
    clear cW3_0_0 cW3_0_1 cW3_1_0 cW3_1_1 fW3_0 fW3_1 BW3_0 BW3_1 kW3
    obtain ⟨k, hk, rfl, kwr, Bwr_0, Bwr_1⟩ := hrel
    have cwr_0_0 : wr.cell? ⟨w.heap.size, 0, none⟩ = some (.int .u64 0) := Bwr_0.cell 0 rfl
    have cwr_0_1 : wr.cell? ⟨w.heap.size, 1, none⟩ = some (.int .u64 0) := Bwr_0.cell 1 rfl
    have fwr_0 := Bwr_0.free
    have cwr_1_0 : wr.cell? ⟨b4, 0, none⟩ = some (.int .u64 (r0 k)) := Bwr_1.cell 0 rfl
    have cwr_1_1 : wr.cell? ⟨b4, 1, none⟩ = some (.int .u64 (r1 k)) := Bwr_1.cell 1 rfl
    have fwr_1 := Bwr_1.free
    by_cases hlt : k < N
    · skip
      have HS := Lib.hid (hM.out k)
      go_wp2_with fail
      refine (HS.out _).mono ?_
      rintro e W4 ⟨rfl, hkW4⟩
      have kW4 := kwr.trans hkW4
      have BW4_0 := Bwr_0.kept hkW4
      have BW4_1 := Bwr_1.kept hkW4
      clear cwr_0_0 cwr_0_1 cwr_1_0 cwr_1_1 fwr_0 fwr_1 Bwr_0 Bwr_1 kwr hkW4
      have cW4_0_0 : W4.cell? ⟨w.heap.size, 0, none⟩ = some (.int .u64 0) := BW4_0.cell 0 rfl
      have cW4_0_1 : W4.cell? ⟨w.heap.size, 1, none⟩ = some (.int .u64 0) := BW4_0.cell 1 rfl
      have fW4_0 := BW4_0.free
      have cW4_1_0 : W4.cell? ⟨b4, 0, none⟩ = some (.int .u64 (r0 k)) := BW4_1.cell 0 rfl
      have cW4_1_1 : W4.cell? ⟨b4, 1, none⟩ = some (.int .u64 (r1 k)) := BW4_1.cell 1 rfl
      have fW4_1 := BW4_1.free
      go_wp2_with fail
      go_roundw
      case rel =>
        refine ⟨k + 1, by omega, by go_num, ?_, ?_, ?_⟩
        · repeat (first | exact kW4 | (refine Kept.setCell ?_ (kept_side (by first | assumption | omega)) _) | apply Kept.alloc | apply Kept.drew)
        · simp [Blk, *] <;> (intros; omega)
        · simp [Blk, *] <;> (intros; omega)
      case measure => (simp [intOf]) <;> omega
    · skip
      obtain rfl : k = N := by omega
      go_wp2_with fail
      refine bodyPost_ret (v := .tuple #[.agg #[.int .u64 (r0 k), .int .u64 (r1 k)], .int .i64 0]) (by simp [results, Try.results68, go_sem, *]) rfl ⟨rfl, ?_⟩
      repeat (first | exact kwr | (refine Kept.setCell ?_ (kept_side (by first | assumption | omega)) _) | apply Kept.alloc | apply Kept.drew)

set_option maxRecDepth 100000 in
set_option maxHeartbeats 2000000 in
theorem w_Root_no (l : Int) (h : l < 0 ∨ 66 < l) : Pure Try.prog 68 #[.int .i64 l] (.tuple #[.agg #[.int .u64 0, .int .u64 0], .int .i64 6]) := fun w => by
  rcases h with h | h
  · skip
    go_enter Try.func68, Try.ntmps68
    go_wp2_with fail
    refine bodyPost_ret (v := .tuple #[.agg #[.int .u64 0, .int .u64 0], .int .i64 6]) (by simp [results, Try.results68, go_sem, *]) rfl ⟨rfl, ?_⟩
    repeat (first | exact Kept.refl _ | (refine Kept.setCell ?_ (kept_side (by first | assumption | omega)) _) | apply Kept.alloc | apply Kept.drew)
  · have hl1 : ¬ l < 0 := by omega
    go_enter Try.func68, Try.ntmps68
    go_wp2_with fail
    refine bodyPost_ret (v := .tuple #[.agg #[.int .u64 0, .int .u64 0], .int .i64 6]) (by simp [results, Try.results68, go_sem, *]) rfl ⟨rfl, ?_⟩
    repeat (first | exact Kept.refl _ | (refine Kept.setCell ?_ (kept_side (by first | assumption | omega)) _) | apply Kept.alloc | apply Kept.drew)

set_option maxRecDepth 100000 in
set_option maxHeartbeats 2000000 in
theorem wide_roots_no (l : Int) (h : l < 0 ∨ 66 < l) (hK : Pure Try.prog 47 #[] (.bool true)) (hR : Pure Try.prog 68 #[.int .i64 l] (.tuple #[.agg #[.int .u64 0, .int .u64 0], .int .i64 6])) (w : World) :
    Calls Try.prog 15 #[.int .i64 l] w fun e w' => e = .returned (.bool true) ∧ Kept w w' := by
  have HK := Lib.hid hK
  have HR := Lib.hid hR
  clear hK hR
  rcases h with h | h
  · skip
    have kw := Kept.refl w
    have hq := fun w => eql28_self 0 0 w
    go_enter Try.func15, Try.ntmps15
    go_wp2_with fail
    refine (HK.out _).mono ?_
    rintro e W1 ⟨rfl, hkW1⟩
    have kW1 := kw.trans hkW1
    clear kw hkW1
    go_wp2_with fail
    refine (HR.out _).mono ?_
    rintro e W2 ⟨rfl, hkW2⟩
    have kW2 := kW1.trans hkW2
    clear kW1 hkW2
    obtain ⟨b3, hb3⟩ : ∃ b, W2.heap.size = b := ⟨_, rfl⟩
    have lob3 : w.heap.size ≤ b3 := hb3 ▸ kW2.size
    go_upto_region 4 with (fail)
    refine abs_world (fun W => Kept w W ∧ Blk W (b3) 28 #[.int .u64 0, .int .u64 0]) ?_ ?_
    · refine ⟨?_, ?_⟩
      · repeat (first | exact kW2 | (refine Kept.setCell ?_ (kept_side (by first | assumption | omega)) _) | apply Kept.alloc | apply Kept.drew)
      · simp [Blk, *] <;> (intros; omega)
    rintro W3 ⟨kW3, BW3_0⟩
    have cW3_0_0 : W3.cell? ⟨b3, 0, none⟩ = some (.int .u64 0) := BW3_0.cell 0 rfl
    have cW3_0_1 : W3.cell? ⟨b3, 1, none⟩ = some (.int .u64 0) := BW3_0.cell 1 rfl
    have fW3_0 := BW3_0.free
    go_wp2_with fail
    go_ret
    exact ⟨rfl, kW3⟩
  · have hl1 : ¬ l < 0 := by omega
    have kw := Kept.refl w
    have hq := fun w => eql28_self 0 0 w
    go_enter Try.func15, Try.ntmps15
    go_wp2_with fail
    refine (HK.out _).mono ?_
    rintro e W1 ⟨rfl, hkW1⟩
    have kW1 := kw.trans hkW1
    clear kw hkW1
    go_wp2_with fail
    refine (HR.out _).mono ?_
    rintro e W2 ⟨rfl, hkW2⟩
    have kW2 := kW1.trans hkW2
    clear kW1 hkW2
    obtain ⟨b3, hb3⟩ : ∃ b, W2.heap.size = b := ⟨_, rfl⟩
    have lob3 : w.heap.size ≤ b3 := hb3 ▸ kW2.size
    go_upto_region 4 with (fail)
    refine abs_world (fun W => Kept w W ∧ Blk W (b3) 28 #[.int .u64 0, .int .u64 0]) ?_ ?_
    · refine ⟨?_, ?_⟩
      · repeat (first | exact kW2 | (refine Kept.setCell ?_ (kept_side (by first | assumption | omega)) _) | apply Kept.alloc | apply Kept.drew)
      · simp [Blk, *] <;> (intros; omega)
    rintro W3 ⟨kW3, BW3_0⟩
    have cW3_0_0 : W3.cell? ⟨b3, 0, none⟩ = some (.int .u64 0) := BW3_0.cell 0 rfl
    have cW3_0_1 : W3.cell? ⟨b3, 1, none⟩ = some (.int .u64 0) := BW3_0.cell 1 rfl
    have fW3_0 := BW3_0.free
    go_wp2_with fail
    go_ret
    exact ⟨rfl, kW3⟩

set_option maxRecDepth 100000 in
set_option maxHeartbeats 2000000 in
theorem wide_roots_nought (hK : Pure Try.prog 47 #[] (.bool true)) (hR : Pure Try.prog 68 #[.int .i64 0] (.tuple #[.agg #[.int .u64 1, .int .u64 0], .int .i64 0])) (w : World) :
    Calls Try.prog 15 #[.int .i64 0] w fun e w' => e = .returned (.bool true) ∧ Kept w w' := by
  have HK := Lib.hid hK
  have HR := Lib.hid hR
  clear hK hR
  have kw := Kept.refl w
  have hq := fun w => eql28_self 1 0 w
  go_enter Try.func15, Try.ntmps15
  go_wp2_with fail
  refine (HK.out _).mono ?_
  rintro e W1 ⟨rfl, hkW1⟩
  have kW1 := kw.trans hkW1
  clear kw hkW1
  go_wp2_with fail
  refine (HR.out _).mono ?_
  rintro e W2 ⟨rfl, hkW2⟩
  have kW2 := kW1.trans hkW2
  clear kW1 hkW2
  obtain ⟨b3, hb3⟩ : ∃ b, W2.heap.size = b := ⟨_, rfl⟩
  have lob3 : w.heap.size ≤ b3 := hb3 ▸ kW2.size
  go_upto_region 4 with (fail)
  refine abs_world (fun W => Kept w W ∧ Blk W (b3) 28 #[.int .u64 1, .int .u64 0]) ?_ ?_
  · refine ⟨?_, ?_⟩
    · repeat (first | exact kW2 | (refine Kept.setCell ?_ (kept_side (by first | assumption | omega)) _) | apply Kept.alloc | apply Kept.drew)
    · simp [Blk, *] <;> (intros; omega)
  rintro W3 ⟨kW3, BW3_0⟩
  have cW3_0_0 : W3.cell? ⟨b3, 0, none⟩ = some (.int .u64 1) := BW3_0.cell 0 rfl
  have cW3_0_1 : W3.cell? ⟨b3, 1, none⟩ = some (.int .u64 0) := BW3_0.cell 1 rfl
  have fW3_0 := BW3_0.free
  go_wp2_with fail
  go_ret
  exact ⟨rfl, kW3⟩

set_option maxRecDepth 100000 in
set_option maxHeartbeats 2000000 in
theorem wide_roots_yes (l : Int) (N : Nat) (r0 r1 : Nat → Int) (y0 y1 : Int) (h0 : 1 ≤ l) (h1 : l ≤ 66) (hN : Hid (N = (66 - l).toNat))
    (hK : Pure Try.prog 47 #[] (.bool true)) (hR : Pure Try.prog 68 #[.int .i64 l] (.tuple #[.agg #[.int .u64 (r0 N), .int .u64 (r1 N)], .int .i64 0]))
    (hM : Hid (∀ k, Pure Try.prog 53 #[.agg #[.int .u64 (r0 k), .int .u64 (r1 k)], .agg #[.int .u64 (r0 k), .int .u64 (r1 k)]] (.agg #[.int .u64 (r0 (k + 1)), .int .u64 (r1 (k + 1))]))) (h65 : Hid (r0 65 = y0 ∧ r1 65 = y1))
    (hNe : Pure Try.prog 52 #[.agg #[.int .u64 1, .int .u64 0]] (.agg #[.int .u64 y0, .int .u64 y1]))
    (hs : ∀ s t w, (binOp .eql 28 (.agg #[.int .u64 s, .int .u64 t]) (.agg #[.int .u64 s, .int .u64 t])).run Try.prog w = .ok (.bool true) w) (w : World) :
    Calls Try.prog 15 #[.int .i64 l] w fun e w' => e = .returned (.bool true) ∧ Kept w w' := by
  have HK := Lib.hid hK
  have HR := Lib.hid hR
  have HNe := Lib.hid hNe
  clear hK hR hNe
  have hl1 : ¬ l < 0 := by omega
  have hl2 : ¬ 66 < l := by omega
  have hl3 : (l == 0) = false := by simp; omega
  have hl4 : 0 ≤ l - 1 := by omega
  have kw := Kept.refl w
  go_enter Try.func15, Try.ntmps15
  go_wp2_with fail
  refine (HK.out _).mono ?_
  rintro e W1 ⟨rfl, hkW1⟩
  have kW1 := kw.trans hkW1
  clear kw hkW1
  go_wp2_with fail
  refine (HR.out _).mono ?_
  rintro e W2 ⟨rfl, hkW2⟩
  have kW2 := kW1.trans hkW2
  clear kW1 hkW2
  obtain ⟨b3, hb3⟩ : ∃ b, W2.heap.size = b := ⟨_, rfl⟩
  have lob3 : w.heap.size ≤ b3 := hb3 ▸ kW2.size
  go_upto_region 4 with (fail)
  refine abs_world (fun W => Kept w W ∧ Blk W (b3) 28 #[.int .u64 (r0 N), .int .u64 (r1 N)]) ?_ ?_
  · refine ⟨?_, ?_⟩
    · repeat (first | exact kW2 | (refine Kept.setCell ?_ (kept_side (by first | assumption | omega)) _) | apply Kept.alloc | apply Kept.drew)
    · simp [Blk, *] <;> (intros; omega)
  rintro W3 ⟨kW3, BW3_0⟩
  have cW3_0_0 : W3.cell? ⟨b3, 0, none⟩ = some (.int .u64 (r0 N)) := BW3_0.cell 0 rfl
  have cW3_0_1 : W3.cell? ⟨b3, 1, none⟩ = some (.int .u64 (r1 N)) := BW3_0.cell 1 rfl
  have fW3_0 := BW3_0.free
  obtain ⟨b5, hb5⟩ : ∃ b, W3.heap.size = b := ⟨_, rfl⟩
  have neb5_0 : b3 ≠ b5 := by have := BW3_0.lt; omega
  have enb5_0 : b5 ≠ b3 := neb5_0.symm
  have lob5 : w.heap.size ≤ b5 := hb5 ▸ kW3.size
  go_wp2_with fail
  refine abs_world (fun W => Kept w W ∧ Blk W (b3) 28 #[.int .u64 (r0 N), .int .u64 (r1 N)] ∧ Blk W (b5) 28 #[.int .u64 (r0 N), .int .u64 (r1 N)]) ?_ ?_
  · refine ⟨?_, ?_, ?_⟩
    · repeat (first | exact kW3 | (refine Kept.setCell ?_ (kept_side (by first | assumption | omega)) _) | apply Kept.alloc | apply Kept.drew)
    · simp [Blk, *] <;> (intros; omega)
    · simp [Blk, *] <;> (intros; omega)
  rintro W4 ⟨kW4, BW4_0, BW4_1⟩
  have cW4_0_0 : W4.cell? ⟨b3, 0, none⟩ = some (.int .u64 (r0 N)) := BW4_0.cell 0 rfl
  have cW4_0_1 : W4.cell? ⟨b3, 1, none⟩ = some (.int .u64 (r1 N)) := BW4_0.cell 1 rfl
  have fW4_0 := BW4_0.free
  have cW4_1_0 : W4.cell? ⟨b5, 0, none⟩ = some (.int .u64 (r0 N)) := BW4_1.cell 0 rfl
  have cW4_1_1 : W4.cell? ⟨b5, 1, none⟩ = some (.int .u64 (r1 N)) := BW4_1.cell 1 rfl
  have fW4_1 := BW4_1.free
  go_loopw [38] (fun t wr => ∃ k : Nat, (k : Int) ≤ l - 1 ∧ t = .int .i64 (k : Int) ∧ Kept w wr ∧ Blk wr (b3) 28 #[.int .u64 (r0 N), .int .u64 (r1 N)] ∧ Blk wr (b5) 28 #[.int .u64 (r0 (N + k)), .int .u64 (r1 (N + k))]) (fun t _ => (l - 1 - intOf t).toNat)
  case atStart => exact ⟨0, by omega, rfl, kW4, BW4_0, BW4_1⟩
  case round =>
    clear cW4_0_0 cW4_0_1 cW4_1_0 cW4_1_1 fW4_0 fW4_1 BW4_0 BW4_1 kW4
    obtain ⟨k, hk, rfl, kwr, Bwr_0, Bwr_1⟩ := hrel
    by_cases hlt : (k : Int) < l - 1
    · skip
      have cwr_0_0 : wr.cell? ⟨b3, 0, none⟩ = some (.int .u64 (r0 N)) := Bwr_0.cell 0 rfl
      have cwr_0_1 : wr.cell? ⟨b3, 1, none⟩ = some (.int .u64 (r1 N)) := Bwr_0.cell 1 rfl
      have fwr_0 := Bwr_0.free
      have cwr_1_0 : wr.cell? ⟨b5, 0, none⟩ = some (.int .u64 (r0 (N + k))) := Bwr_1.cell 0 rfl
      have cwr_1_1 : wr.cell? ⟨b5, 1, none⟩ = some (.int .u64 (r1 (N + k))) := Bwr_1.cell 1 rfl
      have fwr_1 := Bwr_1.free
      have HS := Lib.hid (hM.out (N + k))
      go_wp2_with fail
      refine (HS.out _).mono ?_
      rintro e W5 ⟨rfl, hkW5⟩
      have kW5 := kwr.trans hkW5
      have BW5_0 := Bwr_0.kept hkW5
      have BW5_1 := Bwr_1.kept hkW5
      clear cwr_0_0 cwr_0_1 cwr_1_0 cwr_1_1 fwr_0 fwr_1 Bwr_0 Bwr_1 kwr hkW5
      have cW5_0_0 : W5.cell? ⟨b3, 0, none⟩ = some (.int .u64 (r0 N)) := BW5_0.cell 0 rfl
      have cW5_0_1 : W5.cell? ⟨b3, 1, none⟩ = some (.int .u64 (r1 N)) := BW5_0.cell 1 rfl
      have fW5_0 := BW5_0.free
      have cW5_1_0 : W5.cell? ⟨b5, 0, none⟩ = some (.int .u64 (r0 (N + k))) := BW5_1.cell 0 rfl
      have cW5_1_1 : W5.cell? ⟨b5, 1, none⟩ = some (.int .u64 (r1 (N + k))) := BW5_1.cell 1 rfl
      have fW5_1 := BW5_1.free
      go_wp2_with fail
      go_roundw
      case rel =>
        refine ⟨k + 1, by omega, by go_num, ?_, ?_, ?_⟩
        · repeat (first | exact kW5 | (refine Kept.setCell ?_ (kept_side (by first | assumption | omega)) _) | apply Kept.alloc | apply Kept.drew)
        · simp [Blk, *] <;> (intros; omega)
        · rw [← Nat.add_assoc]; simp [Blk, *] <;> (intros; omega)
      case measure => (simp [intOf]) <;> omega
    · skip
      have hk31 : N + k = 65 := by have := hN.out; omega
      rw [hk31, h65.out.1, h65.out.2] at Bwr_1
      clear hk31
      have cwr_0_0 : wr.cell? ⟨b3, 0, none⟩ = some (.int .u64 (r0 N)) := Bwr_0.cell 0 rfl
      have cwr_0_1 : wr.cell? ⟨b3, 1, none⟩ = some (.int .u64 (r1 N)) := Bwr_0.cell 1 rfl
      have fwr_0 := Bwr_0.free
      have cwr_1_0 : wr.cell? ⟨b5, 0, none⟩ = some (.int .u64 y0) := Bwr_1.cell 0 rfl
      have cwr_1_1 : wr.cell? ⟨b5, 1, none⟩ = some (.int .u64 y1) := Bwr_1.cell 1 rfl
      have fwr_1 := Bwr_1.free
      go_wp2_with fail
      refine wp_region_calm 8 (by kernel_rfl) (by kernel_rfl) ?_
      simp only [List.take_succ_cons, List.take_zero, List.drop_succ_cons, List.drop_zero]
      repeat (first
        | (refine calm_skip rfl ?_; simp only [Act.put, List.setIfInBounds_toArray, List.set_cons_zero, List.set_cons_succ])
        | (refine calm_ex rfl ?_; apply Exists.intro; refine And.intro (fun w' hk => ?_) ?_; (focus (have q0 := hk.cell cwr_0_0; have q1 := hk.cell cwr_0_1; have q2 := hk.cell cwr_1_0; have q3 := hk.cell cwr_1_1; clear hk; go_simp; exact rfl)); simp only [Act.put, List.setIfInBounds_toArray, List.set_cons_zero, List.set_cons_succ])
        | (refine calm_step _ rfl (HNe.out.call ?_) ?_; (focus (intro w'; go_simp; done)); simp only [Act.put, List.setIfInBounds_toArray, List.set_cons_zero, List.set_cons_succ]))
      refine calm_nil ?_
      intro W5 hkW5
      have kW5 := kwr.trans hkW5
      have BW5_0 := Bwr_0.kept hkW5
      have BW5_1 := Bwr_1.kept hkW5
      clear cwr_0_0 cwr_0_1 cwr_1_0 cwr_1_1 fwr_0 fwr_1 Bwr_0 Bwr_1 kwr hkW5
      have cW5_0_0 : W5.cell? ⟨b3, 0, none⟩ = some (.int .u64 (r0 N)) := BW5_0.cell 0 rfl
      have cW5_0_1 : W5.cell? ⟨b3, 1, none⟩ = some (.int .u64 (r1 N)) := BW5_0.cell 1 rfl
      have fW5_0 := BW5_0.free
      have cW5_1_0 : W5.cell? ⟨b5, 0, none⟩ = some (.int .u64 y0) := BW5_1.cell 0 rfl
      have cW5_1_1 : W5.cell? ⟨b5, 1, none⟩ = some (.int .u64 y1) := BW5_1.cell 1 rfl
      have fW5_1 := BW5_1.free
      go_wp2_with fail
      go_ret
      exact ⟨rfl, kW5⟩

end Go.Proofs.Ytnajihlhcdedgaa

namespace Go.Proofs.Ytnajihlhcdedgaa
open Go.RowKit
set_option linter.unusedVariables false

/-- 7 to (2^62 - 7) times 2^k. -/
def wRoot (k : Nat) : Int := (7 : Int) ^ (4611686018427387897 * 2 ^ k) % wP
theorem wRoot_succ (k : Nat) : wRoot k * wRoot k % wP = wRoot (k + 1) := by
  unfold wRoot
  rw [← Int.mul_emod, ← Int.pow_add]
  congr 2
  rw [Nat.pow_succ]; omega
theorem is128_wRoot (k : Nat) : is128 (wRoot k) := is128_emod_w _
theorem wRoot_val (k m : Nat) (h : pm wN 129 7 (4611686018427387897 * 2 ^ k) = m) (hk : 4611686018427387897 * 2 ^ k < 2 ^ 129) : wRoot k = (m : Int) := by
  rw [pm_eq wN 129 7 _ hk] at h
  unfold wRoot
  rw [← h, show wP = (wN : Int) from rfl]
  simp
theorem wRoot65 : wRoot 65 = 340282366920938462946865773367900766208 := wRoot_val 65 340282366920938462946865773367900766208 (by decide +kernel) (by decide +kernel)
theorem wRoot66 : wRoot 66 = 1 := wRoot_val 66 1 (by decide +kernel) (by decide +kernel)

theorem w_Root_mul (k : Nat) : Pure Try.prog 53 #[E (wRoot k), E (wRoot k)] (E (wRoot (k + 1))) := by
  have := w_Mul (is128_wRoot k) (is128_wRoot k)
  rw [wRoot_succ] at this
  exact this
theorem w_Root {l : Int} (h0 : 0 ≤ l) (h1 : l ≤ 66) : Pure Try.prog 68 #[.int .i64 l] (.tuple #[E (wRoot (66 - l).toNat), .int .i64 0]) := by
  have hp := w_Pow (a := 7) (n := 4611686018427387897) (by unfold is128; omega) (by unfold is128; omega)
  have e : wRoot 0 = (7 : Int) ^ 4611686018427387897 % wP := by unfold wRoot; rw [Nat.pow_zero, Nat.mul_one]
  rw [← e] at hp
  exact w_Root_in l (fun k => wRoot k % 18446744073709551616) (fun k => wRoot k / 18446744073709551616) h0 h1 hp (fun k => w_Root_mul k) _ rfl

theorem wide_roots_law (l : Int) (wl : (Lit.int .i64 l).wf = true) (w : World) : Calls Try.prog 15 #[.int .i64 l] w fun e w' => e = .returned (.bool true) ∧ Kept w w' := by
  by_cases h : l < 0 ∨ 66 < l
  · exact wide_roots_no l h wide_Awake (w_Root_no l h) w
  · have h0 : 0 ≤ l := by omega
    have h1 : l ≤ 66 := by omega
    have hr := w_Root h0 h1
    by_cases hz : l = 0
    · subst hz
      rw [show ((66 : Int) - 0).toNat = 66 from rfl, wRoot66] at hr
      exact wide_roots_nought wide_Awake hr w
    · have hn := w_Neg (a := 1) (by unfold is128; omega)
      rw [show (-1 : Int) % wP = wRoot 65 by rw [wRoot65]; unfold wP; omega] at hn
      exact wide_roots_yes l _ (fun k => wRoot k % 18446744073709551616) (fun k => wRoot k / 18446744073709551616) _ _ (by omega) h1 rfl wide_Awake hr (fun k => w_Root_mul k) ⟨rfl, rfl⟩ hn eql28_self w

end Go.Proofs.Ytnajihlhcdedgaa

namespace Go.Proofs.Ytnajihlhcdedgaa
open Go.RowKit
set_option linter.unusedVariables false
set_option linter.unusedSimpArgs false
attribute [local simp] blkAt_setCell blkAt_alloc blkAt_drew Obj.put_cells

theorem size54 : (Try.prog.info? 54).map (·.size) = some 16 := by kernel_rfl

set_option maxRecDepth 100000 in
set_option maxHeartbeats 4000000 in
theorem wide_Bytes_in (a0 a1 X0 X1 : Int) (bt : Nat → Int) (w : World) (x00 : 0 ≤ X0) (x01 : X0 ≤ 18446744073709551615) (x10 : 0 ≤ X1) (x11 : X1 ≤ 18446744073709551615)
    (hb0 : Hid (∀ i : Nat, i < 8 → X0 / 2 ^ (8 * i) % 256 = bt i)) (hb1 : Hid (∀ i : Nat, i < 8 → X1 / 2 ^ (8 * i) % 256 = bt (8 + i)))
    (HO : Hid (Pure Try.prog 48 #[.agg #[.int .u64 a0, .int .u64 a1]] (.agg #[.int .u64 X0, .int .u64 X1]))) :
    Calls Try.prog 56 #[.agg #[.int .u64 a0, .int .u64 a1]] w fun e w' => e = .returned (.agg (rowF 16 (fun j => .int .u8 (bt j)))) ∧ Kept w w' := by
  go_enter Try.func56, Try.ntmps56
  go_wp2_with fail
  refine abs_calls (fun W => Kept w W ∧ Blk W (w.heap.size) 28 #[.int .u64 a0, .int .u64 a1] ∧ Blk W (w.heap.size + 1) 54 #[.int .u8 0, .int .u8 0, .int .u8 0, .int .u8 0, .int .u8 0, .int .u8 0, .int .u8 0, .int .u8 0, .int .u8 0, .int .u8 0, .int .u8 0, .int .u8 0, .int .u8 0, .int .u8 0, .int .u8 0, .int .u8 0]) ?_ ?_
  · refine ⟨?_, ?_, ?_⟩
    · repeat (first | exact Kept.refl _ | (refine Kept.setCell ?_ (kept_side (by first | assumption | omega)) _) | apply Kept.alloc | apply Kept.drew)
    · simp [Blk, *] <;> (intros; omega)
    · simp [Blk, *] <;> (intros; omega)
  rintro W1 ⟨kW1, BW1_0, BW1_1⟩
  have cW1_0_0 : W1.cell? ⟨w.heap.size, 0, none⟩ = some (.int .u64 a0) := BW1_0.cell 0 rfl
  have cW1_0_1 : W1.cell? ⟨w.heap.size, 1, none⟩ = some (.int .u64 a1) := BW1_0.cell 1 rfl
  have fW1_0 := BW1_0.free
  have cW1_1_0 : W1.cell? ⟨w.heap.size + 1, 0, none⟩ = some (.int .u8 0) := BW1_1.cell 0 rfl
  have cW1_1_1 : W1.cell? ⟨w.heap.size + 1, 1, none⟩ = some (.int .u8 0) := BW1_1.cell 1 rfl
  have cW1_1_2 : W1.cell? ⟨w.heap.size + 1, 2, none⟩ = some (.int .u8 0) := BW1_1.cell 2 rfl
  have cW1_1_3 : W1.cell? ⟨w.heap.size + 1, 3, none⟩ = some (.int .u8 0) := BW1_1.cell 3 rfl
  have cW1_1_4 : W1.cell? ⟨w.heap.size + 1, 4, none⟩ = some (.int .u8 0) := BW1_1.cell 4 rfl
  have cW1_1_5 : W1.cell? ⟨w.heap.size + 1, 5, none⟩ = some (.int .u8 0) := BW1_1.cell 5 rfl
  have cW1_1_6 : W1.cell? ⟨w.heap.size + 1, 6, none⟩ = some (.int .u8 0) := BW1_1.cell 6 rfl
  have cW1_1_7 : W1.cell? ⟨w.heap.size + 1, 7, none⟩ = some (.int .u8 0) := BW1_1.cell 7 rfl
  have cW1_1_8 : W1.cell? ⟨w.heap.size + 1, 8, none⟩ = some (.int .u8 0) := BW1_1.cell 8 rfl
  have cW1_1_9 : W1.cell? ⟨w.heap.size + 1, 9, none⟩ = some (.int .u8 0) := BW1_1.cell 9 rfl
  have cW1_1_10 : W1.cell? ⟨w.heap.size + 1, 10, none⟩ = some (.int .u8 0) := BW1_1.cell 10 rfl
  have cW1_1_11 : W1.cell? ⟨w.heap.size + 1, 11, none⟩ = some (.int .u8 0) := BW1_1.cell 11 rfl
  have cW1_1_12 : W1.cell? ⟨w.heap.size + 1, 12, none⟩ = some (.int .u8 0) := BW1_1.cell 12 rfl
  have cW1_1_13 : W1.cell? ⟨w.heap.size + 1, 13, none⟩ = some (.int .u8 0) := BW1_1.cell 13 rfl
  have cW1_1_14 : W1.cell? ⟨w.heap.size + 1, 14, none⟩ = some (.int .u8 0) := BW1_1.cell 14 rfl
  have cW1_1_15 : W1.cell? ⟨w.heap.size + 1, 15, none⟩ = some (.int .u8 0) := BW1_1.cell 15 rfl
  have fW1_1 := BW1_1.free
  refine (HO.out _).mono ?_
  rintro e W2 ⟨rfl, hkW2⟩
  have kW2 := kW1.trans hkW2
  have BW2_0 := BW1_0.kept hkW2
  have BW2_1 := BW1_1.kept hkW2
  clear cW1_0_0 cW1_0_1 cW1_1_0 cW1_1_1 cW1_1_2 cW1_1_3 cW1_1_4 cW1_1_5 cW1_1_6 cW1_1_7 cW1_1_8 cW1_1_9 cW1_1_10 cW1_1_11 cW1_1_12 cW1_1_13 cW1_1_14 cW1_1_15 fW1_0 fW1_1 BW1_0 BW1_1 kW1 hkW2
  have cW2_0_0 : W2.cell? ⟨w.heap.size, 0, none⟩ = some (.int .u64 a0) := BW2_0.cell 0 rfl
  have cW2_0_1 : W2.cell? ⟨w.heap.size, 1, none⟩ = some (.int .u64 a1) := BW2_0.cell 1 rfl
  have fW2_0 := BW2_0.free
  have cW2_1_0 : W2.cell? ⟨w.heap.size + 1, 0, none⟩ = some (.int .u8 0) := BW2_1.cell 0 rfl
  have cW2_1_1 : W2.cell? ⟨w.heap.size + 1, 1, none⟩ = some (.int .u8 0) := BW2_1.cell 1 rfl
  have cW2_1_2 : W2.cell? ⟨w.heap.size + 1, 2, none⟩ = some (.int .u8 0) := BW2_1.cell 2 rfl
  have cW2_1_3 : W2.cell? ⟨w.heap.size + 1, 3, none⟩ = some (.int .u8 0) := BW2_1.cell 3 rfl
  have cW2_1_4 : W2.cell? ⟨w.heap.size + 1, 4, none⟩ = some (.int .u8 0) := BW2_1.cell 4 rfl
  have cW2_1_5 : W2.cell? ⟨w.heap.size + 1, 5, none⟩ = some (.int .u8 0) := BW2_1.cell 5 rfl
  have cW2_1_6 : W2.cell? ⟨w.heap.size + 1, 6, none⟩ = some (.int .u8 0) := BW2_1.cell 6 rfl
  have cW2_1_7 : W2.cell? ⟨w.heap.size + 1, 7, none⟩ = some (.int .u8 0) := BW2_1.cell 7 rfl
  have cW2_1_8 : W2.cell? ⟨w.heap.size + 1, 8, none⟩ = some (.int .u8 0) := BW2_1.cell 8 rfl
  have cW2_1_9 : W2.cell? ⟨w.heap.size + 1, 9, none⟩ = some (.int .u8 0) := BW2_1.cell 9 rfl
  have cW2_1_10 : W2.cell? ⟨w.heap.size + 1, 10, none⟩ = some (.int .u8 0) := BW2_1.cell 10 rfl
  have cW2_1_11 : W2.cell? ⟨w.heap.size + 1, 11, none⟩ = some (.int .u8 0) := BW2_1.cell 11 rfl
  have cW2_1_12 : W2.cell? ⟨w.heap.size + 1, 12, none⟩ = some (.int .u8 0) := BW2_1.cell 12 rfl
  have cW2_1_13 : W2.cell? ⟨w.heap.size + 1, 13, none⟩ = some (.int .u8 0) := BW2_1.cell 13 rfl
  have cW2_1_14 : W2.cell? ⟨w.heap.size + 1, 14, none⟩ = some (.int .u8 0) := BW2_1.cell 14 rfl
  have cW2_1_15 : W2.cell? ⟨w.heap.size + 1, 15, none⟩ = some (.int .u8 0) := BW2_1.cell 15 rfl
  have fW2_1 := BW2_1.free
  go_wp2_with fail
  obtain ⟨g3, hg3⟩ : ∃ b, W2.heap.size = b := ⟨_, rfl⟩
  have neg3_0 : w.heap.size ≠ g3 := by have := BW2_0.lt; omega
  have eng3_0 : g3 ≠ w.heap.size := neg3_0.symm
  have neg3_1 : w.heap.size + 1 ≠ g3 := by have := BW2_1.lt; omega
  have eng3_1 : g3 ≠ w.heap.size + 1 := neg3_1.symm
  have log3 : w.heap.size ≤ g3 := hg3 ▸ kW2.size
  refine abs_world (fun W => Kept w W ∧ Blk W (w.heap.size) 28 #[.int .u64 X0, .int .u64 X1] ∧ Blk W (w.heap.size + 1) 54 #[.int .u8 0, .int .u8 0, .int .u8 0, .int .u8 0, .int .u8 0, .int .u8 0, .int .u8 0, .int .u8 0, .int .u8 0, .int .u8 0, .int .u8 0, .int .u8 0, .int .u8 0, .int .u8 0, .int .u8 0, .int .u8 0] ∧ Blk W (g3) 54 #[.int .u8 0, .int .u8 0, .int .u8 0, .int .u8 0, .int .u8 0, .int .u8 0, .int .u8 0, .int .u8 0, .int .u8 0, .int .u8 0, .int .u8 0, .int .u8 0, .int .u8 0, .int .u8 0, .int .u8 0, .int .u8 0]) ?_ ?_
  · refine ⟨?_, ?_, ?_, ?_⟩
    · repeat (first | exact kW2 | (refine Kept.setCell ?_ (kept_side (by first | assumption | omega)) _) | apply Kept.alloc | apply Kept.drew)
    · simp [Blk, *] <;> (intros; omega)
    · simp [Blk, *] <;> (intros; omega)
    · simp [Blk, *] <;> (intros; omega)
  rintro W3 ⟨kW3, BW3_0, BW3_1, BW3_2⟩
  have cW3_0_0 : W3.cell? ⟨w.heap.size, 0, none⟩ = some (.int .u64 X0) := BW3_0.cell 0 rfl
  have cW3_0_1 : W3.cell? ⟨w.heap.size, 1, none⟩ = some (.int .u64 X1) := BW3_0.cell 1 rfl
  have fW3_0 := BW3_0.free
  have cW3_1_0 : W3.cell? ⟨w.heap.size + 1, 0, none⟩ = some (.int .u8 0) := BW3_1.cell 0 rfl
  have cW3_1_1 : W3.cell? ⟨w.heap.size + 1, 1, none⟩ = some (.int .u8 0) := BW3_1.cell 1 rfl
  have cW3_1_2 : W3.cell? ⟨w.heap.size + 1, 2, none⟩ = some (.int .u8 0) := BW3_1.cell 2 rfl
  have cW3_1_3 : W3.cell? ⟨w.heap.size + 1, 3, none⟩ = some (.int .u8 0) := BW3_1.cell 3 rfl
  have cW3_1_4 : W3.cell? ⟨w.heap.size + 1, 4, none⟩ = some (.int .u8 0) := BW3_1.cell 4 rfl
  have cW3_1_5 : W3.cell? ⟨w.heap.size + 1, 5, none⟩ = some (.int .u8 0) := BW3_1.cell 5 rfl
  have cW3_1_6 : W3.cell? ⟨w.heap.size + 1, 6, none⟩ = some (.int .u8 0) := BW3_1.cell 6 rfl
  have cW3_1_7 : W3.cell? ⟨w.heap.size + 1, 7, none⟩ = some (.int .u8 0) := BW3_1.cell 7 rfl
  have cW3_1_8 : W3.cell? ⟨w.heap.size + 1, 8, none⟩ = some (.int .u8 0) := BW3_1.cell 8 rfl
  have cW3_1_9 : W3.cell? ⟨w.heap.size + 1, 9, none⟩ = some (.int .u8 0) := BW3_1.cell 9 rfl
  have cW3_1_10 : W3.cell? ⟨w.heap.size + 1, 10, none⟩ = some (.int .u8 0) := BW3_1.cell 10 rfl
  have cW3_1_11 : W3.cell? ⟨w.heap.size + 1, 11, none⟩ = some (.int .u8 0) := BW3_1.cell 11 rfl
  have cW3_1_12 : W3.cell? ⟨w.heap.size + 1, 12, none⟩ = some (.int .u8 0) := BW3_1.cell 12 rfl
  have cW3_1_13 : W3.cell? ⟨w.heap.size + 1, 13, none⟩ = some (.int .u8 0) := BW3_1.cell 13 rfl
  have cW3_1_14 : W3.cell? ⟨w.heap.size + 1, 14, none⟩ = some (.int .u8 0) := BW3_1.cell 14 rfl
  have cW3_1_15 : W3.cell? ⟨w.heap.size + 1, 15, none⟩ = some (.int .u8 0) := BW3_1.cell 15 rfl
  have fW3_1 := BW3_1.free
  have cW3_2_0 : W3.cell? ⟨g3, 0, none⟩ = some (.int .u8 0) := BW3_2.cell 0 rfl
  have cW3_2_1 : W3.cell? ⟨g3, 1, none⟩ = some (.int .u8 0) := BW3_2.cell 1 rfl
  have cW3_2_2 : W3.cell? ⟨g3, 2, none⟩ = some (.int .u8 0) := BW3_2.cell 2 rfl
  have cW3_2_3 : W3.cell? ⟨g3, 3, none⟩ = some (.int .u8 0) := BW3_2.cell 3 rfl
  have cW3_2_4 : W3.cell? ⟨g3, 4, none⟩ = some (.int .u8 0) := BW3_2.cell 4 rfl
  have cW3_2_5 : W3.cell? ⟨g3, 5, none⟩ = some (.int .u8 0) := BW3_2.cell 5 rfl
  have cW3_2_6 : W3.cell? ⟨g3, 6, none⟩ = some (.int .u8 0) := BW3_2.cell 6 rfl
  have cW3_2_7 : W3.cell? ⟨g3, 7, none⟩ = some (.int .u8 0) := BW3_2.cell 7 rfl
  have cW3_2_8 : W3.cell? ⟨g3, 8, none⟩ = some (.int .u8 0) := BW3_2.cell 8 rfl
  have cW3_2_9 : W3.cell? ⟨g3, 9, none⟩ = some (.int .u8 0) := BW3_2.cell 9 rfl
  have cW3_2_10 : W3.cell? ⟨g3, 10, none⟩ = some (.int .u8 0) := BW3_2.cell 10 rfl
  have cW3_2_11 : W3.cell? ⟨g3, 11, none⟩ = some (.int .u8 0) := BW3_2.cell 11 rfl
  have cW3_2_12 : W3.cell? ⟨g3, 12, none⟩ = some (.int .u8 0) := BW3_2.cell 12 rfl
  have cW3_2_13 : W3.cell? ⟨g3, 13, none⟩ = some (.int .u8 0) := BW3_2.cell 13 rfl
  have cW3_2_14 : W3.cell? ⟨g3, 14, none⟩ = some (.int .u8 0) := BW3_2.cell 14 rfl
  have cW3_2_15 : W3.cell? ⟨g3, 15, none⟩ = some (.int .u8 0) := BW3_2.cell 15 rfl
  have fW3_2 := BW3_2.free
  simp only [hg3]
  go_loopw [7] (fun t wr => ∃ k : Nat, k ≤ 16 ∧ t = .int .i64 k ∧ Kept w wr ∧ Blk wr (w.heap.size) 28 #[.int .u64 X0, .int .u64 X1] ∧ Blk wr (w.heap.size + 1) 54 #[.int .u8 0, .int .u8 0, .int .u8 0, .int .u8 0, .int .u8 0, .int .u8 0, .int .u8 0, .int .u8 0, .int .u8 0, .int .u8 0, .int .u8 0, .int .u8 0, .int .u8 0, .int .u8 0, .int .u8 0, .int .u8 0] ∧ Blk wr g3 54 (rowF 16 (fun j => .int .u8 (if j < k then bt j else 0)))) (fun t _ => 16 - (intOf t).toNat)
  case atStart => exact ⟨0, Nat.zero_le _, rfl, kW3, BW3_0, BW3_1, BW3_2⟩
  case round =>
    obtain ⟨k, hk, rfl, kwr, Bwr_0, Bwr_1, Bwr_2⟩ := hrel
    clear cW3_0_0 cW3_0_1 cW3_1_0 cW3_1_1 cW3_1_2 cW3_1_3 cW3_1_4 cW3_1_5 cW3_1_6 cW3_1_7 cW3_1_8 cW3_1_9 cW3_1_10 cW3_1_11 cW3_1_12 cW3_1_13 cW3_1_14 cW3_1_15 cW3_2_0 cW3_2_1 cW3_2_2 cW3_2_3 cW3_2_4 cW3_2_5 cW3_2_6 cW3_2_7 cW3_2_8 cW3_2_9 cW3_2_10 cW3_2_11 cW3_2_12 cW3_2_13 cW3_2_14 cW3_2_15 fW3_0 BW3_0 fW3_1 BW3_1 fW3_2 BW3_2 kW3
    by_cases hlt : k < 16
    · obtain ⟨x, hx0, hx1, hcx, hbx⟩ : ∃ x : Int, 0 ≤ x ∧ x ≤ 18446744073709551615 ∧ wr.cell? ⟨w.heap.size, k / 8, none⟩ = some (.int .u64 x) ∧ Hid (x / 2 ^ (8 * (k % 8)) % 256 = bt k) := by
        by_cases h8 : k < 8
        · refine ⟨X0, x00, x01, ?_, ?_⟩
          · rw [show k / 8 = 0 by omega]; exact Bwr_0.cell 0 rfl
          · have := hb0.out k h8; rw [show k % 8 = k by omega]; exact this
        · refine ⟨X1, x10, x11, ?_, ?_⟩
          · rw [show k / 8 = 1 by omega]; exact Bwr_0.cell 1 rfl
          · have := hb1.out (k - 8) (by omega); rw [show 8 + (k - 8) = k by omega] at this; rw [show k % 8 = k - 8 by omega]; exact this
      have hck := Bwr_2.at hlt
      have hfk := Bwr_2.free
      have hi0 : (0 : Int) ≤ (k : Int) := by omega
      have hi16 : (k : Int) < 16 := by omega
      have hi8 : (k : Int) / 8 < 2 := by omega
      go_wp2_with fail
      go_roundw
      case rel =>
        refine ⟨k + 1, by omega, by go_num, kwr.setCell (kept_side (by first | assumption | omega)) _, Bwr_0.set_other eng3_0 _, Bwr_1.set_other eng3_1 _, Bwr_2.set hlt fun j hj => ?_⟩
        by_cases hjk : j = k
        · subst hjk; rw [if_pos rfl, if_pos (by omega)]; rw [← hbx.out]
        · rw [if_neg hjk]; by_cases hjl : j < k
          · rw [if_pos hjl, if_pos (by omega)]
          · rw [if_neg hjl, if_neg (by omega)]
      case measure => simp [intOf]; omega
    · have hk16 : k = 16 := by omega
      subst hk16
      clear hlt hk
      go_wp2_with (first | (refine wpList_load_blk 54 (.tmp 3) Bwr_2 Try.underlying54 (by rw [rowF_size]; exact size54) rfl rfl rfl ?_) | (refine wpList_store_blk 54 (.tmp 2) (.tmp 22) Bwr_1 (by rw [rowF_size]; exact size54) (by rw [rowF_size]; rfl) (rowF_one fun _ => rfl) rfl rfl rfl rfl ?_))
      refine ret_blk rfl (Bwr_1.setRow _) Try.underlying54 (by rw [rowF_size]; exact size54) rfl rfl (And.intro ?_ (kwr.setRow (by omega) _))
      rw [rowF_congr (g := fun j => Value.int .u8 (bt j)) fun j hj => by rw [if_pos hj]]
end Go.Proofs.Ytnajihlhcdedgaa
