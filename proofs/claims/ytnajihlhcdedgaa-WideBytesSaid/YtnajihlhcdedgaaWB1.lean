/-
  The walks of wide: Bytes.
-/
import Derived.Test.YtnajihlhcdedgaaW1
import Derived.Test.YtnajihlhcdedgaaRowF

namespace Go.Proofs.Ytnajihlhcdedgaa
open Go.RowKit
set_option linter.unusedVariables false
set_option linter.unusedSimpArgs false
attribute [local simp] blkAt_setCell blkAt_alloc blkAt_drew Obj.put_cells

theorem size54 : (Try.prog.info? 54).map (·.size) = some 16 := by kernel_rfl

set_option maxRecDepth 100000 in
set_option maxHeartbeats 4000000 in
theorem wide_Bytes_in (a0 a1 X0 X1 : Int) (bt : Nat → Int) (w : World) (x00 : 0 ≤ X0) (x01 : X0 ≤ 18446744073709551615) (x10 : 0 ≤ X1) (x11 : X1 ≤ 18446744073709551615)
    (hb0 : Hid (∀ i : Nat, i < 8 → X0 / 2 ^ (8 * i) % 256 = bt i)) (hb1 : Hid (∀ i : Nat, i < 8 → X1 / 2 ^ (8 * i) % 256 = bt (8 + i)))
    (HO : Hid (Pure Try.prog 48 #[.agg #[.int .u64 a0, .int .u64 a1]] (.agg #[.int .u64 X0, .int .u64 X1]))) :
    Calls Try.prog 56 #[.agg #[.int .u64 a0, .int .u64 a1]] w fun e w' => e = .returned (.agg (rowF 16 (fun j => .int .u8 (bt j)))) ∧ Kept w w' := by
  go_enter Try.func56, Try.ntmps56
  go_wp2_with fail
  refine abs_calls (fun W => Kept w W ∧ Blk W (w.heap.size) 28 #[.int .u64 a0, .int .u64 a1] ∧ Blk W (w.heap.size + 1) 54 #[.int .u8 0, .int .u8 0, .int .u8 0, .int .u8 0, .int .u8 0, .int .u8 0, .int .u8 0, .int .u8 0, .int .u8 0, .int .u8 0, .int .u8 0, .int .u8 0, .int .u8 0, .int .u8 0, .int .u8 0, .int .u8 0]) ?_ ?_
  · refine ⟨?_, ?_, ?_⟩
    · repeat (first | exact Kept.refl _ | (refine Kept.setCell ?_ (kept_side (by first | assumption | omega)) _) | apply Kept.alloc | apply Kept.drew)
    · simp [Blk, *] <;> (intros; omega)
    · simp [Blk, *] <;> (intros; omega)
  rintro W1 ⟨kW1, BW1_0, BW1_1⟩
  have cW1_0_0 : W1.cell? ⟨w.heap.size, 0, none⟩ = some (.int .u64 a0) := BW1_0.cell 0 rfl
  have cW1_0_1 : W1.cell? ⟨w.heap.size, 1, none⟩ = some (.int .u64 a1) := BW1_0.cell 1 rfl
  have fW1_0 := BW1_0.free
  have cW1_1_0 : W1.cell? ⟨w.heap.size + 1, 0, none⟩ = some (.int .u8 0) := BW1_1.cell 0 rfl
  have cW1_1_1 : W1.cell? ⟨w.heap.size + 1, 1, none⟩ = some (.int .u8 0) := BW1_1.cell 1 rfl
  have cW1_1_2 : W1.cell? ⟨w.heap.size + 1, 2, none⟩ = some (.int .u8 0) := BW1_1.cell 2 rfl
  have cW1_1_3 : W1.cell? ⟨w.heap.size + 1, 3, none⟩ = some (.int .u8 0) := BW1_1.cell 3 rfl
  have cW1_1_4 : W1.cell? ⟨w.heap.size + 1, 4, none⟩ = some (.int .u8 0) := BW1_1.cell 4 rfl
  have cW1_1_5 : W1.cell? ⟨w.heap.size + 1, 5, none⟩ = some (.int .u8 0) := BW1_1.cell 5 rfl
  have cW1_1_6 : W1.cell? ⟨w.heap.size + 1, 6, none⟩ = some (.int .u8 0) := BW1_1.cell 6 rfl
  have cW1_1_7 : W1.cell? ⟨w.heap.size + 1, 7, none⟩ = some (.int .u8 0) := BW1_1.cell 7 rfl
  have cW1_1_8 : W1.cell? ⟨w.heap.size + 1, 8, none⟩ = some (.int .u8 0) := BW1_1.cell 8 rfl
  have cW1_1_9 : W1.cell? ⟨w.heap.size + 1, 9, none⟩ = some (.int .u8 0) := BW1_1.cell 9 rfl
  have cW1_1_10 : W1.cell? ⟨w.heap.size + 1, 10, none⟩ = some (.int .u8 0) := BW1_1.cell 10 rfl
  have cW1_1_11 : W1.cell? ⟨w.heap.size + 1, 11, none⟩ = some (.int .u8 0) := BW1_1.cell 11 rfl
  have cW1_1_12 : W1.cell? ⟨w.heap.size + 1, 12, none⟩ = some (.int .u8 0) := BW1_1.cell 12 rfl
  have cW1_1_13 : W1.cell? ⟨w.heap.size + 1, 13, none⟩ = some (.int .u8 0) := BW1_1.cell 13 rfl
  have cW1_1_14 : W1.cell? ⟨w.heap.size + 1, 14, none⟩ = some (.int .u8 0) := BW1_1.cell 14 rfl
  have cW1_1_15 : W1.cell? ⟨w.heap.size + 1, 15, none⟩ = some (.int .u8 0) := BW1_1.cell 15 rfl
  have fW1_1 := BW1_1.free
  refine (HO.out _).mono ?_
  rintro e W2 ⟨rfl, hkW2⟩
  have kW2 := kW1.trans hkW2
  have BW2_0 := BW1_0.kept hkW2
  have BW2_1 := BW1_1.kept hkW2
  clear cW1_0_0 cW1_0_1 cW1_1_0 cW1_1_1 cW1_1_2 cW1_1_3 cW1_1_4 cW1_1_5 cW1_1_6 cW1_1_7 cW1_1_8 cW1_1_9 cW1_1_10 cW1_1_11 cW1_1_12 cW1_1_13 cW1_1_14 cW1_1_15 fW1_0 fW1_1 BW1_0 BW1_1 kW1 hkW2
  have cW2_0_0 : W2.cell? ⟨w.heap.size, 0, none⟩ = some (.int .u64 a0) := BW2_0.cell 0 rfl
  have cW2_0_1 : W2.cell? ⟨w.heap.size, 1, none⟩ = some (.int .u64 a1) := BW2_0.cell 1 rfl
  have fW2_0 := BW2_0.free
  have cW2_1_0 : W2.cell? ⟨w.heap.size + 1, 0, none⟩ = some (.int .u8 0) := BW2_1.cell 0 rfl
  have cW2_1_1 : W2.cell? ⟨w.heap.size + 1, 1, none⟩ = some (.int .u8 0) := BW2_1.cell 1 rfl
  have cW2_1_2 : W2.cell? ⟨w.heap.size + 1, 2, none⟩ = some (.int .u8 0) := BW2_1.cell 2 rfl
  have cW2_1_3 : W2.cell? ⟨w.heap.size + 1, 3, none⟩ = some (.int .u8 0) := BW2_1.cell 3 rfl
  have cW2_1_4 : W2.cell? ⟨w.heap.size + 1, 4, none⟩ = some (.int .u8 0) := BW2_1.cell 4 rfl
  have cW2_1_5 : W2.cell? ⟨w.heap.size + 1, 5, none⟩ = some (.int .u8 0) := BW2_1.cell 5 rfl
  have cW2_1_6 : W2.cell? ⟨w.heap.size + 1, 6, none⟩ = some (.int .u8 0) := BW2_1.cell 6 rfl
  have cW2_1_7 : W2.cell? ⟨w.heap.size + 1, 7, none⟩ = some (.int .u8 0) := BW2_1.cell 7 rfl
  have cW2_1_8 : W2.cell? ⟨w.heap.size + 1, 8, none⟩ = some (.int .u8 0) := BW2_1.cell 8 rfl
  have cW2_1_9 : W2.cell? ⟨w.heap.size + 1, 9, none⟩ = some (.int .u8 0) := BW2_1.cell 9 rfl
  have cW2_1_10 : W2.cell? ⟨w.heap.size + 1, 10, none⟩ = some (.int .u8 0) := BW2_1.cell 10 rfl
  have cW2_1_11 : W2.cell? ⟨w.heap.size + 1, 11, none⟩ = some (.int .u8 0) := BW2_1.cell 11 rfl
  have cW2_1_12 : W2.cell? ⟨w.heap.size + 1, 12, none⟩ = some (.int .u8 0) := BW2_1.cell 12 rfl
  have cW2_1_13 : W2.cell? ⟨w.heap.size + 1, 13, none⟩ = some (.int .u8 0) := BW2_1.cell 13 rfl
  have cW2_1_14 : W2.cell? ⟨w.heap.size + 1, 14, none⟩ = some (.int .u8 0) := BW2_1.cell 14 rfl
  have cW2_1_15 : W2.cell? ⟨w.heap.size + 1, 15, none⟩ = some (.int .u8 0) := BW2_1.cell 15 rfl
  have fW2_1 := BW2_1.free
  go_wp2_with fail
  obtain ⟨g3, hg3⟩ : ∃ b, W2.heap.size = b := ⟨_, rfl⟩
  have neg3_0 : w.heap.size ≠ g3 := by have := BW2_0.lt; omega
  have eng3_0 : g3 ≠ w.heap.size := neg3_0.symm
  have neg3_1 : w.heap.size + 1 ≠ g3 := by have := BW2_1.lt; omega
  have eng3_1 : g3 ≠ w.heap.size + 1 := neg3_1.symm
  have log3 : w.heap.size ≤ g3 := hg3 ▸ kW2.size
  refine abs_world (fun W => Kept w W ∧ Blk W (w.heap.size) 28 #[.int .u64 X0, .int .u64 X1] ∧ Blk W (w.heap.size + 1) 54 #[.int .u8 0, .int .u8 0, .int .u8 0, .int .u8 0, .int .u8 0, .int .u8 0, .int .u8 0, .int .u8 0, .int .u8 0, .int .u8 0, .int .u8 0, .int .u8 0, .int .u8 0, .int .u8 0, .int .u8 0, .int .u8 0] ∧ Blk W (g3) 54 #[.int .u8 0, .int .u8 0, .int .u8 0, .int .u8 0, .int .u8 0, .int .u8 0, .int .u8 0, .int .u8 0, .int .u8 0, .int .u8 0, .int .u8 0, .int .u8 0, .int .u8 0, .int .u8 0, .int .u8 0, .int .u8 0]) ?_ ?_
  · refine ⟨?_, ?_, ?_, ?_⟩
    · repeat (first | exact kW2 | (refine Kept.setCell ?_ (kept_side (by first | assumption | omega)) _) | apply Kept.alloc | apply Kept.drew)
    · simp [Blk, *] <;> (intros; omega)
    · simp [Blk, *] <;> (intros; omega)
    · simp [Blk, *] <;> (intros; omega)
  rintro W3 ⟨kW3, BW3_0, BW3_1, BW3_2⟩
  have cW3_0_0 : W3.cell? ⟨w.heap.size, 0, none⟩ = some (.int .u64 X0) := BW3_0.cell 0 rfl
  have cW3_0_1 : W3.cell? ⟨w.heap.size, 1, none⟩ = some (.int .u64 X1) := BW3_0.cell 1 rfl
  have fW3_0 := BW3_0.free
  have cW3_1_0 : W3.cell? ⟨w.heap.size + 1, 0, none⟩ = some (.int .u8 0) := BW3_1.cell 0 rfl
  have cW3_1_1 : W3.cell? ⟨w.heap.size + 1, 1, none⟩ = some (.int .u8 0) := BW3_1.cell 1 rfl
  have cW3_1_2 : W3.cell? ⟨w.heap.size + 1, 2, none⟩ = some (.int .u8 0) := BW3_1.cell 2 rfl
  have cW3_1_3 : W3.cell? ⟨w.heap.size + 1, 3, none⟩ = some (.int .u8 0) := BW3_1.cell 3 rfl
  have cW3_1_4 : W3.cell? ⟨w.heap.size + 1, 4, none⟩ = some (.int .u8 0) := BW3_1.cell 4 rfl
  have cW3_1_5 : W3.cell? ⟨w.heap.size + 1, 5, none⟩ = some (.int .u8 0) := BW3_1.cell 5 rfl
  have cW3_1_6 : W3.cell? ⟨w.heap.size + 1, 6, none⟩ = some (.int .u8 0) := BW3_1.cell 6 rfl
  have cW3_1_7 : W3.cell? ⟨w.heap.size + 1, 7, none⟩ = some (.int .u8 0) := BW3_1.cell 7 rfl
  have cW3_1_8 : W3.cell? ⟨w.heap.size + 1, 8, none⟩ = some (.int .u8 0) := BW3_1.cell 8 rfl
  have cW3_1_9 : W3.cell? ⟨w.heap.size + 1, 9, none⟩ = some (.int .u8 0) := BW3_1.cell 9 rfl
  have cW3_1_10 : W3.cell? ⟨w.heap.size + 1, 10, none⟩ = some (.int .u8 0) := BW3_1.cell 10 rfl
  have cW3_1_11 : W3.cell? ⟨w.heap.size + 1, 11, none⟩ = some (.int .u8 0) := BW3_1.cell 11 rfl
  have cW3_1_12 : W3.cell? ⟨w.heap.size + 1, 12, none⟩ = some (.int .u8 0) := BW3_1.cell 12 rfl
  have cW3_1_13 : W3.cell? ⟨w.heap.size + 1, 13, none⟩ = some (.int .u8 0) := BW3_1.cell 13 rfl
  have cW3_1_14 : W3.cell? ⟨w.heap.size + 1, 14, none⟩ = some (.int .u8 0) := BW3_1.cell 14 rfl
  have cW3_1_15 : W3.cell? ⟨w.heap.size + 1, 15, none⟩ = some (.int .u8 0) := BW3_1.cell 15 rfl
  have fW3_1 := BW3_1.free
  have cW3_2_0 : W3.cell? ⟨g3, 0, none⟩ = some (.int .u8 0) := BW3_2.cell 0 rfl
  have cW3_2_1 : W3.cell? ⟨g3, 1, none⟩ = some (.int .u8 0) := BW3_2.cell 1 rfl
  have cW3_2_2 : W3.cell? ⟨g3, 2, none⟩ = some (.int .u8 0) := BW3_2.cell 2 rfl
  have cW3_2_3 : W3.cell? ⟨g3, 3, none⟩ = some (.int .u8 0) := BW3_2.cell 3 rfl
  have cW3_2_4 : W3.cell? ⟨g3, 4, none⟩ = some (.int .u8 0) := BW3_2.cell 4 rfl
  have cW3_2_5 : W3.cell? ⟨g3, 5, none⟩ = some (.int .u8 0) := BW3_2.cell 5 rfl
  have cW3_2_6 : W3.cell? ⟨g3, 6, none⟩ = some (.int .u8 0) := BW3_2.cell 6 rfl
  have cW3_2_7 : W3.cell? ⟨g3, 7, none⟩ = some (.int .u8 0) := BW3_2.cell 7 rfl
  have cW3_2_8 : W3.cell? ⟨g3, 8, none⟩ = some (.int .u8 0) := BW3_2.cell 8 rfl
  have cW3_2_9 : W3.cell? ⟨g3, 9, none⟩ = some (.int .u8 0) := BW3_2.cell 9 rfl
  have cW3_2_10 : W3.cell? ⟨g3, 10, none⟩ = some (.int .u8 0) := BW3_2.cell 10 rfl
  have cW3_2_11 : W3.cell? ⟨g3, 11, none⟩ = some (.int .u8 0) := BW3_2.cell 11 rfl
  have cW3_2_12 : W3.cell? ⟨g3, 12, none⟩ = some (.int .u8 0) := BW3_2.cell 12 rfl
  have cW3_2_13 : W3.cell? ⟨g3, 13, none⟩ = some (.int .u8 0) := BW3_2.cell 13 rfl
  have cW3_2_14 : W3.cell? ⟨g3, 14, none⟩ = some (.int .u8 0) := BW3_2.cell 14 rfl
  have cW3_2_15 : W3.cell? ⟨g3, 15, none⟩ = some (.int .u8 0) := BW3_2.cell 15 rfl
  have fW3_2 := BW3_2.free
  simp only [hg3]
  go_loopw [7] (fun t wr => ∃ k : Nat, k ≤ 16 ∧ t = .int .i64 k ∧ Kept w wr ∧ Blk wr (w.heap.size) 28 #[.int .u64 X0, .int .u64 X1] ∧ Blk wr (w.heap.size + 1) 54 #[.int .u8 0, .int .u8 0, .int .u8 0, .int .u8 0, .int .u8 0, .int .u8 0, .int .u8 0, .int .u8 0, .int .u8 0, .int .u8 0, .int .u8 0, .int .u8 0, .int .u8 0, .int .u8 0, .int .u8 0, .int .u8 0] ∧ Blk wr g3 54 (rowF 16 (fun j => .int .u8 (if j < k then bt j else 0)))) (fun t _ => 16 - (intOf t).toNat)
  case atStart => exact ⟨0, Nat.zero_le _, rfl, kW3, BW3_0, BW3_1, BW3_2⟩
  case round =>
    obtain ⟨k, hk, rfl, kwr, Bwr_0, Bwr_1, Bwr_2⟩ := hrel
    clear cW3_0_0 cW3_0_1 cW3_1_0 cW3_1_1 cW3_1_2 cW3_1_3 cW3_1_4 cW3_1_5 cW3_1_6 cW3_1_7 cW3_1_8 cW3_1_9 cW3_1_10 cW3_1_11 cW3_1_12 cW3_1_13 cW3_1_14 cW3_1_15 cW3_2_0 cW3_2_1 cW3_2_2 cW3_2_3 cW3_2_4 cW3_2_5 cW3_2_6 cW3_2_7 cW3_2_8 cW3_2_9 cW3_2_10 cW3_2_11 cW3_2_12 cW3_2_13 cW3_2_14 cW3_2_15 fW3_0 BW3_0 fW3_1 BW3_1 fW3_2 BW3_2 kW3
    by_cases hlt : k < 16
    · obtain ⟨x, hx0, hx1, hcx, hbx⟩ : ∃ x : Int, 0 ≤ x ∧ x ≤ 18446744073709551615 ∧ wr.cell? ⟨w.heap.size, k / 8, none⟩ = some (.int .u64 x) ∧ Hid (x / 2 ^ (8 * (k % 8)) % 256 = bt k) := by
        by_cases h8 : k < 8
        · refine ⟨X0, x00, x01, ?_, ?_⟩
          · rw [show k / 8 = 0 by omega]; exact Bwr_0.cell 0 rfl
          · have := hb0.out k h8; rw [show k % 8 = k by omega]; exact this
        · refine ⟨X1, x10, x11, ?_, ?_⟩
          · rw [show k / 8 = 1 by omega]; exact Bwr_0.cell 1 rfl
          · have := hb1.out (k - 8) (by omega); rw [show 8 + (k - 8) = k by omega] at this; rw [show k % 8 = k - 8 by omega]; exact this
      have hck := Bwr_2.at hlt
      have hfk := Bwr_2.free
      have hi0 : (0 : Int) ≤ (k : Int) := by omega
      have hi16 : (k : Int) < 16 := by omega
      have hi8 : (k : Int) / 8 < 2 := by omega
      go_wp2_with fail
      go_roundw
      case rel =>
        refine ⟨k + 1, by omega, by go_num, kwr.setCell (kept_side (by first | assumption | omega)) _, Bwr_0.set_other eng3_0 _, Bwr_1.set_other eng3_1 _, Bwr_2.set hlt fun j hj => ?_⟩
        by_cases hjk : j = k
        · subst hjk; rw [if_pos rfl, if_pos (by omega)]; rw [← hbx.out]
        · rw [if_neg hjk]; by_cases hjl : j < k
          · rw [if_pos hjl, if_pos (by omega)]
          · rw [if_neg hjl, if_neg (by omega)]
      case measure => simp [intOf]; omega
    · have hk16 : k = 16 := by omega
      subst hk16
      clear hlt hk
      go_wp2_with (first | (refine wpList_load_blk 54 (.tmp 3) Bwr_2 Try.underlying54 (by rw [rowF_size]; exact size54) rfl rfl rfl ?_) | (refine wpList_store_blk 54 (.tmp 2) (.tmp 22) Bwr_1 (by rw [rowF_size]; exact size54) (by rw [rowF_size]; rfl) (rowF_one fun _ => rfl) rfl rfl rfl rfl ?_))
      refine ret_blk rfl (Bwr_1.setRow _) Try.underlying54 (by rw [rowF_size]; exact size54) rfl rfl (And.intro ?_ (kwr.setRow (by omega) _))
      rw [rowF_congr (g := fun j => Value.int .u8 (bt j)) fun j hj => by rw [if_pos hj]]
end Go.Proofs.Ytnajihlhcdedgaa
