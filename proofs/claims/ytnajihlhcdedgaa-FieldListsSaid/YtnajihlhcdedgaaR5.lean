/-
  The walks of the reference: Mul, Pow.
-/
import Derived.Test.YtnajihlhcdedgaaR4
namespace Go.Proofs.Ytnajihlhcdedgaa
open Go.RowKit
set_option linter.unusedVariables false
set_option linter.unusedSimpArgs false
attribute [local simp] blkAt_setCell blkAt_alloc blkAt_drew Obj.put_cells

set_option maxRecDepth 100000 in
set_option maxHeartbeats 2000000 in
theorem ref_Mul_raw (f a0 a1 b0 b1 x0 x1 y0 y1 : Int) (o0 o1 d0 d1 : Nat → Int) (bt : Nat → Bool)
    (hA : Pure Try.prog 32 #[.int .i64 f, .agg #[.int .u64 a0, .int .u64 a1]] (.agg #[.int .u64 x0, .int .u64 x1]))
    (hB : Pure Try.prog 32 #[.int .i64 f, .agg #[.int .u64 b0, .int .u64 b1]] (.agg #[.int .u64 y0, .int .u64 y1]))
    (h128 : o0 128 = 0) (h128' : o1 128 = 0)
    (hD : Hid (∀ j, j < 128 → Pure Try.prog 35 #[.int .i64 f, .agg #[.int .u64 (o0 (j + 1)), .int .u64 (o1 (j + 1))], .agg #[.int .u64 (o0 (j + 1)), .int .u64 (o1 (j + 1))]] (.agg #[.int .u64 (d0 j), .int .u64 (d1 j)])))
    (hBit : Hid (∀ j : Nat, j < 128 → Pure Try.prog 116 #[.agg #[.int .u64 y0, .int .u64 y1], .int .i64 (j : Int)] (.bool (bt j))))
    (hS : Hid (∀ j, j < 128 → bt j = true → Pure Try.prog 35 #[.int .i64 f, .agg #[.int .u64 (d0 j), .int .u64 (d1 j)], .agg #[.int .u64 x0, .int .u64 x1]] (.agg #[.int .u64 (o0 j), .int .u64 (o1 j)])))
    (hN : Hid (∀ j, j < 128 → bt j = false → d0 j = o0 j ∧ d1 j = o1 j)) :
    Pure Try.prog 38 #[.int .i64 f, .agg #[.int .u64 a0, .int .u64 a1], .agg #[.int .u64 b0, .int .u64 b1]] (.agg #[.int .u64 (o0 0), .int .u64 (o1 0)]) := fun w => by
  have HA := Lib.hid hA
  have HB := Lib.hid hB
  clear hA hB
  have ne0_2 : w.heap.size ≠ w.heap.size + 1 + 1 := by omega
  have ne2_0 : w.heap.size + 1 + 1 ≠ w.heap.size := by omega
  go_enter Try.func38, Try.ntmps38
  go_wp2_with fail
  refine abs_world (fun W => Kept w W ∧ Blk W (w.heap.size) 28 #[.int .u64 a0, .int .u64 a1] ∧ Blk W (w.heap.size + 1) 28 #[.int .u64 b0, .int .u64 b1] ∧ Blk W (w.heap.size + 1 + 1) 28 #[.int .u64 0, .int .u64 0]) ?_ ?_
  · refine ⟨?_, ?_, ?_, ?_⟩
    · repeat (first | exact Kept.refl _ | (refine Kept.setCell ?_ (kept_side (by first | assumption | omega)) _) | apply Kept.alloc)
    · simp [Blk, *] <;> (intros; omega)
    · simp [Blk, *] <;> (intros; omega)
    · simp [Blk, *] <;> (intros; omega)
  rintro W1 ⟨kW1, BW1_0, BW1_1, BW1_2⟩
  have cW1_0_0 : W1.cell? ⟨w.heap.size, 0, none⟩ = some (.int .u64 a0) := BW1_0.cell 0 rfl
  have cW1_0_1 : W1.cell? ⟨w.heap.size, 1, none⟩ = some (.int .u64 a1) := BW1_0.cell 1 rfl
  have fW1_0 := BW1_0.free
  have cW1_1_0 : W1.cell? ⟨w.heap.size + 1, 0, none⟩ = some (.int .u64 b0) := BW1_1.cell 0 rfl
  have cW1_1_1 : W1.cell? ⟨w.heap.size + 1, 1, none⟩ = some (.int .u64 b1) := BW1_1.cell 1 rfl
  have fW1_1 := BW1_1.free
  have cW1_2_0 : W1.cell? ⟨w.heap.size + 1 + 1, 0, none⟩ = some (.int .u64 0) := BW1_2.cell 0 rfl
  have cW1_2_1 : W1.cell? ⟨w.heap.size + 1 + 1, 1, none⟩ = some (.int .u64 0) := BW1_2.cell 1 rfl
  have fW1_2 := BW1_2.free
  refine wp_region_calm 6 (by kernel_rfl) (by kernel_rfl) ?_
  simp only [List.take_succ_cons, List.take_zero, List.drop_succ_cons, List.drop_zero]
  repeat (first
    | (refine calm_skip rfl ?_; simp only [Act.put, List.setIfInBounds_toArray, List.set_cons_zero, List.set_cons_succ])
    | (refine calm_ex rfl ?_; apply Exists.intro; refine And.intro (fun w' hk => ?_) ?_; (focus (have q0 := hk.cell cW1_0_0; have q1 := hk.cell cW1_0_1; have q2 := hk.cell cW1_1_0; have q3 := hk.cell cW1_1_1; have q4 := hk.cell cW1_2_0; have q5 := hk.cell cW1_2_1; clear hk; go_simp; exact rfl)); simp only [Act.put, List.setIfInBounds_toArray, List.set_cons_zero, List.set_cons_succ])
    | (refine calm_step _ rfl (HA.out.call ?_) ?_; (focus (intro w'; go_simp; done)); simp only [Act.put, List.setIfInBounds_toArray, List.set_cons_zero, List.set_cons_succ])
    | (refine calm_step _ rfl (HB.out.call ?_) ?_; (focus (intro w'; go_simp; done)); simp only [Act.put, List.setIfInBounds_toArray, List.set_cons_zero, List.set_cons_succ]))
  refine calm_nil ?_
  intro W2 hkW2
  have kW2 := kW1.trans hkW2
  have BW2_0 := BW1_0.kept hkW2
  have BW2_1 := BW1_1.kept hkW2
  have BW2_2 := BW1_2.kept hkW2
  clear cW1_0_0 cW1_0_1 cW1_1_0 cW1_1_1 cW1_2_0 cW1_2_1 fW1_0 fW1_1 fW1_2 BW1_0 BW1_1 BW1_2 kW1 hkW2
  have cW2_0_0 : W2.cell? ⟨w.heap.size, 0, none⟩ = some (.int .u64 a0) := BW2_0.cell 0 rfl
  have cW2_0_1 : W2.cell? ⟨w.heap.size, 1, none⟩ = some (.int .u64 a1) := BW2_0.cell 1 rfl
  have fW2_0 := BW2_0.free
  have cW2_1_0 : W2.cell? ⟨w.heap.size + 1, 0, none⟩ = some (.int .u64 b0) := BW2_1.cell 0 rfl
  have cW2_1_1 : W2.cell? ⟨w.heap.size + 1, 1, none⟩ = some (.int .u64 b1) := BW2_1.cell 1 rfl
  have fW2_1 := BW2_1.free
  have cW2_2_0 : W2.cell? ⟨w.heap.size + 1 + 1, 0, none⟩ = some (.int .u64 0) := BW2_2.cell 0 rfl
  have cW2_2_1 : W2.cell? ⟨w.heap.size + 1 + 1, 1, none⟩ = some (.int .u64 0) := BW2_2.cell 1 rfl
  have fW2_2 := BW2_2.free
  obtain ⟨b7, hb7⟩ : ∃ b, W2.heap.size = b := ⟨_, rfl⟩
  have neb7_0 : w.heap.size ≠ b7 := by have := BW2_0.lt; omega
  have enb7_0 : b7 ≠ w.heap.size := neb7_0.symm
  have neb7_1 : w.heap.size + 1 ≠ b7 := by have := BW2_1.lt; omega
  have enb7_1 : b7 ≠ w.heap.size + 1 := neb7_1.symm
  have neb7_2 : w.heap.size + 1 + 1 ≠ b7 := by have := BW2_2.lt; omega
  have enb7_2 : b7 ≠ w.heap.size + 1 + 1 := neb7_2.symm
  have lob7 : w.heap.size ≤ b7 := hb7 ▸ kW2.size
  go_wp2_with fail
  refine abs_world (fun W => Kept w W ∧ Blk W (w.heap.size) 28 #[.int .u64 x0, .int .u64 x1] ∧ Blk W (w.heap.size + 1) 28 #[.int .u64 y0, .int .u64 y1] ∧ Blk W (w.heap.size + 1 + 1) 28 #[.int .u64 0, .int .u64 0] ∧ Blk W (b7) 28 #[.int .u64 (o0 128), .int .u64 (o1 128)]) ?_ ?_
  · refine ⟨?_, ?_, ?_, ?_, ?_⟩
    · repeat (first | exact kW2 | (refine Kept.setCell ?_ (kept_side (by first | assumption | omega)) _) | apply Kept.alloc)
    · simp [Blk, *] <;> (intros; omega)
    · simp [Blk, *] <;> (intros; omega)
    · simp [Blk, *] <;> (intros; omega)
    · simp [Blk, *] <;> (intros; omega)
  rintro W3 ⟨kW3, BW3_0, BW3_1, BW3_2, BW3_3⟩
  have cW3_0_0 : W3.cell? ⟨w.heap.size, 0, none⟩ = some (.int .u64 x0) := BW3_0.cell 0 rfl
  have cW3_0_1 : W3.cell? ⟨w.heap.size, 1, none⟩ = some (.int .u64 x1) := BW3_0.cell 1 rfl
  have fW3_0 := BW3_0.free
  have cW3_1_0 : W3.cell? ⟨w.heap.size + 1, 0, none⟩ = some (.int .u64 y0) := BW3_1.cell 0 rfl
  have cW3_1_1 : W3.cell? ⟨w.heap.size + 1, 1, none⟩ = some (.int .u64 y1) := BW3_1.cell 1 rfl
  have fW3_1 := BW3_1.free
  have cW3_2_0 : W3.cell? ⟨w.heap.size + 1 + 1, 0, none⟩ = some (.int .u64 0) := BW3_2.cell 0 rfl
  have cW3_2_1 : W3.cell? ⟨w.heap.size + 1 + 1, 1, none⟩ = some (.int .u64 0) := BW3_2.cell 1 rfl
  have fW3_2 := BW3_2.free
  have cW3_3_0 : W3.cell? ⟨b7, 0, none⟩ = some (.int .u64 (o0 128)) := BW3_3.cell 0 rfl
  have cW3_3_1 : W3.cell? ⟨b7, 1, none⟩ = some (.int .u64 (o1 128)) := BW3_3.cell 1 rfl
  have fW3_3 := BW3_3.free
  go_loopw [8] (fun t wr => ∃ k : Nat, k ≤ 128 ∧ t = .int .i64 ((k : Int) - 1) ∧ Kept w wr ∧ Blk wr (w.heap.size) 28 #[.int .u64 x0, .int .u64 x1] ∧ Blk wr (w.heap.size + 1) 28 #[.int .u64 y0, .int .u64 y1] ∧ Blk wr (w.heap.size + 1 + 1) 28 #[.int .u64 0, .int .u64 0] ∧ Blk wr (b7) 28 #[.int .u64 (o0 k), .int .u64 (o1 k)]) (fun t _ => (intOf t + 1).toNat)
  case atStart => exact ⟨128, Nat.le_refl _, rfl, kW3, BW3_0, BW3_1, BW3_2, BW3_3⟩
  case round =>
    clear cW3_0_0 cW3_0_1 cW3_1_0 cW3_1_1 cW3_2_0 cW3_2_1 cW3_3_0 cW3_3_1 fW3_0 fW3_1 fW3_2 fW3_3 BW3_0 BW3_1 BW3_2 BW3_3 kW3
    obtain ⟨k, hk, rfl, kwr, Bwr_0, Bwr_1, Bwr_2, Bwr_3⟩ := hrel
    cases k with
    | zero =>
      have cwr_0_0 : wr.cell? ⟨w.heap.size, 0, none⟩ = some (.int .u64 x0) := Bwr_0.cell 0 rfl
      have cwr_0_1 : wr.cell? ⟨w.heap.size, 1, none⟩ = some (.int .u64 x1) := Bwr_0.cell 1 rfl
      have fwr_0 := Bwr_0.free
      have cwr_1_0 : wr.cell? ⟨w.heap.size + 1, 0, none⟩ = some (.int .u64 y0) := Bwr_1.cell 0 rfl
      have cwr_1_1 : wr.cell? ⟨w.heap.size + 1, 1, none⟩ = some (.int .u64 y1) := Bwr_1.cell 1 rfl
      have fwr_1 := Bwr_1.free
      have cwr_2_0 : wr.cell? ⟨w.heap.size + 1 + 1, 0, none⟩ = some (.int .u64 0) := Bwr_2.cell 0 rfl
      have cwr_2_1 : wr.cell? ⟨w.heap.size + 1 + 1, 1, none⟩ = some (.int .u64 0) := Bwr_2.cell 1 rfl
      have fwr_2 := Bwr_2.free
      have cwr_3_0 : wr.cell? ⟨b7, 0, none⟩ = some (.int .u64 (o0 0)) := Bwr_3.cell 0 rfl
      have cwr_3_1 : wr.cell? ⟨b7, 1, none⟩ = some (.int .u64 (o1 0)) := Bwr_3.cell 1 rfl
      have fwr_3 := Bwr_3.free
      go_wp2
      refine bodyPost_ret (v := .agg #[.int .u64 (o0 0), .int .u64 (o1 0)]) (by simp [results, Try.results38, go_sem, *]) rfl ⟨rfl, ?_⟩
      repeat (first | exact kwr | (refine Kept.setCell ?_ (kept_side (by first | assumption | omega)) _) | apply Kept.alloc)
    | succ j =>
      have cwr_0_0 : wr.cell? ⟨w.heap.size, 0, none⟩ = some (.int .u64 x0) := Bwr_0.cell 0 rfl
      have cwr_0_1 : wr.cell? ⟨w.heap.size, 1, none⟩ = some (.int .u64 x1) := Bwr_0.cell 1 rfl
      have fwr_0 := Bwr_0.free
      have cwr_1_0 : wr.cell? ⟨w.heap.size + 1, 0, none⟩ = some (.int .u64 y0) := Bwr_1.cell 0 rfl
      have cwr_1_1 : wr.cell? ⟨w.heap.size + 1, 1, none⟩ = some (.int .u64 y1) := Bwr_1.cell 1 rfl
      have fwr_1 := Bwr_1.free
      have cwr_2_0 : wr.cell? ⟨w.heap.size + 1 + 1, 0, none⟩ = some (.int .u64 0) := Bwr_2.cell 0 rfl
      have cwr_2_1 : wr.cell? ⟨w.heap.size + 1 + 1, 1, none⟩ = some (.int .u64 0) := Bwr_2.cell 1 rfl
      have fwr_2 := Bwr_2.free
      have cwr_3_0 : wr.cell? ⟨b7, 0, none⟩ = some (.int .u64 (o0 (j + 1))) := Bwr_3.cell 0 rfl
      have cwr_3_1 : wr.cell? ⟨b7, 1, none⟩ = some (.int .u64 (o1 (j + 1))) := Bwr_3.cell 1 rfl
      have fwr_3 := Bwr_3.free
      rw [show ((j + 1 : Nat) : Int) - 1 = (j : Int) from by omega]
      have HD := Lib.hid (hD.out j (by omega))
      have HT := Lib.hid (hBit.out j (by omega))
      go_wp2_with fail
      refine (HD.out _).mono ?_
      rintro e W4 ⟨rfl, hkW4⟩
      have kW4 := kwr.trans hkW4
      have BW4_0 := Bwr_0.kept hkW4
      have BW4_1 := Bwr_1.kept hkW4
      have BW4_2 := Bwr_2.kept hkW4
      have BW4_3 := Bwr_3.kept hkW4
      clear cwr_0_0 cwr_0_1 cwr_1_0 cwr_1_1 cwr_2_0 cwr_2_1 cwr_3_0 cwr_3_1 fwr_0 fwr_1 fwr_2 fwr_3 Bwr_0 Bwr_1 Bwr_2 Bwr_3 kwr hkW4
      have cW4_0_0 : W4.cell? ⟨w.heap.size, 0, none⟩ = some (.int .u64 x0) := BW4_0.cell 0 rfl
      have cW4_0_1 : W4.cell? ⟨w.heap.size, 1, none⟩ = some (.int .u64 x1) := BW4_0.cell 1 rfl
      have fW4_0 := BW4_0.free
      have cW4_1_0 : W4.cell? ⟨w.heap.size + 1, 0, none⟩ = some (.int .u64 y0) := BW4_1.cell 0 rfl
      have cW4_1_1 : W4.cell? ⟨w.heap.size + 1, 1, none⟩ = some (.int .u64 y1) := BW4_1.cell 1 rfl
      have fW4_1 := BW4_1.free
      have cW4_2_0 : W4.cell? ⟨w.heap.size + 1 + 1, 0, none⟩ = some (.int .u64 0) := BW4_2.cell 0 rfl
      have cW4_2_1 : W4.cell? ⟨w.heap.size + 1 + 1, 1, none⟩ = some (.int .u64 0) := BW4_2.cell 1 rfl
      have fW4_2 := BW4_2.free
      have cW4_3_0 : W4.cell? ⟨b7, 0, none⟩ = some (.int .u64 (o0 (j + 1))) := BW4_3.cell 0 rfl
      have cW4_3_1 : W4.cell? ⟨b7, 1, none⟩ = some (.int .u64 (o1 (j + 1))) := BW4_3.cell 1 rfl
      have fW4_3 := BW4_3.free
      go_wp2_with fail
      refine abs_calls (fun W => Kept w W ∧ Blk W (w.heap.size) 28 #[.int .u64 x0, .int .u64 x1] ∧ Blk W (w.heap.size + 1) 28 #[.int .u64 y0, .int .u64 y1] ∧ Blk W (w.heap.size + 1 + 1) 28 #[.int .u64 0, .int .u64 0] ∧ Blk W (b7) 28 #[.int .u64 (d0 j), .int .u64 (d1 j)]) ?_ ?_
      · refine ⟨?_, ?_, ?_, ?_, ?_⟩
        · repeat (first | exact kW4 | (refine Kept.setCell ?_ (kept_side (by first | assumption | omega)) _) | apply Kept.alloc)
        · simp [Blk, *] <;> (intros; omega)
        · simp [Blk, *] <;> (intros; omega)
        · simp [Blk, *] <;> (intros; omega)
        · simp [Blk, *] <;> (intros; omega)
      rintro W5 ⟨kW5, BW5_0, BW5_1, BW5_2, BW5_3⟩
      have cW5_0_0 : W5.cell? ⟨w.heap.size, 0, none⟩ = some (.int .u64 x0) := BW5_0.cell 0 rfl
      have cW5_0_1 : W5.cell? ⟨w.heap.size, 1, none⟩ = some (.int .u64 x1) := BW5_0.cell 1 rfl
      have fW5_0 := BW5_0.free
      have cW5_1_0 : W5.cell? ⟨w.heap.size + 1, 0, none⟩ = some (.int .u64 y0) := BW5_1.cell 0 rfl
      have cW5_1_1 : W5.cell? ⟨w.heap.size + 1, 1, none⟩ = some (.int .u64 y1) := BW5_1.cell 1 rfl
      have fW5_1 := BW5_1.free
      have cW5_2_0 : W5.cell? ⟨w.heap.size + 1 + 1, 0, none⟩ = some (.int .u64 0) := BW5_2.cell 0 rfl
      have cW5_2_1 : W5.cell? ⟨w.heap.size + 1 + 1, 1, none⟩ = some (.int .u64 0) := BW5_2.cell 1 rfl
      have fW5_2 := BW5_2.free
      have cW5_3_0 : W5.cell? ⟨b7, 0, none⟩ = some (.int .u64 (d0 j)) := BW5_3.cell 0 rfl
      have cW5_3_1 : W5.cell? ⟨b7, 1, none⟩ = some (.int .u64 (d1 j)) := BW5_3.cell 1 rfl
      have fW5_3 := BW5_3.free
      cases hbj : bt j with
      | false =>
        rw [hbj] at HT
        refine (HT.out _).mono ?_
        rintro e W6 ⟨rfl, hkW6⟩
        have kW6 := kW5.trans hkW6
        have BW6_0 := BW5_0.kept hkW6
        have BW6_1 := BW5_1.kept hkW6
        have BW6_2 := BW5_2.kept hkW6
        have BW6_3 := BW5_3.kept hkW6
        clear cW5_0_0 cW5_0_1 cW5_1_0 cW5_1_1 cW5_2_0 cW5_2_1 cW5_3_0 cW5_3_1 fW5_0 fW5_1 fW5_2 fW5_3 BW5_0 BW5_1 BW5_2 BW5_3 kW5 hkW6
        have cW6_0_0 : W6.cell? ⟨w.heap.size, 0, none⟩ = some (.int .u64 x0) := BW6_0.cell 0 rfl
        have cW6_0_1 : W6.cell? ⟨w.heap.size, 1, none⟩ = some (.int .u64 x1) := BW6_0.cell 1 rfl
        have fW6_0 := BW6_0.free
        have cW6_1_0 : W6.cell? ⟨w.heap.size + 1, 0, none⟩ = some (.int .u64 y0) := BW6_1.cell 0 rfl
        have cW6_1_1 : W6.cell? ⟨w.heap.size + 1, 1, none⟩ = some (.int .u64 y1) := BW6_1.cell 1 rfl
        have fW6_1 := BW6_1.free
        have cW6_2_0 : W6.cell? ⟨w.heap.size + 1 + 1, 0, none⟩ = some (.int .u64 0) := BW6_2.cell 0 rfl
        have cW6_2_1 : W6.cell? ⟨w.heap.size + 1 + 1, 1, none⟩ = some (.int .u64 0) := BW6_2.cell 1 rfl
        have fW6_2 := BW6_2.free
        have cW6_3_0 : W6.cell? ⟨b7, 0, none⟩ = some (.int .u64 (d0 j)) := BW6_3.cell 0 rfl
        have cW6_3_1 : W6.cell? ⟨b7, 1, none⟩ = some (.int .u64 (d1 j)) := BW6_3.cell 1 rfl
        have fW6_3 := BW6_3.free
        go_wp2_with fail
        go_roundw
        case rel => exact ⟨j, by omega, rfl, kW6, BW6_0, BW6_1, BW6_2, by rw [← (hN.out j (by omega) hbj).1, ← (hN.out j (by omega) hbj).2]; exact BW6_3⟩
        case measure => (simp [intOf]) <;> omega
      | true =>
        rw [hbj] at HT
        have HS := Lib.hid (hS.out j (by omega) hbj)
        refine (HT.out _).mono ?_
        rintro e W6 ⟨rfl, hkW6⟩
        have kW6 := kW5.trans hkW6
        have BW6_0 := BW5_0.kept hkW6
        have BW6_1 := BW5_1.kept hkW6
        have BW6_2 := BW5_2.kept hkW6
        have BW6_3 := BW5_3.kept hkW6
        clear cW5_0_0 cW5_0_1 cW5_1_0 cW5_1_1 cW5_2_0 cW5_2_1 cW5_3_0 cW5_3_1 fW5_0 fW5_1 fW5_2 fW5_3 BW5_0 BW5_1 BW5_2 BW5_3 kW5 hkW6
        have cW6_0_0 : W6.cell? ⟨w.heap.size, 0, none⟩ = some (.int .u64 x0) := BW6_0.cell 0 rfl
        have cW6_0_1 : W6.cell? ⟨w.heap.size, 1, none⟩ = some (.int .u64 x1) := BW6_0.cell 1 rfl
        have fW6_0 := BW6_0.free
        have cW6_1_0 : W6.cell? ⟨w.heap.size + 1, 0, none⟩ = some (.int .u64 y0) := BW6_1.cell 0 rfl
        have cW6_1_1 : W6.cell? ⟨w.heap.size + 1, 1, none⟩ = some (.int .u64 y1) := BW6_1.cell 1 rfl
        have fW6_1 := BW6_1.free
        have cW6_2_0 : W6.cell? ⟨w.heap.size + 1 + 1, 0, none⟩ = some (.int .u64 0) := BW6_2.cell 0 rfl
        have cW6_2_1 : W6.cell? ⟨w.heap.size + 1 + 1, 1, none⟩ = some (.int .u64 0) := BW6_2.cell 1 rfl
        have fW6_2 := BW6_2.free
        have cW6_3_0 : W6.cell? ⟨b7, 0, none⟩ = some (.int .u64 (d0 j)) := BW6_3.cell 0 rfl
        have cW6_3_1 : W6.cell? ⟨b7, 1, none⟩ = some (.int .u64 (d1 j)) := BW6_3.cell 1 rfl
        have fW6_3 := BW6_3.free
        go_wp2_with fail
        refine (HS.out _).mono ?_
        rintro e W7 ⟨rfl, hkW7⟩
        have kW7 := kW6.trans hkW7
        have BW7_0 := BW6_0.kept hkW7
        have BW7_1 := BW6_1.kept hkW7
        have BW7_2 := BW6_2.kept hkW7
        have BW7_3 := BW6_3.kept hkW7
        clear cW6_0_0 cW6_0_1 cW6_1_0 cW6_1_1 cW6_2_0 cW6_2_1 cW6_3_0 cW6_3_1 fW6_0 fW6_1 fW6_2 fW6_3 BW6_0 BW6_1 BW6_2 BW6_3 kW6 hkW7
        have cW7_0_0 : W7.cell? ⟨w.heap.size, 0, none⟩ = some (.int .u64 x0) := BW7_0.cell 0 rfl
        have cW7_0_1 : W7.cell? ⟨w.heap.size, 1, none⟩ = some (.int .u64 x1) := BW7_0.cell 1 rfl
        have fW7_0 := BW7_0.free
        have cW7_1_0 : W7.cell? ⟨w.heap.size + 1, 0, none⟩ = some (.int .u64 y0) := BW7_1.cell 0 rfl
        have cW7_1_1 : W7.cell? ⟨w.heap.size + 1, 1, none⟩ = some (.int .u64 y1) := BW7_1.cell 1 rfl
        have fW7_1 := BW7_1.free
        have cW7_2_0 : W7.cell? ⟨w.heap.size + 1 + 1, 0, none⟩ = some (.int .u64 0) := BW7_2.cell 0 rfl
        have cW7_2_1 : W7.cell? ⟨w.heap.size + 1 + 1, 1, none⟩ = some (.int .u64 0) := BW7_2.cell 1 rfl
        have fW7_2 := BW7_2.free
        have cW7_3_0 : W7.cell? ⟨b7, 0, none⟩ = some (.int .u64 (d0 j)) := BW7_3.cell 0 rfl
        have cW7_3_1 : W7.cell? ⟨b7, 1, none⟩ = some (.int .u64 (d1 j)) := BW7_3.cell 1 rfl
        have fW7_3 := BW7_3.free
        go_wp2_with fail
        go_roundw
        case rel =>
          refine ⟨j, by omega, rfl, ?_, ?_, ?_, ?_, ?_⟩
          · repeat (first | exact kW7 | (refine Kept.setCell ?_ (kept_side (by first | assumption | omega)) _) | apply Kept.alloc)
          · simp [Blk, *] <;> (intros; omega)
          · simp [Blk, *] <;> (intros; omega)
          · simp [Blk, *] <;> (intros; omega)
          · simp [Blk, *] <;> (intros; omega)
        case measure => (simp [intOf]) <;> omega

set_option maxRecDepth 100000 in
set_option maxHeartbeats 2000000 in
theorem ref_Pow_raw (f a0 a1 b0 b1 : Int) (o0 o1 d0 d1 : Nat → Int) (bt : Nat → Bool)
    (h128 : o0 128 = 1) (h128' : o1 128 = 0)
    (hD : Hid (∀ j, j < 128 → Pure Try.prog 38 #[.int .i64 f, .agg #[.int .u64 (o0 (j + 1)), .int .u64 (o1 (j + 1))], .agg #[.int .u64 (o0 (j + 1)), .int .u64 (o1 (j + 1))]] (.agg #[.int .u64 (d0 j), .int .u64 (d1 j)])))
    (hBit : Hid (∀ j : Nat, j < 128 → Pure Try.prog 116 #[.agg #[.int .u64 b0, .int .u64 b1], .int .i64 (j : Int)] (.bool (bt j))))
    (hS : Hid (∀ j, j < 128 → bt j = true → Pure Try.prog 38 #[.int .i64 f, .agg #[.int .u64 (d0 j), .int .u64 (d1 j)], .agg #[.int .u64 a0, .int .u64 a1]] (.agg #[.int .u64 (o0 j), .int .u64 (o1 j)])))
    (hN : Hid (∀ j, j < 128 → bt j = false → d0 j = o0 j ∧ d1 j = o1 j)) :
    Pure Try.prog 40 #[.int .i64 f, .agg #[.int .u64 a0, .int .u64 a1], .agg #[.int .u64 b0, .int .u64 b1]] (.agg #[.int .u64 (o0 0), .int .u64 (o1 0)]) := fun w => by
  have ne0_2 : w.heap.size ≠ w.heap.size + 1 + 1 := by omega
  have ne2_0 : w.heap.size + 1 + 1 ≠ w.heap.size := by omega
  have ne0_3 : w.heap.size ≠ w.heap.size + 1 + 1 + 1 := by omega
  have ne3_0 : w.heap.size + 1 + 1 + 1 ≠ w.heap.size := by omega
  have ne1_3 : w.heap.size + 1 ≠ w.heap.size + 1 + 1 + 1 := by omega
  have ne3_1 : w.heap.size + 1 + 1 + 1 ≠ w.heap.size + 1 := by omega
  go_enter Try.func40, Try.ntmps40
  go_wp2_with fail
  refine abs_world (fun W => Kept w W ∧ Blk W (w.heap.size) 28 #[.int .u64 a0, .int .u64 a1] ∧ Blk W (w.heap.size + 1) 28 #[.int .u64 b0, .int .u64 b1] ∧ Blk W (w.heap.size + 1 + 1) 28 #[.int .u64 0, .int .u64 0] ∧ Blk W (w.heap.size + 1 + 1 + 1) 28 #[.int .u64 (o0 128), .int .u64 (o1 128)]) ?_ ?_
  · refine ⟨?_, ?_, ?_, ?_, ?_⟩
    · repeat (first | exact Kept.refl _ | (refine Kept.setCell ?_ (kept_side (by first | assumption | omega)) _) | apply Kept.alloc)
    · simp [Blk, *] <;> (intros; omega)
    · simp [Blk, *] <;> (intros; omega)
    · simp [Blk, *] <;> (intros; omega)
    · simp [Blk, *] <;> (intros; omega)
  rintro W1 ⟨kW1, BW1_0, BW1_1, BW1_2, BW1_3⟩
  have cW1_0_0 : W1.cell? ⟨w.heap.size, 0, none⟩ = some (.int .u64 a0) := BW1_0.cell 0 rfl
  have cW1_0_1 : W1.cell? ⟨w.heap.size, 1, none⟩ = some (.int .u64 a1) := BW1_0.cell 1 rfl
  have fW1_0 := BW1_0.free
  have cW1_1_0 : W1.cell? ⟨w.heap.size + 1, 0, none⟩ = some (.int .u64 b0) := BW1_1.cell 0 rfl
  have cW1_1_1 : W1.cell? ⟨w.heap.size + 1, 1, none⟩ = some (.int .u64 b1) := BW1_1.cell 1 rfl
  have fW1_1 := BW1_1.free
  have cW1_2_0 : W1.cell? ⟨w.heap.size + 1 + 1, 0, none⟩ = some (.int .u64 0) := BW1_2.cell 0 rfl
  have cW1_2_1 : W1.cell? ⟨w.heap.size + 1 + 1, 1, none⟩ = some (.int .u64 0) := BW1_2.cell 1 rfl
  have fW1_2 := BW1_2.free
  have cW1_3_0 : W1.cell? ⟨w.heap.size + 1 + 1 + 1, 0, none⟩ = some (.int .u64 (o0 128)) := BW1_3.cell 0 rfl
  have cW1_3_1 : W1.cell? ⟨w.heap.size + 1 + 1 + 1, 1, none⟩ = some (.int .u64 (o1 128)) := BW1_3.cell 1 rfl
  have fW1_3 := BW1_3.free
  go_loopw [8] (fun t wr => ∃ k : Nat, k ≤ 128 ∧ t = .int .i64 ((k : Int) - 1) ∧ Kept w wr ∧ Blk wr (w.heap.size) 28 #[.int .u64 a0, .int .u64 a1] ∧ Blk wr (w.heap.size + 1) 28 #[.int .u64 b0, .int .u64 b1] ∧ Blk wr (w.heap.size + 1 + 1) 28 #[.int .u64 0, .int .u64 0] ∧ Blk wr (w.heap.size + 1 + 1 + 1) 28 #[.int .u64 (o0 k), .int .u64 (o1 k)]) (fun t _ => (intOf t + 1).toNat)
  case atStart => exact ⟨128, Nat.le_refl _, rfl, kW1, BW1_0, BW1_1, BW1_2, BW1_3⟩
  case round =>
    clear cW1_0_0 cW1_0_1 cW1_1_0 cW1_1_1 cW1_2_0 cW1_2_1 cW1_3_0 cW1_3_1 fW1_0 fW1_1 fW1_2 fW1_3 BW1_0 BW1_1 BW1_2 BW1_3 kW1
    obtain ⟨k, hk, rfl, kwr, Bwr_0, Bwr_1, Bwr_2, Bwr_3⟩ := hrel
    cases k with
    | zero =>
      have cwr_0_0 : wr.cell? ⟨w.heap.size, 0, none⟩ = some (.int .u64 a0) := Bwr_0.cell 0 rfl
      have cwr_0_1 : wr.cell? ⟨w.heap.size, 1, none⟩ = some (.int .u64 a1) := Bwr_0.cell 1 rfl
      have fwr_0 := Bwr_0.free
      have cwr_1_0 : wr.cell? ⟨w.heap.size + 1, 0, none⟩ = some (.int .u64 b0) := Bwr_1.cell 0 rfl
      have cwr_1_1 : wr.cell? ⟨w.heap.size + 1, 1, none⟩ = some (.int .u64 b1) := Bwr_1.cell 1 rfl
      have fwr_1 := Bwr_1.free
      have cwr_2_0 : wr.cell? ⟨w.heap.size + 1 + 1, 0, none⟩ = some (.int .u64 0) := Bwr_2.cell 0 rfl
      have cwr_2_1 : wr.cell? ⟨w.heap.size + 1 + 1, 1, none⟩ = some (.int .u64 0) := Bwr_2.cell 1 rfl
      have fwr_2 := Bwr_2.free
      have cwr_3_0 : wr.cell? ⟨w.heap.size + 1 + 1 + 1, 0, none⟩ = some (.int .u64 (o0 0)) := Bwr_3.cell 0 rfl
      have cwr_3_1 : wr.cell? ⟨w.heap.size + 1 + 1 + 1, 1, none⟩ = some (.int .u64 (o1 0)) := Bwr_3.cell 1 rfl
      have fwr_3 := Bwr_3.free
      go_wp2
      refine bodyPost_ret (v := .agg #[.int .u64 (o0 0), .int .u64 (o1 0)]) (by simp [results, Try.results40, go_sem, *]) rfl ⟨rfl, ?_⟩
      repeat (first | exact kwr | (refine Kept.setCell ?_ (kept_side (by first | assumption | omega)) _) | apply Kept.alloc)
    | succ j =>
      have cwr_0_0 : wr.cell? ⟨w.heap.size, 0, none⟩ = some (.int .u64 a0) := Bwr_0.cell 0 rfl
      have cwr_0_1 : wr.cell? ⟨w.heap.size, 1, none⟩ = some (.int .u64 a1) := Bwr_0.cell 1 rfl
      have fwr_0 := Bwr_0.free
      have cwr_1_0 : wr.cell? ⟨w.heap.size + 1, 0, none⟩ = some (.int .u64 b0) := Bwr_1.cell 0 rfl
      have cwr_1_1 : wr.cell? ⟨w.heap.size + 1, 1, none⟩ = some (.int .u64 b1) := Bwr_1.cell 1 rfl
      have fwr_1 := Bwr_1.free
      have cwr_2_0 : wr.cell? ⟨w.heap.size + 1 + 1, 0, none⟩ = some (.int .u64 0) := Bwr_2.cell 0 rfl
      have cwr_2_1 : wr.cell? ⟨w.heap.size + 1 + 1, 1, none⟩ = some (.int .u64 0) := Bwr_2.cell 1 rfl
      have fwr_2 := Bwr_2.free
      have cwr_3_0 : wr.cell? ⟨w.heap.size + 1 + 1 + 1, 0, none⟩ = some (.int .u64 (o0 (j + 1))) := Bwr_3.cell 0 rfl
      have cwr_3_1 : wr.cell? ⟨w.heap.size + 1 + 1 + 1, 1, none⟩ = some (.int .u64 (o1 (j + 1))) := Bwr_3.cell 1 rfl
      have fwr_3 := Bwr_3.free
      rw [show ((j + 1 : Nat) : Int) - 1 = (j : Int) from by omega]
      have HD := Lib.hid (hD.out j (by omega))
      have HT := Lib.hid (hBit.out j (by omega))
      go_wp2_with fail
      refine (HD.out _).mono ?_
      rintro e W2 ⟨rfl, hkW2⟩
      have kW2 := kwr.trans hkW2
      have BW2_0 := Bwr_0.kept hkW2
      have BW2_1 := Bwr_1.kept hkW2
      have BW2_2 := Bwr_2.kept hkW2
      have BW2_3 := Bwr_3.kept hkW2
      clear cwr_0_0 cwr_0_1 cwr_1_0 cwr_1_1 cwr_2_0 cwr_2_1 cwr_3_0 cwr_3_1 fwr_0 fwr_1 fwr_2 fwr_3 Bwr_0 Bwr_1 Bwr_2 Bwr_3 kwr hkW2
      have cW2_0_0 : W2.cell? ⟨w.heap.size, 0, none⟩ = some (.int .u64 a0) := BW2_0.cell 0 rfl
      have cW2_0_1 : W2.cell? ⟨w.heap.size, 1, none⟩ = some (.int .u64 a1) := BW2_0.cell 1 rfl
      have fW2_0 := BW2_0.free
      have cW2_1_0 : W2.cell? ⟨w.heap.size + 1, 0, none⟩ = some (.int .u64 b0) := BW2_1.cell 0 rfl
      have cW2_1_1 : W2.cell? ⟨w.heap.size + 1, 1, none⟩ = some (.int .u64 b1) := BW2_1.cell 1 rfl
      have fW2_1 := BW2_1.free
      have cW2_2_0 : W2.cell? ⟨w.heap.size + 1 + 1, 0, none⟩ = some (.int .u64 0) := BW2_2.cell 0 rfl
      have cW2_2_1 : W2.cell? ⟨w.heap.size + 1 + 1, 1, none⟩ = some (.int .u64 0) := BW2_2.cell 1 rfl
      have fW2_2 := BW2_2.free
      have cW2_3_0 : W2.cell? ⟨w.heap.size + 1 + 1 + 1, 0, none⟩ = some (.int .u64 (o0 (j + 1))) := BW2_3.cell 0 rfl
      have cW2_3_1 : W2.cell? ⟨w.heap.size + 1 + 1 + 1, 1, none⟩ = some (.int .u64 (o1 (j + 1))) := BW2_3.cell 1 rfl
      have fW2_3 := BW2_3.free
      go_wp2_with fail
      refine abs_calls (fun W => Kept w W ∧ Blk W (w.heap.size) 28 #[.int .u64 a0, .int .u64 a1] ∧ Blk W (w.heap.size + 1) 28 #[.int .u64 b0, .int .u64 b1] ∧ Blk W (w.heap.size + 1 + 1) 28 #[.int .u64 0, .int .u64 0] ∧ Blk W (w.heap.size + 1 + 1 + 1) 28 #[.int .u64 (d0 j), .int .u64 (d1 j)]) ?_ ?_
      · refine ⟨?_, ?_, ?_, ?_, ?_⟩
        · repeat (first | exact kW2 | (refine Kept.setCell ?_ (kept_side (by first | assumption | omega)) _) | apply Kept.alloc)
        · simp [Blk, *] <;> (intros; omega)
        · simp [Blk, *] <;> (intros; omega)
        · simp [Blk, *] <;> (intros; omega)
        · simp [Blk, *] <;> (intros; omega)
      rintro W3 ⟨kW3, BW3_0, BW3_1, BW3_2, BW3_3⟩
      have cW3_0_0 : W3.cell? ⟨w.heap.size, 0, none⟩ = some (.int .u64 a0) := BW3_0.cell 0 rfl
      have cW3_0_1 : W3.cell? ⟨w.heap.size, 1, none⟩ = some (.int .u64 a1) := BW3_0.cell 1 rfl
      have fW3_0 := BW3_0.free
      have cW3_1_0 : W3.cell? ⟨w.heap.size + 1, 0, none⟩ = some (.int .u64 b0) := BW3_1.cell 0 rfl
      have cW3_1_1 : W3.cell? ⟨w.heap.size + 1, 1, none⟩ = some (.int .u64 b1) := BW3_1.cell 1 rfl
      have fW3_1 := BW3_1.free
      have cW3_2_0 : W3.cell? ⟨w.heap.size + 1 + 1, 0, none⟩ = some (.int .u64 0) := BW3_2.cell 0 rfl
      have cW3_2_1 : W3.cell? ⟨w.heap.size + 1 + 1, 1, none⟩ = some (.int .u64 0) := BW3_2.cell 1 rfl
      have fW3_2 := BW3_2.free
      have cW3_3_0 : W3.cell? ⟨w.heap.size + 1 + 1 + 1, 0, none⟩ = some (.int .u64 (d0 j)) := BW3_3.cell 0 rfl
      have cW3_3_1 : W3.cell? ⟨w.heap.size + 1 + 1 + 1, 1, none⟩ = some (.int .u64 (d1 j)) := BW3_3.cell 1 rfl
      have fW3_3 := BW3_3.free
      cases hbj : bt j with
      | false =>
        rw [hbj] at HT
        refine (HT.out _).mono ?_
        rintro e W4 ⟨rfl, hkW4⟩
        have kW4 := kW3.trans hkW4
        have BW4_0 := BW3_0.kept hkW4
        have BW4_1 := BW3_1.kept hkW4
        have BW4_2 := BW3_2.kept hkW4
        have BW4_3 := BW3_3.kept hkW4
        clear cW3_0_0 cW3_0_1 cW3_1_0 cW3_1_1 cW3_2_0 cW3_2_1 cW3_3_0 cW3_3_1 fW3_0 fW3_1 fW3_2 fW3_3 BW3_0 BW3_1 BW3_2 BW3_3 kW3 hkW4
        have cW4_0_0 : W4.cell? ⟨w.heap.size, 0, none⟩ = some (.int .u64 a0) := BW4_0.cell 0 rfl
        have cW4_0_1 : W4.cell? ⟨w.heap.size, 1, none⟩ = some (.int .u64 a1) := BW4_0.cell 1 rfl
        have fW4_0 := BW4_0.free
        have cW4_1_0 : W4.cell? ⟨w.heap.size + 1, 0, none⟩ = some (.int .u64 b0) := BW4_1.cell 0 rfl
        have cW4_1_1 : W4.cell? ⟨w.heap.size + 1, 1, none⟩ = some (.int .u64 b1) := BW4_1.cell 1 rfl
        have fW4_1 := BW4_1.free
        have cW4_2_0 : W4.cell? ⟨w.heap.size + 1 + 1, 0, none⟩ = some (.int .u64 0) := BW4_2.cell 0 rfl
        have cW4_2_1 : W4.cell? ⟨w.heap.size + 1 + 1, 1, none⟩ = some (.int .u64 0) := BW4_2.cell 1 rfl
        have fW4_2 := BW4_2.free
        have cW4_3_0 : W4.cell? ⟨w.heap.size + 1 + 1 + 1, 0, none⟩ = some (.int .u64 (d0 j)) := BW4_3.cell 0 rfl
        have cW4_3_1 : W4.cell? ⟨w.heap.size + 1 + 1 + 1, 1, none⟩ = some (.int .u64 (d1 j)) := BW4_3.cell 1 rfl
        have fW4_3 := BW4_3.free
        go_wp2_with fail
        go_roundw
        case rel => exact ⟨j, by omega, rfl, kW4, BW4_0, BW4_1, BW4_2, by rw [← (hN.out j (by omega) hbj).1, ← (hN.out j (by omega) hbj).2]; exact BW4_3⟩
        case measure => (simp [intOf]) <;> omega
      | true =>
        rw [hbj] at HT
        have HS := Lib.hid (hS.out j (by omega) hbj)
        refine (HT.out _).mono ?_
        rintro e W4 ⟨rfl, hkW4⟩
        have kW4 := kW3.trans hkW4
        have BW4_0 := BW3_0.kept hkW4
        have BW4_1 := BW3_1.kept hkW4
        have BW4_2 := BW3_2.kept hkW4
        have BW4_3 := BW3_3.kept hkW4
        clear cW3_0_0 cW3_0_1 cW3_1_0 cW3_1_1 cW3_2_0 cW3_2_1 cW3_3_0 cW3_3_1 fW3_0 fW3_1 fW3_2 fW3_3 BW3_0 BW3_1 BW3_2 BW3_3 kW3 hkW4
        have cW4_0_0 : W4.cell? ⟨w.heap.size, 0, none⟩ = some (.int .u64 a0) := BW4_0.cell 0 rfl
        have cW4_0_1 : W4.cell? ⟨w.heap.size, 1, none⟩ = some (.int .u64 a1) := BW4_0.cell 1 rfl
        have fW4_0 := BW4_0.free
        have cW4_1_0 : W4.cell? ⟨w.heap.size + 1, 0, none⟩ = some (.int .u64 b0) := BW4_1.cell 0 rfl
        have cW4_1_1 : W4.cell? ⟨w.heap.size + 1, 1, none⟩ = some (.int .u64 b1) := BW4_1.cell 1 rfl
        have fW4_1 := BW4_1.free
        have cW4_2_0 : W4.cell? ⟨w.heap.size + 1 + 1, 0, none⟩ = some (.int .u64 0) := BW4_2.cell 0 rfl
        have cW4_2_1 : W4.cell? ⟨w.heap.size + 1 + 1, 1, none⟩ = some (.int .u64 0) := BW4_2.cell 1 rfl
        have fW4_2 := BW4_2.free
        have cW4_3_0 : W4.cell? ⟨w.heap.size + 1 + 1 + 1, 0, none⟩ = some (.int .u64 (d0 j)) := BW4_3.cell 0 rfl
        have cW4_3_1 : W4.cell? ⟨w.heap.size + 1 + 1 + 1, 1, none⟩ = some (.int .u64 (d1 j)) := BW4_3.cell 1 rfl
        have fW4_3 := BW4_3.free
        go_wp2_with fail
        refine (HS.out _).mono ?_
        rintro e W5 ⟨rfl, hkW5⟩
        have kW5 := kW4.trans hkW5
        have BW5_0 := BW4_0.kept hkW5
        have BW5_1 := BW4_1.kept hkW5
        have BW5_2 := BW4_2.kept hkW5
        have BW5_3 := BW4_3.kept hkW5
        clear cW4_0_0 cW4_0_1 cW4_1_0 cW4_1_1 cW4_2_0 cW4_2_1 cW4_3_0 cW4_3_1 fW4_0 fW4_1 fW4_2 fW4_3 BW4_0 BW4_1 BW4_2 BW4_3 kW4 hkW5
        have cW5_0_0 : W5.cell? ⟨w.heap.size, 0, none⟩ = some (.int .u64 a0) := BW5_0.cell 0 rfl
        have cW5_0_1 : W5.cell? ⟨w.heap.size, 1, none⟩ = some (.int .u64 a1) := BW5_0.cell 1 rfl
        have fW5_0 := BW5_0.free
        have cW5_1_0 : W5.cell? ⟨w.heap.size + 1, 0, none⟩ = some (.int .u64 b0) := BW5_1.cell 0 rfl
        have cW5_1_1 : W5.cell? ⟨w.heap.size + 1, 1, none⟩ = some (.int .u64 b1) := BW5_1.cell 1 rfl
        have fW5_1 := BW5_1.free
        have cW5_2_0 : W5.cell? ⟨w.heap.size + 1 + 1, 0, none⟩ = some (.int .u64 0) := BW5_2.cell 0 rfl
        have cW5_2_1 : W5.cell? ⟨w.heap.size + 1 + 1, 1, none⟩ = some (.int .u64 0) := BW5_2.cell 1 rfl
        have fW5_2 := BW5_2.free
        have cW5_3_0 : W5.cell? ⟨w.heap.size + 1 + 1 + 1, 0, none⟩ = some (.int .u64 (d0 j)) := BW5_3.cell 0 rfl
        have cW5_3_1 : W5.cell? ⟨w.heap.size + 1 + 1 + 1, 1, none⟩ = some (.int .u64 (d1 j)) := BW5_3.cell 1 rfl
        have fW5_3 := BW5_3.free
        go_wp2_with fail
        go_roundw
        case rel =>
          refine ⟨j, by omega, rfl, ?_, ?_, ?_, ?_, ?_⟩
          · repeat (first | exact kW5 | (refine Kept.setCell ?_ (kept_side (by first | assumption | omega)) _) | apply Kept.alloc)
          · simp [Blk, *] <;> (intros; omega)
          · simp [Blk, *] <;> (intros; omega)
          · simp [Blk, *] <;> (intros; omega)
          · simp [Blk, *] <;> (intros; omega)
        case measure => (simp [intOf]) <;> omega

/-- How far doubling and adding has come: the high bits of y have been taken in, k are left. -/
def mulAt (f x y : Int) (k : Nat) : Int := (x * (y / 2 ^ k)) % rP f
def mulTw (f x y : Int) (j : Nat) : Int := (mulAt f x y (j + 1) + mulAt f x y (j + 1)) % rP f
theorem bit_cases (y : Int) (j : Nat) (h : 0 ≤ y) : y / 2 ^ j = 2 * (y / 2 ^ (j + 1)) + y / 2 ^ j % 2 := by
  rw [div_pow_succ]; omega

theorem ref_Mul {f a b : Int} (hf : isF f) (ha : is128 a) (hb : is128 b) : Pure Try.prog 38 #[.int .i64 f, E a, E b] (E ((rOf f a * rOf f b) % rP f)) := by
  have hA := ref_Of hf ha
  have hB := ref_Of hf hb
  have hx := is128_rOf f a
  have hy := is128_rOf f b
  have x0 := rOf_lo f a
  have x1 := rOf_lt f a
  have y0 := rOf_lo f b
  generalize rOf f a = X at *
  generalize rOf f b = Y at *
  have pp := rP_pos f
  have e128 : Y / 2 ^ 128 = 0 := by unfold is128 at hy; exact Int.ediv_eq_zero_of_lt y0 (by omega)
  have em : ∀ k, is128 (mulAt f X Y k) := fun k => is128_emod f _
  have ed : ∀ k, is128 (mulTw f X Y k) := fun k => is128_emod f _
  have o128 : mulAt f X Y 128 = 0 := by unfold mulAt; rw [e128, Int.mul_zero, Int.zero_emod]
  have key := ref_Mul_raw f _ _ _ _ _ _ _ _ (fun k => mulAt f X Y k % 18446744073709551616) (fun k => mulAt f X Y k / 18446744073709551616) (fun k => mulTw f X Y k % 18446744073709551616) (fun k => mulTw f X Y k / 18446744073709551616) (fun j => Y / 2 ^ j % 2 == 1)
    hA hB (by show mulAt f X Y 128 % _ = 0; rw [o128]; rfl) (by show mulAt f X Y 128 / _ = 0; rw [o128]; rfl) ?_ ?_ ?_ ?_
  · have e0 : mulAt f X Y 0 = X * Y % rP f := by unfold mulAt; simp
    rw [← e0]; exact key
  · intro j hj
    have h := ref_Add hf (em (j + 1)) (em (j + 1))
    rw [show rOf f (mulAt f X Y (j + 1)) = mulAt f X Y (j + 1) from rOf_emod f _] at h
    exact h
  · intro j hj
    exact ref_bit hy j hj
  · intro j hj hbt
    have h := ref_Add hf (ed j) hx
    rw [show rOf f (mulTw f X Y j) = mulTw f X Y j from rOf_emod f _, rOf_of_lt x0 x1] at h
    have e : (mulTw f X Y j + X) % rP f = mulAt f X Y j := by
      have hb1 : Y / 2 ^ j % 2 = 1 := by simpa using hbt
      unfold mulTw mulAt
      rw [Int.emod_add_emod, Int.add_assoc, Int.emod_add_emod, Int.add_comm (X * (Y / 2 ^ (j + 1)) % rP f), ← Int.add_assoc, Int.add_emod_emod]
      rw [bit_cases Y j y0, hb1, Int.mul_add, Int.mul_one, Int.two_mul, Int.mul_add]
      congr 1; omega
    rw [e] at h
    exact h
  · intro j hj hbt
    have hb0 : Y / 2 ^ j % 2 = 0 := by
      have : Y / 2 ^ j % 2 ≠ 1 := by simpa using hbt
      omega
    have e : mulTw f X Y j = mulAt f X Y j := by
      unfold mulTw mulAt
      rw [← Int.add_emod, bit_cases Y j y0, hb0, Int.add_zero, Int.two_mul, Int.mul_add]
    exact ⟨by rw [e], by rw [e]⟩

def powAt (f x : Int) (n : Nat) (k : Nat) : Int := (x ^ (n / 2 ^ k)) % rP f
def powTw (f x : Int) (n : Nat) (j : Nat) : Int := (powAt f x n (j + 1) * powAt f x n (j + 1)) % rP f

theorem ref_Pow {f a : Int} {n : Nat} (hf : isF f) (ha : is128 a) (hn : is128 n) : Pure Try.prog 40 #[.int .i64 f, E a, E n] (E ((rOf f a ^ n) % rP f)) := by
  have em : ∀ k, is128 (powAt f (rOf f a) n k) := fun k => is128_emod f _
  have ed : ∀ k, is128 (powTw f (rOf f a) n k) := fun k => is128_emod f _
  have e128 : n / 2 ^ 128 = 0 := by unfold is128 at hn; exact Nat.div_eq_of_lt (by omega)
  have hp1 : (1 : Int) % rP f = 1 := by rcases hf with rfl | rfl <;> rfl
  have one : powAt f (rOf f a) n 128 = 1 := by unfold powAt; rw [e128, Int.pow_zero, hp1]
  have key := ref_Pow_raw f (a % 18446744073709551616) (a / 18446744073709551616) ((n : Int) % 18446744073709551616) ((n : Int) / 18446744073709551616) (fun k => powAt f (rOf f a) n k % 18446744073709551616) (fun k => powAt f (rOf f a) n k / 18446744073709551616) (fun k => powTw f (rOf f a) n k % 18446744073709551616) (fun k => powTw f (rOf f a) n k / 18446744073709551616) (fun j => (n : Int) / 2 ^ j % 2 == 1)
    (by show powAt f (rOf f a) n 128 % _ = 1; rw [one]; rfl) (by show powAt f (rOf f a) n 128 / _ = 0; rw [one]; rfl) ?_ ?_ ?_ ?_
  · have e0 : powAt f (rOf f a) n 0 = rOf f a ^ n % rP f := by unfold powAt; simp
    rw [← e0]; exact key
  · intro j hj
    have h := ref_Mul hf (em (j + 1)) (em (j + 1))
    rw [show rOf f (powAt f (rOf f a) n (j + 1)) = powAt f (rOf f a) n (j + 1) from rOf_emod f _] at h
    exact h
  · intro j hj
    exact ref_bit hn j hj
  · intro j hj hbt
    have h := ref_Mul hf (ed j) ha
    rw [show rOf f (powTw f (rOf f a) n j) = powTw f (rOf f a) n j from rOf_emod f _] at h
    have e : (powTw f (rOf f a) n j * rOf f a) % rP f = powAt f (rOf f a) n j := by
      have hb1 : n / 2 ^ j % 2 = 1 := by rw [testBit_int, Nat.testBit_eq_decide_div_mod_eq] at hbt; simpa using hbt
      have en : n / 2 ^ j = n / 2 ^ (j + 1) + n / 2 ^ (j + 1) + 1 := by rw [Nat.pow_succ, ← Nat.div_div_eq_div_mul]; omega
      unfold powTw powAt
      rw [← Int.mul_emod, en, Int.pow_succ, Int.pow_add, Int.mul_emod (_ % rP f), Int.emod_emod, ← Int.mul_emod]
    rw [e] at h
    exact h
  · intro j hj hbt
    have hb0 : n / 2 ^ j % 2 = 0 := by
      rw [testBit_int, Nat.testBit_eq_decide_div_mod_eq] at hbt
      have : n / 2 ^ j % 2 ≠ 1 := by simpa using hbt
      omega
    have en : n / 2 ^ j = n / 2 ^ (j + 1) + n / 2 ^ (j + 1) := by rw [Nat.pow_succ, ← Nat.div_div_eq_div_mul]; omega
    have e : powTw f (rOf f a) n j = powAt f (rOf f a) n j := by
      unfold powTw powAt
      rw [← Int.mul_emod, en, Int.pow_add]
    exact ⟨by rw [e], by rw [e]⟩

end Go.Proofs.Ytnajihlhcdedgaa
