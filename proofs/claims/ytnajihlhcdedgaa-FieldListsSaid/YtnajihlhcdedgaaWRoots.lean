/-
  WideRoots: for every order the law returns true.
  Conditions: none.
-/
import Derived.Test.YtnajihlhcdedgaaWPow
import Derived.Test.YtnajihlhcdedgaaG4
namespace Go.Proofs.Ytnajihlhcdedgaa
open Go.RowKit
set_option linter.unusedVariables false
set_option linter.unusedSimpArgs false
attribute [local simp] blkAt_setCell blkAt_alloc blkAt_drew Obj.put_cells

set_option maxRecDepth 100000 in
set_option maxHeartbeats 2000000 in
theorem w_Root_in (l : Int) (r0 r1 : Nat → Int) (h0 : 0 ≤ l) (h1 : l ≤ 66) (hR : Pure Try.prog 54 #[.agg #[.int .u64 7, .int .u64 0], .agg #[.int .u64 4611686018427387897, .int .u64 0]] (.agg #[.int .u64 (r0 0), .int .u64 (r1 0)]))
    (hM : Hid (∀ k, Pure Try.prog 53 #[.agg #[.int .u64 (r0 k), .int .u64 (r1 k)], .agg #[.int .u64 (r0 k), .int .u64 (r1 k)]] (.agg #[.int .u64 (r0 (k + 1)), .int .u64 (r1 (k + 1))]))) (N : Nat) (hN : Hid (N = (66 - l).toNat)) :
    Pure Try.prog 68 #[.int .i64 l] (.tuple #[.agg #[.int .u64 (r0 N), .int .u64 (r1 N)], .int .i64 0]) := fun w => by
  have hl1 : ¬ l < 0 := by omega
  have hl2 : ¬ 66 < l := by omega
  have hN1 : N ≤ 66 := by have := hN.out; omega
  have hN2 : (N : Int) ≤ 66 - l := by have := hN.out; omega
  have hN3 : 66 - l ≤ (N : Int) := by have := hN.out; omega
  have HR := Lib.hid hR
  clear hR
  go_enter Try.func68, Try.ntmps68
  go_wp2_with fail
  refine abs_calls (fun W => Kept w W ∧ Blk W (w.heap.size) 28 #[.int .u64 0, .int .u64 0]) ?_ ?_
  · refine ⟨?_, ?_⟩
    · repeat (first | exact Kept.refl _ | (refine Kept.setCell ?_ (kept_side (by first | assumption | omega)) _) | apply Kept.alloc | apply Kept.drew)
    · simp [Blk, *] <;> (intros; omega)
  rintro W1 ⟨kW1, BW1_0⟩
  have cW1_0_0 : W1.cell? ⟨w.heap.size, 0, none⟩ = some (.int .u64 0) := BW1_0.cell 0 rfl
  have cW1_0_1 : W1.cell? ⟨w.heap.size, 1, none⟩ = some (.int .u64 0) := BW1_0.cell 1 rfl
  have fW1_0 := BW1_0.free
  refine (HR.out _).mono ?_
  rintro e W2 ⟨rfl, hkW2⟩
  have kW2 := kW1.trans hkW2
  have BW2_0 := BW1_0.kept hkW2
  clear cW1_0_0 cW1_0_1 fW1_0 BW1_0 kW1 hkW2
  have cW2_0_0 : W2.cell? ⟨w.heap.size, 0, none⟩ = some (.int .u64 0) := BW2_0.cell 0 rfl
  have cW2_0_1 : W2.cell? ⟨w.heap.size, 1, none⟩ = some (.int .u64 0) := BW2_0.cell 1 rfl
  have fW2_0 := BW2_0.free
  obtain ⟨b4, hb4⟩ : ∃ b, W2.heap.size = b := ⟨_, rfl⟩
  have neb4_0 : w.heap.size ≠ b4 := by have := BW2_0.lt; omega
  have enb4_0 : b4 ≠ w.heap.size := neb4_0.symm
  have lob4 : w.heap.size ≤ b4 := hb4 ▸ kW2.size
  go_wp2_with fail
  refine abs_world (fun W => Kept w W ∧ Blk W (w.heap.size) 28 #[.int .u64 0, .int .u64 0] ∧ Blk W (b4) 28 #[.int .u64 (r0 0), .int .u64 (r1 0)]) ?_ ?_
  · refine ⟨?_, ?_, ?_⟩
    · repeat (first | exact kW2 | (refine Kept.setCell ?_ (kept_side (by first | assumption | omega)) _) | apply Kept.alloc | apply Kept.drew)
    · simp [Blk, *] <;> (intros; omega)
    · simp [Blk, *] <;> (intros; omega)
  rintro W3 ⟨kW3, BW3_0, BW3_1⟩
  have cW3_0_0 : W3.cell? ⟨w.heap.size, 0, none⟩ = some (.int .u64 0) := BW3_0.cell 0 rfl
  have cW3_0_1 : W3.cell? ⟨w.heap.size, 1, none⟩ = some (.int .u64 0) := BW3_0.cell 1 rfl
  have fW3_0 := BW3_0.free
  have cW3_1_0 : W3.cell? ⟨b4, 0, none⟩ = some (.int .u64 (r0 0)) := BW3_1.cell 0 rfl
  have cW3_1_1 : W3.cell? ⟨b4, 1, none⟩ = some (.int .u64 (r1 0)) := BW3_1.cell 1 rfl
  have fW3_1 := BW3_1.free
  go_loopw [17] (fun t wr => ∃ k : Nat, k ≤ N ∧ t = .int .i64 (k : Int) ∧ Kept w wr ∧ Blk wr (w.heap.size) 28 #[.int .u64 0, .int .u64 0] ∧ Blk wr (b4) 28 #[.int .u64 (r0 k), .int .u64 (r1 k)]) (fun t _ => N - (intOf t).toNat)
  case atStart => exact ⟨0, Nat.zero_le _, rfl, kW3, BW3_0, BW3_1⟩
  case round =>
    clear cW3_0_0 cW3_0_1 cW3_1_0 cW3_1_1 fW3_0 fW3_1 BW3_0 BW3_1 kW3
    obtain ⟨k, hk, rfl, kwr, Bwr_0, Bwr_1⟩ := hrel
    have cwr_0_0 : wr.cell? ⟨w.heap.size, 0, none⟩ = some (.int .u64 0) := Bwr_0.cell 0 rfl
    have cwr_0_1 : wr.cell? ⟨w.heap.size, 1, none⟩ = some (.int .u64 0) := Bwr_0.cell 1 rfl
    have fwr_0 := Bwr_0.free
    have cwr_1_0 : wr.cell? ⟨b4, 0, none⟩ = some (.int .u64 (r0 k)) := Bwr_1.cell 0 rfl
    have cwr_1_1 : wr.cell? ⟨b4, 1, none⟩ = some (.int .u64 (r1 k)) := Bwr_1.cell 1 rfl
    have fwr_1 := Bwr_1.free
    by_cases hlt : k < N
    · skip
      have HS := Lib.hid (hM.out k)
      go_wp2_with fail
      refine (HS.out _).mono ?_
      rintro e W4 ⟨rfl, hkW4⟩
      have kW4 := kwr.trans hkW4
      have BW4_0 := Bwr_0.kept hkW4
      have BW4_1 := Bwr_1.kept hkW4
      clear cwr_0_0 cwr_0_1 cwr_1_0 cwr_1_1 fwr_0 fwr_1 Bwr_0 Bwr_1 kwr hkW4
      have cW4_0_0 : W4.cell? ⟨w.heap.size, 0, none⟩ = some (.int .u64 0) := BW4_0.cell 0 rfl
      have cW4_0_1 : W4.cell? ⟨w.heap.size, 1, none⟩ = some (.int .u64 0) := BW4_0.cell 1 rfl
      have fW4_0 := BW4_0.free
      have cW4_1_0 : W4.cell? ⟨b4, 0, none⟩ = some (.int .u64 (r0 k)) := BW4_1.cell 0 rfl
      have cW4_1_1 : W4.cell? ⟨b4, 1, none⟩ = some (.int .u64 (r1 k)) := BW4_1.cell 1 rfl
      have fW4_1 := BW4_1.free
      go_wp2_with fail
      go_roundw
      case rel =>
        refine ⟨k + 1, by omega, by go_num, ?_, ?_, ?_⟩
        · repeat (first | exact kW4 | (refine Kept.setCell ?_ (kept_side (by first | assumption | omega)) _) | apply Kept.alloc | apply Kept.drew)
        · simp [Blk, *] <;> (intros; omega)
        · simp [Blk, *] <;> (intros; omega)
      case measure => (simp [intOf]) <;> omega
    · skip
      obtain rfl : k = N := by omega
      go_wp2_with fail
      refine bodyPost_ret (v := .tuple #[.agg #[.int .u64 (r0 k), .int .u64 (r1 k)], .int .i64 0]) (by simp [results, Try.results68, go_sem, *]) rfl ⟨rfl, ?_⟩
      repeat (first | exact kwr | (refine Kept.setCell ?_ (kept_side (by first | assumption | omega)) _) | apply Kept.alloc | apply Kept.drew)

set_option maxRecDepth 100000 in
set_option maxHeartbeats 2000000 in
theorem w_Root_no (l : Int) (h : l < 0 ∨ 66 < l) : Pure Try.prog 68 #[.int .i64 l] (.tuple #[.agg #[.int .u64 0, .int .u64 0], .int .i64 6]) := fun w => by
  rcases h with h | h
  · skip
    go_enter Try.func68, Try.ntmps68
    go_wp2_with fail
    refine bodyPost_ret (v := .tuple #[.agg #[.int .u64 0, .int .u64 0], .int .i64 6]) (by simp [results, Try.results68, go_sem, *]) rfl ⟨rfl, ?_⟩
    repeat (first | exact Kept.refl _ | (refine Kept.setCell ?_ (kept_side (by first | assumption | omega)) _) | apply Kept.alloc | apply Kept.drew)
  · have hl1 : ¬ l < 0 := by omega
    go_enter Try.func68, Try.ntmps68
    go_wp2_with fail
    refine bodyPost_ret (v := .tuple #[.agg #[.int .u64 0, .int .u64 0], .int .i64 6]) (by simp [results, Try.results68, go_sem, *]) rfl ⟨rfl, ?_⟩
    repeat (first | exact Kept.refl _ | (refine Kept.setCell ?_ (kept_side (by first | assumption | omega)) _) | apply Kept.alloc | apply Kept.drew)

set_option maxRecDepth 100000 in
set_option maxHeartbeats 2000000 in
theorem wide_roots_no (l : Int) (h : l < 0 ∨ 66 < l) (hK : Pure Try.prog 47 #[] (.bool true)) (hR : Pure Try.prog 68 #[.int .i64 l] (.tuple #[.agg #[.int .u64 0, .int .u64 0], .int .i64 6])) (w : World) :
    Calls Try.prog 15 #[.int .i64 l] w fun e w' => e = .returned (.bool true) ∧ Kept w w' := by
  have HK := Lib.hid hK
  have HR := Lib.hid hR
  clear hK hR
  rcases h with h | h
  · skip
    have kw := Kept.refl w
    have hq := fun w => eql28_self 0 0 w
    go_enter Try.func15, Try.ntmps15
    go_wp2_with fail
    refine (HK.out _).mono ?_
    rintro e W1 ⟨rfl, hkW1⟩
    have kW1 := kw.trans hkW1
    clear kw hkW1
    go_wp2_with fail
    refine (HR.out _).mono ?_
    rintro e W2 ⟨rfl, hkW2⟩
    have kW2 := kW1.trans hkW2
    clear kW1 hkW2
    obtain ⟨b3, hb3⟩ : ∃ b, W2.heap.size = b := ⟨_, rfl⟩
    have lob3 : w.heap.size ≤ b3 := hb3 ▸ kW2.size
    go_upto_region 4 with (fail)
    refine abs_world (fun W => Kept w W ∧ Blk W (b3) 28 #[.int .u64 0, .int .u64 0]) ?_ ?_
    · refine ⟨?_, ?_⟩
      · repeat (first | exact kW2 | (refine Kept.setCell ?_ (kept_side (by first | assumption | omega)) _) | apply Kept.alloc | apply Kept.drew)
      · simp [Blk, *] <;> (intros; omega)
    rintro W3 ⟨kW3, BW3_0⟩
    have cW3_0_0 : W3.cell? ⟨b3, 0, none⟩ = some (.int .u64 0) := BW3_0.cell 0 rfl
    have cW3_0_1 : W3.cell? ⟨b3, 1, none⟩ = some (.int .u64 0) := BW3_0.cell 1 rfl
    have fW3_0 := BW3_0.free
    go_wp2_with fail
    go_ret
    exact ⟨rfl, kW3⟩
  · have hl1 : ¬ l < 0 := by omega
    have kw := Kept.refl w
    have hq := fun w => eql28_self 0 0 w
    go_enter Try.func15, Try.ntmps15
    go_wp2_with fail
    refine (HK.out _).mono ?_
    rintro e W1 ⟨rfl, hkW1⟩
    have kW1 := kw.trans hkW1
    clear kw hkW1
    go_wp2_with fail
    refine (HR.out _).mono ?_
    rintro e W2 ⟨rfl, hkW2⟩
    have kW2 := kW1.trans hkW2
    clear kW1 hkW2
    obtain ⟨b3, hb3⟩ : ∃ b, W2.heap.size = b := ⟨_, rfl⟩
    have lob3 : w.heap.size ≤ b3 := hb3 ▸ kW2.size
    go_upto_region 4 with (fail)
    refine abs_world (fun W => Kept w W ∧ Blk W (b3) 28 #[.int .u64 0, .int .u64 0]) ?_ ?_
    · refine ⟨?_, ?_⟩
      · repeat (first | exact kW2 | (refine Kept.setCell ?_ (kept_side (by first | assumption | omega)) _) | apply Kept.alloc | apply Kept.drew)
      · simp [Blk, *] <;> (intros; omega)
    rintro W3 ⟨kW3, BW3_0⟩
    have cW3_0_0 : W3.cell? ⟨b3, 0, none⟩ = some (.int .u64 0) := BW3_0.cell 0 rfl
    have cW3_0_1 : W3.cell? ⟨b3, 1, none⟩ = some (.int .u64 0) := BW3_0.cell 1 rfl
    have fW3_0 := BW3_0.free
    go_wp2_with fail
    go_ret
    exact ⟨rfl, kW3⟩

set_option maxRecDepth 100000 in
set_option maxHeartbeats 2000000 in
theorem wide_roots_nought (hK : Pure Try.prog 47 #[] (.bool true)) (hR : Pure Try.prog 68 #[.int .i64 0] (.tuple #[.agg #[.int .u64 1, .int .u64 0], .int .i64 0])) (w : World) :
    Calls Try.prog 15 #[.int .i64 0] w fun e w' => e = .returned (.bool true) ∧ Kept w w' := by
  have HK := Lib.hid hK
  have HR := Lib.hid hR
  clear hK hR
  have kw := Kept.refl w
  have hq := fun w => eql28_self 1 0 w
  go_enter Try.func15, Try.ntmps15
  go_wp2_with fail
  refine (HK.out _).mono ?_
  rintro e W1 ⟨rfl, hkW1⟩
  have kW1 := kw.trans hkW1
  clear kw hkW1
  go_wp2_with fail
  refine (HR.out _).mono ?_
  rintro e W2 ⟨rfl, hkW2⟩
  have kW2 := kW1.trans hkW2
  clear kW1 hkW2
  obtain ⟨b3, hb3⟩ : ∃ b, W2.heap.size = b := ⟨_, rfl⟩
  have lob3 : w.heap.size ≤ b3 := hb3 ▸ kW2.size
  go_upto_region 4 with (fail)
  refine abs_world (fun W => Kept w W ∧ Blk W (b3) 28 #[.int .u64 1, .int .u64 0]) ?_ ?_
  · refine ⟨?_, ?_⟩
    · repeat (first | exact kW2 | (refine Kept.setCell ?_ (kept_side (by first | assumption | omega)) _) | apply Kept.alloc | apply Kept.drew)
    · simp [Blk, *] <;> (intros; omega)
  rintro W3 ⟨kW3, BW3_0⟩
  have cW3_0_0 : W3.cell? ⟨b3, 0, none⟩ = some (.int .u64 1) := BW3_0.cell 0 rfl
  have cW3_0_1 : W3.cell? ⟨b3, 1, none⟩ = some (.int .u64 0) := BW3_0.cell 1 rfl
  have fW3_0 := BW3_0.free
  go_wp2_with fail
  go_ret
  exact ⟨rfl, kW3⟩

set_option maxRecDepth 100000 in
set_option maxHeartbeats 2000000 in
theorem wide_roots_yes (l : Int) (N : Nat) (r0 r1 : Nat → Int) (y0 y1 : Int) (h0 : 1 ≤ l) (h1 : l ≤ 66) (hN : Hid (N = (66 - l).toNat))
    (hK : Pure Try.prog 47 #[] (.bool true)) (hR : Pure Try.prog 68 #[.int .i64 l] (.tuple #[.agg #[.int .u64 (r0 N), .int .u64 (r1 N)], .int .i64 0]))
    (hM : Hid (∀ k, Pure Try.prog 53 #[.agg #[.int .u64 (r0 k), .int .u64 (r1 k)], .agg #[.int .u64 (r0 k), .int .u64 (r1 k)]] (.agg #[.int .u64 (r0 (k + 1)), .int .u64 (r1 (k + 1))]))) (h65 : Hid (r0 65 = y0 ∧ r1 65 = y1))
    (hNe : Pure Try.prog 52 #[.agg #[.int .u64 1, .int .u64 0]] (.agg #[.int .u64 y0, .int .u64 y1]))
    (hs : ∀ s t w, (binOp .eql 28 (.agg #[.int .u64 s, .int .u64 t]) (.agg #[.int .u64 s, .int .u64 t])).run Try.prog w = .ok (.bool true) w) (w : World) :
    Calls Try.prog 15 #[.int .i64 l] w fun e w' => e = .returned (.bool true) ∧ Kept w w' := by
  have HK := Lib.hid hK
  have HR := Lib.hid hR
  have HNe := Lib.hid hNe
  clear hK hR hNe
  have hl1 : ¬ l < 0 := by omega
  have hl2 : ¬ 66 < l := by omega
  have hl3 : (l == 0) = false := by simp; omega
  have hl4 : 0 ≤ l - 1 := by omega
  have kw := Kept.refl w
  go_enter Try.func15, Try.ntmps15
  go_wp2_with fail
  refine (HK.out _).mono ?_
  rintro e W1 ⟨rfl, hkW1⟩
  have kW1 := kw.trans hkW1
  clear kw hkW1
  go_wp2_with fail
  refine (HR.out _).mono ?_
  rintro e W2 ⟨rfl, hkW2⟩
  have kW2 := kW1.trans hkW2
  clear kW1 hkW2
  obtain ⟨b3, hb3⟩ : ∃ b, W2.heap.size = b := ⟨_, rfl⟩
  have lob3 : w.heap.size ≤ b3 := hb3 ▸ kW2.size
  go_upto_region 4 with (fail)
  refine abs_world (fun W => Kept w W ∧ Blk W (b3) 28 #[.int .u64 (r0 N), .int .u64 (r1 N)]) ?_ ?_
  · refine ⟨?_, ?_⟩
    · repeat (first | exact kW2 | (refine Kept.setCell ?_ (kept_side (by first | assumption | omega)) _) | apply Kept.alloc | apply Kept.drew)
    · simp [Blk, *] <;> (intros; omega)
  rintro W3 ⟨kW3, BW3_0⟩
  have cW3_0_0 : W3.cell? ⟨b3, 0, none⟩ = some (.int .u64 (r0 N)) := BW3_0.cell 0 rfl
  have cW3_0_1 : W3.cell? ⟨b3, 1, none⟩ = some (.int .u64 (r1 N)) := BW3_0.cell 1 rfl
  have fW3_0 := BW3_0.free
  obtain ⟨b5, hb5⟩ : ∃ b, W3.heap.size = b := ⟨_, rfl⟩
  have neb5_0 : b3 ≠ b5 := by have := BW3_0.lt; omega
  have enb5_0 : b5 ≠ b3 := neb5_0.symm
  have lob5 : w.heap.size ≤ b5 := hb5 ▸ kW3.size
  go_wp2_with fail
  refine abs_world (fun W => Kept w W ∧ Blk W (b3) 28 #[.int .u64 (r0 N), .int .u64 (r1 N)] ∧ Blk W (b5) 28 #[.int .u64 (r0 N), .int .u64 (r1 N)]) ?_ ?_
  · refine ⟨?_, ?_, ?_⟩
    · repeat (first | exact kW3 | (refine Kept.setCell ?_ (kept_side (by first | assumption | omega)) _) | apply Kept.alloc | apply Kept.drew)
    · simp [Blk, *] <;> (intros; omega)
    · simp [Blk, *] <;> (intros; omega)
  rintro W4 ⟨kW4, BW4_0, BW4_1⟩
  have cW4_0_0 : W4.cell? ⟨b3, 0, none⟩ = some (.int .u64 (r0 N)) := BW4_0.cell 0 rfl
  have cW4_0_1 : W4.cell? ⟨b3, 1, none⟩ = some (.int .u64 (r1 N)) := BW4_0.cell 1 rfl
  have fW4_0 := BW4_0.free
  have cW4_1_0 : W4.cell? ⟨b5, 0, none⟩ = some (.int .u64 (r0 N)) := BW4_1.cell 0 rfl
  have cW4_1_1 : W4.cell? ⟨b5, 1, none⟩ = some (.int .u64 (r1 N)) := BW4_1.cell 1 rfl
  have fW4_1 := BW4_1.free
  go_loopw [38] (fun t wr => ∃ k : Nat, (k : Int) ≤ l - 1 ∧ t = .int .i64 (k : Int) ∧ Kept w wr ∧ Blk wr (b3) 28 #[.int .u64 (r0 N), .int .u64 (r1 N)] ∧ Blk wr (b5) 28 #[.int .u64 (r0 (N + k)), .int .u64 (r1 (N + k))]) (fun t _ => (l - 1 - intOf t).toNat)
  case atStart => exact ⟨0, by omega, rfl, kW4, BW4_0, BW4_1⟩
  case round =>
    clear cW4_0_0 cW4_0_1 cW4_1_0 cW4_1_1 fW4_0 fW4_1 BW4_0 BW4_1 kW4
    obtain ⟨k, hk, rfl, kwr, Bwr_0, Bwr_1⟩ := hrel
    by_cases hlt : (k : Int) < l - 1
    · skip
      have cwr_0_0 : wr.cell? ⟨b3, 0, none⟩ = some (.int .u64 (r0 N)) := Bwr_0.cell 0 rfl
      have cwr_0_1 : wr.cell? ⟨b3, 1, none⟩ = some (.int .u64 (r1 N)) := Bwr_0.cell 1 rfl
      have fwr_0 := Bwr_0.free
      have cwr_1_0 : wr.cell? ⟨b5, 0, none⟩ = some (.int .u64 (r0 (N + k))) := Bwr_1.cell 0 rfl
      have cwr_1_1 : wr.cell? ⟨b5, 1, none⟩ = some (.int .u64 (r1 (N + k))) := Bwr_1.cell 1 rfl
      have fwr_1 := Bwr_1.free
      have HS := Lib.hid (hM.out (N + k))
      go_wp2_with fail
      refine (HS.out _).mono ?_
      rintro e W5 ⟨rfl, hkW5⟩
      have kW5 := kwr.trans hkW5
      have BW5_0 := Bwr_0.kept hkW5
      have BW5_1 := Bwr_1.kept hkW5
      clear cwr_0_0 cwr_0_1 cwr_1_0 cwr_1_1 fwr_0 fwr_1 Bwr_0 Bwr_1 kwr hkW5
      have cW5_0_0 : W5.cell? ⟨b3, 0, none⟩ = some (.int .u64 (r0 N)) := BW5_0.cell 0 rfl
      have cW5_0_1 : W5.cell? ⟨b3, 1, none⟩ = some (.int .u64 (r1 N)) := BW5_0.cell 1 rfl
      have fW5_0 := BW5_0.free
      have cW5_1_0 : W5.cell? ⟨b5, 0, none⟩ = some (.int .u64 (r0 (N + k))) := BW5_1.cell 0 rfl
      have cW5_1_1 : W5.cell? ⟨b5, 1, none⟩ = some (.int .u64 (r1 (N + k))) := BW5_1.cell 1 rfl
      have fW5_1 := BW5_1.free
      go_wp2_with fail
      go_roundw
      case rel =>
        refine ⟨k + 1, by omega, by go_num, ?_, ?_, ?_⟩
        · repeat (first | exact kW5 | (refine Kept.setCell ?_ (kept_side (by first | assumption | omega)) _) | apply Kept.alloc | apply Kept.drew)
        · simp [Blk, *] <;> (intros; omega)
        · rw [← Nat.add_assoc]; simp [Blk, *] <;> (intros; omega)
      case measure => (simp [intOf]) <;> omega
    · skip
      have hk31 : N + k = 65 := by have := hN.out; omega
      rw [hk31, h65.out.1, h65.out.2] at Bwr_1
      clear hk31
      have cwr_0_0 : wr.cell? ⟨b3, 0, none⟩ = some (.int .u64 (r0 N)) := Bwr_0.cell 0 rfl
      have cwr_0_1 : wr.cell? ⟨b3, 1, none⟩ = some (.int .u64 (r1 N)) := Bwr_0.cell 1 rfl
      have fwr_0 := Bwr_0.free
      have cwr_1_0 : wr.cell? ⟨b5, 0, none⟩ = some (.int .u64 y0) := Bwr_1.cell 0 rfl
      have cwr_1_1 : wr.cell? ⟨b5, 1, none⟩ = some (.int .u64 y1) := Bwr_1.cell 1 rfl
      have fwr_1 := Bwr_1.free
      go_wp2_with fail
      refine wp_region_calm 8 (by kernel_rfl) (by kernel_rfl) ?_
      simp only [List.take_succ_cons, List.take_zero, List.drop_succ_cons, List.drop_zero]
      repeat (first
        | (refine calm_skip rfl ?_; simp only [Act.put, List.setIfInBounds_toArray, List.set_cons_zero, List.set_cons_succ])
        | (refine calm_ex rfl ?_; apply Exists.intro; refine And.intro (fun w' hk => ?_) ?_; (focus (have q0 := hk.cell cwr_0_0; have q1 := hk.cell cwr_0_1; have q2 := hk.cell cwr_1_0; have q3 := hk.cell cwr_1_1; clear hk; go_simp; exact rfl)); simp only [Act.put, List.setIfInBounds_toArray, List.set_cons_zero, List.set_cons_succ])
        | (refine calm_step _ rfl (HNe.out.call ?_) ?_; (focus (intro w'; go_simp; done)); simp only [Act.put, List.setIfInBounds_toArray, List.set_cons_zero, List.set_cons_succ]))
      refine calm_nil ?_
      intro W5 hkW5
      have kW5 := kwr.trans hkW5
      have BW5_0 := Bwr_0.kept hkW5
      have BW5_1 := Bwr_1.kept hkW5
      clear cwr_0_0 cwr_0_1 cwr_1_0 cwr_1_1 fwr_0 fwr_1 Bwr_0 Bwr_1 kwr hkW5
      have cW5_0_0 : W5.cell? ⟨b3, 0, none⟩ = some (.int .u64 (r0 N)) := BW5_0.cell 0 rfl
      have cW5_0_1 : W5.cell? ⟨b3, 1, none⟩ = some (.int .u64 (r1 N)) := BW5_0.cell 1 rfl
      have fW5_0 := BW5_0.free
      have cW5_1_0 : W5.cell? ⟨b5, 0, none⟩ = some (.int .u64 y0) := BW5_1.cell 0 rfl
      have cW5_1_1 : W5.cell? ⟨b5, 1, none⟩ = some (.int .u64 y1) := BW5_1.cell 1 rfl
      have fW5_1 := BW5_1.free
      go_wp2_with fail
      go_ret
      exact ⟨rfl, kW5⟩

end Go.Proofs.Ytnajihlhcdedgaa
