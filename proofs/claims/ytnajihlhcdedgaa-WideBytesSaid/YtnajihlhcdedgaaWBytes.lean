/-
  WideBytes: for every element and every sixteen bytes the law returns true.
-/
import Derived.Test.YtnajihlhcdedgaaWB4
import Derived.Test.YtnajihlhcdedgaaWSums
import Derived.Deep.Cut
namespace Go.Proofs.Ytnajihlhcdedgaa
open Go.RowKit
set_option linter.unusedVariables false
set_option linter.unusedSimpArgs false
attribute [local simp] blkAt_setCell blkAt_alloc blkAt_drew Obj.put_cells

set_option maxRecDepth 100000 in
set_option maxHeartbeats 8000000 in
theorem wide_bytes_true (b0 b1 b2 b3 b4 b5 b6 b7 b8 b9 b10 b11 b12 b13 b14 b15 x0 x1 x2 x3 x4 x5 x6 x7 x8 x9 x10 x11 x12 x13 x14 x15 a0 a1 n0 n1 y0 y1 p0 p1 : Int) (S : ByteArray)
    (hK : Pure Try.prog 47 #[] (.bool true))
    (hB : Pure Try.prog 56 #[.agg #[.int .u64 a0, .int .u64 a1]] (.agg #[.int .u8 x0, .int .u8 x1, .int .u8 x2, .int .u8 x3, .int .u8 x4, .int .u8 x5, .int .u8 x6, .int .u8 x7, .int .u8 x8, .int .u8 x9, .int .u8 x10, .int .u8 x11, .int .u8 x12, .int .u8 x13, .int .u8 x14, .int .u8 x15]))
    (hT : Pure Try.prog 57 #[.agg #[.int .u8 b0, .int .u8 b1, .int .u8 b2, .int .u8 b3, .int .u8 b4, .int .u8 b5, .int .u8 b6, .int .u8 b7, .int .u8 b8, .int .u8 b9, .int .u8 b10, .int .u8 b11, .int .u8 b12, .int .u8 b13, .int .u8 b14, .int .u8 b15]] (.tuple #[.agg #[.int .u64 n0, .int .u64 n1], .int .i64 0]))
    (HR : Hid (∀ w' b', Blk w' b' 54 #[.int .u8 b0, .int .u8 b1, .int .u8 b2, .int .u8 b3, .int .u8 b4, .int .u8 b5, .int .u8 b6, .int .u8 b7, .int .u8 b8, .int .u8 b9, .int .u8 b10, .int .u8 b11, .int .u8 b12, .int .u8 b13, .int .u8 b14, .int .u8 b15] → Calls Try.prog 44 #[.int .i64 2, .slice (some ⟨b', 0, none⟩) 16 16] w' fun e w'' => e = .returned (.tuple #[.agg #[.int .u64 n0, .int .u64 n1], .bool true]) ∧ Kept w' w''))
    (hV : Pure Try.prog 57 #[.agg #[.int .u8 x0, .int .u8 x1, .int .u8 x2, .int .u8 x3, .int .u8 x4, .int .u8 x5, .int .u8 x6, .int .u8 x7, .int .u8 x8, .int .u8 x9, .int .u8 x10, .int .u8 x11, .int .u8 x12, .int .u8 x13, .int .u8 x14, .int .u8 x15]] (.tuple #[.agg #[.int .u64 y0, .int .u64 y1], .int .i64 0]))
    (hM : Makes Try.prog 45 #[.int .i64 2, .agg #[.int .u64 a0, .int .u64 a1]] (fun v w' => Reads w' v (bytesV [x0, x1, x2, x3, x4, x5, x6, x7, x8, x9, x10, x11, x12, x13, x14, x15])))
    (hO : Pure Try.prog 48 #[.agg #[.int .u64 a0, .int .u64 a1]] (.agg #[.int .u64 y0, .int .u64 y1]))
    (hP : Pure Try.prog 58 #[] (.agg #[.int .u64 p0, .int .u64 p1])) (hQ : Pure Try.prog 59 #[.int .i64 2] (.agg #[.int .u64 p0, .int .u64 p1]))
    (HC : Hid (∀ w' b', Blk w' b' 54 #[.int .u8 x0, .int .u8 x1, .int .u8 x2, .int .u8 x3, .int .u8 x4, .int .u8 x5, .int .u8 x6, .int .u8 x7, .int .u8 x8, .int .u8 x9, .int .u8 x10, .int .u8 x11, .int .u8 x12, .int .u8 x13, .int .u8 x14, .int .u8 x15] → (convert 42 9 (.slice (some ⟨b', 0, none⟩) 16 16)).run Try.prog w' = .ok (.string S) w'))
    (HD : Hid (∀ v w', Reads w' v (bytesV [x0, x1, x2, x3, x4, x5, x6, x7, x8, x9, x10, x11, x12, x13, x14, x15]) → (convert 42 9 v).run Try.prog w' = .ok (.string S) w'))
    (hs : ∀ s t w, (binOp .eql 28 (.agg #[.int .u64 s, .int .u64 t]) (.agg #[.int .u64 s, .int .u64 t])).run Try.prog w = .ok (.bool true) w)
    (w : World) : Calls Try.prog 11 #[.agg #[.int .u64 a0, .int .u64 a1], .agg #[.int .u8 b0, .int .u8 b1, .int .u8 b2, .int .u8 b3, .int .u8 b4, .int .u8 b5, .int .u8 b6, .int .u8 b7, .int .u8 b8, .int .u8 b9, .int .u8 b10, .int .u8 b11, .int .u8 b12, .int .u8 b13, .int .u8 b14, .int .u8 b15]] w fun e w' => e = .returned (.bool true) ∧ Kept w w' := by
  let mn : Mean := ⟨fun v w' => Reads w' v (bytesV [x0, x1, x2, x3, x4, x5, x6, x7, x8, x9, x10, x11, x12, x13, x14, x15]), fun v w w' h hk => h.kept hk, fun b w h => by rcases h with ⟨h, _⟩ | ⟨_, _, _, h, _⟩ <;> cases h⟩
  have HK := Lib.hid hK
  have HB := Lib.hid hB
  have HT := Lib.hid hT
  have HV := Lib.hid hV
  have HM := Lib.hid hM
  have HO := Lib.hid hO
  have HP := Lib.hid hP
  have HQ := Lib.hid hQ
  clear hK hB hT hV hM hO hP hQ
  go_enter Try.func11, Try.ntmps11
  go_wp2_with fail
  refine abs_calls (fun W => Kept w W ∧ Blk W (w.heap.size) 28 #[.int .u64 a0, .int .u64 a1] ∧ Blk W (w.heap.size + 1) 54 #[.int .u8 b0, .int .u8 b1, .int .u8 b2, .int .u8 b3, .int .u8 b4, .int .u8 b5, .int .u8 b6, .int .u8 b7, .int .u8 b8, .int .u8 b9, .int .u8 b10, .int .u8 b11, .int .u8 b12, .int .u8 b13, .int .u8 b14, .int .u8 b15]) ?_ ?_
  · refine ⟨?_, ?_, ?_⟩
    · repeat (first | exact Kept.refl _ | (refine Kept.setCell ?_ (kept_side (by first | assumption | omega)) _) | apply Kept.alloc | apply Kept.drew)
    · simp [Blk, *] <;> (intros; omega)
    · simp [Blk, *] <;> (intros; omega)
  rintro W1 ⟨kW1, BW1_0, BW1_1⟩
  have cW1_0_0 : W1.cell? ⟨w.heap.size, 0, none⟩ = some (.int .u64 a0) := BW1_0.cell 0 rfl
  have cW1_0_1 : W1.cell? ⟨w.heap.size, 1, none⟩ = some (.int .u64 a1) := BW1_0.cell 1 rfl
  have fW1_0 := BW1_0.free
  have cW1_1_0 : W1.cell? ⟨w.heap.size + 1, 0, none⟩ = some (.int .u8 b0) := BW1_1.cell 0 rfl
  have cW1_1_1 : W1.cell? ⟨w.heap.size + 1, 1, none⟩ = some (.int .u8 b1) := BW1_1.cell 1 rfl
  have cW1_1_2 : W1.cell? ⟨w.heap.size + 1, 2, none⟩ = some (.int .u8 b2) := BW1_1.cell 2 rfl
  have cW1_1_3 : W1.cell? ⟨w.heap.size + 1, 3, none⟩ = some (.int .u8 b3) := BW1_1.cell 3 rfl
  have cW1_1_4 : W1.cell? ⟨w.heap.size + 1, 4, none⟩ = some (.int .u8 b4) := BW1_1.cell 4 rfl
  have cW1_1_5 : W1.cell? ⟨w.heap.size + 1, 5, none⟩ = some (.int .u8 b5) := BW1_1.cell 5 rfl
  have cW1_1_6 : W1.cell? ⟨w.heap.size + 1, 6, none⟩ = some (.int .u8 b6) := BW1_1.cell 6 rfl
  have cW1_1_7 : W1.cell? ⟨w.heap.size + 1, 7, none⟩ = some (.int .u8 b7) := BW1_1.cell 7 rfl
  have cW1_1_8 : W1.cell? ⟨w.heap.size + 1, 8, none⟩ = some (.int .u8 b8) := BW1_1.cell 8 rfl
  have cW1_1_9 : W1.cell? ⟨w.heap.size + 1, 9, none⟩ = some (.int .u8 b9) := BW1_1.cell 9 rfl
  have cW1_1_10 : W1.cell? ⟨w.heap.size + 1, 10, none⟩ = some (.int .u8 b10) := BW1_1.cell 10 rfl
  have cW1_1_11 : W1.cell? ⟨w.heap.size + 1, 11, none⟩ = some (.int .u8 b11) := BW1_1.cell 11 rfl
  have cW1_1_12 : W1.cell? ⟨w.heap.size + 1, 12, none⟩ = some (.int .u8 b12) := BW1_1.cell 12 rfl
  have cW1_1_13 : W1.cell? ⟨w.heap.size + 1, 13, none⟩ = some (.int .u8 b13) := BW1_1.cell 13 rfl
  have cW1_1_14 : W1.cell? ⟨w.heap.size + 1, 14, none⟩ = some (.int .u8 b14) := BW1_1.cell 14 rfl
  have cW1_1_15 : W1.cell? ⟨w.heap.size + 1, 15, none⟩ = some (.int .u8 b15) := BW1_1.cell 15 rfl
  have fW1_1 := BW1_1.free
  refine (HK.out _).mono ?_
  rintro e W2 ⟨rfl, hkW2⟩
  have kW2 := kW1.trans hkW2
  have BW2_0 := BW1_0.kept hkW2
  have BW2_1 := BW1_1.kept hkW2
  clear cW1_0_0 cW1_0_1 cW1_1_0 cW1_1_1 cW1_1_2 cW1_1_3 cW1_1_4 cW1_1_5 cW1_1_6 cW1_1_7 cW1_1_8 cW1_1_9 cW1_1_10 cW1_1_11 cW1_1_12 cW1_1_13 cW1_1_14 cW1_1_15 fW1_0 fW1_1 BW1_0 BW1_1 kW1 hkW2
  have cW2_0_0 : W2.cell? ⟨w.heap.size, 0, none⟩ = some (.int .u64 a0) := BW2_0.cell 0 rfl
  have cW2_0_1 : W2.cell? ⟨w.heap.size, 1, none⟩ = some (.int .u64 a1) := BW2_0.cell 1 rfl
  have fW2_0 := BW2_0.free
  have cW2_1_0 : W2.cell? ⟨w.heap.size + 1, 0, none⟩ = some (.int .u8 b0) := BW2_1.cell 0 rfl
  have cW2_1_1 : W2.cell? ⟨w.heap.size + 1, 1, none⟩ = some (.int .u8 b1) := BW2_1.cell 1 rfl
  have cW2_1_2 : W2.cell? ⟨w.heap.size + 1, 2, none⟩ = some (.int .u8 b2) := BW2_1.cell 2 rfl
  have cW2_1_3 : W2.cell? ⟨w.heap.size + 1, 3, none⟩ = some (.int .u8 b3) := BW2_1.cell 3 rfl
  have cW2_1_4 : W2.cell? ⟨w.heap.size + 1, 4, none⟩ = some (.int .u8 b4) := BW2_1.cell 4 rfl
  have cW2_1_5 : W2.cell? ⟨w.heap.size + 1, 5, none⟩ = some (.int .u8 b5) := BW2_1.cell 5 rfl
  have cW2_1_6 : W2.cell? ⟨w.heap.size + 1, 6, none⟩ = some (.int .u8 b6) := BW2_1.cell 6 rfl
  have cW2_1_7 : W2.cell? ⟨w.heap.size + 1, 7, none⟩ = some (.int .u8 b7) := BW2_1.cell 7 rfl
  have cW2_1_8 : W2.cell? ⟨w.heap.size + 1, 8, none⟩ = some (.int .u8 b8) := BW2_1.cell 8 rfl
  have cW2_1_9 : W2.cell? ⟨w.heap.size + 1, 9, none⟩ = some (.int .u8 b9) := BW2_1.cell 9 rfl
  have cW2_1_10 : W2.cell? ⟨w.heap.size + 1, 10, none⟩ = some (.int .u8 b10) := BW2_1.cell 10 rfl
  have cW2_1_11 : W2.cell? ⟨w.heap.size + 1, 11, none⟩ = some (.int .u8 b11) := BW2_1.cell 11 rfl
  have cW2_1_12 : W2.cell? ⟨w.heap.size + 1, 12, none⟩ = some (.int .u8 b12) := BW2_1.cell 12 rfl
  have cW2_1_13 : W2.cell? ⟨w.heap.size + 1, 13, none⟩ = some (.int .u8 b13) := BW2_1.cell 13 rfl
  have cW2_1_14 : W2.cell? ⟨w.heap.size + 1, 14, none⟩ = some (.int .u8 b14) := BW2_1.cell 14 rfl
  have cW2_1_15 : W2.cell? ⟨w.heap.size + 1, 15, none⟩ = some (.int .u8 b15) := BW2_1.cell 15 rfl
  have fW2_1 := BW2_1.free
  go_wp2_with fail
  refine (HB.out _).mono ?_
  rintro e W3 ⟨rfl, hkW3⟩
  have kW3 := kW2.trans hkW3
  have BW3_0 := BW2_0.kept hkW3
  have BW3_1 := BW2_1.kept hkW3
  clear cW2_0_0 cW2_0_1 cW2_1_0 cW2_1_1 cW2_1_2 cW2_1_3 cW2_1_4 cW2_1_5 cW2_1_6 cW2_1_7 cW2_1_8 cW2_1_9 cW2_1_10 cW2_1_11 cW2_1_12 cW2_1_13 cW2_1_14 cW2_1_15 fW2_0 fW2_1 BW2_0 BW2_1 kW2 hkW3
  have cW3_0_0 : W3.cell? ⟨w.heap.size, 0, none⟩ = some (.int .u64 a0) := BW3_0.cell 0 rfl
  have cW3_0_1 : W3.cell? ⟨w.heap.size, 1, none⟩ = some (.int .u64 a1) := BW3_0.cell 1 rfl
  have fW3_0 := BW3_0.free
  have cW3_1_0 : W3.cell? ⟨w.heap.size + 1, 0, none⟩ = some (.int .u8 b0) := BW3_1.cell 0 rfl
  have cW3_1_1 : W3.cell? ⟨w.heap.size + 1, 1, none⟩ = some (.int .u8 b1) := BW3_1.cell 1 rfl
  have cW3_1_2 : W3.cell? ⟨w.heap.size + 1, 2, none⟩ = some (.int .u8 b2) := BW3_1.cell 2 rfl
  have cW3_1_3 : W3.cell? ⟨w.heap.size + 1, 3, none⟩ = some (.int .u8 b3) := BW3_1.cell 3 rfl
  have cW3_1_4 : W3.cell? ⟨w.heap.size + 1, 4, none⟩ = some (.int .u8 b4) := BW3_1.cell 4 rfl
  have cW3_1_5 : W3.cell? ⟨w.heap.size + 1, 5, none⟩ = some (.int .u8 b5) := BW3_1.cell 5 rfl
  have cW3_1_6 : W3.cell? ⟨w.heap.size + 1, 6, none⟩ = some (.int .u8 b6) := BW3_1.cell 6 rfl
  have cW3_1_7 : W3.cell? ⟨w.heap.size + 1, 7, none⟩ = some (.int .u8 b7) := BW3_1.cell 7 rfl
  have cW3_1_8 : W3.cell? ⟨w.heap.size + 1, 8, none⟩ = some (.int .u8 b8) := BW3_1.cell 8 rfl
  have cW3_1_9 : W3.cell? ⟨w.heap.size + 1, 9, none⟩ = some (.int .u8 b9) := BW3_1.cell 9 rfl
  have cW3_1_10 : W3.cell? ⟨w.heap.size + 1, 10, none⟩ = some (.int .u8 b10) := BW3_1.cell 10 rfl
  have cW3_1_11 : W3.cell? ⟨w.heap.size + 1, 11, none⟩ = some (.int .u8 b11) := BW3_1.cell 11 rfl
  have cW3_1_12 : W3.cell? ⟨w.heap.size + 1, 12, none⟩ = some (.int .u8 b12) := BW3_1.cell 12 rfl
  have cW3_1_13 : W3.cell? ⟨w.heap.size + 1, 13, none⟩ = some (.int .u8 b13) := BW3_1.cell 13 rfl
  have cW3_1_14 : W3.cell? ⟨w.heap.size + 1, 14, none⟩ = some (.int .u8 b14) := BW3_1.cell 14 rfl
  have cW3_1_15 : W3.cell? ⟨w.heap.size + 1, 15, none⟩ = some (.int .u8 b15) := BW3_1.cell 15 rfl
  have fW3_1 := BW3_1.free
  obtain ⟨g5, hg5⟩ : ∃ b, W3.heap.size = b := ⟨_, rfl⟩
  have neg5_0 : w.heap.size ≠ g5 := by have := BW3_0.lt; omega
  have eng5_0 : g5 ≠ w.heap.size := neg5_0.symm
  have neg5_1 : w.heap.size + 1 ≠ g5 := by have := BW3_1.lt; omega
  have eng5_1 : g5 ≠ w.heap.size + 1 := neg5_1.symm
  have log5 : w.heap.size ≤ g5 := hg5 ▸ kW3.size
  go_upto_region 4 with (fail)
  refine abs_world (fun W => Kept w W ∧ Blk W (w.heap.size) 28 #[.int .u64 a0, .int .u64 a1] ∧ Blk W (w.heap.size + 1) 54 #[.int .u8 b0, .int .u8 b1, .int .u8 b2, .int .u8 b3, .int .u8 b4, .int .u8 b5, .int .u8 b6, .int .u8 b7, .int .u8 b8, .int .u8 b9, .int .u8 b10, .int .u8 b11, .int .u8 b12, .int .u8 b13, .int .u8 b14, .int .u8 b15] ∧ Blk W (g5) 54 #[.int .u8 x0, .int .u8 x1, .int .u8 x2, .int .u8 x3, .int .u8 x4, .int .u8 x5, .int .u8 x6, .int .u8 x7, .int .u8 x8, .int .u8 x9, .int .u8 x10, .int .u8 x11, .int .u8 x12, .int .u8 x13, .int .u8 x14, .int .u8 x15]) ?_ ?_
  · refine ⟨?_, ?_, ?_, ?_⟩
    · repeat (first | exact kW3 | (refine Kept.setCell ?_ (kept_side (by first | assumption | omega)) _) | apply Kept.alloc | apply Kept.drew)
    · simp [Blk, *] <;> (intros; omega)
    · simp [Blk, *] <;> (intros; omega)
    · simp [Blk, *] <;> (intros; omega)
  rintro W4 ⟨kW4, BW4_0, BW4_1, BW4_2⟩
  have cW4_0_0 : W4.cell? ⟨w.heap.size, 0, none⟩ = some (.int .u64 a0) := BW4_0.cell 0 rfl
  have cW4_0_1 : W4.cell? ⟨w.heap.size, 1, none⟩ = some (.int .u64 a1) := BW4_0.cell 1 rfl
  have fW4_0 := BW4_0.free
  have cW4_1_0 : W4.cell? ⟨w.heap.size + 1, 0, none⟩ = some (.int .u8 b0) := BW4_1.cell 0 rfl
  have cW4_1_1 : W4.cell? ⟨w.heap.size + 1, 1, none⟩ = some (.int .u8 b1) := BW4_1.cell 1 rfl
  have cW4_1_2 : W4.cell? ⟨w.heap.size + 1, 2, none⟩ = some (.int .u8 b2) := BW4_1.cell 2 rfl
  have cW4_1_3 : W4.cell? ⟨w.heap.size + 1, 3, none⟩ = some (.int .u8 b3) := BW4_1.cell 3 rfl
  have cW4_1_4 : W4.cell? ⟨w.heap.size + 1, 4, none⟩ = some (.int .u8 b4) := BW4_1.cell 4 rfl
  have cW4_1_5 : W4.cell? ⟨w.heap.size + 1, 5, none⟩ = some (.int .u8 b5) := BW4_1.cell 5 rfl
  have cW4_1_6 : W4.cell? ⟨w.heap.size + 1, 6, none⟩ = some (.int .u8 b6) := BW4_1.cell 6 rfl
  have cW4_1_7 : W4.cell? ⟨w.heap.size + 1, 7, none⟩ = some (.int .u8 b7) := BW4_1.cell 7 rfl
  have cW4_1_8 : W4.cell? ⟨w.heap.size + 1, 8, none⟩ = some (.int .u8 b8) := BW4_1.cell 8 rfl
  have cW4_1_9 : W4.cell? ⟨w.heap.size + 1, 9, none⟩ = some (.int .u8 b9) := BW4_1.cell 9 rfl
  have cW4_1_10 : W4.cell? ⟨w.heap.size + 1, 10, none⟩ = some (.int .u8 b10) := BW4_1.cell 10 rfl
  have cW4_1_11 : W4.cell? ⟨w.heap.size + 1, 11, none⟩ = some (.int .u8 b11) := BW4_1.cell 11 rfl
  have cW4_1_12 : W4.cell? ⟨w.heap.size + 1, 12, none⟩ = some (.int .u8 b12) := BW4_1.cell 12 rfl
  have cW4_1_13 : W4.cell? ⟨w.heap.size + 1, 13, none⟩ = some (.int .u8 b13) := BW4_1.cell 13 rfl
  have cW4_1_14 : W4.cell? ⟨w.heap.size + 1, 14, none⟩ = some (.int .u8 b14) := BW4_1.cell 14 rfl
  have cW4_1_15 : W4.cell? ⟨w.heap.size + 1, 15, none⟩ = some (.int .u8 b15) := BW4_1.cell 15 rfl
  have fW4_1 := BW4_1.free
  have cW4_2_0 : W4.cell? ⟨g5, 0, none⟩ = some (.int .u8 x0) := BW4_2.cell 0 rfl
  have cW4_2_1 : W4.cell? ⟨g5, 1, none⟩ = some (.int .u8 x1) := BW4_2.cell 1 rfl
  have cW4_2_2 : W4.cell? ⟨g5, 2, none⟩ = some (.int .u8 x2) := BW4_2.cell 2 rfl
  have cW4_2_3 : W4.cell? ⟨g5, 3, none⟩ = some (.int .u8 x3) := BW4_2.cell 3 rfl
  have cW4_2_4 : W4.cell? ⟨g5, 4, none⟩ = some (.int .u8 x4) := BW4_2.cell 4 rfl
  have cW4_2_5 : W4.cell? ⟨g5, 5, none⟩ = some (.int .u8 x5) := BW4_2.cell 5 rfl
  have cW4_2_6 : W4.cell? ⟨g5, 6, none⟩ = some (.int .u8 x6) := BW4_2.cell 6 rfl
  have cW4_2_7 : W4.cell? ⟨g5, 7, none⟩ = some (.int .u8 x7) := BW4_2.cell 7 rfl
  have cW4_2_8 : W4.cell? ⟨g5, 8, none⟩ = some (.int .u8 x8) := BW4_2.cell 8 rfl
  have cW4_2_9 : W4.cell? ⟨g5, 9, none⟩ = some (.int .u8 x9) := BW4_2.cell 9 rfl
  have cW4_2_10 : W4.cell? ⟨g5, 10, none⟩ = some (.int .u8 x10) := BW4_2.cell 10 rfl
  have cW4_2_11 : W4.cell? ⟨g5, 11, none⟩ = some (.int .u8 x11) := BW4_2.cell 11 rfl
  have cW4_2_12 : W4.cell? ⟨g5, 12, none⟩ = some (.int .u8 x12) := BW4_2.cell 12 rfl
  have cW4_2_13 : W4.cell? ⟨g5, 13, none⟩ = some (.int .u8 x13) := BW4_2.cell 13 rfl
  have cW4_2_14 : W4.cell? ⟨g5, 14, none⟩ = some (.int .u8 x14) := BW4_2.cell 14 rfl
  have cW4_2_15 : W4.cell? ⟨g5, 15, none⟩ = some (.int .u8 x15) := BW4_2.cell 15 rfl
  have fW4_2 := BW4_2.free
  go_wp2_with fail
  refine (HT.out _).mono ?_
  rintro e W5 ⟨rfl, hkW5⟩
  have kW5 := kW4.trans hkW5
  have BW5_0 := BW4_0.kept hkW5
  have BW5_1 := BW4_1.kept hkW5
  have BW5_2 := BW4_2.kept hkW5
  clear cW4_0_0 cW4_0_1 cW4_1_0 cW4_1_1 cW4_1_2 cW4_1_3 cW4_1_4 cW4_1_5 cW4_1_6 cW4_1_7 cW4_1_8 cW4_1_9 cW4_1_10 cW4_1_11 cW4_1_12 cW4_1_13 cW4_1_14 cW4_1_15 cW4_2_0 cW4_2_1 cW4_2_2 cW4_2_3 cW4_2_4 cW4_2_5 cW4_2_6 cW4_2_7 cW4_2_8 cW4_2_9 cW4_2_10 cW4_2_11 cW4_2_12 cW4_2_13 cW4_2_14 cW4_2_15 fW4_0 fW4_1 fW4_2 BW4_0 BW4_1 BW4_2 kW4 hkW5
  have cW5_0_0 : W5.cell? ⟨w.heap.size, 0, none⟩ = some (.int .u64 a0) := BW5_0.cell 0 rfl
  have cW5_0_1 : W5.cell? ⟨w.heap.size, 1, none⟩ = some (.int .u64 a1) := BW5_0.cell 1 rfl
  have fW5_0 := BW5_0.free
  have cW5_1_0 : W5.cell? ⟨w.heap.size + 1, 0, none⟩ = some (.int .u8 b0) := BW5_1.cell 0 rfl
  have cW5_1_1 : W5.cell? ⟨w.heap.size + 1, 1, none⟩ = some (.int .u8 b1) := BW5_1.cell 1 rfl
  have cW5_1_2 : W5.cell? ⟨w.heap.size + 1, 2, none⟩ = some (.int .u8 b2) := BW5_1.cell 2 rfl
  have cW5_1_3 : W5.cell? ⟨w.heap.size + 1, 3, none⟩ = some (.int .u8 b3) := BW5_1.cell 3 rfl
  have cW5_1_4 : W5.cell? ⟨w.heap.size + 1, 4, none⟩ = some (.int .u8 b4) := BW5_1.cell 4 rfl
  have cW5_1_5 : W5.cell? ⟨w.heap.size + 1, 5, none⟩ = some (.int .u8 b5) := BW5_1.cell 5 rfl
  have cW5_1_6 : W5.cell? ⟨w.heap.size + 1, 6, none⟩ = some (.int .u8 b6) := BW5_1.cell 6 rfl
  have cW5_1_7 : W5.cell? ⟨w.heap.size + 1, 7, none⟩ = some (.int .u8 b7) := BW5_1.cell 7 rfl
  have cW5_1_8 : W5.cell? ⟨w.heap.size + 1, 8, none⟩ = some (.int .u8 b8) := BW5_1.cell 8 rfl
  have cW5_1_9 : W5.cell? ⟨w.heap.size + 1, 9, none⟩ = some (.int .u8 b9) := BW5_1.cell 9 rfl
  have cW5_1_10 : W5.cell? ⟨w.heap.size + 1, 10, none⟩ = some (.int .u8 b10) := BW5_1.cell 10 rfl
  have cW5_1_11 : W5.cell? ⟨w.heap.size + 1, 11, none⟩ = some (.int .u8 b11) := BW5_1.cell 11 rfl
  have cW5_1_12 : W5.cell? ⟨w.heap.size + 1, 12, none⟩ = some (.int .u8 b12) := BW5_1.cell 12 rfl
  have cW5_1_13 : W5.cell? ⟨w.heap.size + 1, 13, none⟩ = some (.int .u8 b13) := BW5_1.cell 13 rfl
  have cW5_1_14 : W5.cell? ⟨w.heap.size + 1, 14, none⟩ = some (.int .u8 b14) := BW5_1.cell 14 rfl
  have cW5_1_15 : W5.cell? ⟨w.heap.size + 1, 15, none⟩ = some (.int .u8 b15) := BW5_1.cell 15 rfl
  have fW5_1 := BW5_1.free
  have cW5_2_0 : W5.cell? ⟨g5, 0, none⟩ = some (.int .u8 x0) := BW5_2.cell 0 rfl
  have cW5_2_1 : W5.cell? ⟨g5, 1, none⟩ = some (.int .u8 x1) := BW5_2.cell 1 rfl
  have cW5_2_2 : W5.cell? ⟨g5, 2, none⟩ = some (.int .u8 x2) := BW5_2.cell 2 rfl
  have cW5_2_3 : W5.cell? ⟨g5, 3, none⟩ = some (.int .u8 x3) := BW5_2.cell 3 rfl
  have cW5_2_4 : W5.cell? ⟨g5, 4, none⟩ = some (.int .u8 x4) := BW5_2.cell 4 rfl
  have cW5_2_5 : W5.cell? ⟨g5, 5, none⟩ = some (.int .u8 x5) := BW5_2.cell 5 rfl
  have cW5_2_6 : W5.cell? ⟨g5, 6, none⟩ = some (.int .u8 x6) := BW5_2.cell 6 rfl
  have cW5_2_7 : W5.cell? ⟨g5, 7, none⟩ = some (.int .u8 x7) := BW5_2.cell 7 rfl
  have cW5_2_8 : W5.cell? ⟨g5, 8, none⟩ = some (.int .u8 x8) := BW5_2.cell 8 rfl
  have cW5_2_9 : W5.cell? ⟨g5, 9, none⟩ = some (.int .u8 x9) := BW5_2.cell 9 rfl
  have cW5_2_10 : W5.cell? ⟨g5, 10, none⟩ = some (.int .u8 x10) := BW5_2.cell 10 rfl
  have cW5_2_11 : W5.cell? ⟨g5, 11, none⟩ = some (.int .u8 x11) := BW5_2.cell 11 rfl
  have cW5_2_12 : W5.cell? ⟨g5, 12, none⟩ = some (.int .u8 x12) := BW5_2.cell 12 rfl
  have cW5_2_13 : W5.cell? ⟨g5, 13, none⟩ = some (.int .u8 x13) := BW5_2.cell 13 rfl
  have cW5_2_14 : W5.cell? ⟨g5, 14, none⟩ = some (.int .u8 x14) := BW5_2.cell 14 rfl
  have cW5_2_15 : W5.cell? ⟨g5, 15, none⟩ = some (.int .u8 x15) := BW5_2.cell 15 rfl
  have fW5_2 := BW5_2.free
  obtain ⟨g6, hg6⟩ : ∃ b, W5.heap.size = b := ⟨_, rfl⟩
  have neg6_0 : w.heap.size ≠ g6 := by have := BW5_0.lt; omega
  have eng6_0 : g6 ≠ w.heap.size := neg6_0.symm
  have neg6_1 : w.heap.size + 1 ≠ g6 := by have := BW5_1.lt; omega
  have eng6_1 : g6 ≠ w.heap.size + 1 := neg6_1.symm
  have neg6_2 : g5 ≠ g6 := by have := BW5_2.lt; omega
  have eng6_2 : g6 ≠ g5 := neg6_2.symm
  have log6 : w.heap.size ≤ g6 := hg6 ▸ kW5.size
  go_upto_region 5 with (fail)
  refine abs_world (fun W => Kept w W ∧ Blk W (w.heap.size) 28 #[.int .u64 a0, .int .u64 a1] ∧ Blk W (w.heap.size + 1) 54 #[.int .u8 b0, .int .u8 b1, .int .u8 b2, .int .u8 b3, .int .u8 b4, .int .u8 b5, .int .u8 b6, .int .u8 b7, .int .u8 b8, .int .u8 b9, .int .u8 b10, .int .u8 b11, .int .u8 b12, .int .u8 b13, .int .u8 b14, .int .u8 b15] ∧ Blk W (g5) 54 #[.int .u8 x0, .int .u8 x1, .int .u8 x2, .int .u8 x3, .int .u8 x4, .int .u8 x5, .int .u8 x6, .int .u8 x7, .int .u8 x8, .int .u8 x9, .int .u8 x10, .int .u8 x11, .int .u8 x12, .int .u8 x13, .int .u8 x14, .int .u8 x15] ∧ Blk W (g6) 28 #[.int .u64 n0, .int .u64 n1]) ?_ ?_
  · refine ⟨?_, ?_, ?_, ?_, ?_⟩
    · repeat (first | exact kW5 | (refine Kept.setCell ?_ (kept_side (by first | assumption | omega)) _) | apply Kept.alloc | apply Kept.drew)
    · simp [Blk, *] <;> (intros; omega)
    · simp [Blk, *] <;> (intros; omega)
    · simp [Blk, *] <;> (intros; omega)
    · simp [Blk, *] <;> (intros; omega)
  rintro W6 ⟨kW6, BW6_0, BW6_1, BW6_2, BW6_3⟩
  have cW6_0_0 : W6.cell? ⟨w.heap.size, 0, none⟩ = some (.int .u64 a0) := BW6_0.cell 0 rfl
  have cW6_0_1 : W6.cell? ⟨w.heap.size, 1, none⟩ = some (.int .u64 a1) := BW6_0.cell 1 rfl
  have fW6_0 := BW6_0.free
  have cW6_1_0 : W6.cell? ⟨w.heap.size + 1, 0, none⟩ = some (.int .u8 b0) := BW6_1.cell 0 rfl
  have cW6_1_1 : W6.cell? ⟨w.heap.size + 1, 1, none⟩ = some (.int .u8 b1) := BW6_1.cell 1 rfl
  have cW6_1_2 : W6.cell? ⟨w.heap.size + 1, 2, none⟩ = some (.int .u8 b2) := BW6_1.cell 2 rfl
  have cW6_1_3 : W6.cell? ⟨w.heap.size + 1, 3, none⟩ = some (.int .u8 b3) := BW6_1.cell 3 rfl
  have cW6_1_4 : W6.cell? ⟨w.heap.size + 1, 4, none⟩ = some (.int .u8 b4) := BW6_1.cell 4 rfl
  have cW6_1_5 : W6.cell? ⟨w.heap.size + 1, 5, none⟩ = some (.int .u8 b5) := BW6_1.cell 5 rfl
  have cW6_1_6 : W6.cell? ⟨w.heap.size + 1, 6, none⟩ = some (.int .u8 b6) := BW6_1.cell 6 rfl
  have cW6_1_7 : W6.cell? ⟨w.heap.size + 1, 7, none⟩ = some (.int .u8 b7) := BW6_1.cell 7 rfl
  have cW6_1_8 : W6.cell? ⟨w.heap.size + 1, 8, none⟩ = some (.int .u8 b8) := BW6_1.cell 8 rfl
  have cW6_1_9 : W6.cell? ⟨w.heap.size + 1, 9, none⟩ = some (.int .u8 b9) := BW6_1.cell 9 rfl
  have cW6_1_10 : W6.cell? ⟨w.heap.size + 1, 10, none⟩ = some (.int .u8 b10) := BW6_1.cell 10 rfl
  have cW6_1_11 : W6.cell? ⟨w.heap.size + 1, 11, none⟩ = some (.int .u8 b11) := BW6_1.cell 11 rfl
  have cW6_1_12 : W6.cell? ⟨w.heap.size + 1, 12, none⟩ = some (.int .u8 b12) := BW6_1.cell 12 rfl
  have cW6_1_13 : W6.cell? ⟨w.heap.size + 1, 13, none⟩ = some (.int .u8 b13) := BW6_1.cell 13 rfl
  have cW6_1_14 : W6.cell? ⟨w.heap.size + 1, 14, none⟩ = some (.int .u8 b14) := BW6_1.cell 14 rfl
  have cW6_1_15 : W6.cell? ⟨w.heap.size + 1, 15, none⟩ = some (.int .u8 b15) := BW6_1.cell 15 rfl
  have fW6_1 := BW6_1.free
  have cW6_2_0 : W6.cell? ⟨g5, 0, none⟩ = some (.int .u8 x0) := BW6_2.cell 0 rfl
  have cW6_2_1 : W6.cell? ⟨g5, 1, none⟩ = some (.int .u8 x1) := BW6_2.cell 1 rfl
  have cW6_2_2 : W6.cell? ⟨g5, 2, none⟩ = some (.int .u8 x2) := BW6_2.cell 2 rfl
  have cW6_2_3 : W6.cell? ⟨g5, 3, none⟩ = some (.int .u8 x3) := BW6_2.cell 3 rfl
  have cW6_2_4 : W6.cell? ⟨g5, 4, none⟩ = some (.int .u8 x4) := BW6_2.cell 4 rfl
  have cW6_2_5 : W6.cell? ⟨g5, 5, none⟩ = some (.int .u8 x5) := BW6_2.cell 5 rfl
  have cW6_2_6 : W6.cell? ⟨g5, 6, none⟩ = some (.int .u8 x6) := BW6_2.cell 6 rfl
  have cW6_2_7 : W6.cell? ⟨g5, 7, none⟩ = some (.int .u8 x7) := BW6_2.cell 7 rfl
  have cW6_2_8 : W6.cell? ⟨g5, 8, none⟩ = some (.int .u8 x8) := BW6_2.cell 8 rfl
  have cW6_2_9 : W6.cell? ⟨g5, 9, none⟩ = some (.int .u8 x9) := BW6_2.cell 9 rfl
  have cW6_2_10 : W6.cell? ⟨g5, 10, none⟩ = some (.int .u8 x10) := BW6_2.cell 10 rfl
  have cW6_2_11 : W6.cell? ⟨g5, 11, none⟩ = some (.int .u8 x11) := BW6_2.cell 11 rfl
  have cW6_2_12 : W6.cell? ⟨g5, 12, none⟩ = some (.int .u8 x12) := BW6_2.cell 12 rfl
  have cW6_2_13 : W6.cell? ⟨g5, 13, none⟩ = some (.int .u8 x13) := BW6_2.cell 13 rfl
  have cW6_2_14 : W6.cell? ⟨g5, 14, none⟩ = some (.int .u8 x14) := BW6_2.cell 14 rfl
  have cW6_2_15 : W6.cell? ⟨g5, 15, none⟩ = some (.int .u8 x15) := BW6_2.cell 15 rfl
  have fW6_2 := BW6_2.free
  have cW6_3_0 : W6.cell? ⟨g6, 0, none⟩ = some (.int .u64 n0) := BW6_3.cell 0 rfl
  have cW6_3_1 : W6.cell? ⟨g6, 1, none⟩ = some (.int .u64 n1) := BW6_3.cell 1 rfl
  have fW6_3 := BW6_3.free
  go_wp2_with fail
  refine (HR.out _ _ BW6_1).mono ?_
  rintro e W7 ⟨rfl, hkW7⟩
  have kW7 := kW6.trans hkW7
  have BW7_0 := BW6_0.kept hkW7
  have BW7_1 := BW6_1.kept hkW7
  have BW7_2 := BW6_2.kept hkW7
  have BW7_3 := BW6_3.kept hkW7
  clear cW6_0_0 cW6_0_1 cW6_1_0 cW6_1_1 cW6_1_2 cW6_1_3 cW6_1_4 cW6_1_5 cW6_1_6 cW6_1_7 cW6_1_8 cW6_1_9 cW6_1_10 cW6_1_11 cW6_1_12 cW6_1_13 cW6_1_14 cW6_1_15 cW6_2_0 cW6_2_1 cW6_2_2 cW6_2_3 cW6_2_4 cW6_2_5 cW6_2_6 cW6_2_7 cW6_2_8 cW6_2_9 cW6_2_10 cW6_2_11 cW6_2_12 cW6_2_13 cW6_2_14 cW6_2_15 cW6_3_0 cW6_3_1 fW6_0 fW6_1 fW6_2 fW6_3 BW6_0 BW6_1 BW6_2 BW6_3 kW6 hkW7
  have cW7_0_0 : W7.cell? ⟨w.heap.size, 0, none⟩ = some (.int .u64 a0) := BW7_0.cell 0 rfl
  have cW7_0_1 : W7.cell? ⟨w.heap.size, 1, none⟩ = some (.int .u64 a1) := BW7_0.cell 1 rfl
  have fW7_0 := BW7_0.free
  have cW7_1_0 : W7.cell? ⟨w.heap.size + 1, 0, none⟩ = some (.int .u8 b0) := BW7_1.cell 0 rfl
  have cW7_1_1 : W7.cell? ⟨w.heap.size + 1, 1, none⟩ = some (.int .u8 b1) := BW7_1.cell 1 rfl
  have cW7_1_2 : W7.cell? ⟨w.heap.size + 1, 2, none⟩ = some (.int .u8 b2) := BW7_1.cell 2 rfl
  have cW7_1_3 : W7.cell? ⟨w.heap.size + 1, 3, none⟩ = some (.int .u8 b3) := BW7_1.cell 3 rfl
  have cW7_1_4 : W7.cell? ⟨w.heap.size + 1, 4, none⟩ = some (.int .u8 b4) := BW7_1.cell 4 rfl
  have cW7_1_5 : W7.cell? ⟨w.heap.size + 1, 5, none⟩ = some (.int .u8 b5) := BW7_1.cell 5 rfl
  have cW7_1_6 : W7.cell? ⟨w.heap.size + 1, 6, none⟩ = some (.int .u8 b6) := BW7_1.cell 6 rfl
  have cW7_1_7 : W7.cell? ⟨w.heap.size + 1, 7, none⟩ = some (.int .u8 b7) := BW7_1.cell 7 rfl
  have cW7_1_8 : W7.cell? ⟨w.heap.size + 1, 8, none⟩ = some (.int .u8 b8) := BW7_1.cell 8 rfl
  have cW7_1_9 : W7.cell? ⟨w.heap.size + 1, 9, none⟩ = some (.int .u8 b9) := BW7_1.cell 9 rfl
  have cW7_1_10 : W7.cell? ⟨w.heap.size + 1, 10, none⟩ = some (.int .u8 b10) := BW7_1.cell 10 rfl
  have cW7_1_11 : W7.cell? ⟨w.heap.size + 1, 11, none⟩ = some (.int .u8 b11) := BW7_1.cell 11 rfl
  have cW7_1_12 : W7.cell? ⟨w.heap.size + 1, 12, none⟩ = some (.int .u8 b12) := BW7_1.cell 12 rfl
  have cW7_1_13 : W7.cell? ⟨w.heap.size + 1, 13, none⟩ = some (.int .u8 b13) := BW7_1.cell 13 rfl
  have cW7_1_14 : W7.cell? ⟨w.heap.size + 1, 14, none⟩ = some (.int .u8 b14) := BW7_1.cell 14 rfl
  have cW7_1_15 : W7.cell? ⟨w.heap.size + 1, 15, none⟩ = some (.int .u8 b15) := BW7_1.cell 15 rfl
  have fW7_1 := BW7_1.free
  have cW7_2_0 : W7.cell? ⟨g5, 0, none⟩ = some (.int .u8 x0) := BW7_2.cell 0 rfl
  have cW7_2_1 : W7.cell? ⟨g5, 1, none⟩ = some (.int .u8 x1) := BW7_2.cell 1 rfl
  have cW7_2_2 : W7.cell? ⟨g5, 2, none⟩ = some (.int .u8 x2) := BW7_2.cell 2 rfl
  have cW7_2_3 : W7.cell? ⟨g5, 3, none⟩ = some (.int .u8 x3) := BW7_2.cell 3 rfl
  have cW7_2_4 : W7.cell? ⟨g5, 4, none⟩ = some (.int .u8 x4) := BW7_2.cell 4 rfl
  have cW7_2_5 : W7.cell? ⟨g5, 5, none⟩ = some (.int .u8 x5) := BW7_2.cell 5 rfl
  have cW7_2_6 : W7.cell? ⟨g5, 6, none⟩ = some (.int .u8 x6) := BW7_2.cell 6 rfl
  have cW7_2_7 : W7.cell? ⟨g5, 7, none⟩ = some (.int .u8 x7) := BW7_2.cell 7 rfl
  have cW7_2_8 : W7.cell? ⟨g5, 8, none⟩ = some (.int .u8 x8) := BW7_2.cell 8 rfl
  have cW7_2_9 : W7.cell? ⟨g5, 9, none⟩ = some (.int .u8 x9) := BW7_2.cell 9 rfl
  have cW7_2_10 : W7.cell? ⟨g5, 10, none⟩ = some (.int .u8 x10) := BW7_2.cell 10 rfl
  have cW7_2_11 : W7.cell? ⟨g5, 11, none⟩ = some (.int .u8 x11) := BW7_2.cell 11 rfl
  have cW7_2_12 : W7.cell? ⟨g5, 12, none⟩ = some (.int .u8 x12) := BW7_2.cell 12 rfl
  have cW7_2_13 : W7.cell? ⟨g5, 13, none⟩ = some (.int .u8 x13) := BW7_2.cell 13 rfl
  have cW7_2_14 : W7.cell? ⟨g5, 14, none⟩ = some (.int .u8 x14) := BW7_2.cell 14 rfl
  have cW7_2_15 : W7.cell? ⟨g5, 15, none⟩ = some (.int .u8 x15) := BW7_2.cell 15 rfl
  have fW7_2 := BW7_2.free
  have cW7_3_0 : W7.cell? ⟨g6, 0, none⟩ = some (.int .u64 n0) := BW7_3.cell 0 rfl
  have cW7_3_1 : W7.cell? ⟨g6, 1, none⟩ = some (.int .u64 n1) := BW7_3.cell 1 rfl
  have fW7_3 := BW7_3.free
  obtain ⟨g8, hg8⟩ : ∃ b, W7.heap.size = b := ⟨_, rfl⟩
  have neg8_0 : w.heap.size ≠ g8 := by have := BW7_0.lt; omega
  have eng8_0 : g8 ≠ w.heap.size := neg8_0.symm
  have neg8_1 : w.heap.size + 1 ≠ g8 := by have := BW7_1.lt; omega
  have eng8_1 : g8 ≠ w.heap.size + 1 := neg8_1.symm
  have neg8_2 : g5 ≠ g8 := by have := BW7_2.lt; omega
  have eng8_2 : g8 ≠ g5 := neg8_2.symm
  have neg8_3 : g6 ≠ g8 := by have := BW7_3.lt; omega
  have eng8_3 : g8 ≠ g6 := neg8_3.symm
  have log8 : w.heap.size ≤ g8 := hg8 ▸ kW7.size
  go_upto_region 6 with (fail)
  refine abs_world (fun W => Kept w W ∧ Blk W (w.heap.size) 28 #[.int .u64 a0, .int .u64 a1] ∧ Blk W (w.heap.size + 1) 54 #[.int .u8 b0, .int .u8 b1, .int .u8 b2, .int .u8 b3, .int .u8 b4, .int .u8 b5, .int .u8 b6, .int .u8 b7, .int .u8 b8, .int .u8 b9, .int .u8 b10, .int .u8 b11, .int .u8 b12, .int .u8 b13, .int .u8 b14, .int .u8 b15] ∧ Blk W (g5) 54 #[.int .u8 x0, .int .u8 x1, .int .u8 x2, .int .u8 x3, .int .u8 x4, .int .u8 x5, .int .u8 x6, .int .u8 x7, .int .u8 x8, .int .u8 x9, .int .u8 x10, .int .u8 x11, .int .u8 x12, .int .u8 x13, .int .u8 x14, .int .u8 x15] ∧ Blk W (g6) 28 #[.int .u64 n0, .int .u64 n1] ∧ Blk W (g8) 28 #[.int .u64 n0, .int .u64 n1]) ?_ ?_
  · refine ⟨?_, ?_, ?_, ?_, ?_, ?_⟩
    · repeat (first | exact kW7 | (refine Kept.setCell ?_ (kept_side (by first | assumption | omega)) _) | apply Kept.alloc | apply Kept.drew)
    · simp [Blk, *] <;> (intros; omega)
    · simp [Blk, *] <;> (intros; omega)
    · simp [Blk, *] <;> (intros; omega)
    · simp [Blk, *] <;> (intros; omega)
    · simp [Blk, *] <;> (intros; omega)
  rintro W8 ⟨kW8, BW8_0, BW8_1, BW8_2, BW8_3, BW8_4⟩
  have cW8_0_0 : W8.cell? ⟨w.heap.size, 0, none⟩ = some (.int .u64 a0) := BW8_0.cell 0 rfl
  have cW8_0_1 : W8.cell? ⟨w.heap.size, 1, none⟩ = some (.int .u64 a1) := BW8_0.cell 1 rfl
  have fW8_0 := BW8_0.free
  have cW8_1_0 : W8.cell? ⟨w.heap.size + 1, 0, none⟩ = some (.int .u8 b0) := BW8_1.cell 0 rfl
  have cW8_1_1 : W8.cell? ⟨w.heap.size + 1, 1, none⟩ = some (.int .u8 b1) := BW8_1.cell 1 rfl
  have cW8_1_2 : W8.cell? ⟨w.heap.size + 1, 2, none⟩ = some (.int .u8 b2) := BW8_1.cell 2 rfl
  have cW8_1_3 : W8.cell? ⟨w.heap.size + 1, 3, none⟩ = some (.int .u8 b3) := BW8_1.cell 3 rfl
  have cW8_1_4 : W8.cell? ⟨w.heap.size + 1, 4, none⟩ = some (.int .u8 b4) := BW8_1.cell 4 rfl
  have cW8_1_5 : W8.cell? ⟨w.heap.size + 1, 5, none⟩ = some (.int .u8 b5) := BW8_1.cell 5 rfl
  have cW8_1_6 : W8.cell? ⟨w.heap.size + 1, 6, none⟩ = some (.int .u8 b6) := BW8_1.cell 6 rfl
  have cW8_1_7 : W8.cell? ⟨w.heap.size + 1, 7, none⟩ = some (.int .u8 b7) := BW8_1.cell 7 rfl
  have cW8_1_8 : W8.cell? ⟨w.heap.size + 1, 8, none⟩ = some (.int .u8 b8) := BW8_1.cell 8 rfl
  have cW8_1_9 : W8.cell? ⟨w.heap.size + 1, 9, none⟩ = some (.int .u8 b9) := BW8_1.cell 9 rfl
  have cW8_1_10 : W8.cell? ⟨w.heap.size + 1, 10, none⟩ = some (.int .u8 b10) := BW8_1.cell 10 rfl
  have cW8_1_11 : W8.cell? ⟨w.heap.size + 1, 11, none⟩ = some (.int .u8 b11) := BW8_1.cell 11 rfl
  have cW8_1_12 : W8.cell? ⟨w.heap.size + 1, 12, none⟩ = some (.int .u8 b12) := BW8_1.cell 12 rfl
  have cW8_1_13 : W8.cell? ⟨w.heap.size + 1, 13, none⟩ = some (.int .u8 b13) := BW8_1.cell 13 rfl
  have cW8_1_14 : W8.cell? ⟨w.heap.size + 1, 14, none⟩ = some (.int .u8 b14) := BW8_1.cell 14 rfl
  have cW8_1_15 : W8.cell? ⟨w.heap.size + 1, 15, none⟩ = some (.int .u8 b15) := BW8_1.cell 15 rfl
  have fW8_1 := BW8_1.free
  have cW8_2_0 : W8.cell? ⟨g5, 0, none⟩ = some (.int .u8 x0) := BW8_2.cell 0 rfl
  have cW8_2_1 : W8.cell? ⟨g5, 1, none⟩ = some (.int .u8 x1) := BW8_2.cell 1 rfl
  have cW8_2_2 : W8.cell? ⟨g5, 2, none⟩ = some (.int .u8 x2) := BW8_2.cell 2 rfl
  have cW8_2_3 : W8.cell? ⟨g5, 3, none⟩ = some (.int .u8 x3) := BW8_2.cell 3 rfl
  have cW8_2_4 : W8.cell? ⟨g5, 4, none⟩ = some (.int .u8 x4) := BW8_2.cell 4 rfl
  have cW8_2_5 : W8.cell? ⟨g5, 5, none⟩ = some (.int .u8 x5) := BW8_2.cell 5 rfl
  have cW8_2_6 : W8.cell? ⟨g5, 6, none⟩ = some (.int .u8 x6) := BW8_2.cell 6 rfl
  have cW8_2_7 : W8.cell? ⟨g5, 7, none⟩ = some (.int .u8 x7) := BW8_2.cell 7 rfl
  have cW8_2_8 : W8.cell? ⟨g5, 8, none⟩ = some (.int .u8 x8) := BW8_2.cell 8 rfl
  have cW8_2_9 : W8.cell? ⟨g5, 9, none⟩ = some (.int .u8 x9) := BW8_2.cell 9 rfl
  have cW8_2_10 : W8.cell? ⟨g5, 10, none⟩ = some (.int .u8 x10) := BW8_2.cell 10 rfl
  have cW8_2_11 : W8.cell? ⟨g5, 11, none⟩ = some (.int .u8 x11) := BW8_2.cell 11 rfl
  have cW8_2_12 : W8.cell? ⟨g5, 12, none⟩ = some (.int .u8 x12) := BW8_2.cell 12 rfl
  have cW8_2_13 : W8.cell? ⟨g5, 13, none⟩ = some (.int .u8 x13) := BW8_2.cell 13 rfl
  have cW8_2_14 : W8.cell? ⟨g5, 14, none⟩ = some (.int .u8 x14) := BW8_2.cell 14 rfl
  have cW8_2_15 : W8.cell? ⟨g5, 15, none⟩ = some (.int .u8 x15) := BW8_2.cell 15 rfl
  have fW8_2 := BW8_2.free
  have cW8_3_0 : W8.cell? ⟨g6, 0, none⟩ = some (.int .u64 n0) := BW8_3.cell 0 rfl
  have cW8_3_1 : W8.cell? ⟨g6, 1, none⟩ = some (.int .u64 n1) := BW8_3.cell 1 rfl
  have fW8_3 := BW8_3.free
  have cW8_4_0 : W8.cell? ⟨g8, 0, none⟩ = some (.int .u64 n0) := BW8_4.cell 0 rfl
  have cW8_4_1 : W8.cell? ⟨g8, 1, none⟩ = some (.int .u64 n1) := BW8_4.cell 1 rfl
  have fW8_4 := BW8_4.free
  go_wp2_with fail
  refine (HV.out _).mono ?_
  rintro e W9 ⟨rfl, hkW9⟩
  have kW9 := kW8.trans hkW9
  have BW9_0 := BW8_0.kept hkW9
  have BW9_1 := BW8_1.kept hkW9
  have BW9_2 := BW8_2.kept hkW9
  have BW9_3 := BW8_3.kept hkW9
  have BW9_4 := BW8_4.kept hkW9
  clear cW8_0_0 cW8_0_1 cW8_1_0 cW8_1_1 cW8_1_2 cW8_1_3 cW8_1_4 cW8_1_5 cW8_1_6 cW8_1_7 cW8_1_8 cW8_1_9 cW8_1_10 cW8_1_11 cW8_1_12 cW8_1_13 cW8_1_14 cW8_1_15 cW8_2_0 cW8_2_1 cW8_2_2 cW8_2_3 cW8_2_4 cW8_2_5 cW8_2_6 cW8_2_7 cW8_2_8 cW8_2_9 cW8_2_10 cW8_2_11 cW8_2_12 cW8_2_13 cW8_2_14 cW8_2_15 cW8_3_0 cW8_3_1 cW8_4_0 cW8_4_1 fW8_0 fW8_1 fW8_2 fW8_3 fW8_4 BW8_0 BW8_1 BW8_2 BW8_3 BW8_4 kW8 hkW9
  have cW9_0_0 : W9.cell? ⟨w.heap.size, 0, none⟩ = some (.int .u64 a0) := BW9_0.cell 0 rfl
  have cW9_0_1 : W9.cell? ⟨w.heap.size, 1, none⟩ = some (.int .u64 a1) := BW9_0.cell 1 rfl
  have fW9_0 := BW9_0.free
  have cW9_1_0 : W9.cell? ⟨w.heap.size + 1, 0, none⟩ = some (.int .u8 b0) := BW9_1.cell 0 rfl
  have cW9_1_1 : W9.cell? ⟨w.heap.size + 1, 1, none⟩ = some (.int .u8 b1) := BW9_1.cell 1 rfl
  have cW9_1_2 : W9.cell? ⟨w.heap.size + 1, 2, none⟩ = some (.int .u8 b2) := BW9_1.cell 2 rfl
  have cW9_1_3 : W9.cell? ⟨w.heap.size + 1, 3, none⟩ = some (.int .u8 b3) := BW9_1.cell 3 rfl
  have cW9_1_4 : W9.cell? ⟨w.heap.size + 1, 4, none⟩ = some (.int .u8 b4) := BW9_1.cell 4 rfl
  have cW9_1_5 : W9.cell? ⟨w.heap.size + 1, 5, none⟩ = some (.int .u8 b5) := BW9_1.cell 5 rfl
  have cW9_1_6 : W9.cell? ⟨w.heap.size + 1, 6, none⟩ = some (.int .u8 b6) := BW9_1.cell 6 rfl
  have cW9_1_7 : W9.cell? ⟨w.heap.size + 1, 7, none⟩ = some (.int .u8 b7) := BW9_1.cell 7 rfl
  have cW9_1_8 : W9.cell? ⟨w.heap.size + 1, 8, none⟩ = some (.int .u8 b8) := BW9_1.cell 8 rfl
  have cW9_1_9 : W9.cell? ⟨w.heap.size + 1, 9, none⟩ = some (.int .u8 b9) := BW9_1.cell 9 rfl
  have cW9_1_10 : W9.cell? ⟨w.heap.size + 1, 10, none⟩ = some (.int .u8 b10) := BW9_1.cell 10 rfl
  have cW9_1_11 : W9.cell? ⟨w.heap.size + 1, 11, none⟩ = some (.int .u8 b11) := BW9_1.cell 11 rfl
  have cW9_1_12 : W9.cell? ⟨w.heap.size + 1, 12, none⟩ = some (.int .u8 b12) := BW9_1.cell 12 rfl
  have cW9_1_13 : W9.cell? ⟨w.heap.size + 1, 13, none⟩ = some (.int .u8 b13) := BW9_1.cell 13 rfl
  have cW9_1_14 : W9.cell? ⟨w.heap.size + 1, 14, none⟩ = some (.int .u8 b14) := BW9_1.cell 14 rfl
  have cW9_1_15 : W9.cell? ⟨w.heap.size + 1, 15, none⟩ = some (.int .u8 b15) := BW9_1.cell 15 rfl
  have fW9_1 := BW9_1.free
  have cW9_2_0 : W9.cell? ⟨g5, 0, none⟩ = some (.int .u8 x0) := BW9_2.cell 0 rfl
  have cW9_2_1 : W9.cell? ⟨g5, 1, none⟩ = some (.int .u8 x1) := BW9_2.cell 1 rfl
  have cW9_2_2 : W9.cell? ⟨g5, 2, none⟩ = some (.int .u8 x2) := BW9_2.cell 2 rfl
  have cW9_2_3 : W9.cell? ⟨g5, 3, none⟩ = some (.int .u8 x3) := BW9_2.cell 3 rfl
  have cW9_2_4 : W9.cell? ⟨g5, 4, none⟩ = some (.int .u8 x4) := BW9_2.cell 4 rfl
  have cW9_2_5 : W9.cell? ⟨g5, 5, none⟩ = some (.int .u8 x5) := BW9_2.cell 5 rfl
  have cW9_2_6 : W9.cell? ⟨g5, 6, none⟩ = some (.int .u8 x6) := BW9_2.cell 6 rfl
  have cW9_2_7 : W9.cell? ⟨g5, 7, none⟩ = some (.int .u8 x7) := BW9_2.cell 7 rfl
  have cW9_2_8 : W9.cell? ⟨g5, 8, none⟩ = some (.int .u8 x8) := BW9_2.cell 8 rfl
  have cW9_2_9 : W9.cell? ⟨g5, 9, none⟩ = some (.int .u8 x9) := BW9_2.cell 9 rfl
  have cW9_2_10 : W9.cell? ⟨g5, 10, none⟩ = some (.int .u8 x10) := BW9_2.cell 10 rfl
  have cW9_2_11 : W9.cell? ⟨g5, 11, none⟩ = some (.int .u8 x11) := BW9_2.cell 11 rfl
  have cW9_2_12 : W9.cell? ⟨g5, 12, none⟩ = some (.int .u8 x12) := BW9_2.cell 12 rfl
  have cW9_2_13 : W9.cell? ⟨g5, 13, none⟩ = some (.int .u8 x13) := BW9_2.cell 13 rfl
  have cW9_2_14 : W9.cell? ⟨g5, 14, none⟩ = some (.int .u8 x14) := BW9_2.cell 14 rfl
  have cW9_2_15 : W9.cell? ⟨g5, 15, none⟩ = some (.int .u8 x15) := BW9_2.cell 15 rfl
  have fW9_2 := BW9_2.free
  have cW9_3_0 : W9.cell? ⟨g6, 0, none⟩ = some (.int .u64 n0) := BW9_3.cell 0 rfl
  have cW9_3_1 : W9.cell? ⟨g6, 1, none⟩ = some (.int .u64 n1) := BW9_3.cell 1 rfl
  have fW9_3 := BW9_3.free
  have cW9_4_0 : W9.cell? ⟨g8, 0, none⟩ = some (.int .u64 n0) := BW9_4.cell 0 rfl
  have cW9_4_1 : W9.cell? ⟨g8, 1, none⟩ = some (.int .u64 n1) := BW9_4.cell 1 rfl
  have fW9_4 := BW9_4.free
  obtain ⟨g10, hg10⟩ : ∃ b, W9.heap.size = b := ⟨_, rfl⟩
  have neg10_0 : w.heap.size ≠ g10 := by have := BW9_0.lt; omega
  have eng10_0 : g10 ≠ w.heap.size := neg10_0.symm
  have neg10_1 : w.heap.size + 1 ≠ g10 := by have := BW9_1.lt; omega
  have eng10_1 : g10 ≠ w.heap.size + 1 := neg10_1.symm
  have neg10_2 : g5 ≠ g10 := by have := BW9_2.lt; omega
  have eng10_2 : g10 ≠ g5 := neg10_2.symm
  have neg10_3 : g6 ≠ g10 := by have := BW9_3.lt; omega
  have eng10_3 : g10 ≠ g6 := neg10_3.symm
  have neg10_4 : g8 ≠ g10 := by have := BW9_4.lt; omega
  have eng10_4 : g10 ≠ g8 := neg10_4.symm
  have log10 : w.heap.size ≤ g10 := hg10 ▸ kW9.size
  go_upto_region 7 with (fail)
  refine abs_world (fun W => Kept w W ∧ Blk W (w.heap.size) 28 #[.int .u64 a0, .int .u64 a1] ∧ Blk W (w.heap.size + 1) 54 #[.int .u8 b0, .int .u8 b1, .int .u8 b2, .int .u8 b3, .int .u8 b4, .int .u8 b5, .int .u8 b6, .int .u8 b7, .int .u8 b8, .int .u8 b9, .int .u8 b10, .int .u8 b11, .int .u8 b12, .int .u8 b13, .int .u8 b14, .int .u8 b15] ∧ Blk W (g5) 54 #[.int .u8 x0, .int .u8 x1, .int .u8 x2, .int .u8 x3, .int .u8 x4, .int .u8 x5, .int .u8 x6, .int .u8 x7, .int .u8 x8, .int .u8 x9, .int .u8 x10, .int .u8 x11, .int .u8 x12, .int .u8 x13, .int .u8 x14, .int .u8 x15] ∧ Blk W (g6) 28 #[.int .u64 n0, .int .u64 n1] ∧ Blk W (g8) 28 #[.int .u64 n0, .int .u64 n1] ∧ Blk W (g10) 28 #[.int .u64 y0, .int .u64 y1]) ?_ ?_
  · refine ⟨?_, ?_, ?_, ?_, ?_, ?_, ?_⟩
    · repeat (first | exact kW9 | (refine Kept.setCell ?_ (kept_side (by first | assumption | omega)) _) | apply Kept.alloc | apply Kept.drew)
    · simp [Blk, *] <;> (intros; omega)
    · simp [Blk, *] <;> (intros; omega)
    · simp [Blk, *] <;> (intros; omega)
    · simp [Blk, *] <;> (intros; omega)
    · simp [Blk, *] <;> (intros; omega)
    · simp [Blk, *] <;> (intros; omega)
  rintro W10 ⟨kW10, BW10_0, BW10_1, BW10_2, BW10_3, BW10_4, BW10_5⟩
  have cW10_0_0 : W10.cell? ⟨w.heap.size, 0, none⟩ = some (.int .u64 a0) := BW10_0.cell 0 rfl
  have cW10_0_1 : W10.cell? ⟨w.heap.size, 1, none⟩ = some (.int .u64 a1) := BW10_0.cell 1 rfl
  have fW10_0 := BW10_0.free
  have cW10_1_0 : W10.cell? ⟨w.heap.size + 1, 0, none⟩ = some (.int .u8 b0) := BW10_1.cell 0 rfl
  have cW10_1_1 : W10.cell? ⟨w.heap.size + 1, 1, none⟩ = some (.int .u8 b1) := BW10_1.cell 1 rfl
  have cW10_1_2 : W10.cell? ⟨w.heap.size + 1, 2, none⟩ = some (.int .u8 b2) := BW10_1.cell 2 rfl
  have cW10_1_3 : W10.cell? ⟨w.heap.size + 1, 3, none⟩ = some (.int .u8 b3) := BW10_1.cell 3 rfl
  have cW10_1_4 : W10.cell? ⟨w.heap.size + 1, 4, none⟩ = some (.int .u8 b4) := BW10_1.cell 4 rfl
  have cW10_1_5 : W10.cell? ⟨w.heap.size + 1, 5, none⟩ = some (.int .u8 b5) := BW10_1.cell 5 rfl
  have cW10_1_6 : W10.cell? ⟨w.heap.size + 1, 6, none⟩ = some (.int .u8 b6) := BW10_1.cell 6 rfl
  have cW10_1_7 : W10.cell? ⟨w.heap.size + 1, 7, none⟩ = some (.int .u8 b7) := BW10_1.cell 7 rfl
  have cW10_1_8 : W10.cell? ⟨w.heap.size + 1, 8, none⟩ = some (.int .u8 b8) := BW10_1.cell 8 rfl
  have cW10_1_9 : W10.cell? ⟨w.heap.size + 1, 9, none⟩ = some (.int .u8 b9) := BW10_1.cell 9 rfl
  have cW10_1_10 : W10.cell? ⟨w.heap.size + 1, 10, none⟩ = some (.int .u8 b10) := BW10_1.cell 10 rfl
  have cW10_1_11 : W10.cell? ⟨w.heap.size + 1, 11, none⟩ = some (.int .u8 b11) := BW10_1.cell 11 rfl
  have cW10_1_12 : W10.cell? ⟨w.heap.size + 1, 12, none⟩ = some (.int .u8 b12) := BW10_1.cell 12 rfl
  have cW10_1_13 : W10.cell? ⟨w.heap.size + 1, 13, none⟩ = some (.int .u8 b13) := BW10_1.cell 13 rfl
  have cW10_1_14 : W10.cell? ⟨w.heap.size + 1, 14, none⟩ = some (.int .u8 b14) := BW10_1.cell 14 rfl
  have cW10_1_15 : W10.cell? ⟨w.heap.size + 1, 15, none⟩ = some (.int .u8 b15) := BW10_1.cell 15 rfl
  have fW10_1 := BW10_1.free
  have cW10_2_0 : W10.cell? ⟨g5, 0, none⟩ = some (.int .u8 x0) := BW10_2.cell 0 rfl
  have cW10_2_1 : W10.cell? ⟨g5, 1, none⟩ = some (.int .u8 x1) := BW10_2.cell 1 rfl
  have cW10_2_2 : W10.cell? ⟨g5, 2, none⟩ = some (.int .u8 x2) := BW10_2.cell 2 rfl
  have cW10_2_3 : W10.cell? ⟨g5, 3, none⟩ = some (.int .u8 x3) := BW10_2.cell 3 rfl
  have cW10_2_4 : W10.cell? ⟨g5, 4, none⟩ = some (.int .u8 x4) := BW10_2.cell 4 rfl
  have cW10_2_5 : W10.cell? ⟨g5, 5, none⟩ = some (.int .u8 x5) := BW10_2.cell 5 rfl
  have cW10_2_6 : W10.cell? ⟨g5, 6, none⟩ = some (.int .u8 x6) := BW10_2.cell 6 rfl
  have cW10_2_7 : W10.cell? ⟨g5, 7, none⟩ = some (.int .u8 x7) := BW10_2.cell 7 rfl
  have cW10_2_8 : W10.cell? ⟨g5, 8, none⟩ = some (.int .u8 x8) := BW10_2.cell 8 rfl
  have cW10_2_9 : W10.cell? ⟨g5, 9, none⟩ = some (.int .u8 x9) := BW10_2.cell 9 rfl
  have cW10_2_10 : W10.cell? ⟨g5, 10, none⟩ = some (.int .u8 x10) := BW10_2.cell 10 rfl
  have cW10_2_11 : W10.cell? ⟨g5, 11, none⟩ = some (.int .u8 x11) := BW10_2.cell 11 rfl
  have cW10_2_12 : W10.cell? ⟨g5, 12, none⟩ = some (.int .u8 x12) := BW10_2.cell 12 rfl
  have cW10_2_13 : W10.cell? ⟨g5, 13, none⟩ = some (.int .u8 x13) := BW10_2.cell 13 rfl
  have cW10_2_14 : W10.cell? ⟨g5, 14, none⟩ = some (.int .u8 x14) := BW10_2.cell 14 rfl
  have cW10_2_15 : W10.cell? ⟨g5, 15, none⟩ = some (.int .u8 x15) := BW10_2.cell 15 rfl
  have fW10_2 := BW10_2.free
  have cW10_3_0 : W10.cell? ⟨g6, 0, none⟩ = some (.int .u64 n0) := BW10_3.cell 0 rfl
  have cW10_3_1 : W10.cell? ⟨g6, 1, none⟩ = some (.int .u64 n1) := BW10_3.cell 1 rfl
  have fW10_3 := BW10_3.free
  have cW10_4_0 : W10.cell? ⟨g8, 0, none⟩ = some (.int .u64 n0) := BW10_4.cell 0 rfl
  have cW10_4_1 : W10.cell? ⟨g8, 1, none⟩ = some (.int .u64 n1) := BW10_4.cell 1 rfl
  have fW10_4 := BW10_4.free
  have cW10_5_0 : W10.cell? ⟨g10, 0, none⟩ = some (.int .u64 y0) := BW10_5.cell 0 rfl
  have cW10_5_1 : W10.cell? ⟨g10, 1, none⟩ = some (.int .u64 y1) := BW10_5.cell 1 rfl
  have fW10_5 := BW10_5.free
  refine wp_region_marks (fun _ => mn) 39 (by kernel_rfl) (by kernel_rfl) rfl ?_
  simp only [List.take_succ_cons, List.take_zero, List.drop_succ_cons, List.drop_zero]
  repeat (first
    | (refine marks_skip rfl ?_; simp only [Act.put, List.setIfInBounds_toArray, List.set_cons_zero, List.set_cons_succ])
    | (refine marks_ex rfl rfl (by kernel_rfl) ?_; apply Exists.intro; refine And.intro (fun w' hk => ?_) (And.intro ?_ ?_); (focus (have q0 := hk.cell cW10_0_0; have q1 := hk.cell cW10_0_1; have q2 := hk.cell cW10_1_0; have q3 := hk.cell cW10_1_1; have q4 := hk.cell cW10_1_2; have q5 := hk.cell cW10_1_3; have q6 := hk.cell cW10_1_4; have q7 := hk.cell cW10_1_5; have q8 := hk.cell cW10_1_6; have q9 := hk.cell cW10_1_7; have q10 := hk.cell cW10_1_8; have q11 := hk.cell cW10_1_9; have q12 := hk.cell cW10_1_10; have q13 := hk.cell cW10_1_11; have q14 := hk.cell cW10_1_12; have q15 := hk.cell cW10_1_13; have q16 := hk.cell cW10_1_14; have q17 := hk.cell cW10_1_15; have q18 := hk.cell cW10_2_0; have q19 := hk.cell cW10_2_1; have q20 := hk.cell cW10_2_2; have q21 := hk.cell cW10_2_3; have q22 := hk.cell cW10_2_4; have q23 := hk.cell cW10_2_5; have q24 := hk.cell cW10_2_6; have q25 := hk.cell cW10_2_7; have q26 := hk.cell cW10_2_8; have q27 := hk.cell cW10_2_9; have q28 := hk.cell cW10_2_10; have q29 := hk.cell cW10_2_11; have q30 := hk.cell cW10_2_12; have q31 := hk.cell cW10_2_13; have q32 := hk.cell cW10_2_14; have q33 := hk.cell cW10_2_15; have q34 := hk.cell cW10_3_0; have q35 := hk.cell cW10_3_1; have q36 := hk.cell cW10_4_0; have q37 := hk.cell cW10_4_1; have q38 := hk.cell cW10_5_0; have q39 := hk.cell cW10_5_1; have qcv := HC.out w' _ (BW10_2.kept hk); clear hk; go_simp; exact rfl)); (focus (exact rfl)); simp only [Act.put, List.setIfInBounds_toArray, List.set_cons_zero, List.set_cons_succ])
    | (refine marks_call rfl rfl (by kernel_rfl) rfl HP.out ?_ ?_; (focus (intro w'; go_simp; done)); simp only [Act.put, List.setIfInBounds_toArray, List.set_cons_zero, List.set_cons_succ])
    | (refine marks_call rfl rfl (by kernel_rfl) rfl HQ.out ?_ ?_; (focus (intro w'; go_simp; done)); simp only [Act.put, List.setIfInBounds_toArray, List.set_cons_zero, List.set_cons_succ])
    | (refine marks_call rfl rfl (by kernel_rfl) rfl HO.out ?_ ?_; (focus (intro w'; go_simp; done)); simp only [Act.put, List.setIfInBounds_toArray, List.set_cons_zero, List.set_cons_succ])
    | (refine marks_make 0 rfl rfl (by kernel_rfl) HM.out (fun v w' h => h) ?_ ?_; (focus (intro w'; go_simp; done)); simp only [Act.put, List.setIfInBounds_toArray, List.set_cons_zero, List.set_cons_succ])
    | (refine marks_step (.string S) rfl (calmM_conv rfl rfl _ rfl HD.out) ?_; simp only [Act.put, List.setIfInBounds_toArray, List.set_cons_zero, List.set_cons_succ]))
  refine marks_nil ?_
  intro a'' W11 hkW11 hra
  obtain ⟨m38, hm38, rfl⟩ := hra.mark1 38 0 rfl rfl
  simp only [Act.put, List.setIfInBounds_toArray, List.set_cons_zero, List.set_cons_succ]
  clear hra
  have kW11 := kW10.trans hkW11
  have BW11_0 := BW10_0.kept hkW11
  have BW11_1 := BW10_1.kept hkW11
  have BW11_2 := BW10_2.kept hkW11
  have BW11_3 := BW10_3.kept hkW11
  have BW11_4 := BW10_4.kept hkW11
  have BW11_5 := BW10_5.kept hkW11
  clear cW10_0_0 cW10_0_1 cW10_1_0 cW10_1_1 cW10_1_2 cW10_1_3 cW10_1_4 cW10_1_5 cW10_1_6 cW10_1_7 cW10_1_8 cW10_1_9 cW10_1_10 cW10_1_11 cW10_1_12 cW10_1_13 cW10_1_14 cW10_1_15 cW10_2_0 cW10_2_1 cW10_2_2 cW10_2_3 cW10_2_4 cW10_2_5 cW10_2_6 cW10_2_7 cW10_2_8 cW10_2_9 cW10_2_10 cW10_2_11 cW10_2_12 cW10_2_13 cW10_2_14 cW10_2_15 cW10_3_0 cW10_3_1 cW10_4_0 cW10_4_1 cW10_5_0 cW10_5_1 fW10_0 fW10_1 fW10_2 fW10_3 fW10_4 fW10_5 BW10_0 BW10_1 BW10_2 BW10_3 BW10_4 BW10_5 kW10 hkW11
  have cW11_0_0 : W11.cell? ⟨w.heap.size, 0, none⟩ = some (.int .u64 a0) := BW11_0.cell 0 rfl
  have cW11_0_1 : W11.cell? ⟨w.heap.size, 1, none⟩ = some (.int .u64 a1) := BW11_0.cell 1 rfl
  have fW11_0 := BW11_0.free
  have cW11_1_0 : W11.cell? ⟨w.heap.size + 1, 0, none⟩ = some (.int .u8 b0) := BW11_1.cell 0 rfl
  have cW11_1_1 : W11.cell? ⟨w.heap.size + 1, 1, none⟩ = some (.int .u8 b1) := BW11_1.cell 1 rfl
  have cW11_1_2 : W11.cell? ⟨w.heap.size + 1, 2, none⟩ = some (.int .u8 b2) := BW11_1.cell 2 rfl
  have cW11_1_3 : W11.cell? ⟨w.heap.size + 1, 3, none⟩ = some (.int .u8 b3) := BW11_1.cell 3 rfl
  have cW11_1_4 : W11.cell? ⟨w.heap.size + 1, 4, none⟩ = some (.int .u8 b4) := BW11_1.cell 4 rfl
  have cW11_1_5 : W11.cell? ⟨w.heap.size + 1, 5, none⟩ = some (.int .u8 b5) := BW11_1.cell 5 rfl
  have cW11_1_6 : W11.cell? ⟨w.heap.size + 1, 6, none⟩ = some (.int .u8 b6) := BW11_1.cell 6 rfl
  have cW11_1_7 : W11.cell? ⟨w.heap.size + 1, 7, none⟩ = some (.int .u8 b7) := BW11_1.cell 7 rfl
  have cW11_1_8 : W11.cell? ⟨w.heap.size + 1, 8, none⟩ = some (.int .u8 b8) := BW11_1.cell 8 rfl
  have cW11_1_9 : W11.cell? ⟨w.heap.size + 1, 9, none⟩ = some (.int .u8 b9) := BW11_1.cell 9 rfl
  have cW11_1_10 : W11.cell? ⟨w.heap.size + 1, 10, none⟩ = some (.int .u8 b10) := BW11_1.cell 10 rfl
  have cW11_1_11 : W11.cell? ⟨w.heap.size + 1, 11, none⟩ = some (.int .u8 b11) := BW11_1.cell 11 rfl
  have cW11_1_12 : W11.cell? ⟨w.heap.size + 1, 12, none⟩ = some (.int .u8 b12) := BW11_1.cell 12 rfl
  have cW11_1_13 : W11.cell? ⟨w.heap.size + 1, 13, none⟩ = some (.int .u8 b13) := BW11_1.cell 13 rfl
  have cW11_1_14 : W11.cell? ⟨w.heap.size + 1, 14, none⟩ = some (.int .u8 b14) := BW11_1.cell 14 rfl
  have cW11_1_15 : W11.cell? ⟨w.heap.size + 1, 15, none⟩ = some (.int .u8 b15) := BW11_1.cell 15 rfl
  have fW11_1 := BW11_1.free
  have cW11_2_0 : W11.cell? ⟨g5, 0, none⟩ = some (.int .u8 x0) := BW11_2.cell 0 rfl
  have cW11_2_1 : W11.cell? ⟨g5, 1, none⟩ = some (.int .u8 x1) := BW11_2.cell 1 rfl
  have cW11_2_2 : W11.cell? ⟨g5, 2, none⟩ = some (.int .u8 x2) := BW11_2.cell 2 rfl
  have cW11_2_3 : W11.cell? ⟨g5, 3, none⟩ = some (.int .u8 x3) := BW11_2.cell 3 rfl
  have cW11_2_4 : W11.cell? ⟨g5, 4, none⟩ = some (.int .u8 x4) := BW11_2.cell 4 rfl
  have cW11_2_5 : W11.cell? ⟨g5, 5, none⟩ = some (.int .u8 x5) := BW11_2.cell 5 rfl
  have cW11_2_6 : W11.cell? ⟨g5, 6, none⟩ = some (.int .u8 x6) := BW11_2.cell 6 rfl
  have cW11_2_7 : W11.cell? ⟨g5, 7, none⟩ = some (.int .u8 x7) := BW11_2.cell 7 rfl
  have cW11_2_8 : W11.cell? ⟨g5, 8, none⟩ = some (.int .u8 x8) := BW11_2.cell 8 rfl
  have cW11_2_9 : W11.cell? ⟨g5, 9, none⟩ = some (.int .u8 x9) := BW11_2.cell 9 rfl
  have cW11_2_10 : W11.cell? ⟨g5, 10, none⟩ = some (.int .u8 x10) := BW11_2.cell 10 rfl
  have cW11_2_11 : W11.cell? ⟨g5, 11, none⟩ = some (.int .u8 x11) := BW11_2.cell 11 rfl
  have cW11_2_12 : W11.cell? ⟨g5, 12, none⟩ = some (.int .u8 x12) := BW11_2.cell 12 rfl
  have cW11_2_13 : W11.cell? ⟨g5, 13, none⟩ = some (.int .u8 x13) := BW11_2.cell 13 rfl
  have cW11_2_14 : W11.cell? ⟨g5, 14, none⟩ = some (.int .u8 x14) := BW11_2.cell 14 rfl
  have cW11_2_15 : W11.cell? ⟨g5, 15, none⟩ = some (.int .u8 x15) := BW11_2.cell 15 rfl
  have fW11_2 := BW11_2.free
  have cW11_3_0 : W11.cell? ⟨g6, 0, none⟩ = some (.int .u64 n0) := BW11_3.cell 0 rfl
  have cW11_3_1 : W11.cell? ⟨g6, 1, none⟩ = some (.int .u64 n1) := BW11_3.cell 1 rfl
  have fW11_3 := BW11_3.free
  have cW11_4_0 : W11.cell? ⟨g8, 0, none⟩ = some (.int .u64 n0) := BW11_4.cell 0 rfl
  have cW11_4_1 : W11.cell? ⟨g8, 1, none⟩ = some (.int .u64 n1) := BW11_4.cell 1 rfl
  have fW11_4 := BW11_4.free
  have cW11_5_0 : W11.cell? ⟨g10, 0, none⟩ = some (.int .u64 y0) := BW11_5.cell 0 rfl
  have cW11_5_1 : W11.cell? ⟨g10, 1, none⟩ = some (.int .u64 y1) := BW11_5.cell 1 rfl
  have fW11_5 := BW11_5.free
  go_wp2_with fail
  go_ret
  exact ⟨rfl, kW11⟩

set_option maxRecDepth 100000 in
set_option maxHeartbeats 8000000 in
theorem wide_bytes_false (b0 b1 b2 b3 b4 b5 b6 b7 b8 b9 b10 b11 b12 b13 b14 b15 x0 x1 x2 x3 x4 x5 x6 x7 x8 x9 x10 x11 x12 x13 x14 x15 a0 a1 n0 n1 y0 y1 p0 p1 : Int) (S : ByteArray)
    (hK : Pure Try.prog 47 #[] (.bool true))
    (hB : Pure Try.prog 56 #[.agg #[.int .u64 a0, .int .u64 a1]] (.agg #[.int .u8 x0, .int .u8 x1, .int .u8 x2, .int .u8 x3, .int .u8 x4, .int .u8 x5, .int .u8 x6, .int .u8 x7, .int .u8 x8, .int .u8 x9, .int .u8 x10, .int .u8 x11, .int .u8 x12, .int .u8 x13, .int .u8 x14, .int .u8 x15]))
    (hT : Pure Try.prog 57 #[.agg #[.int .u8 b0, .int .u8 b1, .int .u8 b2, .int .u8 b3, .int .u8 b4, .int .u8 b5, .int .u8 b6, .int .u8 b7, .int .u8 b8, .int .u8 b9, .int .u8 b10, .int .u8 b11, .int .u8 b12, .int .u8 b13, .int .u8 b14, .int .u8 b15]] (.tuple #[.agg #[.int .u64 n0, .int .u64 n1], .int .i64 7]))
    (HR : Hid (∀ w' b', Blk w' b' 54 #[.int .u8 b0, .int .u8 b1, .int .u8 b2, .int .u8 b3, .int .u8 b4, .int .u8 b5, .int .u8 b6, .int .u8 b7, .int .u8 b8, .int .u8 b9, .int .u8 b10, .int .u8 b11, .int .u8 b12, .int .u8 b13, .int .u8 b14, .int .u8 b15] → Calls Try.prog 44 #[.int .i64 2, .slice (some ⟨b', 0, none⟩) 16 16] w' fun e w'' => e = .returned (.tuple #[.agg #[.int .u64 n0, .int .u64 n1], .bool false]) ∧ Kept w' w''))
    (hV : Pure Try.prog 57 #[.agg #[.int .u8 x0, .int .u8 x1, .int .u8 x2, .int .u8 x3, .int .u8 x4, .int .u8 x5, .int .u8 x6, .int .u8 x7, .int .u8 x8, .int .u8 x9, .int .u8 x10, .int .u8 x11, .int .u8 x12, .int .u8 x13, .int .u8 x14, .int .u8 x15]] (.tuple #[.agg #[.int .u64 y0, .int .u64 y1], .int .i64 0]))
    (hM : Makes Try.prog 45 #[.int .i64 2, .agg #[.int .u64 a0, .int .u64 a1]] (fun v w' => Reads w' v (bytesV [x0, x1, x2, x3, x4, x5, x6, x7, x8, x9, x10, x11, x12, x13, x14, x15])))
    (hO : Pure Try.prog 48 #[.agg #[.int .u64 a0, .int .u64 a1]] (.agg #[.int .u64 y0, .int .u64 y1]))
    (hP : Pure Try.prog 58 #[] (.agg #[.int .u64 p0, .int .u64 p1])) (hQ : Pure Try.prog 59 #[.int .i64 2] (.agg #[.int .u64 p0, .int .u64 p1]))
    (HC : Hid (∀ w' b', Blk w' b' 54 #[.int .u8 x0, .int .u8 x1, .int .u8 x2, .int .u8 x3, .int .u8 x4, .int .u8 x5, .int .u8 x6, .int .u8 x7, .int .u8 x8, .int .u8 x9, .int .u8 x10, .int .u8 x11, .int .u8 x12, .int .u8 x13, .int .u8 x14, .int .u8 x15] → (convert 42 9 (.slice (some ⟨b', 0, none⟩) 16 16)).run Try.prog w' = .ok (.string S) w'))
    (HD : Hid (∀ v w', Reads w' v (bytesV [x0, x1, x2, x3, x4, x5, x6, x7, x8, x9, x10, x11, x12, x13, x14, x15]) → (convert 42 9 v).run Try.prog w' = .ok (.string S) w'))
    (hs : ∀ s t w, (binOp .eql 28 (.agg #[.int .u64 s, .int .u64 t]) (.agg #[.int .u64 s, .int .u64 t])).run Try.prog w = .ok (.bool true) w)
    (w : World) : Calls Try.prog 11 #[.agg #[.int .u64 a0, .int .u64 a1], .agg #[.int .u8 b0, .int .u8 b1, .int .u8 b2, .int .u8 b3, .int .u8 b4, .int .u8 b5, .int .u8 b6, .int .u8 b7, .int .u8 b8, .int .u8 b9, .int .u8 b10, .int .u8 b11, .int .u8 b12, .int .u8 b13, .int .u8 b14, .int .u8 b15]] w fun e w' => e = .returned (.bool true) ∧ Kept w w' := by
  let mn : Mean := ⟨fun v w' => Reads w' v (bytesV [x0, x1, x2, x3, x4, x5, x6, x7, x8, x9, x10, x11, x12, x13, x14, x15]), fun v w w' h hk => h.kept hk, fun b w h => by rcases h with ⟨h, _⟩ | ⟨_, _, _, h, _⟩ <;> cases h⟩
  have HK := Lib.hid hK
  have HB := Lib.hid hB
  have HT := Lib.hid hT
  have HV := Lib.hid hV
  have HM := Lib.hid hM
  have HO := Lib.hid hO
  have HP := Lib.hid hP
  have HQ := Lib.hid hQ
  clear hK hB hT hV hM hO hP hQ
  go_enter Try.func11, Try.ntmps11
  go_wp2_with fail
  refine abs_calls (fun W => Kept w W ∧ Blk W (w.heap.size) 28 #[.int .u64 a0, .int .u64 a1] ∧ Blk W (w.heap.size + 1) 54 #[.int .u8 b0, .int .u8 b1, .int .u8 b2, .int .u8 b3, .int .u8 b4, .int .u8 b5, .int .u8 b6, .int .u8 b7, .int .u8 b8, .int .u8 b9, .int .u8 b10, .int .u8 b11, .int .u8 b12, .int .u8 b13, .int .u8 b14, .int .u8 b15]) ?_ ?_
  · refine ⟨?_, ?_, ?_⟩
    · repeat (first | exact Kept.refl _ | (refine Kept.setCell ?_ (kept_side (by first | assumption | omega)) _) | apply Kept.alloc | apply Kept.drew)
    · simp [Blk, *] <;> (intros; omega)
    · simp [Blk, *] <;> (intros; omega)
  rintro W1 ⟨kW1, BW1_0, BW1_1⟩
  have cW1_0_0 : W1.cell? ⟨w.heap.size, 0, none⟩ = some (.int .u64 a0) := BW1_0.cell 0 rfl
  have cW1_0_1 : W1.cell? ⟨w.heap.size, 1, none⟩ = some (.int .u64 a1) := BW1_0.cell 1 rfl
  have fW1_0 := BW1_0.free
  have cW1_1_0 : W1.cell? ⟨w.heap.size + 1, 0, none⟩ = some (.int .u8 b0) := BW1_1.cell 0 rfl
  have cW1_1_1 : W1.cell? ⟨w.heap.size + 1, 1, none⟩ = some (.int .u8 b1) := BW1_1.cell 1 rfl
  have cW1_1_2 : W1.cell? ⟨w.heap.size + 1, 2, none⟩ = some (.int .u8 b2) := BW1_1.cell 2 rfl
  have cW1_1_3 : W1.cell? ⟨w.heap.size + 1, 3, none⟩ = some (.int .u8 b3) := BW1_1.cell 3 rfl
  have cW1_1_4 : W1.cell? ⟨w.heap.size + 1, 4, none⟩ = some (.int .u8 b4) := BW1_1.cell 4 rfl
  have cW1_1_5 : W1.cell? ⟨w.heap.size + 1, 5, none⟩ = some (.int .u8 b5) := BW1_1.cell 5 rfl
  have cW1_1_6 : W1.cell? ⟨w.heap.size + 1, 6, none⟩ = some (.int .u8 b6) := BW1_1.cell 6 rfl
  have cW1_1_7 : W1.cell? ⟨w.heap.size + 1, 7, none⟩ = some (.int .u8 b7) := BW1_1.cell 7 rfl
  have cW1_1_8 : W1.cell? ⟨w.heap.size + 1, 8, none⟩ = some (.int .u8 b8) := BW1_1.cell 8 rfl
  have cW1_1_9 : W1.cell? ⟨w.heap.size + 1, 9, none⟩ = some (.int .u8 b9) := BW1_1.cell 9 rfl
  have cW1_1_10 : W1.cell? ⟨w.heap.size + 1, 10, none⟩ = some (.int .u8 b10) := BW1_1.cell 10 rfl
  have cW1_1_11 : W1.cell? ⟨w.heap.size + 1, 11, none⟩ = some (.int .u8 b11) := BW1_1.cell 11 rfl
  have cW1_1_12 : W1.cell? ⟨w.heap.size + 1, 12, none⟩ = some (.int .u8 b12) := BW1_1.cell 12 rfl
  have cW1_1_13 : W1.cell? ⟨w.heap.size + 1, 13, none⟩ = some (.int .u8 b13) := BW1_1.cell 13 rfl
  have cW1_1_14 : W1.cell? ⟨w.heap.size + 1, 14, none⟩ = some (.int .u8 b14) := BW1_1.cell 14 rfl
  have cW1_1_15 : W1.cell? ⟨w.heap.size + 1, 15, none⟩ = some (.int .u8 b15) := BW1_1.cell 15 rfl
  have fW1_1 := BW1_1.free
  refine (HK.out _).mono ?_
  rintro e W2 ⟨rfl, hkW2⟩
  have kW2 := kW1.trans hkW2
  have BW2_0 := BW1_0.kept hkW2
  have BW2_1 := BW1_1.kept hkW2
  clear cW1_0_0 cW1_0_1 cW1_1_0 cW1_1_1 cW1_1_2 cW1_1_3 cW1_1_4 cW1_1_5 cW1_1_6 cW1_1_7 cW1_1_8 cW1_1_9 cW1_1_10 cW1_1_11 cW1_1_12 cW1_1_13 cW1_1_14 cW1_1_15 fW1_0 fW1_1 BW1_0 BW1_1 kW1 hkW2
  have cW2_0_0 : W2.cell? ⟨w.heap.size, 0, none⟩ = some (.int .u64 a0) := BW2_0.cell 0 rfl
  have cW2_0_1 : W2.cell? ⟨w.heap.size, 1, none⟩ = some (.int .u64 a1) := BW2_0.cell 1 rfl
  have fW2_0 := BW2_0.free
  have cW2_1_0 : W2.cell? ⟨w.heap.size + 1, 0, none⟩ = some (.int .u8 b0) := BW2_1.cell 0 rfl
  have cW2_1_1 : W2.cell? ⟨w.heap.size + 1, 1, none⟩ = some (.int .u8 b1) := BW2_1.cell 1 rfl
  have cW2_1_2 : W2.cell? ⟨w.heap.size + 1, 2, none⟩ = some (.int .u8 b2) := BW2_1.cell 2 rfl
  have cW2_1_3 : W2.cell? ⟨w.heap.size + 1, 3, none⟩ = some (.int .u8 b3) := BW2_1.cell 3 rfl
  have cW2_1_4 : W2.cell? ⟨w.heap.size + 1, 4, none⟩ = some (.int .u8 b4) := BW2_1.cell 4 rfl
  have cW2_1_5 : W2.cell? ⟨w.heap.size + 1, 5, none⟩ = some (.int .u8 b5) := BW2_1.cell 5 rfl
  have cW2_1_6 : W2.cell? ⟨w.heap.size + 1, 6, none⟩ = some (.int .u8 b6) := BW2_1.cell 6 rfl
  have cW2_1_7 : W2.cell? ⟨w.heap.size + 1, 7, none⟩ = some (.int .u8 b7) := BW2_1.cell 7 rfl
  have cW2_1_8 : W2.cell? ⟨w.heap.size + 1, 8, none⟩ = some (.int .u8 b8) := BW2_1.cell 8 rfl
  have cW2_1_9 : W2.cell? ⟨w.heap.size + 1, 9, none⟩ = some (.int .u8 b9) := BW2_1.cell 9 rfl
  have cW2_1_10 : W2.cell? ⟨w.heap.size + 1, 10, none⟩ = some (.int .u8 b10) := BW2_1.cell 10 rfl
  have cW2_1_11 : W2.cell? ⟨w.heap.size + 1, 11, none⟩ = some (.int .u8 b11) := BW2_1.cell 11 rfl
  have cW2_1_12 : W2.cell? ⟨w.heap.size + 1, 12, none⟩ = some (.int .u8 b12) := BW2_1.cell 12 rfl
  have cW2_1_13 : W2.cell? ⟨w.heap.size + 1, 13, none⟩ = some (.int .u8 b13) := BW2_1.cell 13 rfl
  have cW2_1_14 : W2.cell? ⟨w.heap.size + 1, 14, none⟩ = some (.int .u8 b14) := BW2_1.cell 14 rfl
  have cW2_1_15 : W2.cell? ⟨w.heap.size + 1, 15, none⟩ = some (.int .u8 b15) := BW2_1.cell 15 rfl
  have fW2_1 := BW2_1.free
  go_wp2_with fail
  refine (HB.out _).mono ?_
  rintro e W3 ⟨rfl, hkW3⟩
  have kW3 := kW2.trans hkW3
  have BW3_0 := BW2_0.kept hkW3
  have BW3_1 := BW2_1.kept hkW3
  clear cW2_0_0 cW2_0_1 cW2_1_0 cW2_1_1 cW2_1_2 cW2_1_3 cW2_1_4 cW2_1_5 cW2_1_6 cW2_1_7 cW2_1_8 cW2_1_9 cW2_1_10 cW2_1_11 cW2_1_12 cW2_1_13 cW2_1_14 cW2_1_15 fW2_0 fW2_1 BW2_0 BW2_1 kW2 hkW3
  have cW3_0_0 : W3.cell? ⟨w.heap.size, 0, none⟩ = some (.int .u64 a0) := BW3_0.cell 0 rfl
  have cW3_0_1 : W3.cell? ⟨w.heap.size, 1, none⟩ = some (.int .u64 a1) := BW3_0.cell 1 rfl
  have fW3_0 := BW3_0.free
  have cW3_1_0 : W3.cell? ⟨w.heap.size + 1, 0, none⟩ = some (.int .u8 b0) := BW3_1.cell 0 rfl
  have cW3_1_1 : W3.cell? ⟨w.heap.size + 1, 1, none⟩ = some (.int .u8 b1) := BW3_1.cell 1 rfl
  have cW3_1_2 : W3.cell? ⟨w.heap.size + 1, 2, none⟩ = some (.int .u8 b2) := BW3_1.cell 2 rfl
  have cW3_1_3 : W3.cell? ⟨w.heap.size + 1, 3, none⟩ = some (.int .u8 b3) := BW3_1.cell 3 rfl
  have cW3_1_4 : W3.cell? ⟨w.heap.size + 1, 4, none⟩ = some (.int .u8 b4) := BW3_1.cell 4 rfl
  have cW3_1_5 : W3.cell? ⟨w.heap.size + 1, 5, none⟩ = some (.int .u8 b5) := BW3_1.cell 5 rfl
  have cW3_1_6 : W3.cell? ⟨w.heap.size + 1, 6, none⟩ = some (.int .u8 b6) := BW3_1.cell 6 rfl
  have cW3_1_7 : W3.cell? ⟨w.heap.size + 1, 7, none⟩ = some (.int .u8 b7) := BW3_1.cell 7 rfl
  have cW3_1_8 : W3.cell? ⟨w.heap.size + 1, 8, none⟩ = some (.int .u8 b8) := BW3_1.cell 8 rfl
  have cW3_1_9 : W3.cell? ⟨w.heap.size + 1, 9, none⟩ = some (.int .u8 b9) := BW3_1.cell 9 rfl
  have cW3_1_10 : W3.cell? ⟨w.heap.size + 1, 10, none⟩ = some (.int .u8 b10) := BW3_1.cell 10 rfl
  have cW3_1_11 : W3.cell? ⟨w.heap.size + 1, 11, none⟩ = some (.int .u8 b11) := BW3_1.cell 11 rfl
  have cW3_1_12 : W3.cell? ⟨w.heap.size + 1, 12, none⟩ = some (.int .u8 b12) := BW3_1.cell 12 rfl
  have cW3_1_13 : W3.cell? ⟨w.heap.size + 1, 13, none⟩ = some (.int .u8 b13) := BW3_1.cell 13 rfl
  have cW3_1_14 : W3.cell? ⟨w.heap.size + 1, 14, none⟩ = some (.int .u8 b14) := BW3_1.cell 14 rfl
  have cW3_1_15 : W3.cell? ⟨w.heap.size + 1, 15, none⟩ = some (.int .u8 b15) := BW3_1.cell 15 rfl
  have fW3_1 := BW3_1.free
  obtain ⟨g5, hg5⟩ : ∃ b, W3.heap.size = b := ⟨_, rfl⟩
  have neg5_0 : w.heap.size ≠ g5 := by have := BW3_0.lt; omega
  have eng5_0 : g5 ≠ w.heap.size := neg5_0.symm
  have neg5_1 : w.heap.size + 1 ≠ g5 := by have := BW3_1.lt; omega
  have eng5_1 : g5 ≠ w.heap.size + 1 := neg5_1.symm
  have log5 : w.heap.size ≤ g5 := hg5 ▸ kW3.size
  go_upto_region 4 with (fail)
  refine abs_world (fun W => Kept w W ∧ Blk W (w.heap.size) 28 #[.int .u64 a0, .int .u64 a1] ∧ Blk W (w.heap.size + 1) 54 #[.int .u8 b0, .int .u8 b1, .int .u8 b2, .int .u8 b3, .int .u8 b4, .int .u8 b5, .int .u8 b6, .int .u8 b7, .int .u8 b8, .int .u8 b9, .int .u8 b10, .int .u8 b11, .int .u8 b12, .int .u8 b13, .int .u8 b14, .int .u8 b15] ∧ Blk W (g5) 54 #[.int .u8 x0, .int .u8 x1, .int .u8 x2, .int .u8 x3, .int .u8 x4, .int .u8 x5, .int .u8 x6, .int .u8 x7, .int .u8 x8, .int .u8 x9, .int .u8 x10, .int .u8 x11, .int .u8 x12, .int .u8 x13, .int .u8 x14, .int .u8 x15]) ?_ ?_
  · refine ⟨?_, ?_, ?_, ?_⟩
    · repeat (first | exact kW3 | (refine Kept.setCell ?_ (kept_side (by first | assumption | omega)) _) | apply Kept.alloc | apply Kept.drew)
    · simp [Blk, *] <;> (intros; omega)
    · simp [Blk, *] <;> (intros; omega)
    · simp [Blk, *] <;> (intros; omega)
  rintro W4 ⟨kW4, BW4_0, BW4_1, BW4_2⟩
  have cW4_0_0 : W4.cell? ⟨w.heap.size, 0, none⟩ = some (.int .u64 a0) := BW4_0.cell 0 rfl
  have cW4_0_1 : W4.cell? ⟨w.heap.size, 1, none⟩ = some (.int .u64 a1) := BW4_0.cell 1 rfl
  have fW4_0 := BW4_0.free
  have cW4_1_0 : W4.cell? ⟨w.heap.size + 1, 0, none⟩ = some (.int .u8 b0) := BW4_1.cell 0 rfl
  have cW4_1_1 : W4.cell? ⟨w.heap.size + 1, 1, none⟩ = some (.int .u8 b1) := BW4_1.cell 1 rfl
  have cW4_1_2 : W4.cell? ⟨w.heap.size + 1, 2, none⟩ = some (.int .u8 b2) := BW4_1.cell 2 rfl
  have cW4_1_3 : W4.cell? ⟨w.heap.size + 1, 3, none⟩ = some (.int .u8 b3) := BW4_1.cell 3 rfl
  have cW4_1_4 : W4.cell? ⟨w.heap.size + 1, 4, none⟩ = some (.int .u8 b4) := BW4_1.cell 4 rfl
  have cW4_1_5 : W4.cell? ⟨w.heap.size + 1, 5, none⟩ = some (.int .u8 b5) := BW4_1.cell 5 rfl
  have cW4_1_6 : W4.cell? ⟨w.heap.size + 1, 6, none⟩ = some (.int .u8 b6) := BW4_1.cell 6 rfl
  have cW4_1_7 : W4.cell? ⟨w.heap.size + 1, 7, none⟩ = some (.int .u8 b7) := BW4_1.cell 7 rfl
  have cW4_1_8 : W4.cell? ⟨w.heap.size + 1, 8, none⟩ = some (.int .u8 b8) := BW4_1.cell 8 rfl
  have cW4_1_9 : W4.cell? ⟨w.heap.size + 1, 9, none⟩ = some (.int .u8 b9) := BW4_1.cell 9 rfl
  have cW4_1_10 : W4.cell? ⟨w.heap.size + 1, 10, none⟩ = some (.int .u8 b10) := BW4_1.cell 10 rfl
  have cW4_1_11 : W4.cell? ⟨w.heap.size + 1, 11, none⟩ = some (.int .u8 b11) := BW4_1.cell 11 rfl
  have cW4_1_12 : W4.cell? ⟨w.heap.size + 1, 12, none⟩ = some (.int .u8 b12) := BW4_1.cell 12 rfl
  have cW4_1_13 : W4.cell? ⟨w.heap.size + 1, 13, none⟩ = some (.int .u8 b13) := BW4_1.cell 13 rfl
  have cW4_1_14 : W4.cell? ⟨w.heap.size + 1, 14, none⟩ = some (.int .u8 b14) := BW4_1.cell 14 rfl
  have cW4_1_15 : W4.cell? ⟨w.heap.size + 1, 15, none⟩ = some (.int .u8 b15) := BW4_1.cell 15 rfl
  have fW4_1 := BW4_1.free
  have cW4_2_0 : W4.cell? ⟨g5, 0, none⟩ = some (.int .u8 x0) := BW4_2.cell 0 rfl
  have cW4_2_1 : W4.cell? ⟨g5, 1, none⟩ = some (.int .u8 x1) := BW4_2.cell 1 rfl
  have cW4_2_2 : W4.cell? ⟨g5, 2, none⟩ = some (.int .u8 x2) := BW4_2.cell 2 rfl
  have cW4_2_3 : W4.cell? ⟨g5, 3, none⟩ = some (.int .u8 x3) := BW4_2.cell 3 rfl
  have cW4_2_4 : W4.cell? ⟨g5, 4, none⟩ = some (.int .u8 x4) := BW4_2.cell 4 rfl
  have cW4_2_5 : W4.cell? ⟨g5, 5, none⟩ = some (.int .u8 x5) := BW4_2.cell 5 rfl
  have cW4_2_6 : W4.cell? ⟨g5, 6, none⟩ = some (.int .u8 x6) := BW4_2.cell 6 rfl
  have cW4_2_7 : W4.cell? ⟨g5, 7, none⟩ = some (.int .u8 x7) := BW4_2.cell 7 rfl
  have cW4_2_8 : W4.cell? ⟨g5, 8, none⟩ = some (.int .u8 x8) := BW4_2.cell 8 rfl
  have cW4_2_9 : W4.cell? ⟨g5, 9, none⟩ = some (.int .u8 x9) := BW4_2.cell 9 rfl
  have cW4_2_10 : W4.cell? ⟨g5, 10, none⟩ = some (.int .u8 x10) := BW4_2.cell 10 rfl
  have cW4_2_11 : W4.cell? ⟨g5, 11, none⟩ = some (.int .u8 x11) := BW4_2.cell 11 rfl
  have cW4_2_12 : W4.cell? ⟨g5, 12, none⟩ = some (.int .u8 x12) := BW4_2.cell 12 rfl
  have cW4_2_13 : W4.cell? ⟨g5, 13, none⟩ = some (.int .u8 x13) := BW4_2.cell 13 rfl
  have cW4_2_14 : W4.cell? ⟨g5, 14, none⟩ = some (.int .u8 x14) := BW4_2.cell 14 rfl
  have cW4_2_15 : W4.cell? ⟨g5, 15, none⟩ = some (.int .u8 x15) := BW4_2.cell 15 rfl
  have fW4_2 := BW4_2.free
  go_wp2_with fail
  refine (HT.out _).mono ?_
  rintro e W5 ⟨rfl, hkW5⟩
  have kW5 := kW4.trans hkW5
  have BW5_0 := BW4_0.kept hkW5
  have BW5_1 := BW4_1.kept hkW5
  have BW5_2 := BW4_2.kept hkW5
  clear cW4_0_0 cW4_0_1 cW4_1_0 cW4_1_1 cW4_1_2 cW4_1_3 cW4_1_4 cW4_1_5 cW4_1_6 cW4_1_7 cW4_1_8 cW4_1_9 cW4_1_10 cW4_1_11 cW4_1_12 cW4_1_13 cW4_1_14 cW4_1_15 cW4_2_0 cW4_2_1 cW4_2_2 cW4_2_3 cW4_2_4 cW4_2_5 cW4_2_6 cW4_2_7 cW4_2_8 cW4_2_9 cW4_2_10 cW4_2_11 cW4_2_12 cW4_2_13 cW4_2_14 cW4_2_15 fW4_0 fW4_1 fW4_2 BW4_0 BW4_1 BW4_2 kW4 hkW5
  have cW5_0_0 : W5.cell? ⟨w.heap.size, 0, none⟩ = some (.int .u64 a0) := BW5_0.cell 0 rfl
  have cW5_0_1 : W5.cell? ⟨w.heap.size, 1, none⟩ = some (.int .u64 a1) := BW5_0.cell 1 rfl
  have fW5_0 := BW5_0.free
  have cW5_1_0 : W5.cell? ⟨w.heap.size + 1, 0, none⟩ = some (.int .u8 b0) := BW5_1.cell 0 rfl
  have cW5_1_1 : W5.cell? ⟨w.heap.size + 1, 1, none⟩ = some (.int .u8 b1) := BW5_1.cell 1 rfl
  have cW5_1_2 : W5.cell? ⟨w.heap.size + 1, 2, none⟩ = some (.int .u8 b2) := BW5_1.cell 2 rfl
  have cW5_1_3 : W5.cell? ⟨w.heap.size + 1, 3, none⟩ = some (.int .u8 b3) := BW5_1.cell 3 rfl
  have cW5_1_4 : W5.cell? ⟨w.heap.size + 1, 4, none⟩ = some (.int .u8 b4) := BW5_1.cell 4 rfl
  have cW5_1_5 : W5.cell? ⟨w.heap.size + 1, 5, none⟩ = some (.int .u8 b5) := BW5_1.cell 5 rfl
  have cW5_1_6 : W5.cell? ⟨w.heap.size + 1, 6, none⟩ = some (.int .u8 b6) := BW5_1.cell 6 rfl
  have cW5_1_7 : W5.cell? ⟨w.heap.size + 1, 7, none⟩ = some (.int .u8 b7) := BW5_1.cell 7 rfl
  have cW5_1_8 : W5.cell? ⟨w.heap.size + 1, 8, none⟩ = some (.int .u8 b8) := BW5_1.cell 8 rfl
  have cW5_1_9 : W5.cell? ⟨w.heap.size + 1, 9, none⟩ = some (.int .u8 b9) := BW5_1.cell 9 rfl
  have cW5_1_10 : W5.cell? ⟨w.heap.size + 1, 10, none⟩ = some (.int .u8 b10) := BW5_1.cell 10 rfl
  have cW5_1_11 : W5.cell? ⟨w.heap.size + 1, 11, none⟩ = some (.int .u8 b11) := BW5_1.cell 11 rfl
  have cW5_1_12 : W5.cell? ⟨w.heap.size + 1, 12, none⟩ = some (.int .u8 b12) := BW5_1.cell 12 rfl
  have cW5_1_13 : W5.cell? ⟨w.heap.size + 1, 13, none⟩ = some (.int .u8 b13) := BW5_1.cell 13 rfl
  have cW5_1_14 : W5.cell? ⟨w.heap.size + 1, 14, none⟩ = some (.int .u8 b14) := BW5_1.cell 14 rfl
  have cW5_1_15 : W5.cell? ⟨w.heap.size + 1, 15, none⟩ = some (.int .u8 b15) := BW5_1.cell 15 rfl
  have fW5_1 := BW5_1.free
  have cW5_2_0 : W5.cell? ⟨g5, 0, none⟩ = some (.int .u8 x0) := BW5_2.cell 0 rfl
  have cW5_2_1 : W5.cell? ⟨g5, 1, none⟩ = some (.int .u8 x1) := BW5_2.cell 1 rfl
  have cW5_2_2 : W5.cell? ⟨g5, 2, none⟩ = some (.int .u8 x2) := BW5_2.cell 2 rfl
  have cW5_2_3 : W5.cell? ⟨g5, 3, none⟩ = some (.int .u8 x3) := BW5_2.cell 3 rfl
  have cW5_2_4 : W5.cell? ⟨g5, 4, none⟩ = some (.int .u8 x4) := BW5_2.cell 4 rfl
  have cW5_2_5 : W5.cell? ⟨g5, 5, none⟩ = some (.int .u8 x5) := BW5_2.cell 5 rfl
  have cW5_2_6 : W5.cell? ⟨g5, 6, none⟩ = some (.int .u8 x6) := BW5_2.cell 6 rfl
  have cW5_2_7 : W5.cell? ⟨g5, 7, none⟩ = some (.int .u8 x7) := BW5_2.cell 7 rfl
  have cW5_2_8 : W5.cell? ⟨g5, 8, none⟩ = some (.int .u8 x8) := BW5_2.cell 8 rfl
  have cW5_2_9 : W5.cell? ⟨g5, 9, none⟩ = some (.int .u8 x9) := BW5_2.cell 9 rfl
  have cW5_2_10 : W5.cell? ⟨g5, 10, none⟩ = some (.int .u8 x10) := BW5_2.cell 10 rfl
  have cW5_2_11 : W5.cell? ⟨g5, 11, none⟩ = some (.int .u8 x11) := BW5_2.cell 11 rfl
  have cW5_2_12 : W5.cell? ⟨g5, 12, none⟩ = some (.int .u8 x12) := BW5_2.cell 12 rfl
  have cW5_2_13 : W5.cell? ⟨g5, 13, none⟩ = some (.int .u8 x13) := BW5_2.cell 13 rfl
  have cW5_2_14 : W5.cell? ⟨g5, 14, none⟩ = some (.int .u8 x14) := BW5_2.cell 14 rfl
  have cW5_2_15 : W5.cell? ⟨g5, 15, none⟩ = some (.int .u8 x15) := BW5_2.cell 15 rfl
  have fW5_2 := BW5_2.free
  obtain ⟨g6, hg6⟩ : ∃ b, W5.heap.size = b := ⟨_, rfl⟩
  have neg6_0 : w.heap.size ≠ g6 := by have := BW5_0.lt; omega
  have eng6_0 : g6 ≠ w.heap.size := neg6_0.symm
  have neg6_1 : w.heap.size + 1 ≠ g6 := by have := BW5_1.lt; omega
  have eng6_1 : g6 ≠ w.heap.size + 1 := neg6_1.symm
  have neg6_2 : g5 ≠ g6 := by have := BW5_2.lt; omega
  have eng6_2 : g6 ≠ g5 := neg6_2.symm
  have log6 : w.heap.size ≤ g6 := hg6 ▸ kW5.size
  go_upto_region 5 with (fail)
  refine abs_world (fun W => Kept w W ∧ Blk W (w.heap.size) 28 #[.int .u64 a0, .int .u64 a1] ∧ Blk W (w.heap.size + 1) 54 #[.int .u8 b0, .int .u8 b1, .int .u8 b2, .int .u8 b3, .int .u8 b4, .int .u8 b5, .int .u8 b6, .int .u8 b7, .int .u8 b8, .int .u8 b9, .int .u8 b10, .int .u8 b11, .int .u8 b12, .int .u8 b13, .int .u8 b14, .int .u8 b15] ∧ Blk W (g5) 54 #[.int .u8 x0, .int .u8 x1, .int .u8 x2, .int .u8 x3, .int .u8 x4, .int .u8 x5, .int .u8 x6, .int .u8 x7, .int .u8 x8, .int .u8 x9, .int .u8 x10, .int .u8 x11, .int .u8 x12, .int .u8 x13, .int .u8 x14, .int .u8 x15] ∧ Blk W (g6) 28 #[.int .u64 n0, .int .u64 n1]) ?_ ?_
  · refine ⟨?_, ?_, ?_, ?_, ?_⟩
    · repeat (first | exact kW5 | (refine Kept.setCell ?_ (kept_side (by first | assumption | omega)) _) | apply Kept.alloc | apply Kept.drew)
    · simp [Blk, *] <;> (intros; omega)
    · simp [Blk, *] <;> (intros; omega)
    · simp [Blk, *] <;> (intros; omega)
    · simp [Blk, *] <;> (intros; omega)
  rintro W6 ⟨kW6, BW6_0, BW6_1, BW6_2, BW6_3⟩
  have cW6_0_0 : W6.cell? ⟨w.heap.size, 0, none⟩ = some (.int .u64 a0) := BW6_0.cell 0 rfl
  have cW6_0_1 : W6.cell? ⟨w.heap.size, 1, none⟩ = some (.int .u64 a1) := BW6_0.cell 1 rfl
  have fW6_0 := BW6_0.free
  have cW6_1_0 : W6.cell? ⟨w.heap.size + 1, 0, none⟩ = some (.int .u8 b0) := BW6_1.cell 0 rfl
  have cW6_1_1 : W6.cell? ⟨w.heap.size + 1, 1, none⟩ = some (.int .u8 b1) := BW6_1.cell 1 rfl
  have cW6_1_2 : W6.cell? ⟨w.heap.size + 1, 2, none⟩ = some (.int .u8 b2) := BW6_1.cell 2 rfl
  have cW6_1_3 : W6.cell? ⟨w.heap.size + 1, 3, none⟩ = some (.int .u8 b3) := BW6_1.cell 3 rfl
  have cW6_1_4 : W6.cell? ⟨w.heap.size + 1, 4, none⟩ = some (.int .u8 b4) := BW6_1.cell 4 rfl
  have cW6_1_5 : W6.cell? ⟨w.heap.size + 1, 5, none⟩ = some (.int .u8 b5) := BW6_1.cell 5 rfl
  have cW6_1_6 : W6.cell? ⟨w.heap.size + 1, 6, none⟩ = some (.int .u8 b6) := BW6_1.cell 6 rfl
  have cW6_1_7 : W6.cell? ⟨w.heap.size + 1, 7, none⟩ = some (.int .u8 b7) := BW6_1.cell 7 rfl
  have cW6_1_8 : W6.cell? ⟨w.heap.size + 1, 8, none⟩ = some (.int .u8 b8) := BW6_1.cell 8 rfl
  have cW6_1_9 : W6.cell? ⟨w.heap.size + 1, 9, none⟩ = some (.int .u8 b9) := BW6_1.cell 9 rfl
  have cW6_1_10 : W6.cell? ⟨w.heap.size + 1, 10, none⟩ = some (.int .u8 b10) := BW6_1.cell 10 rfl
  have cW6_1_11 : W6.cell? ⟨w.heap.size + 1, 11, none⟩ = some (.int .u8 b11) := BW6_1.cell 11 rfl
  have cW6_1_12 : W6.cell? ⟨w.heap.size + 1, 12, none⟩ = some (.int .u8 b12) := BW6_1.cell 12 rfl
  have cW6_1_13 : W6.cell? ⟨w.heap.size + 1, 13, none⟩ = some (.int .u8 b13) := BW6_1.cell 13 rfl
  have cW6_1_14 : W6.cell? ⟨w.heap.size + 1, 14, none⟩ = some (.int .u8 b14) := BW6_1.cell 14 rfl
  have cW6_1_15 : W6.cell? ⟨w.heap.size + 1, 15, none⟩ = some (.int .u8 b15) := BW6_1.cell 15 rfl
  have fW6_1 := BW6_1.free
  have cW6_2_0 : W6.cell? ⟨g5, 0, none⟩ = some (.int .u8 x0) := BW6_2.cell 0 rfl
  have cW6_2_1 : W6.cell? ⟨g5, 1, none⟩ = some (.int .u8 x1) := BW6_2.cell 1 rfl
  have cW6_2_2 : W6.cell? ⟨g5, 2, none⟩ = some (.int .u8 x2) := BW6_2.cell 2 rfl
  have cW6_2_3 : W6.cell? ⟨g5, 3, none⟩ = some (.int .u8 x3) := BW6_2.cell 3 rfl
  have cW6_2_4 : W6.cell? ⟨g5, 4, none⟩ = some (.int .u8 x4) := BW6_2.cell 4 rfl
  have cW6_2_5 : W6.cell? ⟨g5, 5, none⟩ = some (.int .u8 x5) := BW6_2.cell 5 rfl
  have cW6_2_6 : W6.cell? ⟨g5, 6, none⟩ = some (.int .u8 x6) := BW6_2.cell 6 rfl
  have cW6_2_7 : W6.cell? ⟨g5, 7, none⟩ = some (.int .u8 x7) := BW6_2.cell 7 rfl
  have cW6_2_8 : W6.cell? ⟨g5, 8, none⟩ = some (.int .u8 x8) := BW6_2.cell 8 rfl
  have cW6_2_9 : W6.cell? ⟨g5, 9, none⟩ = some (.int .u8 x9) := BW6_2.cell 9 rfl
  have cW6_2_10 : W6.cell? ⟨g5, 10, none⟩ = some (.int .u8 x10) := BW6_2.cell 10 rfl
  have cW6_2_11 : W6.cell? ⟨g5, 11, none⟩ = some (.int .u8 x11) := BW6_2.cell 11 rfl
  have cW6_2_12 : W6.cell? ⟨g5, 12, none⟩ = some (.int .u8 x12) := BW6_2.cell 12 rfl
  have cW6_2_13 : W6.cell? ⟨g5, 13, none⟩ = some (.int .u8 x13) := BW6_2.cell 13 rfl
  have cW6_2_14 : W6.cell? ⟨g5, 14, none⟩ = some (.int .u8 x14) := BW6_2.cell 14 rfl
  have cW6_2_15 : W6.cell? ⟨g5, 15, none⟩ = some (.int .u8 x15) := BW6_2.cell 15 rfl
  have fW6_2 := BW6_2.free
  have cW6_3_0 : W6.cell? ⟨g6, 0, none⟩ = some (.int .u64 n0) := BW6_3.cell 0 rfl
  have cW6_3_1 : W6.cell? ⟨g6, 1, none⟩ = some (.int .u64 n1) := BW6_3.cell 1 rfl
  have fW6_3 := BW6_3.free
  go_wp2_with fail
  refine (HR.out _ _ BW6_1).mono ?_
  rintro e W7 ⟨rfl, hkW7⟩
  have kW7 := kW6.trans hkW7
  have BW7_0 := BW6_0.kept hkW7
  have BW7_1 := BW6_1.kept hkW7
  have BW7_2 := BW6_2.kept hkW7
  have BW7_3 := BW6_3.kept hkW7
  clear cW6_0_0 cW6_0_1 cW6_1_0 cW6_1_1 cW6_1_2 cW6_1_3 cW6_1_4 cW6_1_5 cW6_1_6 cW6_1_7 cW6_1_8 cW6_1_9 cW6_1_10 cW6_1_11 cW6_1_12 cW6_1_13 cW6_1_14 cW6_1_15 cW6_2_0 cW6_2_1 cW6_2_2 cW6_2_3 cW6_2_4 cW6_2_5 cW6_2_6 cW6_2_7 cW6_2_8 cW6_2_9 cW6_2_10 cW6_2_11 cW6_2_12 cW6_2_13 cW6_2_14 cW6_2_15 cW6_3_0 cW6_3_1 fW6_0 fW6_1 fW6_2 fW6_3 BW6_0 BW6_1 BW6_2 BW6_3 kW6 hkW7
  have cW7_0_0 : W7.cell? ⟨w.heap.size, 0, none⟩ = some (.int .u64 a0) := BW7_0.cell 0 rfl
  have cW7_0_1 : W7.cell? ⟨w.heap.size, 1, none⟩ = some (.int .u64 a1) := BW7_0.cell 1 rfl
  have fW7_0 := BW7_0.free
  have cW7_1_0 : W7.cell? ⟨w.heap.size + 1, 0, none⟩ = some (.int .u8 b0) := BW7_1.cell 0 rfl
  have cW7_1_1 : W7.cell? ⟨w.heap.size + 1, 1, none⟩ = some (.int .u8 b1) := BW7_1.cell 1 rfl
  have cW7_1_2 : W7.cell? ⟨w.heap.size + 1, 2, none⟩ = some (.int .u8 b2) := BW7_1.cell 2 rfl
  have cW7_1_3 : W7.cell? ⟨w.heap.size + 1, 3, none⟩ = some (.int .u8 b3) := BW7_1.cell 3 rfl
  have cW7_1_4 : W7.cell? ⟨w.heap.size + 1, 4, none⟩ = some (.int .u8 b4) := BW7_1.cell 4 rfl
  have cW7_1_5 : W7.cell? ⟨w.heap.size + 1, 5, none⟩ = some (.int .u8 b5) := BW7_1.cell 5 rfl
  have cW7_1_6 : W7.cell? ⟨w.heap.size + 1, 6, none⟩ = some (.int .u8 b6) := BW7_1.cell 6 rfl
  have cW7_1_7 : W7.cell? ⟨w.heap.size + 1, 7, none⟩ = some (.int .u8 b7) := BW7_1.cell 7 rfl
  have cW7_1_8 : W7.cell? ⟨w.heap.size + 1, 8, none⟩ = some (.int .u8 b8) := BW7_1.cell 8 rfl
  have cW7_1_9 : W7.cell? ⟨w.heap.size + 1, 9, none⟩ = some (.int .u8 b9) := BW7_1.cell 9 rfl
  have cW7_1_10 : W7.cell? ⟨w.heap.size + 1, 10, none⟩ = some (.int .u8 b10) := BW7_1.cell 10 rfl
  have cW7_1_11 : W7.cell? ⟨w.heap.size + 1, 11, none⟩ = some (.int .u8 b11) := BW7_1.cell 11 rfl
  have cW7_1_12 : W7.cell? ⟨w.heap.size + 1, 12, none⟩ = some (.int .u8 b12) := BW7_1.cell 12 rfl
  have cW7_1_13 : W7.cell? ⟨w.heap.size + 1, 13, none⟩ = some (.int .u8 b13) := BW7_1.cell 13 rfl
  have cW7_1_14 : W7.cell? ⟨w.heap.size + 1, 14, none⟩ = some (.int .u8 b14) := BW7_1.cell 14 rfl
  have cW7_1_15 : W7.cell? ⟨w.heap.size + 1, 15, none⟩ = some (.int .u8 b15) := BW7_1.cell 15 rfl
  have fW7_1 := BW7_1.free
  have cW7_2_0 : W7.cell? ⟨g5, 0, none⟩ = some (.int .u8 x0) := BW7_2.cell 0 rfl
  have cW7_2_1 : W7.cell? ⟨g5, 1, none⟩ = some (.int .u8 x1) := BW7_2.cell 1 rfl
  have cW7_2_2 : W7.cell? ⟨g5, 2, none⟩ = some (.int .u8 x2) := BW7_2.cell 2 rfl
  have cW7_2_3 : W7.cell? ⟨g5, 3, none⟩ = some (.int .u8 x3) := BW7_2.cell 3 rfl
  have cW7_2_4 : W7.cell? ⟨g5, 4, none⟩ = some (.int .u8 x4) := BW7_2.cell 4 rfl
  have cW7_2_5 : W7.cell? ⟨g5, 5, none⟩ = some (.int .u8 x5) := BW7_2.cell 5 rfl
  have cW7_2_6 : W7.cell? ⟨g5, 6, none⟩ = some (.int .u8 x6) := BW7_2.cell 6 rfl
  have cW7_2_7 : W7.cell? ⟨g5, 7, none⟩ = some (.int .u8 x7) := BW7_2.cell 7 rfl
  have cW7_2_8 : W7.cell? ⟨g5, 8, none⟩ = some (.int .u8 x8) := BW7_2.cell 8 rfl
  have cW7_2_9 : W7.cell? ⟨g5, 9, none⟩ = some (.int .u8 x9) := BW7_2.cell 9 rfl
  have cW7_2_10 : W7.cell? ⟨g5, 10, none⟩ = some (.int .u8 x10) := BW7_2.cell 10 rfl
  have cW7_2_11 : W7.cell? ⟨g5, 11, none⟩ = some (.int .u8 x11) := BW7_2.cell 11 rfl
  have cW7_2_12 : W7.cell? ⟨g5, 12, none⟩ = some (.int .u8 x12) := BW7_2.cell 12 rfl
  have cW7_2_13 : W7.cell? ⟨g5, 13, none⟩ = some (.int .u8 x13) := BW7_2.cell 13 rfl
  have cW7_2_14 : W7.cell? ⟨g5, 14, none⟩ = some (.int .u8 x14) := BW7_2.cell 14 rfl
  have cW7_2_15 : W7.cell? ⟨g5, 15, none⟩ = some (.int .u8 x15) := BW7_2.cell 15 rfl
  have fW7_2 := BW7_2.free
  have cW7_3_0 : W7.cell? ⟨g6, 0, none⟩ = some (.int .u64 n0) := BW7_3.cell 0 rfl
  have cW7_3_1 : W7.cell? ⟨g6, 1, none⟩ = some (.int .u64 n1) := BW7_3.cell 1 rfl
  have fW7_3 := BW7_3.free
  obtain ⟨g8, hg8⟩ : ∃ b, W7.heap.size = b := ⟨_, rfl⟩
  have neg8_0 : w.heap.size ≠ g8 := by have := BW7_0.lt; omega
  have eng8_0 : g8 ≠ w.heap.size := neg8_0.symm
  have neg8_1 : w.heap.size + 1 ≠ g8 := by have := BW7_1.lt; omega
  have eng8_1 : g8 ≠ w.heap.size + 1 := neg8_1.symm
  have neg8_2 : g5 ≠ g8 := by have := BW7_2.lt; omega
  have eng8_2 : g8 ≠ g5 := neg8_2.symm
  have neg8_3 : g6 ≠ g8 := by have := BW7_3.lt; omega
  have eng8_3 : g8 ≠ g6 := neg8_3.symm
  have log8 : w.heap.size ≤ g8 := hg8 ▸ kW7.size
  go_upto_region 6 with (fail)
  refine abs_world (fun W => Kept w W ∧ Blk W (w.heap.size) 28 #[.int .u64 a0, .int .u64 a1] ∧ Blk W (w.heap.size + 1) 54 #[.int .u8 b0, .int .u8 b1, .int .u8 b2, .int .u8 b3, .int .u8 b4, .int .u8 b5, .int .u8 b6, .int .u8 b7, .int .u8 b8, .int .u8 b9, .int .u8 b10, .int .u8 b11, .int .u8 b12, .int .u8 b13, .int .u8 b14, .int .u8 b15] ∧ Blk W (g5) 54 #[.int .u8 x0, .int .u8 x1, .int .u8 x2, .int .u8 x3, .int .u8 x4, .int .u8 x5, .int .u8 x6, .int .u8 x7, .int .u8 x8, .int .u8 x9, .int .u8 x10, .int .u8 x11, .int .u8 x12, .int .u8 x13, .int .u8 x14, .int .u8 x15] ∧ Blk W (g6) 28 #[.int .u64 n0, .int .u64 n1] ∧ Blk W (g8) 28 #[.int .u64 n0, .int .u64 n1]) ?_ ?_
  · refine ⟨?_, ?_, ?_, ?_, ?_, ?_⟩
    · repeat (first | exact kW7 | (refine Kept.setCell ?_ (kept_side (by first | assumption | omega)) _) | apply Kept.alloc | apply Kept.drew)
    · simp [Blk, *] <;> (intros; omega)
    · simp [Blk, *] <;> (intros; omega)
    · simp [Blk, *] <;> (intros; omega)
    · simp [Blk, *] <;> (intros; omega)
    · simp [Blk, *] <;> (intros; omega)
  rintro W8 ⟨kW8, BW8_0, BW8_1, BW8_2, BW8_3, BW8_4⟩
  have cW8_0_0 : W8.cell? ⟨w.heap.size, 0, none⟩ = some (.int .u64 a0) := BW8_0.cell 0 rfl
  have cW8_0_1 : W8.cell? ⟨w.heap.size, 1, none⟩ = some (.int .u64 a1) := BW8_0.cell 1 rfl
  have fW8_0 := BW8_0.free
  have cW8_1_0 : W8.cell? ⟨w.heap.size + 1, 0, none⟩ = some (.int .u8 b0) := BW8_1.cell 0 rfl
  have cW8_1_1 : W8.cell? ⟨w.heap.size + 1, 1, none⟩ = some (.int .u8 b1) := BW8_1.cell 1 rfl
  have cW8_1_2 : W8.cell? ⟨w.heap.size + 1, 2, none⟩ = some (.int .u8 b2) := BW8_1.cell 2 rfl
  have cW8_1_3 : W8.cell? ⟨w.heap.size + 1, 3, none⟩ = some (.int .u8 b3) := BW8_1.cell 3 rfl
  have cW8_1_4 : W8.cell? ⟨w.heap.size + 1, 4, none⟩ = some (.int .u8 b4) := BW8_1.cell 4 rfl
  have cW8_1_5 : W8.cell? ⟨w.heap.size + 1, 5, none⟩ = some (.int .u8 b5) := BW8_1.cell 5 rfl
  have cW8_1_6 : W8.cell? ⟨w.heap.size + 1, 6, none⟩ = some (.int .u8 b6) := BW8_1.cell 6 rfl
  have cW8_1_7 : W8.cell? ⟨w.heap.size + 1, 7, none⟩ = some (.int .u8 b7) := BW8_1.cell 7 rfl
  have cW8_1_8 : W8.cell? ⟨w.heap.size + 1, 8, none⟩ = some (.int .u8 b8) := BW8_1.cell 8 rfl
  have cW8_1_9 : W8.cell? ⟨w.heap.size + 1, 9, none⟩ = some (.int .u8 b9) := BW8_1.cell 9 rfl
  have cW8_1_10 : W8.cell? ⟨w.heap.size + 1, 10, none⟩ = some (.int .u8 b10) := BW8_1.cell 10 rfl
  have cW8_1_11 : W8.cell? ⟨w.heap.size + 1, 11, none⟩ = some (.int .u8 b11) := BW8_1.cell 11 rfl
  have cW8_1_12 : W8.cell? ⟨w.heap.size + 1, 12, none⟩ = some (.int .u8 b12) := BW8_1.cell 12 rfl
  have cW8_1_13 : W8.cell? ⟨w.heap.size + 1, 13, none⟩ = some (.int .u8 b13) := BW8_1.cell 13 rfl
  have cW8_1_14 : W8.cell? ⟨w.heap.size + 1, 14, none⟩ = some (.int .u8 b14) := BW8_1.cell 14 rfl
  have cW8_1_15 : W8.cell? ⟨w.heap.size + 1, 15, none⟩ = some (.int .u8 b15) := BW8_1.cell 15 rfl
  have fW8_1 := BW8_1.free
  have cW8_2_0 : W8.cell? ⟨g5, 0, none⟩ = some (.int .u8 x0) := BW8_2.cell 0 rfl
  have cW8_2_1 : W8.cell? ⟨g5, 1, none⟩ = some (.int .u8 x1) := BW8_2.cell 1 rfl
  have cW8_2_2 : W8.cell? ⟨g5, 2, none⟩ = some (.int .u8 x2) := BW8_2.cell 2 rfl
  have cW8_2_3 : W8.cell? ⟨g5, 3, none⟩ = some (.int .u8 x3) := BW8_2.cell 3 rfl
  have cW8_2_4 : W8.cell? ⟨g5, 4, none⟩ = some (.int .u8 x4) := BW8_2.cell 4 rfl
  have cW8_2_5 : W8.cell? ⟨g5, 5, none⟩ = some (.int .u8 x5) := BW8_2.cell 5 rfl
  have cW8_2_6 : W8.cell? ⟨g5, 6, none⟩ = some (.int .u8 x6) := BW8_2.cell 6 rfl
  have cW8_2_7 : W8.cell? ⟨g5, 7, none⟩ = some (.int .u8 x7) := BW8_2.cell 7 rfl
  have cW8_2_8 : W8.cell? ⟨g5, 8, none⟩ = some (.int .u8 x8) := BW8_2.cell 8 rfl
  have cW8_2_9 : W8.cell? ⟨g5, 9, none⟩ = some (.int .u8 x9) := BW8_2.cell 9 rfl
  have cW8_2_10 : W8.cell? ⟨g5, 10, none⟩ = some (.int .u8 x10) := BW8_2.cell 10 rfl
  have cW8_2_11 : W8.cell? ⟨g5, 11, none⟩ = some (.int .u8 x11) := BW8_2.cell 11 rfl
  have cW8_2_12 : W8.cell? ⟨g5, 12, none⟩ = some (.int .u8 x12) := BW8_2.cell 12 rfl
  have cW8_2_13 : W8.cell? ⟨g5, 13, none⟩ = some (.int .u8 x13) := BW8_2.cell 13 rfl
  have cW8_2_14 : W8.cell? ⟨g5, 14, none⟩ = some (.int .u8 x14) := BW8_2.cell 14 rfl
  have cW8_2_15 : W8.cell? ⟨g5, 15, none⟩ = some (.int .u8 x15) := BW8_2.cell 15 rfl
  have fW8_2 := BW8_2.free
  have cW8_3_0 : W8.cell? ⟨g6, 0, none⟩ = some (.int .u64 n0) := BW8_3.cell 0 rfl
  have cW8_3_1 : W8.cell? ⟨g6, 1, none⟩ = some (.int .u64 n1) := BW8_3.cell 1 rfl
  have fW8_3 := BW8_3.free
  have cW8_4_0 : W8.cell? ⟨g8, 0, none⟩ = some (.int .u64 n0) := BW8_4.cell 0 rfl
  have cW8_4_1 : W8.cell? ⟨g8, 1, none⟩ = some (.int .u64 n1) := BW8_4.cell 1 rfl
  have fW8_4 := BW8_4.free
  go_wp2_with fail
  refine (HV.out _).mono ?_
  rintro e W9 ⟨rfl, hkW9⟩
  have kW9 := kW8.trans hkW9
  have BW9_0 := BW8_0.kept hkW9
  have BW9_1 := BW8_1.kept hkW9
  have BW9_2 := BW8_2.kept hkW9
  have BW9_3 := BW8_3.kept hkW9
  have BW9_4 := BW8_4.kept hkW9
  clear cW8_0_0 cW8_0_1 cW8_1_0 cW8_1_1 cW8_1_2 cW8_1_3 cW8_1_4 cW8_1_5 cW8_1_6 cW8_1_7 cW8_1_8 cW8_1_9 cW8_1_10 cW8_1_11 cW8_1_12 cW8_1_13 cW8_1_14 cW8_1_15 cW8_2_0 cW8_2_1 cW8_2_2 cW8_2_3 cW8_2_4 cW8_2_5 cW8_2_6 cW8_2_7 cW8_2_8 cW8_2_9 cW8_2_10 cW8_2_11 cW8_2_12 cW8_2_13 cW8_2_14 cW8_2_15 cW8_3_0 cW8_3_1 cW8_4_0 cW8_4_1 fW8_0 fW8_1 fW8_2 fW8_3 fW8_4 BW8_0 BW8_1 BW8_2 BW8_3 BW8_4 kW8 hkW9
  have cW9_0_0 : W9.cell? ⟨w.heap.size, 0, none⟩ = some (.int .u64 a0) := BW9_0.cell 0 rfl
  have cW9_0_1 : W9.cell? ⟨w.heap.size, 1, none⟩ = some (.int .u64 a1) := BW9_0.cell 1 rfl
  have fW9_0 := BW9_0.free
  have cW9_1_0 : W9.cell? ⟨w.heap.size + 1, 0, none⟩ = some (.int .u8 b0) := BW9_1.cell 0 rfl
  have cW9_1_1 : W9.cell? ⟨w.heap.size + 1, 1, none⟩ = some (.int .u8 b1) := BW9_1.cell 1 rfl
  have cW9_1_2 : W9.cell? ⟨w.heap.size + 1, 2, none⟩ = some (.int .u8 b2) := BW9_1.cell 2 rfl
  have cW9_1_3 : W9.cell? ⟨w.heap.size + 1, 3, none⟩ = some (.int .u8 b3) := BW9_1.cell 3 rfl
  have cW9_1_4 : W9.cell? ⟨w.heap.size + 1, 4, none⟩ = some (.int .u8 b4) := BW9_1.cell 4 rfl
  have cW9_1_5 : W9.cell? ⟨w.heap.size + 1, 5, none⟩ = some (.int .u8 b5) := BW9_1.cell 5 rfl
  have cW9_1_6 : W9.cell? ⟨w.heap.size + 1, 6, none⟩ = some (.int .u8 b6) := BW9_1.cell 6 rfl
  have cW9_1_7 : W9.cell? ⟨w.heap.size + 1, 7, none⟩ = some (.int .u8 b7) := BW9_1.cell 7 rfl
  have cW9_1_8 : W9.cell? ⟨w.heap.size + 1, 8, none⟩ = some (.int .u8 b8) := BW9_1.cell 8 rfl
  have cW9_1_9 : W9.cell? ⟨w.heap.size + 1, 9, none⟩ = some (.int .u8 b9) := BW9_1.cell 9 rfl
  have cW9_1_10 : W9.cell? ⟨w.heap.size + 1, 10, none⟩ = some (.int .u8 b10) := BW9_1.cell 10 rfl
  have cW9_1_11 : W9.cell? ⟨w.heap.size + 1, 11, none⟩ = some (.int .u8 b11) := BW9_1.cell 11 rfl
  have cW9_1_12 : W9.cell? ⟨w.heap.size + 1, 12, none⟩ = some (.int .u8 b12) := BW9_1.cell 12 rfl
  have cW9_1_13 : W9.cell? ⟨w.heap.size + 1, 13, none⟩ = some (.int .u8 b13) := BW9_1.cell 13 rfl
  have cW9_1_14 : W9.cell? ⟨w.heap.size + 1, 14, none⟩ = some (.int .u8 b14) := BW9_1.cell 14 rfl
  have cW9_1_15 : W9.cell? ⟨w.heap.size + 1, 15, none⟩ = some (.int .u8 b15) := BW9_1.cell 15 rfl
  have fW9_1 := BW9_1.free
  have cW9_2_0 : W9.cell? ⟨g5, 0, none⟩ = some (.int .u8 x0) := BW9_2.cell 0 rfl
  have cW9_2_1 : W9.cell? ⟨g5, 1, none⟩ = some (.int .u8 x1) := BW9_2.cell 1 rfl
  have cW9_2_2 : W9.cell? ⟨g5, 2, none⟩ = some (.int .u8 x2) := BW9_2.cell 2 rfl
  have cW9_2_3 : W9.cell? ⟨g5, 3, none⟩ = some (.int .u8 x3) := BW9_2.cell 3 rfl
  have cW9_2_4 : W9.cell? ⟨g5, 4, none⟩ = some (.int .u8 x4) := BW9_2.cell 4 rfl
  have cW9_2_5 : W9.cell? ⟨g5, 5, none⟩ = some (.int .u8 x5) := BW9_2.cell 5 rfl
  have cW9_2_6 : W9.cell? ⟨g5, 6, none⟩ = some (.int .u8 x6) := BW9_2.cell 6 rfl
  have cW9_2_7 : W9.cell? ⟨g5, 7, none⟩ = some (.int .u8 x7) := BW9_2.cell 7 rfl
  have cW9_2_8 : W9.cell? ⟨g5, 8, none⟩ = some (.int .u8 x8) := BW9_2.cell 8 rfl
  have cW9_2_9 : W9.cell? ⟨g5, 9, none⟩ = some (.int .u8 x9) := BW9_2.cell 9 rfl
  have cW9_2_10 : W9.cell? ⟨g5, 10, none⟩ = some (.int .u8 x10) := BW9_2.cell 10 rfl
  have cW9_2_11 : W9.cell? ⟨g5, 11, none⟩ = some (.int .u8 x11) := BW9_2.cell 11 rfl
  have cW9_2_12 : W9.cell? ⟨g5, 12, none⟩ = some (.int .u8 x12) := BW9_2.cell 12 rfl
  have cW9_2_13 : W9.cell? ⟨g5, 13, none⟩ = some (.int .u8 x13) := BW9_2.cell 13 rfl
  have cW9_2_14 : W9.cell? ⟨g5, 14, none⟩ = some (.int .u8 x14) := BW9_2.cell 14 rfl
  have cW9_2_15 : W9.cell? ⟨g5, 15, none⟩ = some (.int .u8 x15) := BW9_2.cell 15 rfl
  have fW9_2 := BW9_2.free
  have cW9_3_0 : W9.cell? ⟨g6, 0, none⟩ = some (.int .u64 n0) := BW9_3.cell 0 rfl
  have cW9_3_1 : W9.cell? ⟨g6, 1, none⟩ = some (.int .u64 n1) := BW9_3.cell 1 rfl
  have fW9_3 := BW9_3.free
  have cW9_4_0 : W9.cell? ⟨g8, 0, none⟩ = some (.int .u64 n0) := BW9_4.cell 0 rfl
  have cW9_4_1 : W9.cell? ⟨g8, 1, none⟩ = some (.int .u64 n1) := BW9_4.cell 1 rfl
  have fW9_4 := BW9_4.free
  obtain ⟨g10, hg10⟩ : ∃ b, W9.heap.size = b := ⟨_, rfl⟩
  have neg10_0 : w.heap.size ≠ g10 := by have := BW9_0.lt; omega
  have eng10_0 : g10 ≠ w.heap.size := neg10_0.symm
  have neg10_1 : w.heap.size + 1 ≠ g10 := by have := BW9_1.lt; omega
  have eng10_1 : g10 ≠ w.heap.size + 1 := neg10_1.symm
  have neg10_2 : g5 ≠ g10 := by have := BW9_2.lt; omega
  have eng10_2 : g10 ≠ g5 := neg10_2.symm
  have neg10_3 : g6 ≠ g10 := by have := BW9_3.lt; omega
  have eng10_3 : g10 ≠ g6 := neg10_3.symm
  have neg10_4 : g8 ≠ g10 := by have := BW9_4.lt; omega
  have eng10_4 : g10 ≠ g8 := neg10_4.symm
  have log10 : w.heap.size ≤ g10 := hg10 ▸ kW9.size
  go_upto_region 7 with (fail)
  refine abs_world (fun W => Kept w W ∧ Blk W (w.heap.size) 28 #[.int .u64 a0, .int .u64 a1] ∧ Blk W (w.heap.size + 1) 54 #[.int .u8 b0, .int .u8 b1, .int .u8 b2, .int .u8 b3, .int .u8 b4, .int .u8 b5, .int .u8 b6, .int .u8 b7, .int .u8 b8, .int .u8 b9, .int .u8 b10, .int .u8 b11, .int .u8 b12, .int .u8 b13, .int .u8 b14, .int .u8 b15] ∧ Blk W (g5) 54 #[.int .u8 x0, .int .u8 x1, .int .u8 x2, .int .u8 x3, .int .u8 x4, .int .u8 x5, .int .u8 x6, .int .u8 x7, .int .u8 x8, .int .u8 x9, .int .u8 x10, .int .u8 x11, .int .u8 x12, .int .u8 x13, .int .u8 x14, .int .u8 x15] ∧ Blk W (g6) 28 #[.int .u64 n0, .int .u64 n1] ∧ Blk W (g8) 28 #[.int .u64 n0, .int .u64 n1] ∧ Blk W (g10) 28 #[.int .u64 y0, .int .u64 y1]) ?_ ?_
  · refine ⟨?_, ?_, ?_, ?_, ?_, ?_, ?_⟩
    · repeat (first | exact kW9 | (refine Kept.setCell ?_ (kept_side (by first | assumption | omega)) _) | apply Kept.alloc | apply Kept.drew)
    · simp [Blk, *] <;> (intros; omega)
    · simp [Blk, *] <;> (intros; omega)
    · simp [Blk, *] <;> (intros; omega)
    · simp [Blk, *] <;> (intros; omega)
    · simp [Blk, *] <;> (intros; omega)
    · simp [Blk, *] <;> (intros; omega)
  rintro W10 ⟨kW10, BW10_0, BW10_1, BW10_2, BW10_3, BW10_4, BW10_5⟩
  have cW10_0_0 : W10.cell? ⟨w.heap.size, 0, none⟩ = some (.int .u64 a0) := BW10_0.cell 0 rfl
  have cW10_0_1 : W10.cell? ⟨w.heap.size, 1, none⟩ = some (.int .u64 a1) := BW10_0.cell 1 rfl
  have fW10_0 := BW10_0.free
  have cW10_1_0 : W10.cell? ⟨w.heap.size + 1, 0, none⟩ = some (.int .u8 b0) := BW10_1.cell 0 rfl
  have cW10_1_1 : W10.cell? ⟨w.heap.size + 1, 1, none⟩ = some (.int .u8 b1) := BW10_1.cell 1 rfl
  have cW10_1_2 : W10.cell? ⟨w.heap.size + 1, 2, none⟩ = some (.int .u8 b2) := BW10_1.cell 2 rfl
  have cW10_1_3 : W10.cell? ⟨w.heap.size + 1, 3, none⟩ = some (.int .u8 b3) := BW10_1.cell 3 rfl
  have cW10_1_4 : W10.cell? ⟨w.heap.size + 1, 4, none⟩ = some (.int .u8 b4) := BW10_1.cell 4 rfl
  have cW10_1_5 : W10.cell? ⟨w.heap.size + 1, 5, none⟩ = some (.int .u8 b5) := BW10_1.cell 5 rfl
  have cW10_1_6 : W10.cell? ⟨w.heap.size + 1, 6, none⟩ = some (.int .u8 b6) := BW10_1.cell 6 rfl
  have cW10_1_7 : W10.cell? ⟨w.heap.size + 1, 7, none⟩ = some (.int .u8 b7) := BW10_1.cell 7 rfl
  have cW10_1_8 : W10.cell? ⟨w.heap.size + 1, 8, none⟩ = some (.int .u8 b8) := BW10_1.cell 8 rfl
  have cW10_1_9 : W10.cell? ⟨w.heap.size + 1, 9, none⟩ = some (.int .u8 b9) := BW10_1.cell 9 rfl
  have cW10_1_10 : W10.cell? ⟨w.heap.size + 1, 10, none⟩ = some (.int .u8 b10) := BW10_1.cell 10 rfl
  have cW10_1_11 : W10.cell? ⟨w.heap.size + 1, 11, none⟩ = some (.int .u8 b11) := BW10_1.cell 11 rfl
  have cW10_1_12 : W10.cell? ⟨w.heap.size + 1, 12, none⟩ = some (.int .u8 b12) := BW10_1.cell 12 rfl
  have cW10_1_13 : W10.cell? ⟨w.heap.size + 1, 13, none⟩ = some (.int .u8 b13) := BW10_1.cell 13 rfl
  have cW10_1_14 : W10.cell? ⟨w.heap.size + 1, 14, none⟩ = some (.int .u8 b14) := BW10_1.cell 14 rfl
  have cW10_1_15 : W10.cell? ⟨w.heap.size + 1, 15, none⟩ = some (.int .u8 b15) := BW10_1.cell 15 rfl
  have fW10_1 := BW10_1.free
  have cW10_2_0 : W10.cell? ⟨g5, 0, none⟩ = some (.int .u8 x0) := BW10_2.cell 0 rfl
  have cW10_2_1 : W10.cell? ⟨g5, 1, none⟩ = some (.int .u8 x1) := BW10_2.cell 1 rfl
  have cW10_2_2 : W10.cell? ⟨g5, 2, none⟩ = some (.int .u8 x2) := BW10_2.cell 2 rfl
  have cW10_2_3 : W10.cell? ⟨g5, 3, none⟩ = some (.int .u8 x3) := BW10_2.cell 3 rfl
  have cW10_2_4 : W10.cell? ⟨g5, 4, none⟩ = some (.int .u8 x4) := BW10_2.cell 4 rfl
  have cW10_2_5 : W10.cell? ⟨g5, 5, none⟩ = some (.int .u8 x5) := BW10_2.cell 5 rfl
  have cW10_2_6 : W10.cell? ⟨g5, 6, none⟩ = some (.int .u8 x6) := BW10_2.cell 6 rfl
  have cW10_2_7 : W10.cell? ⟨g5, 7, none⟩ = some (.int .u8 x7) := BW10_2.cell 7 rfl
  have cW10_2_8 : W10.cell? ⟨g5, 8, none⟩ = some (.int .u8 x8) := BW10_2.cell 8 rfl
  have cW10_2_9 : W10.cell? ⟨g5, 9, none⟩ = some (.int .u8 x9) := BW10_2.cell 9 rfl
  have cW10_2_10 : W10.cell? ⟨g5, 10, none⟩ = some (.int .u8 x10) := BW10_2.cell 10 rfl
  have cW10_2_11 : W10.cell? ⟨g5, 11, none⟩ = some (.int .u8 x11) := BW10_2.cell 11 rfl
  have cW10_2_12 : W10.cell? ⟨g5, 12, none⟩ = some (.int .u8 x12) := BW10_2.cell 12 rfl
  have cW10_2_13 : W10.cell? ⟨g5, 13, none⟩ = some (.int .u8 x13) := BW10_2.cell 13 rfl
  have cW10_2_14 : W10.cell? ⟨g5, 14, none⟩ = some (.int .u8 x14) := BW10_2.cell 14 rfl
  have cW10_2_15 : W10.cell? ⟨g5, 15, none⟩ = some (.int .u8 x15) := BW10_2.cell 15 rfl
  have fW10_2 := BW10_2.free
  have cW10_3_0 : W10.cell? ⟨g6, 0, none⟩ = some (.int .u64 n0) := BW10_3.cell 0 rfl
  have cW10_3_1 : W10.cell? ⟨g6, 1, none⟩ = some (.int .u64 n1) := BW10_3.cell 1 rfl
  have fW10_3 := BW10_3.free
  have cW10_4_0 : W10.cell? ⟨g8, 0, none⟩ = some (.int .u64 n0) := BW10_4.cell 0 rfl
  have cW10_4_1 : W10.cell? ⟨g8, 1, none⟩ = some (.int .u64 n1) := BW10_4.cell 1 rfl
  have fW10_4 := BW10_4.free
  have cW10_5_0 : W10.cell? ⟨g10, 0, none⟩ = some (.int .u64 y0) := BW10_5.cell 0 rfl
  have cW10_5_1 : W10.cell? ⟨g10, 1, none⟩ = some (.int .u64 y1) := BW10_5.cell 1 rfl
  have fW10_5 := BW10_5.free
  refine wp_region_marks (fun _ => mn) 39 (by kernel_rfl) (by kernel_rfl) rfl ?_
  simp only [List.take_succ_cons, List.take_zero, List.drop_succ_cons, List.drop_zero]
  repeat (first
    | (refine marks_skip rfl ?_; simp only [Act.put, List.setIfInBounds_toArray, List.set_cons_zero, List.set_cons_succ])
    | (refine marks_ex rfl rfl (by kernel_rfl) ?_; apply Exists.intro; refine And.intro (fun w' hk => ?_) (And.intro ?_ ?_); (focus (have q0 := hk.cell cW10_0_0; have q1 := hk.cell cW10_0_1; have q2 := hk.cell cW10_1_0; have q3 := hk.cell cW10_1_1; have q4 := hk.cell cW10_1_2; have q5 := hk.cell cW10_1_3; have q6 := hk.cell cW10_1_4; have q7 := hk.cell cW10_1_5; have q8 := hk.cell cW10_1_6; have q9 := hk.cell cW10_1_7; have q10 := hk.cell cW10_1_8; have q11 := hk.cell cW10_1_9; have q12 := hk.cell cW10_1_10; have q13 := hk.cell cW10_1_11; have q14 := hk.cell cW10_1_12; have q15 := hk.cell cW10_1_13; have q16 := hk.cell cW10_1_14; have q17 := hk.cell cW10_1_15; have q18 := hk.cell cW10_2_0; have q19 := hk.cell cW10_2_1; have q20 := hk.cell cW10_2_2; have q21 := hk.cell cW10_2_3; have q22 := hk.cell cW10_2_4; have q23 := hk.cell cW10_2_5; have q24 := hk.cell cW10_2_6; have q25 := hk.cell cW10_2_7; have q26 := hk.cell cW10_2_8; have q27 := hk.cell cW10_2_9; have q28 := hk.cell cW10_2_10; have q29 := hk.cell cW10_2_11; have q30 := hk.cell cW10_2_12; have q31 := hk.cell cW10_2_13; have q32 := hk.cell cW10_2_14; have q33 := hk.cell cW10_2_15; have q34 := hk.cell cW10_3_0; have q35 := hk.cell cW10_3_1; have q36 := hk.cell cW10_4_0; have q37 := hk.cell cW10_4_1; have q38 := hk.cell cW10_5_0; have q39 := hk.cell cW10_5_1; have qcv := HC.out w' _ (BW10_2.kept hk); clear hk; go_simp; exact rfl)); (focus (exact rfl)); simp only [Act.put, List.setIfInBounds_toArray, List.set_cons_zero, List.set_cons_succ])
    | (refine marks_call rfl rfl (by kernel_rfl) rfl HP.out ?_ ?_; (focus (intro w'; go_simp; done)); simp only [Act.put, List.setIfInBounds_toArray, List.set_cons_zero, List.set_cons_succ])
    | (refine marks_call rfl rfl (by kernel_rfl) rfl HQ.out ?_ ?_; (focus (intro w'; go_simp; done)); simp only [Act.put, List.setIfInBounds_toArray, List.set_cons_zero, List.set_cons_succ])
    | (refine marks_call rfl rfl (by kernel_rfl) rfl HO.out ?_ ?_; (focus (intro w'; go_simp; done)); simp only [Act.put, List.setIfInBounds_toArray, List.set_cons_zero, List.set_cons_succ])
    | (refine marks_make 0 rfl rfl (by kernel_rfl) HM.out (fun v w' h => h) ?_ ?_; (focus (intro w'; go_simp; done)); simp only [Act.put, List.setIfInBounds_toArray, List.set_cons_zero, List.set_cons_succ])
    | (refine marks_step (.string S) rfl (calmM_conv rfl rfl _ rfl HD.out) ?_; simp only [Act.put, List.setIfInBounds_toArray, List.set_cons_zero, List.set_cons_succ]))
  refine marks_nil ?_
  intro a'' W11 hkW11 hra
  obtain ⟨m38, hm38, rfl⟩ := hra.mark1 38 0 rfl rfl
  simp only [Act.put, List.setIfInBounds_toArray, List.set_cons_zero, List.set_cons_succ]
  clear hra
  have kW11 := kW10.trans hkW11
  have BW11_0 := BW10_0.kept hkW11
  have BW11_1 := BW10_1.kept hkW11
  have BW11_2 := BW10_2.kept hkW11
  have BW11_3 := BW10_3.kept hkW11
  have BW11_4 := BW10_4.kept hkW11
  have BW11_5 := BW10_5.kept hkW11
  clear cW10_0_0 cW10_0_1 cW10_1_0 cW10_1_1 cW10_1_2 cW10_1_3 cW10_1_4 cW10_1_5 cW10_1_6 cW10_1_7 cW10_1_8 cW10_1_9 cW10_1_10 cW10_1_11 cW10_1_12 cW10_1_13 cW10_1_14 cW10_1_15 cW10_2_0 cW10_2_1 cW10_2_2 cW10_2_3 cW10_2_4 cW10_2_5 cW10_2_6 cW10_2_7 cW10_2_8 cW10_2_9 cW10_2_10 cW10_2_11 cW10_2_12 cW10_2_13 cW10_2_14 cW10_2_15 cW10_3_0 cW10_3_1 cW10_4_0 cW10_4_1 cW10_5_0 cW10_5_1 fW10_0 fW10_1 fW10_2 fW10_3 fW10_4 fW10_5 BW10_0 BW10_1 BW10_2 BW10_3 BW10_4 BW10_5 kW10 hkW11
  have cW11_0_0 : W11.cell? ⟨w.heap.size, 0, none⟩ = some (.int .u64 a0) := BW11_0.cell 0 rfl
  have cW11_0_1 : W11.cell? ⟨w.heap.size, 1, none⟩ = some (.int .u64 a1) := BW11_0.cell 1 rfl
  have fW11_0 := BW11_0.free
  have cW11_1_0 : W11.cell? ⟨w.heap.size + 1, 0, none⟩ = some (.int .u8 b0) := BW11_1.cell 0 rfl
  have cW11_1_1 : W11.cell? ⟨w.heap.size + 1, 1, none⟩ = some (.int .u8 b1) := BW11_1.cell 1 rfl
  have cW11_1_2 : W11.cell? ⟨w.heap.size + 1, 2, none⟩ = some (.int .u8 b2) := BW11_1.cell 2 rfl
  have cW11_1_3 : W11.cell? ⟨w.heap.size + 1, 3, none⟩ = some (.int .u8 b3) := BW11_1.cell 3 rfl
  have cW11_1_4 : W11.cell? ⟨w.heap.size + 1, 4, none⟩ = some (.int .u8 b4) := BW11_1.cell 4 rfl
  have cW11_1_5 : W11.cell? ⟨w.heap.size + 1, 5, none⟩ = some (.int .u8 b5) := BW11_1.cell 5 rfl
  have cW11_1_6 : W11.cell? ⟨w.heap.size + 1, 6, none⟩ = some (.int .u8 b6) := BW11_1.cell 6 rfl
  have cW11_1_7 : W11.cell? ⟨w.heap.size + 1, 7, none⟩ = some (.int .u8 b7) := BW11_1.cell 7 rfl
  have cW11_1_8 : W11.cell? ⟨w.heap.size + 1, 8, none⟩ = some (.int .u8 b8) := BW11_1.cell 8 rfl
  have cW11_1_9 : W11.cell? ⟨w.heap.size + 1, 9, none⟩ = some (.int .u8 b9) := BW11_1.cell 9 rfl
  have cW11_1_10 : W11.cell? ⟨w.heap.size + 1, 10, none⟩ = some (.int .u8 b10) := BW11_1.cell 10 rfl
  have cW11_1_11 : W11.cell? ⟨w.heap.size + 1, 11, none⟩ = some (.int .u8 b11) := BW11_1.cell 11 rfl
  have cW11_1_12 : W11.cell? ⟨w.heap.size + 1, 12, none⟩ = some (.int .u8 b12) := BW11_1.cell 12 rfl
  have cW11_1_13 : W11.cell? ⟨w.heap.size + 1, 13, none⟩ = some (.int .u8 b13) := BW11_1.cell 13 rfl
  have cW11_1_14 : W11.cell? ⟨w.heap.size + 1, 14, none⟩ = some (.int .u8 b14) := BW11_1.cell 14 rfl
  have cW11_1_15 : W11.cell? ⟨w.heap.size + 1, 15, none⟩ = some (.int .u8 b15) := BW11_1.cell 15 rfl
  have fW11_1 := BW11_1.free
  have cW11_2_0 : W11.cell? ⟨g5, 0, none⟩ = some (.int .u8 x0) := BW11_2.cell 0 rfl
  have cW11_2_1 : W11.cell? ⟨g5, 1, none⟩ = some (.int .u8 x1) := BW11_2.cell 1 rfl
  have cW11_2_2 : W11.cell? ⟨g5, 2, none⟩ = some (.int .u8 x2) := BW11_2.cell 2 rfl
  have cW11_2_3 : W11.cell? ⟨g5, 3, none⟩ = some (.int .u8 x3) := BW11_2.cell 3 rfl
  have cW11_2_4 : W11.cell? ⟨g5, 4, none⟩ = some (.int .u8 x4) := BW11_2.cell 4 rfl
  have cW11_2_5 : W11.cell? ⟨g5, 5, none⟩ = some (.int .u8 x5) := BW11_2.cell 5 rfl
  have cW11_2_6 : W11.cell? ⟨g5, 6, none⟩ = some (.int .u8 x6) := BW11_2.cell 6 rfl
  have cW11_2_7 : W11.cell? ⟨g5, 7, none⟩ = some (.int .u8 x7) := BW11_2.cell 7 rfl
  have cW11_2_8 : W11.cell? ⟨g5, 8, none⟩ = some (.int .u8 x8) := BW11_2.cell 8 rfl
  have cW11_2_9 : W11.cell? ⟨g5, 9, none⟩ = some (.int .u8 x9) := BW11_2.cell 9 rfl
  have cW11_2_10 : W11.cell? ⟨g5, 10, none⟩ = some (.int .u8 x10) := BW11_2.cell 10 rfl
  have cW11_2_11 : W11.cell? ⟨g5, 11, none⟩ = some (.int .u8 x11) := BW11_2.cell 11 rfl
  have cW11_2_12 : W11.cell? ⟨g5, 12, none⟩ = some (.int .u8 x12) := BW11_2.cell 12 rfl
  have cW11_2_13 : W11.cell? ⟨g5, 13, none⟩ = some (.int .u8 x13) := BW11_2.cell 13 rfl
  have cW11_2_14 : W11.cell? ⟨g5, 14, none⟩ = some (.int .u8 x14) := BW11_2.cell 14 rfl
  have cW11_2_15 : W11.cell? ⟨g5, 15, none⟩ = some (.int .u8 x15) := BW11_2.cell 15 rfl
  have fW11_2 := BW11_2.free
  have cW11_3_0 : W11.cell? ⟨g6, 0, none⟩ = some (.int .u64 n0) := BW11_3.cell 0 rfl
  have cW11_3_1 : W11.cell? ⟨g6, 1, none⟩ = some (.int .u64 n1) := BW11_3.cell 1 rfl
  have fW11_3 := BW11_3.free
  have cW11_4_0 : W11.cell? ⟨g8, 0, none⟩ = some (.int .u64 n0) := BW11_4.cell 0 rfl
  have cW11_4_1 : W11.cell? ⟨g8, 1, none⟩ = some (.int .u64 n1) := BW11_4.cell 1 rfl
  have fW11_4 := BW11_4.free
  have cW11_5_0 : W11.cell? ⟨g10, 0, none⟩ = some (.int .u64 y0) := BW11_5.cell 0 rfl
  have cW11_5_1 : W11.cell? ⟨g10, 1, none⟩ = some (.int .u64 y1) := BW11_5.cell 1 rfl
  have fW11_5 := BW11_5.free
  go_wp2_with fail
  go_ret
  exact ⟨rfl, kW11⟩


theorem E_split (n : Int) : E n = .agg #[.int .u64 (n % 18446744073709551616), .int .u64 (n / 18446744073709551616)] := rfl

theorem wide_bytes_law (a : List Int) (la : a.length = 2) (wa : ∀ z ∈ a, (Lit.int .u64 z).wf = true) (b : List Int) (lb : b.length = 16) (wb : ∀ z ∈ b, (Lit.int .u8 z).wf = true) (w : World) :
    Calls Try.prog 11 #[.agg (a.map (Value.int .u64)).toArray, .agg (b.map (Value.int .u8)).toArray] w fun e w' => e = .returned (.bool true) ∧ Kept w w' := by
  obtain ⟨a0, a1, rfl⟩ := arr2 la
  have h0 := is64_mk (wa a0 (by simp))
  have h1 := is64_mk (wa a1 (by simp))
  obtain ⟨hn, hE⟩ := E_of h0 h1
  have hb : ∀ z ∈ b, isByte z := fun z hz => by
    have := wb z hz
    simp [Lit.wf, IntKind.min, IntKind.max, IntKind.signed, IntKind.bits] at this
    unfold isByte; omega
  generalize a0 + a1 * 18446744073709551616 = n at hn hE
  have hx := is128_emod_w n
  have hxl : n % wP < wP := Int.emod_lt_of_pos _ (by unfold wP; omega)
  have hB := w_Bytes hn
  have hV := w_Take (length_leBytes 16 (n % wP)) (isByte_leBytes 16 (n % wP))
  rw [leVal_leBytes 16 _ hx.1 (by unfold is128 at hx; omega), if_pos hxl] at hV
  have hM : Makes Try.prog 45 #[.int .i64 2, E n] (fun v w' => Reads w' v (bytesV (leBytes 16 (n % wP)))) := fun w => by
    have := ref_Bytes (.inr rfl) hn w
    rw [rOf2] at this
    exact this.mono fun e w' ⟨v, h1, h2, h3⟩ => ⟨v, h1, reads_of_own h2, h3⟩
  have hC : ∀ w' b', Blk w' b' 54 (bytesV (leBytes 16 (n % wP))).toArray → (convert 42 9 (.slice (some ⟨b', 0, none⟩) 16 16)).run Try.prog w' = .ok (.string (strOf (leBytes 16 (n % wP)))) w' := fun w' b' h => by
    have := conv_str (cap := 16) Try.underlying42 Try.underlying5 Try.underlying9 w' (isByte_leBytes 16 (n % wP)) (blk_bytes h)
    rw [length_leBytes] at this
    exact this
  have hD : ∀ v w', Reads w' v (bytesV (leBytes 16 (n % wP))) → (convert 42 9 v).run Try.prog w' = .ok (.string (strOf (leBytes 16 (n % wP)))) w' := fun v w' h => conv_reads h (by simp [leBytes]) (isByte_leBytes 16 (n % wP))
  have hT := w_Take lb hb
  have hR : ∀ w' b', Blk w' b' 54 (bytesV b).toArray → Calls Try.prog 44 #[.int .i64 2, .slice (some ⟨b', 0, none⟩) 16 16] w' fun e w'' => e = .returned (.tuple #[if leVal b < wP then E (leVal b) else E 0, .bool (decide (leVal b < wP))]) ∧ Kept w' w'' := fun w' b' h => by
    have := ref_Take (f := 2) (cap := 16) (.inr rfl) (by omega) hb w' h.lt (blk_bytes h)
    rw [lb, rP2] at this
    exact this
  have hO := w_Of hn
  obtain ⟨x0, x1, x2, x3, x4, x5, x6, x7, x8, x9, x10, x11, x12, x13, x14, x15, hX⟩ := list16 (length_leBytes 16 (n % wP))
  rw [hX] at hB hV hM hC hD
  generalize strOf _ = S at hC hD
  show Calls Try.prog 11 #[.agg #[.int .u64 a0, .int .u64 a1], .agg (b.map (Value.int .u8)).toArray] w fun e w' => e = .returned (.bool true) ∧ Kept w w'
  rw [← hE]
  by_cases h : leVal b < wP
  · rw [if_pos h] at hT
    simp only [if_pos h, decide_eq_true h] at hR
    obtain ⟨b0, b1, b2, b3, b4, b5, b6, b7, b8, b9, b10, b11, b12, b13, b14, b15, rfl⟩ := list16 lb
    exact wide_bytes_true _ _ _ _ _ _ _ _ _ _ _ _ _ _ _ _ _ _ _ _ _ _ _ _ _ _ _ _ _ _ _ _ _ _ _ _ _ _ _ _ S wide_Awake hB hT hR hV hM hO w_P ref_P2 hC hD eql28_self w
  · rw [if_neg h] at hT
    simp only [if_neg h, decide_eq_false h] at hR
    obtain ⟨b0, b1, b2, b3, b4, b5, b6, b7, b8, b9, b10, b11, b12, b13, b14, b15, rfl⟩ := list16 lb
    exact wide_bytes_false _ _ _ _ _ _ _ _ _ _ _ _ _ _ _ _ _ _ _ _ _ _ _ _ _ _ _ _ _ _ _ _ _ _ _ _ _ _ _ _ S wide_Awake hB hT hR hV hM hO w_P ref_P2 hC hD eql28_self w
end Go.Proofs.Ytnajihlhcdedgaa
