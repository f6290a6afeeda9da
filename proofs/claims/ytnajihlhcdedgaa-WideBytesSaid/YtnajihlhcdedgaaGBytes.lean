/-
  GoldBytes: for every number and every eight bytes the law returns true.
-/
import Derived.Test.YtnajihlhcdedgaaG8
import Derived.Test.YtnajihlhcdedgaaGSumsLaw
import Derived.Test.YtnajihlhcdedgaaEq
import Derived.Outline
import Derived.Deep.Cut
namespace Go.Proofs.Ytnajihlhcdedgaa
open Go.RowKit
set_option linter.unusedVariables false
set_option linter.unusedSimpArgs false
attribute [local simp] blkAt_setCell blkAt_alloc blkAt_drew Obj.put_cells

set_option maxRecDepth 100000 in
set_option maxHeartbeats 4000000 in
theorem gold_bytes_true (b0 b1 b2 b3 b4 b5 b6 b7 x0 x1 x2 x3 x4 x5 x6 x7 a n y : Int) (S : ByteArray)
    (hK : Pure Try.prog 26 #[] (.bool true))
    (hB : Pure Try.prog 42 #[.int .u64 a] (.agg #[.int .u8 x0, .int .u8 x1, .int .u8 x2, .int .u8 x3, .int .u8 x4, .int .u8 x5, .int .u8 x6, .int .u8 x7]))
    (hT : Pure Try.prog 43 #[.agg #[.int .u8 b0, .int .u8 b1, .int .u8 b2, .int .u8 b3, .int .u8 b4, .int .u8 b5, .int .u8 b6, .int .u8 b7]] (.tuple #[.int .u64 n, .int .i64 0]))
    (HR : Hid (∀ w' b', Blk w' b' 37 #[.int .u8 b0, .int .u8 b1, .int .u8 b2, .int .u8 b3, .int .u8 b4, .int .u8 b5, .int .u8 b6, .int .u8 b7] → Calls Try.prog 44 #[.int .i64 1, .slice (some ⟨b', 0, none⟩) 8 8] w' fun e w'' => e = .returned (.tuple #[.agg #[.int .u64 n, .int .u64 0], .bool true]) ∧ Kept w' w''))
    (hV : Pure Try.prog 43 #[.agg #[.int .u8 x0, .int .u8 x1, .int .u8 x2, .int .u8 x3, .int .u8 x4, .int .u8 x5, .int .u8 x6, .int .u8 x7]] (.tuple #[.int .u64 y, .int .i64 0]))
    (hEa : Pure Try.prog 33 #[.int .u64 a] (.agg #[.int .u64 a, .int .u64 0])) (hEn : Pure Try.prog 33 #[.int .u64 n] (.agg #[.int .u64 n, .int .u64 0]))
    (hM : Makes Try.prog 45 #[.int .i64 1, .agg #[.int .u64 a, .int .u64 0]] (fun v w' => Reads w' v (bytesV [x0, x1, x2, x3, x4, x5, x6, x7])))
    (hO : Pure Try.prog 31 #[.int .u64 a] (.int .u64 y))
    (HC : Hid (∀ w' b', Blk w' b' 37 #[.int .u8 x0, .int .u8 x1, .int .u8 x2, .int .u8 x3, .int .u8 x4, .int .u8 x5, .int .u8 x6, .int .u8 x7] → (convert 42 9 (.slice (some ⟨b', 0, none⟩) 8 8)).run Try.prog w' = .ok (.string S) w'))
    (HD : Hid (∀ v w', Reads w' v (bytesV [x0, x1, x2, x3, x4, x5, x6, x7]) → (convert 42 9 v).run Try.prog w' = .ok (.string S) w'))
    (hs : ∀ s t w, (binOp .eql 28 (.agg #[.int .u64 s, .int .u64 t]) (.agg #[.int .u64 s, .int .u64 t])).run Try.prog w = .ok (.bool true) w)
    (w : World) : Calls Try.prog 6 #[.int .u64 a, .agg #[.int .u8 b0, .int .u8 b1, .int .u8 b2, .int .u8 b3, .int .u8 b4, .int .u8 b5, .int .u8 b6, .int .u8 b7]] w fun e w' => e = .returned (.bool true) ∧ Kept w w' := by
  let mn : Mean := ⟨fun v w' => Reads w' v (bytesV [x0, x1, x2, x3, x4, x5, x6, x7]), fun v w w' h hk => h.kept hk, fun b w h => by rcases h with ⟨h, _⟩ | ⟨_, _, _, h, _⟩ <;> cases h⟩
  have HK := Lib.hid hK
  have HB := Lib.hid hB
  have HT := Lib.hid hT
  have HV := Lib.hid hV
  have HEa := Lib.hid hEa
  have HEn := Lib.hid hEn
  have HM := Lib.hid hM
  have HO := Lib.hid hO
  clear hK hB hT hV hEa hEn hM hO
  go_enter Try.func6, Try.ntmps6
  go_wp2_with fail
  refine abs_calls (fun W => Kept w W ∧ Blk W (w.heap.size) 37 #[.int .u8 b0, .int .u8 b1, .int .u8 b2, .int .u8 b3, .int .u8 b4, .int .u8 b5, .int .u8 b6, .int .u8 b7]) ?_ ?_
  · refine ⟨?_, ?_⟩
    · repeat (first | exact Kept.refl _ | (refine Kept.setCell ?_ (kept_side (by first | assumption | omega)) _) | apply Kept.alloc | apply Kept.drew)
    · simp [Blk, *] <;> (intros; omega)
  rintro W1 ⟨kW1, BW1_0⟩
  have cW1_0_0 : W1.cell? ⟨w.heap.size, 0, none⟩ = some (.int .u8 b0) := BW1_0.cell 0 rfl
  have cW1_0_1 : W1.cell? ⟨w.heap.size, 1, none⟩ = some (.int .u8 b1) := BW1_0.cell 1 rfl
  have cW1_0_2 : W1.cell? ⟨w.heap.size, 2, none⟩ = some (.int .u8 b2) := BW1_0.cell 2 rfl
  have cW1_0_3 : W1.cell? ⟨w.heap.size, 3, none⟩ = some (.int .u8 b3) := BW1_0.cell 3 rfl
  have cW1_0_4 : W1.cell? ⟨w.heap.size, 4, none⟩ = some (.int .u8 b4) := BW1_0.cell 4 rfl
  have cW1_0_5 : W1.cell? ⟨w.heap.size, 5, none⟩ = some (.int .u8 b5) := BW1_0.cell 5 rfl
  have cW1_0_6 : W1.cell? ⟨w.heap.size, 6, none⟩ = some (.int .u8 b6) := BW1_0.cell 6 rfl
  have cW1_0_7 : W1.cell? ⟨w.heap.size, 7, none⟩ = some (.int .u8 b7) := BW1_0.cell 7 rfl
  have fW1_0 := BW1_0.free
  refine (HK.out _).mono ?_
  rintro e W2 ⟨rfl, hkW2⟩
  have kW2 := kW1.trans hkW2
  have BW2_0 := BW1_0.kept hkW2
  clear cW1_0_0 cW1_0_1 cW1_0_2 cW1_0_3 cW1_0_4 cW1_0_5 cW1_0_6 cW1_0_7 fW1_0 BW1_0 kW1 hkW2
  have cW2_0_0 : W2.cell? ⟨w.heap.size, 0, none⟩ = some (.int .u8 b0) := BW2_0.cell 0 rfl
  have cW2_0_1 : W2.cell? ⟨w.heap.size, 1, none⟩ = some (.int .u8 b1) := BW2_0.cell 1 rfl
  have cW2_0_2 : W2.cell? ⟨w.heap.size, 2, none⟩ = some (.int .u8 b2) := BW2_0.cell 2 rfl
  have cW2_0_3 : W2.cell? ⟨w.heap.size, 3, none⟩ = some (.int .u8 b3) := BW2_0.cell 3 rfl
  have cW2_0_4 : W2.cell? ⟨w.heap.size, 4, none⟩ = some (.int .u8 b4) := BW2_0.cell 4 rfl
  have cW2_0_5 : W2.cell? ⟨w.heap.size, 5, none⟩ = some (.int .u8 b5) := BW2_0.cell 5 rfl
  have cW2_0_6 : W2.cell? ⟨w.heap.size, 6, none⟩ = some (.int .u8 b6) := BW2_0.cell 6 rfl
  have cW2_0_7 : W2.cell? ⟨w.heap.size, 7, none⟩ = some (.int .u8 b7) := BW2_0.cell 7 rfl
  have fW2_0 := BW2_0.free
  go_wp2_with fail
  refine (HB.out _).mono ?_
  rintro e W3 ⟨rfl, hkW3⟩
  have kW3 := kW2.trans hkW3
  have BW3_0 := BW2_0.kept hkW3
  clear cW2_0_0 cW2_0_1 cW2_0_2 cW2_0_3 cW2_0_4 cW2_0_5 cW2_0_6 cW2_0_7 fW2_0 BW2_0 kW2 hkW3
  have cW3_0_0 : W3.cell? ⟨w.heap.size, 0, none⟩ = some (.int .u8 b0) := BW3_0.cell 0 rfl
  have cW3_0_1 : W3.cell? ⟨w.heap.size, 1, none⟩ = some (.int .u8 b1) := BW3_0.cell 1 rfl
  have cW3_0_2 : W3.cell? ⟨w.heap.size, 2, none⟩ = some (.int .u8 b2) := BW3_0.cell 2 rfl
  have cW3_0_3 : W3.cell? ⟨w.heap.size, 3, none⟩ = some (.int .u8 b3) := BW3_0.cell 3 rfl
  have cW3_0_4 : W3.cell? ⟨w.heap.size, 4, none⟩ = some (.int .u8 b4) := BW3_0.cell 4 rfl
  have cW3_0_5 : W3.cell? ⟨w.heap.size, 5, none⟩ = some (.int .u8 b5) := BW3_0.cell 5 rfl
  have cW3_0_6 : W3.cell? ⟨w.heap.size, 6, none⟩ = some (.int .u8 b6) := BW3_0.cell 6 rfl
  have cW3_0_7 : W3.cell? ⟨w.heap.size, 7, none⟩ = some (.int .u8 b7) := BW3_0.cell 7 rfl
  have fW3_0 := BW3_0.free
  obtain ⟨g5, hg5⟩ : ∃ b, W3.heap.size = b := ⟨_, rfl⟩
  have neg5_0 : w.heap.size ≠ g5 := by have := BW3_0.lt; omega
  have eng5_0 : g5 ≠ w.heap.size := neg5_0.symm
  have log5 : w.heap.size ≤ g5 := hg5 ▸ kW3.size
  go_upto_region 4 with (fail)
  refine abs_world (fun W => Kept w W ∧ Blk W (w.heap.size) 37 #[.int .u8 b0, .int .u8 b1, .int .u8 b2, .int .u8 b3, .int .u8 b4, .int .u8 b5, .int .u8 b6, .int .u8 b7] ∧ Blk W (g5) 37 #[.int .u8 x0, .int .u8 x1, .int .u8 x2, .int .u8 x3, .int .u8 x4, .int .u8 x5, .int .u8 x6, .int .u8 x7]) ?_ ?_
  · refine ⟨?_, ?_, ?_⟩
    · repeat (first | exact kW3 | (refine Kept.setCell ?_ (kept_side (by first | assumption | omega)) _) | apply Kept.alloc | apply Kept.drew)
    · simp [Blk, *] <;> (intros; omega)
    · simp [Blk, *] <;> (intros; omega)
  rintro W4 ⟨kW4, BW4_0, BW4_1⟩
  have cW4_0_0 : W4.cell? ⟨w.heap.size, 0, none⟩ = some (.int .u8 b0) := BW4_0.cell 0 rfl
  have cW4_0_1 : W4.cell? ⟨w.heap.size, 1, none⟩ = some (.int .u8 b1) := BW4_0.cell 1 rfl
  have cW4_0_2 : W4.cell? ⟨w.heap.size, 2, none⟩ = some (.int .u8 b2) := BW4_0.cell 2 rfl
  have cW4_0_3 : W4.cell? ⟨w.heap.size, 3, none⟩ = some (.int .u8 b3) := BW4_0.cell 3 rfl
  have cW4_0_4 : W4.cell? ⟨w.heap.size, 4, none⟩ = some (.int .u8 b4) := BW4_0.cell 4 rfl
  have cW4_0_5 : W4.cell? ⟨w.heap.size, 5, none⟩ = some (.int .u8 b5) := BW4_0.cell 5 rfl
  have cW4_0_6 : W4.cell? ⟨w.heap.size, 6, none⟩ = some (.int .u8 b6) := BW4_0.cell 6 rfl
  have cW4_0_7 : W4.cell? ⟨w.heap.size, 7, none⟩ = some (.int .u8 b7) := BW4_0.cell 7 rfl
  have fW4_0 := BW4_0.free
  have cW4_1_0 : W4.cell? ⟨g5, 0, none⟩ = some (.int .u8 x0) := BW4_1.cell 0 rfl
  have cW4_1_1 : W4.cell? ⟨g5, 1, none⟩ = some (.int .u8 x1) := BW4_1.cell 1 rfl
  have cW4_1_2 : W4.cell? ⟨g5, 2, none⟩ = some (.int .u8 x2) := BW4_1.cell 2 rfl
  have cW4_1_3 : W4.cell? ⟨g5, 3, none⟩ = some (.int .u8 x3) := BW4_1.cell 3 rfl
  have cW4_1_4 : W4.cell? ⟨g5, 4, none⟩ = some (.int .u8 x4) := BW4_1.cell 4 rfl
  have cW4_1_5 : W4.cell? ⟨g5, 5, none⟩ = some (.int .u8 x5) := BW4_1.cell 5 rfl
  have cW4_1_6 : W4.cell? ⟨g5, 6, none⟩ = some (.int .u8 x6) := BW4_1.cell 6 rfl
  have cW4_1_7 : W4.cell? ⟨g5, 7, none⟩ = some (.int .u8 x7) := BW4_1.cell 7 rfl
  have fW4_1 := BW4_1.free
  go_wp2_with fail
  refine (HT.out _).mono ?_
  rintro e W5 ⟨rfl, hkW5⟩
  have kW5 := kW4.trans hkW5
  have BW5_0 := BW4_0.kept hkW5
  have BW5_1 := BW4_1.kept hkW5
  clear cW4_0_0 cW4_0_1 cW4_0_2 cW4_0_3 cW4_0_4 cW4_0_5 cW4_0_6 cW4_0_7 cW4_1_0 cW4_1_1 cW4_1_2 cW4_1_3 cW4_1_4 cW4_1_5 cW4_1_6 cW4_1_7 fW4_0 fW4_1 BW4_0 BW4_1 kW4 hkW5
  have cW5_0_0 : W5.cell? ⟨w.heap.size, 0, none⟩ = some (.int .u8 b0) := BW5_0.cell 0 rfl
  have cW5_0_1 : W5.cell? ⟨w.heap.size, 1, none⟩ = some (.int .u8 b1) := BW5_0.cell 1 rfl
  have cW5_0_2 : W5.cell? ⟨w.heap.size, 2, none⟩ = some (.int .u8 b2) := BW5_0.cell 2 rfl
  have cW5_0_3 : W5.cell? ⟨w.heap.size, 3, none⟩ = some (.int .u8 b3) := BW5_0.cell 3 rfl
  have cW5_0_4 : W5.cell? ⟨w.heap.size, 4, none⟩ = some (.int .u8 b4) := BW5_0.cell 4 rfl
  have cW5_0_5 : W5.cell? ⟨w.heap.size, 5, none⟩ = some (.int .u8 b5) := BW5_0.cell 5 rfl
  have cW5_0_6 : W5.cell? ⟨w.heap.size, 6, none⟩ = some (.int .u8 b6) := BW5_0.cell 6 rfl
  have cW5_0_7 : W5.cell? ⟨w.heap.size, 7, none⟩ = some (.int .u8 b7) := BW5_0.cell 7 rfl
  have fW5_0 := BW5_0.free
  have cW5_1_0 : W5.cell? ⟨g5, 0, none⟩ = some (.int .u8 x0) := BW5_1.cell 0 rfl
  have cW5_1_1 : W5.cell? ⟨g5, 1, none⟩ = some (.int .u8 x1) := BW5_1.cell 1 rfl
  have cW5_1_2 : W5.cell? ⟨g5, 2, none⟩ = some (.int .u8 x2) := BW5_1.cell 2 rfl
  have cW5_1_3 : W5.cell? ⟨g5, 3, none⟩ = some (.int .u8 x3) := BW5_1.cell 3 rfl
  have cW5_1_4 : W5.cell? ⟨g5, 4, none⟩ = some (.int .u8 x4) := BW5_1.cell 4 rfl
  have cW5_1_5 : W5.cell? ⟨g5, 5, none⟩ = some (.int .u8 x5) := BW5_1.cell 5 rfl
  have cW5_1_6 : W5.cell? ⟨g5, 6, none⟩ = some (.int .u8 x6) := BW5_1.cell 6 rfl
  have cW5_1_7 : W5.cell? ⟨g5, 7, none⟩ = some (.int .u8 x7) := BW5_1.cell 7 rfl
  have fW5_1 := BW5_1.free
  go_wp2_with fail
  refine (HR.out _ _ BW5_0).mono ?_
  rintro e W6 ⟨rfl, hkW6⟩
  have kW6 := kW5.trans hkW6
  have BW6_0 := BW5_0.kept hkW6
  have BW6_1 := BW5_1.kept hkW6
  clear cW5_0_0 cW5_0_1 cW5_0_2 cW5_0_3 cW5_0_4 cW5_0_5 cW5_0_6 cW5_0_7 cW5_1_0 cW5_1_1 cW5_1_2 cW5_1_3 cW5_1_4 cW5_1_5 cW5_1_6 cW5_1_7 fW5_0 fW5_1 BW5_0 BW5_1 kW5 hkW6
  have cW6_0_0 : W6.cell? ⟨w.heap.size, 0, none⟩ = some (.int .u8 b0) := BW6_0.cell 0 rfl
  have cW6_0_1 : W6.cell? ⟨w.heap.size, 1, none⟩ = some (.int .u8 b1) := BW6_0.cell 1 rfl
  have cW6_0_2 : W6.cell? ⟨w.heap.size, 2, none⟩ = some (.int .u8 b2) := BW6_0.cell 2 rfl
  have cW6_0_3 : W6.cell? ⟨w.heap.size, 3, none⟩ = some (.int .u8 b3) := BW6_0.cell 3 rfl
  have cW6_0_4 : W6.cell? ⟨w.heap.size, 4, none⟩ = some (.int .u8 b4) := BW6_0.cell 4 rfl
  have cW6_0_5 : W6.cell? ⟨w.heap.size, 5, none⟩ = some (.int .u8 b5) := BW6_0.cell 5 rfl
  have cW6_0_6 : W6.cell? ⟨w.heap.size, 6, none⟩ = some (.int .u8 b6) := BW6_0.cell 6 rfl
  have cW6_0_7 : W6.cell? ⟨w.heap.size, 7, none⟩ = some (.int .u8 b7) := BW6_0.cell 7 rfl
  have fW6_0 := BW6_0.free
  have cW6_1_0 : W6.cell? ⟨g5, 0, none⟩ = some (.int .u8 x0) := BW6_1.cell 0 rfl
  have cW6_1_1 : W6.cell? ⟨g5, 1, none⟩ = some (.int .u8 x1) := BW6_1.cell 1 rfl
  have cW6_1_2 : W6.cell? ⟨g5, 2, none⟩ = some (.int .u8 x2) := BW6_1.cell 2 rfl
  have cW6_1_3 : W6.cell? ⟨g5, 3, none⟩ = some (.int .u8 x3) := BW6_1.cell 3 rfl
  have cW6_1_4 : W6.cell? ⟨g5, 4, none⟩ = some (.int .u8 x4) := BW6_1.cell 4 rfl
  have cW6_1_5 : W6.cell? ⟨g5, 5, none⟩ = some (.int .u8 x5) := BW6_1.cell 5 rfl
  have cW6_1_6 : W6.cell? ⟨g5, 6, none⟩ = some (.int .u8 x6) := BW6_1.cell 6 rfl
  have cW6_1_7 : W6.cell? ⟨g5, 7, none⟩ = some (.int .u8 x7) := BW6_1.cell 7 rfl
  have fW6_1 := BW6_1.free
  obtain ⟨g8, hg8⟩ : ∃ b, W6.heap.size = b := ⟨_, rfl⟩
  have neg8_0 : w.heap.size ≠ g8 := by have := BW6_0.lt; omega
  have eng8_0 : g8 ≠ w.heap.size := neg8_0.symm
  have neg8_1 : g5 ≠ g8 := by have := BW6_1.lt; omega
  have eng8_1 : g8 ≠ g5 := neg8_1.symm
  have log8 : w.heap.size ≤ g8 := hg8 ▸ kW6.size
  go_upto_region 6 with (fail)
  refine abs_world (fun W => Kept w W ∧ Blk W (w.heap.size) 37 #[.int .u8 b0, .int .u8 b1, .int .u8 b2, .int .u8 b3, .int .u8 b4, .int .u8 b5, .int .u8 b6, .int .u8 b7] ∧ Blk W (g5) 37 #[.int .u8 x0, .int .u8 x1, .int .u8 x2, .int .u8 x3, .int .u8 x4, .int .u8 x5, .int .u8 x6, .int .u8 x7] ∧ Blk W (g8) 28 #[.int .u64 n, .int .u64 0]) ?_ ?_
  · refine ⟨?_, ?_, ?_, ?_⟩
    · repeat (first | exact kW6 | (refine Kept.setCell ?_ (kept_side (by first | assumption | omega)) _) | apply Kept.alloc | apply Kept.drew)
    · simp [Blk, *] <;> (intros; omega)
    · simp [Blk, *] <;> (intros; omega)
    · simp [Blk, *] <;> (intros; omega)
  rintro W7 ⟨kW7, BW7_0, BW7_1, BW7_2⟩
  have cW7_0_0 : W7.cell? ⟨w.heap.size, 0, none⟩ = some (.int .u8 b0) := BW7_0.cell 0 rfl
  have cW7_0_1 : W7.cell? ⟨w.heap.size, 1, none⟩ = some (.int .u8 b1) := BW7_0.cell 1 rfl
  have cW7_0_2 : W7.cell? ⟨w.heap.size, 2, none⟩ = some (.int .u8 b2) := BW7_0.cell 2 rfl
  have cW7_0_3 : W7.cell? ⟨w.heap.size, 3, none⟩ = some (.int .u8 b3) := BW7_0.cell 3 rfl
  have cW7_0_4 : W7.cell? ⟨w.heap.size, 4, none⟩ = some (.int .u8 b4) := BW7_0.cell 4 rfl
  have cW7_0_5 : W7.cell? ⟨w.heap.size, 5, none⟩ = some (.int .u8 b5) := BW7_0.cell 5 rfl
  have cW7_0_6 : W7.cell? ⟨w.heap.size, 6, none⟩ = some (.int .u8 b6) := BW7_0.cell 6 rfl
  have cW7_0_7 : W7.cell? ⟨w.heap.size, 7, none⟩ = some (.int .u8 b7) := BW7_0.cell 7 rfl
  have fW7_0 := BW7_0.free
  have cW7_1_0 : W7.cell? ⟨g5, 0, none⟩ = some (.int .u8 x0) := BW7_1.cell 0 rfl
  have cW7_1_1 : W7.cell? ⟨g5, 1, none⟩ = some (.int .u8 x1) := BW7_1.cell 1 rfl
  have cW7_1_2 : W7.cell? ⟨g5, 2, none⟩ = some (.int .u8 x2) := BW7_1.cell 2 rfl
  have cW7_1_3 : W7.cell? ⟨g5, 3, none⟩ = some (.int .u8 x3) := BW7_1.cell 3 rfl
  have cW7_1_4 : W7.cell? ⟨g5, 4, none⟩ = some (.int .u8 x4) := BW7_1.cell 4 rfl
  have cW7_1_5 : W7.cell? ⟨g5, 5, none⟩ = some (.int .u8 x5) := BW7_1.cell 5 rfl
  have cW7_1_6 : W7.cell? ⟨g5, 6, none⟩ = some (.int .u8 x6) := BW7_1.cell 6 rfl
  have cW7_1_7 : W7.cell? ⟨g5, 7, none⟩ = some (.int .u8 x7) := BW7_1.cell 7 rfl
  have fW7_1 := BW7_1.free
  have cW7_2_0 : W7.cell? ⟨g8, 0, none⟩ = some (.int .u64 n) := BW7_2.cell 0 rfl
  have cW7_2_1 : W7.cell? ⟨g8, 1, none⟩ = some (.int .u64 0) := BW7_2.cell 1 rfl
  have fW7_2 := BW7_2.free
  go_wp2_with fail
  refine (HV.out _).mono ?_
  rintro e W8 ⟨rfl, hkW8⟩
  have kW8 := kW7.trans hkW8
  have BW8_0 := BW7_0.kept hkW8
  have BW8_1 := BW7_1.kept hkW8
  have BW8_2 := BW7_2.kept hkW8
  clear cW7_0_0 cW7_0_1 cW7_0_2 cW7_0_3 cW7_0_4 cW7_0_5 cW7_0_6 cW7_0_7 cW7_1_0 cW7_1_1 cW7_1_2 cW7_1_3 cW7_1_4 cW7_1_5 cW7_1_6 cW7_1_7 cW7_2_0 cW7_2_1 fW7_0 fW7_1 fW7_2 BW7_0 BW7_1 BW7_2 kW7 hkW8
  have cW8_0_0 : W8.cell? ⟨w.heap.size, 0, none⟩ = some (.int .u8 b0) := BW8_0.cell 0 rfl
  have cW8_0_1 : W8.cell? ⟨w.heap.size, 1, none⟩ = some (.int .u8 b1) := BW8_0.cell 1 rfl
  have cW8_0_2 : W8.cell? ⟨w.heap.size, 2, none⟩ = some (.int .u8 b2) := BW8_0.cell 2 rfl
  have cW8_0_3 : W8.cell? ⟨w.heap.size, 3, none⟩ = some (.int .u8 b3) := BW8_0.cell 3 rfl
  have cW8_0_4 : W8.cell? ⟨w.heap.size, 4, none⟩ = some (.int .u8 b4) := BW8_0.cell 4 rfl
  have cW8_0_5 : W8.cell? ⟨w.heap.size, 5, none⟩ = some (.int .u8 b5) := BW8_0.cell 5 rfl
  have cW8_0_6 : W8.cell? ⟨w.heap.size, 6, none⟩ = some (.int .u8 b6) := BW8_0.cell 6 rfl
  have cW8_0_7 : W8.cell? ⟨w.heap.size, 7, none⟩ = some (.int .u8 b7) := BW8_0.cell 7 rfl
  have fW8_0 := BW8_0.free
  have cW8_1_0 : W8.cell? ⟨g5, 0, none⟩ = some (.int .u8 x0) := BW8_1.cell 0 rfl
  have cW8_1_1 : W8.cell? ⟨g5, 1, none⟩ = some (.int .u8 x1) := BW8_1.cell 1 rfl
  have cW8_1_2 : W8.cell? ⟨g5, 2, none⟩ = some (.int .u8 x2) := BW8_1.cell 2 rfl
  have cW8_1_3 : W8.cell? ⟨g5, 3, none⟩ = some (.int .u8 x3) := BW8_1.cell 3 rfl
  have cW8_1_4 : W8.cell? ⟨g5, 4, none⟩ = some (.int .u8 x4) := BW8_1.cell 4 rfl
  have cW8_1_5 : W8.cell? ⟨g5, 5, none⟩ = some (.int .u8 x5) := BW8_1.cell 5 rfl
  have cW8_1_6 : W8.cell? ⟨g5, 6, none⟩ = some (.int .u8 x6) := BW8_1.cell 6 rfl
  have cW8_1_7 : W8.cell? ⟨g5, 7, none⟩ = some (.int .u8 x7) := BW8_1.cell 7 rfl
  have fW8_1 := BW8_1.free
  have cW8_2_0 : W8.cell? ⟨g8, 0, none⟩ = some (.int .u64 n) := BW8_2.cell 0 rfl
  have cW8_2_1 : W8.cell? ⟨g8, 1, none⟩ = some (.int .u64 0) := BW8_2.cell 1 rfl
  have fW8_2 := BW8_2.free
  go_wp2_with fail
  refine wp_region_marks (fun _ => mn) 36 (by kernel_rfl) (by kernel_rfl) rfl ?_
  simp only [List.take_succ_cons, List.take_zero, List.drop_succ_cons, List.drop_zero]
  repeat (first
    | (refine marks_skip rfl ?_; simp only [Act.put, List.setIfInBounds_toArray, List.set_cons_zero, List.set_cons_succ])
    | (refine marks_ex rfl rfl (by kernel_rfl) ?_; apply Exists.intro; refine And.intro (fun w' hk => ?_) (And.intro ?_ ?_); (focus (have q0 := hk.cell cW8_0_0; have q1 := hk.cell cW8_0_1; have q2 := hk.cell cW8_0_2; have q3 := hk.cell cW8_0_3; have q4 := hk.cell cW8_0_4; have q5 := hk.cell cW8_0_5; have q6 := hk.cell cW8_0_6; have q7 := hk.cell cW8_0_7; have q8 := hk.cell cW8_1_0; have q9 := hk.cell cW8_1_1; have q10 := hk.cell cW8_1_2; have q11 := hk.cell cW8_1_3; have q12 := hk.cell cW8_1_4; have q13 := hk.cell cW8_1_5; have q14 := hk.cell cW8_1_6; have q15 := hk.cell cW8_1_7; have q16 := hk.cell cW8_2_0; have q17 := hk.cell cW8_2_1; have qcv := HC.out w' _ (BW8_1.kept hk); clear hk; go_simp; exact rfl)); (focus (exact rfl)); simp only [Act.put, List.setIfInBounds_toArray, List.set_cons_zero, List.set_cons_succ])
    | (refine marks_call rfl rfl (by kernel_rfl) rfl HEa.out ?_ ?_; (focus (intro w'; go_simp; done)); simp only [Act.put, List.setIfInBounds_toArray, List.set_cons_zero, List.set_cons_succ])
    | (refine marks_call rfl rfl (by kernel_rfl) rfl HEn.out ?_ ?_; (focus (intro w'; go_simp; done)); simp only [Act.put, List.setIfInBounds_toArray, List.set_cons_zero, List.set_cons_succ])
    | (refine marks_call rfl rfl (by kernel_rfl) rfl HO.out ?_ ?_; (focus (intro w'; go_simp; done)); simp only [Act.put, List.setIfInBounds_toArray, List.set_cons_zero, List.set_cons_succ])
    | (refine marks_make 0 rfl rfl (by kernel_rfl) HM.out (fun v w' h => h) ?_ ?_; (focus (intro w'; go_simp; done)); simp only [Act.put, List.setIfInBounds_toArray, List.set_cons_zero, List.set_cons_succ])
    | (refine marks_step (.string S) rfl (calmM_conv rfl rfl _ rfl HD.out) ?_; simp only [Act.put, List.setIfInBounds_toArray, List.set_cons_zero, List.set_cons_succ]))
  refine marks_nil ?_
  intro a'' W9 hkW9 hra
  obtain ⟨m35, hm35, rfl⟩ := hra.mark1 35 0 rfl rfl
  simp only [Act.put, List.setIfInBounds_toArray, List.set_cons_zero, List.set_cons_succ]
  clear hra
  have kW9 := kW8.trans hkW9
  have BW9_0 := BW8_0.kept hkW9
  have BW9_1 := BW8_1.kept hkW9
  have BW9_2 := BW8_2.kept hkW9
  clear cW8_0_0 cW8_0_1 cW8_0_2 cW8_0_3 cW8_0_4 cW8_0_5 cW8_0_6 cW8_0_7 cW8_1_0 cW8_1_1 cW8_1_2 cW8_1_3 cW8_1_4 cW8_1_5 cW8_1_6 cW8_1_7 cW8_2_0 cW8_2_1 fW8_0 fW8_1 fW8_2 BW8_0 BW8_1 BW8_2 kW8 hkW9
  have cW9_0_0 : W9.cell? ⟨w.heap.size, 0, none⟩ = some (.int .u8 b0) := BW9_0.cell 0 rfl
  have cW9_0_1 : W9.cell? ⟨w.heap.size, 1, none⟩ = some (.int .u8 b1) := BW9_0.cell 1 rfl
  have cW9_0_2 : W9.cell? ⟨w.heap.size, 2, none⟩ = some (.int .u8 b2) := BW9_0.cell 2 rfl
  have cW9_0_3 : W9.cell? ⟨w.heap.size, 3, none⟩ = some (.int .u8 b3) := BW9_0.cell 3 rfl
  have cW9_0_4 : W9.cell? ⟨w.heap.size, 4, none⟩ = some (.int .u8 b4) := BW9_0.cell 4 rfl
  have cW9_0_5 : W9.cell? ⟨w.heap.size, 5, none⟩ = some (.int .u8 b5) := BW9_0.cell 5 rfl
  have cW9_0_6 : W9.cell? ⟨w.heap.size, 6, none⟩ = some (.int .u8 b6) := BW9_0.cell 6 rfl
  have cW9_0_7 : W9.cell? ⟨w.heap.size, 7, none⟩ = some (.int .u8 b7) := BW9_0.cell 7 rfl
  have fW9_0 := BW9_0.free
  have cW9_1_0 : W9.cell? ⟨g5, 0, none⟩ = some (.int .u8 x0) := BW9_1.cell 0 rfl
  have cW9_1_1 : W9.cell? ⟨g5, 1, none⟩ = some (.int .u8 x1) := BW9_1.cell 1 rfl
  have cW9_1_2 : W9.cell? ⟨g5, 2, none⟩ = some (.int .u8 x2) := BW9_1.cell 2 rfl
  have cW9_1_3 : W9.cell? ⟨g5, 3, none⟩ = some (.int .u8 x3) := BW9_1.cell 3 rfl
  have cW9_1_4 : W9.cell? ⟨g5, 4, none⟩ = some (.int .u8 x4) := BW9_1.cell 4 rfl
  have cW9_1_5 : W9.cell? ⟨g5, 5, none⟩ = some (.int .u8 x5) := BW9_1.cell 5 rfl
  have cW9_1_6 : W9.cell? ⟨g5, 6, none⟩ = some (.int .u8 x6) := BW9_1.cell 6 rfl
  have cW9_1_7 : W9.cell? ⟨g5, 7, none⟩ = some (.int .u8 x7) := BW9_1.cell 7 rfl
  have fW9_1 := BW9_1.free
  have cW9_2_0 : W9.cell? ⟨g8, 0, none⟩ = some (.int .u64 n) := BW9_2.cell 0 rfl
  have cW9_2_1 : W9.cell? ⟨g8, 1, none⟩ = some (.int .u64 0) := BW9_2.cell 1 rfl
  have fW9_2 := BW9_2.free
  go_wp2_with fail
  go_ret
  exact ⟨rfl, kW9⟩

set_option maxRecDepth 100000 in
set_option maxHeartbeats 4000000 in
theorem gold_bytes_false (b0 b1 b2 b3 b4 b5 b6 b7 x0 x1 x2 x3 x4 x5 x6 x7 a n y : Int) (S : ByteArray)
    (hK : Pure Try.prog 26 #[] (.bool true))
    (hB : Pure Try.prog 42 #[.int .u64 a] (.agg #[.int .u8 x0, .int .u8 x1, .int .u8 x2, .int .u8 x3, .int .u8 x4, .int .u8 x5, .int .u8 x6, .int .u8 x7]))
    (hT : Pure Try.prog 43 #[.agg #[.int .u8 b0, .int .u8 b1, .int .u8 b2, .int .u8 b3, .int .u8 b4, .int .u8 b5, .int .u8 b6, .int .u8 b7]] (.tuple #[.int .u64 n, .int .i64 7]))
    (HR : Hid (∀ w' b', Blk w' b' 37 #[.int .u8 b0, .int .u8 b1, .int .u8 b2, .int .u8 b3, .int .u8 b4, .int .u8 b5, .int .u8 b6, .int .u8 b7] → Calls Try.prog 44 #[.int .i64 1, .slice (some ⟨b', 0, none⟩) 8 8] w' fun e w'' => e = .returned (.tuple #[.agg #[.int .u64 n, .int .u64 0], .bool false]) ∧ Kept w' w''))
    (hV : Pure Try.prog 43 #[.agg #[.int .u8 x0, .int .u8 x1, .int .u8 x2, .int .u8 x3, .int .u8 x4, .int .u8 x5, .int .u8 x6, .int .u8 x7]] (.tuple #[.int .u64 y, .int .i64 0]))
    (hEa : Pure Try.prog 33 #[.int .u64 a] (.agg #[.int .u64 a, .int .u64 0])) (hEn : Pure Try.prog 33 #[.int .u64 n] (.agg #[.int .u64 n, .int .u64 0]))
    (hM : Makes Try.prog 45 #[.int .i64 1, .agg #[.int .u64 a, .int .u64 0]] (fun v w' => Reads w' v (bytesV [x0, x1, x2, x3, x4, x5, x6, x7])))
    (hO : Pure Try.prog 31 #[.int .u64 a] (.int .u64 y))
    (HC : Hid (∀ w' b', Blk w' b' 37 #[.int .u8 x0, .int .u8 x1, .int .u8 x2, .int .u8 x3, .int .u8 x4, .int .u8 x5, .int .u8 x6, .int .u8 x7] → (convert 42 9 (.slice (some ⟨b', 0, none⟩) 8 8)).run Try.prog w' = .ok (.string S) w'))
    (HD : Hid (∀ v w', Reads w' v (bytesV [x0, x1, x2, x3, x4, x5, x6, x7]) → (convert 42 9 v).run Try.prog w' = .ok (.string S) w'))
    (hs : ∀ s t w, (binOp .eql 28 (.agg #[.int .u64 s, .int .u64 t]) (.agg #[.int .u64 s, .int .u64 t])).run Try.prog w = .ok (.bool true) w)
    (w : World) : Calls Try.prog 6 #[.int .u64 a, .agg #[.int .u8 b0, .int .u8 b1, .int .u8 b2, .int .u8 b3, .int .u8 b4, .int .u8 b5, .int .u8 b6, .int .u8 b7]] w fun e w' => e = .returned (.bool true) ∧ Kept w w' := by
  let mn : Mean := ⟨fun v w' => Reads w' v (bytesV [x0, x1, x2, x3, x4, x5, x6, x7]), fun v w w' h hk => h.kept hk, fun b w h => by rcases h with ⟨h, _⟩ | ⟨_, _, _, h, _⟩ <;> cases h⟩
  have HK := Lib.hid hK
  have HB := Lib.hid hB
  have HT := Lib.hid hT
  have HV := Lib.hid hV
  have HEa := Lib.hid hEa
  have HEn := Lib.hid hEn
  have HM := Lib.hid hM
  have HO := Lib.hid hO
  clear hK hB hT hV hEa hEn hM hO
  go_enter Try.func6, Try.ntmps6
  go_wp2_with fail
  refine abs_calls (fun W => Kept w W ∧ Blk W (w.heap.size) 37 #[.int .u8 b0, .int .u8 b1, .int .u8 b2, .int .u8 b3, .int .u8 b4, .int .u8 b5, .int .u8 b6, .int .u8 b7]) ?_ ?_
  · refine ⟨?_, ?_⟩
    · repeat (first | exact Kept.refl _ | (refine Kept.setCell ?_ (kept_side (by first | assumption | omega)) _) | apply Kept.alloc | apply Kept.drew)
    · simp [Blk, *] <;> (intros; omega)
  rintro W1 ⟨kW1, BW1_0⟩
  have cW1_0_0 : W1.cell? ⟨w.heap.size, 0, none⟩ = some (.int .u8 b0) := BW1_0.cell 0 rfl
  have cW1_0_1 : W1.cell? ⟨w.heap.size, 1, none⟩ = some (.int .u8 b1) := BW1_0.cell 1 rfl
  have cW1_0_2 : W1.cell? ⟨w.heap.size, 2, none⟩ = some (.int .u8 b2) := BW1_0.cell 2 rfl
  have cW1_0_3 : W1.cell? ⟨w.heap.size, 3, none⟩ = some (.int .u8 b3) := BW1_0.cell 3 rfl
  have cW1_0_4 : W1.cell? ⟨w.heap.size, 4, none⟩ = some (.int .u8 b4) := BW1_0.cell 4 rfl
  have cW1_0_5 : W1.cell? ⟨w.heap.size, 5, none⟩ = some (.int .u8 b5) := BW1_0.cell 5 rfl
  have cW1_0_6 : W1.cell? ⟨w.heap.size, 6, none⟩ = some (.int .u8 b6) := BW1_0.cell 6 rfl
  have cW1_0_7 : W1.cell? ⟨w.heap.size, 7, none⟩ = some (.int .u8 b7) := BW1_0.cell 7 rfl
  have fW1_0 := BW1_0.free
  refine (HK.out _).mono ?_
  rintro e W2 ⟨rfl, hkW2⟩
  have kW2 := kW1.trans hkW2
  have BW2_0 := BW1_0.kept hkW2
  clear cW1_0_0 cW1_0_1 cW1_0_2 cW1_0_3 cW1_0_4 cW1_0_5 cW1_0_6 cW1_0_7 fW1_0 BW1_0 kW1 hkW2
  have cW2_0_0 : W2.cell? ⟨w.heap.size, 0, none⟩ = some (.int .u8 b0) := BW2_0.cell 0 rfl
  have cW2_0_1 : W2.cell? ⟨w.heap.size, 1, none⟩ = some (.int .u8 b1) := BW2_0.cell 1 rfl
  have cW2_0_2 : W2.cell? ⟨w.heap.size, 2, none⟩ = some (.int .u8 b2) := BW2_0.cell 2 rfl
  have cW2_0_3 : W2.cell? ⟨w.heap.size, 3, none⟩ = some (.int .u8 b3) := BW2_0.cell 3 rfl
  have cW2_0_4 : W2.cell? ⟨w.heap.size, 4, none⟩ = some (.int .u8 b4) := BW2_0.cell 4 rfl
  have cW2_0_5 : W2.cell? ⟨w.heap.size, 5, none⟩ = some (.int .u8 b5) := BW2_0.cell 5 rfl
  have cW2_0_6 : W2.cell? ⟨w.heap.size, 6, none⟩ = some (.int .u8 b6) := BW2_0.cell 6 rfl
  have cW2_0_7 : W2.cell? ⟨w.heap.size, 7, none⟩ = some (.int .u8 b7) := BW2_0.cell 7 rfl
  have fW2_0 := BW2_0.free
  go_wp2_with fail
  refine (HB.out _).mono ?_
  rintro e W3 ⟨rfl, hkW3⟩
  have kW3 := kW2.trans hkW3
  have BW3_0 := BW2_0.kept hkW3
  clear cW2_0_0 cW2_0_1 cW2_0_2 cW2_0_3 cW2_0_4 cW2_0_5 cW2_0_6 cW2_0_7 fW2_0 BW2_0 kW2 hkW3
  have cW3_0_0 : W3.cell? ⟨w.heap.size, 0, none⟩ = some (.int .u8 b0) := BW3_0.cell 0 rfl
  have cW3_0_1 : W3.cell? ⟨w.heap.size, 1, none⟩ = some (.int .u8 b1) := BW3_0.cell 1 rfl
  have cW3_0_2 : W3.cell? ⟨w.heap.size, 2, none⟩ = some (.int .u8 b2) := BW3_0.cell 2 rfl
  have cW3_0_3 : W3.cell? ⟨w.heap.size, 3, none⟩ = some (.int .u8 b3) := BW3_0.cell 3 rfl
  have cW3_0_4 : W3.cell? ⟨w.heap.size, 4, none⟩ = some (.int .u8 b4) := BW3_0.cell 4 rfl
  have cW3_0_5 : W3.cell? ⟨w.heap.size, 5, none⟩ = some (.int .u8 b5) := BW3_0.cell 5 rfl
  have cW3_0_6 : W3.cell? ⟨w.heap.size, 6, none⟩ = some (.int .u8 b6) := BW3_0.cell 6 rfl
  have cW3_0_7 : W3.cell? ⟨w.heap.size, 7, none⟩ = some (.int .u8 b7) := BW3_0.cell 7 rfl
  have fW3_0 := BW3_0.free
  obtain ⟨g5, hg5⟩ : ∃ b, W3.heap.size = b := ⟨_, rfl⟩
  have neg5_0 : w.heap.size ≠ g5 := by have := BW3_0.lt; omega
  have eng5_0 : g5 ≠ w.heap.size := neg5_0.symm
  have log5 : w.heap.size ≤ g5 := hg5 ▸ kW3.size
  go_upto_region 4 with (fail)
  refine abs_world (fun W => Kept w W ∧ Blk W (w.heap.size) 37 #[.int .u8 b0, .int .u8 b1, .int .u8 b2, .int .u8 b3, .int .u8 b4, .int .u8 b5, .int .u8 b6, .int .u8 b7] ∧ Blk W (g5) 37 #[.int .u8 x0, .int .u8 x1, .int .u8 x2, .int .u8 x3, .int .u8 x4, .int .u8 x5, .int .u8 x6, .int .u8 x7]) ?_ ?_
  · refine ⟨?_, ?_, ?_⟩
    · repeat (first | exact kW3 | (refine Kept.setCell ?_ (kept_side (by first | assumption | omega)) _) | apply Kept.alloc | apply Kept.drew)
    · simp [Blk, *] <;> (intros; omega)
    · simp [Blk, *] <;> (intros; omega)
  rintro W4 ⟨kW4, BW4_0, BW4_1⟩
  have cW4_0_0 : W4.cell? ⟨w.heap.size, 0, none⟩ = some (.int .u8 b0) := BW4_0.cell 0 rfl
  have cW4_0_1 : W4.cell? ⟨w.heap.size, 1, none⟩ = some (.int .u8 b1) := BW4_0.cell 1 rfl
  have cW4_0_2 : W4.cell? ⟨w.heap.size, 2, none⟩ = some (.int .u8 b2) := BW4_0.cell 2 rfl
  have cW4_0_3 : W4.cell? ⟨w.heap.size, 3, none⟩ = some (.int .u8 b3) := BW4_0.cell 3 rfl
  have cW4_0_4 : W4.cell? ⟨w.heap.size, 4, none⟩ = some (.int .u8 b4) := BW4_0.cell 4 rfl
  have cW4_0_5 : W4.cell? ⟨w.heap.size, 5, none⟩ = some (.int .u8 b5) := BW4_0.cell 5 rfl
  have cW4_0_6 : W4.cell? ⟨w.heap.size, 6, none⟩ = some (.int .u8 b6) := BW4_0.cell 6 rfl
  have cW4_0_7 : W4.cell? ⟨w.heap.size, 7, none⟩ = some (.int .u8 b7) := BW4_0.cell 7 rfl
  have fW4_0 := BW4_0.free
  have cW4_1_0 : W4.cell? ⟨g5, 0, none⟩ = some (.int .u8 x0) := BW4_1.cell 0 rfl
  have cW4_1_1 : W4.cell? ⟨g5, 1, none⟩ = some (.int .u8 x1) := BW4_1.cell 1 rfl
  have cW4_1_2 : W4.cell? ⟨g5, 2, none⟩ = some (.int .u8 x2) := BW4_1.cell 2 rfl
  have cW4_1_3 : W4.cell? ⟨g5, 3, none⟩ = some (.int .u8 x3) := BW4_1.cell 3 rfl
  have cW4_1_4 : W4.cell? ⟨g5, 4, none⟩ = some (.int .u8 x4) := BW4_1.cell 4 rfl
  have cW4_1_5 : W4.cell? ⟨g5, 5, none⟩ = some (.int .u8 x5) := BW4_1.cell 5 rfl
  have cW4_1_6 : W4.cell? ⟨g5, 6, none⟩ = some (.int .u8 x6) := BW4_1.cell 6 rfl
  have cW4_1_7 : W4.cell? ⟨g5, 7, none⟩ = some (.int .u8 x7) := BW4_1.cell 7 rfl
  have fW4_1 := BW4_1.free
  go_wp2_with fail
  refine (HT.out _).mono ?_
  rintro e W5 ⟨rfl, hkW5⟩
  have kW5 := kW4.trans hkW5
  have BW5_0 := BW4_0.kept hkW5
  have BW5_1 := BW4_1.kept hkW5
  clear cW4_0_0 cW4_0_1 cW4_0_2 cW4_0_3 cW4_0_4 cW4_0_5 cW4_0_6 cW4_0_7 cW4_1_0 cW4_1_1 cW4_1_2 cW4_1_3 cW4_1_4 cW4_1_5 cW4_1_6 cW4_1_7 fW4_0 fW4_1 BW4_0 BW4_1 kW4 hkW5
  have cW5_0_0 : W5.cell? ⟨w.heap.size, 0, none⟩ = some (.int .u8 b0) := BW5_0.cell 0 rfl
  have cW5_0_1 : W5.cell? ⟨w.heap.size, 1, none⟩ = some (.int .u8 b1) := BW5_0.cell 1 rfl
  have cW5_0_2 : W5.cell? ⟨w.heap.size, 2, none⟩ = some (.int .u8 b2) := BW5_0.cell 2 rfl
  have cW5_0_3 : W5.cell? ⟨w.heap.size, 3, none⟩ = some (.int .u8 b3) := BW5_0.cell 3 rfl
  have cW5_0_4 : W5.cell? ⟨w.heap.size, 4, none⟩ = some (.int .u8 b4) := BW5_0.cell 4 rfl
  have cW5_0_5 : W5.cell? ⟨w.heap.size, 5, none⟩ = some (.int .u8 b5) := BW5_0.cell 5 rfl
  have cW5_0_6 : W5.cell? ⟨w.heap.size, 6, none⟩ = some (.int .u8 b6) := BW5_0.cell 6 rfl
  have cW5_0_7 : W5.cell? ⟨w.heap.size, 7, none⟩ = some (.int .u8 b7) := BW5_0.cell 7 rfl
  have fW5_0 := BW5_0.free
  have cW5_1_0 : W5.cell? ⟨g5, 0, none⟩ = some (.int .u8 x0) := BW5_1.cell 0 rfl
  have cW5_1_1 : W5.cell? ⟨g5, 1, none⟩ = some (.int .u8 x1) := BW5_1.cell 1 rfl
  have cW5_1_2 : W5.cell? ⟨g5, 2, none⟩ = some (.int .u8 x2) := BW5_1.cell 2 rfl
  have cW5_1_3 : W5.cell? ⟨g5, 3, none⟩ = some (.int .u8 x3) := BW5_1.cell 3 rfl
  have cW5_1_4 : W5.cell? ⟨g5, 4, none⟩ = some (.int .u8 x4) := BW5_1.cell 4 rfl
  have cW5_1_5 : W5.cell? ⟨g5, 5, none⟩ = some (.int .u8 x5) := BW5_1.cell 5 rfl
  have cW5_1_6 : W5.cell? ⟨g5, 6, none⟩ = some (.int .u8 x6) := BW5_1.cell 6 rfl
  have cW5_1_7 : W5.cell? ⟨g5, 7, none⟩ = some (.int .u8 x7) := BW5_1.cell 7 rfl
  have fW5_1 := BW5_1.free
  go_wp2_with fail
  refine (HR.out _ _ BW5_0).mono ?_
  rintro e W6 ⟨rfl, hkW6⟩
  have kW6 := kW5.trans hkW6
  have BW6_0 := BW5_0.kept hkW6
  have BW6_1 := BW5_1.kept hkW6
  clear cW5_0_0 cW5_0_1 cW5_0_2 cW5_0_3 cW5_0_4 cW5_0_5 cW5_0_6 cW5_0_7 cW5_1_0 cW5_1_1 cW5_1_2 cW5_1_3 cW5_1_4 cW5_1_5 cW5_1_6 cW5_1_7 fW5_0 fW5_1 BW5_0 BW5_1 kW5 hkW6
  have cW6_0_0 : W6.cell? ⟨w.heap.size, 0, none⟩ = some (.int .u8 b0) := BW6_0.cell 0 rfl
  have cW6_0_1 : W6.cell? ⟨w.heap.size, 1, none⟩ = some (.int .u8 b1) := BW6_0.cell 1 rfl
  have cW6_0_2 : W6.cell? ⟨w.heap.size, 2, none⟩ = some (.int .u8 b2) := BW6_0.cell 2 rfl
  have cW6_0_3 : W6.cell? ⟨w.heap.size, 3, none⟩ = some (.int .u8 b3) := BW6_0.cell 3 rfl
  have cW6_0_4 : W6.cell? ⟨w.heap.size, 4, none⟩ = some (.int .u8 b4) := BW6_0.cell 4 rfl
  have cW6_0_5 : W6.cell? ⟨w.heap.size, 5, none⟩ = some (.int .u8 b5) := BW6_0.cell 5 rfl
  have cW6_0_6 : W6.cell? ⟨w.heap.size, 6, none⟩ = some (.int .u8 b6) := BW6_0.cell 6 rfl
  have cW6_0_7 : W6.cell? ⟨w.heap.size, 7, none⟩ = some (.int .u8 b7) := BW6_0.cell 7 rfl
  have fW6_0 := BW6_0.free
  have cW6_1_0 : W6.cell? ⟨g5, 0, none⟩ = some (.int .u8 x0) := BW6_1.cell 0 rfl
  have cW6_1_1 : W6.cell? ⟨g5, 1, none⟩ = some (.int .u8 x1) := BW6_1.cell 1 rfl
  have cW6_1_2 : W6.cell? ⟨g5, 2, none⟩ = some (.int .u8 x2) := BW6_1.cell 2 rfl
  have cW6_1_3 : W6.cell? ⟨g5, 3, none⟩ = some (.int .u8 x3) := BW6_1.cell 3 rfl
  have cW6_1_4 : W6.cell? ⟨g5, 4, none⟩ = some (.int .u8 x4) := BW6_1.cell 4 rfl
  have cW6_1_5 : W6.cell? ⟨g5, 5, none⟩ = some (.int .u8 x5) := BW6_1.cell 5 rfl
  have cW6_1_6 : W6.cell? ⟨g5, 6, none⟩ = some (.int .u8 x6) := BW6_1.cell 6 rfl
  have cW6_1_7 : W6.cell? ⟨g5, 7, none⟩ = some (.int .u8 x7) := BW6_1.cell 7 rfl
  have fW6_1 := BW6_1.free
  obtain ⟨g8, hg8⟩ : ∃ b, W6.heap.size = b := ⟨_, rfl⟩
  have neg8_0 : w.heap.size ≠ g8 := by have := BW6_0.lt; omega
  have eng8_0 : g8 ≠ w.heap.size := neg8_0.symm
  have neg8_1 : g5 ≠ g8 := by have := BW6_1.lt; omega
  have eng8_1 : g8 ≠ g5 := neg8_1.symm
  have log8 : w.heap.size ≤ g8 := hg8 ▸ kW6.size
  go_upto_region 6 with (fail)
  refine abs_world (fun W => Kept w W ∧ Blk W (w.heap.size) 37 #[.int .u8 b0, .int .u8 b1, .int .u8 b2, .int .u8 b3, .int .u8 b4, .int .u8 b5, .int .u8 b6, .int .u8 b7] ∧ Blk W (g5) 37 #[.int .u8 x0, .int .u8 x1, .int .u8 x2, .int .u8 x3, .int .u8 x4, .int .u8 x5, .int .u8 x6, .int .u8 x7] ∧ Blk W (g8) 28 #[.int .u64 n, .int .u64 0]) ?_ ?_
  · refine ⟨?_, ?_, ?_, ?_⟩
    · repeat (first | exact kW6 | (refine Kept.setCell ?_ (kept_side (by first | assumption | omega)) _) | apply Kept.alloc | apply Kept.drew)
    · simp [Blk, *] <;> (intros; omega)
    · simp [Blk, *] <;> (intros; omega)
    · simp [Blk, *] <;> (intros; omega)
  rintro W7 ⟨kW7, BW7_0, BW7_1, BW7_2⟩
  have cW7_0_0 : W7.cell? ⟨w.heap.size, 0, none⟩ = some (.int .u8 b0) := BW7_0.cell 0 rfl
  have cW7_0_1 : W7.cell? ⟨w.heap.size, 1, none⟩ = some (.int .u8 b1) := BW7_0.cell 1 rfl
  have cW7_0_2 : W7.cell? ⟨w.heap.size, 2, none⟩ = some (.int .u8 b2) := BW7_0.cell 2 rfl
  have cW7_0_3 : W7.cell? ⟨w.heap.size, 3, none⟩ = some (.int .u8 b3) := BW7_0.cell 3 rfl
  have cW7_0_4 : W7.cell? ⟨w.heap.size, 4, none⟩ = some (.int .u8 b4) := BW7_0.cell 4 rfl
  have cW7_0_5 : W7.cell? ⟨w.heap.size, 5, none⟩ = some (.int .u8 b5) := BW7_0.cell 5 rfl
  have cW7_0_6 : W7.cell? ⟨w.heap.size, 6, none⟩ = some (.int .u8 b6) := BW7_0.cell 6 rfl
  have cW7_0_7 : W7.cell? ⟨w.heap.size, 7, none⟩ = some (.int .u8 b7) := BW7_0.cell 7 rfl
  have fW7_0 := BW7_0.free
  have cW7_1_0 : W7.cell? ⟨g5, 0, none⟩ = some (.int .u8 x0) := BW7_1.cell 0 rfl
  have cW7_1_1 : W7.cell? ⟨g5, 1, none⟩ = some (.int .u8 x1) := BW7_1.cell 1 rfl
  have cW7_1_2 : W7.cell? ⟨g5, 2, none⟩ = some (.int .u8 x2) := BW7_1.cell 2 rfl
  have cW7_1_3 : W7.cell? ⟨g5, 3, none⟩ = some (.int .u8 x3) := BW7_1.cell 3 rfl
  have cW7_1_4 : W7.cell? ⟨g5, 4, none⟩ = some (.int .u8 x4) := BW7_1.cell 4 rfl
  have cW7_1_5 : W7.cell? ⟨g5, 5, none⟩ = some (.int .u8 x5) := BW7_1.cell 5 rfl
  have cW7_1_6 : W7.cell? ⟨g5, 6, none⟩ = some (.int .u8 x6) := BW7_1.cell 6 rfl
  have cW7_1_7 : W7.cell? ⟨g5, 7, none⟩ = some (.int .u8 x7) := BW7_1.cell 7 rfl
  have fW7_1 := BW7_1.free
  have cW7_2_0 : W7.cell? ⟨g8, 0, none⟩ = some (.int .u64 n) := BW7_2.cell 0 rfl
  have cW7_2_1 : W7.cell? ⟨g8, 1, none⟩ = some (.int .u64 0) := BW7_2.cell 1 rfl
  have fW7_2 := BW7_2.free
  go_wp2_with fail
  refine (HV.out _).mono ?_
  rintro e W8 ⟨rfl, hkW8⟩
  have kW8 := kW7.trans hkW8
  have BW8_0 := BW7_0.kept hkW8
  have BW8_1 := BW7_1.kept hkW8
  have BW8_2 := BW7_2.kept hkW8
  clear cW7_0_0 cW7_0_1 cW7_0_2 cW7_0_3 cW7_0_4 cW7_0_5 cW7_0_6 cW7_0_7 cW7_1_0 cW7_1_1 cW7_1_2 cW7_1_3 cW7_1_4 cW7_1_5 cW7_1_6 cW7_1_7 cW7_2_0 cW7_2_1 fW7_0 fW7_1 fW7_2 BW7_0 BW7_1 BW7_2 kW7 hkW8
  have cW8_0_0 : W8.cell? ⟨w.heap.size, 0, none⟩ = some (.int .u8 b0) := BW8_0.cell 0 rfl
  have cW8_0_1 : W8.cell? ⟨w.heap.size, 1, none⟩ = some (.int .u8 b1) := BW8_0.cell 1 rfl
  have cW8_0_2 : W8.cell? ⟨w.heap.size, 2, none⟩ = some (.int .u8 b2) := BW8_0.cell 2 rfl
  have cW8_0_3 : W8.cell? ⟨w.heap.size, 3, none⟩ = some (.int .u8 b3) := BW8_0.cell 3 rfl
  have cW8_0_4 : W8.cell? ⟨w.heap.size, 4, none⟩ = some (.int .u8 b4) := BW8_0.cell 4 rfl
  have cW8_0_5 : W8.cell? ⟨w.heap.size, 5, none⟩ = some (.int .u8 b5) := BW8_0.cell 5 rfl
  have cW8_0_6 : W8.cell? ⟨w.heap.size, 6, none⟩ = some (.int .u8 b6) := BW8_0.cell 6 rfl
  have cW8_0_7 : W8.cell? ⟨w.heap.size, 7, none⟩ = some (.int .u8 b7) := BW8_0.cell 7 rfl
  have fW8_0 := BW8_0.free
  have cW8_1_0 : W8.cell? ⟨g5, 0, none⟩ = some (.int .u8 x0) := BW8_1.cell 0 rfl
  have cW8_1_1 : W8.cell? ⟨g5, 1, none⟩ = some (.int .u8 x1) := BW8_1.cell 1 rfl
  have cW8_1_2 : W8.cell? ⟨g5, 2, none⟩ = some (.int .u8 x2) := BW8_1.cell 2 rfl
  have cW8_1_3 : W8.cell? ⟨g5, 3, none⟩ = some (.int .u8 x3) := BW8_1.cell 3 rfl
  have cW8_1_4 : W8.cell? ⟨g5, 4, none⟩ = some (.int .u8 x4) := BW8_1.cell 4 rfl
  have cW8_1_5 : W8.cell? ⟨g5, 5, none⟩ = some (.int .u8 x5) := BW8_1.cell 5 rfl
  have cW8_1_6 : W8.cell? ⟨g5, 6, none⟩ = some (.int .u8 x6) := BW8_1.cell 6 rfl
  have cW8_1_7 : W8.cell? ⟨g5, 7, none⟩ = some (.int .u8 x7) := BW8_1.cell 7 rfl
  have fW8_1 := BW8_1.free
  have cW8_2_0 : W8.cell? ⟨g8, 0, none⟩ = some (.int .u64 n) := BW8_2.cell 0 rfl
  have cW8_2_1 : W8.cell? ⟨g8, 1, none⟩ = some (.int .u64 0) := BW8_2.cell 1 rfl
  have fW8_2 := BW8_2.free
  go_wp2_with fail
  refine wp_region_marks (fun _ => mn) 36 (by kernel_rfl) (by kernel_rfl) rfl ?_
  simp only [List.take_succ_cons, List.take_zero, List.drop_succ_cons, List.drop_zero]
  repeat (first
    | (refine marks_skip rfl ?_; simp only [Act.put, List.setIfInBounds_toArray, List.set_cons_zero, List.set_cons_succ])
    | (refine marks_ex rfl rfl (by kernel_rfl) ?_; apply Exists.intro; refine And.intro (fun w' hk => ?_) (And.intro ?_ ?_); (focus (have q0 := hk.cell cW8_0_0; have q1 := hk.cell cW8_0_1; have q2 := hk.cell cW8_0_2; have q3 := hk.cell cW8_0_3; have q4 := hk.cell cW8_0_4; have q5 := hk.cell cW8_0_5; have q6 := hk.cell cW8_0_6; have q7 := hk.cell cW8_0_7; have q8 := hk.cell cW8_1_0; have q9 := hk.cell cW8_1_1; have q10 := hk.cell cW8_1_2; have q11 := hk.cell cW8_1_3; have q12 := hk.cell cW8_1_4; have q13 := hk.cell cW8_1_5; have q14 := hk.cell cW8_1_6; have q15 := hk.cell cW8_1_7; have q16 := hk.cell cW8_2_0; have q17 := hk.cell cW8_2_1; have qcv := HC.out w' _ (BW8_1.kept hk); clear hk; go_simp; exact rfl)); (focus (exact rfl)); simp only [Act.put, List.setIfInBounds_toArray, List.set_cons_zero, List.set_cons_succ])
    | (refine marks_call rfl rfl (by kernel_rfl) rfl HEa.out ?_ ?_; (focus (intro w'; go_simp; done)); simp only [Act.put, List.setIfInBounds_toArray, List.set_cons_zero, List.set_cons_succ])
    | (refine marks_call rfl rfl (by kernel_rfl) rfl HEn.out ?_ ?_; (focus (intro w'; go_simp; done)); simp only [Act.put, List.setIfInBounds_toArray, List.set_cons_zero, List.set_cons_succ])
    | (refine marks_call rfl rfl (by kernel_rfl) rfl HO.out ?_ ?_; (focus (intro w'; go_simp; done)); simp only [Act.put, List.setIfInBounds_toArray, List.set_cons_zero, List.set_cons_succ])
    | (refine marks_make 0 rfl rfl (by kernel_rfl) HM.out (fun v w' h => h) ?_ ?_; (focus (intro w'; go_simp; done)); simp only [Act.put, List.setIfInBounds_toArray, List.set_cons_zero, List.set_cons_succ])
    | (refine marks_step (.string S) rfl (calmM_conv rfl rfl _ rfl HD.out) ?_; simp only [Act.put, List.setIfInBounds_toArray, List.set_cons_zero, List.set_cons_succ]))
  refine marks_nil ?_
  intro a'' W9 hkW9 hra
  obtain ⟨m35, hm35, rfl⟩ := hra.mark1 35 0 rfl rfl
  simp only [Act.put, List.setIfInBounds_toArray, List.set_cons_zero, List.set_cons_succ]
  clear hra
  have kW9 := kW8.trans hkW9
  have BW9_0 := BW8_0.kept hkW9
  have BW9_1 := BW8_1.kept hkW9
  have BW9_2 := BW8_2.kept hkW9
  clear cW8_0_0 cW8_0_1 cW8_0_2 cW8_0_3 cW8_0_4 cW8_0_5 cW8_0_6 cW8_0_7 cW8_1_0 cW8_1_1 cW8_1_2 cW8_1_3 cW8_1_4 cW8_1_5 cW8_1_6 cW8_1_7 cW8_2_0 cW8_2_1 fW8_0 fW8_1 fW8_2 BW8_0 BW8_1 BW8_2 kW8 hkW9
  have cW9_0_0 : W9.cell? ⟨w.heap.size, 0, none⟩ = some (.int .u8 b0) := BW9_0.cell 0 rfl
  have cW9_0_1 : W9.cell? ⟨w.heap.size, 1, none⟩ = some (.int .u8 b1) := BW9_0.cell 1 rfl
  have cW9_0_2 : W9.cell? ⟨w.heap.size, 2, none⟩ = some (.int .u8 b2) := BW9_0.cell 2 rfl
  have cW9_0_3 : W9.cell? ⟨w.heap.size, 3, none⟩ = some (.int .u8 b3) := BW9_0.cell 3 rfl
  have cW9_0_4 : W9.cell? ⟨w.heap.size, 4, none⟩ = some (.int .u8 b4) := BW9_0.cell 4 rfl
  have cW9_0_5 : W9.cell? ⟨w.heap.size, 5, none⟩ = some (.int .u8 b5) := BW9_0.cell 5 rfl
  have cW9_0_6 : W9.cell? ⟨w.heap.size, 6, none⟩ = some (.int .u8 b6) := BW9_0.cell 6 rfl
  have cW9_0_7 : W9.cell? ⟨w.heap.size, 7, none⟩ = some (.int .u8 b7) := BW9_0.cell 7 rfl
  have fW9_0 := BW9_0.free
  have cW9_1_0 : W9.cell? ⟨g5, 0, none⟩ = some (.int .u8 x0) := BW9_1.cell 0 rfl
  have cW9_1_1 : W9.cell? ⟨g5, 1, none⟩ = some (.int .u8 x1) := BW9_1.cell 1 rfl
  have cW9_1_2 : W9.cell? ⟨g5, 2, none⟩ = some (.int .u8 x2) := BW9_1.cell 2 rfl
  have cW9_1_3 : W9.cell? ⟨g5, 3, none⟩ = some (.int .u8 x3) := BW9_1.cell 3 rfl
  have cW9_1_4 : W9.cell? ⟨g5, 4, none⟩ = some (.int .u8 x4) := BW9_1.cell 4 rfl
  have cW9_1_5 : W9.cell? ⟨g5, 5, none⟩ = some (.int .u8 x5) := BW9_1.cell 5 rfl
  have cW9_1_6 : W9.cell? ⟨g5, 6, none⟩ = some (.int .u8 x6) := BW9_1.cell 6 rfl
  have cW9_1_7 : W9.cell? ⟨g5, 7, none⟩ = some (.int .u8 x7) := BW9_1.cell 7 rfl
  have fW9_1 := BW9_1.free
  have cW9_2_0 : W9.cell? ⟨g8, 0, none⟩ = some (.int .u64 n) := BW9_2.cell 0 rfl
  have cW9_2_1 : W9.cell? ⟨g8, 1, none⟩ = some (.int .u64 0) := BW9_2.cell 1 rfl
  have fW9_2 := BW9_2.free
  go_wp2_with fail
  go_ret
  exact ⟨rfl, kW9⟩


theorem leVal_leBytes : ∀ (k : Nat) (n : Int), 0 ≤ n → n < 256 ^ k → leVal (leBytes k n) = n
  | 0, n, h0, h1 => by simp only [leBytes, leVal]; rw [Int.pow_zero] at h1; omega
  | k + 1, n, h0, h1 => by
    rw [Int.pow_succ, Int.mul_comm] at h1
    have h2 : n / 256 < 256 ^ k := Int.ediv_lt_of_lt_mul (by omega) (by rw [Int.mul_comm]; exact h1)
    rw [leBytes, leVal_cons, leVal_leBytes k (n / 256) (by omega) h2]
    omega
theorem isByte_leBytes : ∀ (k : Nat) (n : Int), ∀ x ∈ leBytes k n, isByte x
  | 0, n, x, hx => by simp [leBytes] at hx
  | k + 1, n, x, hx => by
    rw [leBytes] at hx
    rcases List.mem_cons.1 hx with rfl | hx
    · unfold isByte; omega
    · exact isByte_leBytes k _ x hx
theorem blk_bytes {w : World} {b : Nat} {t : TypeId} {bs : List Int} (h : Blk w b t (bytesV bs).toArray) : ∀ j, j < bs.length → w.cell? ⟨b, 0 + j, none⟩ = some (.int .u8 (bs.getD j 0)) := by
  intro j hj
  rw [Nat.zero_add]
  refine h.cell j ?_
  rw [List.getD_eq_getElem?_getD, List.getElem?_eq_getElem hj]
  simp [bytesV, hj]
theorem reads_bytes {w : World} {v : Value} {bs : List Int} (h : Reads w v (bytesV bs)) (hne : bs ≠ []) : ∃ b o cap, v = .slice (some ⟨b, o, none⟩) bs.length cap ∧ bs.length ≤ cap ∧ ∀ j, j < bs.length → w.cell? ⟨b, o + j, none⟩ = some (.int .u8 (bs.getD j 0)) := by
  rcases h with ⟨_, h⟩ | ⟨b, o, cap, h1, h2, h3⟩
  · unfold bytesV at h; exact absurd (List.map_eq_nil_iff.1 h) hne
  · rw [show (bytesV bs).length = bs.length by simp [bytesV]] at h1 h2
    refine ⟨b, o, cap, h1, h2, fun j hj => h3 j _ ?_⟩
    rw [List.getD_eq_getElem?_getD, List.getElem?_eq_getElem hj]
    simp [bytesV, hj]
theorem conv_reads {w : World} {v : Value} {bs : List Int} (h : Reads w v (bytesV bs)) (hne : bs ≠ []) (hb : ∀ x ∈ bs, isByte x) : (convert 42 9 v).run Try.prog w = .ok (.string (strOf bs)) w := by
  obtain ⟨b, o, cap, rfl, _, h3⟩ := reads_bytes h hne
  exact conv_str Try.underlying42 Try.underlying5 Try.underlying9 w hb h3
theorem list8 {l : List Int} (h : l.length = 8) : ∃ x0 x1 x2 x3 x4 x5 x6 x7, l = [x0, x1, x2, x3, x4, x5, x6, x7] := by
  match l, h with
  | [x0, x1, x2, x3, x4, x5, x6, x7], _ => exact ⟨_, _, _, _, _, _, _, _, rfl⟩
theorem length_leBytes : ∀ (k : Nat) (n : Int), (leBytes k n).length = k
  | 0, _ => rfl
  | k + 1, n => by rw [leBytes, List.length_cons, length_leBytes k]

theorem eql28_selfB (s t : Int) (w : World) : (binOp .eql 28 (.agg #[.int .u64 s, .int .u64 t]) (.agg #[.int .u64 s, .int .u64 t])).run Try.prog w = .ok (.bool true) w := by rw [run_eql28]; simp

theorem gold_bytes_law (a : Int) (wa : (Lit.int .u64 a).wf = true) (b : List Int) (lb : b.length = 8) (wb : ∀ z ∈ b, (Lit.int .u8 z).wf = true) (w : World) :
    Calls Try.prog 6 #[.int .u64 a, .agg (b.map (Value.int .u8)).toArray] w fun e w' => e = .returned (.bool true) ∧ Kept w w' := by
  have ha := is64_mk wa
  have hb : ∀ z ∈ b, isByte z := fun z hz => by
    have := wb z hz
    simp [Lit.wf, IntKind.min, IntKind.max, IntKind.signed, IntKind.bits] at this
    unfold isByte; omega
  have hg : is64 (a % gP) := is64_emod a
  have hgl : a % gP < gP := Int.emod_lt_of_pos _ (by unfold gP; omega)
  have hB := g_Bytes ha
  have hV := g_Take (length_leBytes 8 (a % gP)) (isByte_leBytes 8 (a % gP))
  rw [leVal_leBytes 8 _ hg.1 (by unfold is64 at hg; omega), if_pos hgl] at hV
  have hM : Makes Try.prog 45 #[.int .i64 1, .agg #[.int .u64 a, .int .u64 0]] (fun v w' => Reads w' v (bytesV (leBytes 8 (a % gP)))) := fun w => by
    have := ref_Bytes (.inl rfl) (is128_of64 ha) w
    rw [E_small ha, rOf1 ha] at this
    exact this.mono fun e w' ⟨v, h1, h2, h3⟩ => ⟨v, h1, reads_of_own h2, h3⟩
  have hC : ∀ w' b', Blk w' b' 37 (bytesV (leBytes 8 (a % gP))).toArray → (convert 42 9 (.slice (some ⟨b', 0, none⟩) 8 8)).run Try.prog w' = .ok (.string (strOf (leBytes 8 (a % gP)))) w' := fun w' b' h => by
    have := conv_str (cap := 8) Try.underlying42 Try.underlying5 Try.underlying9 w' (isByte_leBytes 8 (a % gP)) (blk_bytes h)
    rw [length_leBytes] at this
    exact this
  have hD : ∀ v w', Reads w' v (bytesV (leBytes 8 (a % gP))) → (convert 42 9 v).run Try.prog w' = .ok (.string (strOf (leBytes 8 (a % gP)))) w' := fun v w' h => conv_reads h (by simp [leBytes]) (isByte_leBytes 8 (a % gP))
  have hT := g_Take lb hb
  have hR : ∀ w' b', Blk w' b' 37 (bytesV b).toArray → Calls Try.prog 44 #[.int .i64 1, .slice (some ⟨b', 0, none⟩) 8 8] w' fun e w'' => e = .returned (.tuple #[if leVal b < gP then E (leVal b) else E 0, .bool (decide (leVal b < gP))]) ∧ Kept w' w'' := fun w' b' h => by
    have := ref_Take (f := 1) (cap := 8) (.inl rfl) (by omega) hb w' h.lt (blk_bytes h)
    rw [lb, rP1] at this
    exact this
  have h0 := leVal_lo b hb
  obtain ⟨x0, x1, x2, x3, x4, x5, x6, x7, hX⟩ := list8 (length_leBytes 8 (a % gP))
  rw [hX] at hB hV hM hC hD
  generalize strOf _ = S at hC hD
  by_cases h : leVal b < gP
  · rw [if_pos h] at hT
    simp only [if_pos h, decide_eq_true h] at hR
    have hn : is64 (leVal b) := by unfold gP at h; unfold is64; omega
    rw [E_small hn] at hR
    obtain ⟨b0, b1, b2, b3, b4, b5, b6, b7, rfl⟩ := list8 lb
    generalize leVal _ = n at hT hR
    exact gold_bytes_true _ _ _ _ _ _ _ _ _ _ _ _ _ _ _ _ a n _ S gold_Awake.pure hB hT hR hV (law_e a) (law_e n) hM (g_Of ha).pure hC hD eql28_selfB w
  · rw [if_neg h] at hT
    simp only [if_neg h, decide_eq_false h] at hR
    rw [E_small (a := 0) (by unfold is64; omega)] at hR
    obtain ⟨b0, b1, b2, b3, b4, b5, b6, b7, rfl⟩ := list8 lb
    exact gold_bytes_false _ _ _ _ _ _ _ _ _ _ _ _ _ _ _ _ a 0 _ S gold_Awake.pure hB hT hR hV (law_e a) (law_e 0) hM (g_Of ha).pure hC hD eql28_selfB w
end Go.Proofs.Ytnajihlhcdedgaa
