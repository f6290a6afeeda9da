/-
  FieldRoots: for every order the law returns true.
-/
import Derived.Test.YtnajihlhcdedgaaFAw
namespace Go.Proofs.Ytnajihlhcdedgaa
open Go.RowKit
set_option linter.unusedVariables false
set_option linter.unusedSimpArgs false
attribute [local simp] blkAt_setCell blkAt_alloc blkAt_drew Obj.put_cells

theorem eql28_selfF (s t : Int) (w : World) : (binOp .eql 28 (.agg #[.int .u64 s, .int .u64 t]) (.agg #[.int .u64 s, .int .u64 t])).run Try.prog w = .ok (.bool true) w := by rw [run_eql28]; simp
set_option maxRecDepth 100000 in
set_option maxHeartbeats 4000000 in
theorem field_roots_r (l n e m0 m1 k : Int) (hS : Pure Try.prog 83 #[.int .u8 1, .int .i64 l] (.tuple #[.agg #[.int .u64 n, .int .u64 0], .int .i64 e])) (hG : Pure Try.prog 46 #[.int .i64 l] (.tuple #[.int .u64 n, .int .i64 e]))
    (hL : Pure Try.prog 83 #[.int .u8 2, .int .i64 l] (.tuple #[.agg #[.int .u64 m0, .int .u64 m1], .int .i64 k])) (hW : Pure Try.prog 68 #[.int .i64 l] (.tuple #[.agg #[.int .u64 m0, .int .u64 m1], .int .i64 k])) (w : World) :
    Calls Try.prog 18 #[.int .i64 l] w fun e w' => e = .returned (.bool true) ∧ Kept w w' := by
  have HA := Lib.hid f_Awake
  have HS := Lib.hid hS
  have HG := Lib.hid hG
  have HL := Lib.hid hL
  have HW := Lib.hid hW
  have HR1 := Lib.hid f_Roots_s
  have HR2 := Lib.hid f_Roots_l
  clear hS hG hL hW
  have hs := eql28_selfF
  go_enter Try.func18, Try.ntmps18
  go_wp2_with fail
  refine (HA.out _).mono ?_
  rintro e W1 ⟨rfl, kW1⟩
  go_wp2_with fail
  refine (HS.out _).mono ?_
  rintro e W2 ⟨rfl, hkW2⟩
  have kW2 := kW1.trans hkW2
  clear kW1 hkW2
  obtain ⟨g3, hg3⟩ : ∃ b, W2.heap.size = b := ⟨_, rfl⟩
  have log3 : w.heap.size ≤ g3 := hg3 ▸ kW2.size
  go_upto_region 4 with (fail)
  refine abs_world (fun W => Kept w W ∧ Blk W (g3) 28 #[.int .u64 n, .int .u64 0]) ?_ ?_
  · refine ⟨?_, ?_⟩
    · repeat (first | exact kW2 | (refine Kept.setCell ?_ (kept_side (by first | assumption | omega)) _) | apply Kept.alloc | apply Kept.drew)
    · simp [Blk, *] <;> (intros; omega)
  rintro W3 ⟨kW3, BW3_0⟩
  have cW3_0_0 : W3.cell? ⟨g3, 0, none⟩ = some (.int .u64 n) := BW3_0.cell 0 rfl
  have cW3_0_1 : W3.cell? ⟨g3, 1, none⟩ = some (.int .u64 0) := BW3_0.cell 1 rfl
  have fW3_0 := BW3_0.free
  go_wp2_with fail
  refine (HG.out _).mono ?_
  rintro e W4 ⟨rfl, hkW4⟩
  have kW4 := kW3.trans hkW4
  have BW4_0 := BW3_0.kept hkW4
  clear cW3_0_0 cW3_0_1 fW3_0 BW3_0 kW3 hkW4
  have cW4_0_0 : W4.cell? ⟨g3, 0, none⟩ = some (.int .u64 n) := BW4_0.cell 0 rfl
  have cW4_0_1 : W4.cell? ⟨g3, 1, none⟩ = some (.int .u64 0) := BW4_0.cell 1 rfl
  have fW4_0 := BW4_0.free
  go_wp2_with fail
  refine (HL.out _).mono ?_
  rintro e W5 ⟨rfl, hkW5⟩
  have kW5 := kW4.trans hkW5
  have BW5_0 := BW4_0.kept hkW5
  clear cW4_0_0 cW4_0_1 fW4_0 BW4_0 kW4 hkW5
  have cW5_0_0 : W5.cell? ⟨g3, 0, none⟩ = some (.int .u64 n) := BW5_0.cell 0 rfl
  have cW5_0_1 : W5.cell? ⟨g3, 1, none⟩ = some (.int .u64 0) := BW5_0.cell 1 rfl
  have fW5_0 := BW5_0.free
  obtain ⟨g7, hg7⟩ : ∃ b, W5.heap.size = b := ⟨_, rfl⟩
  have neg7_0 : g3 ≠ g7 := by have := BW5_0.lt; omega
  have eng7_0 : g7 ≠ g3 := neg7_0.symm
  have log7 : w.heap.size ≤ g7 := hg7 ▸ kW5.size
  go_upto_region 6 with (fail)
  refine abs_world (fun W => Kept w W ∧ Blk W (g3) 28 #[.int .u64 n, .int .u64 0] ∧ Blk W (g7) 28 #[.int .u64 m0, .int .u64 m1]) ?_ ?_
  · refine ⟨?_, ?_, ?_⟩
    · repeat (first | exact kW5 | (refine Kept.setCell ?_ (kept_side (by first | assumption | omega)) _) | apply Kept.alloc | apply Kept.drew)
    · simp [Blk, *] <;> (intros; omega)
    · simp [Blk, *] <;> (intros; omega)
  rintro W6 ⟨kW6, BW6_0, BW6_1⟩
  have cW6_0_0 : W6.cell? ⟨g3, 0, none⟩ = some (.int .u64 n) := BW6_0.cell 0 rfl
  have cW6_0_1 : W6.cell? ⟨g3, 1, none⟩ = some (.int .u64 0) := BW6_0.cell 1 rfl
  have fW6_0 := BW6_0.free
  have cW6_1_0 : W6.cell? ⟨g7, 0, none⟩ = some (.int .u64 m0) := BW6_1.cell 0 rfl
  have cW6_1_1 : W6.cell? ⟨g7, 1, none⟩ = some (.int .u64 m1) := BW6_1.cell 1 rfl
  have fW6_1 := BW6_1.free
  go_wp2_with fail
  refine (HW.out _).mono ?_
  rintro e W7 ⟨rfl, hkW7⟩
  have kW7 := kW6.trans hkW7
  have BW7_0 := BW6_0.kept hkW7
  have BW7_1 := BW6_1.kept hkW7
  clear cW6_0_0 cW6_0_1 cW6_1_0 cW6_1_1 fW6_0 fW6_1 BW6_0 BW6_1 kW6 hkW7
  have cW7_0_0 : W7.cell? ⟨g3, 0, none⟩ = some (.int .u64 n) := BW7_0.cell 0 rfl
  have cW7_0_1 : W7.cell? ⟨g3, 1, none⟩ = some (.int .u64 0) := BW7_0.cell 1 rfl
  have fW7_0 := BW7_0.free
  have cW7_1_0 : W7.cell? ⟨g7, 0, none⟩ = some (.int .u64 m0) := BW7_1.cell 0 rfl
  have cW7_1_1 : W7.cell? ⟨g7, 1, none⟩ = some (.int .u64 m1) := BW7_1.cell 1 rfl
  have fW7_1 := BW7_1.free
  obtain ⟨g9, hg9⟩ : ∃ b, W7.heap.size = b := ⟨_, rfl⟩
  have neg9_0 : g3 ≠ g9 := by have := BW7_0.lt; omega
  have eng9_0 : g9 ≠ g3 := neg9_0.symm
  have neg9_1 : g7 ≠ g9 := by have := BW7_1.lt; omega
  have eng9_1 : g9 ≠ g7 := neg9_1.symm
  have log9 : w.heap.size ≤ g9 := hg9 ▸ kW7.size
  go_upto_region 7 with (fail)
  refine abs_world (fun W => Kept w W ∧ Blk W (g3) 28 #[.int .u64 n, .int .u64 0] ∧ Blk W (g7) 28 #[.int .u64 m0, .int .u64 m1] ∧ Blk W (g9) 28 #[.int .u64 m0, .int .u64 m1]) ?_ ?_
  · refine ⟨?_, ?_, ?_, ?_⟩
    · repeat (first | exact kW7 | (refine Kept.setCell ?_ (kept_side (by first | assumption | omega)) _) | apply Kept.alloc | apply Kept.drew)
    · simp [Blk, *] <;> (intros; omega)
    · simp [Blk, *] <;> (intros; omega)
    · simp [Blk, *] <;> (intros; omega)
  rintro W8 ⟨kW8, BW8_0, BW8_1, BW8_2⟩
  have cW8_0_0 : W8.cell? ⟨g3, 0, none⟩ = some (.int .u64 n) := BW8_0.cell 0 rfl
  have cW8_0_1 : W8.cell? ⟨g3, 1, none⟩ = some (.int .u64 0) := BW8_0.cell 1 rfl
  have fW8_0 := BW8_0.free
  have cW8_1_0 : W8.cell? ⟨g7, 0, none⟩ = some (.int .u64 m0) := BW8_1.cell 0 rfl
  have cW8_1_1 : W8.cell? ⟨g7, 1, none⟩ = some (.int .u64 m1) := BW8_1.cell 1 rfl
  have fW8_1 := BW8_1.free
  have cW8_2_0 : W8.cell? ⟨g9, 0, none⟩ = some (.int .u64 m0) := BW8_2.cell 0 rfl
  have cW8_2_1 : W8.cell? ⟨g9, 1, none⟩ = some (.int .u64 m1) := BW8_2.cell 1 rfl
  have fW8_2 := BW8_2.free
  go_wp2_with fail
  refine (HR1.out _).mono ?_
  rintro e W9 ⟨rfl, hkW9⟩
  have kW9 := kW8.trans hkW9
  have BW9_0 := BW8_0.kept hkW9
  have BW9_1 := BW8_1.kept hkW9
  have BW9_2 := BW8_2.kept hkW9
  clear cW8_0_0 cW8_0_1 cW8_1_0 cW8_1_1 cW8_2_0 cW8_2_1 fW8_0 fW8_1 fW8_2 BW8_0 BW8_1 BW8_2 kW8 hkW9
  have cW9_0_0 : W9.cell? ⟨g3, 0, none⟩ = some (.int .u64 n) := BW9_0.cell 0 rfl
  have cW9_0_1 : W9.cell? ⟨g3, 1, none⟩ = some (.int .u64 0) := BW9_0.cell 1 rfl
  have fW9_0 := BW9_0.free
  have cW9_1_0 : W9.cell? ⟨g7, 0, none⟩ = some (.int .u64 m0) := BW9_1.cell 0 rfl
  have cW9_1_1 : W9.cell? ⟨g7, 1, none⟩ = some (.int .u64 m1) := BW9_1.cell 1 rfl
  have fW9_1 := BW9_1.free
  have cW9_2_0 : W9.cell? ⟨g9, 0, none⟩ = some (.int .u64 m0) := BW9_2.cell 0 rfl
  have cW9_2_1 : W9.cell? ⟨g9, 1, none⟩ = some (.int .u64 m1) := BW9_2.cell 1 rfl
  have fW9_2 := BW9_2.free
  go_wp2_with fail
  refine (HR2.out _).mono ?_
  rintro e W10 ⟨rfl, hkW10⟩
  have kW10 := kW9.trans hkW10
  have BW10_0 := BW9_0.kept hkW10
  have BW10_1 := BW9_1.kept hkW10
  have BW10_2 := BW9_2.kept hkW10
  clear cW9_0_0 cW9_0_1 cW9_1_0 cW9_1_1 cW9_2_0 cW9_2_1 fW9_0 fW9_1 fW9_2 BW9_0 BW9_1 BW9_2 kW9 hkW10
  have cW10_0_0 : W10.cell? ⟨g3, 0, none⟩ = some (.int .u64 n) := BW10_0.cell 0 rfl
  have cW10_0_1 : W10.cell? ⟨g3, 1, none⟩ = some (.int .u64 0) := BW10_0.cell 1 rfl
  have fW10_0 := BW10_0.free
  have cW10_1_0 : W10.cell? ⟨g7, 0, none⟩ = some (.int .u64 m0) := BW10_1.cell 0 rfl
  have cW10_1_1 : W10.cell? ⟨g7, 1, none⟩ = some (.int .u64 m1) := BW10_1.cell 1 rfl
  have fW10_1 := BW10_1.free
  have cW10_2_0 : W10.cell? ⟨g9, 0, none⟩ = some (.int .u64 m0) := BW10_2.cell 0 rfl
  have cW10_2_1 : W10.cell? ⟨g9, 1, none⟩ = some (.int .u64 m1) := BW10_2.cell 1 rfl
  have fW10_2 := BW10_2.free
  go_wp2_with fail
  go_ret
  exact ⟨rfl, kW10⟩
theorem fieldRoots_walk (l : Int) (wl : (Lit.int .i64 l).wf = true) (w : World) : Calls Try.prog 18 #[.int .i64 l] w fun e w' => e = .returned (.bool true) ∧ Kept w w' := by
  obtain ⟨n, e, hG⟩ : ∃ n e, Pure Try.prog 46 #[.int .i64 l] (.tuple #[.int .u64 n, .int .i64 e]) := by
    by_cases h : 0 ≤ l ∧ l ≤ 32
    · exact ⟨_, _, (g_Root h.1 h.2).pure⟩
    · exact ⟨_, _, (g_Root_no (by omega)).pure⟩
  obtain ⟨m0, m1, k, hW⟩ : ∃ m0 m1 k, Pure Try.prog 68 #[.int .i64 l] (.tuple #[.agg #[.int .u64 m0, .int .u64 m1], .int .i64 k]) := by
    by_cases h : 0 ≤ l ∧ l ≤ 66
    · exact ⟨_, _, _, w_Root h.1 h.2⟩
    · exact ⟨_, _, _, w_Root_no l (by omega)⟩
  exact field_roots_r l n e m0 m1 k (f_Root_s _ _ _ hG) hG (f_Root_l _ _ _ _ hW) hW w
end Go.Proofs.Ytnajihlhcdedgaa
