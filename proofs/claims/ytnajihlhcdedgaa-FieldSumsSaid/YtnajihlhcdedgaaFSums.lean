/-
  FieldSums: for every two elements the law returns true.
-/
import Derived.Test.YtnajihlhcdedgaaFRoots
import Derived.Test.YtnajihlhcdedgaaG6
import Derived.Test.YtnajihlhcdedgaaMark5
namespace Go.Proofs.Ytnajihlhcdedgaa
open Go.RowKit
set_option linter.unusedVariables false
set_option linter.unusedSimpArgs false
attribute [local simp] blkAt_setCell blkAt_alloc blkAt_drew Obj.put_cells

theorem isMakerF11 : isMaker Try.prog { dst := some 11, op := Op.alloc 28, type := 28, pos := "law.go:27", after := #[], guard := none } (fun b => .pointer (some ⟨b, 0, none⟩), .cells #[.int .u64 0, .int .u64 0] 28) :=
  ⟨rfl, fun a w => by go_simp⟩
theorem isMakerF12 : isMaker Try.prog { dst := some 12, op := Op.alloc 28, type := 28, pos := "law.go:27", after := #[], guard := none } (fun b => .pointer (some ⟨b, 0, none⟩), .cells #[.int .u64 0, .int .u64 0] 28) :=
  ⟨rfl, fun a w => by go_simp⟩

set_option maxRecDepth 100000 in
set_option maxHeartbeats 8000000 in
theorem field_sums_zero (n f k a0 a1 b0 b1 x0 x1 y0 y1 i0 i1 s0 s1 d0 d1 g0 g1 m0 m1 p0 p1 o0 o1 z : Int) (bi : Bool) (wf : IntKind.i64.wrap f = f) (hx : decide (x0 = 0 ∧ x1 = 0) = true)
    (hF : Pure Try.prog 77 #[.int .u8 n] (.int .u8 f))
    (hOa : Pure Try.prog 32 #[.int .i64 f, .agg #[.int .u64 a0, .int .u64 a1]] (.agg #[.int .u64 x0, .int .u64 x1]))
    (hOb : Pure Try.prog 32 #[.int .i64 f, .agg #[.int .u64 b0, .int .u64 b1]] (.agg #[.int .u64 y0, .int .u64 y1]))
    (hAd : Pure Try.prog 99 #[.int .u8 f, .agg #[.int .u64 a0, .int .u64 a1], .agg #[.int .u64 b0, .int .u64 b1]] (.agg #[.int .u64 s0, .int .u64 s1]))
    (hrAd : Pure Try.prog 35 #[.int .i64 f, .agg #[.int .u64 x0, .int .u64 x1], .agg #[.int .u64 y0, .int .u64 y1]] (.agg #[.int .u64 s0, .int .u64 s1]))
    (hSu : Pure Try.prog 100 #[.int .u8 f, .agg #[.int .u64 a0, .int .u64 a1], .agg #[.int .u64 b0, .int .u64 b1]] (.agg #[.int .u64 d0, .int .u64 d1]))
    (hrSu : Pure Try.prog 36 #[.int .i64 f, .agg #[.int .u64 x0, .int .u64 x1], .agg #[.int .u64 y0, .int .u64 y1]] (.agg #[.int .u64 d0, .int .u64 d1]))
    (hNe : Pure Try.prog 101 #[.int .u8 f, .agg #[.int .u64 a0, .int .u64 a1]] (.agg #[.int .u64 g0, .int .u64 g1]))
    (hrNe : Pure Try.prog 37 #[.int .i64 f, .agg #[.int .u64 x0, .int .u64 x1]] (.agg #[.int .u64 g0, .int .u64 g1]))
    (hMu : Pure Try.prog 102 #[.int .u8 f, .agg #[.int .u64 a0, .int .u64 a1], .agg #[.int .u64 b0, .int .u64 b1]] (.agg #[.int .u64 m0, .int .u64 m1]))
    (hrMu : Pure Try.prog 38 #[.int .i64 f, .agg #[.int .u64 x0, .int .u64 x1], .agg #[.int .u64 y0, .int .u64 y1]] (.agg #[.int .u64 m0, .int .u64 m1]))
    (hPo : Pure Try.prog 103 #[.int .u8 f, .agg #[.int .u64 a0, .int .u64 a1], .int .u64 k] (.agg #[.int .u64 p0, .int .u64 p1]))
    (hrPo : Pure Try.prog 40 #[.int .i64 f, .agg #[.int .u64 x0, .int .u64 x1], .agg #[.int .u64 k, .int .u64 0]] (.agg #[.int .u64 p0, .int .u64 p1]))
    (hOf : Pure Try.prog 104 #[.int .u8 f, .int .u64 k] (.agg #[.int .u64 o0, .int .u64 o1]))
    (hrOf : Pure Try.prog 32 #[.int .i64 f, .agg #[.int .u64 k, .int .u64 0]] (.agg #[.int .u64 o0, .int .u64 o1]))
    (hOn : Pure Try.prog 105 #[.int .u8 f] (.agg #[.int .u64 1, .int .u64 0]))
    (hIn : Pure Try.prog 106 #[.int .u8 f, .agg #[.int .u64 a0, .int .u64 a1]] (.bool bi))
    (hrIn : Pure Try.prog 93 #[.int .i64 f, .agg #[.int .u64 a0, .int .u64 a1]] (.bool bi))
    (hSi : Pure Try.prog 89 #[.int .u8 f] (.int .i64 z))
    (hrSi : Pure Try.prog 107 #[.int .i64 f] (.int .i64 z))
    (hVa : Pure Try.prog 108 #[.int .u8 f] (.bool true))
    (hI : Pure Try.prog 98 #[.int .u8 f, .agg #[.int .u64 a0, .int .u64 a1]] (.tuple #[.agg #[.int .u64 i0, .int .u64 i1], .int .i64 8])) (w : World) :
    Calls Try.prog 24 #[.int .u8 n, .agg #[.int .u64 a0, .int .u64 a1], .agg #[.int .u64 b0, .int .u64 b1], .int .u64 k] w fun e w' => e = .returned (.bool true) ∧ Kept w w' := by
  have HA := Lib.hid f_Awake
  have HF := Lib.hid hF
  have HOa := Lib.hid hOa
  have HOb := Lib.hid hOb
  have HAd := Lib.hid hAd
  have HrAd := Lib.hid hrAd
  have HSu := Lib.hid hSu
  have HrSu := Lib.hid hrSu
  have HNe := Lib.hid hNe
  have HrNe := Lib.hid hrNe
  have HMu := Lib.hid hMu
  have HrMu := Lib.hid hrMu
  have HPo := Lib.hid hPo
  have HrPo := Lib.hid hrPo
  have HOf := Lib.hid hOf
  have HrOf := Lib.hid hrOf
  have HOn := Lib.hid hOn
  have HIn := Lib.hid hIn
  have HrIn := Lib.hid hrIn
  have HSi := Lib.hid hSi
  have HrSi := Lib.hid hrSi
  have HVa := Lib.hid hVa
  have HI := Lib.hid hI
  clear hF hOa hOb hAd hrAd hSu hrSu hNe hrNe hMu hrMu hPo hrPo hOf hrOf hOn hIn hrIn hSi hrSi hVa hI
  have hz := fun w => run_eql28 x0 x1 0 0 w
  simp only [hx] at hz
  have hs := eql28_selfF
  have hn := neq28_self
  clear hx
  go_enter Try.func24, Try.ntmps24
  go_wp2_with fail
  refine abs_calls (fun W => Kept w W ∧ Blk W (w.heap.size) 28 #[.int .u64 a0, .int .u64 a1] ∧ Blk W (w.heap.size + 1) 28 #[.int .u64 b0, .int .u64 b1]) ?_ ?_
  · refine ⟨?_, ?_, ?_⟩
    · repeat (first | exact Kept.refl _ | (refine Kept.setCell ?_ (kept_side (by first | assumption | omega)) _) | apply Kept.alloc | apply Kept.drew)
    · simp [Blk, *] <;> (intros; omega)
    · simp [Blk, *] <;> (intros; omega)
  rintro W1 ⟨kW1, BW1_0, BW1_1⟩
  have cW1_0_0 : W1.cell? ⟨w.heap.size, 0, none⟩ = some (.int .u64 a0) := BW1_0.cell 0 rfl
  have cW1_0_1 : W1.cell? ⟨w.heap.size, 1, none⟩ = some (.int .u64 a1) := BW1_0.cell 1 rfl
  have fW1_0 := BW1_0.free
  have cW1_1_0 : W1.cell? ⟨w.heap.size + 1, 0, none⟩ = some (.int .u64 b0) := BW1_1.cell 0 rfl
  have cW1_1_1 : W1.cell? ⟨w.heap.size + 1, 1, none⟩ = some (.int .u64 b1) := BW1_1.cell 1 rfl
  have fW1_1 := BW1_1.free
  refine (HA.out _).mono ?_
  rintro e W2 ⟨rfl, hkW2⟩
  have kW2 := kW1.trans hkW2
  have BW2_0 := BW1_0.kept hkW2
  have BW2_1 := BW1_1.kept hkW2
  clear cW1_0_0 cW1_0_1 cW1_1_0 cW1_1_1 fW1_0 fW1_1 BW1_0 BW1_1 kW1 hkW2
  have cW2_0_0 : W2.cell? ⟨w.heap.size, 0, none⟩ = some (.int .u64 a0) := BW2_0.cell 0 rfl
  have cW2_0_1 : W2.cell? ⟨w.heap.size, 1, none⟩ = some (.int .u64 a1) := BW2_0.cell 1 rfl
  have fW2_0 := BW2_0.free
  have cW2_1_0 : W2.cell? ⟨w.heap.size + 1, 0, none⟩ = some (.int .u64 b0) := BW2_1.cell 0 rfl
  have cW2_1_1 : W2.cell? ⟨w.heap.size + 1, 1, none⟩ = some (.int .u64 b1) := BW2_1.cell 1 rfl
  have fW2_1 := BW2_1.free
  go_wp2_with fail
  refine (HF.out _).mono ?_
  rintro e W3 ⟨rfl, hkW3⟩
  have kW3 := kW2.trans hkW3
  have BW3_0 := BW2_0.kept hkW3
  have BW3_1 := BW2_1.kept hkW3
  clear cW2_0_0 cW2_0_1 cW2_1_0 cW2_1_1 fW2_0 fW2_1 BW2_0 BW2_1 kW2 hkW3
  have cW3_0_0 : W3.cell? ⟨w.heap.size, 0, none⟩ = some (.int .u64 a0) := BW3_0.cell 0 rfl
  have cW3_0_1 : W3.cell? ⟨w.heap.size, 1, none⟩ = some (.int .u64 a1) := BW3_0.cell 1 rfl
  have fW3_0 := BW3_0.free
  have cW3_1_0 : W3.cell? ⟨w.heap.size + 1, 0, none⟩ = some (.int .u64 b0) := BW3_1.cell 0 rfl
  have cW3_1_1 : W3.cell? ⟨w.heap.size + 1, 1, none⟩ = some (.int .u64 b1) := BW3_1.cell 1 rfl
  have fW3_1 := BW3_1.free
  go_wp2_with fail
  refine (HF.out _).mono ?_
  rintro e W4 ⟨rfl, hkW4⟩
  have kW4 := kW3.trans hkW4
  have BW4_0 := BW3_0.kept hkW4
  have BW4_1 := BW3_1.kept hkW4
  clear cW3_0_0 cW3_0_1 cW3_1_0 cW3_1_1 fW3_0 fW3_1 BW3_0 BW3_1 kW3 hkW4
  have cW4_0_0 : W4.cell? ⟨w.heap.size, 0, none⟩ = some (.int .u64 a0) := BW4_0.cell 0 rfl
  have cW4_0_1 : W4.cell? ⟨w.heap.size, 1, none⟩ = some (.int .u64 a1) := BW4_0.cell 1 rfl
  have fW4_0 := BW4_0.free
  have cW4_1_0 : W4.cell? ⟨w.heap.size + 1, 0, none⟩ = some (.int .u64 b0) := BW4_1.cell 0 rfl
  have cW4_1_1 : W4.cell? ⟨w.heap.size + 1, 1, none⟩ = some (.int .u64 b1) := BW4_1.cell 1 rfl
  have fW4_1 := BW4_1.free
  go_wp2_with fail
  refine wp_region_calm2 6 _ _ _ _ (by kernel_rfl) (by kernel_rfl) rfl rfl isMakerF11 isMakerF12 (by rintro d ⟨⟩; decide) (by kernel_rfl) (by kernel_rfl) (by kernel_rfl) ?_
  simp only [List.take_succ_cons, List.take_zero, List.drop_succ_cons, List.drop_zero]
  repeat (first
    | (refine calm_skip rfl ?_; simp only [Act.put, List.setIfInBounds_toArray, List.set_cons_zero, List.set_cons_succ])
    | (refine calm_ex rfl ?_; apply Exists.intro; refine And.intro (fun w' hk => ?_) ?_; (focus (have q0 := hk.cell cW4_0_0; have q1 := hk.cell cW4_0_1; have q2 := hk.cell cW4_1_0; have q3 := hk.cell cW4_1_1; clear hk; go_simp; exact rfl)); simp only [Act.put, List.setIfInBounds_toArray, List.set_cons_zero, List.set_cons_succ])
    | (refine calm_step _ rfl (HOa.out.call ?_) ?_; (focus (intro w'; go_simp; done)); simp only [Act.put, List.setIfInBounds_toArray, List.set_cons_zero, List.set_cons_succ])
    | (refine calm_step _ rfl (HOb.out.call ?_) ?_; (focus (intro w'; go_simp; done)); simp only [Act.put, List.setIfInBounds_toArray, List.set_cons_zero, List.set_cons_succ]))
  refine calm_nil ?_
  intro W5 b5 b6 hkW5 hlob5 hlob6 hneb5 hatb5 hatb6
  simp only [Act.put, List.setIfInBounds_toArray, List.set_cons_zero, List.set_cons_succ]
  have neb5_0 : w.heap.size ≠ b5 := by have := BW4_0.lt; omega
  have enb5_0 : b5 ≠ w.heap.size := neb5_0.symm
  have neb5_1 : w.heap.size + 1 ≠ b5 := by have := BW4_1.lt; omega
  have enb5_1 : b5 ≠ w.heap.size + 1 := neb5_1.symm
  have lob5 : w.heap.size ≤ b5 := Nat.le_trans kW4.size hlob5
  have neb6_0 : w.heap.size ≠ b6 := by have := BW4_0.lt; omega
  have enb6_0 : b6 ≠ w.heap.size := neb6_0.symm
  have neb6_1 : w.heap.size + 1 ≠ b6 := by have := BW4_1.lt; omega
  have enb6_1 : b6 ≠ w.heap.size + 1 := neb6_1.symm
  have lob6 : w.heap.size ≤ b6 := Nat.le_trans kW4.size hlob6
  have hneb6 : b6 ≠ b5 := hneb5.symm
  have BW5_2 : Blk W5 (b5) 28 #[.int .u64 0, .int .u64 0] := hatb5
  have BW5_3 : Blk W5 (b6) 28 #[.int .u64 0, .int .u64 0] := hatb6
  clear hatb5 hatb6 hlob5 hlob6
  have kW5 := kW4.trans hkW5
  have BW5_0 := BW4_0.kept hkW5
  have BW5_1 := BW4_1.kept hkW5
  clear cW4_0_0 cW4_0_1 cW4_1_0 cW4_1_1 fW4_0 fW4_1 BW4_0 BW4_1 kW4 hkW5
  have cW5_0_0 : W5.cell? ⟨w.heap.size, 0, none⟩ = some (.int .u64 a0) := BW5_0.cell 0 rfl
  have cW5_0_1 : W5.cell? ⟨w.heap.size, 1, none⟩ = some (.int .u64 a1) := BW5_0.cell 1 rfl
  have fW5_0 := BW5_0.free
  have cW5_1_0 : W5.cell? ⟨w.heap.size + 1, 0, none⟩ = some (.int .u64 b0) := BW5_1.cell 0 rfl
  have cW5_1_1 : W5.cell? ⟨w.heap.size + 1, 1, none⟩ = some (.int .u64 b1) := BW5_1.cell 1 rfl
  have fW5_1 := BW5_1.free
  have cW5_2_0 := BW5_2.cell 0 rfl
  have cW5_2_1 := BW5_2.cell 1 rfl
  have fW5_2 := BW5_2.free
  have cW5_3_0 := BW5_3.cell 0 rfl
  have cW5_3_1 := BW5_3.cell 1 rfl
  have fW5_3 := BW5_3.free
  go_upto_region 5 with (fail)
  refine abs_world (fun W => Kept w W ∧ Blk W (w.heap.size) 28 #[.int .u64 a0, .int .u64 a1] ∧ Blk W (w.heap.size + 1) 28 #[.int .u64 b0, .int .u64 b1] ∧ Blk W (b5) 28 #[.int .u64 x0, .int .u64 x1] ∧ Blk W (b6) 28 #[.int .u64 y0, .int .u64 y1]) ?_ ?_
  · refine ⟨?_, ?_, ?_, ?_, ?_⟩
    · repeat (first | exact kW5 | (refine Kept.setCell ?_ (kept_side (by first | assumption | omega)) _) | apply Kept.alloc | apply Kept.drew)
    · simp [Blk, *] <;> (intros; omega)
    · simp [Blk, *] <;> (intros; omega)
    · simp [Blk, *] <;> (intros; omega)
    · simp [Blk, *] <;> (intros; omega)
  rintro W6 ⟨kW6, BW6_0, BW6_1, BW6_2, BW6_3⟩
  have cW6_0_0 : W6.cell? ⟨w.heap.size, 0, none⟩ = some (.int .u64 a0) := BW6_0.cell 0 rfl
  have cW6_0_1 : W6.cell? ⟨w.heap.size, 1, none⟩ = some (.int .u64 a1) := BW6_0.cell 1 rfl
  have fW6_0 := BW6_0.free
  have cW6_1_0 : W6.cell? ⟨w.heap.size + 1, 0, none⟩ = some (.int .u64 b0) := BW6_1.cell 0 rfl
  have cW6_1_1 : W6.cell? ⟨w.heap.size + 1, 1, none⟩ = some (.int .u64 b1) := BW6_1.cell 1 rfl
  have fW6_1 := BW6_1.free
  have cW6_2_0 : W6.cell? ⟨b5, 0, none⟩ = some (.int .u64 x0) := BW6_2.cell 0 rfl
  have cW6_2_1 : W6.cell? ⟨b5, 1, none⟩ = some (.int .u64 x1) := BW6_2.cell 1 rfl
  have fW6_2 := BW6_2.free
  have cW6_3_0 : W6.cell? ⟨b6, 0, none⟩ = some (.int .u64 y0) := BW6_3.cell 0 rfl
  have cW6_3_1 : W6.cell? ⟨b6, 1, none⟩ = some (.int .u64 y1) := BW6_3.cell 1 rfl
  have fW6_3 := BW6_3.free
  go_wp2_with fail
  refine (HI.out _).mono ?_
  rintro e W7 ⟨rfl, hkW7⟩
  have kW7 := kW6.trans hkW7
  have BW7_0 := BW6_0.kept hkW7
  have BW7_1 := BW6_1.kept hkW7
  have BW7_2 := BW6_2.kept hkW7
  have BW7_3 := BW6_3.kept hkW7
  clear cW6_0_0 cW6_0_1 cW6_1_0 cW6_1_1 cW6_2_0 cW6_2_1 cW6_3_0 cW6_3_1 fW6_0 fW6_1 fW6_2 fW6_3 BW6_0 BW6_1 BW6_2 BW6_3 kW6 hkW7
  have cW7_0_0 : W7.cell? ⟨w.heap.size, 0, none⟩ = some (.int .u64 a0) := BW7_0.cell 0 rfl
  have cW7_0_1 : W7.cell? ⟨w.heap.size, 1, none⟩ = some (.int .u64 a1) := BW7_0.cell 1 rfl
  have fW7_0 := BW7_0.free
  have cW7_1_0 : W7.cell? ⟨w.heap.size + 1, 0, none⟩ = some (.int .u64 b0) := BW7_1.cell 0 rfl
  have cW7_1_1 : W7.cell? ⟨w.heap.size + 1, 1, none⟩ = some (.int .u64 b1) := BW7_1.cell 1 rfl
  have fW7_1 := BW7_1.free
  have cW7_2_0 : W7.cell? ⟨b5, 0, none⟩ = some (.int .u64 x0) := BW7_2.cell 0 rfl
  have cW7_2_1 : W7.cell? ⟨b5, 1, none⟩ = some (.int .u64 x1) := BW7_2.cell 1 rfl
  have fW7_2 := BW7_2.free
  have cW7_3_0 : W7.cell? ⟨b6, 0, none⟩ = some (.int .u64 y0) := BW7_3.cell 0 rfl
  have cW7_3_1 : W7.cell? ⟨b6, 1, none⟩ = some (.int .u64 y1) := BW7_3.cell 1 rfl
  have fW7_3 := BW7_3.free
  obtain ⟨g13, hg13⟩ : ∃ b, W7.heap.size = b := ⟨_, rfl⟩
  have neg13_0 : w.heap.size ≠ g13 := by have := BW7_0.lt; omega
  have eng13_0 : g13 ≠ w.heap.size := neg13_0.symm
  have neg13_1 : w.heap.size + 1 ≠ g13 := by have := BW7_1.lt; omega
  have eng13_1 : g13 ≠ w.heap.size + 1 := neg13_1.symm
  have neg13_2 : b5 ≠ g13 := by have := BW7_2.lt; omega
  have eng13_2 : g13 ≠ b5 := neg13_2.symm
  have neg13_3 : b6 ≠ g13 := by have := BW7_3.lt; omega
  have eng13_3 : g13 ≠ b6 := neg13_3.symm
  have log13 : w.heap.size ≤ g13 := hg13 ▸ kW7.size
  go_upto_region 6 with (fail)
  refine abs_world (fun W => Kept w W ∧ Blk W (w.heap.size) 28 #[.int .u64 a0, .int .u64 a1] ∧ Blk W (w.heap.size + 1) 28 #[.int .u64 b0, .int .u64 b1] ∧ Blk W (b5) 28 #[.int .u64 x0, .int .u64 x1] ∧ Blk W (b6) 28 #[.int .u64 y0, .int .u64 y1] ∧ Blk W (g13) 28 #[.int .u64 i0, .int .u64 i1]) ?_ ?_
  · refine ⟨?_, ?_, ?_, ?_, ?_, ?_⟩
    · repeat (first | exact kW7 | (refine Kept.setCell ?_ (kept_side (by first | assumption | omega)) _) | apply Kept.alloc | apply Kept.drew)
    · simp [Blk, *] <;> (intros; omega)
    · simp [Blk, *] <;> (intros; omega)
    · simp [Blk, *] <;> (intros; omega)
    · simp [Blk, *] <;> (intros; omega)
    · simp [Blk, *] <;> (intros; omega)
  rintro W8 ⟨kW8, BW8_0, BW8_1, BW8_2, BW8_3, BW8_4⟩
  have cW8_0_0 : W8.cell? ⟨w.heap.size, 0, none⟩ = some (.int .u64 a0) := BW8_0.cell 0 rfl
  have cW8_0_1 : W8.cell? ⟨w.heap.size, 1, none⟩ = some (.int .u64 a1) := BW8_0.cell 1 rfl
  have fW8_0 := BW8_0.free
  have cW8_1_0 : W8.cell? ⟨w.heap.size + 1, 0, none⟩ = some (.int .u64 b0) := BW8_1.cell 0 rfl
  have cW8_1_1 : W8.cell? ⟨w.heap.size + 1, 1, none⟩ = some (.int .u64 b1) := BW8_1.cell 1 rfl
  have fW8_1 := BW8_1.free
  have cW8_2_0 : W8.cell? ⟨b5, 0, none⟩ = some (.int .u64 x0) := BW8_2.cell 0 rfl
  have cW8_2_1 : W8.cell? ⟨b5, 1, none⟩ = some (.int .u64 x1) := BW8_2.cell 1 rfl
  have fW8_2 := BW8_2.free
  have cW8_3_0 : W8.cell? ⟨b6, 0, none⟩ = some (.int .u64 y0) := BW8_3.cell 0 rfl
  have cW8_3_1 : W8.cell? ⟨b6, 1, none⟩ = some (.int .u64 y1) := BW8_3.cell 1 rfl
  have fW8_3 := BW8_3.free
  have cW8_4_0 : W8.cell? ⟨g13, 0, none⟩ = some (.int .u64 i0) := BW8_4.cell 0 rfl
  have cW8_4_1 : W8.cell? ⟨g13, 1, none⟩ = some (.int .u64 i1) := BW8_4.cell 1 rfl
  have fW8_4 := BW8_4.free
  go_wp2_with fail
  try simp only [List.append_eq, List.cons_append, List.nil_append]
  refine wp_region_wl (fun _ => oneMean 5 #[]) 88 (by kernel_rfl) (by as_aux_lemma => kernel_rfl) _ rfl _ rfl _ _ rfl rfl (fun k0 Lq hLq => ?_)
  dsimp only [List.map_cons, List.map_nil, List.take_succ_cons, List.take_zero, List.drop_succ_cons, List.drop_zero] at hLq ⊢
  repeat (first
    | (refine WL.skip rfl rfl ?_; dsimp only [List.set_cons_zero, List.set_cons_succ])
    | (refine WL.ex rfl rfl (by kernel_rfl) rfl ?_; apply Exists.intro; refine And.intro (fun w' hk => ?_) (And.intro ?_ ?_); (focus (have q0 := hk.cell cW8_0_0; have q1 := hk.cell cW8_0_1; have q2 := hk.cell cW8_1_0; have q3 := hk.cell cW8_1_1; have q4 := hk.cell cW8_2_0; have q5 := hk.cell cW8_2_1; have q6 := hk.cell cW8_3_0; have q7 := hk.cell cW8_3_1; have q8 := hk.cell cW8_4_0; have q9 := hk.cell cW8_4_1; clear hk; go_simp; exact rfl)); (focus (exact rfl)); dsimp only [List.set_cons_zero, List.set_cons_succ])
    | (refine WL.call rfl rfl (by kernel_rfl) rfl rfl HAd.out ?_ ?_; (focus (intro w'; go_simp; done)); dsimp only [List.set_cons_zero, List.set_cons_succ])
    | (refine WL.call rfl rfl (by kernel_rfl) rfl rfl HrAd.out ?_ ?_; (focus (intro w'; go_simp; done)); dsimp only [List.set_cons_zero, List.set_cons_succ])
    | (refine WL.call rfl rfl (by kernel_rfl) rfl rfl HSu.out ?_ ?_; (focus (intro w'; go_simp; done)); dsimp only [List.set_cons_zero, List.set_cons_succ])
    | (refine WL.call rfl rfl (by kernel_rfl) rfl rfl HrSu.out ?_ ?_; (focus (intro w'; go_simp; done)); dsimp only [List.set_cons_zero, List.set_cons_succ])
    | (refine WL.call rfl rfl (by kernel_rfl) rfl rfl HNe.out ?_ ?_; (focus (intro w'; go_simp; done)); dsimp only [List.set_cons_zero, List.set_cons_succ])
    | (refine WL.call rfl rfl (by kernel_rfl) rfl rfl HrNe.out ?_ ?_; (focus (intro w'; go_simp; done)); dsimp only [List.set_cons_zero, List.set_cons_succ])
    | (refine WL.call rfl rfl (by kernel_rfl) rfl rfl HMu.out ?_ ?_; (focus (intro w'; go_simp; done)); dsimp only [List.set_cons_zero, List.set_cons_succ])
    | (refine WL.call rfl rfl (by kernel_rfl) rfl rfl HrMu.out ?_ ?_; (focus (intro w'; go_simp; done)); dsimp only [List.set_cons_zero, List.set_cons_succ])
    | (refine WL.call rfl rfl (by kernel_rfl) rfl rfl HPo.out ?_ ?_; (focus (intro w'; go_simp; done)); dsimp only [List.set_cons_zero, List.set_cons_succ])
    | (refine WL.call rfl rfl (by kernel_rfl) rfl rfl HrPo.out ?_ ?_; (focus (intro w'; go_simp; done)); dsimp only [List.set_cons_zero, List.set_cons_succ])
    | (refine WL.call rfl rfl (by kernel_rfl) rfl rfl HOf.out ?_ ?_; (focus (intro w'; go_simp; done)); dsimp only [List.set_cons_zero, List.set_cons_succ])
    | (refine WL.call rfl rfl (by kernel_rfl) rfl rfl HrOf.out ?_ ?_; (focus (intro w'; go_simp; done)); dsimp only [List.set_cons_zero, List.set_cons_succ])
    | (refine WL.call rfl rfl (by kernel_rfl) rfl rfl HOn.out ?_ ?_; (focus (intro w'; go_simp; done)); dsimp only [List.set_cons_zero, List.set_cons_succ])
    | (refine WL.call rfl rfl (by kernel_rfl) rfl rfl HIn.out ?_ ?_; (focus (intro w'; go_simp; done)); dsimp only [List.set_cons_zero, List.set_cons_succ])
    | (refine WL.call rfl rfl (by kernel_rfl) rfl rfl HrIn.out ?_ ?_; (focus (intro w'; go_simp; done)); dsimp only [List.set_cons_zero, List.set_cons_succ])
    | (refine WL.call rfl rfl (by kernel_rfl) rfl rfl HSi.out ?_ ?_; (focus (intro w'; go_simp; done)); dsimp only [List.set_cons_zero, List.set_cons_succ])
    | (refine WL.call rfl rfl (by kernel_rfl) rfl rfl HrSi.out ?_ ?_; (focus (intro w'; go_simp; done)); dsimp only [List.set_cons_zero, List.set_cons_succ])
    | (refine WL.call rfl rfl (by kernel_rfl) rfl rfl HVa.out ?_ ?_; (focus (intro w'; go_simp; done)); dsimp only [List.set_cons_zero, List.set_cons_succ]))
  refine WL.nil (hLq _ ?_)
  clear hLq
  intro a'' W9 hkW9 hra
  obtain rfl := hra.mark0 (by kernel_rfl)
  clear hra
  have kW9 := kW8.trans hkW9
  have BW9_0 := BW8_0.kept hkW9
  have BW9_1 := BW8_1.kept hkW9
  have BW9_2 := BW8_2.kept hkW9
  have BW9_3 := BW8_3.kept hkW9
  have BW9_4 := BW8_4.kept hkW9
  clear cW8_0_0 cW8_0_1 cW8_1_0 cW8_1_1 cW8_2_0 cW8_2_1 cW8_3_0 cW8_3_1 cW8_4_0 cW8_4_1 fW8_0 fW8_1 fW8_2 fW8_3 fW8_4 BW8_0 BW8_1 BW8_2 BW8_3 BW8_4 kW8 hkW9
  have cW9_0_0 : W9.cell? ⟨w.heap.size, 0, none⟩ = some (.int .u64 a0) := BW9_0.cell 0 rfl
  have cW9_0_1 : W9.cell? ⟨w.heap.size, 1, none⟩ = some (.int .u64 a1) := BW9_0.cell 1 rfl
  have fW9_0 := BW9_0.free
  have cW9_1_0 : W9.cell? ⟨w.heap.size + 1, 0, none⟩ = some (.int .u64 b0) := BW9_1.cell 0 rfl
  have cW9_1_1 : W9.cell? ⟨w.heap.size + 1, 1, none⟩ = some (.int .u64 b1) := BW9_1.cell 1 rfl
  have fW9_1 := BW9_1.free
  have cW9_2_0 : W9.cell? ⟨b5, 0, none⟩ = some (.int .u64 x0) := BW9_2.cell 0 rfl
  have cW9_2_1 : W9.cell? ⟨b5, 1, none⟩ = some (.int .u64 x1) := BW9_2.cell 1 rfl
  have fW9_2 := BW9_2.free
  have cW9_3_0 : W9.cell? ⟨b6, 0, none⟩ = some (.int .u64 y0) := BW9_3.cell 0 rfl
  have cW9_3_1 : W9.cell? ⟨b6, 1, none⟩ = some (.int .u64 y1) := BW9_3.cell 1 rfl
  have fW9_3 := BW9_3.free
  have cW9_4_0 : W9.cell? ⟨g13, 0, none⟩ = some (.int .u64 i0) := BW9_4.cell 0 rfl
  have cW9_4_1 : W9.cell? ⟨g13, 1, none⟩ = some (.int .u64 i1) := BW9_4.cell 1 rfl
  have fW9_4 := BW9_4.free
  go_wp2_with fail
  go_ret
  exact ⟨rfl, kW9⟩

set_option maxRecDepth 100000 in
set_option maxHeartbeats 8000000 in
theorem field_sums_unit (n f k a0 a1 b0 b1 x0 x1 y0 y1 i0 i1 s0 s1 d0 d1 g0 g1 m0 m1 p0 p1 o0 o1 z : Int) (bi : Bool) (wf : IntKind.i64.wrap f = f) (hx : decide (x0 = 0 ∧ x1 = 0) = false)
    (hF : Pure Try.prog 77 #[.int .u8 n] (.int .u8 f))
    (hOa : Pure Try.prog 32 #[.int .i64 f, .agg #[.int .u64 a0, .int .u64 a1]] (.agg #[.int .u64 x0, .int .u64 x1]))
    (hOb : Pure Try.prog 32 #[.int .i64 f, .agg #[.int .u64 b0, .int .u64 b1]] (.agg #[.int .u64 y0, .int .u64 y1]))
    (hAd : Pure Try.prog 99 #[.int .u8 f, .agg #[.int .u64 a0, .int .u64 a1], .agg #[.int .u64 b0, .int .u64 b1]] (.agg #[.int .u64 s0, .int .u64 s1]))
    (hrAd : Pure Try.prog 35 #[.int .i64 f, .agg #[.int .u64 x0, .int .u64 x1], .agg #[.int .u64 y0, .int .u64 y1]] (.agg #[.int .u64 s0, .int .u64 s1]))
    (hSu : Pure Try.prog 100 #[.int .u8 f, .agg #[.int .u64 a0, .int .u64 a1], .agg #[.int .u64 b0, .int .u64 b1]] (.agg #[.int .u64 d0, .int .u64 d1]))
    (hrSu : Pure Try.prog 36 #[.int .i64 f, .agg #[.int .u64 x0, .int .u64 x1], .agg #[.int .u64 y0, .int .u64 y1]] (.agg #[.int .u64 d0, .int .u64 d1]))
    (hNe : Pure Try.prog 101 #[.int .u8 f, .agg #[.int .u64 a0, .int .u64 a1]] (.agg #[.int .u64 g0, .int .u64 g1]))
    (hrNe : Pure Try.prog 37 #[.int .i64 f, .agg #[.int .u64 x0, .int .u64 x1]] (.agg #[.int .u64 g0, .int .u64 g1]))
    (hMu : Pure Try.prog 102 #[.int .u8 f, .agg #[.int .u64 a0, .int .u64 a1], .agg #[.int .u64 b0, .int .u64 b1]] (.agg #[.int .u64 m0, .int .u64 m1]))
    (hrMu : Pure Try.prog 38 #[.int .i64 f, .agg #[.int .u64 x0, .int .u64 x1], .agg #[.int .u64 y0, .int .u64 y1]] (.agg #[.int .u64 m0, .int .u64 m1]))
    (hPo : Pure Try.prog 103 #[.int .u8 f, .agg #[.int .u64 a0, .int .u64 a1], .int .u64 k] (.agg #[.int .u64 p0, .int .u64 p1]))
    (hrPo : Pure Try.prog 40 #[.int .i64 f, .agg #[.int .u64 x0, .int .u64 x1], .agg #[.int .u64 k, .int .u64 0]] (.agg #[.int .u64 p0, .int .u64 p1]))
    (hOf : Pure Try.prog 104 #[.int .u8 f, .int .u64 k] (.agg #[.int .u64 o0, .int .u64 o1]))
    (hrOf : Pure Try.prog 32 #[.int .i64 f, .agg #[.int .u64 k, .int .u64 0]] (.agg #[.int .u64 o0, .int .u64 o1]))
    (hOn : Pure Try.prog 105 #[.int .u8 f] (.agg #[.int .u64 1, .int .u64 0]))
    (hIn : Pure Try.prog 106 #[.int .u8 f, .agg #[.int .u64 a0, .int .u64 a1]] (.bool bi))
    (hrIn : Pure Try.prog 93 #[.int .i64 f, .agg #[.int .u64 a0, .int .u64 a1]] (.bool bi))
    (hSi : Pure Try.prog 89 #[.int .u8 f] (.int .i64 z))
    (hrSi : Pure Try.prog 107 #[.int .i64 f] (.int .i64 z))
    (hVa : Pure Try.prog 108 #[.int .u8 f] (.bool true))
    (hI : Pure Try.prog 98 #[.int .u8 f, .agg #[.int .u64 a0, .int .u64 a1]] (.tuple #[.agg #[.int .u64 i0, .int .u64 i1], .int .i64 0]))
    (hM : Pure Try.prog 38 #[.int .i64 f, .agg #[.int .u64 x0, .int .u64 x1], .agg #[.int .u64 i0, .int .u64 i1]] (.agg #[.int .u64 1, .int .u64 0])) (w : World) :
    Calls Try.prog 24 #[.int .u8 n, .agg #[.int .u64 a0, .int .u64 a1], .agg #[.int .u64 b0, .int .u64 b1], .int .u64 k] w fun e w' => e = .returned (.bool true) ∧ Kept w w' := by
  have HA := Lib.hid f_Awake
  have HF := Lib.hid hF
  have HOa := Lib.hid hOa
  have HOb := Lib.hid hOb
  have HAd := Lib.hid hAd
  have HrAd := Lib.hid hrAd
  have HSu := Lib.hid hSu
  have HrSu := Lib.hid hrSu
  have HNe := Lib.hid hNe
  have HrNe := Lib.hid hrNe
  have HMu := Lib.hid hMu
  have HrMu := Lib.hid hrMu
  have HPo := Lib.hid hPo
  have HrPo := Lib.hid hrPo
  have HOf := Lib.hid hOf
  have HrOf := Lib.hid hrOf
  have HOn := Lib.hid hOn
  have HIn := Lib.hid hIn
  have HrIn := Lib.hid hrIn
  have HSi := Lib.hid hSi
  have HrSi := Lib.hid hrSi
  have HVa := Lib.hid hVa
  have HI := Lib.hid hI
  have HM := Lib.hid hM
  clear hF hOa hOb hAd hrAd hSu hrSu hNe hrNe hMu hrMu hPo hrPo hOf hrOf hOn hIn hrIn hSi hrSi hVa hI hM
  have hz := fun w => run_eql28 x0 x1 0 0 w
  simp only [hx] at hz
  have hs := eql28_selfF
  have hn := neq28_self
  clear hx
  go_enter Try.func24, Try.ntmps24
  go_wp2_with fail
  refine abs_calls (fun W => Kept w W ∧ Blk W (w.heap.size) 28 #[.int .u64 a0, .int .u64 a1] ∧ Blk W (w.heap.size + 1) 28 #[.int .u64 b0, .int .u64 b1]) ?_ ?_
  · refine ⟨?_, ?_, ?_⟩
    · repeat (first | exact Kept.refl _ | (refine Kept.setCell ?_ (kept_side (by first | assumption | omega)) _) | apply Kept.alloc | apply Kept.drew)
    · simp [Blk, *] <;> (intros; omega)
    · simp [Blk, *] <;> (intros; omega)
  rintro W1 ⟨kW1, BW1_0, BW1_1⟩
  have cW1_0_0 : W1.cell? ⟨w.heap.size, 0, none⟩ = some (.int .u64 a0) := BW1_0.cell 0 rfl
  have cW1_0_1 : W1.cell? ⟨w.heap.size, 1, none⟩ = some (.int .u64 a1) := BW1_0.cell 1 rfl
  have fW1_0 := BW1_0.free
  have cW1_1_0 : W1.cell? ⟨w.heap.size + 1, 0, none⟩ = some (.int .u64 b0) := BW1_1.cell 0 rfl
  have cW1_1_1 : W1.cell? ⟨w.heap.size + 1, 1, none⟩ = some (.int .u64 b1) := BW1_1.cell 1 rfl
  have fW1_1 := BW1_1.free
  refine (HA.out _).mono ?_
  rintro e W2 ⟨rfl, hkW2⟩
  have kW2 := kW1.trans hkW2
  have BW2_0 := BW1_0.kept hkW2
  have BW2_1 := BW1_1.kept hkW2
  clear cW1_0_0 cW1_0_1 cW1_1_0 cW1_1_1 fW1_0 fW1_1 BW1_0 BW1_1 kW1 hkW2
  have cW2_0_0 : W2.cell? ⟨w.heap.size, 0, none⟩ = some (.int .u64 a0) := BW2_0.cell 0 rfl
  have cW2_0_1 : W2.cell? ⟨w.heap.size, 1, none⟩ = some (.int .u64 a1) := BW2_0.cell 1 rfl
  have fW2_0 := BW2_0.free
  have cW2_1_0 : W2.cell? ⟨w.heap.size + 1, 0, none⟩ = some (.int .u64 b0) := BW2_1.cell 0 rfl
  have cW2_1_1 : W2.cell? ⟨w.heap.size + 1, 1, none⟩ = some (.int .u64 b1) := BW2_1.cell 1 rfl
  have fW2_1 := BW2_1.free
  go_wp2_with fail
  refine (HF.out _).mono ?_
  rintro e W3 ⟨rfl, hkW3⟩
  have kW3 := kW2.trans hkW3
  have BW3_0 := BW2_0.kept hkW3
  have BW3_1 := BW2_1.kept hkW3
  clear cW2_0_0 cW2_0_1 cW2_1_0 cW2_1_1 fW2_0 fW2_1 BW2_0 BW2_1 kW2 hkW3
  have cW3_0_0 : W3.cell? ⟨w.heap.size, 0, none⟩ = some (.int .u64 a0) := BW3_0.cell 0 rfl
  have cW3_0_1 : W3.cell? ⟨w.heap.size, 1, none⟩ = some (.int .u64 a1) := BW3_0.cell 1 rfl
  have fW3_0 := BW3_0.free
  have cW3_1_0 : W3.cell? ⟨w.heap.size + 1, 0, none⟩ = some (.int .u64 b0) := BW3_1.cell 0 rfl
  have cW3_1_1 : W3.cell? ⟨w.heap.size + 1, 1, none⟩ = some (.int .u64 b1) := BW3_1.cell 1 rfl
  have fW3_1 := BW3_1.free
  go_wp2_with fail
  refine (HF.out _).mono ?_
  rintro e W4 ⟨rfl, hkW4⟩
  have kW4 := kW3.trans hkW4
  have BW4_0 := BW3_0.kept hkW4
  have BW4_1 := BW3_1.kept hkW4
  clear cW3_0_0 cW3_0_1 cW3_1_0 cW3_1_1 fW3_0 fW3_1 BW3_0 BW3_1 kW3 hkW4
  have cW4_0_0 : W4.cell? ⟨w.heap.size, 0, none⟩ = some (.int .u64 a0) := BW4_0.cell 0 rfl
  have cW4_0_1 : W4.cell? ⟨w.heap.size, 1, none⟩ = some (.int .u64 a1) := BW4_0.cell 1 rfl
  have fW4_0 := BW4_0.free
  have cW4_1_0 : W4.cell? ⟨w.heap.size + 1, 0, none⟩ = some (.int .u64 b0) := BW4_1.cell 0 rfl
  have cW4_1_1 : W4.cell? ⟨w.heap.size + 1, 1, none⟩ = some (.int .u64 b1) := BW4_1.cell 1 rfl
  have fW4_1 := BW4_1.free
  go_wp2_with fail
  refine wp_region_calm2 6 _ _ _ _ (by kernel_rfl) (by kernel_rfl) rfl rfl isMakerF11 isMakerF12 (by rintro d ⟨⟩; decide) (by kernel_rfl) (by kernel_rfl) (by kernel_rfl) ?_
  simp only [List.take_succ_cons, List.take_zero, List.drop_succ_cons, List.drop_zero]
  repeat (first
    | (refine calm_skip rfl ?_; simp only [Act.put, List.setIfInBounds_toArray, List.set_cons_zero, List.set_cons_succ])
    | (refine calm_ex rfl ?_; apply Exists.intro; refine And.intro (fun w' hk => ?_) ?_; (focus (have q0 := hk.cell cW4_0_0; have q1 := hk.cell cW4_0_1; have q2 := hk.cell cW4_1_0; have q3 := hk.cell cW4_1_1; clear hk; go_simp; exact rfl)); simp only [Act.put, List.setIfInBounds_toArray, List.set_cons_zero, List.set_cons_succ])
    | (refine calm_step _ rfl (HOa.out.call ?_) ?_; (focus (intro w'; go_simp; done)); simp only [Act.put, List.setIfInBounds_toArray, List.set_cons_zero, List.set_cons_succ])
    | (refine calm_step _ rfl (HOb.out.call ?_) ?_; (focus (intro w'; go_simp; done)); simp only [Act.put, List.setIfInBounds_toArray, List.set_cons_zero, List.set_cons_succ]))
  refine calm_nil ?_
  intro W5 b5 b6 hkW5 hlob5 hlob6 hneb5 hatb5 hatb6
  simp only [Act.put, List.setIfInBounds_toArray, List.set_cons_zero, List.set_cons_succ]
  have neb5_0 : w.heap.size ≠ b5 := by have := BW4_0.lt; omega
  have enb5_0 : b5 ≠ w.heap.size := neb5_0.symm
  have neb5_1 : w.heap.size + 1 ≠ b5 := by have := BW4_1.lt; omega
  have enb5_1 : b5 ≠ w.heap.size + 1 := neb5_1.symm
  have lob5 : w.heap.size ≤ b5 := Nat.le_trans kW4.size hlob5
  have neb6_0 : w.heap.size ≠ b6 := by have := BW4_0.lt; omega
  have enb6_0 : b6 ≠ w.heap.size := neb6_0.symm
  have neb6_1 : w.heap.size + 1 ≠ b6 := by have := BW4_1.lt; omega
  have enb6_1 : b6 ≠ w.heap.size + 1 := neb6_1.symm
  have lob6 : w.heap.size ≤ b6 := Nat.le_trans kW4.size hlob6
  have hneb6 : b6 ≠ b5 := hneb5.symm
  have BW5_2 : Blk W5 (b5) 28 #[.int .u64 0, .int .u64 0] := hatb5
  have BW5_3 : Blk W5 (b6) 28 #[.int .u64 0, .int .u64 0] := hatb6
  clear hatb5 hatb6 hlob5 hlob6
  have kW5 := kW4.trans hkW5
  have BW5_0 := BW4_0.kept hkW5
  have BW5_1 := BW4_1.kept hkW5
  clear cW4_0_0 cW4_0_1 cW4_1_0 cW4_1_1 fW4_0 fW4_1 BW4_0 BW4_1 kW4 hkW5
  have cW5_0_0 : W5.cell? ⟨w.heap.size, 0, none⟩ = some (.int .u64 a0) := BW5_0.cell 0 rfl
  have cW5_0_1 : W5.cell? ⟨w.heap.size, 1, none⟩ = some (.int .u64 a1) := BW5_0.cell 1 rfl
  have fW5_0 := BW5_0.free
  have cW5_1_0 : W5.cell? ⟨w.heap.size + 1, 0, none⟩ = some (.int .u64 b0) := BW5_1.cell 0 rfl
  have cW5_1_1 : W5.cell? ⟨w.heap.size + 1, 1, none⟩ = some (.int .u64 b1) := BW5_1.cell 1 rfl
  have fW5_1 := BW5_1.free
  have cW5_2_0 := BW5_2.cell 0 rfl
  have cW5_2_1 := BW5_2.cell 1 rfl
  have fW5_2 := BW5_2.free
  have cW5_3_0 := BW5_3.cell 0 rfl
  have cW5_3_1 := BW5_3.cell 1 rfl
  have fW5_3 := BW5_3.free
  go_upto_region 5 with (fail)
  refine abs_world (fun W => Kept w W ∧ Blk W (w.heap.size) 28 #[.int .u64 a0, .int .u64 a1] ∧ Blk W (w.heap.size + 1) 28 #[.int .u64 b0, .int .u64 b1] ∧ Blk W (b5) 28 #[.int .u64 x0, .int .u64 x1] ∧ Blk W (b6) 28 #[.int .u64 y0, .int .u64 y1]) ?_ ?_
  · refine ⟨?_, ?_, ?_, ?_, ?_⟩
    · repeat (first | exact kW5 | (refine Kept.setCell ?_ (kept_side (by first | assumption | omega)) _) | apply Kept.alloc | apply Kept.drew)
    · simp [Blk, *] <;> (intros; omega)
    · simp [Blk, *] <;> (intros; omega)
    · simp [Blk, *] <;> (intros; omega)
    · simp [Blk, *] <;> (intros; omega)
  rintro W6 ⟨kW6, BW6_0, BW6_1, BW6_2, BW6_3⟩
  have cW6_0_0 : W6.cell? ⟨w.heap.size, 0, none⟩ = some (.int .u64 a0) := BW6_0.cell 0 rfl
  have cW6_0_1 : W6.cell? ⟨w.heap.size, 1, none⟩ = some (.int .u64 a1) := BW6_0.cell 1 rfl
  have fW6_0 := BW6_0.free
  have cW6_1_0 : W6.cell? ⟨w.heap.size + 1, 0, none⟩ = some (.int .u64 b0) := BW6_1.cell 0 rfl
  have cW6_1_1 : W6.cell? ⟨w.heap.size + 1, 1, none⟩ = some (.int .u64 b1) := BW6_1.cell 1 rfl
  have fW6_1 := BW6_1.free
  have cW6_2_0 : W6.cell? ⟨b5, 0, none⟩ = some (.int .u64 x0) := BW6_2.cell 0 rfl
  have cW6_2_1 : W6.cell? ⟨b5, 1, none⟩ = some (.int .u64 x1) := BW6_2.cell 1 rfl
  have fW6_2 := BW6_2.free
  have cW6_3_0 : W6.cell? ⟨b6, 0, none⟩ = some (.int .u64 y0) := BW6_3.cell 0 rfl
  have cW6_3_1 : W6.cell? ⟨b6, 1, none⟩ = some (.int .u64 y1) := BW6_3.cell 1 rfl
  have fW6_3 := BW6_3.free
  go_wp2_with fail
  refine (HI.out _).mono ?_
  rintro e W7 ⟨rfl, hkW7⟩
  have kW7 := kW6.trans hkW7
  have BW7_0 := BW6_0.kept hkW7
  have BW7_1 := BW6_1.kept hkW7
  have BW7_2 := BW6_2.kept hkW7
  have BW7_3 := BW6_3.kept hkW7
  clear cW6_0_0 cW6_0_1 cW6_1_0 cW6_1_1 cW6_2_0 cW6_2_1 cW6_3_0 cW6_3_1 fW6_0 fW6_1 fW6_2 fW6_3 BW6_0 BW6_1 BW6_2 BW6_3 kW6 hkW7
  have cW7_0_0 : W7.cell? ⟨w.heap.size, 0, none⟩ = some (.int .u64 a0) := BW7_0.cell 0 rfl
  have cW7_0_1 : W7.cell? ⟨w.heap.size, 1, none⟩ = some (.int .u64 a1) := BW7_0.cell 1 rfl
  have fW7_0 := BW7_0.free
  have cW7_1_0 : W7.cell? ⟨w.heap.size + 1, 0, none⟩ = some (.int .u64 b0) := BW7_1.cell 0 rfl
  have cW7_1_1 : W7.cell? ⟨w.heap.size + 1, 1, none⟩ = some (.int .u64 b1) := BW7_1.cell 1 rfl
  have fW7_1 := BW7_1.free
  have cW7_2_0 : W7.cell? ⟨b5, 0, none⟩ = some (.int .u64 x0) := BW7_2.cell 0 rfl
  have cW7_2_1 : W7.cell? ⟨b5, 1, none⟩ = some (.int .u64 x1) := BW7_2.cell 1 rfl
  have fW7_2 := BW7_2.free
  have cW7_3_0 : W7.cell? ⟨b6, 0, none⟩ = some (.int .u64 y0) := BW7_3.cell 0 rfl
  have cW7_3_1 : W7.cell? ⟨b6, 1, none⟩ = some (.int .u64 y1) := BW7_3.cell 1 rfl
  have fW7_3 := BW7_3.free
  obtain ⟨g13, hg13⟩ : ∃ b, W7.heap.size = b := ⟨_, rfl⟩
  have neg13_0 : w.heap.size ≠ g13 := by have := BW7_0.lt; omega
  have eng13_0 : g13 ≠ w.heap.size := neg13_0.symm
  have neg13_1 : w.heap.size + 1 ≠ g13 := by have := BW7_1.lt; omega
  have eng13_1 : g13 ≠ w.heap.size + 1 := neg13_1.symm
  have neg13_2 : b5 ≠ g13 := by have := BW7_2.lt; omega
  have eng13_2 : g13 ≠ b5 := neg13_2.symm
  have neg13_3 : b6 ≠ g13 := by have := BW7_3.lt; omega
  have eng13_3 : g13 ≠ b6 := neg13_3.symm
  have log13 : w.heap.size ≤ g13 := hg13 ▸ kW7.size
  go_upto_region 6 with (fail)
  refine abs_world (fun W => Kept w W ∧ Blk W (w.heap.size) 28 #[.int .u64 a0, .int .u64 a1] ∧ Blk W (w.heap.size + 1) 28 #[.int .u64 b0, .int .u64 b1] ∧ Blk W (b5) 28 #[.int .u64 x0, .int .u64 x1] ∧ Blk W (b6) 28 #[.int .u64 y0, .int .u64 y1] ∧ Blk W (g13) 28 #[.int .u64 i0, .int .u64 i1]) ?_ ?_
  · refine ⟨?_, ?_, ?_, ?_, ?_, ?_⟩
    · repeat (first | exact kW7 | (refine Kept.setCell ?_ (kept_side (by first | assumption | omega)) _) | apply Kept.alloc | apply Kept.drew)
    · simp [Blk, *] <;> (intros; omega)
    · simp [Blk, *] <;> (intros; omega)
    · simp [Blk, *] <;> (intros; omega)
    · simp [Blk, *] <;> (intros; omega)
    · simp [Blk, *] <;> (intros; omega)
  rintro W8 ⟨kW8, BW8_0, BW8_1, BW8_2, BW8_3, BW8_4⟩
  have cW8_0_0 : W8.cell? ⟨w.heap.size, 0, none⟩ = some (.int .u64 a0) := BW8_0.cell 0 rfl
  have cW8_0_1 : W8.cell? ⟨w.heap.size, 1, none⟩ = some (.int .u64 a1) := BW8_0.cell 1 rfl
  have fW8_0 := BW8_0.free
  have cW8_1_0 : W8.cell? ⟨w.heap.size + 1, 0, none⟩ = some (.int .u64 b0) := BW8_1.cell 0 rfl
  have cW8_1_1 : W8.cell? ⟨w.heap.size + 1, 1, none⟩ = some (.int .u64 b1) := BW8_1.cell 1 rfl
  have fW8_1 := BW8_1.free
  have cW8_2_0 : W8.cell? ⟨b5, 0, none⟩ = some (.int .u64 x0) := BW8_2.cell 0 rfl
  have cW8_2_1 : W8.cell? ⟨b5, 1, none⟩ = some (.int .u64 x1) := BW8_2.cell 1 rfl
  have fW8_2 := BW8_2.free
  have cW8_3_0 : W8.cell? ⟨b6, 0, none⟩ = some (.int .u64 y0) := BW8_3.cell 0 rfl
  have cW8_3_1 : W8.cell? ⟨b6, 1, none⟩ = some (.int .u64 y1) := BW8_3.cell 1 rfl
  have fW8_3 := BW8_3.free
  have cW8_4_0 : W8.cell? ⟨g13, 0, none⟩ = some (.int .u64 i0) := BW8_4.cell 0 rfl
  have cW8_4_1 : W8.cell? ⟨g13, 1, none⟩ = some (.int .u64 i1) := BW8_4.cell 1 rfl
  have fW8_4 := BW8_4.free
  go_wp2_with fail
  refine (HM.out _).mono ?_
  rintro e W9 ⟨rfl, hkW9⟩
  have kW9 := kW8.trans hkW9
  have BW9_0 := BW8_0.kept hkW9
  have BW9_1 := BW8_1.kept hkW9
  have BW9_2 := BW8_2.kept hkW9
  have BW9_3 := BW8_3.kept hkW9
  have BW9_4 := BW8_4.kept hkW9
  clear cW8_0_0 cW8_0_1 cW8_1_0 cW8_1_1 cW8_2_0 cW8_2_1 cW8_3_0 cW8_3_1 cW8_4_0 cW8_4_1 fW8_0 fW8_1 fW8_2 fW8_3 fW8_4 BW8_0 BW8_1 BW8_2 BW8_3 BW8_4 kW8 hkW9
  have cW9_0_0 : W9.cell? ⟨w.heap.size, 0, none⟩ = some (.int .u64 a0) := BW9_0.cell 0 rfl
  have cW9_0_1 : W9.cell? ⟨w.heap.size, 1, none⟩ = some (.int .u64 a1) := BW9_0.cell 1 rfl
  have fW9_0 := BW9_0.free
  have cW9_1_0 : W9.cell? ⟨w.heap.size + 1, 0, none⟩ = some (.int .u64 b0) := BW9_1.cell 0 rfl
  have cW9_1_1 : W9.cell? ⟨w.heap.size + 1, 1, none⟩ = some (.int .u64 b1) := BW9_1.cell 1 rfl
  have fW9_1 := BW9_1.free
  have cW9_2_0 : W9.cell? ⟨b5, 0, none⟩ = some (.int .u64 x0) := BW9_2.cell 0 rfl
  have cW9_2_1 : W9.cell? ⟨b5, 1, none⟩ = some (.int .u64 x1) := BW9_2.cell 1 rfl
  have fW9_2 := BW9_2.free
  have cW9_3_0 : W9.cell? ⟨b6, 0, none⟩ = some (.int .u64 y0) := BW9_3.cell 0 rfl
  have cW9_3_1 : W9.cell? ⟨b6, 1, none⟩ = some (.int .u64 y1) := BW9_3.cell 1 rfl
  have fW9_3 := BW9_3.free
  have cW9_4_0 : W9.cell? ⟨g13, 0, none⟩ = some (.int .u64 i0) := BW9_4.cell 0 rfl
  have cW9_4_1 : W9.cell? ⟨g13, 1, none⟩ = some (.int .u64 i1) := BW9_4.cell 1 rfl
  have fW9_4 := BW9_4.free
  go_wp2_with fail
  try simp only [List.append_eq, List.cons_append, List.nil_append]
  refine wp_region_wl (fun _ => oneMean 5 #[]) 88 (by kernel_rfl) (by as_aux_lemma => kernel_rfl) _ rfl _ rfl _ _ rfl rfl (fun k0 Lq hLq => ?_)
  dsimp only [List.map_cons, List.map_nil, List.take_succ_cons, List.take_zero, List.drop_succ_cons, List.drop_zero] at hLq ⊢
  repeat (first
    | (refine WL.skip rfl rfl ?_; dsimp only [List.set_cons_zero, List.set_cons_succ])
    | (refine WL.ex rfl rfl (by kernel_rfl) rfl ?_; apply Exists.intro; refine And.intro (fun w' hk => ?_) (And.intro ?_ ?_); (focus (have q0 := hk.cell cW9_0_0; have q1 := hk.cell cW9_0_1; have q2 := hk.cell cW9_1_0; have q3 := hk.cell cW9_1_1; have q4 := hk.cell cW9_2_0; have q5 := hk.cell cW9_2_1; have q6 := hk.cell cW9_3_0; have q7 := hk.cell cW9_3_1; have q8 := hk.cell cW9_4_0; have q9 := hk.cell cW9_4_1; clear hk; go_simp; exact rfl)); (focus (exact rfl)); dsimp only [List.set_cons_zero, List.set_cons_succ])
    | (refine WL.call rfl rfl (by kernel_rfl) rfl rfl HAd.out ?_ ?_; (focus (intro w'; go_simp; done)); dsimp only [List.set_cons_zero, List.set_cons_succ])
    | (refine WL.call rfl rfl (by kernel_rfl) rfl rfl HrAd.out ?_ ?_; (focus (intro w'; go_simp; done)); dsimp only [List.set_cons_zero, List.set_cons_succ])
    | (refine WL.call rfl rfl (by kernel_rfl) rfl rfl HSu.out ?_ ?_; (focus (intro w'; go_simp; done)); dsimp only [List.set_cons_zero, List.set_cons_succ])
    | (refine WL.call rfl rfl (by kernel_rfl) rfl rfl HrSu.out ?_ ?_; (focus (intro w'; go_simp; done)); dsimp only [List.set_cons_zero, List.set_cons_succ])
    | (refine WL.call rfl rfl (by kernel_rfl) rfl rfl HNe.out ?_ ?_; (focus (intro w'; go_simp; done)); dsimp only [List.set_cons_zero, List.set_cons_succ])
    | (refine WL.call rfl rfl (by kernel_rfl) rfl rfl HrNe.out ?_ ?_; (focus (intro w'; go_simp; done)); dsimp only [List.set_cons_zero, List.set_cons_succ])
    | (refine WL.call rfl rfl (by kernel_rfl) rfl rfl HMu.out ?_ ?_; (focus (intro w'; go_simp; done)); dsimp only [List.set_cons_zero, List.set_cons_succ])
    | (refine WL.call rfl rfl (by kernel_rfl) rfl rfl HrMu.out ?_ ?_; (focus (intro w'; go_simp; done)); dsimp only [List.set_cons_zero, List.set_cons_succ])
    | (refine WL.call rfl rfl (by kernel_rfl) rfl rfl HPo.out ?_ ?_; (focus (intro w'; go_simp; done)); dsimp only [List.set_cons_zero, List.set_cons_succ])
    | (refine WL.call rfl rfl (by kernel_rfl) rfl rfl HrPo.out ?_ ?_; (focus (intro w'; go_simp; done)); dsimp only [List.set_cons_zero, List.set_cons_succ])
    | (refine WL.call rfl rfl (by kernel_rfl) rfl rfl HOf.out ?_ ?_; (focus (intro w'; go_simp; done)); dsimp only [List.set_cons_zero, List.set_cons_succ])
    | (refine WL.call rfl rfl (by kernel_rfl) rfl rfl HrOf.out ?_ ?_; (focus (intro w'; go_simp; done)); dsimp only [List.set_cons_zero, List.set_cons_succ])
    | (refine WL.call rfl rfl (by kernel_rfl) rfl rfl HOn.out ?_ ?_; (focus (intro w'; go_simp; done)); dsimp only [List.set_cons_zero, List.set_cons_succ])
    | (refine WL.call rfl rfl (by kernel_rfl) rfl rfl HIn.out ?_ ?_; (focus (intro w'; go_simp; done)); dsimp only [List.set_cons_zero, List.set_cons_succ])
    | (refine WL.call rfl rfl (by kernel_rfl) rfl rfl HrIn.out ?_ ?_; (focus (intro w'; go_simp; done)); dsimp only [List.set_cons_zero, List.set_cons_succ])
    | (refine WL.call rfl rfl (by kernel_rfl) rfl rfl HSi.out ?_ ?_; (focus (intro w'; go_simp; done)); dsimp only [List.set_cons_zero, List.set_cons_succ])
    | (refine WL.call rfl rfl (by kernel_rfl) rfl rfl HrSi.out ?_ ?_; (focus (intro w'; go_simp; done)); dsimp only [List.set_cons_zero, List.set_cons_succ])
    | (refine WL.call rfl rfl (by kernel_rfl) rfl rfl HVa.out ?_ ?_; (focus (intro w'; go_simp; done)); dsimp only [List.set_cons_zero, List.set_cons_succ]))
  refine WL.nil (hLq _ ?_)
  clear hLq
  intro a'' W10 hkW10 hra
  obtain rfl := hra.mark0 (by kernel_rfl)
  clear hra
  have kW10 := kW9.trans hkW10
  have BW10_0 := BW9_0.kept hkW10
  have BW10_1 := BW9_1.kept hkW10
  have BW10_2 := BW9_2.kept hkW10
  have BW10_3 := BW9_3.kept hkW10
  have BW10_4 := BW9_4.kept hkW10
  clear cW9_0_0 cW9_0_1 cW9_1_0 cW9_1_1 cW9_2_0 cW9_2_1 cW9_3_0 cW9_3_1 cW9_4_0 cW9_4_1 fW9_0 fW9_1 fW9_2 fW9_3 fW9_4 BW9_0 BW9_1 BW9_2 BW9_3 BW9_4 kW9 hkW10
  have cW10_0_0 : W10.cell? ⟨w.heap.size, 0, none⟩ = some (.int .u64 a0) := BW10_0.cell 0 rfl
  have cW10_0_1 : W10.cell? ⟨w.heap.size, 1, none⟩ = some (.int .u64 a1) := BW10_0.cell 1 rfl
  have fW10_0 := BW10_0.free
  have cW10_1_0 : W10.cell? ⟨w.heap.size + 1, 0, none⟩ = some (.int .u64 b0) := BW10_1.cell 0 rfl
  have cW10_1_1 : W10.cell? ⟨w.heap.size + 1, 1, none⟩ = some (.int .u64 b1) := BW10_1.cell 1 rfl
  have fW10_1 := BW10_1.free
  have cW10_2_0 : W10.cell? ⟨b5, 0, none⟩ = some (.int .u64 x0) := BW10_2.cell 0 rfl
  have cW10_2_1 : W10.cell? ⟨b5, 1, none⟩ = some (.int .u64 x1) := BW10_2.cell 1 rfl
  have fW10_2 := BW10_2.free
  have cW10_3_0 : W10.cell? ⟨b6, 0, none⟩ = some (.int .u64 y0) := BW10_3.cell 0 rfl
  have cW10_3_1 : W10.cell? ⟨b6, 1, none⟩ = some (.int .u64 y1) := BW10_3.cell 1 rfl
  have fW10_3 := BW10_3.free
  have cW10_4_0 : W10.cell? ⟨g13, 0, none⟩ = some (.int .u64 i0) := BW10_4.cell 0 rfl
  have cW10_4_1 : W10.cell? ⟨g13, 1, none⟩ = some (.int .u64 i1) := BW10_4.cell 1 rfl
  have fW10_4 := BW10_4.free
  go_wp2_with fail
  go_ret
  exact ⟨rfl, kW10⟩

theorem rOf_rOf (f n : Int) : rOf f (rOf f n) = rOf f n := rOf_of_lt (rOf_lo f n) (rOf_lt f n)
theorem fieldSums_E (n a b k : Int) (n0 : 0 ≤ n) (n1 : n ≤ 255) (ha : is128 a) (hb : is128 b) (hk : is64 k) (w : World) :
    Calls Try.prog 24 #[.int .u8 n, E a, E b, .int .u64 k] w fun e w' => e = .returned (.bool true) ∧ Kept w w' := by
  have hf := isF_fOf n0
  have hF := f_F n0 n1
  generalize fOf n = f at *
  have hx := is128_rOf f a
  have hy := is128_rOf f b
  have hk1 := is128_of64 hk
  have wf : IntKind.i64.wrap f = f := IntWalk.i64_in _ (by unfold isF at hf; omega)
  have rAd := ref_Add hf hx hy
  have rSu := ref_Sub hf hx hy
  have rNe := ref_Neg hf hx
  have rMu := ref_Mul hf hx hy
  have rPo := ref_Pow (n := k.toNat) hf hx (by rw [Int.toNat_of_nonneg hk.1]; exact hk1)
  have rO := ref_Of hf hk1
  have hOn := f_One hf
  rw [rOf_rOf, rOf_rOf] at rAd rSu rMu
  rw [rOf_rOf] at rNe rPo
  rw [Int.toNat_of_nonneg hk.1, E_small hk] at rPo
  rw [E_small hk] at rO
  rw [E_one] at hOn
  by_cases h : rOf f a = 0
  · have hI := f_Inv_no hf ha h
    exact field_sums_zero n f k _ _ _ _ _ _ _ _ _ _ _ _ _ _ _ _ _ _ _ _ _ _ _ _ wf (decide_eq_true (by rw [h]; decide)) hF (ref_Of hf ha) (ref_Of hf hb) (f_Add hf ha hb) rAd (f_Sub hf ha hb) rSu (f_Neg hf ha) rNe (f_Mul hf ha hb) rMu
      (f_Pow hf ha hk) rPo (f_Of hf hk) rO hOn (f_In hf ha) (ref_In hf ha) (f_Size hf) (ref_Size hf) (f_Valid hf) hI w
  · obtain ⟨y, y0, y1, y2, hI⟩ := f_Inv hf ha h
    have hyi : is128 y := by have := rP_lt f; unfold is128; omega
    have hM := ref_Mul hf hx hyi
    rw [rOf_rOf, rOf_of_lt y0 y1, y2, E_one] at hM
    exact field_sums_unit n f k _ _ _ _ _ _ _ _ _ _ _ _ _ _ _ _ _ _ _ _ _ _ _ _ wf (decide_eq_false (by have := rOf_lo f a; omega)) hF (ref_Of hf ha) (ref_Of hf hb) (f_Add hf ha hb) rAd (f_Sub hf ha hb) rSu (f_Neg hf ha) rNe (f_Mul hf ha hb) rMu
      (f_Pow hf ha hk) rPo (f_Of hf hk) rO hOn (f_In hf ha) (ref_In hf ha) (f_Size hf) (ref_Size hf) (f_Valid hf) hI hM w
theorem pair_E {l : List Int} (hl : l.length = 2) (hw : ∀ z ∈ l, (Lit.int .u64 z).wf = true) : ∃ a, is128 a ∧ Value.agg (l.map (Value.int .u64)).toArray = E a := by
  match l, hl with
  | [x, y], _ =>
    have h := E_of (is64_mk (hw x (by simp))) (is64_mk (hw y (by simp)))
    exact ⟨_, h.1, h.2.symm⟩
theorem fieldSums_walk (n : Int) (wn : (Lit.int .u8 n).wf = true) (a : List Int) (la : a.length = 2) (wa : ∀ z ∈ a, (Lit.int .u64 z).wf = true) (b : List Int) (lb : b.length = 2) (wb : ∀ z ∈ b, (Lit.int .u64 z).wf = true) (k : Int) (wk : (Lit.int .u64 k).wf = true) (w : World) :
    Calls Try.prog 24 #[.int .u8 n, .agg (a.map (Value.int .u64)).toArray, .agg (b.map (Value.int .u64)).toArray, .int .u64 k] w fun e w' => e = .returned (.bool true) ∧ Kept w w' := by
  obtain ⟨x, hx, ex⟩ := pair_E la wa
  obtain ⟨y, hy, ey⟩ := pair_E lb wb
  have h1 : 0 ≤ n ∧ n ≤ 255 := by
    simp [Lit.wf, IntKind.min, IntKind.max, IntKind.signed, IntKind.bits] at wn
    omega
  rw [ex, ey]
  exact fieldSums_E n x y k h1.1 h1.2 hx hy (is64_mk wk) w
end Go.Proofs.Ytnajihlhcdedgaa
