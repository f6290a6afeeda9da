/-
  The walks of wide: Mul.
-/
import Derived.Test.YtnajihlhcdedgaaW5
import Derived.Deep.LoopGhost
namespace Go.Proofs.Ytnajihlhcdedgaa
open Go.RowKit
set_option linter.unusedVariables false
set_option linter.unusedSimpArgs false
attribute [local simp] blkAt_setCell blkAt_alloc blkAt_drew Obj.put_cells

theorem isMaker131 : isMaker Try.prog { dst := some 5, op := Op.alloc 131, type := 131, pos := "wide.go:108", after := #[], guard := none } (fun b => .pointer (some ⟨b, 0, none⟩), .cells #[.int .u64 0, .int .u64 0, .int .u64 0, .int .u64 0] 131) :=
  ⟨rfl, fun a w => by go_simp⟩

section
attribute [local irreducible] l0 l1 l2 l3 fold is256
set_option maxRecDepth 100000 in
set_option maxHeartbeats 1000000 in
theorem w_Mul_raw (a0 a1 b0 b1 n r0 r1 : Int) (x y : Value) (hn : is256 n)
    (hA : Pure Try.prog 48 #[.agg #[.int .u64 a0, .int .u64 a1]] x) (hB : Pure Try.prog 48 #[.agg #[.int .u64 b0, .int .u64 b1]] y)
    (hPr : Pure Try.prog 119 #[x, y] (.agg #[.int .u64 (l0 n), .int .u64 (l1 n), .int .u64 (l2 n), .int .u64 (l3 n)]))
    (hFold : Hid (∀ m, is256 m → Pure Try.prog 120 #[.agg #[.int .u64 (l0 m), .int .u64 (l1 m), .int .u64 (l2 m), .int .u64 (l3 m)]] (.agg #[.int .u64 (l0 (fold m)), .int .u64 (l1 (fold m)), .int .u64 (l2 (fold m)), .int .u64 (l3 (fold m))])))
    (hStep : Hid (∀ m, is256 m → (l2 m ≠ 0 ∨ l3 m ≠ 0) → Hid (is256 (fold m) ∧ (fold m).toNat < m.toNat ∧ fold m % wP = m % wP)))
    (hOf : Hid (∀ m, is256 m → l2 m = 0 → l3 m = 0 → m % wP = n % wP → Pure Try.prog 48 #[.agg #[.int .u64 (l0 m), .int .u64 (l1 m)]] (.agg #[.int .u64 r0, .int .u64 r1]))) :
    Pure Try.prog 53 #[.agg #[.int .u64 a0, .int .u64 a1], .agg #[.int .u64 b0, .int .u64 b1]] (.agg #[.int .u64 r0, .int .u64 r1]) := fun w => by
  have HA := Lib.hid hA
  have HB := Lib.hid hB
  have HPr := Lib.hid hPr
  clear hA hB hPr
  have ne0_2 : w.heap.size ≠ w.heap.size + 1 + 1 := by omega
  have ne2_0 : w.heap.size + 1 + 1 ≠ w.heap.size := by omega
  go_enter Try.func53, Try.ntmps53
  go_wp2_with fail
  refine abs_world (fun W => Kept w W ∧ Blk W (w.heap.size) 28 #[.int .u64 a0, .int .u64 a1] ∧ Blk W (w.heap.size + 1) 28 #[.int .u64 b0, .int .u64 b1] ∧ Blk W (w.heap.size + 1 + 1) 28 #[.int .u64 0, .int .u64 0]) ?_ ?_
  · refine ⟨?_, ?_, ?_, ?_⟩
    · repeat (first | exact Kept.refl _ | (refine Kept.setCell ?_ (kept_side (by first | assumption | omega)) _) | apply Kept.alloc | apply Kept.drew)
    · simp [Blk, *] <;> (intros; omega)
    · simp [Blk, *] <;> (intros; omega)
    · simp [Blk, *] <;> (intros; omega)
  rintro W1 ⟨kW1, BW1_0, BW1_1, BW1_2⟩
  have cW1_0_0 : W1.cell? ⟨w.heap.size, 0, none⟩ = some (.int .u64 a0) := BW1_0.cell 0 rfl
  have cW1_0_1 : W1.cell? ⟨w.heap.size, 1, none⟩ = some (.int .u64 a1) := BW1_0.cell 1 rfl
  have fW1_0 := BW1_0.free
  have cW1_1_0 : W1.cell? ⟨w.heap.size + 1, 0, none⟩ = some (.int .u64 b0) := BW1_1.cell 0 rfl
  have cW1_1_1 : W1.cell? ⟨w.heap.size + 1, 1, none⟩ = some (.int .u64 b1) := BW1_1.cell 1 rfl
  have fW1_1 := BW1_1.free
  have cW1_2_0 : W1.cell? ⟨w.heap.size + 1 + 1, 0, none⟩ = some (.int .u64 0) := BW1_2.cell 0 rfl
  have cW1_2_1 : W1.cell? ⟨w.heap.size + 1 + 1, 1, none⟩ = some (.int .u64 0) := BW1_2.cell 1 rfl
  have fW1_2 := BW1_2.free
  refine wp_region_calm1 5 _ _ (by kernel_rfl) (by kernel_rfl) rfl isMaker131 (by kernel_rfl) ?_
  simp only [List.take_succ_cons, List.take_zero, List.drop_succ_cons, List.drop_zero]
  repeat (first
    | (refine calm_skip rfl ?_; simp only [Act.put, List.setIfInBounds_toArray, List.set_cons_zero, List.set_cons_succ])
    | (refine calm_ex rfl ?_; apply Exists.intro; refine And.intro (fun w' hk => ?_) ?_; (focus (have q0 := hk.cell cW1_0_0; have q1 := hk.cell cW1_0_1; have q2 := hk.cell cW1_1_0; have q3 := hk.cell cW1_1_1; have q4 := hk.cell cW1_2_0; have q5 := hk.cell cW1_2_1; clear hk; go_simp; exact rfl)); simp only [Act.put, List.setIfInBounds_toArray, List.set_cons_zero, List.set_cons_succ])
    | (refine calm_step _ rfl (HA.out.call ?_) ?_; (focus (intro w'; go_simp; done)); simp only [Act.put, List.setIfInBounds_toArray, List.set_cons_zero, List.set_cons_succ])
    | (refine calm_step _ rfl (HB.out.call ?_) ?_; (focus (intro w'; go_simp; done)); simp only [Act.put, List.setIfInBounds_toArray, List.set_cons_zero, List.set_cons_succ])
    | (refine calm_step _ rfl (HPr.out.call ?_) ?_; (focus (intro w'; go_simp; done)); simp only [Act.put, List.setIfInBounds_toArray, List.set_cons_zero, List.set_cons_succ]))
  refine calm_nil ?_
  intro W2 b5 hkW2 hlob5 hatb5
  simp only [Act.put, List.setIfInBounds_toArray, List.set_cons_zero, List.set_cons_succ]
  have neb5_0 : w.heap.size ≠ b5 := by have := BW1_0.lt; omega
  have enb5_0 : b5 ≠ w.heap.size := neb5_0.symm
  have neb5_1 : w.heap.size + 1 ≠ b5 := by have := BW1_1.lt; omega
  have enb5_1 : b5 ≠ w.heap.size + 1 := neb5_1.symm
  have neb5_2 : w.heap.size + 1 + 1 ≠ b5 := by have := BW1_2.lt; omega
  have enb5_2 : b5 ≠ w.heap.size + 1 + 1 := neb5_2.symm
  have lob5 : w.heap.size ≤ b5 := Nat.le_trans kW1.size hlob5
  have BW2_3 : Blk W2 (b5) 131 #[.int .u64 0, .int .u64 0, .int .u64 0, .int .u64 0] := hatb5
  clear hatb5 hlob5
  have kW2 := kW1.trans hkW2
  have BW2_0 := BW1_0.kept hkW2
  have BW2_1 := BW1_1.kept hkW2
  have BW2_2 := BW1_2.kept hkW2
  clear cW1_0_0 cW1_0_1 cW1_1_0 cW1_1_1 cW1_2_0 cW1_2_1 fW1_0 fW1_1 fW1_2 BW1_0 BW1_1 BW1_2 kW1 hkW2
  have cW2_0_0 : W2.cell? ⟨w.heap.size, 0, none⟩ = some (.int .u64 a0) := BW2_0.cell 0 rfl
  have cW2_0_1 : W2.cell? ⟨w.heap.size, 1, none⟩ = some (.int .u64 a1) := BW2_0.cell 1 rfl
  have fW2_0 := BW2_0.free
  have cW2_1_0 : W2.cell? ⟨w.heap.size + 1, 0, none⟩ = some (.int .u64 b0) := BW2_1.cell 0 rfl
  have cW2_1_1 : W2.cell? ⟨w.heap.size + 1, 1, none⟩ = some (.int .u64 b1) := BW2_1.cell 1 rfl
  have fW2_1 := BW2_1.free
  have cW2_2_0 : W2.cell? ⟨w.heap.size + 1 + 1, 0, none⟩ = some (.int .u64 0) := BW2_2.cell 0 rfl
  have cW2_2_1 : W2.cell? ⟨w.heap.size + 1 + 1, 1, none⟩ = some (.int .u64 0) := BW2_2.cell 1 rfl
  have fW2_2 := BW2_2.free
  have cW2_3_0 : W2.cell? ⟨b5, 0, none⟩ = some (.int .u64 0) := BW2_3.cell 0 rfl
  have cW2_3_1 : W2.cell? ⟨b5, 1, none⟩ = some (.int .u64 0) := BW2_3.cell 1 rfl
  have cW2_3_2 : W2.cell? ⟨b5, 2, none⟩ = some (.int .u64 0) := BW2_3.cell 2 rfl
  have cW2_3_3 : W2.cell? ⟨b5, 3, none⟩ = some (.int .u64 0) := BW2_3.cell 3 rfl
  have fW2_3 := BW2_3.free
  go_wp2_with fail
  refine abs_world (fun W => Kept w W ∧ Blk W (w.heap.size) 28 #[.int .u64 a0, .int .u64 a1] ∧ Blk W (w.heap.size + 1) 28 #[.int .u64 b0, .int .u64 b1] ∧ Blk W (w.heap.size + 1 + 1) 28 #[.int .u64 0, .int .u64 0] ∧ Blk W (b5) 131 #[.int .u64 (l0 n), .int .u64 (l1 n), .int .u64 (l2 n), .int .u64 (l3 n)]) ?_ ?_
  · refine ⟨?_, ?_, ?_, ?_, ?_⟩
    · repeat (first | exact kW2 | (refine Kept.setCell ?_ (kept_side (by first | assumption | omega)) _) | apply Kept.alloc | apply Kept.drew)
    · simp [Blk, *] <;> (intros; omega)
    · simp [Blk, *] <;> (intros; omega)
    · simp [Blk, *] <;> (intros; omega)
    · simp [Blk, *] <;> (intros; omega)
  rintro W3 ⟨kW3, BW3_0, BW3_1, BW3_2, BW3_3⟩
  have cW3_0_0 : W3.cell? ⟨w.heap.size, 0, none⟩ = some (.int .u64 a0) := BW3_0.cell 0 rfl
  have cW3_0_1 : W3.cell? ⟨w.heap.size, 1, none⟩ = some (.int .u64 a1) := BW3_0.cell 1 rfl
  have fW3_0 := BW3_0.free
  have cW3_1_0 : W3.cell? ⟨w.heap.size + 1, 0, none⟩ = some (.int .u64 b0) := BW3_1.cell 0 rfl
  have cW3_1_1 : W3.cell? ⟨w.heap.size + 1, 1, none⟩ = some (.int .u64 b1) := BW3_1.cell 1 rfl
  have fW3_1 := BW3_1.free
  have cW3_2_0 : W3.cell? ⟨w.heap.size + 1 + 1, 0, none⟩ = some (.int .u64 0) := BW3_2.cell 0 rfl
  have cW3_2_1 : W3.cell? ⟨w.heap.size + 1 + 1, 1, none⟩ = some (.int .u64 0) := BW3_2.cell 1 rfl
  have fW3_2 := BW3_2.free
  have cW3_3_0 : W3.cell? ⟨b5, 0, none⟩ = some (.int .u64 (l0 n)) := BW3_3.cell 0 rfl
  have cW3_3_1 : W3.cell? ⟨b5, 1, none⟩ = some (.int .u64 (l1 n)) := BW3_3.cell 1 rfl
  have cW3_3_2 : W3.cell? ⟨b5, 2, none⟩ = some (.int .u64 (l2 n)) := BW3_3.cell 2 rfl
  have cW3_3_3 : W3.cell? ⟨b5, 3, none⟩ = some (.int .u64 (l3 n)) := BW3_3.cell 3 rfl
  have fW3_3 := BW3_3.free
  go_loopg [] n.toNat (fun g wr => ∃ m : Int, is256 m ∧ m.toNat = g ∧ Hid (m % wP = n % wP) ∧ Kept w wr ∧ Blk wr (w.heap.size) 28 #[.int .u64 a0, .int .u64 a1] ∧ Blk wr (w.heap.size + 1) 28 #[.int .u64 b0, .int .u64 b1] ∧ Blk wr (w.heap.size + 1 + 1) 28 #[.int .u64 0, .int .u64 0] ∧ Blk wr (b5) 131 #[.int .u64 (l0 m), .int .u64 (l1 m), .int .u64 (l2 m), .int .u64 (l3 m)])
  case atStart => exact ⟨n, hn, rfl, Lib.hid rfl, kW3, BW3_0, BW3_1, BW3_2, BW3_3⟩
  case round =>
    clear cW3_0_0 cW3_0_1 cW3_1_0 cW3_1_1 cW3_2_0 cW3_2_1 cW3_3_0 cW3_3_1 cW3_3_2 cW3_3_3 fW3_0 fW3_1 fW3_2 fW3_3 BW3_0 BW3_1 BW3_2 BW3_3 kW3
    obtain ⟨m, hm, hg, hmod, kwr, Bwr_0, Bwr_1, Bwr_2, Bwr_3⟩ := hrel
    have cwr_0_0 : wr.cell? ⟨w.heap.size, 0, none⟩ = some (.int .u64 a0) := Bwr_0.cell 0 rfl
    have cwr_0_1 : wr.cell? ⟨w.heap.size, 1, none⟩ = some (.int .u64 a1) := Bwr_0.cell 1 rfl
    have fwr_0 := Bwr_0.free
    have cwr_1_0 : wr.cell? ⟨w.heap.size + 1, 0, none⟩ = some (.int .u64 b0) := Bwr_1.cell 0 rfl
    have cwr_1_1 : wr.cell? ⟨w.heap.size + 1, 1, none⟩ = some (.int .u64 b1) := Bwr_1.cell 1 rfl
    have fwr_1 := Bwr_1.free
    have cwr_2_0 : wr.cell? ⟨w.heap.size + 1 + 1, 0, none⟩ = some (.int .u64 0) := Bwr_2.cell 0 rfl
    have cwr_2_1 : wr.cell? ⟨w.heap.size + 1 + 1, 1, none⟩ = some (.int .u64 0) := Bwr_2.cell 1 rfl
    have fwr_2 := Bwr_2.free
    have cwr_3_0 : wr.cell? ⟨b5, 0, none⟩ = some (.int .u64 (l0 m)) := Bwr_3.cell 0 rfl
    have cwr_3_1 : wr.cell? ⟨b5, 1, none⟩ = some (.int .u64 (l1 m)) := Bwr_3.cell 1 rfl
    have cwr_3_2 : wr.cell? ⟨b5, 2, none⟩ = some (.int .u64 (l2 m)) := Bwr_3.cell 2 rfl
    have cwr_3_3 : wr.cell? ⟨b5, 3, none⟩ = some (.int .u64 (l3 m)) := Bwr_3.cell 3 rfl
    have fwr_3 := Bwr_3.free
    by_cases hz2 : l2 m = 0
    · by_cases hz3 : l3 m = 0
      · skip
        have HE := Lib.hid (hOf.out m hm hz2 hz3 hmod.out)
        go_wp2_with fail
        refine (HE.out _).mono ?_
        rintro e W4 ⟨rfl, hkW4⟩
        have kW4 := kwr.trans hkW4
        have BW4_0 := Bwr_0.kept hkW4
        have BW4_1 := Bwr_1.kept hkW4
        have BW4_2 := Bwr_2.kept hkW4
        have BW4_3 := Bwr_3.kept hkW4
        clear cwr_0_0 cwr_0_1 cwr_1_0 cwr_1_1 cwr_2_0 cwr_2_1 cwr_3_0 cwr_3_1 cwr_3_2 cwr_3_3 fwr_0 fwr_1 fwr_2 fwr_3 Bwr_0 Bwr_1 Bwr_2 Bwr_3 kwr hkW4
        have cW4_0_0 : W4.cell? ⟨w.heap.size, 0, none⟩ = some (.int .u64 a0) := BW4_0.cell 0 rfl
        have cW4_0_1 : W4.cell? ⟨w.heap.size, 1, none⟩ = some (.int .u64 a1) := BW4_0.cell 1 rfl
        have fW4_0 := BW4_0.free
        have cW4_1_0 : W4.cell? ⟨w.heap.size + 1, 0, none⟩ = some (.int .u64 b0) := BW4_1.cell 0 rfl
        have cW4_1_1 : W4.cell? ⟨w.heap.size + 1, 1, none⟩ = some (.int .u64 b1) := BW4_1.cell 1 rfl
        have fW4_1 := BW4_1.free
        have cW4_2_0 : W4.cell? ⟨w.heap.size + 1 + 1, 0, none⟩ = some (.int .u64 0) := BW4_2.cell 0 rfl
        have cW4_2_1 : W4.cell? ⟨w.heap.size + 1 + 1, 1, none⟩ = some (.int .u64 0) := BW4_2.cell 1 rfl
        have fW4_2 := BW4_2.free
        have cW4_3_0 : W4.cell? ⟨b5, 0, none⟩ = some (.int .u64 (l0 m)) := BW4_3.cell 0 rfl
        have cW4_3_1 : W4.cell? ⟨b5, 1, none⟩ = some (.int .u64 (l1 m)) := BW4_3.cell 1 rfl
        have cW4_3_2 : W4.cell? ⟨b5, 2, none⟩ = some (.int .u64 (l2 m)) := BW4_3.cell 2 rfl
        have cW4_3_3 : W4.cell? ⟨b5, 3, none⟩ = some (.int .u64 (l3 m)) := BW4_3.cell 3 rfl
        have fW4_3 := BW4_3.free
        go_wp2_with fail
        refine bodyPost_ret (v := .agg #[.int .u64 r0, .int .u64 r1]) (by simp [results, Try.results53, go_sem, *]) rfl ⟨rfl, ?_⟩
        repeat (first | exact kW4 | (refine Kept.setCell ?_ (kept_side (by first | assumption | omega)) _) | apply Kept.alloc | apply Kept.drew)
      · skip
        have HF := Lib.hid (hFold.out m hm)
        rw [hz2] at HF
        have HS := hStep.out m hm (.inr hz3)
        go_wp2_with fail
        refine (HF.out _).mono ?_
        rintro e W4 ⟨rfl, hkW4⟩
        have kW4 := kwr.trans hkW4
        have BW4_0 := Bwr_0.kept hkW4
        have BW4_1 := Bwr_1.kept hkW4
        have BW4_2 := Bwr_2.kept hkW4
        have BW4_3 := Bwr_3.kept hkW4
        clear cwr_0_0 cwr_0_1 cwr_1_0 cwr_1_1 cwr_2_0 cwr_2_1 cwr_3_0 cwr_3_1 cwr_3_2 cwr_3_3 fwr_0 fwr_1 fwr_2 fwr_3 Bwr_0 Bwr_1 Bwr_2 Bwr_3 kwr hkW4
        have cW4_0_0 : W4.cell? ⟨w.heap.size, 0, none⟩ = some (.int .u64 a0) := BW4_0.cell 0 rfl
        have cW4_0_1 : W4.cell? ⟨w.heap.size, 1, none⟩ = some (.int .u64 a1) := BW4_0.cell 1 rfl
        have fW4_0 := BW4_0.free
        have cW4_1_0 : W4.cell? ⟨w.heap.size + 1, 0, none⟩ = some (.int .u64 b0) := BW4_1.cell 0 rfl
        have cW4_1_1 : W4.cell? ⟨w.heap.size + 1, 1, none⟩ = some (.int .u64 b1) := BW4_1.cell 1 rfl
        have fW4_1 := BW4_1.free
        have cW4_2_0 : W4.cell? ⟨w.heap.size + 1 + 1, 0, none⟩ = some (.int .u64 0) := BW4_2.cell 0 rfl
        have cW4_2_1 : W4.cell? ⟨w.heap.size + 1 + 1, 1, none⟩ = some (.int .u64 0) := BW4_2.cell 1 rfl
        have fW4_2 := BW4_2.free
        have cW4_3_0 : W4.cell? ⟨b5, 0, none⟩ = some (.int .u64 (l0 m)) := BW4_3.cell 0 rfl
        have cW4_3_1 : W4.cell? ⟨b5, 1, none⟩ = some (.int .u64 (l1 m)) := BW4_3.cell 1 rfl
        have cW4_3_2 : W4.cell? ⟨b5, 2, none⟩ = some (.int .u64 (l2 m)) := BW4_3.cell 2 rfl
        have cW4_3_3 : W4.cell? ⟨b5, 3, none⟩ = some (.int .u64 (l3 m)) := BW4_3.cell 3 rfl
        have fW4_3 := BW4_3.free
        go_wp2_with fail
        have fl := HS.out.2.1
        have fm := HS.out.1
        have fe := HS.out.2.2
        clear HS
        go_roundg (fold m).toNat
        case measure => exact hg ▸ fl
        case rel =>
          refine ⟨fold m, fm, rfl, Lib.hid (fe.trans hmod.out), ?_, ?_, ?_, ?_, ?_⟩
          · repeat (first | exact kW4 | (refine Kept.setCell ?_ (kept_side (by first | assumption | omega)) _) | apply Kept.alloc | apply Kept.drew)
          · simp [Blk, *] <;> (intros; omega)
          · simp [Blk, *] <;> (intros; omega)
          · simp [Blk, *] <;> (intros; omega)
          · simp [Blk, *] <;> (intros; omega)
    · skip
      have HF := Lib.hid (hFold.out m hm)
      have HS := hStep.out m hm (.inl hz2)
      go_wp2_with fail
      refine (HF.out _).mono ?_
      rintro e W4 ⟨rfl, hkW4⟩
      have kW4 := kwr.trans hkW4
      have BW4_0 := Bwr_0.kept hkW4
      have BW4_1 := Bwr_1.kept hkW4
      have BW4_2 := Bwr_2.kept hkW4
      have BW4_3 := Bwr_3.kept hkW4
      clear cwr_0_0 cwr_0_1 cwr_1_0 cwr_1_1 cwr_2_0 cwr_2_1 cwr_3_0 cwr_3_1 cwr_3_2 cwr_3_3 fwr_0 fwr_1 fwr_2 fwr_3 Bwr_0 Bwr_1 Bwr_2 Bwr_3 kwr hkW4
      have cW4_0_0 : W4.cell? ⟨w.heap.size, 0, none⟩ = some (.int .u64 a0) := BW4_0.cell 0 rfl
      have cW4_0_1 : W4.cell? ⟨w.heap.size, 1, none⟩ = some (.int .u64 a1) := BW4_0.cell 1 rfl
      have fW4_0 := BW4_0.free
      have cW4_1_0 : W4.cell? ⟨w.heap.size + 1, 0, none⟩ = some (.int .u64 b0) := BW4_1.cell 0 rfl
      have cW4_1_1 : W4.cell? ⟨w.heap.size + 1, 1, none⟩ = some (.int .u64 b1) := BW4_1.cell 1 rfl
      have fW4_1 := BW4_1.free
      have cW4_2_0 : W4.cell? ⟨w.heap.size + 1 + 1, 0, none⟩ = some (.int .u64 0) := BW4_2.cell 0 rfl
      have cW4_2_1 : W4.cell? ⟨w.heap.size + 1 + 1, 1, none⟩ = some (.int .u64 0) := BW4_2.cell 1 rfl
      have fW4_2 := BW4_2.free
      have cW4_3_0 : W4.cell? ⟨b5, 0, none⟩ = some (.int .u64 (l0 m)) := BW4_3.cell 0 rfl
      have cW4_3_1 : W4.cell? ⟨b5, 1, none⟩ = some (.int .u64 (l1 m)) := BW4_3.cell 1 rfl
      have cW4_3_2 : W4.cell? ⟨b5, 2, none⟩ = some (.int .u64 (l2 m)) := BW4_3.cell 2 rfl
      have cW4_3_3 : W4.cell? ⟨b5, 3, none⟩ = some (.int .u64 (l3 m)) := BW4_3.cell 3 rfl
      have fW4_3 := BW4_3.free
      go_wp2_with fail
      have fl := HS.out.2.1
      have fm := HS.out.1
      have fe := HS.out.2.2
      clear HS
      go_roundg (fold m).toNat
      case measure => exact hg ▸ fl
      case rel =>
        refine ⟨fold m, fm, rfl, Lib.hid (fe.trans hmod.out), ?_, ?_, ?_, ?_, ?_⟩
        · repeat (first | exact kW4 | (refine Kept.setCell ?_ (kept_side (by first | assumption | omega)) _) | apply Kept.alloc | apply Kept.drew)
        · simp [Blk, *] <;> (intros; omega)
        · simp [Blk, *] <;> (intros; omega)
        · simp [Blk, *] <;> (intros; omega)
        · simp [Blk, *] <;> (intros; omega)

end
theorem l_small {n : Int} (h : is256 n) (g : l2 n ≠ 0 ∨ l3 n ≠ 0) : 340282366920938463463374607431768211456 ≤ n := by
  obtain ⟨g0, g1, g2, g3⟩ := l_ok h
  have es := l_split n
  generalize l0 n = q0 at *
  generalize l1 n = q1 at *
  generalize l2 n = q2 at *
  generalize l3 n = q3 at *
  unfold is64 at *; omega
theorem w_Mul {a b : Int} (ha : is128 a) (hb : is128 b) : Pure Try.prog 53 #[E a, E b] (E (a * b % wP)) := by
  have hx := is128_emod_w a
  have hy := is128_emod_w b
  rw [Int.mul_emod]
  refine w_Mul_raw _ _ _ _ _ _ _ _ _ ?_ (w_Of ha) (w_Of hb) (w_product hx hy) ?_ ?_ ?_
  · unfold is128 at hx hy
    refine ⟨Int.mul_nonneg hx.1 hy.1, ?_⟩
    have := Int.mul_le_mul hx.2 hy.2 hy.1 (by omega)
    omega
  · exact fun m hm => w_fold hm
  · exact fun m hm h => ⟨fold_ok hm, fold_lt hm (l_small hm h), fold_mod m⟩
  · intro m hm h2 h3 he
    rw [← he]
    have h128 : is128 m := by
      obtain ⟨g0, g1, _, _⟩ := l_ok hm
      have es := l_split m
      rw [h2, h3] at es
      clear he h2 h3 hm hx hy
      unfold is64 at g0 g1; unfold is128; omega
    have := w_Of h128
    rw [show E m = .agg #[.int .u64 (l0 m), .int .u64 (l1 m)] by clear h2 h3 he hm hx hy this; unfold E l0 l1; exact agg2_congr rfl (by unfold is128 at h128; omega)] at this
    exact this

end Go.Proofs.Ytnajihlhcdedgaa
