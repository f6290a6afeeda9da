/-
  Sum, Dot, AddVec, SubVec.
-/
import Derived.Test.YtnajihlhcdedgaaFC
namespace Go.Proofs.Ytnajihlhcdedgaa
open Go.RowKit
set_option linter.unusedVariables false
set_option linter.unusedSimpArgs false
attribute [local simp] blkAt_setCell blkAt_alloc blkAt_drew Obj.put_cells

set_option maxRecDepth 100000 in
set_option maxHeartbeats 4000000 in
theorem f_Sum_r (w : World) (f : Int) (a : Option Addr) (n cap N : Nat) (C0 C1 S0 S1 : Nat → Int) (hn : n ≤ 4096) (hA : SlE w a n cap N C0 C1) (h00 : S0 0 = 0) (h01 : S1 0 = 0)
    (HG : Hid (∀ j, j < n → Pure Try.prog 99 #[.int .u8 f, .agg #[.int .u64 (S0 j), .int .u64 (S1 j)], .agg #[.int .u64 (C0 j), .int .u64 (C1 j)]] (.agg #[.int .u64 (S0 (j + 1)), .int .u64 (S1 (j + 1))]))) :
    Calls Try.prog 82 #[.int .u8 f, .slice a n cap] w fun e w' => e = .returned (.agg #[.int .u64 (S0 n), .int .u64 (S1 n)]) ∧ Kept w w' := by
  go_enter Try.func82, Try.ntmps82
  go_wp2_with fail
  refine abs_world (fun W => Kept w W ∧ Blk W (w.heap.size) 28 #[.int .u64 0, .int .u64 0] ∧ Blk W (w.heap.size + 1) 28 #[.int .u64 0, .int .u64 0]) ?_ ?_
  · refine ⟨?_, ?_, ?_⟩
    · repeat (first | exact Kept.refl _ | (refine Kept.setCell ?_ (kept_side (by first | assumption | omega)) _) | apply Kept.alloc | apply Kept.drew)
    · simp [Blk, *] <;> (intros; omega)
    · simp [Blk, *] <;> (intros; omega)
  rintro W1 ⟨kW1, BW1_0, BW1_1⟩
  have cW1_0_0 : W1.cell? ⟨w.heap.size, 0, none⟩ = some (.int .u64 0) := BW1_0.cell 0 rfl
  have cW1_0_1 : W1.cell? ⟨w.heap.size, 1, none⟩ = some (.int .u64 0) := BW1_0.cell 1 rfl
  have fW1_0 := BW1_0.free
  have cW1_1_0 : W1.cell? ⟨w.heap.size + 1, 0, none⟩ = some (.int .u64 0) := BW1_1.cell 0 rfl
  have cW1_1_1 : W1.cell? ⟨w.heap.size + 1, 1, none⟩ = some (.int .u64 0) := BW1_1.cell 1 rfl
  have fW1_1 := BW1_1.free
  have hz2 : w.heap.size + 1 + 1 ≤ W1.heap.size := by have := BW1_1.lt; omega
  go_loopw [10] (fun t wr => ∃ i : Nat, i ≤ n ∧ t = .int .i64 i ∧ Kept w wr ∧ Blk wr (w.heap.size) 28 #[.int .u64 0, .int .u64 0] ∧ Blk wr (w.heap.size + 1) 28 #[.int .u64 (S0 i), .int .u64 (S1 i)]) (fun t _ => n - (intOf t).toNat)
  case atStart => exact ⟨0, Nat.zero_le _, rfl, kW1, BW1_0, by rw [h00, h01]; exact BW1_1⟩
  case round =>
    obtain ⟨i, hi, rfl, kwr, Bwr_0, Bwr_1⟩ := hrel
    clear cW1_0_0 cW1_0_1 cW1_1_0 cW1_1_1 fW1_0 BW1_0 fW1_1 BW1_1 kW1 hz2
    have zi : (0 : Int) ≤ (i : Int) := by omega
    rcases Nat.lt_or_ge i n with hlt | hge
    · have yi : (i : Int) < (n : Int) := by omega
      obtain ⟨p, hip, cp0, cp1, _⟩ := (hA.kept kwr).at' i hlt
      have HGi := Lib.hid (HG.out i hlt)
      generalize C0 i = c0 at *
      generalize C1 i = c1 at *
      generalize S0 i = s0 at *
      generalize S1 i = s1 at *
      have HS0 : Hid (S0 (i + 1) = S0 (i + 1)) := Lib.hid rfl
      obtain ⟨s2, hs2⟩ : ∃ x, S0 (i + 1) = x := ⟨_, rfl⟩
      obtain ⟨s3, hs3⟩ : ∃ x, S1 (i + 1) = x := ⟨_, rfl⟩
      rw [hs2, hs3] at HGi
      have HS2 := Lib.hid hs2
      have HS3 := Lib.hid hs3
      clear hs2 hs3 HS0
      have cwr_0_0 : wr.cell? ⟨w.heap.size, 0, none⟩ = some (.int .u64 0) := Bwr_0.cell 0 rfl
      have cwr_0_1 : wr.cell? ⟨w.heap.size, 1, none⟩ = some (.int .u64 0) := Bwr_0.cell 1 rfl
      have fwr_0 := Bwr_0.free
      have cwr_1_0 : wr.cell? ⟨w.heap.size + 1, 0, none⟩ = some (.int .u64 s0) := Bwr_1.cell 0 rfl
      have cwr_1_1 : wr.cell? ⟨w.heap.size + 1, 1, none⟩ = some (.int .u64 s1) := Bwr_1.cell 1 rfl
      have fwr_1 := Bwr_1.free
      obtain ⟨g7, hg7⟩ : ∃ b, wr.heap.size = b := ⟨_, rfl⟩
      have neg7_0 : w.heap.size ≠ g7 := by have := Bwr_0.lt; omega
      have eng7_0 : g7 ≠ w.heap.size := neg7_0.symm
      have neg7_1 : w.heap.size + 1 ≠ g7 := by have := Bwr_1.lt; omega
      have eng7_1 : g7 ≠ w.heap.size + 1 := neg7_1.symm
      have log7 : w.heap.size ≤ g7 := hg7 ▸ kwr.size
      go_upto_region 5 with (refine wpList_load_elem (.tmp 12) cp0 cp1 rfl rfl rfl ?_)
      clear cp0 cp1
      refine abs_world (fun W => Kept w W ∧ Blk W (w.heap.size) 28 #[.int .u64 0, .int .u64 0] ∧ Blk W (w.heap.size + 1) 28 #[.int .u64 s0, .int .u64 s1] ∧ Blk W (g7) 28 #[.int .u64 c0, .int .u64 c1]) ?_ ?_
      · refine ⟨?_, ?_, ?_, ?_⟩
        · repeat (first | exact kwr | (refine Kept.setCell ?_ (kept_side (by first | assumption | omega)) _) | apply Kept.alloc | apply Kept.drew)
        · simp [Blk, *] <;> (intros; omega)
        · simp [Blk, *] <;> (intros; omega)
        · simp [Blk, *] <;> (intros; omega)
      rintro W2 ⟨kW2, BW2_0, BW2_1, BW2_2⟩
      have cW2_0_0 : W2.cell? ⟨w.heap.size, 0, none⟩ = some (.int .u64 0) := BW2_0.cell 0 rfl
      have cW2_0_1 : W2.cell? ⟨w.heap.size, 1, none⟩ = some (.int .u64 0) := BW2_0.cell 1 rfl
      have fW2_0 := BW2_0.free
      have cW2_1_0 : W2.cell? ⟨w.heap.size + 1, 0, none⟩ = some (.int .u64 s0) := BW2_1.cell 0 rfl
      have cW2_1_1 : W2.cell? ⟨w.heap.size + 1, 1, none⟩ = some (.int .u64 s1) := BW2_1.cell 1 rfl
      have fW2_1 := BW2_1.free
      have cW2_2_0 : W2.cell? ⟨g7, 0, none⟩ = some (.int .u64 c0) := BW2_2.cell 0 rfl
      have cW2_2_1 : W2.cell? ⟨g7, 1, none⟩ = some (.int .u64 c1) := BW2_2.cell 1 rfl
      have fW2_2 := BW2_2.free
      go_wp2_with fail
      refine (HGi.out _).mono ?_
      rintro e W3 ⟨rfl, hkW3⟩
      have kW3 := kW2.trans hkW3
      have BW3_0 := BW2_0.kept hkW3
      have BW3_1 := BW2_1.kept hkW3
      have BW3_2 := BW2_2.kept hkW3
      clear cW2_0_0 cW2_0_1 cW2_1_0 cW2_1_1 cW2_2_0 cW2_2_1 fW2_0 fW2_1 fW2_2 BW2_0 BW2_1 BW2_2 kW2 hkW3
      have cW3_0_0 : W3.cell? ⟨w.heap.size, 0, none⟩ = some (.int .u64 0) := BW3_0.cell 0 rfl
      have cW3_0_1 : W3.cell? ⟨w.heap.size, 1, none⟩ = some (.int .u64 0) := BW3_0.cell 1 rfl
      have fW3_0 := BW3_0.free
      have cW3_1_0 : W3.cell? ⟨w.heap.size + 1, 0, none⟩ = some (.int .u64 s0) := BW3_1.cell 0 rfl
      have cW3_1_1 : W3.cell? ⟨w.heap.size + 1, 1, none⟩ = some (.int .u64 s1) := BW3_1.cell 1 rfl
      have fW3_1 := BW3_1.free
      have cW3_2_0 : W3.cell? ⟨g7, 0, none⟩ = some (.int .u64 c0) := BW3_2.cell 0 rfl
      have cW3_2_1 : W3.cell? ⟨g7, 1, none⟩ = some (.int .u64 c1) := BW3_2.cell 1 rfl
      have fW3_2 := BW3_2.free
      go_wp2_with fail
      go_roundw
      case rel =>
        refine ⟨i + 1, by omega, by go_num, ?_, ?_, ?_⟩
        · exact (kW3.setCell (kept_side (by omega)) _).setCell (kept_side (by omega)) _
        · simp [Blk, *]
        · rw [HS2.out, HS3.out]; simp [Blk, *]
      case measure => simp [intOf]; omega
    · have yi : (n : Int) ≤ (i : Int) := by omega
      obtain rfl : i = n := by omega
      have cwr_0_0 : wr.cell? ⟨w.heap.size, 0, none⟩ = some (.int .u64 0) := Bwr_0.cell 0 rfl
      have cwr_0_1 : wr.cell? ⟨w.heap.size, 1, none⟩ = some (.int .u64 0) := Bwr_0.cell 1 rfl
      have fwr_0 := Bwr_0.free
      have cwr_1_0 : wr.cell? ⟨w.heap.size + 1, 0, none⟩ = some (.int .u64 (S0 i)) := Bwr_1.cell 0 rfl
      have cwr_1_1 : wr.cell? ⟨w.heap.size + 1, 1, none⟩ = some (.int .u64 (S1 i)) := Bwr_1.cell 1 rfl
      have fwr_1 := Bwr_1.free
      go_wp2_with fail
      refine bodyPost_ret (v := .agg #[.int .u64 (S0 i), .int .u64 (S1 i)]) (by simp [results, Try.results82, go_sem, *]) rfl ⟨rfl, ?_⟩
      repeat (first | exact kwr | (refine Kept.setCell ?_ (kept_side (by first | assumption | omega)) _) | apply Kept.alloc | apply Kept.drew)

set_option maxRecDepth 100000 in
set_option maxHeartbeats 4000000 in
theorem f_AddVec_long (f : Int) (a : Option Addr) (n cap : Nat) (b : Option Addr) (m capb : Nat) (hnm : n ≠ m) (h1 : (n : Int) ≤ 9223372036854775807) (h2 : (m : Int) ≤ 9223372036854775807) : Pure Try.prog 78 #[.int .u8 f, .slice a n cap, .slice b m capb] (.tuple #[.slice none 0 0, .int .i64 9]) := fun w => by
  have HP := Lib.hid (f_pair_long (.func (.func 99) #[.int .u8 f] #[]) a n cap b m capb hnm h1 h2)
  go_enter Try.func78, Try.ntmps78
  go_wp2_with fail
  refine (HP.out _).mono ?_
  rintro e W1 ⟨rfl, k1⟩
  go_wp2_with fail
  go_ret2
  exact ⟨rfl, k1⟩
set_option maxRecDepth 100000 in
set_option maxHeartbeats 4000000 in
theorem f_AddVec_r (w : World) (f : Int) (a : Option Addr) (n cap N : Nat) (b : Option Addr) (capb : Nat) (A0 A1 B0 B1 R0 R1 : Nat → Int) (hn : n ≤ 4096) (hA : SlE w a n cap N A0 A1) (hB : SlE w b n capb N B0 B1)
    (hG : Hid (∀ j, j < n → Pure Try.prog 99 #[.int .u8 f, .agg #[.int .u64 (A0 j), .int .u64 (A1 j)], .agg #[.int .u64 (B0 j), .int .u64 (B1 j)]] (.agg #[.int .u64 (R0 j), .int .u64 (R1 j)]))) :
    Calls Try.prog 78 #[.int .u8 f, .slice a n cap, .slice b n capb] w fun e w' => ∃ g, e = .returned (.tuple #[.slice (some ⟨g, 0, none⟩) n n, .int .i64 0]) ∧ w.heap.size ≤ g ∧ Kept w w' ∧ Blk w' g 28 (rowF (n * 2) (fun c => .int .u64 (elemC R0 R1 c))) := by
  go_enter Try.func78, Try.ntmps78
  go_wp2_with fail
  refine (f_pair _ 99 enters99 f a n cap N b capb A0 A1 B0 B1 R0 R1 hn hA hB hG).mono ?_
  rintro e W1 ⟨g, rfl, hg, k1, B1⟩
  go_wp2_with fail
  go_ret2
  exact ⟨g, rfl, hg, k1, B1⟩

set_option maxRecDepth 100000 in
set_option maxHeartbeats 4000000 in
theorem f_SubVec_long (f : Int) (a : Option Addr) (n cap : Nat) (b : Option Addr) (m capb : Nat) (hnm : n ≠ m) (h1 : (n : Int) ≤ 9223372036854775807) (h2 : (m : Int) ≤ 9223372036854775807) : Pure Try.prog 79 #[.int .u8 f, .slice a n cap, .slice b m capb] (.tuple #[.slice none 0 0, .int .i64 9]) := fun w => by
  have HP := Lib.hid (f_pair_long (.func (.func 100) #[.int .u8 f] #[]) a n cap b m capb hnm h1 h2)
  go_enter Try.func79, Try.ntmps79
  go_wp2_with fail
  refine (HP.out _).mono ?_
  rintro e W1 ⟨rfl, k1⟩
  go_wp2_with fail
  go_ret2
  exact ⟨rfl, k1⟩
set_option maxRecDepth 100000 in
set_option maxHeartbeats 4000000 in
theorem f_SubVec_r (w : World) (f : Int) (a : Option Addr) (n cap N : Nat) (b : Option Addr) (capb : Nat) (A0 A1 B0 B1 R0 R1 : Nat → Int) (hn : n ≤ 4096) (hA : SlE w a n cap N A0 A1) (hB : SlE w b n capb N B0 B1)
    (hG : Hid (∀ j, j < n → Pure Try.prog 100 #[.int .u8 f, .agg #[.int .u64 (A0 j), .int .u64 (A1 j)], .agg #[.int .u64 (B0 j), .int .u64 (B1 j)]] (.agg #[.int .u64 (R0 j), .int .u64 (R1 j)]))) :
    Calls Try.prog 79 #[.int .u8 f, .slice a n cap, .slice b n capb] w fun e w' => ∃ g, e = .returned (.tuple #[.slice (some ⟨g, 0, none⟩) n n, .int .i64 0]) ∧ w.heap.size ≤ g ∧ Kept w w' ∧ Blk w' g 28 (rowF (n * 2) (fun c => .int .u64 (elemC R0 R1 c))) := by
  go_enter Try.func79, Try.ntmps79
  go_wp2_with fail
  refine (f_pair _ 100 enters100 f a n cap N b capb A0 A1 B0 B1 R0 R1 hn hA hB hG).mono ?_
  rintro e W1 ⟨g, rfl, hg, k1, B1⟩
  go_wp2_with fail
  go_ret2
  exact ⟨g, rfl, hg, k1, B1⟩

set_option maxRecDepth 100000 in
set_option maxHeartbeats 4000000 in
theorem f_Dot_long (f : Int) (a : Option Addr) (n cap : Nat) (b : Option Addr) (m capb : Nat) (hnm : n ≠ m) (h1 : (n : Int) ≤ 9223372036854775807) (h2 : (m : Int) ≤ 9223372036854775807) : Pure Try.prog 80 #[.int .u8 f, .slice a n cap, .slice b m capb] (.tuple #[.agg #[.int .u64 0, .int .u64 0], .int .i64 9]) := fun w => by
  have HP := Lib.hid (f_pair_long (.func (.func 102) #[.int .u8 f] #[]) a n cap b m capb hnm h1 h2)
  go_enter Try.func80, Try.ntmps80
  go_wp2_with fail
  refine abs_calls (fun W => Kept w W ∧ Blk W (w.heap.size) 28 #[.int .u64 0, .int .u64 0]) ?_ ?_
  · refine ⟨?_, ?_⟩
    · repeat (first | exact Kept.refl _ | (refine Kept.setCell ?_ (kept_side (by first | assumption | omega)) _) | apply Kept.alloc | apply Kept.drew)
    · simp [Blk, *] <;> (intros; omega)
  rintro W1 ⟨kW1, BW1_0⟩
  have cW1_0_0 : W1.cell? ⟨w.heap.size, 0, none⟩ = some (.int .u64 0) := BW1_0.cell 0 rfl
  have cW1_0_1 : W1.cell? ⟨w.heap.size, 1, none⟩ = some (.int .u64 0) := BW1_0.cell 1 rfl
  have fW1_0 := BW1_0.free
  refine (HP.out _).mono ?_
  rintro e W2 ⟨rfl, hkW2⟩
  have kW2 := kW1.trans hkW2
  have BW2_0 := BW1_0.kept hkW2
  clear cW1_0_0 cW1_0_1 fW1_0 BW1_0 kW1 hkW2
  have cW2_0_0 : W2.cell? ⟨w.heap.size, 0, none⟩ = some (.int .u64 0) := BW2_0.cell 0 rfl
  have cW2_0_1 : W2.cell? ⟨w.heap.size, 1, none⟩ = some (.int .u64 0) := BW2_0.cell 1 rfl
  have fW2_0 := BW2_0.free
  go_wp2_with fail
  refine bodyPost_ret (v := .tuple #[.agg #[.int .u64 0, .int .u64 0], .int .i64 9]) (by simp [results, Try.results80, go_sem, *]) rfl ⟨rfl, ?_⟩
  repeat (first | exact kW2 | (refine Kept.setCell ?_ (kept_side (by first | assumption | omega)) _) | apply Kept.alloc | apply Kept.drew)
set_option maxRecDepth 100000 in
set_option maxHeartbeats 4000000 in
theorem f_Dot_r (w : World) (f : Int) (a : Option Addr) (n cap N : Nat) (b : Option Addr) (capb : Nat) (A0 A1 B0 B1 M0 M1 S0 S1 : Nat → Int) (hn : n ≤ 4096) (hA : SlE w a n cap N A0 A1) (hB : SlE w b n capb N B0 B1) (h00 : S0 0 = 0) (h01 : S1 0 = 0)
    (hG : Hid (∀ j, j < n → Pure Try.prog 102 #[.int .u8 f, .agg #[.int .u64 (A0 j), .int .u64 (A1 j)], .agg #[.int .u64 (B0 j), .int .u64 (B1 j)]] (.agg #[.int .u64 (M0 j), .int .u64 (M1 j)])))
    (HS : Hid (∀ j, j < n → Pure Try.prog 99 #[.int .u8 f, .agg #[.int .u64 (S0 j), .int .u64 (S1 j)], .agg #[.int .u64 (M0 j), .int .u64 (M1 j)]] (.agg #[.int .u64 (S0 (j + 1)), .int .u64 (S1 (j + 1))]))) :
    Calls Try.prog 80 #[.int .u8 f, .slice a n cap, .slice b n capb] w fun e w' => e = .returned (.tuple #[.agg #[.int .u64 (S0 n), .int .u64 (S1 n)], .int .i64 0]) ∧ Kept w w' := by
  go_enter Try.func80, Try.ntmps80
  go_wp2_with fail
  refine abs_calls (fun W => Kept w W ∧ Blk W (w.heap.size) 28 #[.int .u64 0, .int .u64 0]) ?_ ?_
  · refine ⟨?_, ?_⟩
    · repeat (first | exact Kept.refl _ | (refine Kept.setCell ?_ (kept_side (by first | assumption | omega)) _) | apply Kept.alloc | apply Kept.drew)
    · simp [Blk, *] <;> (intros; omega)
  rintro W1 ⟨kW1, BW1_0⟩
  have cW1_0_0 : W1.cell? ⟨w.heap.size, 0, none⟩ = some (.int .u64 0) := BW1_0.cell 0 rfl
  have cW1_0_1 : W1.cell? ⟨w.heap.size, 1, none⟩ = some (.int .u64 0) := BW1_0.cell 1 rfl
  have fW1_0 := BW1_0.free
  refine (f_pair _ 102 enters102 f a n cap N b capb A0 A1 B0 B1 M0 M1 hn (hA.kept kW1) (hB.kept kW1) hG).mono ?_
  rintro e W2 ⟨g, rfl, hg, hkW2, BB⟩
  have kW2 := kW1.trans hkW2
  have BW2_0 := BW1_0.kept hkW2
  clear cW1_0_0 cW1_0_1 fW1_0 BW1_0 kW1 hkW2
  have cW2_0_0 : W2.cell? ⟨w.heap.size, 0, none⟩ = some (.int .u64 0) := BW2_0.cell 0 rfl
  have cW2_0_1 : W2.cell? ⟨w.heap.size, 1, none⟩ = some (.int .u64 0) := BW2_0.cell 1 rfl
  have fW2_0 := BW2_0.free
  go_wp2_with fail
  refine (f_Sum_r _ f _ n n (g + 1) M0 M1 S0 S1 hn (SlE.of_blk BB (Nat.le_refl _)) h00 h01 HS).mono ?_
  rintro e W3 ⟨rfl, hkW3⟩
  clear BB
  have kW3 := kW2.trans hkW3
  have BW3_0 := BW2_0.kept hkW3
  clear cW2_0_0 cW2_0_1 fW2_0 BW2_0 kW2 hkW3
  have cW3_0_0 : W3.cell? ⟨w.heap.size, 0, none⟩ = some (.int .u64 0) := BW3_0.cell 0 rfl
  have cW3_0_1 : W3.cell? ⟨w.heap.size, 1, none⟩ = some (.int .u64 0) := BW3_0.cell 1 rfl
  have fW3_0 := BW3_0.free
  go_wp2_with fail
  refine bodyPost_ret (v := .tuple #[.agg #[.int .u64 (S0 n), .int .u64 (S1 n)], .int .i64 0]) (by simp [results, Try.results80, go_sem, *]) rfl ⟨rfl, ?_⟩
  repeat (first | exact kW3 | (refine Kept.setCell ?_ (kept_side (by first | assumption | omega)) _) | apply Kept.alloc | apply Kept.drew)

end Go.Proofs.Ytnajihlhcdedgaa
