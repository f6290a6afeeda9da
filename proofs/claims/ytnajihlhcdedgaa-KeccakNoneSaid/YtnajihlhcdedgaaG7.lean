/-
  The reference's Bytes.
-/
import Derived.Test.YtnajihlhcdedgaaG5
import Derived.Test.YtnajihlhcdedgaaG6
import Derived.Test.YtnajihlhcdedgaaOwn
namespace Go.Proofs.Ytnajihlhcdedgaa
open Go.RowKit
set_option linter.unusedVariables false
set_option linter.unusedSimpArgs false
attribute [local simp] blkAt_setCell blkAt_alloc blkAt_drew Obj.put_cells

theorem div256_succ (c : Int) (k : Nat) : c / 256 ^ (k + 1) = c / 256 ^ k / 256 := by
  rw [Int.pow_succ, Int.ediv_ediv_of_nonneg (Int.le_of_lt (Int.pow_pos (by omega)))]

set_option maxRecDepth 100000 in
set_option maxHeartbeats 4000000 in
theorem ref_Bytes_raw (f a0 a1 x0 x1 : Int) (N : Nat) (bt : Nat → Int) (hN : N ≤ 16) (x00 : 0 ≤ x0) (x01 : x0 ≤ 18446744073709551615) (x10 : 0 ≤ x1) (x11 : x1 ≤ 18446744073709551615)
    (hA : Pure Try.prog 32 #[.int .i64 f, .agg #[.int .u64 a0, .int .u64 a1]] (.agg #[.int .u64 x0, .int .u64 x1]))
    (hS : Pure Try.prog 107 #[.int .i64 f] (.int .i64 (N : Int)))
    (hb0 : Hid (∀ i : Nat, i < 8 → x0 / 256 ^ i % 256 = bt i)) (hb1 : Hid (∀ i : Nat, i < 8 → x1 / 256 ^ i % 256 = bt (8 + i))) (w : World) :
    Calls Try.prog 45 #[.int .i64 f, .agg #[.int .u64 a0, .int .u64 a1]] w fun e w' => ∃ v, e = .returned v ∧ w'.ownsRow (w.heap.size + 1) 5 1 v N ((List.range N).map fun j => Value.int .u8 (bt j)) ∧ Kept w w' := by
  have HA := Lib.hid hA
  have HS := Lib.hid hS
  clear hA hS
  go_enter Try.func45, Try.ntmps45
  go_wp2_with fail
  refine abs_calls (fun W => Kept w W ∧ Blk W (w.heap.size) 28 #[.int .u64 a0, .int .u64 a1]) ?_ ?_
  · refine ⟨?_, ?_⟩
    · repeat (first | exact Kept.refl _ | (refine Kept.setCell ?_ (kept_side (by first | assumption | omega)) _) | apply Kept.alloc | apply Kept.drew)
    · simp [Blk, *] <;> (intros; omega)
  rintro W1 ⟨kW1, BW1_0⟩
  have cW1_0_0 : W1.cell? ⟨w.heap.size, 0, none⟩ = some (.int .u64 a0) := BW1_0.cell 0 rfl
  have cW1_0_1 : W1.cell? ⟨w.heap.size, 1, none⟩ = some (.int .u64 a1) := BW1_0.cell 1 rfl
  have fW1_0 := BW1_0.free
  refine (HA.out _).mono ?_
  rintro e W2 ⟨rfl, hkW2⟩
  have kW2 := kW1.trans hkW2
  have BW2_0 := BW1_0.kept hkW2
  clear cW1_0_0 cW1_0_1 fW1_0 BW1_0 kW1 hkW2
  have cW2_0_0 : W2.cell? ⟨w.heap.size, 0, none⟩ = some (.int .u64 a0) := BW2_0.cell 0 rfl
  have cW2_0_1 : W2.cell? ⟨w.heap.size, 1, none⟩ = some (.int .u64 a1) := BW2_0.cell 1 rfl
  have fW2_0 := BW2_0.free
  go_wp2_with fail
  refine abs_world (fun W => Kept w W ∧ Blk W (w.heap.size) 28 #[.int .u64 x0, .int .u64 x1]) ?_ ?_
  · refine ⟨?_, ?_⟩
    · repeat (first | exact kW2 | (refine Kept.setCell ?_ (kept_side (by first | assumption | omega)) _) | apply Kept.alloc | apply Kept.drew)
    · simp [Blk, *] <;> (intros; omega)
  rintro W3 ⟨kW3, BW3_0⟩
  have cW3_0_0 : W3.cell? ⟨w.heap.size, 0, none⟩ = some (.int .u64 x0) := BW3_0.cell 0 rfl
  have cW3_0_1 : W3.cell? ⟨w.heap.size, 1, none⟩ = some (.int .u64 x1) := BW3_0.cell 1 rfl
  have fW3_0 := BW3_0.free
  have hz1 : w.heap.size + 1 ≤ W3.heap.size := by have := BW3_0.lt; omega
  go_loopw [5, 6] (fun v t wr => ∃ i : Nat, i ≤ N ∧ t = .int .i64 i ∧ Kept w wr ∧ Blk wr (w.heap.size) 28 #[.int .u64 x0, .int .u64 x1] ∧ wr.ownsRow (w.heap.size + 1) 5 1 v i ((List.range i).map fun j => Value.int .u8 (bt j))) (fun _ t _ => N - (intOf t).toNat)
  case atStart => exact ⟨0, Nat.zero_le _, rfl, kW3, BW3_0, World.ownsRow_nil _ _ _ _⟩
  case round =>
    obtain ⟨i, hi, rfl, kwr, Bwr_0, hown⟩ := hrel
    clear cW3_0_0 cW3_0_1 fW3_0 BW3_0 kW3 hz1
    by_cases hlt : i < N
    · have hlt' := hlt
      have cwr_0_0 : wr.cell? ⟨w.heap.size, 0, none⟩ = some (.int .u64 x0) := Bwr_0.cell 0 rfl
      have cwr_0_1 : wr.cell? ⟨w.heap.size, 1, none⟩ = some (.int .u64 x1) := Bwr_0.cell 1 rfl
      have fwr_0 := Bwr_0.free
      go_wp2_with fail
      refine (HS.out _).mono ?_
      rintro e W4 ⟨rfl, hkW4⟩
      have hown2 := ownsRow_kept hown hkW4
      clear hown
      have kW4 := kwr.trans hkW4
      have BW4_0 := Bwr_0.kept hkW4
      clear cwr_0_0 cwr_0_1 fwr_0 Bwr_0 kwr hkW4
      have cW4_0_0 : W4.cell? ⟨w.heap.size, 0, none⟩ = some (.int .u64 x0) := BW4_0.cell 0 rfl
      have cW4_0_1 : W4.cell? ⟨w.heap.size, 1, none⟩ = some (.int .u64 x1) := BW4_0.cell 1 rfl
      have fW4_0 := BW4_0.free
      obtain ⟨x, hx0, hx1, hcx, hbx⟩ : ∃ x : Int, 0 ≤ x ∧ x ≤ 18446744073709551615 ∧ W4.cell? ⟨w.heap.size, i / 8, none⟩ = some (.int .u64 x) ∧ Hid (x / 256 ^ (i % 8) % 256 = bt i) := by
        by_cases h8 : i < 8
        · refine ⟨x0, x00, x01, ?_, ?_⟩
          · rw [show i / 8 = 0 by omega]; exact cW4_0_0
          · have := hb0.out i h8; rw [show i % 8 = i by omega]; exact this
        · refine ⟨x1, x10, x11, ?_, ?_⟩
          · rw [show i / 8 = 1 by omega]; exact cW4_0_1
          · have := hb1.out (i - 8) (by omega); rw [show 8 + (i - 8) = i by omega] at this; rw [show i % 8 = i - 8 by omega]; exact this
      go_wp2_with fail
      go_loop [7, 8] (fun v t => ∃ k : Nat, k ≤ i % 8 ∧ t = .int .i64 k ∧ ∃ y : Int, 0 ≤ y ∧ y ≤ 18446744073709551615 ∧ v = .int .u64 y ∧ Hid (y = x / 256 ^ k)) (fun _ t => i % 8 - (intOf t).toNat)
      case atStart => exact ⟨0, Nat.zero_le _, rfl, x, hx0, hx1, rfl, by show x = x / 256 ^ 0; simp⟩
      case round =>
        obtain ⟨k, hk, rfl, y, hy0, hy1, rfl, hy⟩ := hrel
        by_cases hkl : k < i % 8
        · go_wp2_with fail
          go_round
          case rel => exact ⟨k + 1, by omega, by go_num, y / 256, by omega, by omega, rfl, by show _ = _; rw [hy.out, div256_succ]⟩
          case measure => simp [intOf]; omega
        · have hkm : Hid (k = i % 8) := by show k = i % 8; omega
          have hby : Hid (y % 256 = bt i) := by show y % 256 = bt i; rw [hy.out, hkm.out]; exact hbx.out
          have hkl2 : (i : Int) % 8 ≤ (k : Int) := by omega
          clear hkl hbx hcx
          have hbase : w.heap.size + 1 ≤ W4.heap.size := by have := BW4_0.lt; omega
          go_wp2_with (at_builtin; refine wpList_append_one 42 5 info5 Try.underlying42 rfl (by decide) hown2 [.int .u8 (y % 256)] rfl (by intro u hu; simp at hu; subst hu; rfl) (by omega) (by decide) hbase (.tmp 30) (.tmp 34) rfl rfl rfl rfl ?_; intro v' w1 hown3 hgrow hne)
          have kw1 := grown_kept kW4 hown2 hgrow (by omega)
          have Bw1 := grown_blk BW4_0 hown2 hgrow (by omega)
          clear hown2 hgrow hbase cW4_0_0 cW4_0_1 fW4_0 BW4_0 kW4
          go_wp2_with fail
          go_roundw
          case rel => exact ⟨i + 1, by omega, by go_num, kw1, Bw1, by rw [List.range_succ, List.map_append, List.map_singleton, ← hby.out]; exact hown3⟩
          case measure => simp [intOf]; omega
    · have hge := hlt
      have cwr_0_0 : wr.cell? ⟨w.heap.size, 0, none⟩ = some (.int .u64 x0) := Bwr_0.cell 0 rfl
      have cwr_0_1 : wr.cell? ⟨w.heap.size, 1, none⟩ = some (.int .u64 x1) := Bwr_0.cell 1 rfl
      have fwr_0 := Bwr_0.free
      go_wp2_with fail
      refine (HS.out _).mono ?_
      rintro e W5 ⟨rfl, hkW5⟩
      have hown2 := ownsRow_kept hown hkW5
      clear hown
      have kW5 := kwr.trans hkW5
      have BW5_0 := Bwr_0.kept hkW5
      clear cwr_0_0 cwr_0_1 fwr_0 Bwr_0 kwr hkW5
      have cW5_0_0 : W5.cell? ⟨w.heap.size, 0, none⟩ = some (.int .u64 x0) := BW5_0.cell 0 rfl
      have cW5_0_1 : W5.cell? ⟨w.heap.size, 1, none⟩ = some (.int .u64 x1) := BW5_0.cell 1 rfl
      have fW5_0 := BW5_0.free
      have hiN : i = N := by omega
      have HiN := Lib.hid hiN
      clear hiN
      go_wp2_with fail
      go_ret
      exact ⟨_, rfl, by rw [← HiN.out]; exact hown2, kW5⟩

theorem limb0 (n : Int) (k : Nat) (hk : k < 8) : n % 18446744073709551616 / 256 ^ k % 256 = n / 256 ^ k % 256 := by
  match k, hk with
  | 0, _ | 1, _ | 2, _ | 3, _ | 4, _ | 5, _ | 6, _ | 7, _ => omega
theorem limb1 (n : Int) (k : Nat) : n / 18446744073709551616 / 256 ^ k % 256 = n / 256 ^ (8 + k) % 256 := by
  rw [Int.pow_add, ← Int.ediv_ediv_of_nonneg (show (0 : Int) ≤ 256 ^ 8 by decide)]
  rfl
theorem leBytes_range : ∀ (N : Nat) (n : Int), leBytes N n = (List.range N).map fun k => n / 256 ^ k % 256
  | 0, _ => rfl
  | N + 1, n => by
    rw [List.range_succ_eq_map, List.map_cons, List.map_map, leBytes, leBytes_range N]
    congr 1
    · simp
    · refine List.map_congr_left fun k _ => ?_
      show n / 256 / 256 ^ k % 256 = n / 256 ^ (k + 1) % 256
      rw [Int.pow_succ, Int.mul_comm, ← Int.ediv_ediv_of_nonneg (show (0 : Int) ≤ 256 by decide)]

/-- The reference's Bytes: a slice of its own. -/
theorem ref_Bytes {f a : Int} (hf : isF f) (ha : is128 a) (w : World) :
    Calls Try.prog 45 #[.int .i64 f, E a] w fun e w' => ∃ v, e = .returned v ∧ w'.ownsRow (w.heap.size + 1) 5 1 v (8 * f).toNat (bytesV (leBytes (8 * f).toNat (rOf f a))) ∧ Kept w w' := by
  have h8 : 8 * f = ((8 * f).toNat : Int) := by unfold isF at hf; omega
  have hN : (8 * f).toNat ≤ 16 := by unfold isF at hf; omega
  have hS := ref_Size hf
  rw [h8] at hS
  have hx := is128_rOf f a
  have e0 := is64_lo (rOf f a)
  have e1 := is64_hi hx
  unfold is64 at e0 e1
  have := ref_Bytes_raw f _ _ _ _ _ (fun k => rOf f a / 256 ^ k % 256) hN e0.1 e0.2 e1.1 e1.2 (ref_Of hf ha) hS (fun k hk => limb0 _ _ hk) (fun k hk => limb1 _ _) w
  rw [leBytes_range, bytesV, List.map_map]
  exact this
end Go.Proofs.Ytnajihlhcdedgaa
