/-
  QuantOrder: for every two doubles and every word the law returns true.
-/
import Derived.Test.YtbpmgdneiejhoaaQOP
import Derived.Deep.RegionWith
namespace Go.Proofs.Ytbpmgdneiejhoaa
open Go.RowKit
set_option linter.unusedVariables false
set_option linter.unusedSimpArgs false
attribute [local go_sem] run_store_float
attribute [local simp] blkAt_setCell blkAt_alloc blkAt_drew Obj.put_cells

theorem bitsZ : bitsV 9223372036854775808 = 0 := by decide +kernel

set_option maxRecDepth 100000 in
set_option maxHeartbeats 4000000 in
theorem quant_order_raw (a b : Nat) (c : Int) (X : Nat → Nat) (hX : rowF 8 (fun i => .float .f64 (X i)) = #[.float .f64 a, .float .f64 b, .float .f64 c.toNat, .float .f64 9221120237041090561, .float .f64 9218868437227405312, .float .f64 18442240474082181120, .float .f64 0, .float .f64 9223372036854775808])
    (hb : Hid (∀ i, i < 8 → X i < 18446744073709551616)) (w : World) : Calls Try.prog 6 #[.float .f64 a, .float .f64 b, .int .u64 c] w fun e w' => e = .returned (.bool true) ∧ Kept w w' := by
  have HA := Lib.hid quant_Awake
  have HN := Lib.hid nan_18
  have HI := Lib.hid inf_pos
  have HJ := Lib.hid inf_neg
  have HZ := Lib.hid copysign_m
  have HS := Lib.hid same_any
  have HC := Lib.hid cmp_any
  have HB := Lib.hid bits_any
  have hf := run_frombits c
  go_enter Try.func6, Try.ntmps6
  go_wp2_with fail
  refine (HA.out _).mono ?_
  rintro e W0 ⟨rfl, kW0⟩
  go_wp2_with (first | (go_at_call 18; refine (HN.out _).mono ?_; rintro e w' ⟨rfl, rfl⟩) | (go_at_call_of 16 (Value.int .i64 1); refine (HI.out _).mono ?_; rintro e w' ⟨rfl, rfl⟩) | (go_at_call 16; refine (HJ.out _).mono ?_; rintro e w' ⟨rfl, rfl⟩) | (go_at_call 19; refine (HZ.out _).mono ?_; rintro e w' ⟨rfl, rfl⟩))
  obtain ⟨g, hg⟩ : ∃ g, W0.heap.size = g := ⟨_, rfl⟩
  simp only [hg]
  refine abs_world (fun W => Kept w W ∧ Blk W g 22 (rowF 8 (fun i => .float .f64 (X i)))) ?_ ?_
  · exact ⟨kW0.alloc _, by rw [hX, ← hg]; exact Blk.new _ _ _⟩
  rintro W1 ⟨kW1, B⟩
  clear hg kW0
  go_loop [28] (fun t => ∃ i : Nat, i ≤ 8 ∧ t = .int .i64 i) (fun t => 8 - (intOf t).toNat)
  case atStart => exact ⟨0, by omega, rfl⟩
  case round =>
    obtain ⟨i, hi, rfl⟩ := hrel
    by_cases hlt : i < 8
    · have ci := B.at hlt
      have hi0 : (0 : Int) ≤ (i : Int) := by omega
      have hi8 : (i : Int) < 8 := by omega
      have hx := hb.out i hlt
      generalize X i = x at ci hx
      go_wp2_with fail
      go_loop [34] (fun t => ∃ j : Nat, j ≤ 8 ∧ t = .int .i64 j) (fun t => 8 - (intOf t).toNat)
      case atStart => exact ⟨0, by omega, rfl⟩
      case round =>
        obtain ⟨j, hj, rfl⟩ := hrel
        by_cases hlj : j < 8
        · have cj := B.at hlj
          have hj0 : (0 : Int) ≤ (j : Int) := by omega
          have hj8 : (j : Int) < 8 := by omega
          have hy := hb.out j hlj
          generalize X j = y at cj hy
          clear ci
          have hp := pf hx hy
          clear hx hy
          rcases hp with hp | hp | hp | hp | hp | hp
          all_goals
            obtain ⟨h1, h2, h3, h4, h5, h6, h7, h8⟩ := hp
            go_wp2_with (first | (go_at_call 21; refine (HS.out _ _ _).mono ?_; rintro e w' ⟨rfl, rfl⟩) | (go_at_call 20; refine (HC.out _ _ _).mono ?_; rintro e w' ⟨rfl, rfl⟩) | (go_at_call 22; refine (HB.out _ _).mono ?_; rintro e w' ⟨rfl, rfl⟩))
            go_round
            case rel => exact ⟨j + 1, by omega, by go_num⟩
            case measure => simp [intOf]; omega
        · have hone := one (x := x)
          clear hx ci
          rcases hone with h1 | ⟨h1, h2⟩ | ⟨h1, h2, h3⟩
          all_goals
            have hbx := run_bits x
            go_wp2_with (first | (go_at_call 21; refine (HS.out _ _ _).mono ?_; rintro e w' ⟨rfl, rfl⟩) | (go_at_call 20; refine (HC.out _ _ _).mono ?_; rintro e w' ⟨rfl, rfl⟩) | (go_at_call 22; refine (HB.out _ _).mono ?_; rintro e w' ⟨rfl, rfl⟩))
            go_round
            case rel => exact ⟨i + 1, by omega, by go_num⟩
            case measure => simp [intOf]; omega
    · have h0 := bitsZ
      go_wp2_with (first | (go_at_call 19; refine (HZ.out _).mono ?_; rintro e w' ⟨rfl, rfl⟩) | (go_at_call 22; refine (HB.out _ _).mono ?_; rintro e w' ⟨rfl, rfl⟩))
      go_ret
      exact ⟨rfl, kW1⟩
end Go.Proofs.Ytbpmgdneiejhoaa
