/-
  The third law's Awake.
-/
import Derived.Test.YtnajihlhcdedgaaFE
namespace Go.Proofs.Ytnajihlhcdedgaa
open Go.RowKit
set_option linter.unusedVariables false
set_option linter.unusedSimpArgs false
attribute [local simp] blkAt_setCell blkAt_alloc blkAt_drew Obj.put_cells

def aw0 (j : Nat) : Int := if j = 0 then 1 else 2
def aw1 (j : Nat) : Int := if j = 0 then 3 else 4
theorem aw_sum : sumF 1 (mulF 1 aw0 aw1) 2 = 11 := by decide +kernel
theorem E_eleven : E 11 = .agg #[.int .u64 11, .int .u64 0] := E_small (by unfold is64; omega)
set_option maxRecDepth 100000 in
set_option maxHeartbeats 4000000 in
theorem f_Awake : Pure Try.prog 76 #[] (.bool true) := fun w => by
  have h0 : ∀ j, j < 2 → is128 (aw0 j) := fun j _ => by unfold aw0 is128; split <;> omega
  have h1 : ∀ j, j < 2 → is128 (aw1 j) := fun j _ => by unfold aw1 is128; split <;> omega
  have HD : Hid (∀ (w : World) (a b : Option Addr) (capa capb N : Nat), SlX w a 2 capa N aw0 → SlX w b 2 capb N aw1 → Calls Try.prog 80 #[.int .u8 1, .slice a 2 capa, .slice b 2 capb] w fun e w' => e = .returned (.tuple #[.agg #[.int .u64 11, .int .u64 0], .int .i64 0]) ∧ Kept w w') := Lib.hid fun w a b capa capb N hA hB => by
    have := f_Dot isF1 w (by omega) h0 h1 hA hB
    rw [aw_sum, E_eleven] at this
    exact this
  have heq := fun w => run_eql28 11 0 11 0 w
  simp only [decide_true, and_self] at heq
  clear h0 h1
  obtain ⟨g1, hg1⟩ : ∃ g, w.heap.size = g := ⟨_, rfl⟩
  obtain ⟨g2, hg2⟩ : ∃ g, g1 + 1 = g := ⟨_, rfl⟩
  have nw1 : w.heap.size ≤ g1 := by omega
  have nw2 : w.heap.size ≤ g2 := by omega
  have n12 : g1 < g2 := by omega
  go_enter Try.func76, Try.ntmps76
  go_wp2_with fail
  try simp only [hg1]
  try simp only [hg2]
  refine abs_calls (fun W => Kept w W ∧ Blk W g1 28 (rowF 4 (fun c => .int .u64 (elemC (fun j => aw0 j % 18446744073709551616) (fun j => aw0 j / 18446744073709551616) c))) ∧ Blk W g2 28 (rowF 4 (fun c => .int .u64 (elemC (fun j => aw1 j % 18446744073709551616) (fun j => aw1 j / 18446744073709551616) c)))) ⟨((Kept.refl w).alloc _).alloc _, ?_, ?_⟩ ?_
  · rw [← hg1]; exact (Blk.new _ _ _).alloc _
  · rw [← hg2, ← hg1]; exact heap_alloc2_new w _ _
  rintro W1 ⟨k1, B1, B2⟩
  refine (HD.out W1 _ _ 2 2 (g2 + 1) ((SlE.of_blk B1 (by omega)).mono (by omega)) (SlE.of_blk B2 (by omega))).mono ?_
  rintro e W2 ⟨rfl, hk2⟩
  have k2 := k1.trans hk2
  clear k1 B1 B2 hk2 hg1 hg2
  obtain ⟨g3, hg3⟩ : ∃ g, W2.heap.size = g := ⟨_, rfl⟩
  go_upto_region 2 with (fail)
  try simp only [hg3]
  have nw3 : w.heap.size ≤ g3 := by have := k2.size; omega
  refine abs_world (fun W => Kept w W ∧ Blk W g3 28 #[.int .u64 11, .int .u64 0]) ⟨?_, ?_⟩ ?_
  · repeat (first | exact k2 | (refine Kept.setCell ?_ (kept_side (by first | assumption | omega)) _) | apply Kept.alloc | apply Kept.drew)
  · simp [Blk, *]
  rintro W3 ⟨k3, B3⟩
  have c0 := B3.cell 0 rfl
  have c1 := B3.cell 1 rfl
  go_wp2_with fail
  go_ret
  exact ⟨rfl, k3⟩
end Go.Proofs.Ytnajihlhcdedgaa
