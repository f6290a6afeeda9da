/-
  The sixth law's Awake.
-/
import Derived.Test.YtnajihlhcdedgaaK16
import Derived.Test.YtnajihlhcdedgaaK17
namespace Go.Proofs.Ytnajihlhcdedgaa
open Go.RowKit
set_option linter.unusedVariables false
set_option linter.unusedSimpArgs false

section
variable {P : Program} {ops : Array Oper} {rest : List Oper} {o : Oper} {a : Act} {w : World} {Q : Exit → Act → World → Prop}
/-- The first cells of a block are read whole, under a guard that holds. -/
theorem wpList_load_part_g (ty : TypeId) (x : Operand) {g : Nat} {t : TypeId} {n m k : Nat} {e : TypeId} {f : Nat → Value} (B : Blk w g t (rowF n f)) (hm : m ≤ n) (hu : P.underlying ty = some (.array k e)) (hi : (P.info? ty).map (·.size) = some m)
    (hw : Region.wanted o (yielded ops a.tmps) = true) (ho : o.op = .load ty x) (hx : a.eval x = .pointer (some ⟨g, 0, none⟩))
    (h : wpList P ops Q rest (a.put o.dst (.agg (rowF m f))) w) : wpList P ops Q (o :: rest) a w := by
  refine wpList_step fun K hK => ?_
  rw [if_pos hw]
  unfold Oper.wp execOp
  simp only [ho, hx, Instr.loadAt, Instr.sureAddr, Sem.run_bind, Sem.run_pure, Result.andThen_ok, run_loadVar_part w g t ty f B hm hu hi]
  exact hK _ _ h
end
theorem rowF_ints (n : Nat) (s : Nat → Int) : rowF n (fun p => Value.int .u64 (s p)) = (((List.range n).map s).map (Value.int .u64)).toArray := by
  unfold rowF
  rw [List.map_map]
  rfl
theorem run_equalS {t : TypeId} {n : Nat} (hu : Try.prog.underlying t = some (.array n 22)) (s u : Nat → Int) (w : World) : (Op.equalIn 10000 t (.agg (rowF n (fun p => .int .u64 (s p)))) (.agg (rowF n (fun p => .int .u64 (u p))))).run Try.prog w = .ok (decide ((List.range n).map s = (List.range n).map u)) w := by
  obtain ⟨i, hi⟩ := info22
  rw [rowF_ints, rowF_ints]
  rw [show (10000 : Nat) = 9998 + 2 from rfl, run_equalIn_array w (9998 + 1) _ _ hu hi, List.range_eq_range', run_eqItems_ints w 9998 Try.underlying22 cells22 _ _ (by simp) n 0 (by simp)]
  simp
theorem awake_eq (w : World) : (Op.equalIn 10000 61 (.agg (rowF 25 (fun p => .int .u64 (kperm 12 (fun _ => 0) p)))) (.agg #[.int .u64 0, .int .u64 0, .int .u64 0, .int .u64 0, .int .u64 0, .int .u64 0, .int .u64 0, .int .u64 0, .int .u64 0, .int .u64 0, .int .u64 0, .int .u64 0, .int .u64 0, .int .u64 0, .int .u64 0, .int .u64 0, .int .u64 0, .int .u64 0, .int .u64 0, .int .u64 0, .int .u64 0, .int .u64 0, .int .u64 0, .int .u64 0, .int .u64 0])).run Try.prog w = .ok false w := by
  have h := run_equalS Try.underlying61 (kperm 12 (fun _ => 0)) (fun _ => 0) w
  have h0 : ¬ (List.range 25).map (kperm 12 (fun _ => 0)) = (List.range 25).map (fun _ => (0 : Int)) := fun h => by
    have h2 := congrArg (·[0]?) h
    simp at h2
    exact kperm_nought h2
  rw [decide_eq_false h0] at h
  exact h

set_option maxRecDepth 100000 in
set_option maxHeartbeats 4000000 in
theorem k_Awake : Pure Try.prog 60 #[] (.bool true) := fun w => by
  have hz := awake_eq
  obtain ⟨z, HZ0⟩ : ∃ z, kperm 12 (fun _ => 0) = z := ⟨_, rfl⟩
  rw [HZ0] at hz
  have HZ : Hid (∀ p, z p = kperm 12 (fun _ => 0) p) := Lib.hid fun p => by rw [HZ0]
  clear HZ0
  obtain ⟨g, hg⟩ : ∃ g, w.heap.size = g := ⟨_, rfl⟩
  go_enter Try.func60, Try.ntmps60
  go_wp2_with fail
  try simp only [hg]
  refine abs_calls (fun W => Kept w W ∧ Blk W g 61 (rowF 25 (lanes (fun _ => 0) (fun _ => undef)))) ⟨(Kept.refl w).alloc _, by rw [← hg]; exact Blk.new _ _ _⟩ ?_
  rintro W1 ⟨k1, B1⟩
  refine (k_permute _ g 25 61 _ _ (by omega) B1).mono ?_
  rintro e W2 ⟨rfl, k2, B2⟩
  have k3 := k2.kept k1 (by omega)
  rw [lanes_row] at B2
  have B3 : Blk W2 g 61 (rowF 25 (fun p => .int .u64 (z p))) := by rw [rowF_congr fun i _ => congrArg (Value.int .u64) (HZ.out i).symm] at B2; exact B2
  clear k1 k2 B1 B2
  go_wp2_with fail
  refine (k_Hash _ 1 (by omega) (by omega) none 0 0 0 (fun _ => 0) (by omega) (SlB.nil _ _ _) (Nat.zero_le _) 0 (by omega)).mono ?_
  rintro e W4 ⟨v, rfl, k4, hown⟩
  obtain ⟨va, vc, rfl⟩ := ownsRow_slice1 hown
  have k5 := k3.trans k4
  have B5 := B3.kept k4
  clear k3 k4 B3 hown
  go_wp2_with fail
  refine (k_Hash _ 1 (by omega) (by omega) none 0 0 0 (fun _ => 0) (by omega) (SlB.nil _ _ _) (Nat.zero_le _) 3 (by omega)).mono ?_
  rintro e W6 ⟨v, rfl, k6, hown⟩
  obtain ⟨va2, vc2, rfl⟩ := ownsRow_slice1 hown
  have k7 := k5.trans k6
  have B7 := B5.kept k6
  clear k5 k6 B5 hown
  go_wp2_with (refine wpList_load_part_g 61 (.tmp 1) B7 (Nat.le_refl _) Try.underlying61 size61 rfl rfl rfl ?_)
  go_ret
  exact ⟨rfl, k7⟩
end Go.Proofs.Ytnajihlhcdedgaa
