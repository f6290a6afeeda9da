/-
  The program's permutation.
-/
import Derived.Test.YtnajihlhcdedgaaK5
import Derived.Test.YtnajihlhcdedgaaEq
namespace Go.Proofs.Ytnajihlhcdedgaa
open Go.RowKit
set_option linter.unusedVariables false
set_option linter.unusedSimpArgs false

/-- A round. -/
def kround (k : Nat) (s : Nat → Int) (i : Nat) : Int := if i = 0 then bits .xor .u64 (kbend (kmove (kmix s)) 0) (conN k) else kbend (kmove (kmix s)) i
/-- The first k rounds. -/
def kperm : Nat → (Nat → Int) → Nat → Int
  | 0, s => s
  | k + 1, s => kround k (kperm k s)
theorem kmix_in (s : Nat → Int) (i : Nat) : in64 (kmix s i) := bits_in _ _ _
theorem kbend_in (s : Nat → Int) (i : Nat) : in64 (kbend s i) := bits_in _ _ _
theorem kround_in (k : Nat) (s : Nat → Int) (i : Nat) : in64 (kround k s i) := by
  unfold kround; split; exact bits_in _ _ _; exact kbend_in _ _
theorem kperm_in {s : Nat → Int} (h : ∀ i, i < 25 → in64 (s i)) (k : Nat) : ∀ i, i < 25 → in64 (kperm k s i) := by
  cases k with
  | zero => exact h
  | succ k => intro i _; exact kround_in _ _ _

theorem run_index_row134 (f : Nat → Value) {i : Nat} (hi : i < 12) {x : Int} (hx : f i = .int .u64 x) (w : World) : (Instr.index 134 (.agg (rowF 12 f)) (.int .i64 (i : Int))).run Try.prog w = .ok (.int .u64 x) w := by
  obtain ⟨j, hj⟩ := info22
  have h1 : (0 : Int) ≤ (i : Int) ∧ (i : Int) < ((12 : Nat) : Int) := by omega
  have hs : j.size = 1 := by have := cells22; unfold Program.cellsOf at this; simpa [hj] using this
  have hp := run_part_int (P := Try.prog) w Try.underlying22 (xs := rowF 12 f) (off := i) (by rw [rowF_get hi, hx])
  simp [Instr.index, run_underlying Try.underlying134, asIntOf, sizeOf, typeInfo, hj, hs, hi, hp]

set_option maxRecDepth 100000 in
set_option maxHeartbeats 4000000 in
/-- Of nobody. -/
theorem k_permute_nil : Pure Try.prog 61 #[.pointer none] (.tuple #[]) := fun w => by
  go_enter Try.func61, Try.ntmps61
  go_wp2_with fail
  refine bodyPost_ret (v := .tuple #[]) (by simp [results, Try.results61, go_sem]) rfl ⟨rfl, Kept.refl w⟩

set_option maxRecDepth 100000 in
set_option maxHeartbeats 4000000 in
theorem k_permute (w : World) (b n : Nat) (t : TypeId) (s : Nat → Int) (f : Nat → Value) (hn : 25 ≤ n) (hB : Blk w b t (rowF n (lanes s f))) :
    Calls Try.prog 61 #[.pointer (some ⟨b, 0, none⟩)] w fun e w' => e = .returned (.tuple #[]) ∧ Touch b w w' ∧ Blk w' b t (rowF n (lanes (kperm 12 s) f)) := by
  have HC := Lib.hid k_cons
  go_enter Try.func61, Try.ntmps61
  go_wp2_with fail
  refine (HC.out _).mono ?_
  rintro e W0 ⟨rfl, hk0⟩
  have Bb0 := hB.kept hk0
  go_wp2_with fail
  go_loopw [7] (fun t' wr => ∃ i : Nat, i ≤ 12 ∧ t' = .int .i64 i ∧ Touch b w wr ∧ Blk wr b t (rowF n (lanes (kperm i s) f))) (fun t' _ => 12 - (intOf t').toNat)
  case atStart => exact ⟨0, Nat.zero_le _, rfl, .of_kept hk0, Bb0⟩
  case round =>
    clear hk0 Bb0 hB
    obtain ⟨i, hi, rfl, kr, Bb⟩ := hrel
    have hi0 : (0 : Int) ≤ (i : Int) := by omega
    rcases Nat.lt_or_ge i 12 with hlt | hge
    · have hi2 : (i : Int) < 12 := by omega
      have hix := run_index_row134 (fun i => .int .u64 (conN i)) hlt (x := conN i) rfl
      have hper : ∀ j, kperm (i + 1) s j = kround i (kperm i s) j := fun j => rfl
      have HP := Lib.hid hper
      clear hper
      generalize kperm i s = u at HP Bb
      go_wp2_with fail
      refine (k_mix _ b n t u f hn Bb).mono ?_
      rintro e W1 ⟨rfl, k1, B1⟩
      have kr1 := kr.trans k1
      clear kr k1 Bb
      go_wp2_with fail
      refine (k_move _ b n t _ f hn (Lib.hid fun i _ => kmix_in u i) B1).mono ?_
      rintro e W2 ⟨rfl, k2, B2⟩
      have kr2 := kr1.trans k2
      clear kr1 k2 B1
      go_wp2_with fail
      refine (k_bend _ b n t _ f hn B2).mono ?_
      rintro e W3 ⟨rfl, k3, B3⟩
      have kr3 := kr2.trans k3
      clear kr2 k3 B2
      have c0 := B3.lane hn (i := 0) (by omega)
      have HK : Hid (∀ j, kround i u j = if j = 0 then bits .xor .u64 (kbend (kmove (kmix u)) 0) (conN i) else kbend (kmove (kmix u)) j) := Lib.hid fun j => rfl
      generalize kbend (kmove (kmix u)) = v at HK B3 c0
      generalize hv0 : v 0 = v0 at HK c0
      generalize conN i = cn at HK hix
      go_upto_region 7 with (fail)
      refine wp_region_calm 8 (by kernel_rfl) (by kernel_rfl) ?_
      simp only [List.take_succ_cons, List.take_zero, List.drop_succ_cons, List.drop_zero]
      repeat (first
        | (refine calm_skip rfl ?_; simp only [Act.put, List.setIfInBounds_toArray, List.set_cons_zero, List.set_cons_succ])
        | (refine calm_ex rfl ?_; apply Exists.intro; refine And.intro (fun w' hk => ?_) ?_; (focus (have q0 := hk.cell c0; clear hk; go_simp; exact rfl)); simp only [Act.put, List.setIfInBounds_toArray, List.set_cons_zero, List.set_cons_succ]))
      refine calm_nil ?_
      intro W4 hkW4
      have k4 := kr3.later hkW4
      have Bb4 := B3.kept hkW4
      clear hkW4 c0 kr3 B3
      have c0 := Bb4.lane hn (i := 0) (by omega)
      have f0 := Bb4.free
      go_wp2_with fail
      go_roundw
      case rel =>
        refine ⟨i + 1, by omega, by go_num, k4.trans (Touch.set _ _ _ _), Bb4.setLane hn (by omega) fun j hj => ?_⟩
        rw [HP.out, HK.out]
      case measure => simp [intOf]; omega
    · have hi2 : (12 : Int) ≤ (i : Int) := by omega
      obtain rfl : i = 12 := by omega
      go_wp2_with fail
      refine bodyPost_end (v := .tuple #[]) (by simp [results, Try.results61, go_sem]) rfl ⟨rfl, kr, Bb⟩
end Go.Proofs.Ytnajihlhcdedgaa
