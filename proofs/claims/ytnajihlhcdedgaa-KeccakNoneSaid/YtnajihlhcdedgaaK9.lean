/-
  A round of the program is a round of the reference.
-/
import Derived.Test.YtnajihlhcdedgaaK8
namespace Go.Proofs.Ytnajihlhcdedgaa
open Go.RowKit
set_option linter.unusedVariables false
set_option linter.unusedSimpArgs false

theorem wrap_bv (v : BitVec 64) : IntKind.u64.wrap (v.toNat : Int) = (v.toNat : Int) := by
  have := v.isLt
  simp only [IntKind.wrap, IntKind.bits, IntKind.signed]
  simp
  omega
theorem ofInt_bv (v : BitVec 64) : BitVec.ofInt 64 (v.toNat : Int) = v := by
  apply BitVec.eq_of_toNat_eq
  have := v.isLt
  simp
theorem xr_bv (x y : Int) : bits .xor .u64 x y = ((BitVec.ofInt 64 x ^^^ BitVec.ofInt 64 y).toNat : Int) := wrap_bv _
theorem and_bv (x y : Int) : bits .and .u64 x y = ((BitVec.ofInt 64 x &&& BitVec.ofInt 64 y).toNat : Int) := wrap_bv _
theorem andNot_bv (x y : Int) : bits .andNot .u64 x y = ((BitVec.ofInt 64 x &&& ~~~ BitVec.ofInt 64 y).toNat : Int) := wrap_bv _
theorem xr_assoc (x y z : Int) : bits .xor .u64 (bits .xor .u64 x y) z = bits .xor .u64 x (bits .xor .u64 y z) := by
  simp only [xr_bv, ofInt_bv, BitVec.xor_assoc]
theorem xr_zero {x : Int} (h : in64 x) : bits .xor .u64 0 x = x := by
  rw [xr_bv]
  simp
  unfold in64 at h
  omega
theorem and_not (x y : Int) : bits .and .u64 (bits .xor .u64 18446744073709551615 x) y = bits .andNot .u64 y x := by
  rw [and_bv, xr_bv, andNot_bv, ofInt_bv]
  congr 2
  have e : BitVec.ofInt 64 18446744073709551615 = BitVec.allOnes 64 := by decide
  rw [e, BitVec.allOnes_xor, BitVec.and_comm]

def tr (p : Nat) : Nat := p / 5 + 5 * (p % 5)
theorem tr_lt : ∀ p, p < 25 → tr p < 25 := by decide
theorem sum_same {s : Nat → Int} (hs : ∀ i, i < 25 → in64 (s i)) (x : Nat) (hx : x < 5) : sumTo s 25 x = csum (ra s) x := by
  have hz := xr_zero (hs x (by omega))
  rcases (by omega : x = 0 ∨ x = 1 ∨ x = 2 ∨ x = 3 ∨ x = 4) with rfl | rfl | rfl | rfl | rfl <;> simp [sumTo, csum, ra, hz]
theorem mix_same {s : Nat → Int} (hs : ∀ i, i < 25 → in64 (s i)) (p : Nat) (hp : p < 25) : rth (ra s) (csum (ra s)) p = kmix s (tr p) := by
  unfold rth kmix
  rw [xr_assoc, sum_same hs _ (Nat.mod_lt _ (by omega)), sum_same hs _ (Nat.mod_lt _ (by omega))]
  have e : (tr p + 4) % 5 = (p / 5 + 4) % 5 := by unfold tr; omega
  have e' : (tr p + 1) % 5 = (p / 5 + 1) % 5 := by unfold tr; omega
  rw [e, e']
  rfl
theorem turn_same {a : Nat → Int} (ha : ∀ p, in64 (a p)) (p : Nat) (hp : p < 25) : rtu a 24 p = rotL (a p) (turnN (tr p)) := by
  have h0 := rotL_zero (ha 0)
  rcases (by omega : p = 0 ∨ p = 1 ∨ p = 2 ∨ p = 3 ∨ p = 4 ∨ p = 5 ∨ p = 6 ∨ p = 7 ∨ p = 8 ∨ p = 9 ∨ p = 10 ∨ p = 11 ∨ p = 12 ∨ p = 13 ∨ p = 14 ∨ p = 15 ∨ p = 16 ∨ p = 17 ∨ p = 18 ∨ p = 19 ∨ p = 20 ∨ p = 21 ∨ p = 22 ∨ p = 23 ∨ p = 24) with rfl | rfl | rfl | rfl | rfl | rfl | rfl | rfl | rfl | rfl | rfl | rfl | rfl | rfl | rfl | rfl | rfl | rfl | rfl | rfl | rfl | rfl | rfl | rfl | rfl <;> simp [rtu, posXY, offT, turnN, turnL, tr, h0]
theorem source_tr : ∀ j, j < 25 → tr (srcM j) = source (tr j) := by decide
theorem tr_one : ∀ j, j < 25 → tr ((j % 5 + 1) % 5 * 5 + j / 5) = j / 5 * 5 + (j + 1) % 5 := by decide
theorem tr_two : ∀ j, j < 25 → tr ((j % 5 + 2) % 5 * 5 + j / 5) = j / 5 * 5 + (j + 2) % 5 := by decide
theorem rone_same {s : Nat → Int} (hs : ∀ i, i < 25 → in64 (s i)) (k : Nat) (j : Nat) (hj : j < 25) : rone k s j = kround k s j := by
  have hm : ∀ j, j < 25 → rtu (rth (ra s) (csum (ra s))) 24 (srcM j) = kmove (kmix s) (tr j) := by
    intro j hj
    rw [turn_same (rth_in _ _) _ (srcM_lt j hj), mix_same hs _ (srcM_lt j hj), source_tr j hj]
    rfl
  have hb : ∀ j, j < 25 → rbend (fun j => rtu (rth (ra s) (csum (ra s))) 24 (srcM j)) j = kbend (kmove (kmix s)) j := by
    intro j hj
    unfold rbend kbend
    simp only []
    rw [hm _ (by omega), hm _ (by omega), hm _ (by omega), and_not]
    have e0 : tr (j % 5 * 5 + j / 5) = j := by unfold tr; omega
    have e1 := tr_one j hj
    have e2 := tr_two j hj
    rw [e0, e1, e2]
  unfold rone kround
  simp only []
  rw [hb 0 (by omega), hb j hj]

set_option maxRecDepth 100000 in
set_option maxHeartbeats 4000000 in
/-- The reference's permutation -/
theorem r_permute {s : Nat → Int} (hs : ∀ i, i < 25 → in64 (s i)) : Pure Try.prog 62 #[.agg (rowF 25 (fun p => .int .u64 (s p)))] (.agg (rowF 25 (fun p => .int .u64 (kperm 12 s p)))) := fun w => by
  have hin : ∀ k, ∀ i, i < 25 → in64 (kperm k s i) := kperm_in hs
  have HS := Lib.hid hin
  clear hin hs
  go_enter Try.func62, Try.ntmps62
  obtain ⟨g1, hg1⟩ : ∃ g, w.heap.size = g := ⟨_, rfl⟩
  obtain ⟨g2, hg2⟩ : ∃ g, g1 + 1 = g := ⟨_, rfl⟩
  have n12 : g1 < g2 := by omega
  have nw1 : w.heap.size ≤ g1 := by omega
  have nw2 : w.heap.size ≤ g2 := by omega
  go_upto_region 1 with (fail)
  try simp only [hg1]
  try simp only [hg2]
  refine abs_world (fun W => Kept w W ∧ Blk W g1 60 (rowF 25 (fun p => .int .u64 (s p))) ∧ Blk W g2 60 (rowF 25 (fun p => .int .u64 0))) ⟨((Kept.refl w).alloc _).alloc _, ?_, ?_⟩ ?_
  · rw [← hg1]; exact (Blk.new _ _ _).alloc _
  · rw [← hg2, ← hg1]; exact heap_alloc2_new w _ _
  rintro W1 ⟨k, Bg1, Bg2⟩
  clear hg1 hg2
  go_wp2_with fail
  go_loopw [3] (fun t' wr => ∃ i : Nat, i ≤ 12 ∧ t' = .int .i64 ((12 + i : Nat) : Int) ∧ Kept w wr ∧ Blk wr g1 60 (rowF 25 (fun p => .int .u64 (kperm i s p))) ∧ Blk wr g2 60 (rowF 25 (fun p => .int .u64 0))) (fun t' _ => 24 - (intOf t').toNat)
  case atStart => exact ⟨0, Nat.zero_le _, rfl, k, Bg1, Bg2⟩
  case round =>
    clear k Bg1 Bg2
    obtain ⟨i, hi, rfl, k, Bg1, Bg2⟩ := hrel
    rcases Nat.lt_or_ge i 12 with hlt | hge
    · have HR : Hid (∀ p, p < 25 → rone i (kperm i s) p = kperm (i + 1) s p) := Lib.hid fun p hp => rone_same (HS.out i) i p hp
      obtain ⟨R, hR⟩ : ∃ R, 12 + i = R := ⟨_, rfl⟩
      have HOne := fun w => r_one w (kperm i s) i hlt (Lib.hid (HS.out i))
      rw [hR] at HOne ⊢
      have hR2 : (R : Int) < 24 := by omega
      have HOne := Lib.hid HOne
      generalize kperm i s = u at *
      go_wp2_with (refine wpList_load_part 60 (.tmp 1) Bg1 (Nat.le_refl _) Try.underlying60 size60 rfl rfl rfl ?_)
      refine (HOne.out _).mono ?_
      rintro e W2 ⟨rfl, hk⟩
      have k2 := k.trans hk
      have Bg1' := Bg1.kept hk
      have Bg2' := Bg2.kept hk
      clear k Bg1 Bg2 hk
      go_wp2_with (refine wpList_store_part (h' := fun p => .int .u64 (rone i u p)) 60 (.tmp 1) (.tmp 10) Bg1' (Nat.le_refl _) size60 (fun _ => rfl) rfl rfl rfl rfl ?_)
      go_roundw
      case rel =>
        refine ⟨i + 1, by omega, by rw [← hR]; go_num, k2.setRow nw1 _, ?_, Bg2'.setRow_other (by omega) _⟩
        rw [rowF_congr (f := fun p => Value.int .u64 (kperm (i + 1) s p)) (g := fun j => if j < 25 then Value.int .u64 (rone i u j) else Value.int .u64 (u j)) fun j hj => by rw [if_pos hj, HR.out j hj]]
        exact Bg1'.setRow _
      case measure => simp [intOf]; omega
    · obtain rfl : i = 12 := by omega
      go_wp2_with (first | (refine wpList_load_part 60 (.tmp 1) Bg1 (Nat.le_refl _) Try.underlying60 size60 rfl rfl rfl ?_) | (refine wpList_store_part (h' := fun p => .int .u64 (kperm 12 s p)) 60 (.tmp 2) (.tmp 11) Bg2 (Nat.le_refl _) size60 (fun _ => rfl) rfl rfl rfl rfl ?_))
      refine ret_blk rfl (Bg2.setRow _) Try.underlying60 (by rw [rowF_size]; exact size60) rfl rfl (And.intro ?_ (k.setRow nw2 _))
      rw [rowF_congr (g := fun p => Value.int .u64 (kperm 12 s p)) fun j hj => by rw [if_pos hj]]
end Go.Proofs.Ytnajihlhcdedgaa
