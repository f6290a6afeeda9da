/-
  A question's bytes by the reference.
-/
import Derived.Test.YtnajihlhcdedgaaZX2
namespace Go.Proofs.Ytnajihlhcdedgaa
open Go.RowKit
set_option linter.unusedVariables false
set_option linter.unusedSimpArgs false
attribute [local simp] blkAt_setCell blkAt_alloc blkAt_drew Obj.put_cells

set_option maxRecDepth 100000 in
set_option maxHeartbeats 8000000 in
theorem r_Question_nil (w : World) (T : ByteArray) (hT : T.size ≤ 255) (U q u0 u1 : Int) (hw0 : U % 256 = u0) (hwq : wrap64 (U.tdiv 256) = q) (hw1 : q % 256 = u1) (U0 : 0 ≤ U) (S : Nat → Int)  (C : Nat → Int)  :
    Calls Try.prog 73 #[.string T, .int .i64 U, .agg (rowF 16 (fun j => .int .u8 (S j))), .slice none 0 0] w fun e w' => ∃ v, e = .returned v ∧ w'.ownsRow w.heap.size 5 1 v (19 + T.size + 0) (bytesV (qL T u0 u1 S C 0)) ∧ Kept w w' := by
  obtain ⟨g6, hg6⟩ : ∃ g, w.heap.size = g := ⟨_, rfl⟩
  obtain ⟨g13, hg13⟩ : ∃ g, g6 + 1 = g := ⟨_, rfl⟩
  have nw6 : w.heap.size ≤ g6 := by omega
  have hwT : IntKind.u8.wrap (T.size : Int) = (T.size : Int) := by rw [wrap_u8x]; omega
  have lt6 : g6 < g13 := by omega
  have nw13 : w.heap.size ≤ g13 := by omega
  go_enter Try.func73, Try.ntmps73
  go_upto_region 1 with (fail)
  try simp only [hg6, hg13]
  refine abs_world (fun W => Kept w W ∧ Blk W g6 77 (rowF 16 (fun j => .int .u8 (S j))) ∧ g13 = W.heap.size) ⟨?_, ?_, ?_⟩ ?_
  · repeat (first | exact Kept.refl _ | (refine Kept.setCell ?_ (kept_side (by first | assumption | omega)) _) | apply Kept.alloc | apply Kept.drew)
  · simp [Blk, *] <;> omega
  · simp; omega
  clear hg6 hg13
  rintro W0 ⟨k0, B0, n0⟩
  have own1 : (W0.alloc (.cells [Value.int .u8 (T.size : Int)].toArray 5)).ownsRow g13 5 1 (.slice (some ⟨W0.heap.size, 0, none⟩) 1 1) 1 [.int .u8 (T.size : Int)] := own_blk (xs := [.int .u8 (T.size : Int)]) (Blk.new _ _ _) (by omega) (by simp)
  go_upto_region 2 with (at_builtin; refine app_str own1 T (by omega) (by simp; omega) (.tmp 14) (.tmp 15) rfl rfl rfl rfl ?_; intro v2 W2 own2 gr2)
  have k2 := grown_kept (k0.alloc _) own1 gr2 (by omega)
  have B2 := grown_blk (B0.alloc _) own1 gr2 lt6
  have n2 : g13 ≤ W2.heap.size := Nat.le_trans (Nat.le_trans (Nat.le_of_eq n0) (by simp)) gr2.size
  clear k0 B0 own1 gr2 n0
  obtain ⟨m2, hm2⟩ : ∃ m, 1 + T.size = m := ⟨_, rfl⟩
  have lm2 : m2 ≤ 256 := by omega
  rw [hm2] at own2
  go_upto_region 3 with (at_builtin; refine app_bytes (own2.alloc _) W2.heap.size 0 2 2 [.int .u8 u0, .int .u8 u1] rfl (by simp [Value.oneCell']) (by intro j u hj; rw [Nat.zero_add, World.cell?_alloc_at _ _ _ _ rfl]; simpa using hj) (by omega) (by simp; omega) (.tmp 17) (.tmp 24) rfl rfl rfl rfl ?_; intro v3 W3 own3 gr3 _)
  have k3 := grown_kept (k2.alloc _) (own2.alloc _) gr3 (by omega)
  have B3 := grown_blk (B2.alloc _) (own2.alloc _) gr3 lt6
  have n3 : g13 ≤ W3.heap.size := Nat.le_trans (Nat.le_trans n2 (by simp)) gr3.size
  clear k2 B2 own2 gr3 n2
  go_wp2_with fail
  go_loopw [9, 10] (fun v t wr => ∃ i : Nat, i ≤ 16 ∧ t = .int .i64 i ∧ Kept w wr ∧ Blk wr g6 77 (rowF 16 (fun j => .int .u8 (S j))) ∧ g13 ≤ wr.heap.size ∧ wr.ownsRow g13 5 1 v (m2 + 2 + i) ([Value.int .u8 (T.size : Int)] ++ Lib.strCells T ++ [.int .u8 u0, .int .u8 u1] ++ (List.range i).map fun j => Value.int .u8 (S j))) (fun _ t _ => 16 - (intOf t).toNat)
  case atStart => exact ⟨0, Nat.zero_le _, rfl, k3, B3, n3, by simpa only [List.range_zero, List.map_nil, List.append_nil] using own3⟩
  case round =>
    clear k3 B3 n3 own3
    obtain ⟨i, hi, rfl, k, B, n4, own⟩ := hrel
    have zi : (0 : Int) ≤ (i : Int) := by omega
    obtain ⟨va, vc, rfl⟩ := ownsRow_slicex own
    rcases Nat.lt_or_ge i 16 with hlt | hge
    · have yi : (i : Int) < 16 := by omega
      have ci := B.at hlt
      have HS : Hid ((List.range (i + 1)).map (fun j => Value.int .u8 (S j)) = (List.range i).map (fun j => Value.int .u8 (S j)) ++ [.int .u8 (S i)]) := Lib.hid (by rw [List.range_succ, List.map_append]; rfl)
      generalize S i = s at ci HS
      go_wp2_with (at_builtin; refine app_bytes (own.alloc _) wr.heap.size 0 1 1 [.int .u8 s] rfl (by simp [Value.oneCell']) (by intro j u hj; rw [Nat.zero_add, World.cell?_alloc_at _ _ _ _ rfl]; simpa using hj) (by omega) (by simp; omega) (.tmp 30) (.tmp 34) rfl rfl rfl rfl ?_; intro v5 W5 own5 gr5 _)
      have k5 := grown_kept (k.alloc _) (own.alloc _) gr5 (by omega)
      have B5 := grown_blk (B.alloc _) (own.alloc _) gr5 lt6
      have n5 : g13 ≤ W5.heap.size := Nat.le_trans (Nat.le_trans n4 (by simp)) gr5.size
      clear k B n4 own gr5 ci
      go_wp2_with fail
      go_roundw
      case rel => exact ⟨i + 1, by omega, by go_num, k5, B5, n5, by rw [HS.out, ← List.append_assoc]; exact own5⟩
      case measure => simp [intOf]; omega
    · have yi : (16 : Int) ≤ (i : Int) := by omega
      obtain rfl : i = 16 := by omega
      have own5 : wr.ownsRow g13 5 1 (.slice va (m2 + 2 + 16) vc) (m2 + 2 + 16) (bytesV (qL T u0 u1 S C 0)) := by
        rw [← qV]
        simpa only [List.range_zero, List.map_nil, List.append_nil] using own
      go_wp2_with (at_builtin; refine app_nil own (.tmp 36) (.tmp 37) rfl rfl rfl rfl ?_)
      go_ret
      refine ⟨_, rfl, ?_, k⟩
      rw [show 19 + T.size + 0 = m2 + 2 + 16 by omega]
      exact ownsRow_base own5 nw13

set_option maxRecDepth 100000 in
set_option maxHeartbeats 8000000 in
theorem r_Question (w : World) (T : ByteArray) (hT : T.size ≤ 255) (U q u0 u1 : Int) (hw0 : U % 256 = u0) (hwq : wrap64 (U.tdiv 256) = q) (hw1 : q % 256 = u1) (U0 : 0 ≤ U) (S : Nat → Int) (ad : Addr) (n cap : Nat) (C : Nat → Int) (hn : n ≤ 65536) (hC : Hid (∀ j, j < n → w.cell? (ad.add j) = some (.int .u8 (C j)))) :
    Calls Try.prog 73 #[.string T, .int .i64 U, .agg (rowF 16 (fun j => .int .u8 (S j))), .slice (some ad) n cap] w fun e w' => ∃ v, e = .returned v ∧ w'.ownsRow w.heap.size 5 1 v (19 + T.size + n) (bytesV (qL T u0 u1 S C n)) ∧ Kept w w' := by
  obtain ⟨g6, hg6⟩ : ∃ g, w.heap.size = g := ⟨_, rfl⟩
  obtain ⟨g13, hg13⟩ : ∃ g, g6 + 1 = g := ⟨_, rfl⟩
  have nw6 : w.heap.size ≤ g6 := by omega
  have hwT : IntKind.u8.wrap (T.size : Int) = (T.size : Int) := by rw [wrap_u8x]; omega
  have lt6 : g6 < g13 := by omega
  have nw13 : w.heap.size ≤ g13 := by omega
  go_enter Try.func73, Try.ntmps73
  go_upto_region 1 with (fail)
  try simp only [hg6, hg13]
  refine abs_world (fun W => Kept w W ∧ Blk W g6 77 (rowF 16 (fun j => .int .u8 (S j))) ∧ g13 = W.heap.size) ⟨?_, ?_, ?_⟩ ?_
  · repeat (first | exact Kept.refl _ | (refine Kept.setCell ?_ (kept_side (by first | assumption | omega)) _) | apply Kept.alloc | apply Kept.drew)
  · simp [Blk, *] <;> omega
  · simp; omega
  clear hg6 hg13
  rintro W0 ⟨k0, B0, n0⟩
  have own1 : (W0.alloc (.cells [Value.int .u8 (T.size : Int)].toArray 5)).ownsRow g13 5 1 (.slice (some ⟨W0.heap.size, 0, none⟩) 1 1) 1 [.int .u8 (T.size : Int)] := own_blk (xs := [.int .u8 (T.size : Int)]) (Blk.new _ _ _) (by omega) (by simp)
  go_upto_region 2 with (at_builtin; refine app_str own1 T (by omega) (by simp; omega) (.tmp 14) (.tmp 15) rfl rfl rfl rfl ?_; intro v2 W2 own2 gr2)
  have k2 := grown_kept (k0.alloc _) own1 gr2 (by omega)
  have B2 := grown_blk (B0.alloc _) own1 gr2 lt6
  have n2 : g13 ≤ W2.heap.size := Nat.le_trans (Nat.le_trans (Nat.le_of_eq n0) (by simp)) gr2.size
  clear k0 B0 own1 gr2 n0
  obtain ⟨m2, hm2⟩ : ∃ m, 1 + T.size = m := ⟨_, rfl⟩
  have lm2 : m2 ≤ 256 := by omega
  rw [hm2] at own2
  go_upto_region 3 with (at_builtin; refine app_bytes (own2.alloc _) W2.heap.size 0 2 2 [.int .u8 u0, .int .u8 u1] rfl (by simp [Value.oneCell']) (by intro j u hj; rw [Nat.zero_add, World.cell?_alloc_at _ _ _ _ rfl]; simpa using hj) (by omega) (by simp; omega) (.tmp 17) (.tmp 24) rfl rfl rfl rfl ?_; intro v3 W3 own3 gr3 _)
  have k3 := grown_kept (k2.alloc _) (own2.alloc _) gr3 (by omega)
  have B3 := grown_blk (B2.alloc _) (own2.alloc _) gr3 lt6
  have n3 : g13 ≤ W3.heap.size := Nat.le_trans (Nat.le_trans n2 (by simp)) gr3.size
  clear k2 B2 own2 gr3 n2
  go_wp2_with fail
  go_loopw [9, 10] (fun v t wr => ∃ i : Nat, i ≤ 16 ∧ t = .int .i64 i ∧ Kept w wr ∧ Blk wr g6 77 (rowF 16 (fun j => .int .u8 (S j))) ∧ g13 ≤ wr.heap.size ∧ wr.ownsRow g13 5 1 v (m2 + 2 + i) ([Value.int .u8 (T.size : Int)] ++ Lib.strCells T ++ [.int .u8 u0, .int .u8 u1] ++ (List.range i).map fun j => Value.int .u8 (S j))) (fun _ t _ => 16 - (intOf t).toNat)
  case atStart => exact ⟨0, Nat.zero_le _, rfl, k3, B3, n3, by simpa only [List.range_zero, List.map_nil, List.append_nil] using own3⟩
  case round =>
    clear k3 B3 n3 own3
    obtain ⟨i, hi, rfl, k, B, n4, own⟩ := hrel
    have zi : (0 : Int) ≤ (i : Int) := by omega
    obtain ⟨va, vc, rfl⟩ := ownsRow_slicex own
    rcases Nat.lt_or_ge i 16 with hlt | hge
    · have yi : (i : Int) < 16 := by omega
      have ci := B.at hlt
      have HS : Hid ((List.range (i + 1)).map (fun j => Value.int .u8 (S j)) = (List.range i).map (fun j => Value.int .u8 (S j)) ++ [.int .u8 (S i)]) := Lib.hid (by rw [List.range_succ, List.map_append]; rfl)
      generalize S i = s at ci HS
      go_wp2_with (at_builtin; refine app_bytes (own.alloc _) wr.heap.size 0 1 1 [.int .u8 s] rfl (by simp [Value.oneCell']) (by intro j u hj; rw [Nat.zero_add, World.cell?_alloc_at _ _ _ _ rfl]; simpa using hj) (by omega) (by simp; omega) (.tmp 30) (.tmp 34) rfl rfl rfl rfl ?_; intro v5 W5 own5 gr5 _)
      have k5 := grown_kept (k.alloc _) (own.alloc _) gr5 (by omega)
      have B5 := grown_blk (B.alloc _) (own.alloc _) gr5 lt6
      have n5 : g13 ≤ W5.heap.size := Nat.le_trans (Nat.le_trans n4 (by simp)) gr5.size
      clear k B n4 own gr5 ci
      go_wp2_with fail
      go_roundw
      case rel => exact ⟨i + 1, by omega, by go_num, k5, B5, n5, by rw [HS.out, ← List.append_assoc]; exact own5⟩
      case measure => simp [intOf]; omega
    · have yi : (16 : Int) ≤ (i : Int) := by omega
      obtain rfl : i = 16 := by omega
      go_wp2_with (at_builtin; refine app_bytesA own ad n cap ((List.range n).map fun j => Value.int .u8 (C j)) (by simp) (one8x n C) (by intro j u hj; exact k.cell (cellsA hC.out j u hj)) (by omega) n4 (.tmp 36) (.tmp 37) rfl rfl rfl rfl ?_; intro v5 W5 own5 gr5 _)
      rw [qV] at own5
      have k5 := grown_kept k own gr5 (by omega)
      go_ret
      refine ⟨_, rfl, ?_, k5⟩
      rw [show 19 + T.size + n = m2 + 2 + 16 + n by omega]
      exact ownsRow_base own5 nw13
end Go.Proofs.Ytnajihlhcdedgaa
