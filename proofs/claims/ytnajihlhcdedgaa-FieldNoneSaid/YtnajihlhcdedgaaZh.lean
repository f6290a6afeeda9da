/-
  Texts joined: FV FV2 FV3 FV4 FV5 FV6.
-/
import Derived.Test.YtnajihlhcdedgaaZg
import Derived.Test.YtnajihlhcdedgaaZb
import Derived.Test.YtnajihlhcdedgaaZe
import Derived.Test.YtnajihlhcdedgaaZf
namespace Go.Proofs.Ytnajihlhcdedgaa
open Go.RowKit
set_option linter.unusedVariables false
set_option linter.unusedSimpArgs false
attribute [local simp] blkAt_setCell blkAt_alloc blkAt_drew Obj.put_cells

theorem size37b : (Try.prog.info? 37).map (·.size) = some 8 := by kernel_rfl
theorem size54b : (Try.prog.info? 54).map (·.size) = some 16 := by kernel_rfl
set_option maxRecDepth 100000 in
set_option maxHeartbeats 4000000 in
theorem f_Bytes_s (w : World) (a0 a1 : Int) (bt : Nat → Int) (hG : Pure Try.prog 42 #[.int .u64 a0] (.agg (rowF 8 (fun i => .int .u8 (bt i))))) :
    Calls Try.prog 109 #[.int .u8 1, .agg #[.int .u64 a0, .int .u64 a1]] w fun e w' => ∃ g, e = .returned (.slice (some ⟨g, 0, none⟩) 8 8) ∧ w.heap.size ≤ g ∧ Kept w w' ∧ Blk w' g 37 (rowF 8 (fun i => .int .u8 (bt i))) := by
  have HG := Lib.hid hG
  clear hG
  obtain ⟨g3, hg3⟩ : ∃ g, w.heap.size = g := ⟨_, rfl⟩
  go_enter Try.func109, Try.ntmps109
  go_wp2_with fail
  try simp only [hg3]
  refine abs_calls (fun W => Kept w W ∧ Blk W g3 28 #[.int .u64 a0, .int .u64 a1]) ⟨(Kept.refl w).alloc _, by rw [← hg3]; exact Blk.new _ _ _⟩ ?_
  rintro W1 ⟨k1, B1⟩
  refine (HG.out _).mono ?_
  rintro e W2 ⟨rfl, hk2⟩
  have k2 := k1.trans hk2
  clear k1 B1 hk2
  obtain ⟨g5, hg5⟩ : ∃ g, W2.heap.size = g := ⟨_, rfl⟩
  have hb : Blk (W2.alloc (.cells #[.int .u8 0, .int .u8 0, .int .u8 0, .int .u8 0, .int .u8 0, .int .u8 0, .int .u8 0, .int .u8 0] 37)) g5 37 (rowF 8 (fun _ => .int .u8 0)) := by rw [← hg5]; exact Blk.new _ _ _
  have nw5 : w.heap.size ≤ g5 := by have := k2.size; omega
  go_upto_region 4 with (refine wpList_store_part (h' := fun i => .int .u8 (bt i)) 37 (.tmp 5) (.tmp 12) hb (Nat.le_refl _) size37b (fun _ => rfl) rfl rfl rfl rfl ?_)
  refine abs_world (fun W => Kept w W ∧ Blk W g5 37 (rowF 8 (fun i => .int .u8 (bt i)))) ⟨(k2.alloc _).setRow nw5 _, ?_⟩ ?_
  · have := hb.setRow (rowF 8 (fun i => if i < 8 then Value.int .u8 (bt i) else .int .u8 0))
    rw [rowF_congr (f := fun i => Value.int .u8 (bt i)) (g := fun i => if i < 8 then Value.int .u8 (bt i) else .int .u8 0) fun j hj => by rw [if_pos hj]]
    exact this
  clear hb k2 hg5
  rintro W3 ⟨k3, B3⟩
  go_wp2_with fail
  go_ret
  exact ⟨g5, rfl, nw5, k3, B3⟩

set_option maxRecDepth 100000 in
set_option maxHeartbeats 4000000 in
theorem f_Bytes_l (w : World) (a0 a1 : Int) (bt : Nat → Int) (hG : Pure Try.prog 56 #[.agg #[.int .u64 a0, .int .u64 a1]] (.agg (rowF 16 (fun i => .int .u8 (bt i))))) :
    Calls Try.prog 109 #[.int .u8 2, .agg #[.int .u64 a0, .int .u64 a1]] w fun e w' => ∃ g, e = .returned (.slice (some ⟨g, 0, none⟩) 16 16) ∧ w.heap.size ≤ g ∧ Kept w w' ∧ Blk w' g 54 (rowF 16 (fun i => .int .u8 (bt i))) := by
  have HG := Lib.hid hG
  clear hG
  obtain ⟨g3, hg3⟩ : ∃ g, w.heap.size = g := ⟨_, rfl⟩
  go_enter Try.func109, Try.ntmps109
  go_wp2_with fail
  try simp only [hg3]
  refine abs_calls (fun W => Kept w W ∧ Blk W g3 28 #[.int .u64 a0, .int .u64 a1]) ⟨(Kept.refl w).alloc _, by rw [← hg3]; exact Blk.new _ _ _⟩ ?_
  rintro W1 ⟨k1, B1⟩
  refine (HG.out _).mono ?_
  rintro e W2 ⟨rfl, hk2⟩
  have k2 := k1.trans hk2
  clear k1 B1 hk2
  obtain ⟨g5, hg5⟩ : ∃ g, W2.heap.size = g := ⟨_, rfl⟩
  have hb : Blk (W2.alloc (.cells #[.int .u8 0, .int .u8 0, .int .u8 0, .int .u8 0, .int .u8 0, .int .u8 0, .int .u8 0, .int .u8 0, .int .u8 0, .int .u8 0, .int .u8 0, .int .u8 0, .int .u8 0, .int .u8 0, .int .u8 0, .int .u8 0] 54)) g5 54 (rowF 16 (fun _ => .int .u8 0)) := by rw [← hg5]; exact Blk.new _ _ _
  have nw5 : w.heap.size ≤ g5 := by have := k2.size; omega
  go_upto_region 7 with (refine wpList_store_part (h' := fun i => .int .u8 (bt i)) 54 (.tmp 6) (.tmp 17) hb (Nat.le_refl _) size54b (fun _ => rfl) rfl rfl rfl rfl ?_)
  refine abs_world (fun W => Kept w W ∧ Blk W g5 54 (rowF 16 (fun i => .int .u8 (bt i)))) ⟨(k2.alloc _).setRow nw5 _, ?_⟩ ?_
  · have := hb.setRow (rowF 16 (fun i => if i < 16 then Value.int .u8 (bt i) else .int .u8 0))
    rw [rowF_congr (f := fun i => Value.int .u8 (bt i)) (g := fun i => if i < 16 then Value.int .u8 (bt i) else .int .u8 0) fun j hj => by rw [if_pos hj]]
    exact this
  clear hb k2 hg5
  rintro W3 ⟨k3, B3⟩
  go_wp2_with fail
  go_ret
  exact ⟨g5, rfl, nw5, k3, B3⟩

set_option maxRecDepth 100000 in
set_option maxHeartbeats 4000000 in
theorem f_Bytes_n (f : Int) (h1b : (f == 1) = false) (h2b : (f == 2) = false) (a0 a1 : Int) : Pure Try.prog 109 #[.int .u8 f, .agg #[.int .u64 a0, .int .u64 a1]] (.slice none 0 0) := fun w => by
  go_enter Try.func109, Try.ntmps109
  go_wp2_with fail
  go_ret
  exact ⟨rfl, (Kept.refl w).alloc _⟩
end Go.Proofs.Ytnajihlhcdedgaa

namespace Go.Proofs.Ytnajihlhcdedgaa
open Go.RowKit
set_option linter.unusedVariables false
set_option linter.unusedSimpArgs false
attribute [local simp] blkAt_setCell blkAt_alloc blkAt_drew Obj.put_cells

theorem run_loadVar_at {P : Program} (w : World) (g o : Nat) (ty : TypeId) {m k : Nat} {e : TypeId} (f : Nat → Value) (hc : ∀ j, j < m → w.cell? ⟨g, o + j, none⟩ = some (f j)) (hu : P.underlying ty = some (.array k e)) (hi : (P.info? ty).map (·.size) = some m) :
    (loadVar ty ⟨g, o, none⟩).run P w = .ok (.agg (rowF m f)) w := by
  have hl : (loadCells ⟨g, o, none⟩ (rowF m f).toList.length).run P w = .ok (rowF m f).toList.toArray w :=
    run_loadCells_list (P := P) w ⟨g, o, none⟩ (rowF m f).toList (fun j v hv => by
      have hadd : (⟨g, o, none⟩ : Addr).add j = ⟨g, o + j, none⟩ := by rw [Addr.add_lit]
      have hj : j < m := by have := (List.getElem?_eq_some_iff.1 hv).1; simpa [rowF] using this
      rw [hadd, hc j hj]
      rw [← hv, Array.getElem?_toList, rowF_get hj])
  cases hq : P.info? ty with
  | none => simp [hq] at hi
  | some i =>
    have hs : i.size = m := by simpa [hq] using hi
    have hagg : (isAgg ty).run P w = .ok true w := by
      unfold isAgg
      rw [Sem.run_bind, run_underlying hu w]
      rfl
    simp only [Array.length_toList, Array.toArray_toList, rowF_size] at hl
    simp [loadVar, Sem.run_bind, hagg, sizeOf, typeInfo, hq, hs, hl]
/-- An array is read whole at a place. -/
theorem wpList_load_at {P : Program} {ops : Array Oper} {rest : List Oper} {o' : Oper} {a : Act} {w : World} {Q : Exit → Act → World → Prop} (ty : TypeId) (x : Operand) {g o : Nat} {m k : Nat} {e : TypeId} {f : Nat → Value} (hc : ∀ j, j < m → w.cell? ⟨g, o + j, none⟩ = some (f j)) (hu : P.underlying ty = some (.array k e)) (hi : (P.info? ty).map (·.size) = some m)
    (hgd : o'.guard = none) (ho : o'.op = .load ty x) (hx : a.eval x = .pointer (some ⟨g, o, none⟩))
    (h : wpList P ops Q rest (a.put o'.dst (.agg (rowF m f))) w) : wpList P ops Q (o' :: rest) a w := by
  refine wpList_plain hgd fun _ hK => ?_
  unfold Oper.wp execOp
  simp only [ho, hx, Instr.loadAt, Instr.sureAddr, Sem.run_bind, Sem.run_pure, Result.andThen_ok, run_loadVar_at w g o ty f hc hu hi]
  exact hK _ _ h

set_option maxRecDepth 100000 in
set_option maxHeartbeats 4000000 in
theorem f_Take_s (w : World) (g o cap : Nat) (C : Nat → Int) (n e : Int) (hc : Hid (∀ j, j < 8 → w.cell? ⟨g, o + j, none⟩ = some (.int .u8 (C j)))) (hcap : 8 ≤ cap)
    (hG : Pure Try.prog 43 #[.agg (rowF 8 (fun i => .int .u8 (C i)))] (.tuple #[.int .u64 n, .int .i64 e])) :
    Calls Try.prog 97 #[.int .u8 1, .slice (some ⟨g, o, none⟩) 8 cap] w fun e' w' => e' = .returned (.tuple #[.agg #[.int .u64 n, .int .u64 0], .int .i64 e]) ∧ Kept w w' := by
  have harr : ∀ w, (Instr.arrayAt 37 (.slice (some ⟨g, o, none⟩) 8 cap)).run Try.prog w = .ok (.pointer (some ⟨g, o, none⟩)) w := fun w => by
    simp [Instr.arrayAt, run_underlying Try.underlying37]
  have HG := Lib.hid hG
  have HV := Lib.hid f_Valid_s
  have HS := Lib.hid f_Size_s
  clear hG
  obtain ⟨g4, hg4⟩ : ∃ g, w.heap.size = g := ⟨_, rfl⟩
  have nw4 : w.heap.size ≤ g4 := by omega
  go_enter Try.func97, Try.ntmps97
  go_wp2_with fail
  try simp only [hg4]
  refine abs_calls (fun W => Kept w W ∧ Blk W g4 28 #[.int .u64 0, .int .u64 0]) ⟨(Kept.refl w).alloc _, by rw [← hg4]; exact Blk.new _ _ _⟩ ?_
  clear hg4
  rintro W1 ⟨k1, B1⟩
  refine (HV.out _).mono ?_
  rintro e' W2 ⟨rfl, hk2⟩
  have k2 := k1.trans hk2
  have B2 := B1.kept hk2
  clear k1 B1 hk2
  go_wp2_with fail
  refine (HS.out _).mono ?_
  rintro e' W3 ⟨rfl, hk3⟩
  have k3 := k2.trans hk3
  have B3 := B2.kept hk3
  clear k2 B2 hk3
  have HC3 : Hid (∀ j, j < 8 → W3.cell? ⟨g, o + j, none⟩ = some (.int .u8 (C j))) := Lib.hid fun j hj => k3.cell (hc.out j hj)
  go_wp2_with (refine wpList_load_at 37 (.tmp 22) (m := 8) (f := fun i => .int .u8 (C i)) HC3.out Try.underlying37 size37b rfl rfl rfl ?_)
  refine (HG.out _).mono ?_
  rintro e' W4 ⟨rfl, hk4⟩
  have k4 := k3.trans hk4
  have B4 := B3.kept hk4
  clear k3 B3 hk4 HC3
  have c0 := B4.cell 0 rfl
  have c1 := B4.cell 1 rfl
  have fr := B4.free
  go_wp2_with fail
  refine bodyPost_ret (v := .tuple #[.agg #[.int .u64 n, .int .u64 0], .int .i64 e]) (by simp [results, Try.results97, go_sem, *]) rfl ⟨rfl, ?_⟩
  exact (k4.setCell (kept_side nw4) _).setCell (kept_side nw4) _

set_option maxRecDepth 100000 in
set_option maxHeartbeats 4000000 in
theorem f_Take_l (w : World) (g o cap : Nat) (C : Nat → Int) (r0 r1 e : Int) (hc : Hid (∀ j, j < 16 → w.cell? ⟨g, o + j, none⟩ = some (.int .u8 (C j)))) (hcap : 16 ≤ cap)
    (hG : Pure Try.prog 57 #[.agg (rowF 16 (fun i => .int .u8 (C i)))] (.tuple #[.agg #[.int .u64 r0, .int .u64 r1], .int .i64 e])) :
    Calls Try.prog 97 #[.int .u8 2, .slice (some ⟨g, o, none⟩) 16 cap] w fun e' w' => e' = .returned (.tuple #[.agg #[.int .u64 r0, .int .u64 r1], .int .i64 e]) ∧ Kept w w' := by
  have harr : ∀ w, (Instr.arrayAt 54 (.slice (some ⟨g, o, none⟩) 16 cap)).run Try.prog w = .ok (.pointer (some ⟨g, o, none⟩)) w := fun w => by
    simp [Instr.arrayAt, run_underlying Try.underlying54]
  have HG := Lib.hid hG
  have HV := Lib.hid f_Valid_l
  have HS := Lib.hid f_Size_l
  clear hG
  obtain ⟨g4, hg4⟩ : ∃ g, w.heap.size = g := ⟨_, rfl⟩
  have nw4 : w.heap.size ≤ g4 := by omega
  go_enter Try.func97, Try.ntmps97
  go_wp2_with fail
  try simp only [hg4]
  refine abs_calls (fun W => Kept w W ∧ Blk W g4 28 #[.int .u64 0, .int .u64 0]) ⟨(Kept.refl w).alloc _, by rw [← hg4]; exact Blk.new _ _ _⟩ ?_
  clear hg4
  rintro W1 ⟨k1, B1⟩
  refine (HV.out _).mono ?_
  rintro e' W2 ⟨rfl, hk2⟩
  have k2 := k1.trans hk2
  have B2 := B1.kept hk2
  clear k1 B1 hk2
  go_wp2_with fail
  refine (HS.out _).mono ?_
  rintro e' W3 ⟨rfl, hk3⟩
  have k3 := k2.trans hk3
  have B3 := B2.kept hk3
  clear k2 B2 hk3
  have HC3 : Hid (∀ j, j < 16 → W3.cell? ⟨g, o + j, none⟩ = some (.int .u8 (C j))) := Lib.hid fun j hj => k3.cell (hc.out j hj)
  go_wp2_with (refine wpList_load_at 54 (.tmp 31) (m := 16) (f := fun i => .int .u8 (C i)) HC3.out Try.underlying54 size54b rfl rfl rfl ?_)
  refine (HG.out _).mono ?_
  rintro e' W4 ⟨rfl, hk4⟩
  have k4 := k3.trans hk4
  have B4 := B3.kept hk4
  clear k3 B3 hk4 HC3
  have c0 := B4.cell 0 rfl
  have c1 := B4.cell 1 rfl
  have fr := B4.free
  go_wp2_with fail
  refine bodyPost_ret (v := .tuple #[.agg #[.int .u64 r0, .int .u64 r1], .int .i64 e]) (by simp [results, Try.results97, go_sem, *]) rfl ⟨rfl, ?_⟩
  exact (k4.setCell (kept_side nw4) _).setCell (kept_side nw4) _

end Go.Proofs.Ytnajihlhcdedgaa

namespace Go.Proofs.Ytnajihlhcdedgaa
open Go.ChangeShapes Go.WideShapes Go.ChangeAt Go.RowKit
set_option linter.unusedVariables false

theorem row_bytes {bs : List Int} {n : Nat} (h : bs.length = n) : (bytesV bs).toArray = rowF n (fun i => .int .u8 (bs.getD i 0)) := by
  unfold rowF bytesV
  congr 1
  apply List.ext_getElem?
  intro i
  rw [List.getElem?_map, List.getElem?_map]
  rcases Nat.lt_or_ge i n with hi | hi
  · simp [hi, h]
  · simp [hi, h]
theorem E_pair (a : Int) : E a = .agg #[.int .u64 (a % 18446744073709551616), .int .u64 (a / 18446744073709551616)] := rfl
/-- Take, over a list of bytes. -/
theorem f_Take {f : Int} (hf : isF f) {bs : List Int} (hl : (bs.length : Int) = 8 * f) (hb : ∀ x ∈ bs, isByte x) (w : World) {g o cap : Nat} (hcap : bs.length ≤ cap) (hc : ∀ j, j < bs.length → w.cell? ⟨g, o + j, none⟩ = some (.int .u8 (bs.getD j 0))) :
    Calls Try.prog 97 #[.int .u8 f, .slice (some ⟨g, o, none⟩) bs.length cap] w fun e w' => e = .returned (if leVal bs < rP f then .tuple #[E (leVal bs), .int .i64 0] else .tuple #[E 0, .int .i64 7]) ∧ Kept w w' := by
  have h0 := leVal_lo bs hb
  rcases hf with rfl | rfl
  · have h8 : bs.length = 8 := by omega
    have hG := g_Take h8 hb
    rw [row_bytes h8] at hG
    rw [rP1]
    rw [h8] at hc hcap ⊢
    by_cases h : leVal bs < gP
    · rw [if_pos h] at hG ⊢
      rw [E_small (a := leVal bs) (by unfold gP at h; unfold is64; omega)]
      exact f_Take_s w g o cap _ _ _ (Lib.hid hc) hcap hG
    · rw [if_neg h] at hG ⊢
      rw [E_nought]
      exact f_Take_s w g o cap _ _ _ (Lib.hid hc) hcap hG
  · have h8 : bs.length = 16 := by omega
    have hG := w_Take h8 hb
    rw [row_bytes h8] at hG
    rw [rP2]
    rw [h8] at hc hcap ⊢
    by_cases h : leVal bs < wP
    · rw [if_pos h] at hG ⊢
      exact f_Take_l w g o cap _ _ _ _ (Lib.hid hc) hcap hG
    · rw [if_neg h] at hG ⊢
      rw [E_nought]
      exact f_Take_l w g o cap _ _ _ _ (Lib.hid hc) hcap hG
/-- Bytes: a slice of its own. -/
theorem f_Bytes {f a : Int} (hf : isF f) (ha : is128 a) (w : World) :
    Calls Try.prog 109 #[.int .u8 f, E a] w fun e w' => ∃ g t, e = .returned (.slice (some ⟨g, 0, none⟩) (8 * f).toNat (8 * f).toNat) ∧ w.heap.size ≤ g ∧ Kept w w' ∧ Blk w' g t (rowF (8 * f).toNat (fun i => .int .u8 ((leBytes (8 * f).toNat (rOf f a)).getD i 0))) := by
  rcases hf with rfl | rfl
  · have hG := g_Bytes (is64_lo a)
    rw [row_bytes (n := 8) (by simp [leBytes])] at hG
    rw [rOf1']
    exact (f_Bytes_s w _ _ _ hG).mono fun e w' ⟨g, h⟩ => ⟨g, 37, h⟩
  · have hG := w_Bytes ha
    rw [row_bytes (n := 16) (by simp [leBytes])] at hG
    rw [rOf2]
    exact (f_Bytes_l w _ _ _ hG).mono fun e w' ⟨g, h⟩ => ⟨g, 54, h⟩

section
variable {H : Type} {enc : TypeId × Value → H} {W : World} {base : Nat} {spare : Nat → Bool} {held : Bool} {v : Value} {d : DataW H} {p : List MemPlace}
theorem spot_none {w : World} {a : Addr} {v : Value} (h : w.cell? a = some v) : a.spot = none := by
  unfold World.cell? at h
  split at h
  · cases hs : a.spot with
    | none => rfl
    | some s => simp [hs] at h
  · cases h
set_option maxRecDepth 100000 in
theorem open_bytesA {r : Reach} {b : Nat} (hv : Value.okWide Try.prog W r b 42 v) (h : DataW.Trod enc Try.prog W base spare held 42 v d p) : ∃ (a : Option Addr) (n cap : Nat) (C : Nat → Int), v = .slice a n cap ∧ ((n : Int) ≤ 9223372036854775807 ∧ n ≤ cap ∧ (cap : Int) ≤ 9223372036854775807 ∧ (∀ j, j < n → 0 ≤ C j ∧ C j ≤ 255) ∧
    ∃ (g o : Nat), (n = 0 ∨ a = some ⟨g, o, none⟩) ∧ (∀ j, j < n → W.cell? ⟨g, o + j, none⟩ = some (.int .u8 (C j))) ∧ (n = 0 ∨ g < W.heap.size)) := by
  obtain ⟨a0, n0, c0, rfl⟩ : ∃ a n cap, v = .slice a n cap := okWide_slice Try.underlying42 hv
  obtain ⟨fuel, hf⟩ := h
  rcases open_ints Try.underlying42 Try.underlying5 (by kernel_rfl) hf with ⟨h1, _⟩ | ⟨a, len, cap, zs, h1, _, hlc, hcm, hzl, _, hcell, hwf⟩
  · simp only [Value.cells, List.cons.injEq, and_true, Value.slice.injEq] at h1
    obtain ⟨rfl, rfl, rfl⟩ := h1
    exact ⟨none, 0, 0, fun _ => 0, rfl, by omega, by omega, by omega, fun j hj => absurd hj (Nat.not_lt_zero _), 0, 0, .inl rfl, fun j hj => absurd hj (Nat.not_lt_zero _), .inl rfl⟩
  · simp only [Value.cells, List.cons.injEq, and_true, Value.slice.injEq] at h1
    obtain ⟨rfl, rfl, rfl⟩ := h1
    have hl : n0 ≤ zs.length := by rw [hzl]; split <;> omega
    unfold maxLen at hcm
    refine ⟨some a, n0, c0, fun j => zs.getD j 0, rfl, by omega, hlc, by omega, fun j hj => ?_, a.block, a.off, ?_, fun j hj => ?_, ?_⟩
    · have hj' : j < zs.length := by omega
      have := hwf zs[j] (List.getElem_mem hj')
      show 0 ≤ zs.getD j 0 ∧ zs.getD j 0 ≤ 255
      rw [List.getD_eq_getElem?_getD, List.getElem?_eq_getElem hj']
      simp [Lit.wf, IntKind.min, IntKind.max, IntKind.signed, IntKind.bits] at this
      simp only [Option.getD_some]
      omega
    · rcases Nat.eq_zero_or_pos n0 with h0 | h0
      · exact .inl h0
      · refine .inr ?_
        have hc := hcell 0 (by omega)
        have hs := spot_none hc
        have e : a.add 0 = a := rfl
        rw [e] at hs
        obtain ⟨b', o', s'⟩ := a
        simp only at hs
        subst hs
        rfl
    · have hc := hcell j (by omega)
      have hc0 := hcell 0 (by omega)
      have hs := spot_none hc0
      have e : a.add 0 = a := rfl
      rw [e] at hs
      obtain ⟨b', o', s'⟩ := a
      simp only at hs
      subst hs
      rw [Addr.add_lit] at hc
      exact hc
    · rcases Nat.eq_zero_or_pos n0 with h0 | h0
      · exact .inl h0
      · exact .inr (block_lt_of_cell (hcell 0 (by omega)))
end
end Go.Proofs.Ytnajihlhcdedgaa

namespace Go.Proofs.Ytnajihlhcdedgaa
open Go.RowKit
set_option linter.unusedVariables false
set_option linter.unusedSimpArgs false
attribute [local simp] blkAt_setCell blkAt_alloc blkAt_drew Obj.put_cells

/-- The bytes of the first i elements, L each. -/
def vecL (bt : Nat → Nat → Int) (L i : Nat) : List Value := (List.range (i * L)).map fun c => Value.int .u8 (bt (c / L) (c % L))
theorem vecL_succ (bt : Nat → Nat → Int) {L : Nat} (hL : 0 < L) (i : Nat) : vecL bt L (i + 1) = vecL bt L i ++ (List.range L).map fun c => Value.int .u8 (bt i c) := by
  unfold vecL
  rw [Nat.succ_mul, List.range_add, List.map_append, List.map_map]
  congr 1
  refine List.map_congr_left fun c hc => ?_
  have h := List.mem_range.1 hc
  show Value.int .u8 (bt ((i * L + c) / L) ((i * L + c) % L)) = _
  rw [Nat.mul_comm i L, Nat.mul_add_div hL, Nat.mul_add_mod, Nat.div_eq_of_lt h, Nat.mod_eq_of_lt h, Nat.add_zero]
theorem one8 (L : Nat) (b : Nat → Int) : ∀ u ∈ (List.range L).map (fun c => Value.int .u8 (b c)), u.oneCell' = true := by
  intro u hu
  obtain ⟨c, _, rfl⟩ := List.mem_map.1 hu
  rfl

theorem cells8 {w : World} {g t L : Nat} {b : Nat → Int} (B : Blk w g t (rowF L (fun i => .int .u8 (b i)))) (j : Nat) (u : Value) (hj : ((List.range L).map fun c => Value.int .u8 (b c))[j]? = some u) : w.cell? ⟨g, j, none⟩ = some u := by
  have hlt : j < L := by have := (List.getElem?_eq_some_iff.1 hj).1; simpa using this
  rw [List.getElem?_map, List.getElem?_range hlt] at hj
  simp only [Option.map_some, Option.some.injEq] at hj
  rw [← hj]
  exact B.at hlt
theorem ownsRow_slice' {w : World} {base : Nat} {e : TypeId} {v : Value} {n : Nat} {xs : List Value} (h : w.ownsRow base e 1 v n xs) : ∃ a c, v = .slice a n c := by
  rcases h.2 with ⟨rfl, rfl⟩ | ⟨g, cap, cur, rfl, _⟩
  · exact ⟨_, _, rfl⟩
  · exact ⟨_, _, rfl⟩
theorem owned_cells {w : World} {base L : Nat} {v : Value} {b : Nat → Int} (hL : 0 < L) (h : w.ownsRow base 5 1 v L ((List.range L).map fun c => Value.int .u8 (b c))) : ∃ g cv, v = .slice (some ⟨g, 0, none⟩) L cv ∧ ∀ (j : Nat) (u : Value), ((List.range L).map fun c => Value.int .u8 (b c))[j]? = some u → w.cell? ⟨g, j, none⟩ = some u := by
  rcases h.2 with ⟨_, h0⟩ | ⟨g, cap, cur, rfl, _⟩
  · omega
  · refine ⟨g, cap, rfl, fun j u hj => ?_⟩
    have := h.cells (g := g) rfl j u hj
    rw [Addr.add_lit, Nat.zero_add] at this
    exact this
set_option maxRecDepth 100000 in
set_option maxHeartbeats 4000000 in
theorem f_Vec_r (w : World) (f : Int) (a : Option Addr) (n cap N L : Nat) (C0 C1 : Nat → Int) (bt : Nat → Nat → Int) (hL : 0 < L) (hL2 : L ≤ 16) (hn : n ≤ 4096) (hA : SlE w a n cap N C0 C1)
    (HB : Hid (∀ j, j < n → ∀ w', Calls Try.prog 109 #[.int .u8 f, .agg #[.int .u64 (C0 j), .int .u64 (C1 j)]] w' fun e w'' => ∃ g t, e = .returned (.slice (some ⟨g, 0, none⟩) L L) ∧ w'.heap.size ≤ g ∧ Kept w' w'' ∧ Blk w'' g t (rowF L (fun i => .int .u8 (bt j i))))) :
    Calls Try.prog 94 #[.int .u8 f, .slice a n cap] w fun e w' => ∃ v, e = .returned v ∧ Kept w w' ∧ w'.ownsRow w.heap.size 5 1 v (n * L) (vecL bt L n) := by
  have yn : (n : Int) ≤ 4096 := by omega
  go_enter Try.func94, Try.ntmps94
  go_wp2_with fail
  go_loopw [5, 10] (fun v t wr => ∃ i : Nat, i ≤ n ∧ t = .int .i64 i ∧ Kept w wr ∧ wr.ownsRow w.heap.size 5 1 v (i * L) (vecL bt L i)) (fun _ t _ => n - (intOf t).toNat)
  case atStart => exact ⟨0, Nat.zero_le _, rfl, Kept.refl _, by unfold vecL; rw [Nat.zero_mul]; exact World.ownsRow_nil _ _ _ _⟩
  case round =>
    obtain ⟨i, hi, rfl, k, hown⟩ := hrel
    have zi : (0 : Int) ≤ (i : Int) := by omega
    obtain ⟨va, vc, rfl⟩ := ownsRow_slice' hown
    rcases Nat.lt_or_ge i n with hlt | hge
    · have yi : (i : Int) < (n : Int) := by omega
      obtain ⟨p, hip, cp0, cp1, _⟩ := (hA.kept k).at' i hlt
      have HBi := Lib.hid (HB.out i hlt)
      have hbd : i * L ≤ 4096 * 16 := Nat.mul_le_mul (by omega) hL2
      obtain ⟨M, hM⟩ : ∃ M, i * L = M := ⟨_, rfl⟩
      have HM : Hid ((i + 1) * L = M + L) := Lib.hid (by rw [Nat.succ_mul, hM])
      have HV := Lib.hid (vecL_succ bt hL i)
      rw [hM] at hown hbd
      rw [hM]
      have HM0 := Lib.hid hM
      clear hM
      generalize C0 i = c0 at cp0 HBi
      generalize C1 i = c1 at cp1 HBi
      obtain ⟨g7, hg7⟩ : ∃ g, wr.heap.size = g := ⟨_, rfl⟩
      have nw7 : w.heap.size ≤ g7 := hg7 ▸ k.size
      go_upto_region 5 with (refine wpList_load_elem (.tmp 12) cp0 cp1 rfl rfl rfl ?_)
      try simp only [hg7]
      clear cp0 cp1
      refine abs_world (fun W => Kept wr W ∧ Blk W g7 28 #[.int .u64 c0, .int .u64 c1]) ⟨?_, ?_⟩ ?_
      · have nw9 : wr.heap.size ≤ g7 := by omega
        repeat (first | exact Kept.refl _ | (refine Kept.setCell ?_ (kept_side (by first | assumption | omega)) _) | apply Kept.alloc | apply Kept.drew)
      · simp [Blk, *]
      clear hg7
      rintro W1 ⟨hk1, B1⟩
      have k1 := k.trans hk1
      have hown1 := ownsRow_kept hown hk1
      clear k hown hk1
      have d0 := B1.cell 0 rfl
      have d1 := B1.cell 1 rfl
      go_wp2_with fail
      refine (HBi.out _).mono ?_
      rintro e W2 ⟨g, t, rfl, hg, hk2, Bg⟩
      have k2 := k1.trans hk2
      have hown2 := ownsRow_kept hown1 hk2
      have hbase := k2.size
      clear k1 hown1 hk2 d0 d1 B1 hg
      go_wp2_with (at_builtin; refine wpList_append_at 42 5 info5 Try.underlying42 rfl (by decide) hown2 g 0 L L ((List.range L).map fun c => Value.int .u8 (bt i c)) (by simp) (one8 L _) (by intro j u hj; rw [Nat.zero_add]; exact cells8 Bg j u hj) (by omega) (by decide) hL hbase (.tmp 14) (.tmp 17) rfl rfl rfl rfl ?_; intro v' w1 hown3 hgrow hne)
      have k3 := grown_kept k2 hown2 hgrow (Nat.le_refl _)
      clear k2 hown2 hgrow Bg hbase
      go_wp2_with fail
      go_roundw
      case rel => exact ⟨i + 1, by omega, by go_num, k3, by rw [HV.out, HM.out]; exact hown3⟩
      case measure => simp [intOf]; omega
    · have yi : (n : Int) ≤ (i : Int) := by omega
      obtain rfl : n = i := by omega
      go_wp2_with fail
      go_ret
      exact ⟨_, rfl, k, hown⟩
set_option maxRecDepth 100000 in
set_option maxHeartbeats 4000000 in
theorem ref_Vec_r (w : World) (f : Int) (a : Option Addr) (n cap N L : Nat) (C0 C1 : Nat → Int) (bt : Nat → Nat → Int) (hL : 0 < L) (hL2 : L ≤ 16) (hn : n ≤ 4096) (hA : SlE w a n cap N C0 C1)
    (HB : Hid (∀ j, j < n → ∀ w', Calls Try.prog 45 #[.int .i64 f, .agg #[.int .u64 (C0 j), .int .u64 (C1 j)]] w' fun e w'' => ∃ v, e = .returned v ∧ w''.ownsRow w'.heap.size 5 1 v L ((List.range L).map fun c => Value.int .u8 (bt j c)) ∧ Kept w' w'')) :
    Calls Try.prog 96 #[.int .i64 f, .slice a n cap] w fun e w' => ∃ v, e = .returned v ∧ Kept w w' ∧ w'.ownsRow w.heap.size 5 1 v (n * L) (vecL bt L n) := by
  have yn : (n : Int) ≤ 4096 := by omega
  go_enter Try.func96, Try.ntmps96
  go_wp2_with fail
  go_loopw [5, 6] (fun v t wr => ∃ i : Nat, i ≤ n ∧ t = .int .i64 i ∧ Kept w wr ∧ wr.ownsRow w.heap.size 5 1 v (i * L) (vecL bt L i)) (fun _ t _ => n - (intOf t).toNat)
  case atStart => exact ⟨0, Nat.zero_le _, rfl, Kept.refl _, by unfold vecL; rw [Nat.zero_mul]; exact World.ownsRow_nil _ _ _ _⟩
  case round =>
    obtain ⟨i, hi, rfl, k, hown⟩ := hrel
    have zi : (0 : Int) ≤ (i : Int) := by omega
    obtain ⟨va, vc, rfl⟩ := ownsRow_slice' hown
    rcases Nat.lt_or_ge i n with hlt | hge
    · have yi : (i : Int) < (n : Int) := by omega
      obtain ⟨p, hip, cp0, cp1, _⟩ := (hA.kept k).at' i hlt
      have HBi := Lib.hid (HB.out i hlt)
      have hbd : i * L ≤ 4096 * 16 := Nat.mul_le_mul (by omega) hL2
      obtain ⟨M, hM⟩ : ∃ M, i * L = M := ⟨_, rfl⟩
      have HM : Hid ((i + 1) * L = M + L) := Lib.hid (by rw [Nat.succ_mul, hM])
      have HV := Lib.hid (vecL_succ bt hL i)
      rw [hM] at hown hbd
      rw [hM]
      have HM0 := Lib.hid hM
      clear hM
      generalize C0 i = c0 at cp0 HBi
      generalize C1 i = c1 at cp1 HBi
      go_wp2_with (refine wpList_load_elem (.tmp 17) cp0 cp1 rfl rfl rfl ?_)
      refine (HBi.out _).mono ?_
      rintro e W2 ⟨v, rfl, hv, hk2⟩
      obtain ⟨g, cv, rfl, hcv⟩ := owned_cells hL hv
      have k2 := k.trans hk2
      have hown2 := ownsRow_kept hown hk2
      have hbase := k2.size
      clear k hown hk2 cp0 cp1 hv
      go_wp2_with (at_builtin; refine wpList_append_at 42 5 info5 Try.underlying42 rfl (by decide) hown2 g 0 L cv ((List.range L).map fun c => Value.int .u8 (bt i c)) (by simp) (one8 L _) (by intro j u hj; rw [Nat.zero_add]; exact hcv j u hj) (by omega) (by decide) hL hbase (.tmp 13) (.tmp 19) rfl rfl rfl rfl ?_; intro v' w1 hown3 hgrow hne)
      have k3 := grown_kept k2 hown2 hgrow (Nat.le_refl _)
      clear k2 hown2 hgrow hbase
      go_wp2_with fail
      go_roundw
      case rel => exact ⟨i + 1, by omega, by go_num, k3, by rw [HV.out, HM.out]; exact hown3⟩
      case measure => simp [intOf]; omega
    · have yi : (n : Int) ≤ (i : Int) := by omega
      obtain rfl : n = i := by omega
      go_wp2_with fail
      go_ret
      exact ⟨_, rfl, k, hown⟩
set_option maxRecDepth 100000 in
set_option maxHeartbeats 4000000 in
theorem ref_Same_r (w : World) (a : Option Addr) (n cap N : Nat) (b : Option Addr) (capb M : Nat) (C0 C1 : Nat → Int) (hn : n ≤ 4096) (hA : SlE w a n cap N C0 C1) (hB : SlE w b n capb M C0 C1) :
    Calls Try.prog 90 #[.slice a n cap, .slice b n capb] w fun e w' => e = .returned (.bool true) ∧ Kept w w' := by
  have yn : (n : Int) ≤ 4096 := by omega
  have hneq := neq28_self
  go_enter Try.func90, Try.ntmps90
  go_wp2_with fail
  go_loopw [5] (fun t wr => ∃ i : Nat, i ≤ n ∧ t = .int .i64 i ∧ Kept w wr) (fun t _ => n - (intOf t).toNat)
  case atStart => exact ⟨0, Nat.zero_le _, rfl, Kept.refl _⟩
  case round =>
    obtain ⟨i, hi, rfl, k⟩ := hrel
    have zi : (0 : Int) ≤ (i : Int) := by omega
    rcases Nat.lt_or_ge i n with hlt | hge
    · have yi : (i : Int) < (n : Int) := by omega
      obtain ⟨p, hip, cp0, cp1, _⟩ := (hA.kept k).at' i hlt
      obtain ⟨q, hiq, cq0, cq1, _⟩ := (hB.kept k).at' i hlt
      generalize C0 i = c0 at *
      generalize C1 i = c1 at *
      go_upto_region 6 with (fail)
      try simp only [List.append_eq, List.cons_append, List.nil_append]
      refine wp_region_wl (fun _ => oneMean 5 #[]) 9 (by kernel_rfl) (by as_aux_lemma => kernel_rfl) _ rfl _ rfl _ _ rfl rfl (fun k0 Lq hLq => ?_)
      dsimp only [List.map_cons, List.map_nil, List.take_succ_cons, List.take_zero, List.drop_succ_cons, List.drop_zero] at hLq ⊢
      repeat (first
        | (refine WL.law _ rfl rfl (by kernel_rfl) rfl rfl (calm_load_elem (.tmp 19) cp0 cp1 rfl rfl) ?_; dsimp only [List.set_cons_zero, List.set_cons_succ])
        | (refine WL.law _ rfl rfl (by kernel_rfl) rfl rfl (calm_load_elem (.tmp 23) cq0 cq1 rfl rfl) ?_; dsimp only [List.set_cons_zero, List.set_cons_succ])
        | (refine WL.skip rfl rfl ?_; dsimp only [List.set_cons_zero, List.set_cons_succ])
        | (refine WL.ex rfl rfl (by kernel_rfl) rfl ?_; apply Exists.intro; refine And.intro (fun w' hk => ?_) (And.intro ?_ ?_); (focus (clear hk; go_simp; exact rfl)); (focus (exact rfl)); dsimp only [List.set_cons_zero, List.set_cons_succ]))
      refine WL.nil (hLq _ ?_)
      clear hLq
      intro a'' V1 hk hra
      obtain rfl := hra.mark0 (by kernel_rfl)
      clear hra
      try simp only [List.drop_succ_cons, List.drop_zero, List.drop_nil]
      have k2 := k.trans hk
      clear cp0 cp1 cq0 cq1 k hk
      go_wp2_with fail
      go_roundw
      case rel => exact ⟨i + 1, by omega, by go_num, k2⟩
      case measure => simp [intOf]; omega
    · have yi : (n : Int) ≤ (i : Int) := by omega
      obtain rfl : n = i := by omega
      go_wp2_with fail
      go_ret
      exact ⟨rfl, k⟩
end Go.Proofs.Ytnajihlhcdedgaa

namespace Go.Proofs.Ytnajihlhcdedgaa
open Go.RowKit
set_option linter.unusedVariables false
set_option linter.unusedSimpArgs false
attribute [local simp] blkAt_setCell blkAt_alloc blkAt_drew Obj.put_cells

def lenS : Value → Nat
  | .slice _ n _ => n
  | _ => 0
set_option maxRecDepth 100000 in
set_option maxHeartbeats 4000000 in
theorem f_TakeVec_none (f : Int) (h1b : (f == 1) = false) (h2b : (f == 2) = false) (a : Option Addr) (n cap : Nat) (many : Int) : Pure Try.prog 95 #[.int .u8 f, .slice a n cap, .int .i64 many] (.tuple #[.slice none 0 0, .int .i64 10]) := fun w => by
  have HV := Lib.hid (f_Valid_n f h1b h2b)
  clear h1b h2b
  go_enter Try.func95, Try.ntmps95
  go_wp2_with fail
  refine (HV.out _).mono ?_
  rintro e W1 ⟨rfl, k1⟩
  go_wp2_with fail
  go_ret2
  exact ⟨rfl, k1⟩
set_option maxRecDepth 100000 in
set_option maxHeartbeats 4000000 in
theorem f_TakeVec_neg (f : Int) (hV : Pure Try.prog 108 #[.int .u8 f] (.bool true)) (a : Option Addr) (n cap : Nat) (many : Int) (h : many < 0) : Pure Try.prog 95 #[.int .u8 f, .slice a n cap, .int .i64 many] (.tuple #[.slice none 0 0, .int .i64 6]) := fun w => by
  have HV := Lib.hid hV
  clear hV
  go_enter Try.func95, Try.ntmps95
  go_wp2_with fail
  refine (HV.out _).mono ?_
  rintro e W1 ⟨rfl, k1⟩
  go_wp2_with fail
  go_ret2
  exact ⟨rfl, k1⟩
set_option maxRecDepth 100000 in
set_option maxHeartbeats 4000000 in
theorem f_TakeVec_big (f : Int) (hV : Pure Try.prog 108 #[.int .u8 f] (.bool true)) (a : Option Addr) (n cap : Nat) (many : Int) (h : 4096 < many) : Pure Try.prog 95 #[.int .u8 f, .slice a n cap, .int .i64 many] (.tuple #[.slice none 0 0, .int .i64 6]) := fun w => by
  have HV := Lib.hid hV
  have n1 : decide (many < 0) = false := decide_eq_false (by omega)
  clear hV
  go_enter Try.func95, Try.ntmps95
  go_wp2_with fail
  refine (HV.out _).mono ?_
  rintro e W1 ⟨rfl, k1⟩
  go_wp2_with fail
  go_ret2
  exact ⟨rfl, k1⟩
set_option maxRecDepth 100000 in
set_option maxHeartbeats 4000000 in
theorem f_TakeVec_size (f : Int) (hV : Pure Try.prog 108 #[.int .u8 f] (.bool true)) (z p : Int) (hS : Pure Try.prog 89 #[.int .u8 f] (.int .i64 z)) (a : Option Addr) (n cap : Nat) (many : Int) (h0 : 0 ≤ many) (h1 : many ≤ 4096) (hw : IntKind.i64.wrap (many * z) = p) (hne : ((n : Int) != p) = true) :
    Pure Try.prog 95 #[.int .u8 f, .slice a n cap, .int .i64 many] (.tuple #[.slice none 0 0, .int .i64 9]) := fun w => by
  have HV := Lib.hid hV
  have HS := Lib.hid hS
  clear hV hS
  go_enter Try.func95, Try.ntmps95
  go_wp2_with fail
  refine (HV.out _).mono ?_
  rintro e W1 ⟨rfl, k1⟩
  go_wp2_with fail
  refine (HS.out _).mono ?_
  rintro e W2 ⟨rfl, hk2⟩
  have k2 := k1.trans hk2
  clear k1 hk2
  go_wp2_with fail
  go_ret2
  exact ⟨rfl, k2⟩
set_option maxRecDepth 100000 in
set_option maxHeartbeats 4000000 in
theorem f_TakeVec_ok (w : World) (f : Int) (hV : Pure Try.prog 108 #[.int .u8 f] (.bool true)) (L : Nat) (hL : 0 < L) (hL2 : L ≤ 16) (hS : Pure Try.prog 89 #[.int .u8 f] (.int .i64 (L : Int))) (a : Option Addr) (n cap g o K : Nat) (hK : K ≤ 4096) (hn : Hid (n = K * L)) (hA : n = 0 ∨ a = some ⟨g, o, none⟩) (hcap : n ≤ cap) (hcap63 : (cap : Int) ≤ 9223372036854775807)
    (hw : IntKind.i64.wrap ((K : Int) * (L : Int)) = (n : Int)) (R0 R1 : Nat → Int)
    (HT : Hid (∀ i, i < K → ∀ w' cc, Kept w w' → L ≤ cc → Calls Try.prog 97 #[.int .u8 f, .slice (some ⟨g, o + i * L, none⟩) L cc] w' fun e w'' => e = .returned (.tuple #[.agg #[.int .u64 (R0 i), .int .u64 (R1 i)], .int .i64 0]) ∧ Kept w' w'')) :
    Calls Try.prog 95 #[.int .u8 f, .slice a n cap, .int .i64 (K : Int)] w fun e w' => ∃ v, e = .returned (.tuple #[v, .int .i64 0]) ∧ Kept w w' ∧ w'.ownsRow w.heap.size 28 2 v K (elist R0 R1 K) := by
  have yK : (K : Int) ≤ 4096 := by omega
  have zK : (0 : Int) ≤ (K : Int) := by omega
  have HV := Lib.hid hV
  have HS := Lib.hid hS
  clear hV hS
  go_enter Try.func95, Try.ntmps95
  go_wp2_with fail
  refine (HV.out _).mono ?_
  rintro e W1 ⟨rfl, k1⟩
  go_wp2_with fail
  refine (HS.out _).mono ?_
  rintro e W2 ⟨rfl, hk2⟩
  have k2 := k1.trans hk2
  clear k1 hk2
  go_wp2_with fail
  go_loopw [1, 8] (fun s v wr => ∃ i m c sa, s = .slice sa m c ∧ i ≤ K ∧ Hid (m + i * L = n) ∧ Hid (c + i * L = cap) ∧ m ≤ c ∧ (m = 0 ∨ sa = some ⟨g, o + i * L, none⟩) ∧ Kept w wr ∧ wr.ownsRow w.heap.size 28 2 v i (elist R0 R1 i)) (fun s _ _ => lenS s)
  case atStart => exact ⟨0, n, cap, a, rfl, Nat.zero_le _, Lib.hid (by rw [Nat.zero_mul]; rfl), Lib.hid (by rw [Nat.zero_mul]; rfl), hcap, by rw [Nat.zero_mul]; exact hA, k2, World.ownsRow_nil _ _ _ _⟩
  case round =>
    clear k2
    obtain ⟨i, m, c, sa, rfl, hi, hmn, hcc, hmc, hsa, k, hown⟩ := hrel
    have hic : (c : Int) ≤ 9223372036854775807 := by have := hcc.out; omega
    obtain ⟨va, vn, vc, rfl⟩ := ownsRow_slice hown
    rcases Nat.eq_zero_or_pos m with hm | hm
    · subst hm
      have hiK : i = K := by
        have h1 := hmn.out
        have h2 := hn.out
        rw [h2, Nat.zero_add] at h1
        exact Nat.eq_of_mul_eq_mul_right hL h1
      subst hiK
      go_wp2_with fail
      go_ret2
      exact ⟨_, rfl, k, hown⟩
    · have hiK : i < K := by
        rcases Nat.lt_or_ge i K with h | h
        · exact h
        · have h1 := hmn.out
          have h2 := hn.out
          have h3 := Nat.mul_le_mul_right L h
          omega
      have hmL : L ≤ m := by
        have h1 := hmn.out
        have h2 := hn.out
        have h3 : (i + 1) * L ≤ K * L := Nat.mul_le_mul_right L hiK
        rw [Nat.succ_mul] at h3
        omega
      obtain rfl : sa = some ⟨g, o + i * L, none⟩ := by rcases hsa with h | h; omega; exact h
      clear hsa
      have HE := Lib.hid (elist_succ R0 R1 i)
      obtain ⟨po, hpo⟩ : ∃ po, o + i * L = po := ⟨_, rfl⟩
      have HTi := HT.out i hiK
      rw [hpo] at HTi ⊢
      have HTi := Lib.hid HTi
      have HPO := Lib.hid hpo
      clear hpo
      have yL : (L : Int) ≤ (m : Int) := by omega
      have yc : (L : Int) ≤ (c : Int) := by omega
      have zL : (0 : Int) < (L : Int) := by omega
      have zL0 : (0 : Int) ≤ (L : Int) := by omega
      have zm : (0 : Int) < (m : Int) := by omega
      have c0 : c ≠ 0 := by omega
      go_wp2_with fail
      refine (HS.out _).mono ?_
      rintro e W5 ⟨rfl, hk5⟩
      have k5 := k.trans hk5
      have hown5 := ownsRow_kept hown hk5
      clear k hown hk5
      go_wp2_with fail
      refine (HTi.out _ _ k5 (by omega)).mono ?_
      rintro e W6 ⟨rfl, hk6⟩
      have k6 := k5.trans hk6
      have hown6 := ownsRow_kept hown5 hk6
      clear k5 hown5 hk6
      generalize R0 i = r0 at *
      generalize R1 i = r1 at *
      obtain ⟨g9, hg9⟩ : ∃ g, W6.heap.size = g := ⟨_, rfl⟩
      have nw9 : w.heap.size ≤ g9 := hg9 ▸ k6.size
      go_upto_region 11 with (fail)
      try simp only [hg9]
      refine abs_world (fun W => Kept W6 W ∧ Blk W g9 28 #[.int .u64 r0, .int .u64 r1]) ⟨?_, ?_⟩ ?_
      · have nw8 : W6.heap.size ≤ g9 := by omega
        repeat (first | exact Kept.refl _ | (refine Kept.setCell ?_ (kept_side (by first | assumption | omega)) _) | apply Kept.alloc | apply Kept.drew)
      · simp [Blk, *]
      clear hg9
      rintro W7 ⟨hk7, B7⟩
      have k7 := k6.trans hk7
      have hown7 := ownsRow_kept hown6 hk7
      have hbase := k7.size
      clear k6 hown6 hk7
      have d0 := B7.cell 0 rfl
      have d1 := B7.cell 1 rfl
      have hiK2 : i + 1 ≤ 4096 := by omega
      by_cases hcL : c = L
      · have hLm : m = L := by omega
        go_wp2_with (at_builtin; refine wpList_append_one 90 28 info28 Try.underlying90 rfl (by decide) hown7 [.int .u64 r0, .int .u64 r1] rfl (by intro u hu; simp at hu; rcases hu with rfl | rfl <;> rfl) (by omega) (by decide) hbase (.tmp 49) (.tmp 51) rfl rfl rfl rfl ?_; intro v' w1 hown8 hgrow hne)
        have k8 := grown_kept k7 hown7 hgrow (Nat.le_refl _)
        clear k7 hown7 hgrow hbase d0 d1 B7
        refine (HS.out _).mono ?_
        rintro e W9 ⟨rfl, hk9⟩
        have k9 := k8.trans hk9
        have hown9 := ownsRow_kept hown8 hk9
        clear k8 hown8 hk9
        go_wp2_with fail
        go_roundw
        case rel => exact ⟨i + 1, _, _, _, rfl, by omega, Lib.hid (by have := hmn.out; rw [Nat.succ_mul]; omega), Lib.hid (by have := hcc.out; rw [Nat.succ_mul]; omega), by omega, Or.inl (by omega), k9, by rw [HE.out]; exact hown9⟩
        case measure => simp [lenS]; omega
      · skip
        go_wp2_with (at_builtin; refine wpList_append_one 90 28 info28 Try.underlying90 rfl (by decide) hown7 [.int .u64 r0, .int .u64 r1] rfl (by intro u hu; simp at hu; rcases hu with rfl | rfl <;> rfl) (by omega) (by decide) hbase (.tmp 49) (.tmp 51) rfl rfl rfl rfl ?_; intro v' w1 hown8 hgrow hne)
        have k8 := grown_kept k7 hown7 hgrow (Nat.le_refl _)
        clear k7 hown7 hgrow hbase d0 d1 B7
        refine (HS.out _).mono ?_
        rintro e W9 ⟨rfl, hk9⟩
        have k9 := k8.trans hk9
        have hown9 := ownsRow_kept hown8 hk9
        clear k8 hown8 hk9
        go_wp2_with fail
        go_roundw
        case rel => exact ⟨i + 1, _, _, _, rfl, by omega, Lib.hid (by have := hmn.out; rw [Nat.succ_mul]; omega), Lib.hid (by have := hcc.out; rw [Nat.succ_mul]; omega), by omega, Or.inr (by rw [← HPO.out]; simp [Addr.add_lit, Nat.succ_mul, Nat.add_assoc]), k9, by rw [HE.out]; exact hown9⟩
        case measure => simp [lenS]; omega
set_option maxRecDepth 100000 in
set_option maxHeartbeats 4000000 in
theorem f_TakeVec_bad (w : World) (f : Int) (hV : Pure Try.prog 108 #[.int .u8 f] (.bool true)) (L : Nat) (hL : 0 < L) (hL2 : L ≤ 16) (hS : Pure Try.prog 89 #[.int .u8 f] (.int .i64 (L : Int))) (a : Option Addr) (n cap g o K : Nat) (hK : K ≤ 4096) (hn : Hid (n = K * L)) (hA : n = 0 ∨ a = some ⟨g, o, none⟩) (hcap : n ≤ cap) (hcap63 : (cap : Int) ≤ 9223372036854775807)
    (hw : IntKind.i64.wrap ((K : Int) * (L : Int)) = (n : Int)) (z : Nat) (hz : z < K) (R0 R1 : Nat → Int)
    (HT : Hid (∀ i, i < z → ∀ w' cc, Kept w w' → L ≤ cc → Calls Try.prog 97 #[.int .u8 f, .slice (some ⟨g, o + i * L, none⟩) L cc] w' fun e w'' => e = .returned (.tuple #[.agg #[.int .u64 (R0 i), .int .u64 (R1 i)], .int .i64 0]) ∧ Kept w' w''))
    (HZ : Hid (∀ w' cc, Kept w w' → L ≤ cc → Calls Try.prog 97 #[.int .u8 f, .slice (some ⟨g, o + z * L, none⟩) L cc] w' fun e w'' => e = .returned (.tuple #[.agg #[.int .u64 0, .int .u64 0], .int .i64 7]) ∧ Kept w' w'')) :
    Calls Try.prog 95 #[.int .u8 f, .slice a n cap, .int .i64 (K : Int)] w fun e w' => e = .returned (.tuple #[.slice none 0 0, .int .i64 7]) ∧ Kept w w' := by
  have yK : (K : Int) ≤ 4096 := by omega
  have zK : (0 : Int) ≤ (K : Int) := by omega
  have HV := Lib.hid hV
  have HS := Lib.hid hS
  clear hV hS
  go_enter Try.func95, Try.ntmps95
  go_wp2_with fail
  refine (HV.out _).mono ?_
  rintro e W1 ⟨rfl, k1⟩
  go_wp2_with fail
  refine (HS.out _).mono ?_
  rintro e W2 ⟨rfl, hk2⟩
  have k2 := k1.trans hk2
  clear k1 hk2
  go_wp2_with fail
  go_loopw [1, 8] (fun s v wr => ∃ i m c sa, s = .slice sa m c ∧ i ≤ z ∧ Hid (m + i * L = n) ∧ Hid (c + i * L = cap) ∧ m ≤ c ∧ (m = 0 ∨ sa = some ⟨g, o + i * L, none⟩) ∧ Kept w wr ∧ wr.ownsRow w.heap.size 28 2 v i (elist R0 R1 i)) (fun s _ _ => lenS s)
  case atStart => exact ⟨0, n, cap, a, rfl, Nat.zero_le _, Lib.hid (by rw [Nat.zero_mul]; rfl), Lib.hid (by rw [Nat.zero_mul]; rfl), hcap, by rw [Nat.zero_mul]; exact hA, k2, World.ownsRow_nil _ _ _ _⟩
  case round =>
    clear k2
    obtain ⟨i, m, c, sa, rfl, hi, hmn, hcc, hmc, hsa, k, hown⟩ := hrel
    have hic : (c : Int) ≤ 9223372036854775807 := by have := hcc.out; omega
    obtain ⟨va, vn, vc, rfl⟩ := ownsRow_slice hown
    rcases Nat.eq_zero_or_pos m with hm | hm
    · subst hm
      have hiK : i = K := by
        have h1 := hmn.out
        have h2 := hn.out
        rw [h2, Nat.zero_add] at h1
        exact Nat.eq_of_mul_eq_mul_right hL h1
      omega
    · have hiK : i < K := by
        rcases Nat.lt_or_ge i K with h | h
        · exact h
        · have h1 := hmn.out
          have h2 := hn.out
          have h3 := Nat.mul_le_mul_right L h
          omega
      have hmL : L ≤ m := by
        have h1 := hmn.out
        have h2 := hn.out
        have h3 : (i + 1) * L ≤ K * L := Nat.mul_le_mul_right L hiK
        rw [Nat.succ_mul] at h3
        omega
      obtain rfl : sa = some ⟨g, o + i * L, none⟩ := by rcases hsa with h | h; omega; exact h
      clear hsa
      rcases Nat.lt_or_ge i z with hlz | hlz
      · skip
        have HE := Lib.hid (elist_succ R0 R1 i)
        obtain ⟨po, hpo⟩ : ∃ po, o + i * L = po := ⟨_, rfl⟩
        have HTi := HT.out i hlz
        rw [hpo] at HTi ⊢
        have HTi := Lib.hid HTi
        have HPO := Lib.hid hpo
        clear hpo
        have yL : (L : Int) ≤ (m : Int) := by omega
        have yc : (L : Int) ≤ (c : Int) := by omega
        have zL : (0 : Int) < (L : Int) := by omega
        have zL0 : (0 : Int) ≤ (L : Int) := by omega
        have zm : (0 : Int) < (m : Int) := by omega
        have c0 : c ≠ 0 := by omega
        go_wp2_with fail
        refine (HS.out _).mono ?_
        rintro e W5 ⟨rfl, hk5⟩
        have k5 := k.trans hk5
        have hown5 := ownsRow_kept hown hk5
        clear k hown hk5
        go_wp2_with fail
        refine (HTi.out _ _ k5 (by omega)).mono ?_
        rintro e W6 ⟨rfl, hk6⟩
        have k6 := k5.trans hk6
        have hown6 := ownsRow_kept hown5 hk6
        clear k5 hown5 hk6
        generalize R0 i = r0 at *
        generalize R1 i = r1 at *
        obtain ⟨g9, hg9⟩ : ∃ g, W6.heap.size = g := ⟨_, rfl⟩
        have nw9 : w.heap.size ≤ g9 := hg9 ▸ k6.size
        go_upto_region 11 with (fail)
        try simp only [hg9]
        refine abs_world (fun W => Kept W6 W ∧ Blk W g9 28 #[.int .u64 r0, .int .u64 r1]) ⟨?_, ?_⟩ ?_
        · have nw8 : W6.heap.size ≤ g9 := by omega
          repeat (first | exact Kept.refl _ | (refine Kept.setCell ?_ (kept_side (by first | assumption | omega)) _) | apply Kept.alloc | apply Kept.drew)
        · simp [Blk, *]
        clear hg9
        rintro W7 ⟨hk7, B7⟩
        have k7 := k6.trans hk7
        have hown7 := ownsRow_kept hown6 hk7
        have hbase := k7.size
        clear k6 hown6 hk7
        have d0 := B7.cell 0 rfl
        have d1 := B7.cell 1 rfl
        have hiK2 : i + 1 ≤ 4096 := by omega
        by_cases hcL : c = L
        · have hLm : m = L := by omega
          go_wp2_with (at_builtin; refine wpList_append_one 90 28 info28 Try.underlying90 rfl (by decide) hown7 [.int .u64 r0, .int .u64 r1] rfl (by intro u hu; simp at hu; rcases hu with rfl | rfl <;> rfl) (by omega) (by decide) hbase (.tmp 49) (.tmp 51) rfl rfl rfl rfl ?_; intro v' w1 hown8 hgrow hne)
          have k8 := grown_kept k7 hown7 hgrow (Nat.le_refl _)
          clear k7 hown7 hgrow hbase d0 d1 B7
          refine (HS.out _).mono ?_
          rintro e W9 ⟨rfl, hk9⟩
          have k9 := k8.trans hk9
          have hown9 := ownsRow_kept hown8 hk9
          clear k8 hown8 hk9
          go_wp2_with fail
          go_roundw
          case rel => exact ⟨i + 1, _, _, _, rfl, by omega, Lib.hid (by have := hmn.out; rw [Nat.succ_mul]; omega), Lib.hid (by have := hcc.out; rw [Nat.succ_mul]; omega), by omega, Or.inl (by omega), k9, by rw [HE.out]; exact hown9⟩
          case measure => simp [lenS]; omega
        · skip
          go_wp2_with (at_builtin; refine wpList_append_one 90 28 info28 Try.underlying90 rfl (by decide) hown7 [.int .u64 r0, .int .u64 r1] rfl (by intro u hu; simp at hu; rcases hu with rfl | rfl <;> rfl) (by omega) (by decide) hbase (.tmp 49) (.tmp 51) rfl rfl rfl rfl ?_; intro v' w1 hown8 hgrow hne)
          have k8 := grown_kept k7 hown7 hgrow (Nat.le_refl _)
          clear k7 hown7 hgrow hbase d0 d1 B7
          refine (HS.out _).mono ?_
          rintro e W9 ⟨rfl, hk9⟩
          have k9 := k8.trans hk9
          have hown9 := ownsRow_kept hown8 hk9
          clear k8 hown8 hk9
          go_wp2_with fail
          go_roundw
          case rel => exact ⟨i + 1, _, _, _, rfl, by omega, Lib.hid (by have := hmn.out; rw [Nat.succ_mul]; omega), Lib.hid (by have := hcc.out; rw [Nat.succ_mul]; omega), by omega, Or.inr (by rw [← HPO.out]; simp [Addr.add_lit, Nat.succ_mul, Nat.add_assoc]), k9, by rw [HE.out]; exact hown9⟩
          case measure => simp [lenS]; omega
      · obtain rfl : i = z := by omega
        obtain ⟨po, hpo⟩ : ∃ po, o + i * L = po := ⟨_, rfl⟩
        have HTi := HZ.out
        rw [hpo] at HTi ⊢
        have HTi := Lib.hid HTi
        have HPO := Lib.hid hpo
        clear hpo
        have yL : (L : Int) ≤ (m : Int) := by omega
        have yc : (L : Int) ≤ (c : Int) := by omega
        have zL : (0 : Int) < (L : Int) := by omega
        have zL0 : (0 : Int) ≤ (L : Int) := by omega
        have zm : (0 : Int) < (m : Int) := by omega
        have c0 : c ≠ 0 := by omega
        go_wp2_with fail
        refine (HS.out _).mono ?_
        rintro e W5 ⟨rfl, hk5⟩
        have k5 := k.trans hk5
        have hown5 := ownsRow_kept hown hk5
        clear k hown hk5
        go_wp2_with fail
        refine (HTi.out _ _ k5 (by omega)).mono ?_
        rintro e W6 ⟨rfl, hk6⟩
        have k6 := k5.trans hk6
        have hown6 := ownsRow_kept hown5 hk6
        clear k5 hown5 hk6
        go_wp2_with fail
        go_ret2
        refine ⟨rfl, ?_⟩
        repeat (first | exact k6 | (refine Kept.setCell ?_ (kept_side (by have := k6.size; omega)) _) | apply Kept.alloc | apply Kept.drew)
end Go.Proofs.Ytnajihlhcdedgaa

namespace Go.Proofs.Ytnajihlhcdedgaa
open Go.RowKit
set_option linter.unusedVariables false
set_option linter.unusedSimpArgs false
attribute [local simp] blkAt_setCell blkAt_alloc blkAt_drew Obj.put_cells

theorem calm_conv {a : Act} {w : World} {o : Oper} {src dst : TypeId} {x : Operand} {v : Value} (hc : ∀ w', Kept w w' → (convert src dst (a.eval x)).run Try.prog w' = .ok v w') (ho : o.op = .convert src dst x) : calm Try.prog o a w v :=
  calm_run _ fun w' hk => by
    obtain ⟨dst', op, type, pos, after, guard⟩ := o
    simp only at ho
    subst ho
    simp [execOp, hc w' hk]
set_option maxRecDepth 100000 in
set_option maxHeartbeats 8000000 in
theorem f_Take_size (f : Int) (hV : Pure Try.prog 108 #[.int .u8 f] (.bool true)) (z : Int) (hS : Pure Try.prog 89 #[.int .u8 f] (.int .i64 z)) (a : Option Addr) (n cap : Nat) (hne : ((n : Int) != z) = true) :
    Pure Try.prog 97 #[.int .u8 f, .slice a n cap] (.tuple #[.agg #[.int .u64 0, .int .u64 0], .int .i64 9]) := fun w => by
  have HV := Lib.hid hV
  have HS := Lib.hid hS
  clear hV hS
  go_enter Try.func97, Try.ntmps97
  go_wp2_with fail
  refine abs_calls (fun W => Kept w W ∧ Blk W (w.heap.size) 28 #[.int .u64 0, .int .u64 0]) ⟨(Kept.refl w).alloc _, Blk.new _ _ _⟩ ?_
  rintro W0 ⟨k0, B0⟩
  refine (HV.out _).mono ?_
  rintro e W1 ⟨rfl, hk1⟩
  have k1 := k0.trans hk1
  have B1 := B0.kept hk1
  clear k0 B0 hk1
  go_wp2_with fail
  refine (HS.out _).mono ?_
  rintro e W2 ⟨rfl, hk2⟩
  have k2 := k1.trans hk2
  have B2 := B1.kept hk2
  clear k1 B1 hk2
  have c0 := B2.cell 0 rfl
  have c1 := B2.cell 1 rfl
  have fr := B2.free
  go_wp2_with fail
  refine bodyPost_ret (v := .tuple #[.agg #[.int .u64 0, .int .u64 0], .int .i64 9]) (by simp [results, Try.results97, go_sem, *]) rfl ⟨rfl, ?_⟩
  repeat (first | exact k2 | (refine Kept.setCell ?_ (kept_side (by first | assumption | omega)) _) | apply Kept.alloc | apply Kept.drew)
set_option maxRecDepth 100000 in
set_option maxHeartbeats 8000000 in
theorem f_Take_none (f : Int) (h1b : (f == 1) = false) (h2b : (f == 2) = false) (a : Option Addr) (n cap : Nat) :
    Pure Try.prog 97 #[.int .u8 f, .slice a n cap] (.tuple #[.agg #[.int .u64 0, .int .u64 0], .int .i64 10]) := fun w => by
  have HV := Lib.hid (f_Valid_n f h1b h2b)
  clear h1b h2b
  go_enter Try.func97, Try.ntmps97
  go_wp2_with fail
  refine abs_calls (fun W => Kept w W ∧ Blk W (w.heap.size) 28 #[.int .u64 0, .int .u64 0]) ⟨(Kept.refl w).alloc _, Blk.new _ _ _⟩ ?_
  rintro W0 ⟨k0, B0⟩
  refine (HV.out _).mono ?_
  rintro e W1 ⟨rfl, hk1⟩
  have k1 := k0.trans hk1
  have B1 := B0.kept hk1
  clear k0 B0 hk1
  have c0 := B1.cell 0 rfl
  have c1 := B1.cell 1 rfl
  have fr := B1.free
  go_wp2_with fail
  refine bodyPost_ret (v := .tuple #[.agg #[.int .u64 0, .int .u64 0], .int .i64 10]) (by simp [results, Try.results97, go_sem, *]) rfl ⟨rfl, ?_⟩
  repeat (first | exact k1 | (refine Kept.setCell ?_ (kept_side (by first | assumption | omega)) _) | apply Kept.alloc | apply Kept.drew)
end Go.Proofs.Ytnajihlhcdedgaa
