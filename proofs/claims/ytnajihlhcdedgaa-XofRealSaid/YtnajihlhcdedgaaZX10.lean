/-
  The fixed fact of chapter 7.
-/
import Derived.Test.YtnajihlhcdedgaaZX9
namespace Go.Proofs.Ytnajihlhcdedgaa
open Go.RowKit
set_option linter.unusedVariables false
set_option linter.unusedSimpArgs false
attribute [local simp] blkAt_setCell blkAt_alloc blkAt_drew Obj.put_cells

/-- The question of a tag of one letter, for use 1, no seed, bound to nothing. -/
def qOf (c : UInt8) : ByteArray := strOf (qL ⟨#[c]⟩ 1 0 (fun _ => 0) (fun _ => 0) 0)
theorem HQ_of (c : UInt8) (w : World) : Hid (∀ W, Kept w W → Calls Try.prog 129 #[.string ⟨#[c]⟩, .int .u16 1, .agg (rowF 16 (fun j => .int .u8 ((fun _ => (0 : Int)) j))), .slice none 0 0] W fun e w' => e = .returned (.string (qOf c)) ∧ Kept W w') :=
  Lib.hid fun W _ => x_question_nil W ⟨#[c]⟩ (by show 1 ≤ 255; omega) 1 1 0 (by decide) (by decide) ⟨by omega, by omega⟩ ⟨by omega, by omega⟩ _ (Lib.hid fun j _ => ⟨by omega, by omega⟩) _
theorem qab : (qOf 98 == qOf 97) = false := by kernel_rfl
theorem qaa (q : ByteArray) : (q == q) = true := (MapKept.bytes_beq q q).2 rfl
theorem qba : (qOf 97 == qOf 98) = false := by kernel_rfl
def aD (j : Nat) : Int := (j : Int) + 1
def aA (j : Nat) : Int := if j < 2 then drawn aD 3 j else drawn aD 3 (3 + (j - 2))
theorem str1 : strR 2 (fun j => aA (0 + j)) = ⟨#[1, 2]⟩ := by rfl
theorem str2 : strR 1 (fun j => (fun j => drawn aD 3 (2 + j)) (0 + j)) = ⟨#[3]⟩ := by rfl
theorem str3 : strR 3 (fun j => aA (0 + j)) = ⟨#[1, 2, 0]⟩ := by rfl
theorem aA_byte (j : Nat) : 0 ≤ aA j ∧ aA j ≤ 255 := by unfold aA drawn aD; split <;> split <;> omega
theorem aB_byte (j : Nat) : 0 ≤ drawn aD 3 (2 + j) ∧ drawn aD 3 (2 + j) ≤ 255 := by unfold drawn aD; split <;> omega
theorem zero16 : (rowF 16 fun j => Value.int .u8 ((fun _ => (0 : Int)) j)) = #[.int .u8 0, .int .u8 0, .int .u8 0, .int .u8 0, .int .u8 0, .int .u8 0, .int .u8 0, .int .u8 0, .int .u8 0, .int .u8 0, .int .u8 0, .int .u8 0, .int .u8 0, .int .u8 0, .int .u8 0, .int .u8 0] := rfl
theorem es_one (q : ByteArray) (u : Value) : esAt (#[].push { key := .string q, val := .slice none 0 0, born := 0 }) 0 q u = #[{ key := .string q, val := u, born := 0 }] := rfl
theorem es_two (q p : ByteArray) (u v : Value) : esAt (#[{ key := .string q, val := u, born := 0 }].push { key := .string p, val := .slice none 0 0, born := 1 }) 1 p v = #[{ key := .string q, val := u, born := 0 }, { key := .string p, val := v, born := 1 }] := rfl
set_option maxRecDepth 100000 in
set_option maxHeartbeats 4000000 in
theorem x_Awake : Pure Try.prog 69 #[] (.bool true) := fun w => by
  go_enter Try.func69, Try.ntmps69
  go_wp2_with fail
  refine abs_calls (fun W => Kept w W ∧ Blk W w.heap.size 5 [Value.int .u8 1, .int .u8 2, .int .u8 3].toArray) ⟨(Kept.refl w).alloc _, Blk.new _ _ _⟩ ?_
  rintro W0 ⟨k0, B0⟩
  refine (x_Oracle W0 _ 3 3 aD (by omega) (.inr ⟨⟨w.heap.size, 0, none⟩, rfl, fun j hj => ?_⟩) (fun j hj => by unfold aD; omega)).mono ?_
  · rw [add_zero_at]
    rcases (show j = 0 ∨ j = 1 ∨ j = 2 by omega) with rfl | rfl | rfl
    · exact B0.cell 0 rfl
    · exact B0.cell 1 rfl
    · exact B0.cell 2 rfl
  rintro e W1 ⟨b, M, da, dc, rfl, hM, o1, hk⟩
  have k1 := k0.trans hk
  have lMb := o1.lt
  have nwM : w.heap.size ≤ M := Nat.le_trans k0.size hM
  clear k0 hk B0 hM
  -- the first question
  have HS1 := x_Stream_new W1 b M da 3 dc aD 0 #[] 0 _ o1 ⟨#[97]⟩ (by show 1 ≤ 255; omega) 1 (fun _ => 0) (qOf 97) (HQ_of 97 W1) rfl 0 [] (by omega) (World.ownsRow_nil _ _ _ _)
  rw [zero16] at HS1
  go_wp2_with fail
  refine HS1.mono ?_
  rintro e W2 ⟨x1, av1, rfl, hx1, X1, o2, avo2, avx1, c2⟩
  have lb1 := o1.blk.lt
  have k2 : Kept w W2 := (Chg.trans (S := fun i => i = b ∨ i = M) (Chg.of_kept k1) c2 (fun i hi h => by
    rcases h with h | h | h
    · exact .inl h
    · exact .inr h
    · cases h)).kept (fun i hi h => by omega)
  have lx1 := X1.lt
  clear HS1 o1 k1
  have HN1 := x_Next_o W2 x1 b M (qOf 97) 0 0 X1 da 3 dc aD 0 _ _ _ o2 0 (.slice none 0 0) (by simp [Instr.findNow, Instr.sameNow, qaa]) W2.heap.size 0 2 aA (World.ownsRow_nil _ _ _ _) (by omega) (Nat.le_refl _) (by omega) (by omega) (by omega) (by omega) (by omega) (by omega)
    (Lib.hid fun j _ hj => by unfold aA; rw [if_pos (by omega)]; congr 1; omega) (by omega) (by omega) (by intro h; cases h)
  clear c2
  go_wp2_with fail
  refine HN1.mono ?_
  rintro e W3 ⟨v1, u1, rfl, ov1, _, o3, ou1, c3, _, hvu⟩
  rw [es_one] at o3
  have avo3 := c3.own avo2 (fun g hg h => by
    have h1 := own_lt avo2 hg
    have h2 := avx1 g hg
    rcases h with h | h | h | h
    · omega
    · omega
    · exact h2 h
    · cases h)
  have lav : ∀ g, av1.ownBlock = some g → b < g ∧ g < W2.heap.size := fun g hg => by have := own_lt avo2 hg; omega
  have lu1 : ∀ g, u1.ownBlock = some g → W2.heap.size ≤ g ∧ g < W3.heap.size := fun g hg => own_lt ou1 hg
  have lv1 : ∀ g, v1.ownBlock = some g → W2.heap.size ≤ g ∧ g < W3.heap.size := fun g hg => own_lt ov1 hg
  have k3 : Kept w W3 := (Chg.trans (S := fun i => i = b ∨ i = M ∨ i = x1) (Chg.of_kept k2) c3 (fun i hi h => by
    rcases h with h | h | h | h
    · exact .inl h
    · exact .inr (.inl h)
    · exact .inr (.inr h)
    · cases h)).kept (fun i hi h => by have := k2.size; omega)
  have lb3 := o3.blk.lt
  have sz3 := c3.size
  clear HN1 o2 k2 avo2 c3 X1
  -- the second question
  have HS2 := x_Stream_new W3 b M da 3 dc aD _ _ _ _ o3 ⟨#[98]⟩ (by show 1 ≤ 255; omega) 1 (fun _ => 0) (qOf 98) (HQ_of 98 W3) (by simp [Instr.findNow, Instr.sameNow, qab]) 1 _ (by omega) avo3
  rw [zero16] at HS2
  go_wp2_with fail
  refine HS2.mono ?_
  rintro e W4 ⟨x2, av2, rfl, hx2, X2, o4, avo4, avx2, c4⟩
  have ou4 := c4.own ou1 (fun g hg h => by
    have h1 := lu1 g hg
    rcases h with h | h | h
    · omega
    · omega
    · have := lav g h; omega)
  have ov4 := c4.own ov1 (fun g hg h => by
    have h1 := lv1 g hg
    rcases h with h | h | h
    · omega
    · omega
    · have := lav g h; omega)
  have k4 : Kept w W4 := (Chg.trans (S := fun i => i = b ∨ i = M ∨ av1.ownBlock = some i) (Chg.of_kept k3) c4 (fun i hi h => h)).kept (fun i hi h => by
    rcases h with h | h | h
    · omega
    · omega
    · have := lav i h; omega)
  have sz4 := c4.size
  clear HS2 o3 k3 c4 ou1 ov1
  have HN2 := x_Next_o W4 x2 b M (qOf 98) 0 0 X2 da 3 dc aD _ _ _ _ o4 1 (.slice none 0 0) (by simp [Instr.findNow, Instr.sameNow, qab, qaa]) W4.heap.size 0 1 (fun j => drawn aD 3 (2 + j)) (World.ownsRow_nil _ _ _ _) (by omega) (Nat.le_refl _) (by omega) (by omega) (by omega) (by omega) (by omega) (by omega)
    (Lib.hid fun j _ hj => by show drawn aD 3 (2 + j) = _; congr 1) (by omega) (by omega) (by intro h; cases h)
  go_wp2_with fail
  refine HN2.mono ?_
  rintro e W5 ⟨v2, u2, rfl, ov2, _, o5, _, c5, _, _⟩
  rw [es_two] at o5
  have ou5 := c5.own ou4 (fun g hg h => by
    have h1 := lu1 g hg
    rcases h with h | h | h | h
    · omega
    · omega
    · omega
    · cases h)
  have ov5 := c5.own ov4 (fun g hg h => by
    have h1 := lv1 g hg
    rcases h with h | h | h | h
    · omega
    · omega
    · omega
    · cases h)
  have k5 : Kept w W5 := (Chg.trans (S := fun i => i = b ∨ i = M ∨ i = x2) (Chg.of_kept k4) c5 (fun i hi h => by
    rcases h with h | h | h | h
    · exact .inl h
    · exact .inr (.inl h)
    · exact .inr (.inr h)
    · cases h)).kept (fun i hi h => by have := k4.size; omega)
  have sz5 := c5.size
  have lv2 : ∀ g, v2.ownBlock = some g → W4.heap.size ≤ g ∧ g < W5.heap.size := fun g hg => own_lt ov2 hg
  clear HN2 o4 k4 c5 ou4 ov4 X2
  -- the first question again
  have HS3 := x_Stream_old W5 b M da 3 dc aD _ _ _ _ o5 ⟨#[97]⟩ (by show 1 ≤ 255; omega) 1 (fun _ => 0) (qOf 97) (HQ_of 97 W5) u1 0 (by simp [Instr.findNow, Instr.sameNow, qaa])
  rw [zero16] at HS3
  go_wp2_with fail
  refine HS3.mono ?_
  rintro e W6 ⟨x3, rfl, hx3, X3, hk⟩
  have k6 := k5.trans hk
  have o6 := o5.kept hk
  have ou6 := ownsRow_kept ou5 hk
  have ov6 := ownsRow_kept ov5 hk
  have ow6 := ownsRow_kept ov2 hk
  have sz6 := hk.size
  clear HS3 k5 o5 ou5 ov5 ov2 hk
  have HN3 := x_Next_o W6 x3 b M (qOf 97) 0 0 X3 da 3 dc aD _ _ _ _ o6 0 u1 (by simp [Instr.findNow, Instr.sameNow, qaa]) W2.heap.size 2 3 aA ou6 (by omega) (by omega) (by omega) (by omega) (by omega) (by omega) (by omega) (by omega)
    (Lib.hid fun j h2 hj => by unfold aA; rw [if_neg (by omega)]) (by omega) (by omega) (fun h => by have := lu1 _ h; omega)
  go_wp2_with fail
  refine HN3.mono ?_
  rintro e W7 ⟨v3, u3, rfl, ov7, _, o7, _, c7, _, _⟩
  have oa := c7.own ov6 (fun g hg h => by
    have h1 := lv1 g hg
    rcases h with h | h | h | h
    · omega
    · omega
    · omega
    · have := hvu g g hg h; omega)
  have ob := c7.own ow6 (fun g hg h => by
    have h1 := lv2 g hg
    rcases h with h | h | h | h
    · omega
    · omega
    · omega
    · have := lu1 g h; omega)
  have k7 : Kept w W7 := (Chg.trans (S := fun i => i = b ∨ i = M ∨ i = x3 ∨ u1.ownBlock = some i) (Chg.of_kept k6) c7 (fun i hi h => h)).kept (fun i hi h => by
    rcases h with h | h | h | h
    · omega
    · omega
    · have := k6.size; omega
    · have := lu1 i h; omega)
  have h1 := conv_R (reads_of_own oa) (fun j _ => aA_byte _)
  have h2 := conv_R (reads_of_own ob) (fun j _ => aB_byte _)
  have h3 := conv_R (reads_of_own ov7) (fun j _ => aA_byte _)
  rw [str1] at h1
  rw [str2] at h2
  rw [str3] at h3
  clear HN3 o6 k6 c7 ou6 ov6 ow6 X3 oa ob ov7
  go_wp2_with fail
  go_ret
  exact ⟨rfl, k7⟩
end Go.Proofs.Ytnajihlhcdedgaa
