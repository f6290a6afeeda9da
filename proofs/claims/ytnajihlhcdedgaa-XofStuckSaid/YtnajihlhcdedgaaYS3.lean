/-
  Texts joined: K12 K13 K14 X4 X5 X14 X10 X15.
-/
import Derived.Test.YtnajihlhcdedgaaYS2
import Derived.IntWalk
import Derived.Deep.Cut
import Derived.Laws.MakeOwn
import Derived.Laws.CopyOwn
import Derived.RegionTactic
import Derived.Deep.RegionHeld3
import Derived.Deep.AppendLies
namespace Go.Proofs.Ytnajihlhcdedgaa
open Go.RowKit
set_option linter.unusedVariables false
set_option linter.unusedSimpArgs false
/-- The lanes behind the end. -/
def kend (s : Nat → Int) (a : Nat) (d : Int) : Nat → Int := kperm 12 (kflip (kflip (norm s a) (normA a) d) 167 128)
end Go.Proofs.Ytnajihlhcdedgaa

namespace Go.Proofs.Ytnajihlhcdedgaa
open Go.RowKit
set_option linter.unusedVariables false
set_option linter.unusedSimpArgs false
/-- The lanes and the place when i bytes are out. -/
def gives (s : Nat → Int) (a : Nat) : Nat → (Nat → Int) × Nat
  | 0 => (s, a)
  | i + 1 => (norm (gives s a i).1 (gives s a i).2, normA (gives s a i).2 + 1)
end Go.Proofs.Ytnajihlhcdedgaa

namespace Go.Proofs.Ytnajihlhcdedgaa
open Go.RowKit
set_option linter.unusedVariables false
set_option linter.unusedSimpArgs false
/-- The lanes when n bytes are in, and the end. -/
def hashS (C : Nat → Int) (n : Nat) (d : Int) : Nat → Int := kend (takes C (fun _ => 0) 0 n).1 (takes C (fun _ => 0) 0 n).2 d
/-- A nil slice. -/
theorem SlB.nil (w : World) (N : Nat) (C : Nat → Int) : SlB w none 0 0 N C := ⟨fun j hj => absurd hj (by omega), fun j hj => absurd hj (by omega)⟩
end Go.Proofs.Ytnajihlhcdedgaa

namespace Go.Proofs.Ytnajihlhcdedgaa
open Go.RowKit
set_option linter.unusedVariables false
set_option linter.unusedSimpArgs false
attribute [local simp] blkAt_setCell blkAt_alloc blkAt_drew Obj.put_cells
/-- Sponge kb stands at byte j of what the question (n bytes C) gives. -/
def RealAt (w : World) (kb : Nat) (C : Nat → Int) (n j : Nat) : Prop :=
  (j = 0 ∧ Sp w kb (takes C (fun _ => 0) 0 n).1 (takes C (fun _ => 0) 0 n).2 1 false) ∨ Sp w kb (gives (hashS C n 1) 0 j).1 (gives (hashS C n 1) 0 j).2 1 true
/-- A stream that hashes, at byte j. -/
structure RealStr (w : World) (x kb pb : Nat) (Q : ByteArray) (C : Nat → Int) (n j : Nat) (skip : Int) : Prop where
  blk : Blk w x 146 #[.pointer (some ⟨pb, 0, none⟩), .pointer (some ⟨kb, 0, none⟩), .string Q, .int .i64 0, .int .i64 skip]
  at' : RealAt w kb C n j
  ne : x ≠ kb
/-- What a question is bound to. -/
def Bnd (w : World) (sl : Option Addr) (n cap : Nat) (C : Nat → Int) : Prop := (sl = none ∧ n = 0 ∧ cap = 0) ∨ ∃ ad : Addr, sl = some ad ∧ ∀ j, j < n → w.cell? (ad.add j) = some (.int .u8 (C j))
theorem Bnd.kept {w w' : World} {sl : Option Addr} {n cap : Nat} {C : Nat → Int} (h : Bnd w sl n cap C) (k : Kept w w') : Bnd w' sl n cap C := by
  rcases h with h | ⟨ad, h1, h2⟩
  · exact .inl h
  · exact .inr ⟨ad, h1, fun j hj => k.cell (h2 j hj)⟩
end Go.Proofs.Ytnajihlhcdedgaa

namespace Go.Proofs.Ytnajihlhcdedgaa
open Go.RowKit
set_option linter.unusedVariables false
set_option linter.unusedSimpArgs false
attribute [local simp] blkAt_setCell blkAt_alloc blkAt_drew Obj.put_cells
set_option maxRecDepth 100000 in
set_option maxHeartbeats 8000000 in
theorem x_Skipped (w : World) (x : Nat) (skip : Int) (h : w.cell? ⟨x, 4, none⟩ = some (.int .i64 skip)) : Calls Try.prog 91 #[.pointer (some ⟨x, 0, none⟩)] w fun e w' => e = .returned (.int .i64 skip) ∧ Kept w w' := by
  go_enter Try.func91, Try.ntmps91
  go_wp2_with fail
  go_ret
  exact ⟨rfl, Kept.refl w⟩
theorem RealAt.lt {w : World} {kb : Nat} {C : Nat → Int} {n j : Nat} (h : RealAt w kb C n j) : kb < w.heap.size := by
  rcases h with ⟨_, h⟩ | h
  · exact h.lt
  · exact h.lt
theorem RealStr.drew {w : World} {x kb pb : Nat} {Q : ByteArray} {C : Nat → Int} {n j : Nat} {skip : Int} (h : RealStr w x kb pb Q C n j skip) : RealStr w.drew x kb pb Q C n j skip := ⟨h.blk, h.at', h.ne⟩
theorem RealAt.chg {S : Nat → Prop} {w w' : World} {kb : Nat} {C : Nat → Int} {n j : Nat} (h : RealAt w kb C n j) (k : Chg S w w') (hn : ¬ S kb) : RealAt w' kb C n j := by
  rcases h with ⟨h0, h⟩ | h
  · exact .inl ⟨h0, k.blk h hn⟩
  · exact .inr (k.blk h hn)
theorem RealStr.chg {S : Nat → Prop} {w w' : World} {x kb pb : Nat} {Q : ByteArray} {C : Nat → Int} {n j : Nat} {skip : Int} (h : RealStr w x kb pb Q C n j skip) (k : Chg S w w') (hx : ¬ S x) (hn : ¬ S kb) : RealStr w' x kb pb Q C n j skip := ⟨k.blk h.blk hx, h.at'.chg k hn, h.ne⟩
end Go.Proofs.Ytnajihlhcdedgaa

namespace Go.Proofs.Ytnajihlhcdedgaa
open Go.RowKit
set_option linter.unusedVariables false
set_option linter.unusedSimpArgs false
/-- A stream of an oracle that was asked one question, k pieces read. -/
def StO (x b M : Nat) (q : ByteArray) (da : Option Addr) (nd dc : Nat) (D : Nat → Int) (av : Value) (B0 L : Nat) (k : Nat) (s : Int) (S : Nat → Prop) (W : World) : Prop :=
  ∃ u, OStr W x b q (k * L) s ∧ Orc W b M da nd dc D (k * L) (esAt (#[].push { key := .string q, val := .slice none 0 0, born := 0 }) 0 q u) 1 av ∧ W.ownsRow B0 5 1 u (k * L) (bytesR (k * L) (drawn D nd)) ∧ B0 ≤ W.heap.size ∧
    S = (fun j => j = b ∨ j = M ∨ j = x ∨ u.ownBlock = some j)
theorem find_one (q : ByteArray) : Instr.findNow .string (.string q) (#[].push { key := .string q, val := .slice none 0 0, born := 0 } : Array MapEntry).toList 0 = some (some (0, .slice none 0 0)) := by
  simp [Instr.findNow, Instr.sameNow, (MapKept.bytes_beq q q).2 rfl]
theorem strLaw_O {x b M : Nat} {q : ByteArray} {da : Option Addr} {nd dc : Nat} {D : Nat → Int} {av : Value} {B0 L : Nat} (hL0 : 0 < L) (hL : L ≤ 16) (hMb : M < b) (hbx : b < x) (hxB : x < B0) (hnd : nd ≤ 1000000) (F KM : Nat) (hF : M < F) (hKM : (KM + 1) * L ≤ 1000000) : StrLaw F x L (drawn D nd) KM (StO x b M q da nd dc D av B0 L) where
  lt := by
    rintro k s S W ⟨u, hx, ho, hu, hB, rfl⟩ i (rfl | rfl | rfl | h)
    · exact ho.blk.lt
    · have := ho.blk.lt
      omega
    · exact hx.lt
    · exact (own_lt hu h).2
  stab := by
    rintro k s S W W' T ⟨u, hx, ho, hu, hB, rfl⟩ hk hd hT
    refine ⟨u, hk.blk hx (hd x (.inr (.inr (.inl rfl)))), ?_, hk.own hu (fun g hg => hd g (.inr (.inr (.inr hg)))), Nat.le_trans hB hk.size, rfl⟩
    exact ho.chg hk (hd b (.inl rfl)) (fun i hi h => by have := hT i h; omega)
  next := by
    rintro k s S W hkM ⟨u, hx, ho, hu, hB, rfl⟩
    have hk1 : (k + 1) * L ≤ (KM + 1) * L := Nat.mul_le_mul_right L (by omega)
    rw [Nat.succ_mul] at hk1
    have hf := esAt_find (find_one q) u
    refine (x_Next_o W x b M q (k * L) s hx da nd dc D (k * L) _ 1 av ho 0 u hf B0 (k * L) L (drawn D nd) hu (by omega) hB (by omega) hL0 (by omega) (by omega) (by omega) hnd (Lib.hid fun j h1 _ => by rw [show k * L + (j - k * L) = j by omega]) (by omega) (by omega) (fun h => by have := own_lt hu h; omega)).mono ?_
    rintro e W' ⟨v, u', rfl, hv, hx', ho', hu', hc, hloc, _⟩
    rw [esAt_esAt, show k * L + (k * L + L - k * L) = k * L + L by omega] at ho'
    refine ⟨v, _, rfl, hv, ⟨u', ?_, ?_, ?_, Nat.le_trans hB hc.size, rfl⟩, hc, fun i hi => ?_⟩
    · rw [Nat.succ_mul]
      exact hx'
    · rw [Nat.succ_mul]
      exact ho'
    · rw [Nat.succ_mul]
      exact hu'
    · rcases hi with h | h | h | h
      · exact .inl (.inl h)
      · exact .inl (.inr (.inl h))
      · exact .inl (.inr (.inr (.inl h)))
      · rcases hloc i h with h2 | h2
        · exact .inl (.inr (.inr (.inr h2)))
        · exact .inr h2
  cell := by
    rintro k s S W ⟨u, hx, _⟩
    exact hx.cell 4 rfl
  free := by
    rintro k s S W ⟨u, hx, _⟩
    exact hx.free 4
  own := by
    rintro k s S W ⟨u, _, _, _, _, rfl⟩
    exact .inr (.inr (.inl rfl))
  skip := by
    rintro k s S W ⟨u, hx, ho, hu, hB, rfl⟩
    have kc := chg_set W x 4 (.int .i64 (s + 1))
    refine ⟨u, ?_, ho.chg kc (by omega) (fun i hi h => by omega), kc.own hu (fun g hg h => by have := own_lt hu hg; omega), Nat.le_trans hB kc.size, rfl⟩
    show blkAt _ _ = _
    rw [blkAt_setCell, if_pos rfl, hx.eq]
    rfl
end Go.Proofs.Ytnajihlhcdedgaa

namespace Go.Proofs.Ytnajihlhcdedgaa
open Go.RowKit
set_option linter.unusedVariables false
set_option linter.unusedSimpArgs false
attribute [local simp] blkAt_setCell blkAt_alloc blkAt_drew Obj.put_cells
/-- The question of a tag of one letter, for use 1, no seed, bound to nothing. -/
def qOf (c : UInt8) : ByteArray := strOf (qL ⟨#[c]⟩ 1 0 (fun _ => 0) (fun _ => 0) 0)
theorem HQ_of (c : UInt8) (w : World) : Hid (∀ W, Kept w W → Calls Try.prog 129 #[.string ⟨#[c]⟩, .int .u16 1, .agg (rowF 16 (fun j => .int .u8 ((fun _ => (0 : Int)) j))), .slice none 0 0] W fun e w' => e = .returned (.string (qOf c)) ∧ Kept W w') :=
  Lib.hid fun W _ => x_question_nil W ⟨#[c]⟩ (by show 1 ≤ 255; omega) 1 1 0 (by decide) (by decide) ⟨by omega, by omega⟩ ⟨by omega, by omega⟩ _ (Lib.hid fun j _ => ⟨by omega, by omega⟩) _
theorem qab : (qOf 98 == qOf 97) = false := by kernel_rfl
theorem qaa (q : ByteArray) : (q == q) = true := (MapKept.bytes_beq q q).2 rfl
def aD (j : Nat) : Int := (j : Int) + 1
def aA (j : Nat) : Int := if j < 2 then drawn aD 3 j else drawn aD 3 (3 + (j - 2))
theorem str1 : strR 2 (fun j => aA (0 + j)) = ⟨#[1, 2]⟩ := by rfl
theorem str2 : strR 1 (fun j => (fun j => drawn aD 3 (2 + j)) (0 + j)) = ⟨#[3]⟩ := by rfl
theorem str3 : strR 3 (fun j => aA (0 + j)) = ⟨#[1, 2, 0]⟩ := by rfl
theorem aA_byte (j : Nat) : 0 ≤ aA j ∧ aA j ≤ 255 := by unfold aA drawn aD; split <;> split <;> omega
theorem aB_byte (j : Nat) : 0 ≤ drawn aD 3 (2 + j) ∧ drawn aD 3 (2 + j) ≤ 255 := by unfold drawn aD; split <;> omega
theorem zero16 : (rowF 16 fun j => Value.int .u8 ((fun _ => (0 : Int)) j)) = #[.int .u8 0, .int .u8 0, .int .u8 0, .int .u8 0, .int .u8 0, .int .u8 0, .int .u8 0, .int .u8 0, .int .u8 0, .int .u8 0, .int .u8 0, .int .u8 0, .int .u8 0, .int .u8 0, .int .u8 0, .int .u8 0] := rfl
theorem es_one (q : ByteArray) (u : Value) : esAt (#[].push { key := .string q, val := .slice none 0 0, born := 0 }) 0 q u = #[{ key := .string q, val := u, born := 0 }] := rfl
theorem es_two (q p : ByteArray) (u v : Value) : esAt (#[{ key := .string q, val := u, born := 0 }].push { key := .string p, val := .slice none 0 0, born := 1 }) 1 p v = #[{ key := .string q, val := u, born := 0 }, { key := .string p, val := v, born := 1 }] := rfl
set_option maxRecDepth 100000 in
set_option maxHeartbeats 4000000 in
theorem x_Awake : Pure Try.prog 69 #[] (.bool true) := fun w => by
  go_enter Try.func69, Try.ntmps69
  go_wp2_with fail
  refine abs_calls (fun W => Kept w W ∧ Blk W w.heap.size 5 [Value.int .u8 1, .int .u8 2, .int .u8 3].toArray) ⟨(Kept.refl w).alloc _, Blk.new _ _ _⟩ ?_
  rintro W0 ⟨k0, B0⟩
  refine (x_Oracle W0 _ 3 3 aD (by omega) (.inr ⟨⟨w.heap.size, 0, none⟩, rfl, fun j hj => ?_⟩) (fun j hj => by unfold aD; omega)).mono ?_
  · rw [add_zero_at]
    rcases (show j = 0 ∨ j = 1 ∨ j = 2 by omega) with rfl | rfl | rfl
    · exact B0.cell 0 rfl
    · exact B0.cell 1 rfl
    · exact B0.cell 2 rfl
  rintro e W1 ⟨b, M, da, dc, rfl, hM, o1, hk⟩
  have k1 := k0.trans hk
  have lMb := o1.lt
  have nwM : w.heap.size ≤ M := Nat.le_trans k0.size hM
  clear k0 hk B0 hM
  -- the first question
  have HS1 := x_Stream_new W1 b M da 3 dc aD 0 #[] 0 _ o1 ⟨#[97]⟩ (by show 1 ≤ 255; omega) 1 (fun _ => 0) (qOf 97) (HQ_of 97 W1) rfl 0 [] (by omega) (World.ownsRow_nil _ _ _ _)
  rw [zero16] at HS1
  go_wp2_with fail
  refine HS1.mono ?_
  rintro e W2 ⟨x1, av1, rfl, hx1, X1, o2, avo2, avx1, c2⟩
  have lb1 := o1.blk.lt
  have k2 : Kept w W2 := (Chg.trans (S := fun i => i = b ∨ i = M) (Chg.of_kept k1) c2 (fun i hi h => by
    rcases h with h | h | h
    · exact .inl h
    · exact .inr h
    · cases h)).kept (fun i hi h => by omega)
  have lx1 := X1.lt
  clear HS1 o1 k1
  have HN1 := x_Next_o W2 x1 b M (qOf 97) 0 0 X1 da 3 dc aD 0 _ _ _ o2 0 (.slice none 0 0) (by simp [Instr.findNow, Instr.sameNow, qaa]) W2.heap.size 0 2 aA (World.ownsRow_nil _ _ _ _) (by omega) (Nat.le_refl _) (by omega) (by omega) (by omega) (by omega) (by omega) (by omega)
    (Lib.hid fun j _ hj => by unfold aA; rw [if_pos (by omega)]; congr 1; omega) (by omega) (by omega) (by intro h; cases h)
  clear c2
  go_wp2_with fail
  refine HN1.mono ?_
  rintro e W3 ⟨v1, u1, rfl, ov1, _, o3, ou1, c3, _, hvu⟩
  rw [es_one] at o3
  have avo3 := c3.own avo2 (fun g hg h => by
    have h1 := own_lt avo2 hg
    have h2 := avx1 g hg
    rcases h with h | h | h | h
    · omega
    · omega
    · exact h2 h
    · cases h)
  have lav : ∀ g, av1.ownBlock = some g → b < g ∧ g < W2.heap.size := fun g hg => by have := own_lt avo2 hg; omega
  have lu1 : ∀ g, u1.ownBlock = some g → W2.heap.size ≤ g ∧ g < W3.heap.size := fun g hg => own_lt ou1 hg
  have lv1 : ∀ g, v1.ownBlock = some g → W2.heap.size ≤ g ∧ g < W3.heap.size := fun g hg => own_lt ov1 hg
  have k3 : Kept w W3 := (Chg.trans (S := fun i => i = b ∨ i = M ∨ i = x1) (Chg.of_kept k2) c3 (fun i hi h => by
    rcases h with h | h | h | h
    · exact .inl h
    · exact .inr (.inl h)
    · exact .inr (.inr h)
    · cases h)).kept (fun i hi h => by have := k2.size; omega)
  have lb3 := o3.blk.lt
  have sz3 := c3.size
  clear HN1 o2 k2 avo2 c3 X1
  -- the second question
  have HS2 := x_Stream_new W3 b M da 3 dc aD _ _ _ _ o3 ⟨#[98]⟩ (by show 1 ≤ 255; omega) 1 (fun _ => 0) (qOf 98) (HQ_of 98 W3) (by simp [Instr.findNow, Instr.sameNow, qab]) 1 _ (by omega) avo3
  rw [zero16] at HS2
  go_wp2_with fail
  refine HS2.mono ?_
  rintro e W4 ⟨x2, av2, rfl, hx2, X2, o4, avo4, avx2, c4⟩
  have ou4 := c4.own ou1 (fun g hg h => by
    have h1 := lu1 g hg
    rcases h with h | h | h
    · omega
    · omega
    · have := lav g h; omega)
  have ov4 := c4.own ov1 (fun g hg h => by
    have h1 := lv1 g hg
    rcases h with h | h | h
    · omega
    · omega
    · have := lav g h; omega)
  have k4 : Kept w W4 := (Chg.trans (S := fun i => i = b ∨ i = M ∨ av1.ownBlock = some i) (Chg.of_kept k3) c4 (fun i hi h => h)).kept (fun i hi h => by
    rcases h with h | h | h
    · omega
    · omega
    · have := lav i h; omega)
  have sz4 := c4.size
  clear HS2 o3 k3 c4 ou1 ov1
  have HN2 := x_Next_o W4 x2 b M (qOf 98) 0 0 X2 da 3 dc aD _ _ _ _ o4 1 (.slice none 0 0) (by simp [Instr.findNow, Instr.sameNow, qab, qaa]) W4.heap.size 0 1 (fun j => drawn aD 3 (2 + j)) (World.ownsRow_nil _ _ _ _) (by omega) (Nat.le_refl _) (by omega) (by omega) (by omega) (by omega) (by omega) (by omega)
    (Lib.hid fun j _ hj => by show drawn aD 3 (2 + j) = _; congr 1) (by omega) (by omega) (by intro h; cases h)
  go_wp2_with fail
  refine HN2.mono ?_
  rintro e W5 ⟨v2, u2, rfl, ov2, _, o5, _, c5, _, _⟩
  rw [es_two] at o5
  have ou5 := c5.own ou4 (fun g hg h => by
    have h1 := lu1 g hg
    rcases h with h | h | h | h
    · omega
    · omega
    · omega
    · cases h)
  have ov5 := c5.own ov4 (fun g hg h => by
    have h1 := lv1 g hg
    rcases h with h | h | h | h
    · omega
    · omega
    · omega
    · cases h)
  have k5 : Kept w W5 := (Chg.trans (S := fun i => i = b ∨ i = M ∨ i = x2) (Chg.of_kept k4) c5 (fun i hi h => by
    rcases h with h | h | h | h
    · exact .inl h
    · exact .inr (.inl h)
    · exact .inr (.inr h)
    · cases h)).kept (fun i hi h => by have := k4.size; omega)
  have sz5 := c5.size
  have lv2 : ∀ g, v2.ownBlock = some g → W4.heap.size ≤ g ∧ g < W5.heap.size := fun g hg => own_lt ov2 hg
  clear HN2 o4 k4 c5 ou4 ov4 X2
  -- the first question again
  have HS3 := x_Stream_old W5 b M da 3 dc aD _ _ _ _ o5 ⟨#[97]⟩ (by show 1 ≤ 255; omega) 1 (fun _ => 0) (qOf 97) (HQ_of 97 W5) u1 0 (by simp [Instr.findNow, Instr.sameNow, qaa])
  rw [zero16] at HS3
  go_wp2_with fail
  refine HS3.mono ?_
  rintro e W6 ⟨x3, rfl, hx3, X3, hk⟩
  have k6 := k5.trans hk
  have o6 := o5.kept hk
  have ou6 := ownsRow_kept ou5 hk
  have ov6 := ownsRow_kept ov5 hk
  have ow6 := ownsRow_kept ov2 hk
  have sz6 := hk.size
  clear HS3 k5 o5 ou5 ov5 ov2 hk
  have HN3 := x_Next_o W6 x3 b M (qOf 97) 0 0 X3 da 3 dc aD _ _ _ _ o6 0 u1 (by simp [Instr.findNow, Instr.sameNow, qaa]) W2.heap.size 2 3 aA ou6 (by omega) (by omega) (by omega) (by omega) (by omega) (by omega) (by omega) (by omega)
    (Lib.hid fun j h2 hj => by unfold aA; rw [if_neg (by omega)]) (by omega) (by omega) (fun h => by have := lu1 _ h; omega)
  go_wp2_with fail
  refine HN3.mono ?_
  rintro e W7 ⟨v3, u3, rfl, ov7, _, o7, _, c7, _, _⟩
  have oa := c7.own ov6 (fun g hg h => by
    have h1 := lv1 g hg
    rcases h with h | h | h | h
    · omega
    · omega
    · omega
    · have := hvu g g hg h; omega)
  have ob := c7.own ow6 (fun g hg h => by
    have h1 := lv2 g hg
    rcases h with h | h | h | h
    · omega
    · omega
    · omega
    · have := lu1 g h; omega)
  have k7 : Kept w W7 := (Chg.trans (S := fun i => i = b ∨ i = M ∨ i = x3 ∨ u1.ownBlock = some i) (Chg.of_kept k6) c7 (fun i hi h => h)).kept (fun i hi h => by
    rcases h with h | h | h | h
    · omega
    · omega
    · have := k6.size; omega
    · have := lu1 i h; omega)
  have h1 := conv_R (reads_of_own oa) (fun j _ => aA_byte _)
  have h2 := conv_R (reads_of_own ob) (fun j _ => aB_byte _)
  have h3 := conv_R (reads_of_own ov7) (fun j _ => aA_byte _)
  rw [str1] at h1
  rw [str2] at h2
  rw [str3] at h3
  clear HN3 o6 k6 c7 ou6 ov6 ow6 X3 oa ob ov7
  go_wp2_with fail
  go_ret
  exact ⟨rfl, k7⟩
end Go.Proofs.Ytnajihlhcdedgaa

namespace Go.Proofs.Ytnajihlhcdedgaa
open Go.RowKit
set_option linter.unusedVariables false
set_option linter.unusedSimpArgs false
attribute [local simp] blkAt_setCell blkAt_alloc blkAt_drew Obj.put_cells
section
variable {D : Nat → Int} {L : Nat} {f : Int} {k m : Nat}
/-- k elements, then m pieces that are none. -/
theorem ok_then (h1 : ∀ j, j < k → tk D L j < rP f) : ∀ j, j ≤ k → (okL D L f j).length = j ∧ mis D L f j = 0
  | 0, _ => ⟨rfl, rfl⟩
  | j + 1, hj => by
    have ih := ok_then h1 j (by omega)
    have e : okL D L f (j + 1) = okL D L f j ++ [tk D L j] := if_pos (h1 j (by omega))
    exact ⟨by rw [e, List.length_append, ih.1]; rfl, if_pos (h1 j (by omega))⟩
theorem ok_stay (h1 : ∀ j, j < k → tk D L j < rP f) (h2 : ∀ j, k ≤ j → j < k + m → ¬ tk D L j < rP f) : ∀ i, i ≤ m → (okL D L f (k + i)).length = k ∧ mis D L f (k + i) = i
  | 0, _ => ok_then h1 k (Nat.le_refl _)
  | i + 1, hi => by
    have ih := ok_stay h1 h2 i (by omega)
    have hn := h2 (k + i) (by omega) (by omega)
    have e : okL D L f (k + (i + 1)) = okL D L f (k + i) := if_neg hn
    have e2 : mis D L f (k + (i + 1)) = mis D L f (k + i) + 1 := if_neg hn
    exact ⟨by rw [e, ih.1], by rw [e2, ih.2]⟩
end
theorem leVal_zero : ∀ l : List Int, (∀ x ∈ l, x = 0) → leVal l = 0
  | [], _ => rfl
  | b :: l, h => by
    rw [leVal_cons, h b (by simp), leVal_zero l (fun x hx => h x (by simp [hx]))]
    rfl
theorem tk_zero {D : Nat → Int} {L k : Nat} (h : ∀ j, j < L → D (k * L + j) = 0) : tk D L k = 0 := by
  refine leVal_zero _ fun x hx => ?_
  obtain ⟨j, hj, rfl⟩ := List.mem_map.1 hx
  exact h j (List.mem_range.1 hj)
theorem piece_full {D : Nat → Int} {L k : Nat} (h : ∀ j, j < L → D (k * L + j) = 255) : pieceL D L k = List.replicate L 255 := by
  unfold pieceL
  apply List.ext_getElem?
  intro i
  rcases Nat.lt_or_ge i L with hi | hi
  · rw [List.getElem?_map, List.getElem?_range hi]
    simp [h i hi, hi]
  · simp [hi]
theorem tk_full {D : Nat → Int} {L k : Nat} {f : Int} (hf : isF f) (hL : (L : Int) = 8 * f) (h : ∀ j, j < L → D (k * L + j) = 255) : ¬ tk D L k < rP f := by
  unfold tk
  rw [piece_full h]
  rcases hf with rfl | rfl
  · obtain rfl : L = 8 := by omega
    decide
  · obtain rfl : L = 16 := by omega
    decide
/-- The draws of XofStuck. -/
def stuckD (kL : Nat) (j : Nat) : Int := if j < kL then 0 else 255
section
variable {f : Int} {L : Nat} (k m nd : Nat)
theorem stuck_lo (j : Nat) (hj : j < k) : tk (drawn (stuckD (k * L)) nd) L j < rP f := by
  rw [tk_zero fun i hi => ?_]
  · exact rP_pos f
  · have h3 : (j + 1) * L ≤ k * L := Nat.mul_le_mul_right L hj
    rw [Nat.succ_mul] at h3
    unfold drawn stuckD
    split
    · rw [if_pos (by omega)]
    · rfl
theorem stuck_mid (hf : isF f) (hL : (L : Int) = 8 * f) (hnd : nd = (k + m) * L) (j : Nat) (h1 : k ≤ j) (h2 : j < k + m) : ¬ tk (drawn (stuckD (k * L)) nd) L j < rP f := by
  refine tk_full hf hL fun i hi => ?_
  have h3 : (j + 1) * L ≤ (k + m) * L := Nat.mul_le_mul_right L h2
  have h4 : k * L ≤ j * L := Nat.mul_le_mul_right L h1
  rw [Nat.succ_mul] at h3
  unfold drawn stuckD
  rw [if_pos (by omega), if_neg (by omega)]
theorem stuck_hi (hnd : nd = (k + m) * L) : tk (drawn (stuckD (k * L)) nd) L (k + m) < rP f := by
  rw [tk_zero fun i hi => ?_]
  · exact rP_pos f
  · unfold drawn
    rw [if_neg (by omega)]
end
theorem stuck_byte (kL nd j : Nat) : isByte (drawn (stuckD kL) nd j) := by
  unfold drawn stuckD isByte
  split <;> (try split) <;> omega
/-- A stream of an oracle that was asked one question, nothing read. -/
theorem StO_start {W : World} {x b M : Nat} {q : ByteArray} {da : Option Addr} {nd dc : Nat} {D : Nat → Int} {av : Value} (L : Nat) (hx : OStr W x b q 0 0) (ho : Orc W b M da nd dc D 0 (#[].push { key := .string q, val := .slice none 0 0, born := 0 }) 1 av) :
    StO x b M q da nd dc D av W.heap.size L 0 0 (fun j => j = b ∨ j = M ∨ j = x ∨ (Value.slice none 0 0).ownBlock = some j) W :=
  ⟨.slice none 0 0, by rw [Nat.zero_mul]; exact hx, by rw [Nat.zero_mul, esAt_self (find_one q)]; exact ho, by rw [Nat.zero_mul]; exact World.ownsRow_nil _ _ _ _, Nat.le_refl _, rfl⟩
/-- Oracle, then Stream of a question: the state. -/
theorem oracle_stream (W1 : World) (b M : Nat) (da : Option Addr) (nd dc : Nat) (D : Nat → Int) (o1 : Orc W1 b M da nd dc D 0 #[] 0 (.slice none 0 0)) (c : UInt8) :
    Calls Try.prog 71 #[.pointer (some ⟨b, 0, none⟩), .string ⟨#[c]⟩, .int .u16 1, .agg #[.int .u8 0, .int .u8 0, .int .u8 0, .int .u8 0, .int .u8 0, .int .u8 0, .int .u8 0, .int .u8 0, .int .u8 0, .int .u8 0, .int .u8 0, .int .u8 0, .int .u8 0, .int .u8 0, .int .u8 0, .int .u8 0], .slice none 0 0] W1 fun e W2 =>
      ∃ x av, e = .returned (.pointer (some ⟨x, 0, none⟩)) ∧ W1.heap.size ≤ x ∧ x < W2.heap.size ∧ OStr W2 x b (qOf c) 0 0 ∧ Orc W2 b M da nd dc D 0 (#[].push { key := .string (qOf c), val := .slice none 0 0, born := 0 }) 1 av ∧ Chg (fun i => i = b ∨ i = M) W1 W2 := by
  have HS1 := x_Stream_new W1 b M da nd dc D 0 #[] 0 _ o1 ⟨#[c]⟩ (by show 1 ≤ 255; omega) 1 (fun _ => 0) (qOf c) (HQ_of c W1) rfl 0 [] (by omega) (World.ownsRow_nil _ _ _ _)
  rw [zero16] at HS1
  refine HS1.mono ?_
  rintro e W2 ⟨x1, av1, rfl, hx1, X1, o2, _, _, c2⟩
  exact ⟨x1, av1, rfl, hx1, X1.lt, X1, o2, c2.mono fun i _ h => by
    rcases h with h | h | h
    · exact .inl h
    · exact .inr h
    · cases h⟩
set_option maxRecDepth 100000 in
set_option maxHeartbeats 2000000 in
theorem xof_stuck_r (w : World) (ahead n many f : Int) (hn0 : 0 ≤ n) (hF : Pure Try.prog 77 #[.int .u8 n] (.int .u8 f)) (hf : isF f) (k m4 : Nat) (hk5 : k < 5) (hm4 : m4 < 4) (HK : Hid (ahead % 5 = (k : Int))) (HM : Hid (many % 4 = (m4 : Int))) (ha : 0 ≤ ahead ∧ ahead ≤ 255) (hma : 0 ≤ many ∧ many ≤ 255) :
    Calls Try.prog 20 #[.int .u8 ahead, .int .u8 n, .int .u8 many] w fun e w' => e = .returned (.bool true) ∧ Kept w w' := by
  have HA := Lib.hid x_Awake
  have HF := Lib.hid hF
  obtain ⟨L, hL⟩ : ∃ L : Nat, (L : Int) = 8 * f := ⟨(8 * f).toNat, by unfold isF at hf; omega⟩
  have HS0 := f_Size hf
  rw [← hL] at HS0
  have HS := Lib.hid HS0
  have hL0 : 0 < L := by unfold isF at hf; omega
  have h16 : L ≤ 16 := by unfold isF at hf; omega
  have HL := Lib.hid hL
  clear HS0 hF hL
  have hk0 := HK.out
  have hm0 := HM.out
  obtain ⟨c, hcc⟩ : ∃ c, (k + 64) * L = c := ⟨_, rfl⟩
  obtain ⟨p, hpp⟩ : ∃ p, k * L = p := ⟨_, rfl⟩
  have hpc : p ≤ c := by rw [← hcc, ← hpp]; exact Nat.mul_le_mul_right L (by omega)
  have hcb : c ≤ 68 * 16 := by rw [← hcc]; exact Nat.mul_le_mul (by omega) h16
  have hc : IntKind.i64.wrap (((k : Int) + 64) * (L : Int)) = (c : Int) := by
    have e : ((k : Int) + 64) * (L : Int) = (((k + 64) * L : Nat) : Int) := by simp
    rw [e, hcc]
    exact IntWalk.i64_in _ (by omega)
  have hkL : IntKind.i64.wrap ((k : Int) * (L : Int)) = (p : Int) := by
    have e : (k : Int) * (L : Int) = ((k * L : Nat) : Int) := by simp
    rw [e, hpp]
    exact IntWalk.i64_in _ (by omega)
  have hmk := fun w' => makefull42 c (by omega) w'
  have HCC := Lib.hid hcc
  have HPP := Lib.hid hpp
  clear hcc hpp
  go_enter Try.func20, Try.ntmps20
  go_wp2_with fail
  refine (HA.out _).mono ?_
  rintro e W1 ⟨rfl, k1⟩
  go_wp2_with fail
  refine (HF.out _).mono ?_
  rintro e W2 ⟨rfl, hk2⟩
  have k2 := k1.trans hk2
  clear k1 hk2
  go_wp2_with fail
  refine (HS.out _).mono ?_
  rintro e W3 ⟨rfl, hk3⟩
  have k3 := k2.trans hk3
  clear k2 hk3
  obtain ⟨g9, hg9⟩ : ∃ g, W3.heap.size = g := ⟨_, rfl⟩
  have nw9 : w.heap.size ≤ g9 := hg9 ▸ k3.size
  go_upto_region 6 with (fail)
  try simp only [hg9]
  refine abs_world (fun W => Kept W3 W ∧ Blk W g9 5 (rowF c (fun _ => .int .u8 0))) ⟨(Kept.refl W3).alloc _, by rw [← hg9]; exact Blk.new _ _ _⟩ ?_
  clear hg9 hmk
  rintro W4 ⟨hk, B4⟩
  have k4 := k3.trans hk
  clear k3 hk
  go_wp2_with fail
  refine (HS.out _).mono ?_
  rintro e W5 ⟨rfl, hk⟩
  have k5 := k4.trans hk
  have B5 := B4.kept hk
  clear k4 hk B4
  go_wp2_with fail
  go_loopw [10] (fun t wr => ∃ i : Nat, p ≤ i ∧ i ≤ c ∧ t = .int .i64 i ∧ Kept w wr ∧ Blk wr g9 5 (rowF c (fun j => .int .u8 (if j < p then 0 else if j < i then 255 else 0)))) (fun t _ => c - (intOf t).toNat)
  case atStart => exact ⟨p, Nat.le_refl _, hpc, rfl, k5, by rw [rowF_congr (f := fun j => Value.int .u8 (if j < p then 0 else if j < p then 255 else 0)) (g := fun _ => Value.int .u8 0) fun j _ => by split <;> rfl]; exact B5⟩
  case round =>
    clear k5 B5
    obtain ⟨i, hpi, hic, rfl, kk, B⟩ := hrel
    have zi : (0 : Int) ≤ (i : Int) := by omega
    rcases Nat.lt_or_ge i c with hlt | hge
    · have yi : (i : Int) < (c : Int) := by omega
      have ci := B.at hlt
      have fi := B.free
      go_wp2_with fail
      go_roundw
      case rel =>
        refine ⟨i + 1, by omega, by omega, by go_num, kk.setCell (kept_side nw9) _, ?_⟩
        refine B.set (g := fun j => .int .u8 (if j < p then 0 else if j < i + 1 then 255 else 0)) hlt fun j hj => ?_
        by_cases h1 : j = i
        · subst h1
          rw [if_pos rfl, if_neg (by omega), if_pos (by omega)]
        · rw [if_neg h1]
          by_cases h2 : j < p
          · rw [if_pos h2, if_pos h2]
          · rw [if_neg h2, if_neg h2]
            by_cases h3 : j < i
            · rw [if_pos h3, if_pos (by omega)]
            · rw [if_neg h3, if_neg (by omega)]
      case measure => simp [intOf]; omega
    · have yi : (c : Int) ≤ (i : Int) := by omega
      have hic2 : i = c := by omega
      subst i
      have B9 : Blk wr g9 5 (rowF c (fun j => .int .u8 (stuckD p j))) := by
        rw [rowF_congr (f := fun j => Value.int .u8 (stuckD p j)) (g := fun j => Value.int .u8 (if j < p then 0 else if j < c then 255 else 0)) fun j hj => by unfold stuckD; rw [if_pos hj]]
        exact B
      have lg9 := B9.lt
      have hsb : ∀ j, 0 ≤ stuckD p j ∧ stuckD p j ≤ 255 := fun j => by unfold stuckD; split <;> omega
      have HPL := HPP.out
      have HO := Lib.hid (x_Oracle wr (some ⟨g9, 0, none⟩) c c (stuckD p) (by omega) (.inr ⟨⟨g9, 0, none⟩, rfl, fun j hj => by rw [add_zero_at]; exact B9.at hj⟩) (fun j _ => hsb j))
      clear B hpi hic HPL
      go_wp2_with fail
      refine HO.out.mono ?_
      rintro e W6 ⟨b, M, da, dc, rfl, hM, o1, hk⟩
      have k6 := kk.trans hk
      have B96 := B9.kept hk
      have lMb := o1.lt
      have lb6 := o1.blk.lt
      have szr := kk.size
      clear kk hk B9 HO
      go_wp2_with fail
      refine (oracle_stream W6 b M da c dc (stuckD p) o1 116).mono ?_
      rintro e W7 ⟨x, av, rfl, hx, hxl, X1, o2, ch⟩
      have st0 := StO_start L X1 o2
      have hS := strLaw_O (q := qOf 116) (da := da) (dc := dc) (D := stuckD p) (av := av) hL0 h16 lMb (by omega : b < x) hxl (by omega : c ≤ 1000000) W7.heap.size 100 (by omega) (Nat.le_trans (Nat.mul_le_mul_left 101 h16) (by omega))
      have B97 := ch.blk B96 (by omega)
      have k7 : Kept w W7 := ((Chg.of_kept (S := fun i => i = b ∨ i = M) k6).trans ch fun _ _ h => h).kept (fun i hi h => by omega)
      clear k6 ch B96 o1 X1 o2
      obtain ⟨mv, hmv⟩ : ∃ mv, k + 1 + m4 = mv := ⟨_, rfl⟩
      have hwv : (k : Int) + 1 + (m4 : Int) = (mv : Int) := by omega
      have hlo := fun j hj => stuck_lo (f := f) (L := L) k c j hj
      have hmid := stuck_mid k 64 c hf HL.out HCC.out.symm
      rw [HPP.out] at hlo hmid
      have hstay := ok_stay hlo hmid
      have hthen := ok_then hlo
      have HV := Lib.hid (x_Vec_stuck W7 x f hf L HL.out (drawn (stuckD p) c) (Lib.hid (stuck_byte p c)) 100 _ W7.heap.size (Nat.le_refl _) hS _ 0 (by omega) st0 mv (k + 64) (by omega) (by omega) (by omega)
        (Lib.hid fun j hj => by
          rcases Nat.lt_or_ge j k with h | h
          · rw [(hthen j (by omega)).1]; omega
          · have := hstay (j - k) (by omega)
            rw [show k + (j - k) = j by omega] at this
            rw [this.1]; omega)
        (Lib.hid fun j hj => by
          rcases Nat.lt_or_ge j k with h | h
          · rw [(hthen j (by omega)).2]; omega
          · have := hstay (j - k) (by omega)
            rw [show k + (j - k) = j by omega] at this
            rw [this.2]; omega) (hstay 64 (Nat.le_refl _)).2 (by omega))
      clear hlo hmid
      go_wp2_with fail
      refine HV.out.mono ?_
      rintro e W8 ⟨S8, rfl, st8, ch8, _⟩
      have hl64 := (hstay 64 (Nat.le_refl _)).1
      have e64 : (0 : Int) + ((k + 64 - (okL (drawn (stuckD p) c) L f (k + 64)).length : Nat) : Int) = 64 := by rw [hl64]; omega
      rw [e64] at st8
      have cx := hS.cell _ _ _ _ st8
      have B98 := ch8.blk B97 (by rintro (h | h | h | h); omega; omega; omega; cases h)
      have k8 : Kept w W8 := ((Chg.of_kept (S := fun j => j = b ∨ j = M ∨ j = x ∨ (Value.slice none 0 0).ownBlock = some j) k7).trans ch8 fun _ _ h => h).kept (fun i hi h => by
        rcases h with h | h | h | h
        · omega
        · omega
        · omega
        · cases h)
      have sz78 := ch8.size
      clear k7 ch8 B97 HV hS st0 st8 hstay hthen e64 hl64 hwv
      obtain ⟨c2, hc2⟩ : ∃ c2, (k + 63) * L = c2 := ⟨_, rfl⟩
      have hcc2 : c2 + L = c := by
        rw [← HCC.out, ← hc2]
        exact (Nat.succ_mul (k + 63) L).symm
      have HC2 := Lib.hid hc2
      have hsub : IntKind.i64.wrap ((c : Int) - (L : Int)) = (c2 : Int) := by rw [IntWalk.i64_in _ (by omega)]; omega
      have y1 : (c2 : Int) ≤ (c : Int) := by omega
      have y2 : (0 : Int) ≤ (c2 : Int) := by omega
      have y3 : c ≠ 0 := by omega
      clear hc2
      go_wp2_with fail
      refine (HS.out _).mono ?_
      rintro e W9 ⟨rfl, hk9⟩
      have k9 := k8.trans hk9
      have kx9 : Kept W8 W9 := hk9
      have B99 := B98.kept hk9
      have sz89 := hk9.size
      have HO := Lib.hid (x_Oracle W9 (some ⟨g9, 0, none⟩) c2 c (stuckD p) (by omega) (.inr ⟨⟨g9, 0, none⟩, rfl, fun j hj => by rw [add_zero_at]; exact B99.at (by omega)⟩) (fun j _ => hsb j))
      clear k8 hk9 B98
      go_wp2_with fail
      refine HO.out.mono ?_
      rintro e W10 ⟨b2, M2, da2, dc2, rfl, hM2, o3, hk⟩
      have k10 := k9.trans hk
      have kx10 := kx9.trans hk
      have lMb2 := o3.lt
      have lb10 := o3.blk.lt
      clear k9 kx9 hk HO B99
      go_wp2_with fail
      refine (oracle_stream W10 b2 M2 da2 c2 dc2 (stuckD p) o3 116).mono ?_
      rintro e W11 ⟨x2, av2, rfl, hx2, hxl2, X3, o4, ch⟩
      have st1 := StO_start L X3 o4
      have hS2 := strLaw_O (q := qOf 116) (da := da2) (dc := dc2) (D := stuckD p) (av := av2) hL0 h16 lMb2 (by omega : b2 < x2) hxl2 (by omega : c2 ≤ 1000000) W11.heap.size 100 (by omega) (Nat.le_trans (Nat.mul_le_mul_left 101 h16) (by omega))
      have k11 : Kept w W11 := ((Chg.of_kept (S := fun i => i = b2 ∨ i = M2) k10).trans ch fun _ _ h => h).kept (fun i hi h => by omega)
      have kx11 : Kept W8 W11 := ((Chg.of_kept (S := fun i => i = b2 ∨ i = M2) kx10).trans ch fun _ _ h => h).kept (fun i hi h => by omega)
      have sz11 := ch.size
      clear k10 kx10 ch o3 X3 o4
      have hlo := fun j hj => stuck_lo (f := f) (L := L) k c2 j hj
      have hmid := stuck_mid k 63 c2 hf HL.out HC2.out.symm
      have hhi := stuck_hi (f := f) (L := L) k 63 c2 HC2.out.symm
      rw [HPP.out] at hlo hmid hhi
      have hstay := ok_stay hlo hmid
      have hthen := ok_then hlo
      have hlast : (okL (drawn (stuckD p) c2) L f (k + 64)).length = k + 1 := by
        have e : okL (drawn (stuckD p) c2) L f (k + 63 + 1) = okL (drawn (stuckD p) c2) L f (k + 63) ++ [tk (drawn (stuckD p) c2) L (k + 63)] := if_pos hhi
        rw [show k + 64 = k + 63 + 1 by omega, e, List.length_append, (hstay 63 (Nat.le_refl _)).1]
        rfl
      have hmis : mis (drawn (stuckD p) c2) L f (k + 64) = 0 := if_pos hhi
      obtain ⟨mw, hmw⟩ : ∃ mw, k + 1 = mw := ⟨_, rfl⟩
      have hww : (k : Int) + 1 = (mw : Int) := by omega
      have HV := Lib.hid (x_Vec_ok W11 x2 f hf L HL.out (drawn (stuckD p) c2) (Lib.hid (stuck_byte p c2)) 100 _ W11.heap.size (Nat.le_refl _) hS2 _ 0 (by omega) st1 mw (k + 64) (by omega) (by omega) (by omega)
        (Lib.hid fun j hj => by
          rcases Nat.lt_or_ge j k with h | h
          · rw [(hthen j (by omega)).1]; omega
          · have := hstay (j - k) (by omega)
            rw [show k + (j - k) = j by omega] at this
            rw [this.1]; omega)
        (Lib.hid fun j hj => by
          rcases Nat.lt_or_ge j k with h | h
          · rw [(hthen j (by omega)).2]; omega
          · rcases Nat.eq_or_lt_of_le hj with h2 | h2
            · rw [h2, hmis]; omega
            · have := hstay (j - k) (by omega)
              rw [show k + (j - k) = j by omega] at this
              rw [this.2]; omega) (hlast.trans hmw))
      clear hlo hmid hhi hstay hthen hmis
      go_wp2_with fail
      refine HV.out.mono ?_
      rintro e W12 ⟨v12, S12, rfl, own12, _, st12, ch12, _⟩
      have e63 : (0 : Int) + ((k + 64 - (okL (drawn (stuckD p) c2) L f (k + 64)).length : Nat) : Int) = 63 := by rw [hlast]; omega
      rw [e63] at st12
      have cx2 := hS2.cell _ _ _ _ st12
      have hn12 : ∀ i, i < W11.heap.size → i < W8.heap.size → ¬ (i = b2 ∨ i = M2 ∨ i = x2 ∨ (Value.slice none 0 0).ownBlock = some i) := fun i _ hi h => by
        rcases h with h | h | h | h
        · omega
        · omega
        · omega
        · cases h
      have k12 : Kept w W12 := ((Chg.of_kept k11).trans ch12 fun _ _ h => h).kept (fun i hi h => hn12 i (by have := k11.size; omega) (by omega) h)
      have kx12 : Kept W8 W12 := ((Chg.of_kept kx11).trans ch12 fun _ _ h => h).kept (fun i hi h => hn12 i (by omega) hi h)
      have cx12 := kx12.cell cx
      obtain ⟨va, vc, rfl⟩ := own_form28 own12
      clear k11 kx11 ch12 HV hS2 st1 st12 own12 kx12 cx e63 hlast
      go_wp2_with fail
      refine (x_Skipped W12 x 64 cx12).mono ?_
      rintro e W13 ⟨rfl, hk⟩
      have k13 := k12.trans hk
      have cx13 := hk.cell cx2
      clear k12 hk cx12 cx2
      go_wp2_with fail
      refine (x_Skipped W13 x2 63 cx13).mono ?_
      rintro e W14 ⟨rfl, hk⟩
      have k14 := k13.trans hk
      clear k13 hk cx13
      go_wp2_with fail
      go_ret
      exact ⟨rfl, k14⟩
theorem xofStuck_walk (ahead : Int) (wa : (Lit.int .u8 ahead).wf = true) (n : Int) (wn : (Lit.int .u8 n).wf = true) (many : Int) (wm : (Lit.int .u8 many).wf = true) (w : World) :
    Calls Try.prog 20 #[.int .u8 ahead, .int .u8 n, .int .u8 many] w fun e w' => e = .returned (.bool true) ∧ Kept w w' := by
  simp [Lit.wf, IntKind.min, IntKind.max, IntKind.signed, IntKind.bits] at wa wn wm
  have hF := f_F (n := n) (by omega) (by omega)
  have hf := isF_fOf (n := n) (by omega)
  exact xof_stuck_r w ahead n many (fOf n) (by omega) hF hf (ahead % 5).toNat (many % 4).toNat (by omega) (by omega) (Lib.hid (by omega)) (Lib.hid (by omega)) (by omega) (by omega)
end Go.Proofs.Ytnajihlhcdedgaa
