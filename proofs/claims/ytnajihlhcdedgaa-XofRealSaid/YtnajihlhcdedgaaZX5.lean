/-
  Streams: what is none; Next, Seed, Asked, Skipped of those that hash.
-/
import Derived.Test.YtnajihlhcdedgaaZX4
import Derived.Deep.RegionHeld3
import Derived.Deep.AppendLies
namespace Go.Proofs.Ytnajihlhcdedgaa
open Go.RowKit
set_option linter.unusedVariables false
set_option linter.unusedSimpArgs false
attribute [local simp] blkAt_setCell blkAt_alloc blkAt_drew Obj.put_cells

set_option maxRecDepth 100000 in
set_option maxHeartbeats 8000000 in
theorem x_Next_nil (many : Int) : Pure Try.prog 72 #[.pointer none, .int .i64 many] (.slice none 0 0) := fun w => by
  go_enter Try.func72, Try.ntmps72
  go_wp2_with fail
  go_ret
  exact ⟨rfl, Kept.refl w⟩
set_option maxRecDepth 100000 in
set_option maxHeartbeats 8000000 in
theorem x_Next_neg (x : Nat) (many : Int) (h : many < 0) : Pure Try.prog 72 #[.pointer (some ⟨x, 0, none⟩), .int .i64 many] (.slice none 0 0) := fun w => by
  go_enter Try.func72, Try.ntmps72
  go_wp2_with fail
  go_ret
  exact ⟨rfl, Kept.refl w⟩
set_option maxRecDepth 100000 in
set_option maxHeartbeats 8000000 in
theorem x_Next_big (x : Nat) (many : Int) (h : 65536 < many) : Pure Try.prog 72 #[.pointer (some ⟨x, 0, none⟩), .int .i64 many] (.slice none 0 0) := fun w => by
  have n1 : decide (many < 0) = false := decide_eq_false (by omega)
  go_enter Try.func72, Try.ntmps72
  go_wp2_with fail
  go_ret
  exact ⟨rfl, Kept.refl w⟩
set_option maxRecDepth 100000 in
set_option maxHeartbeats 8000000 in
theorem x_Next_real (w : World) (x kb pb : Nat) (Q : ByteArray) (C : Nat → Int) (n j : Nat) (skip : Int) (h : RealStr w x kb pb Q C n j skip) (many : Nat) (hm : many ≤ 65536) :
    Calls Try.prog 72 #[.pointer (some ⟨x, 0, none⟩), .int .i64 (many : Int)] w fun e w' => ∃ v, e = .returned v ∧ Touch kb w w' ∧ RealStr w' x kb pb Q C n (j + many) skip ∧ w'.ownsRow w.heap.size 5 1 v many (bytesR many fun i => strm C n (j + i)) := by
  have zm : (0 : Int) ≤ (many : Int) := by omega
  have ym : (many : Int) ≤ 65536 := by omega
  have c1 := h.blk.cell 1 rfl
  have HR := Lib.hid (k_ReadAt w kb C n j many hm h.at')
  go_enter Try.func72, Try.ntmps72
  go_wp2_with fail
  refine (HR.out).mono ?_
  rintro e W1 ⟨v, rfl, k, hat, hown⟩
  clear c1
  go_wp2_with fail
  go_ret
  exact ⟨v, rfl, k, ⟨(Chg.of_touch (S := fun i => i = kb) k rfl).blk h.blk h.ne, hat, h.ne⟩, hown⟩

theorem x_Skipped_nil : Pure Try.prog 91 #[.pointer none] (.int .i64 0) := fun w => by
  go_enter Try.func91, Try.ntmps91
  go_wp2_with fail
  go_ret
  exact ⟨rfl, Kept.refl w⟩
set_option maxRecDepth 100000 in
set_option maxHeartbeats 8000000 in
theorem x_Skipped (w : World) (x : Nat) (skip : Int) (h : w.cell? ⟨x, 4, none⟩ = some (.int .i64 skip)) : Calls Try.prog 91 #[.pointer (some ⟨x, 0, none⟩)] w fun e w' => e = .returned (.int .i64 skip) ∧ Kept w w' := by
  go_enter Try.func91, Try.ntmps91
  go_wp2_with fail
  go_ret
  exact ⟨rfl, Kept.refl w⟩

set_option maxRecDepth 100000 in
set_option maxHeartbeats 8000000 in
theorem x_Stream_nobody (T : ByteArray) (U : Int) (S : Nat → Int) (sl : Option Addr) (n cap : Nat) : Pure Try.prog 71 #[.pointer none, .string T, .int .u16 U, .agg (rowF 16 (fun j => .int .u8 (S j))), .slice sl n cap] (.pointer none) := fun w => by
  obtain ⟨g8, hg8⟩ : ∃ g, w.heap.size = g := ⟨_, rfl⟩
  have nw8 : w.heap.size ≤ g8 := by omega
  go_enter Try.func71, Try.ntmps71
  go_upto_region 1 with (fail)
  try simp only [hg8]
  refine abs_world (fun W => Kept w W) ?_ ?_
  · repeat (first | exact Kept.refl _ | (refine Kept.setCell ?_ (kept_side (by first | assumption | omega)) _) | apply Kept.alloc | apply Kept.drew)
  rintro W1 k1
  go_wp2_with fail
  go_ret
  exact ⟨rfl, k1⟩
set_option maxRecDepth 100000 in
set_option maxHeartbeats 8000000 in
theorem x_Stream_tag (pb : Nat) (T : ByteArray) (hT : (255 : Int) < (T.size : Int)) (U : Int) (S : Nat → Int) (sl : Option Addr) (n cap : Nat) : Pure Try.prog 71 #[.pointer (some ⟨pb, 0, none⟩), .string T, .int .u16 U, .agg (rowF 16 (fun j => .int .u8 (S j))), .slice sl n cap] (.pointer none) := fun w => by
  obtain ⟨g8, hg8⟩ : ∃ g, w.heap.size = g := ⟨_, rfl⟩
  have nw8 : w.heap.size ≤ g8 := by omega
  go_enter Try.func71, Try.ntmps71
  go_upto_region 1 with (fail)
  try simp only [hg8]
  refine abs_world (fun W => Kept w W) ?_ ?_
  · repeat (first | exact Kept.refl _ | (refine Kept.setCell ?_ (kept_side (by first | assumption | omega)) _) | apply Kept.alloc | apply Kept.drew)
  rintro W1 k1
  go_wp2_with fail
  go_ret
  exact ⟨rfl, k1⟩
set_option maxRecDepth 100000 in
set_option maxHeartbeats 8000000 in
theorem x_Stream_long (pb : Nat) (T : ByteArray) (hT : (T.size : Int) ≤ 255) (U : Int) (S : Nat → Int) (sl : Option Addr) (n cap : Nat) (hn : (65536 : Int) < (n : Int)) : Pure Try.prog 71 #[.pointer (some ⟨pb, 0, none⟩), .string T, .int .u16 U, .agg (rowF 16 (fun j => .int .u8 (S j))), .slice sl n cap] (.pointer none) := fun w => by
  obtain ⟨g8, hg8⟩ : ∃ g, w.heap.size = g := ⟨_, rfl⟩
  have nw8 : w.heap.size ≤ g8 := by omega
  go_enter Try.func71, Try.ntmps71
  go_upto_region 1 with (fail)
  try simp only [hg8]
  refine abs_world (fun W => Kept w W) ?_ ?_
  · repeat (first | exact Kept.refl _ | (refine Kept.setCell ?_ (kept_side (by first | assumption | omega)) _) | apply Kept.alloc | apply Kept.drew)
  rintro W1 k1
  go_wp2_with fail
  go_ret
  exact ⟨rfl, k1⟩

set_option maxRecDepth 100000 in
set_option maxHeartbeats 8000000 in
theorem x_Asked_nobody : Pure Try.prog 75 #[.pointer none] (.tuple #[.slice none 0 0, .int .i64 0]) := fun w => by
  go_enter Try.func75, Try.ntmps75
  go_wp2_with fail
  go_ret2
  exact ⟨rfl, Kept.refl w⟩
set_option maxRecDepth 100000 in
set_option maxHeartbeats 8000000 in
theorem x_Asked_real (w : World) (b : Nat) (h : RealSrc w b) : Calls Try.prog 75 #[.pointer (some ⟨b, 0, none⟩)] w fun e w' => ∃ a c, e = .returned (.tuple #[.slice a 0 c, .int .i64 0]) ∧ Kept w w' := by
  have c2 := h.cell 2 rfl
  have c4 := h.cell 4 rfl
  have hlt := h.lt
  go_enter Try.func75, Try.ntmps75
  go_upto_region 3 with (fail)
  go_region_held3 (fun w' => w'.cell? ⟨b, 2, none⟩ = some (.int .i64 0) ∧ w'.cell? ⟨b, 4, none⟩ = some (.slice none 0 0)) (go_keep) (fail)
  go_wp2_with fail
  go_ret2
  exact ⟨_, _, rfl, ((Kept.refl w).alloc _).drew⟩
theorem RealAt.lt {w : World} {kb : Nat} {C : Nat → Int} {n j : Nat} (h : RealAt w kb C n j) : kb < w.heap.size := by
  rcases h with ⟨_, h⟩ | h
  · exact h.lt
  · exact h.lt
theorem RealStr.drew {w : World} {x kb pb : Nat} {Q : ByteArray} {C : Nat → Int} {n j : Nat} {skip : Int} (h : RealStr w x kb pb Q C n j skip) : RealStr w.drew x kb pb Q C n j skip := ⟨h.blk, h.at', h.ne⟩
theorem RealAt.chg {S : Nat → Prop} {w w' : World} {kb : Nat} {C : Nat → Int} {n j : Nat} (h : RealAt w kb C n j) (k : Chg S w w') (hn : ¬ S kb) : RealAt w' kb C n j := by
  rcases h with ⟨h0, h⟩ | h
  · exact .inl ⟨h0, k.blk h hn⟩
  · exact .inr (k.blk h hn)
theorem RealStr.chg {S : Nat → Prop} {w w' : World} {x kb pb : Nat} {Q : ByteArray} {C : Nat → Int} {n j : Nat} {skip : Int} (h : RealStr w x kb pb Q C n j skip) (k : Chg S w w') (hx : ¬ S x) (hn : ¬ S kb) : RealStr w' x kb pb Q C n j skip := ⟨k.blk h.blk hx, h.at'.chg k hn, h.ne⟩
theorem Chg.touch {b : Nat} {w w' : World} (h : Chg (fun i => i = b) w w') : Touch b w w' := ⟨h.os, h.tape, h.output, h.size, fun i hi hn => h.block i hi hn⟩
theorem Chg.setRow {S : Nat → Prop} {w w' : World} (h : Chg S w w') {g : Nat} (hg : S g ∨ w.heap.size ≤ g) (cs : Array Value) : Chg S w (w'.setRow g cs) := by
  have k := Touch.setRow g w' cs
  refine ⟨k.os.trans h.os, k.tape.trans h.tape, k.output.trans h.output, Nat.le_trans h.size k.size, fun j hj hn => (k.block j (Nat.lt_of_lt_of_le hj h.size) fun he => ?_).trans (h.block j hj hn)⟩
  subst he
  rcases hg with hb | hb
  · exact hn hb
  · omega
theorem chg_setRow (w : World) (g : Nat) (cs : Array Value) : Chg (fun i => i = g) w (w.setRow g cs) := (Chg.refl (fun i => i = g) w).setRow (.inl rfl) cs
theorem copy16 {w : World} {g : Nat} {f : Nat → Value} (B : Blk w g 77 (rowF 16 f)) {v : Value} {C : Nat → Int} (h : Reads w v (bytesR 16 C)) :
    (Builtin.copy_ #[42, 42] 3 #[.slice (some ⟨g, 0, none⟩) 16 16, v]).run Try.prog w = .ok (.int .i64 16) (w.setRow g (rowF 16 fun i => .int .u8 (C i))) := by
  have hl : (bytesR 16 C).length = 16 := by simp [bytesR]
  rcases h with ⟨_, h0⟩ | ⟨b, o, cap, rfl, hc, hcl⟩
  · rw [h0] at hl
    cases hl
  · rw [hl]
    have hr := run_copy_row (P := Try.prog) w 42 42 3 5 g 0 16 16 ⟨b, o, none⟩ 16 cap _ 77 (bytesR 16 C) Try.underlying42 size5 B.heap (by rw [hl]; rfl) (fun j u hj => by rw [Addr.add_lit]; exact hcl j u hj) (by rw [hl, rowF_size]; exact Nat.le_refl _) (by
      intro u hu
      obtain ⟨c, _, rfl⟩ := List.mem_map.1 hu
      rfl)
    rw [hr, hl]
    rfl
set_option maxRecDepth 100000 in
set_option maxHeartbeats 8000000 in
theorem x_Seed_real (w : World) (x kb pb : Nat) (Q : ByteArray) (C : Nat → Int) (n j : Nat) (skip : Int) (h : RealStr w x kb pb Q C n j skip) :
    Calls Try.prog 131 #[.pointer (some ⟨x, 0, none⟩)] w fun e w' => e = .returned (.agg (rowF 16 fun i => .int .u8 (strm C n (j + i)))) ∧ Touch kb w w' ∧ RealStr w' x kb pb Q C n (j + 16) skip := by
  obtain ⟨g2, hg2⟩ : ∃ g, w.heap.size = g := ⟨_, rfl⟩
  obtain ⟨g3, hg3⟩ : ∃ g, g2 + 1 = g := ⟨_, rfl⟩
  have nw2 : w.heap.size ≤ g2 := by omega
  have nw3 : w.heap.size ≤ g3 := by omega
  have ne23 : g2 ≠ g3 := by omega
  have ne32 : g3 ≠ g2 := by omega
  go_enter Try.func131, Try.ntmps131
  go_upto_region 2 with (fail)
  try simp only [hg2, hg3]
  refine abs_world (fun W => Kept w W ∧ Blk W g2 77 (rowF 16 fun _ => .int .u8 0) ∧ Blk W g3 77 (rowF 16 fun _ => .int .u8 0)) ⟨?_, ?_, ?_⟩ ?_
  · repeat (first | exact Kept.refl _ | (refine Kept.setCell ?_ (kept_side (by first | assumption | omega)) _) | apply Kept.alloc | apply Kept.drew)
  · simp [Blk, rowF, *] <;> first | rfl | omega
  · simp [Blk, rowF, *] <;> first | rfl | omega
  clear hg2 hg3
  rintro W1 ⟨k1, B2, B3⟩
  have h1 : RealStr W1 x kb pb Q C n j skip := ⟨h.blk.kept k1, by rcases h.at' with ⟨h0, hb⟩ | hb; exact .inl ⟨h0, hb.kept k1⟩; exact .inr (hb.kept k1), h.ne⟩
  have n2 : g2 ≠ kb := by have := h.at'.lt; omega
  have n3 : g3 ≠ kb := by have := h.at'.lt; omega
  go_region_with (first | (go_at_call 72; refine (x_Next_real _ x kb pb Q C n j skip h1.drew 16 (by omega)).mono ?_; rintro e W2 ⟨v, rfl, kt, h2, hown⟩; have B32 := (Chg.of_touch (S := fun i => i = kb) kt rfl).blk B3.drew n3; have B22 := (Chg.of_touch (S := fun i => i = kb) kt rfl).blk B2.drew n2; have hcp := copy16 B32 (reads_of_own hown)))
  have B33 := B32.setRow (rowF 16 fun i => .int .u8 (strm C n (j + i)))
  have B23 := B22.setRow_other ne32 (rowF 16 fun i => .int .u8 (strm C n (j + i)))
  clear hcp hown B22 B32
  go_wp2_with (first | (refine wpList_load_part 77 (.tmp 3) B33 (Nat.le_refl _) Try.underlying77 size77 rfl rfl rfl ?_) | (refine wpList_store_part 77 (.tmp 2) (.tmp 8) B23 (Nat.le_refl _) size77 (fun i => rfl) rfl rfl rfl rfl ?_))
  have B24 := B23.setRow (rowF 16 fun i => if i < 16 then Value.int .u8 (strm C n (j + i)) else Value.int .u8 0)
  rw [rowF_congr (f := fun i => if i < 16 then Value.int .u8 (strm C n (j + i)) else Value.int .u8 0) (g := fun i => Value.int .u8 (strm C n (j + i))) fun i hi => if_pos hi] at B24 ⊢
  have hload := run_loadVar_part (P := Try.prog) _ g2 77 77 _ B24 (Nat.le_refl _) Try.underlying77 size77
  have kk : Chg (fun i => i = kb) w W2 := (Chg.of_kept k1.drew).trans (Chg.of_touch (S := fun i => i = kb) kt rfl) fun i _ h => h
  have lx := h.blk.lt
  simp only [Act.put, List.setIfInBounds_toArray, List.set_cons_zero, List.set_cons_succ]
  have lk := h.at'.lt
  refine bodyPost_ret (v := .agg (rowF 16 fun i => .int .u8 (strm C n (j + i)))) (by simp [results, Try.results131, asAddr, hload]) rfl ⟨rfl, ((kk.setRow (.inr nw3) _).setRow (.inr nw2) _).touch, (h2.chg (chg_setRow _ g3 _) (by omega) (by omega)).chg (chg_setRow _ g2 _) (by omega) (by omega)⟩
set_option maxRecDepth 100000 in
set_option maxHeartbeats 8000000 in
theorem x_SourceSeed (w : World) (pb : Nat) (T : ByteArray) (U : Int) (S : Nat → Int) (sl : Option Addr) (n cap : Nat) (C' : Nat → Int) (n' : Nat) (Q : ByteArray)
    (HSt : Hid (∀ W, Kept w W → Calls Try.prog 71 #[.pointer (some ⟨pb, 0, none⟩), .string T, .int .u16 U, .agg (rowF 16 (fun j => .int .u8 (S j))), .slice sl n cap] W fun e w' => ∃ x kb, e = .returned (.pointer (some ⟨x, 0, none⟩)) ∧ W.heap.size ≤ x ∧ W.heap.size ≤ kb ∧ Kept W w' ∧ RealStr w' x kb pb Q C' n' 0 0)) :
    Calls Try.prog 74 #[.pointer (some ⟨pb, 0, none⟩), .string T, .int .u16 U, .agg (rowF 16 (fun j => .int .u8 (S j))), .slice sl n cap] w fun e w' => e = .returned (.agg (rowF 16 fun i => .int .u8 (strm C' n' i))) ∧ Kept w w' := by
  obtain ⟨g8, hg8⟩ : ∃ g, w.heap.size = g := ⟨_, rfl⟩
  obtain ⟨g10, hg10⟩ : ∃ g, g8 + 1 = g := ⟨_, rfl⟩
  have nw8 : w.heap.size ≤ g8 := by omega
  have nw10 : w.heap.size ≤ g10 := by omega
  go_enter Try.func74, Try.ntmps74
  go_upto_region 1 with (fail)
  try simp only [hg8, hg10]
  refine abs_world (fun W => Kept w W ∧ Blk W g8 77 (rowF 16 fun j => .int .u8 (S j)) ∧ Blk W g10 77 (rowF 16 fun _ => .int .u8 0)) ⟨?_, ?_, ?_⟩ ?_
  · repeat (first | exact Kept.refl _ | (refine Kept.setCell ?_ (kept_side (by first | assumption | omega)) _) | apply Kept.alloc | apply Kept.drew)
  · simp [Blk, rowF, *] <;> first | rfl | omega
  · simp [Blk, rowF, *] <;> first | rfl | omega
  clear hg8 hg10
  rintro W1 ⟨k1, B8, B10⟩
  go_wp2_with (refine wpList_load_part 77 (.tmp 8) B8 (Nat.le_refl _) Try.underlying77 size77 rfl rfl rfl ?_)
  refine (HSt.out _ k1).mono ?_
  rintro e W2 ⟨x, kb, rfl, hx, hkb, hk, hs⟩
  have k2 := k1.trans hk
  have B12 := B10.kept hk
  have ne10 : g10 ≠ kb := by have := B10.lt; omega
  have nkw : w.heap.size ≤ kb := Nat.le_trans k1.size hkb
  clear k1 hk B8 B10
  go_wp2_with fail
  refine (x_Seed_real _ x kb pb Q C' n' 0 0 hs).mono ?_
  rintro e W3 ⟨rfl, kt, _⟩
  have k3 := kt.kept k2 nkw
  have B13 := (Chg.of_touch (S := fun i => i = kb) kt rfl).blk B12 ne10
  clear k2 kt B12
  simp only [Nat.zero_add]
  go_wp2_with (refine wpList_store_part 77 (.tmp 10) (.tmp 17) B13 (Nat.le_refl _) size77 (fun i => rfl) rfl rfl rfl rfl ?_)
  have B14 := B13.setRow (rowF 16 fun i => if i < 16 then Value.int .u8 (strm C' n' i) else Value.int .u8 0)
  rw [rowF_congr (f := fun i => if i < 16 then Value.int .u8 (strm C' n' i) else Value.int .u8 0) (g := fun i => Value.int .u8 (strm C' n' i)) fun i hi => if_pos hi] at B14 ⊢
  have hload := run_loadVar_part (P := Try.prog) _ g10 77 77 _ B14 (Nat.le_refl _) Try.underlying77 size77
  simp only [Act.put, List.setIfInBounds_toArray, List.set_cons_zero, List.set_cons_succ]
  refine bodyPost_ret (v := .agg (rowF 16 fun i => .int .u8 (strm C' n' i))) (by simp [results, Try.results74, asAddr, hload]) rfl ⟨rfl, k3.setRow nw10 _⟩
end Go.Proofs.Ytnajihlhcdedgaa
