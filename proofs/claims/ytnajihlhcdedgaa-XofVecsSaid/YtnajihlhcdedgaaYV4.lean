/-
  Texts joined: X10 X15 X16 FV4 X17.
-/
import Derived.Test.YtnajihlhcdedgaaYV3
import Derived.Deep.RegionLaw
namespace Go.Proofs.Ytnajihlhcdedgaa
open Go.RowKit
set_option linter.unusedVariables false
set_option linter.unusedSimpArgs false
attribute [local simp] blkAt_setCell blkAt_alloc blkAt_drew Obj.put_cells
/-- The question of a tag of one letter, for use 1, no seed, bound to nothing. -/
def qOf (c : UInt8) : ByteArray := strOf (qL ⟨#[c]⟩ 1 0 (fun _ => 0) (fun _ => 0) 0)
theorem HQ_of (c : UInt8) (w : World) : Hid (∀ W, Kept w W → Calls Try.prog 129 #[.string ⟨#[c]⟩, .int .u16 1, .agg (rowF 16 (fun j => .int .u8 ((fun _ => (0 : Int)) j))), .slice none 0 0] W fun e w' => e = .returned (.string (qOf c)) ∧ Kept W w') :=
  Lib.hid fun W _ => x_question_nil W ⟨#[c]⟩ (by show 1 ≤ 255; omega) 1 1 0 (by decide) (by decide) ⟨by omega, by omega⟩ ⟨by omega, by omega⟩ _ (Lib.hid fun j _ => ⟨by omega, by omega⟩) _
theorem qab : (qOf 98 == qOf 97) = false := by kernel_rfl
theorem qaa (q : ByteArray) : (q == q) = true := (MapKept.bytes_beq q q).2 rfl
def aD (j : Nat) : Int := (j : Int) + 1
def aA (j : Nat) : Int := if j < 2 then drawn aD 3 j else drawn aD 3 (3 + (j - 2))
theorem str1 : strR 2 (fun j => aA (0 + j)) = ⟨#[1, 2]⟩ := by rfl
theorem str2 : strR 1 (fun j => (fun j => drawn aD 3 (2 + j)) (0 + j)) = ⟨#[3]⟩ := by rfl
theorem str3 : strR 3 (fun j => aA (0 + j)) = ⟨#[1, 2, 0]⟩ := by rfl
theorem aA_byte (j : Nat) : 0 ≤ aA j ∧ aA j ≤ 255 := by unfold aA drawn aD; split <;> split <;> omega
theorem aB_byte (j : Nat) : 0 ≤ drawn aD 3 (2 + j) ∧ drawn aD 3 (2 + j) ≤ 255 := by unfold drawn aD; split <;> omega
theorem zero16 : (rowF 16 fun j => Value.int .u8 ((fun _ => (0 : Int)) j)) = #[.int .u8 0, .int .u8 0, .int .u8 0, .int .u8 0, .int .u8 0, .int .u8 0, .int .u8 0, .int .u8 0, .int .u8 0, .int .u8 0, .int .u8 0, .int .u8 0, .int .u8 0, .int .u8 0, .int .u8 0, .int .u8 0] := rfl
theorem es_one (q : ByteArray) (u : Value) : esAt (#[].push { key := .string q, val := .slice none 0 0, born := 0 }) 0 q u = #[{ key := .string q, val := u, born := 0 }] := rfl
theorem es_two (q p : ByteArray) (u v : Value) : esAt (#[{ key := .string q, val := u, born := 0 }].push { key := .string p, val := .slice none 0 0, born := 1 }) 1 p v = #[{ key := .string q, val := u, born := 0 }, { key := .string p, val := v, born := 1 }] := rfl
set_option maxRecDepth 100000 in
set_option maxHeartbeats 4000000 in
theorem x_Awake : Pure Try.prog 69 #[] (.bool true) := fun w => by
  go_enter Try.func69, Try.ntmps69
  go_wp2_with fail
  refine abs_calls (fun W => Kept w W ∧ Blk W w.heap.size 5 [Value.int .u8 1, .int .u8 2, .int .u8 3].toArray) ⟨(Kept.refl w).alloc _, Blk.new _ _ _⟩ ?_
  rintro W0 ⟨k0, B0⟩
  refine (x_Oracle W0 _ 3 3 aD (by omega) (.inr ⟨⟨w.heap.size, 0, none⟩, rfl, fun j hj => ?_⟩) (fun j hj => by unfold aD; omega)).mono ?_
  · rw [add_zero_at]
    rcases (show j = 0 ∨ j = 1 ∨ j = 2 by omega) with rfl | rfl | rfl
    · exact B0.cell 0 rfl
    · exact B0.cell 1 rfl
    · exact B0.cell 2 rfl
  rintro e W1 ⟨b, M, da, dc, rfl, hM, o1, hk⟩
  have k1 := k0.trans hk
  have lMb := o1.lt
  have nwM : w.heap.size ≤ M := Nat.le_trans k0.size hM
  clear k0 hk B0 hM
  -- the first question
  have HS1 := x_Stream_new W1 b M da 3 dc aD 0 #[] 0 _ o1 ⟨#[97]⟩ (by show 1 ≤ 255; omega) 1 (fun _ => 0) (qOf 97) (HQ_of 97 W1) rfl 0 [] (by omega) (World.ownsRow_nil _ _ _ _)
  rw [zero16] at HS1
  go_wp2_with fail
  refine HS1.mono ?_
  rintro e W2 ⟨x1, av1, rfl, hx1, X1, o2, avo2, avx1, c2⟩
  have lb1 := o1.blk.lt
  have k2 : Kept w W2 := (Chg.trans (S := fun i => i = b ∨ i = M) (Chg.of_kept k1) c2 (fun i hi h => by
    rcases h with h | h | h
    · exact .inl h
    · exact .inr h
    · cases h)).kept (fun i hi h => by omega)
  have lx1 := X1.lt
  clear HS1 o1 k1
  have HN1 := x_Next_o W2 x1 b M (qOf 97) 0 0 X1 da 3 dc aD 0 _ _ _ o2 0 (.slice none 0 0) (by simp [Instr.findNow, Instr.sameNow, qaa]) W2.heap.size 0 2 aA (World.ownsRow_nil _ _ _ _) (by omega) (Nat.le_refl _) (by omega) (by omega) (by omega) (by omega) (by omega) (by omega)
    (Lib.hid fun j _ hj => by unfold aA; rw [if_pos (by omega)]; congr 1; omega) (by omega) (by omega) (by intro h; cases h)
  clear c2
  go_wp2_with fail
  refine HN1.mono ?_
  rintro e W3 ⟨v1, u1, rfl, ov1, _, o3, ou1, c3, _, hvu⟩
  rw [es_one] at o3
  have avo3 := c3.own avo2 (fun g hg h => by
    have h1 := own_lt avo2 hg
    have h2 := avx1 g hg
    rcases h with h | h | h | h
    · omega
    · omega
    · exact h2 h
    · cases h)
  have lav : ∀ g, av1.ownBlock = some g → b < g ∧ g < W2.heap.size := fun g hg => by have := own_lt avo2 hg; omega
  have lu1 : ∀ g, u1.ownBlock = some g → W2.heap.size ≤ g ∧ g < W3.heap.size := fun g hg => own_lt ou1 hg
  have lv1 : ∀ g, v1.ownBlock = some g → W2.heap.size ≤ g ∧ g < W3.heap.size := fun g hg => own_lt ov1 hg
  have k3 : Kept w W3 := (Chg.trans (S := fun i => i = b ∨ i = M ∨ i = x1) (Chg.of_kept k2) c3 (fun i hi h => by
    rcases h with h | h | h | h
    · exact .inl h
    · exact .inr (.inl h)
    · exact .inr (.inr h)
    · cases h)).kept (fun i hi h => by have := k2.size; omega)
  have lb3 := o3.blk.lt
  have sz3 := c3.size
  clear HN1 o2 k2 avo2 c3 X1
  -- the second question
  have HS2 := x_Stream_new W3 b M da 3 dc aD _ _ _ _ o3 ⟨#[98]⟩ (by show 1 ≤ 255; omega) 1 (fun _ => 0) (qOf 98) (HQ_of 98 W3) (by simp [Instr.findNow, Instr.sameNow, qab]) 1 _ (by omega) avo3
  rw [zero16] at HS2
  go_wp2_with fail
  refine HS2.mono ?_
  rintro e W4 ⟨x2, av2, rfl, hx2, X2, o4, avo4, avx2, c4⟩
  have ou4 := c4.own ou1 (fun g hg h => by
    have h1 := lu1 g hg
    rcases h with h | h | h
    · omega
    · omega
    · have := lav g h; omega)
  have ov4 := c4.own ov1 (fun g hg h => by
    have h1 := lv1 g hg
    rcases h with h | h | h
    · omega
    · omega
    · have := lav g h; omega)
  have k4 : Kept w W4 := (Chg.trans (S := fun i => i = b ∨ i = M ∨ av1.ownBlock = some i) (Chg.of_kept k3) c4 (fun i hi h => h)).kept (fun i hi h => by
    rcases h with h | h | h
    · omega
    · omega
    · have := lav i h; omega)
  have sz4 := c4.size
  clear HS2 o3 k3 c4 ou1 ov1
  have HN2 := x_Next_o W4 x2 b M (qOf 98) 0 0 X2 da 3 dc aD _ _ _ _ o4 1 (.slice none 0 0) (by simp [Instr.findNow, Instr.sameNow, qab, qaa]) W4.heap.size 0 1 (fun j => drawn aD 3 (2 + j)) (World.ownsRow_nil _ _ _ _) (by omega) (Nat.le_refl _) (by omega) (by omega) (by omega) (by omega) (by omega) (by omega)
    (Lib.hid fun j _ hj => by show drawn aD 3 (2 + j) = _; congr 1) (by omega) (by omega) (by intro h; cases h)
  go_wp2_with fail
  refine HN2.mono ?_
  rintro e W5 ⟨v2, u2, rfl, ov2, _, o5, _, c5, _, _⟩
  rw [es_two] at o5
  have ou5 := c5.own ou4 (fun g hg h => by
    have h1 := lu1 g hg
    rcases h with h | h | h | h
    · omega
    · omega
    · omega
    · cases h)
  have ov5 := c5.own ov4 (fun g hg h => by
    have h1 := lv1 g hg
    rcases h with h | h | h | h
    · omega
    · omega
    · omega
    · cases h)
  have k5 : Kept w W5 := (Chg.trans (S := fun i => i = b ∨ i = M ∨ i = x2) (Chg.of_kept k4) c5 (fun i hi h => by
    rcases h with h | h | h | h
    · exact .inl h
    · exact .inr (.inl h)
    · exact .inr (.inr h)
    · cases h)).kept (fun i hi h => by have := k4.size; omega)
  have sz5 := c5.size
  have lv2 : ∀ g, v2.ownBlock = some g → W4.heap.size ≤ g ∧ g < W5.heap.size := fun g hg => own_lt ov2 hg
  clear HN2 o4 k4 c5 ou4 ov4 X2
  -- the first question again
  have HS3 := x_Stream_old W5 b M da 3 dc aD _ _ _ _ o5 ⟨#[97]⟩ (by show 1 ≤ 255; omega) 1 (fun _ => 0) (qOf 97) (HQ_of 97 W5) u1 0 (by simp [Instr.findNow, Instr.sameNow, qaa])
  rw [zero16] at HS3
  go_wp2_with fail
  refine HS3.mono ?_
  rintro e W6 ⟨x3, rfl, hx3, X3, hk⟩
  have k6 := k5.trans hk
  have o6 := o5.kept hk
  have ou6 := ownsRow_kept ou5 hk
  have ov6 := ownsRow_kept ov5 hk
  have ow6 := ownsRow_kept ov2 hk
  have sz6 := hk.size
  clear HS3 k5 o5 ou5 ov5 ov2 hk
  have HN3 := x_Next_o W6 x3 b M (qOf 97) 0 0 X3 da 3 dc aD _ _ _ _ o6 0 u1 (by simp [Instr.findNow, Instr.sameNow, qaa]) W2.heap.size 2 3 aA ou6 (by omega) (by omega) (by omega) (by omega) (by omega) (by omega) (by omega) (by omega)
    (Lib.hid fun j h2 hj => by unfold aA; rw [if_neg (by omega)]) (by omega) (by omega) (fun h => by have := lu1 _ h; omega)
  go_wp2_with fail
  refine HN3.mono ?_
  rintro e W7 ⟨v3, u3, rfl, ov7, _, o7, _, c7, _, _⟩
  have oa := c7.own ov6 (fun g hg h => by
    have h1 := lv1 g hg
    rcases h with h | h | h | h
    · omega
    · omega
    · omega
    · have := hvu g g hg h; omega)
  have ob := c7.own ow6 (fun g hg h => by
    have h1 := lv2 g hg
    rcases h with h | h | h | h
    · omega
    · omega
    · omega
    · have := lu1 g h; omega)
  have k7 : Kept w W7 := (Chg.trans (S := fun i => i = b ∨ i = M ∨ i = x3 ∨ u1.ownBlock = some i) (Chg.of_kept k6) c7 (fun i hi h => h)).kept (fun i hi h => by
    rcases h with h | h | h | h
    · omega
    · omega
    · have := k6.size; omega
    · have := lu1 i h; omega)
  have h1 := conv_R (reads_of_own oa) (fun j _ => aA_byte _)
  have h2 := conv_R (reads_of_own ob) (fun j _ => aB_byte _)
  have h3 := conv_R (reads_of_own ov7) (fun j _ => aA_byte _)
  rw [str1] at h1
  rw [str2] at h2
  rw [str3] at h3
  clear HN3 o6 k6 c7 ou6 ov6 ow6 X3 oa ob ov7
  go_wp2_with fail
  go_ret
  exact ⟨rfl, k7⟩
end Go.Proofs.Ytnajihlhcdedgaa

namespace Go.Proofs.Ytnajihlhcdedgaa
open Go.RowKit
set_option linter.unusedVariables false
set_option linter.unusedSimpArgs false
attribute [local simp] blkAt_setCell blkAt_alloc blkAt_drew Obj.put_cells
section
variable {D : Nat → Int} {L : Nat} {f : Int} {k m : Nat}
end
theorem leVal_zero : ∀ l : List Int, (∀ x ∈ l, x = 0) → leVal l = 0
  | [], _ => rfl
  | b :: l, h => by
    rw [leVal_cons, h b (by simp), leVal_zero l (fun x hx => h x (by simp [hx]))]
    rfl
theorem tk_zero {D : Nat → Int} {L k : Nat} (h : ∀ j, j < L → D (k * L + j) = 0) : tk D L k = 0 := by
  refine leVal_zero _ fun x hx => ?_
  obtain ⟨j, hj, rfl⟩ := List.mem_map.1 hx
  exact h j (List.mem_range.1 hj)
section
variable {f : Int} {L : Nat} (k m nd : Nat)
end
/-- A stream of an oracle that was asked one question, nothing read. -/
theorem StO_start {W : World} {x b M : Nat} {q : ByteArray} {da : Option Addr} {nd dc : Nat} {D : Nat → Int} {av : Value} (L : Nat) (hx : OStr W x b q 0 0) (ho : Orc W b M da nd dc D 0 (#[].push { key := .string q, val := .slice none 0 0, born := 0 }) 1 av) :
    StO x b M q da nd dc D av W.heap.size L 0 0 (fun j => j = b ∨ j = M ∨ j = x ∨ (Value.slice none 0 0).ownBlock = some j) W :=
  ⟨.slice none 0 0, by rw [Nat.zero_mul]; exact hx, by rw [Nat.zero_mul, esAt_self (find_one q)]; exact ho, by rw [Nat.zero_mul]; exact World.ownsRow_nil _ _ _ _, Nat.le_refl _, rfl⟩
/-- Oracle, then Stream of a question: the state. -/
theorem oracle_stream (W1 : World) (b M : Nat) (da : Option Addr) (nd dc : Nat) (D : Nat → Int) (o1 : Orc W1 b M da nd dc D 0 #[] 0 (.slice none 0 0)) (c : UInt8) :
    Calls Try.prog 71 #[.pointer (some ⟨b, 0, none⟩), .string ⟨#[c]⟩, .int .u16 1, .agg #[.int .u8 0, .int .u8 0, .int .u8 0, .int .u8 0, .int .u8 0, .int .u8 0, .int .u8 0, .int .u8 0, .int .u8 0, .int .u8 0, .int .u8 0, .int .u8 0, .int .u8 0, .int .u8 0, .int .u8 0, .int .u8 0], .slice none 0 0] W1 fun e W2 =>
      ∃ x av, e = .returned (.pointer (some ⟨x, 0, none⟩)) ∧ W1.heap.size ≤ x ∧ x < W2.heap.size ∧ OStr W2 x b (qOf c) 0 0 ∧ Orc W2 b M da nd dc D 0 (#[].push { key := .string (qOf c), val := .slice none 0 0, born := 0 }) 1 av ∧ Chg (fun i => i = b ∨ i = M) W1 W2 := by
  have HS1 := x_Stream_new W1 b M da nd dc D 0 #[] 0 _ o1 ⟨#[c]⟩ (by show 1 ≤ 255; omega) 1 (fun _ => 0) (qOf c) (HQ_of c W1) rfl 0 [] (by omega) (World.ownsRow_nil _ _ _ _)
  rw [zero16] at HS1
  refine HS1.mono ?_
  rintro e W2 ⟨x1, av1, rfl, hx1, X1, o2, _, _, c2⟩
  exact ⟨x1, av1, rfl, hx1, X1.lt, X1, o2, c2.mono fun i _ h => by
    rcases h with h | h | h
    · exact .inl h
    · exact .inr h
    · cases h⟩
end Go.Proofs.Ytnajihlhcdedgaa

namespace Go.Proofs.Ytnajihlhcdedgaa
open Go.RowKit
set_option linter.unusedVariables false
set_option linter.unusedSimpArgs false
attribute [local simp] blkAt_setCell blkAt_alloc blkAt_drew Obj.put_cells
attribute [local go_sem ↓] Go.wp_at_zero Go.wp_at_succ
theorem info152 : (Try.prog.info? 152).map (fun i => (i.zero, i.size, i.bytes)) = some (some (.agg #[.string ⟨#[]⟩, .slice none 0 0]), 2, 40) := by kernel_rfl
theorem append_ans {ops : Array Oper} {rest : List Oper} {o : Oper} {a : Act} {Q : Exit → Act → World → Prop} {wr : World} (q : ByteArray) (s x : Operand) (hgd : o.guard = none) (ho : o.op = .call { callee := .builtin .append, args := #[s, x], argTypes := #[103, 103] })
    (hs : a.eval s = .slice none 0 0) (hx : a.eval x = .slice (some ⟨wr.heap.size, 0, none⟩) 1 1)
    (h : ∀ v' w', w'.ownsRow wr.heap.size 152 2 v' 1 [.string q, .slice none 0 0] → (wr.alloc (.cells #[.string q, .slice none 0 0] 152)).grownBy w' (Value.slice none 0 0).ownBlock → True → wpList Try.prog ops Q rest (a.put o.dst v') w') :
    wpList Try.prog ops Q (o :: rest) a (wr.alloc (.cells #[.string q, .slice none 0 0] 152)) := by
  obtain ⟨i, hi, hz0, hz1, hz2⟩ := info_parts info152
  refine wpList_append_own_at _ hgd s x 103 ho wr.heap.size 152 i _ 2 40 Try.underlying103 hi hz0 hz1 hz2 rfl (by decide) (.slice none 0 0) 0 [] hs (World.ownsRow_nil _ _ _ _) ⟨wr.heap.size, 0, none⟩ 1 1 [.string q, .slice none 0 0] hx rfl ?_ (by intro u hu; simp at hu; rcases hu with rfl | rfl <;> rfl) (by unfold maxLen; omega) (by omega) (by simp) ?_
  · intro j u hj
    rw [add_zero_at, World.cell?_alloc_at _ _ _ _ rfl]
    simpa using hj
  · intro v' w' h2 h3 _ h5
    exact h v' w' h2 h3 trivial
theorem own_ans {w : World} {base : Nat} {v : Value} {q : ByteArray} {u : Value} (h : w.ownsRow base 152 2 v 1 [.string q, u]) : ∃ g cap, v = .slice (some ⟨g, 0, none⟩) 1 cap ∧ base ≤ g ∧ g < w.heap.size ∧ 1 ≤ cap ∧ (cap : Int) ≤ 9223372036854775807 ∧ w.cell? ⟨g, 0, none⟩ = some (.string q) ∧ w.cell? ⟨g, 1, none⟩ = some u ∧ w.frozen? ⟨g, 1, none⟩ = false := by
  rcases h.2 with ⟨_, h0⟩ | ⟨g, cap, cur, rfl, hb, hg, hc, hm, _⟩
  · omega
  · have c0 := h.cells (g := g) rfl 0 (.string q) rfl
    have c1 := h.cells (g := g) rfl 1 u rfl
    rw [add_zero_at] at c0 c1
    exact ⟨g, cap, rfl, hb, (own_lt h (g := g) rfl).2, hc, by unfold maxLen at hm; omega, c0, c1, by simp [World.frozen?, hg]⟩
set_option maxRecDepth 100000 in
set_option maxHeartbeats 2000000 in
theorem r_Find (w : World) (b : Nat) (da : Option Addr) (nd dc : Nat) (hb : Blk w b 105 #[.slice da nd dc, .int .i64 0, .slice none 0 0]) (q : ByteArray) :
    Calls Try.prog 87 #[.pointer (some ⟨b, 0, none⟩), .string q] w fun e w' => ∃ g cap, e = .returned (.int .i64 0) ∧ w.heap.size ≤ g ∧ Blk w' b 105 #[.slice da nd dc, .int .i64 0, .slice (some ⟨g, 0, none⟩) 1 cap] ∧
      w'.cell? ⟨g, 0, none⟩ = some (.string q) ∧ w'.cell? ⟨g, 1, none⟩ = some (.slice none 0 0) ∧ w'.frozen? ⟨g, 1, none⟩ = false ∧ 1 ≤ cap ∧ (cap : Int) ≤ 9223372036854775807 ∧ Chg (fun i => i = b) w w' := by
  have c2 := hb.cell 2 rfl
  have fb := hb.free
  obtain ⟨i, hi, hz0, hz1, hz2⟩ := info_parts info152
  go_enter Try.func87, Try.ntmps87
  go_wp2_with fail
  go_loopw [5] (fun t wr => t = .int .i64 0 ∧ wr = w) (fun _ _ => 0)
  case atStart => exact ⟨rfl, rfl⟩
  case round =>
    obtain ⟨rfl, rfl⟩ := hrel
    go_wp2_with (at_builtin; refine append_ans q (.tmp 30) (.tmp 33) rfl rfl rfl rfl ?_; intro v1 W1 own1 gr1 at1; obtain ⟨g, cap, hv, hg0, hgl, hc1, hc63, hq0, hq1, hqf⟩ := own_ans own1; subst hv; have B1 := (chg_grown gr1).blk (hb.alloc (.cells #[.string q, .slice none 0 0] 152)) (fun h => by cases h); have c21 := B1.cell 2 rfl; have f21 := B1.free; have hgb : g ≠ b := by have := hb.lt; omega)
    go_ret
    have ks := chg_set W1 b 2 (.slice (some ⟨g, 0, none⟩) 1 cap)
    refine ⟨g, cap, rfl, hg0, by simp [Blk, B1.eq], ks.cell hq0 hgb, ks.cell hq1 hgb, ?_, hc1, hc63, ?_⟩
    · rw [ks.frozen hgl hgb]
      exact hqf
    · exact (((Chg.refl (fun i => i = b) wr).alloc _).grown gr1 (fun g' hg' => by cases hg')).trans ks fun i _ h => h
set_option maxRecDepth 100000 in
set_option maxHeartbeats 2000000 in
theorem r_Read (w : World) (b gl lc : Nat) (da : Option Addr) (nd dc N : Nat) (D : Nat → Int) (pos : Nat) (hb : Blk w b 105 #[.slice da nd dc, .int .i64 (pos : Int), .slice (some ⟨gl, 0, none⟩) 1 lc]) (hlc : 1 ≤ lc) (hD : SlB w da nd dc N D) (hN : N ≤ b) (u : Value) (hg1 : w.cell? ⟨gl, 1, none⟩ = some u) (hgf : w.frozen? ⟨gl, 1, none⟩ = false) (hgb : gl ≠ b) (hbg : b < gl)
    (B0 c frm many X : Nat) (A : Nat → Int) (hX : frm + many = X) (hown : w.ownsRow B0 5 1 u c (bytesR c A)) (hB0 : gl < B0) (hB1 : B0 ≤ w.heap.size) (hc : c ≤ X) (hm0 : 0 < many) (hm : X ≤ 1000000) (hp : pos ≤ 1000000) (hnd : nd ≤ 1000000)
    (HA : Hid (∀ j, c ≤ j → j < X → A j = drawn D nd (pos + (j - c)))) :
    Calls Try.prog 88 #[.pointer (some ⟨b, 0, none⟩), .int .i64 0, .int .i64 (frm : Int), .int .i64 (many : Int)] w fun e w' => ∃ u' ug uc, e = .returned (.slice (some ⟨ug, frm, none⟩) many uc) ∧ many ≤ uc ∧ u'.ownBlock = some ug ∧ w'.ownsRow B0 5 1 u' X (bytesR X A) ∧ (∀ j, j < X → w'.cell? ⟨ug, j, none⟩ = some (.int .u8 (A j))) ∧
      Blk w' b 105 #[.slice da nd dc, .int .i64 ((pos + (X - c) : Nat) : Int), .slice (some ⟨gl, 0, none⟩) 1 lc] ∧ w'.cell? ⟨gl, 1, none⟩ = some u' ∧ w'.frozen? ⟨gl, 1, none⟩ = false ∧ Chg (fun j => j = b ∨ j = gl ∨ u.ownBlock = some j) w w' ∧ (∀ g, u'.ownBlock = some g → u.ownBlock = some g ∨ w.heap.size ≤ g) := by
  obtain ⟨i5, hi5, hz0, hz1, hz2⟩ := info_parts info5
  have hwX : IntKind.i64.wrap ((frm : Int) + (many : Int)) = (X : Int) := by rw [IntWalk.i64_in _ (by omega)]; omega
  have hug : ∀ g, u.ownBlock = some g → gl < g := fun g hg => by have := own_lt hown hg; omega
  have lgl := block_lt_of_cell hg1
  have ylc : (0 : Int) < (lc : Int) := by omega
  go_enter Try.func88, Try.ntmps88
  go_wp2_with fail
  go_loopg [] (X - c) (fun gk wr => ∃ (t : Nat) (u' : Value), c + t ≤ X ∧ gk = X - (c + t) ∧ Blk wr b 105 #[.slice da nd dc, .int .i64 ((pos + t : Nat) : Int), .slice (some ⟨gl, 0, none⟩) 1 lc] ∧ wr.cell? ⟨gl, 1, none⟩ = some u' ∧ wr.frozen? ⟨gl, 1, none⟩ = false ∧ SlB wr da nd dc N D ∧ wr.ownsRow B0 5 1 u' (c + t) (bytesR (c + t) A) ∧
    Chg (fun j => j = b ∨ j = gl ∨ u.ownBlock = some j) w wr ∧ (∀ g, u'.ownBlock = some g → u.ownBlock = some g ∨ w.heap.size ≤ g))
  case atStart => exact ⟨0, u, hc, rfl, hb, hg1, hgf, hD, hown, Chg.refl _ _, fun g hg => .inl hg⟩
  case round =>
    obtain ⟨t, u', ht, hgk, B, g1, q1, D0, own, k, hat⟩ := hrel
    obtain ⟨sa, sc, rfl⟩ := ownsRow_slicex own
    obtain ⟨m, hmm⟩ : ∃ m, c + t = m := ⟨_, rfl⟩
    rw [hmm] at own ht hgk g1 hat
    have lg1 := block_lt_of_cell g1
    have c3 := B.cell 2 rfl
    have zm : (0 : Int) ≤ (m : Int) := by omega
    rcases Nat.lt_or_ge m X with hlt | hge
    · have ylt : (m : Int) < (X : Int) := by omega
      go_upto_region 3 with (fail)
      have c1 := B.cell 0 rfl
      have c2 := B.cell 1 rfl
      clear c3
      obtain ⟨p, hpt⟩ : ∃ p, pos + t = p := ⟨_, rfl⟩
      have hp2 : p ≤ 2000000 := by omega
      rw [hpt] at B c2
      go_region_held3 (fun w' => w'.cell? ⟨b, 1, none⟩ = some (.int .i64 (p : Int)) ∧ w'.cell? ⟨b, 0, none⟩ = some (.slice da nd dc)) (go_keep) (fail)
      refine abs_world (fun W => Kept wr W) (Kept.refl wr).drew ?_
      clear c1 c2
      rintro W1 hk
      have B1 := B.kept hk
      have g1' := hk.cell g1
      have q1' : W1.frozen? ⟨gl, 1, none⟩ = false := ((Chg.of_kept (S := fun _ => False) hk).frozen lg1 (fun h => h)).trans q1
      have D1 := D0.kept hk
      have own1 := ownsRow_kept own hk
      have kk1 := k.trans_kept hk
      have lg1' := Nat.lt_of_lt_of_le lg1 hk.size
      clear B g1 q1 D0 own k hk lg1
      have zp : (0 : Int) ≤ (p : Int) := by omega
      rcases Nat.lt_or_ge p nd with hd | hd
      · have yd : (p : Int) < (nd : Int) := by omega
        obtain ⟨pa, hip, cpa, hpa⟩ := D1.at' p hd
        have HY : Hid (drawn D nd p = D p) := Lib.hid (if_pos hd)
        generalize D p = y at cpa HY
        go_upto_region 4 with (fail)
        have c1 := B1.cell 0 rfl
        have c2 := B1.cell 1 rfl
        go_region_held3 (fun w' => w'.cell? ⟨b, 1, none⟩ = some (.int .i64 (p : Int)) ∧ w'.cell? ⟨b, 0, none⟩ = some (.slice da nd dc) ∧ w'.cell? pa = some (.int .u8 y)) (go_keep) (fail)
        refine abs_world (fun W => Kept W1 W) (Kept.refl W1).drew ?_
        clear c1 c2 cpa
        rintro W2 hk
        have B2 := B1.kept hk
        have g2 := hk.cell g1'
        have q2 : W2.frozen? ⟨gl, 1, none⟩ = false := ((Chg.of_kept (S := fun _ => False) hk).frozen lg1' (fun h => h)).trans q1'
        have D2 := D1.kept hk
        have own2 := ownsRow_kept own1 hk
        have kk2 := kk1.trans_kept hk
        have lg2 := Nat.lt_of_lt_of_le lg1' hk.size
        clear B1 g1' q1' D1 own1 kk1 hk lg1'
        have hw1 : IntKind.i64.wrap ((p : Int) + 1) = ((p + 1 : Nat) : Int) := by rw [IntWalk.i64_in _ (by omega)]; simp
        have f2 := B2.free
        have c2 := B2.cell 1 rfl
        have c3' := B2.cell 2 rfl
        go_upto_region 6 with (fail)
        refine abs_world (fun W => Chg (fun j => j = b) W2 W ∧ Blk W b 105 #[.slice da nd dc, .int .i64 ((p + 1 : Nat) : Int), .slice (some ⟨gl, 0, none⟩) 1 lc]) ⟨(Chg.refl (fun j => j = b) W2).setCell (.inl rfl) _, by simp [Blk, B2.eq]⟩ ?_
        clear f2 c2 c3'
        rintro W3 ⟨k3, B3⟩
        have own3 := k3.own own2 (fun g hg => by have := own_lt own2 hg; omega)
        have g3 := k3.cell g2 hgb
        have q3 : W3.frozen? ⟨gl, 1, none⟩ = false := by rw [k3.frozen lg2 hgb]; exact q2
        have D3 := k3.slB D2 (fun i hi => by omega)
        have kk3 : Chg (fun j => j = b ∨ j = gl ∨ u.ownBlock = some j) w W3 := kk2.trans k3 fun i _ h => .inl h
        have sz3 : B0 ≤ W3.heap.size := Nat.le_trans hB1 kk3.size
        have ltb := B3.lt
        have lg3 : gl < W3.heap.size := Nat.lt_of_lt_of_le lg2 k3.size
        clear k3 own2 B2 g2 q2 D2 kk2 lg2
        have c3 : W3.drew.cell? ⟨b, 2, none⟩ = some (.slice (some ⟨gl, 0, none⟩) 1 lc) := B3.cell 2 rfl
        have h1 : W3.drew.cell? ⟨gl, 1, none⟩ = some (.slice sa m sc) := g3
        have own4 : W3.drew.ownsRow B0 5 1 (.slice sa m sc) m (bytesR m A) := own3
        have hgo : ∀ j, (Value.slice sa m sc).ownBlock = some j → B0 ≤ j ∧ j < W3.drew.heap.size := fun j h => own_lt own3 h
        have sz4 : B0 ≤ W3.drew.heap.size := sz3
        have e3 : W3.drew.heap.size = W3.heap.size := rfl
        have lg4 : gl < W3.drew.heap.size := lg3
        have B4 : Blk W3.drew b 105 #[.slice da nd dc, .int .i64 ((p + 1 : Nat) : Int), .slice (some ⟨gl, 0, none⟩) 1 lc] := B3.drew
        have q4 : W3.drew.frozen? ⟨gl, 1, none⟩ = false := q3
        have D4 : SlB W3.drew da nd dc N D := D3.kept (Kept.refl W3).drew
        have kk4 : Chg (fun j => j = b ∨ j = gl ∨ u.ownBlock = some j) w W3.drew := kk3.drew
        have h2 : (W3.alloc (.cells #[.int .u8 y] 5)).drew.cell? ⟨gl, 1, none⟩ = some (.slice sa m sc) := ((Kept.refl W3).alloc _).cell g3
        have c7 : (W3.alloc (.cells #[.int .u8 y] 5)).drew.cell? ⟨b, 2, none⟩ = some (.slice (some ⟨gl, 0, none⟩) 1 lc) := (B3.alloc _).cell 2 rfl
        clear own3 g3 q3 D3 kk3 B3 sz3 ltb lg3
        go_region_law (refine step_append_lies _ (by rfl) (.tmp 63) (.tmp 65) 42 (by rfl) B0 5 i5 _ 1 1 Try.underlying42 hi5 hz0 hz1 hz2 rfl (by decide) _ _ _ (by rfl) (World.ownsRow.alloc own4 _) ⟨W3.drew.heap.size, 0, none⟩ 1 1 [.int .u8 y] (by rfl) rfl (cell_one_new _ _ _) (by simp [Value.oneCell']) (by omega) (by unfold maxLen; omega) (by omega) (by simp; omega) (W3.drew.heap.size + 1) (by simp) ?_; intro g cap w1 hown1 hgrow hat1 hlt1; have kg := chg_grown hgrow; have B5 := kg.blk (Blk.alloc B4 _) (fun h => by have := hgo b h; omega); have c5 := B5.cell 2 rfl; have q5 : w1.frozen? ⟨gl, 1, none⟩ = false := (kg.frozen (by simp; omega) (fun h => by have := hgo gl h; omega)).trans ((frozen?_alloc_cells _ _ _ _).trans q4); have c6 := kg.cell (((Kept.refl W3.drew).alloc (.cells #[.int .u8 y] 5)).cell h1) (fun h => by have := hgo gl h; omega))
        all_goals
          clear c3 h1 h2 c7 c5
          have ks := chg_set w1 gl 1 (.slice (some ⟨g, 0, none⟩) (m + 1) cap)
          have hgG : g ≠ gl := by
            rcases hat1 with h | h
            · have := hgo g h
              omega
            · omega
          have B6 := ks.blk B5 (Ne.symm hgb)
          have D6 := ks.slB (kg.slB (D4.kept ((Kept.refl W3.drew).alloc _)) (fun j hj h => by have := hgo j h; omega)) (fun j hj => by omega)
          have own6 := ks.own hown1 (fun g' hg' h => by have e : g = g' := Option.some.inj hg'; omega)
          have kk6 := ((kk4.alloc _).grown hgrow (fun g' hg' => by
            rcases hat g' hg' with h | h
            · exact .inl (.inr (.inr h))
            · exact .inr h)).trans ks fun j _ h => .inr (.inl h)
          have hloc : ∀ g', (Value.slice (some ⟨g, 0, none⟩) (m + 1) cap).ownBlock = some g' → u.ownBlock = some g' ∨ w.heap.size ≤ g' := fun g' hg' => by
            obtain rfl : g = g' := Option.some.inj hg'
            rcases hat1 with h | h
            · exact hat _ h
            · right
              have := kk4.size
              omega
          have lg1 := block_lt_of_cell c6
          have g6 : (w1.setCell ⟨gl, 1, none⟩ (.slice (some ⟨g, 0, none⟩) (m + 1) cap)).cell? ⟨gl, 1, none⟩ = some (.slice (some ⟨g, 0, none⟩) (m + 1) cap) := World.cell?_setCell_same w1 _ _ c6
          have q6 : (w1.setCell ⟨gl, 1, none⟩ (.slice (some ⟨g, 0, none⟩) (m + 1) cap)).frozen? ⟨gl, 1, none⟩ = false := (World.frozen?_setCell _ _ _ _).trans q5
          have HA1 := HA.out m (by omega) hlt
          rw [show pos + (m - c) = p by omega, HY.out] at HA1
          rw [← HA1, ← bytesR_succ] at own6
          go_wp2_with fail
          go_roundg (X - (m + 1))
          case measure => omega
          case rel => exact ⟨t + 1, .slice (some ⟨g, 0, none⟩) (m + 1) cap, by omega, by rw [show c + (t + 1) = m + 1 by omega], by rw [show pos + (t + 1) = p + 1 by omega]; exact B6, g6, q6, D6, by rw [show c + (t + 1) = m + 1 by omega]; exact own6, kk6, hloc⟩
      · have yd : (nd : Int) ≤ (p : Int) := by omega
        have HY : Hid (drawn D nd p = 0) := Lib.hid (if_neg (by omega))
        have B2 := B1
        have g2 := g1'
        have q2 := q1'
        have D2 := D1
        have own2 := own1
        have kk2 := kk1
        have lg2 := lg1'
        clear B1 g1' q1' D1 own1 kk1 lg1'
        have hw1 : IntKind.i64.wrap ((p : Int) + 1) = ((p + 1 : Nat) : Int) := by rw [IntWalk.i64_in _ (by omega)]; simp
        have f2 := B2.free
        have c2 := B2.cell 1 rfl
        have c3' := B2.cell 2 rfl
        go_upto_region 6 with (fail)
        refine abs_world (fun W => Chg (fun j => j = b) W1 W ∧ Blk W b 105 #[.slice da nd dc, .int .i64 ((p + 1 : Nat) : Int), .slice (some ⟨gl, 0, none⟩) 1 lc]) ⟨(Chg.refl (fun j => j = b) W1).setCell (.inl rfl) _, by simp [Blk, B2.eq]⟩ ?_
        clear f2 c2 c3'
        rintro W3 ⟨k3, B3⟩
        have own3 := k3.own own2 (fun g hg => by have := own_lt own2 hg; omega)
        have g3 := k3.cell g2 hgb
        have q3 : W3.frozen? ⟨gl, 1, none⟩ = false := by rw [k3.frozen lg2 hgb]; exact q2
        have D3 := k3.slB D2 (fun i hi => by omega)
        have kk3 : Chg (fun j => j = b ∨ j = gl ∨ u.ownBlock = some j) w W3 := kk2.trans k3 fun i _ h => .inl h
        have sz3 : B0 ≤ W3.heap.size := Nat.le_trans hB1 kk3.size
        have ltb := B3.lt
        have lg3 : gl < W3.heap.size := Nat.lt_of_lt_of_le lg2 k3.size
        clear k3 own2 B2 g2 q2 D2 kk2 lg2
        have c3 : W3.drew.cell? ⟨b, 2, none⟩ = some (.slice (some ⟨gl, 0, none⟩) 1 lc) := B3.cell 2 rfl
        have h1 : W3.drew.cell? ⟨gl, 1, none⟩ = some (.slice sa m sc) := g3
        have own4 : W3.drew.ownsRow B0 5 1 (.slice sa m sc) m (bytesR m A) := own3
        have hgo : ∀ j, (Value.slice sa m sc).ownBlock = some j → B0 ≤ j ∧ j < W3.drew.heap.size := fun j h => own_lt own3 h
        have sz4 : B0 ≤ W3.drew.heap.size := sz3
        have e3 : W3.drew.heap.size = W3.heap.size := rfl
        have lg4 : gl < W3.drew.heap.size := lg3
        have B4 : Blk W3.drew b 105 #[.slice da nd dc, .int .i64 ((p + 1 : Nat) : Int), .slice (some ⟨gl, 0, none⟩) 1 lc] := B3.drew
        have q4 : W3.drew.frozen? ⟨gl, 1, none⟩ = false := q3
        have D4 : SlB W3.drew da nd dc N D := D3.kept (Kept.refl W3).drew
        have kk4 : Chg (fun j => j = b ∨ j = gl ∨ u.ownBlock = some j) w W3.drew := kk3.drew
        have h2 : (W3.alloc (.cells #[.int .u8 0] 5)).drew.cell? ⟨gl, 1, none⟩ = some (.slice sa m sc) := ((Kept.refl W3).alloc _).cell g3
        have c7 : (W3.alloc (.cells #[.int .u8 0] 5)).drew.cell? ⟨b, 2, none⟩ = some (.slice (some ⟨gl, 0, none⟩) 1 lc) := (B3.alloc _).cell 2 rfl
        clear own3 g3 q3 D3 kk3 B3 sz3 ltb lg3
        go_region_law (refine step_append_lies _ (by rfl) (.tmp 63) (.tmp 65) 42 (by rfl) B0 5 i5 _ 1 1 Try.underlying42 hi5 hz0 hz1 hz2 rfl (by decide) _ _ _ (by rfl) (World.ownsRow.alloc own4 _) ⟨W3.drew.heap.size, 0, none⟩ 1 1 [.int .u8 0] (by rfl) rfl (cell_one_new _ _ _) (by simp [Value.oneCell']) (by omega) (by unfold maxLen; omega) (by omega) (by simp; omega) (W3.drew.heap.size + 1) (by simp) ?_; intro g cap w1 hown1 hgrow hat1 hlt1; have kg := chg_grown hgrow; have B5 := kg.blk (Blk.alloc B4 _) (fun h => by have := hgo b h; omega); have c5 := B5.cell 2 rfl; have q5 : w1.frozen? ⟨gl, 1, none⟩ = false := (kg.frozen (by simp; omega) (fun h => by have := hgo gl h; omega)).trans ((frozen?_alloc_cells _ _ _ _).trans q4); have c6 := kg.cell (((Kept.refl W3.drew).alloc (.cells #[.int .u8 0] 5)).cell h1) (fun h => by have := hgo gl h; omega))
        all_goals
          clear c3 h1 h2 c7 c5
          have ks := chg_set w1 gl 1 (.slice (some ⟨g, 0, none⟩) (m + 1) cap)
          have hgG : g ≠ gl := by
            rcases hat1 with h | h
            · have := hgo g h
              omega
            · omega
          have B6 := ks.blk B5 (Ne.symm hgb)
          have D6 := ks.slB (kg.slB (D4.kept ((Kept.refl W3.drew).alloc _)) (fun j hj h => by have := hgo j h; omega)) (fun j hj => by omega)
          have own6 := ks.own hown1 (fun g' hg' h => by have e : g = g' := Option.some.inj hg'; omega)
          have kk6 := ((kk4.alloc _).grown hgrow (fun g' hg' => by
            rcases hat g' hg' with h | h
            · exact .inl (.inr (.inr h))
            · exact .inr h)).trans ks fun j _ h => .inr (.inl h)
          have hloc : ∀ g', (Value.slice (some ⟨g, 0, none⟩) (m + 1) cap).ownBlock = some g' → u.ownBlock = some g' ∨ w.heap.size ≤ g' := fun g' hg' => by
            obtain rfl : g = g' := Option.some.inj hg'
            rcases hat1 with h | h
            · exact hat _ h
            · right
              have := kk4.size
              omega
          have lg1 := block_lt_of_cell c6
          have g6 : (w1.setCell ⟨gl, 1, none⟩ (.slice (some ⟨g, 0, none⟩) (m + 1) cap)).cell? ⟨gl, 1, none⟩ = some (.slice (some ⟨g, 0, none⟩) (m + 1) cap) := World.cell?_setCell_same w1 _ _ c6
          have q6 : (w1.setCell ⟨gl, 1, none⟩ (.slice (some ⟨g, 0, none⟩) (m + 1) cap)).frozen? ⟨gl, 1, none⟩ = false := (World.frozen?_setCell _ _ _ _).trans q5
          have HA1 := HA.out m (by omega) hlt
          rw [show pos + (m - c) = p by omega, HY.out] at HA1
          rw [← HA1, ← bytesR_succ] at own6
          go_wp2_with fail
          go_roundg (X - (m + 1))
          case measure => omega
          case rel => exact ⟨t + 1, .slice (some ⟨g, 0, none⟩) (m + 1) cap, by omega, by rw [show c + (t + 1) = m + 1 by omega], by rw [show pos + (t + 1) = p + 1 by omega]; exact B6, g6, q6, D6, by rw [show c + (t + 1) = m + 1 by omega]; exact own6, kk6, hloc⟩
    · have ylt : (X : Int) ≤ (m : Int) := by omega
      have e : m = X := by omega
      rw [e] at own g1 hat ylt zm
      obtain ⟨gg, cap, hu, hcap, hcap63, _, _, hcl⟩ := own_at own (by omega)
      injection hu with e1 e2 e3
      subst sa; subst sc
      have y1 : (X : Int) ≤ (cap : Int) := by omega
      have y2 : (frm : Int) ≤ (X : Int) := by omega
      have y3 : (0 : Int) ≤ (frm : Int) := by omega
      have y4 : cap - frm ≠ 0 := by omega
      have y5 : cap ≠ frm := by omega
      have y6 : X - frm = many := by omega
      have hb2 : Blk wr b 105 #[.slice da nd dc, .int .i64 ((pos + (X - c) : Nat) : Int), .slice (some ⟨gl, 0, none⟩) 1 lc] := by rw [show pos + (X - c) = pos + t by omega]; exact B
      go_wp2_with fail
      go_ret
      exact ⟨.slice (some ⟨gg, 0, none⟩) X cap, gg, cap - frm, rfl, by omega, rfl, own, hcl, hb2, g1, q1, k, hat⟩
end Go.Proofs.Ytnajihlhcdedgaa

namespace Go.Proofs.Ytnajihlhcdedgaa
open Go.RowKit
set_option linter.unusedVariables false
set_option linter.unusedSimpArgs false
attribute [local simp] blkAt_setCell blkAt_alloc blkAt_drew Obj.put_cells
set_option maxRecDepth 100000 in
set_option maxHeartbeats 4000000 in
theorem ref_Same_r (w : World) (a : Option Addr) (n cap N : Nat) (b : Option Addr) (capb M : Nat) (C0 C1 : Nat → Int) (hn : n ≤ 4096) (hA : SlE w a n cap N C0 C1) (hB : SlE w b n capb M C0 C1) :
    Calls Try.prog 90 #[.slice a n cap, .slice b n capb] w fun e w' => e = .returned (.bool true) ∧ Kept w w' := by
  have yn : (n : Int) ≤ 4096 := by omega
  have hneq := neq28_self
  go_enter Try.func90, Try.ntmps90
  go_wp2_with fail
  go_loopw [5] (fun t wr => ∃ i : Nat, i ≤ n ∧ t = .int .i64 i ∧ Kept w wr) (fun t _ => n - (intOf t).toNat)
  case atStart => exact ⟨0, Nat.zero_le _, rfl, Kept.refl _⟩
  case round =>
    obtain ⟨i, hi, rfl, k⟩ := hrel
    have zi : (0 : Int) ≤ (i : Int) := by omega
    rcases Nat.lt_or_ge i n with hlt | hge
    · have yi : (i : Int) < (n : Int) := by omega
      obtain ⟨p, hip, cp0, cp1, _⟩ := (hA.kept k).at' i hlt
      obtain ⟨q, hiq, cq0, cq1, _⟩ := (hB.kept k).at' i hlt
      generalize C0 i = c0 at *
      generalize C1 i = c1 at *
      go_upto_region 6 with (fail)
      try simp only [List.append_eq, List.cons_append, List.nil_append]
      refine wp_region_wl (fun _ => oneMean 5 #[]) 9 (by kernel_rfl) (by as_aux_lemma => kernel_rfl) _ rfl _ rfl _ _ rfl rfl (fun k0 Lq hLq => ?_)
      dsimp only [List.map_cons, List.map_nil, List.take_succ_cons, List.take_zero, List.drop_succ_cons, List.drop_zero] at hLq ⊢
      repeat (first
        | (refine WL.law _ rfl rfl (by kernel_rfl) rfl rfl (calm_load_elem (.tmp 19) cp0 cp1 rfl rfl) ?_; dsimp only [List.set_cons_zero, List.set_cons_succ])
        | (refine WL.law _ rfl rfl (by kernel_rfl) rfl rfl (calm_load_elem (.tmp 23) cq0 cq1 rfl rfl) ?_; dsimp only [List.set_cons_zero, List.set_cons_succ])
        | (refine WL.skip rfl rfl ?_; dsimp only [List.set_cons_zero, List.set_cons_succ])
        | (refine WL.ex rfl rfl (by kernel_rfl) rfl ?_; apply Exists.intro; refine And.intro (fun w' hk => ?_) (And.intro ?_ ?_); (focus (clear hk; go_simp; exact rfl)); (focus (exact rfl)); dsimp only [List.set_cons_zero, List.set_cons_succ]))
      refine WL.nil (hLq _ ?_)
      clear hLq
      intro a'' V1 hk hra
      obtain rfl := hra.mark0 (by kernel_rfl)
      clear hra
      try simp only [List.drop_succ_cons, List.drop_zero, List.drop_nil]
      have k2 := k.trans hk
      clear cp0 cp1 cq0 cq1 k hk
      go_wp2_with fail
      go_roundw
      case rel => exact ⟨i + 1, by omega, by go_num, k2⟩
      case measure => simp [intOf]; omega
    · have yi : (n : Int) ≤ (i : Int) := by omega
      obtain rfl : n = i := by omega
      go_wp2_with fail
      go_ret
      exact ⟨rfl, k⟩
end Go.Proofs.Ytnajihlhcdedgaa

namespace Go.Proofs.Ytnajihlhcdedgaa
open Go.ChangeShapes Go.WideShapes Go.ChangeAt Go.RowKit
set_option linter.unusedVariables false
set_option linter.unusedSimpArgs false
attribute [local simp] blkAt_setCell blkAt_alloc blkAt_drew Obj.put_cells
/-- A slice of bytes that came in: nil, or with its cells. -/
def DrawsAt (w : World) (a : Option Addr) (n cap : Nat) (C : Nat → Int) : Prop :=
  (a = none ∧ n = 0 ∧ cap = 0) ∨ ∃ ad : Addr, a = some ad ∧ ∀ j, j < n → w.cell? (ad.add j) = some (.int .u8 (C j))
theorem DrawsAt.kept {w w' : World} {a : Option Addr} {n cap : Nat} {C : Nat → Int} (h : DrawsAt w a n cap C) (k : Kept w w') : DrawsAt w' a n cap C := by
  rcases h with h | ⟨ad, h1, h2⟩
  · exact .inl h
  · exact .inr ⟨ad, h1, fun j hj => k.cell (h2 j hj)⟩
theorem DrawsAt.slB {w : World} {a : Option Addr} {n cap : Nat} {C : Nat → Int} (h : DrawsAt w a n cap C) (hC : ∀ j, j < n → 0 ≤ C j ∧ C j ≤ 255) : SlB w a n cap w.heap.size C := by
  refine ⟨fun j hj => ?_, hC⟩
  rcases h with ⟨_, h, _⟩ | ⟨ad, rfl, h2⟩
  · omega
  · exact ⟨_, fun w' => run_index_at Try.underlying42 size5 hj w', h2 j hj, block_lt_of_cell (h2 j hj)⟩
section
variable {H : Type} {enc : TypeId × Value → H} {W : World} {base : Nat} {spare : Nat → Bool} {held : Bool} {v : Value} {d : DataW H} {p : List MemPlace}
set_option maxRecDepth 100000 in
theorem open_bytesO {r : Reach} {b : Nat} (hv : Value.okWide Try.prog W r b 42 v) (h : DataW.Trod enc Try.prog W base spare held 42 v d p) : ∃ (a : Option Addr) (n cap : Nat) (C : Nat → Int), v = .slice a n cap ∧ ((n : Int) ≤ 9223372036854775807 ∧ (∀ j, j < n → 0 ≤ C j ∧ C j ≤ 255) ∧ DrawsAt W a n cap C) := by
  obtain ⟨a0, n0, c0, rfl⟩ : ∃ a n cap, v = .slice a n cap := okWide_slice Try.underlying42 hv
  obtain ⟨fuel, hf⟩ := h
  rcases open_ints Try.underlying42 Try.underlying5 (by kernel_rfl) hf with ⟨h1, _⟩ | ⟨a, len, cap, zs, h1, _, hlc, hcm, hzl, _, hcell, hwf⟩
  · simp only [Value.cells, List.cons.injEq, and_true, Value.slice.injEq] at h1
    obtain ⟨rfl, rfl, rfl⟩ := h1
    exact ⟨none, 0, 0, fun _ => 0, rfl, by omega, fun j hj => absurd hj (Nat.not_lt_zero _), .inl ⟨rfl, rfl, rfl⟩⟩
  · simp only [Value.cells, List.cons.injEq, and_true, Value.slice.injEq] at h1
    obtain ⟨rfl, rfl, rfl⟩ := h1
    have hl : n0 ≤ zs.length := by rw [hzl]; split <;> omega
    refine ⟨some a, n0, c0, fun j => zs.getD j 0, rfl, by unfold maxLen at hcm; omega, fun j hj => ?_, .inr ⟨a, rfl, fun j hj => hcell j (by omega)⟩⟩
    have hj' : j < zs.length := by omega
    have := hwf zs[j] (List.getElem_mem hj')
    show 0 ≤ zs.getD j 0 ∧ zs.getD j 0 ≤ 255
    rw [List.getD_eq_getElem?_getD, List.getElem?_eq_getElem hj']
    simp [Lit.wf, IntKind.min, IntKind.max, IntKind.signed, IntKind.bits] at this
    simp only [Option.getD_some]
    omega
end
/-- A sum that grows by at most one takes each value for a first time. -/
theorem first_at (g : Nat → Nat) (g0 : g 0 = 0) (gs : ∀ k, g (k + 1) ≤ g k + 1) (gm : ∀ k, g k ≤ g (k + 1)) (m : Nat) : ∀ B, m ≤ g B → ∃ K, K ≤ B ∧ g K = m ∧ ∀ k, k < K → g k < m
  | 0, h => ⟨0, Nat.le_refl _, by omega, fun k hk => by omega⟩
  | B + 1, h => by
    have mono : ∀ d k, g k ≤ g (k + d) := fun d => by
      induction d with
      | zero => exact fun k => Nat.le_refl _
      | succ d ih => exact fun k => Nat.le_trans (ih k) (gm (k + d))
    by_cases hB : m ≤ g B
    · obtain ⟨K, h1, h2, h3⟩ := first_at g g0 gs gm m B hB
      exact ⟨K, by omega, h2, h3⟩
    · have := gs B
      refine ⟨B + 1, Nat.le_refl _, by omega, fun k hk => ?_⟩
      have h4 := mono (B - k) k
      rw [show k + (B - k) = B by omega] at h4
      omega
section
variable {D : Nat → Int} {L nd : Nat} {f : Int}
theorem tk_past {k : Nat} (h : nd ≤ k * L) : tk (drawn D nd) L k < rP f := by
  rw [tk_zero fun i hi => ?_]
  · exact rP_pos f
  · unfold drawn
    rw [if_neg (by omega)]
theorem okL_step (D : Nat → Int) (L : Nat) (f : Int) (k : Nat) : (okL D L f (k + 1)).length ≤ (okL D L f k).length + 1 := by
  show (if tk D L k < rP f then okL D L f k ++ [tk D L k] else okL D L f k).length ≤ _
  split
  · simp
  · omega
theorem okL_mono (D : Nat → Int) (L : Nat) (f : Int) (k : Nat) : (okL D L f k).length ≤ (okL D L f (k + 1)).length := by
  show _ ≤ (if tk D L k < rP f then okL D L f k ++ [tk D L k] else okL D L f k).length
  split
  · simp
  · omega
theorem okL_past {k : Nat} (h : nd ≤ k * L) : ∀ m, m ≤ (okL (drawn D nd) L f (k + m)).length
  | 0 => Nat.zero_le _
  | m + 1 => by
    have ih := okL_past h m
    have hk : nd ≤ (k + m) * L := Nat.le_trans h (Nat.mul_le_mul_right L (by omega))
    have e : okL (drawn D nd) L f (k + (m + 1)) = okL (drawn D nd) L f (k + m) ++ [tk (drawn D nd) L (k + m)] := if_pos (tk_past hk)
    rw [e, List.length_append]
    simp
    omega
theorem mis_le (D : Nat → Int) (L : Nat) (f : Int) : ∀ k, mis D L f k ≤ k
  | 0 => Nat.le_refl _
  | k + 1 => by
    have := mis_le D L f k
    show (if tk D L k < rP f then 0 else mis D L f k + 1) ≤ _
    split <;> omega
theorem mis_past {k : Nat} (h : nd ≤ k * L) (j : Nat) : mis (drawn D nd) L f j ≤ k := by
  rcases Nat.lt_or_ge k j with hj | hj
  · obtain ⟨i, rfl⟩ : ∃ i, j = i + 1 := ⟨j - 1, by omega⟩
    have hk : nd ≤ i * L := Nat.le_trans h (Nat.mul_le_mul_right L (by omega))
    have e : mis (drawn D nd) L f (i + 1) = 0 := if_pos (tk_past hk)
    rw [e]
    omega
  · exact Nat.le_trans (mis_le _ _ _ _) hj
theorem vecs_first (hL : 8 ≤ L) (hnd : nd ≤ 400) (m : Nat) : ∃ K, K ≤ 50 + m ∧ (okL (drawn D nd) L f K).length = m ∧ ∀ k, k < K → (okL (drawn D nd) L f k).length < m :=
  first_at _ rfl (okL_step _ _ _) (okL_mono _ _ _) m (50 + m) (okL_past (Nat.le_trans hnd (by omega)) m)
end
theorem drawn_byte {C : Nat → Int} {nd : Nat} (hC : ∀ j, j < nd → 0 ≤ C j ∧ C j ≤ 255) (j : Nat) : isByte (drawn C nd j) := by
  unfold drawn isByte
  split
  · have := hC j (by omega)
    omega
  · omega
/-- The reference's oracle between two readings: p bytes read. -/
structure RefO (w0 WV W : World) (b gl lc : Nat) (da : Option Addr) (nd dc : Nat) (C : Nat → Int) (B0 p : Nat) (u : Value) : Prop where
  blk : Blk W b 105 #[.slice da nd dc, .int .i64 (p : Int), .slice (some ⟨gl, 0, none⟩) 1 lc]
  cell : W.cell? ⟨gl, 1, none⟩ = some u
  free : W.frozen? ⟨gl, 1, none⟩ = false
  own : W.ownsRow B0 5 1 u p (bytesR p (drawn C nd))
  base : B0 ≤ W.heap.size
  kept : Kept WV W
  hb : WV.heap.size ≤ b
  hgb : b < gl
  hgB : gl < B0
theorem RefO.chg {w0 WV W W' : World} {b gl lc : Nat} {da : Option Addr} {nd dc : Nat} {C : Nat → Int} {B0 p : Nat} {u : Value} {T : Nat → Prop} (h : RefO w0 WV W b gl lc da nd dc C B0 p u) (k : Chg T W W') (h1 : ∀ i, u.ownBlock = some i → ¬ T i) (h2 : ∀ i, T i → B0 ≤ i) : RefO w0 WV W' b gl lc da nd dc C B0 p u where
  blk := k.blk h.blk (fun hb => by have := h2 _ hb; have := h.hgb; have := h.hgB; omega)
  cell := k.cell h.cell (fun hb => by have h9 : B0 ≤ gl := h2 _ hb; have := h.hgB; omega)
  free := (k.frozen (block_lt_of_cell h.cell) (fun hb => by have h9 : B0 ≤ gl := h2 _ hb; have := h.hgB; omega)).trans h.free
  own := k.own h.own h1
  base := Nat.le_trans h.base k.size
  kept := ((Chg.of_kept (S := T) h.kept).trans k fun _ _ h => h).kept (fun i hi ht => by have := h2 _ ht; have := h.hgB; have := h.hgb; have := h.hb; omega)
  hb := h.hb
  hgb := h.hgb
  hgB := h.hgB
theorem RefO.kept' {w0 WV W W' : World} {b gl lc : Nat} {da : Option Addr} {nd dc : Nat} {C : Nat → Int} {B0 p : Nat} {u : Value} (h : RefO w0 WV W b gl lc da nd dc C B0 p u) (k : Kept W W') : RefO w0 WV W' b gl lc da nd dc C B0 p u :=
  h.chg (Chg.of_kept (S := fun _ => False) k) (fun _ _ h => h) (fun _ h => h.elim)
set_option maxRecDepth 100000 in
set_option maxHeartbeats 2000000 in
theorem xof_vecs_r (w : World) (da : Option Addr) (nd dc : Nat) (C : Nat → Int) (hd63 : (nd : Int) ≤ 9223372036854775807) (hC : ∀ j, j < nd → 0 ≤ C j ∧ C j ≤ 255) (hDA : DrawsAt w da nd dc C) (n many f : Int) (hF : Pure Try.prog 77 #[.int .u8 n] (.int .u8 f)) (hf : isF f) (mv : Nat) (HR : Hid (wrap64 ((IntKind.u64.wrap many).tmod 20) = (mv : Int))) (hmv : mv < 20) :
    Calls Try.prog 19 #[.slice da nd dc, .int .u8 n, .int .i64 many] w fun e w' => e = .returned (.bool true) ∧ Kept w w' := by
  have HA := Lib.hid x_Awake
  have HF := Lib.hid hF
  obtain ⟨L, hL⟩ : ∃ L : Nat, (L : Int) = 8 * f := ⟨(8 * f).toNat, by unfold isF at hf; omega⟩
  have HS0 := f_Size hf
  rw [← hL] at HS0
  have HS := Lib.hid HS0
  have hL0 : 8 ≤ L := by unfold isF at hf; omega
  have h16 : L ≤ 16 := by unfold isF at hf; omega
  have hwf : IntKind.i64.wrap f = f := IntWalk.i64_in _ (by unfold isF at hf; omega)
  have HL := Lib.hid hL
  clear HS0 hF hL
  go_enter Try.func19, Try.ntmps19
  go_wp2_with fail
  refine (HA.out _).mono ?_
  rintro e W1 ⟨rfl, k1⟩
  by_cases h400 : (400 : Int) < (nd : Int)
  · go_wp2_with fail
    go_ret
    exact ⟨rfl, k1⟩
  have y400 : (nd : Int) ≤ 400 := by omega
  clear h400
  go_wp2_with fail
  refine (HF.out _).mono ?_
  rintro e W2 ⟨rfl, hk⟩
  have k2 := k1.trans hk
  clear k1 hk
  go_wp2_with fail
  refine (HF.out _).mono ?_
  rintro e W3 ⟨rfl, hk⟩
  have k3 := k2.trans hk
  clear k2 hk
  have HO := Lib.hid (x_Oracle W3 da nd dc C (by omega) (hDA.kept k3) hC)
  go_wp2_with fail
  refine HO.out.mono ?_
  rintro e W4 ⟨bo, M, da2, dc2, rfl, hM, o1, hk⟩
  have k4 := k3.trans hk
  have lMb := o1.lt
  have lb4 := o1.blk.lt
  have sz3 := k3.size
  clear k3 hk HO
  go_wp2_with fail
  refine (oracle_stream W4 bo M da2 nd dc2 C o1 116).mono ?_
  rintro e W5 ⟨x, av, rfl, hx, hxl, X1, o2, ch⟩
  have st0 := StO_start L X1 o2
  have hS := strLaw_O (q := qOf 116) (da := da2) (dc := dc2) (D := C) (av := av) (by omega : 0 < L) h16 lMb (by omega : bo < x) hxl (by omega : nd ≤ 1000000) W5.heap.size 100 (by omega) (Nat.le_trans (Nat.mul_le_mul_left 101 h16) (by omega))
  have k5 : Kept w W5 := ((Chg.of_kept (S := fun i => i = bo ∨ i = M) k4).trans ch fun _ _ h => h).kept (fun i hi h => by omega)
  clear k4 ch o1 X1 o2
  obtain ⟨K, hK, hKe, hKl⟩ := vecs_first (D := C) (f := f) hL0 (by omega : nd ≤ 400) mv
  have HKE := Lib.hid hKe
  have HKL := Lib.hid hKl
  clear hKe hKl
  have hnd8 : nd ≤ 50 * L := by omega
  have HV := Lib.hid (x_Vec_ok W5 x f hf L HL.out (drawn C nd) (Lib.hid (drawn_byte hC)) 100 _ W5.heap.size (Nat.le_refl _) hS _ 0 (by omega) st0 mv K (by omega) (by omega) (by omega) (Lib.hid HKL.out) (Lib.hid fun j _ => Nat.lt_of_le_of_lt (mis_past hnd8 j) (by omega)) HKE.out)
  go_wp2_with fail
  rw [HR.out]
  refine HV.out.mono ?_
  rintro e W6 ⟨v6, S6, rfl, own6, _, st6, ch6, _⟩
  have cx := hS.cell _ _ _ _ st6
  have k6 : Kept w W6 := ((Chg.of_kept (S := fun j => j = bo ∨ j = M ∨ j = x ∨ (Value.slice none 0 0).ownBlock = some j) k5).trans ch6 fun _ _ h => h).kept (fun i hi h => by
    rcases h with h | h | h | h
    · omega
    · omega
    · omega
    · cases h)
  unfold elemsV at own6
  rw [HKE.out] at own6
  obtain ⟨va, vc, rfl, A6⟩ := SlE.of_own own6
  have D6 := (hDA.slB hC).kept k6
  have cx : W6.cell? ⟨x, 4, none⟩ = some (.int .i64 ((K - mv : Nat) : Int)) := by rw [cx, HKE.out, Int.zero_add]
  have sz6 := k6.size
  clear k5 ch6 HV hS st0 st6 own6
  obtain ⟨b, hb⟩ : ∃ g, W6.heap.size = g := ⟨_, rfl⟩
  go_upto_region 10 with (fail)
  try simp only [hb]
  refine abs_world (fun W => Kept W6 W ∧ Blk W b 105 #[.slice da nd dc, .int .i64 0, .slice none 0 0]) ⟨(Kept.refl W6).alloc _, by rw [← hb]; exact Blk.new _ _ _⟩ ?_
  rintro W7 ⟨k7, B7⟩
  have l7 := B7.lt
  go_wp2_with fail
  refine (r_Find W7 b da nd dc B7 ⟨#[113]⟩).mono ?_
  rintro e W8 ⟨gl, lc, rfl, hgl, B8, _, g8, q8, hlc, hlc63, ch8⟩
  have k8 : Kept W6 W8 := ((Chg.of_kept (S := fun j => j = b) k7).trans ch8 fun _ _ h => h).kept (fun i hi h => by omega)
  have lgl := block_lt_of_cell g8
  have s8 : RefO w W6 W8 b gl lc da nd dc C W8.heap.size 0 (.slice none 0 0) := ⟨B8, g8, q8, World.ownsRow_nil _ _ _ _, Nat.le_refl _, k8, by omega, by omega, lgl⟩
  obtain ⟨B0, hB0⟩ : ∃ g, W8.heap.size = g := ⟨_, rfl⟩
  rw [hB0] at s8
  clear k7 B7 B8 g8 q8 ch8 k8
  go_wp2_with fail
  go_loopg [15, 16, 17] K (fun gk fr sk v wr => ∃ (k p : Nat) (u : Value), k ≤ K ∧ k * L = p ∧ gk = K - k ∧ fr = .int .i64 (p : Int) ∧ sk = .int .i64 ((k - (okL (drawn C nd) L f k).length : Nat) : Int) ∧ RefO w W6 wr b gl lc da nd dc C B0 p u ∧
    wr.ownsRow B0 28 2 v ((okL (drawn C nd) L f k).length) (elemsV (okL (drawn C nd) L f k)) ∧ (∀ g, v.ownBlock = some g → u.ownBlock ≠ some g))
  case atStart => exact ⟨0, 0, _, Nat.zero_le _, Nat.zero_mul _, rfl, rfl, rfl, s8, World.ownsRow_nil _ _ _ _, fun g hg => by cases hg⟩
  case round =>
    clear s8 hB0
    obtain ⟨k, p, u, hkK0, hp, hgk, rfl, rfl, s, own, hdis⟩ := hrel
    have hlk := okL_le (drawn C nd) L f k
    rcases Nat.lt_or_ge k K with hkK | hge
    · have hlt := HKL.out k hkK
      have ylt : ((okL (drawn C nd) L f k).length : Int) < (mv : Int) := by omega
      obtain ⟨wa, wc, rfl⟩ := own_form28 own
      obtain ⟨X, hX⟩ : ∃ X, p + L = X := ⟨_, rfl⟩
      have HX : Hid ((k + 1) * L = X) := Lib.hid (by rw [Nat.succ_mul, hp, hX])
      have hX2 : X ≤ 1200 := by rw [← HX.out]; exact Nat.le_trans (Nat.mul_le_mul (by omega : k + 1 ≤ 70) h16) (by omega)
      have HP := Lib.hid hp
      have hwX : IntKind.i64.wrap ((p : Int) + (L : Int)) = (X : Int) := by rw [IntWalk.i64_in _ (by omega)]; omega
      have hws : IntKind.i64.wrap (((k - (okL (drawn C nd) L f k).length : Nat) : Int) + 1) = ((k - (okL (drawn C nd) L f k).length + 1 : Nat) : Int) := by rw [IntWalk.i64_in _ (by omega)]; omega
      clear hp
      go_wp2_with fail
      refine (HS.out _).mono ?_
      rintro e W2' ⟨rfl, hk2⟩
      have s2 := s.kept' hk2
      have own2 := ownsRow_kept own hk2
      clear s own hk2
      have HRd := Lib.hid (r_Read W2' b gl lc da nd dc w.heap.size C p s2.blk hlc (D6.kept s2.kept) (by have := s2.hb; omega) u s2.cell s2.free (by have := s2.hgb; omega) s2.hgb B0 p p L X (drawn C nd) hX s2.own s2.hgB s2.base (by omega) (by omega) (by omega) (by omega) (by omega) (Lib.hid fun j h1 h2 => by rw [show p + (j - p) = j by omega]))
      go_wp2_with fail
      refine HRd.out.mono ?_
      rintro e W3' ⟨u3, ug, uc, rfl, huc, hu3, own3r, hcl3, B3, g3, q3, ch3, hat3⟩
      rw [show p + (X - p) = X by omega] at B3
      have s3 : RefO w W6 W3' b gl lc da nd dc C B0 X u3 := ⟨B3, g3, q3, own3r, Nat.le_trans s2.base ch3.size, ((Chg.of_kept (S := fun j => j = b ∨ j = gl ∨ u.ownBlock = some j) s2.kept).trans ch3 fun _ _ h => h).kept (fun i hi h => by
        have h1 := s2.hb
        have h2 := s2.hgb
        rcases h with h | h | h
        · omega
        · omega
        · have := (own_lt s2.own h).1
          have := s2.hgB
          omega), s2.hb, s2.hgb, s2.hgB⟩
      have own3 := ch3.own own2 (fun g hg h => by
        have h1 := (own_lt own2 hg).1
        have h2 := s2.hgb
        have h3 := s2.hgB
        rcases h with h | h | h
        · omega
        · omega
        · exact hdis g hg h)
      have hdis3 : ∀ g, (Value.slice wa ((okL (drawn C nd) L f k).length) wc).ownBlock = some g → u3.ownBlock ≠ some g := fun g hg h => by
        rcases hat3 g h with h2 | h2
        · exact hdis g hg h2
        · have := (own_lt own2 hg).2
          omega
      have lug := (own_lt own3r hu3).2
      have hpl := pieceL_length (drawn C nd) L k
      have HT := ref_Take hf (bs := pieceL (drawn C nd) L k) (b := ug) (o := p) (cap := uc) (by rw [hpl]; exact h16) (by
        intro z hz
        obtain ⟨j, _, rfl⟩ := List.mem_map.1 hz
        exact drawn_byte hC _) W3' lug (fun j hj => by
        rw [hpl] at hj
        rw [pieceL_getD (drawn C nd) L k hj, HP.out]
        exact hcl3 (p + j) (by omega))
      rw [hpl] at HT
      have htk : leVal (pieceL (drawn C nd) L k) = tk (drawn C nd) L k := rfl
      rw [htk] at HT
      clear s2 own2 own3r hcl3 B3 g3 q3 ch3 hat3 HRd
      go_wp2_with fail
      by_cases hok : tk (drawn C nd) L k < rP f
      · skip
        have HO : Hid (okL (drawn C nd) L f (k + 1) = okL (drawn C nd) L f k ++ [tk (drawn C nd) L k]) := Lib.hid (if_pos hok)
        rw [if_pos hok] at HT
        obtain ⟨r0, hr0⟩ : ∃ r, tk (drawn C nd) L k % 18446744073709551616 = r := ⟨_, rfl⟩
        obtain ⟨r1, hr1⟩ : ∃ r, tk (drawn C nd) L k / 18446744073709551616 = r := ⟨_, rfl⟩
        have hE : E (tk (drawn C nd) L k) = .agg #[.int .u64 r0, .int .u64 r1] := by rw [E_pair, hr0, hr1]
        rw [hE] at HT
        have yk : decide (tk (drawn C nd) L k < rP f) = true := decide_eq_true hok
        rw [yk] at HT
        have HT := Lib.hid HT
        have HR : Hid (elemsV (okL (drawn C nd) L f (k + 1)) = elemsV (okL (drawn C nd) L f k) ++ [.int .u64 r0, .int .u64 r1]) := Lib.hid (by rw [HO.out, elemsV_append, hr0, hr1])
        clear hr0 hr1 hE yk
        refine HT.out.mono ?_
        rintro e W4 ⟨rfl, hk4⟩
        have s4 := s3.kept' hk4
        have own4 := ownsRow_kept own3 hk4
        clear s3 own3 hk4 HT
        obtain ⟨g18, hg18⟩ : ∃ g, W4.heap.size = g := ⟨_, rfl⟩
        go_upto_region 14 with (fail)
        try simp only [hg18]
        refine abs_world (fun W => Kept W4 W ∧ Blk W g18 28 #[.int .u64 r0, .int .u64 r1]) ⟨?_, ?_⟩ ?_
        · have nw8 : W4.heap.size ≤ g18 := by omega
          repeat (first | exact Kept.refl _ | (refine Kept.setCell ?_ (kept_side (by first | assumption | omega)) _) | apply Kept.alloc | apply Kept.drew)
        · simp [Blk, *]
        clear hg18
        rintro W5 ⟨hk5, B18⟩
        have s5 := s4.kept' hk5
        have own5 := ownsRow_kept own4 hk5
        clear s4 own4 hk5
        go_wp2_with fail
        refine (HS.out _).mono ?_
        rintro e W6 ⟨rfl, hk6⟩
        have s6 := s5.kept' hk6
        have own6 := ownsRow_kept own5 hk6
        have B186 := B18.kept hk6
        clear s5 own5 hk6 B18
        have d0 := B186.cell 0 rfl
        have d1 := B186.cell 1 rfl
        go_wp2_with (at_builtin; refine append_elem own6 r0 r1 (by omega) s6.base (.tmp 70) (.tmp 72) rfl rfl rfl rfl ?_; intro v7 W7 own7 gr7 at7)
        have kg := chg_grown gr7
        have s7 := s6.chg kg (fun i hi h => hdis3 i h hi) (fun i h => (own_lt own6 h).1)
        have hdis7 : ∀ g, v7.ownBlock = some g → u3.ownBlock ≠ some g := fun g hg h => by
          rcases at7 with h2 | h2
          · exact hdis3 g (by rw [← h2]; exact hg) h
          · rw [h2] at hg
            have := (own_lt s6.own h).2
            have e : W6.heap.size + 1 = g := Option.some.inj hg
            omega
        clear s6 own6 kg gr7 at7 d0 d1 B186
        go_wp2_with fail
        go_roundg (K - (k + 1))
        case measure => omega
        case rel =>
          have hlen : (okL (drawn C nd) L f (k + 1)).length = (okL (drawn C nd) L f k).length + 1 := by rw [HO.out]; simp
          refine ⟨k + 1, X, u3, by omega, HX.out, rfl, rfl, ?_, s7, ?_, hdis7⟩
          · have e : (k + 1 - (okL (drawn C nd) L f (k + 1)).length : Nat) = k - (okL (drawn C nd) L f k).length := by rw [hlen]; omega
            rw [e]
          · rw [HR.out, hlen]
            exact own7
      · skip
        have HO : Hid (okL (drawn C nd) L f (k + 1) = okL (drawn C nd) L f k) := Lib.hid (if_neg hok)
        rw [if_neg hok, E_nought] at HT
        have yk : decide (tk (drawn C nd) L k < rP f) = false := decide_eq_false hok
        rw [yk] at HT
        have HT := Lib.hid HT
        clear yk
        refine HT.out.mono ?_
        rintro e W4 ⟨rfl, hk4⟩
        have s4 := s3.kept' hk4
        have own4 := ownsRow_kept own3 hk4
        clear s3 own3 hk4 HT
        obtain ⟨g18, hg18⟩ : ∃ g, W4.heap.size = g := ⟨_, rfl⟩
        go_upto_region 14 with (fail)
        try simp only [hg18]
        refine abs_world (fun W => Kept W4 W ∧ Blk W g18 28 #[.int .u64 0, .int .u64 0]) ⟨?_, ?_⟩ ?_
        · have nw8 : W4.heap.size ≤ g18 := by omega
          repeat (first | exact Kept.refl _ | (refine Kept.setCell ?_ (kept_side (by first | assumption | omega)) _) | apply Kept.alloc | apply Kept.drew)
        · simp [Blk, *]
        clear hg18
        rintro W5 ⟨hk5, B18⟩
        have s5 := s4.kept' hk5
        have own5 := ownsRow_kept own4 hk5
        clear s4 own4 hk5
        go_wp2_with fail
        refine (HS.out _).mono ?_
        rintro e W6 ⟨rfl, hk6⟩
        have s6 := s5.kept' hk6
        have own6 := ownsRow_kept own5 hk6
        have B186 := B18.kept hk6
        clear s5 own5 hk6 B18
        go_wp2_with fail
        go_roundg (K - (k + 1))
        case measure => omega
        case rel =>
          refine ⟨k + 1, X, u3, by omega, HX.out, rfl, rfl, ?_, s6, by rw [HO.out]; exact own6, hdis3⟩
          rw [HO.out]
          have e : (k + 1 - (okL (drawn C nd) L f k).length : Nat) = k - (okL (drawn C nd) L f k).length + 1 := by omega
          rw [e]
          exact congrArg (Value.int IntKind.i64) (by omega)
    · skip
      obtain rfl : k = K := by omega
      have hl : (okL (drawn C nd) L f k).length = mv := HKE.out
      unfold elemsV at own
      rw [hl] at own
      rw [hl]
      obtain ⟨wa, wc, rfl, A9⟩ := SlE.of_own own
      have cx9 := s.kept.cell cx
      have A69 := A6.kept s.kept
      have k9 := k6.trans s.kept
      have HSm := Lib.hid (ref_Same_r wr va mv vc _ wa wc _ _ _ (by omega) A69 A9)
      clear own hdis s A9 A69 cx A6 hgk hlk hge
      go_wp2_with fail
      refine HSm.out.mono ?_
      rintro e W10 ⟨rfl, hk⟩
      have k10 := k9.trans hk
      have cx10 := hk.cell cx9
      clear hk cx9 k9 HSm
      go_wp2_with fail
      refine (x_Skipped W10 x _ cx10).mono ?_
      rintro e W11 ⟨rfl, hk⟩
      have k11 := k10.trans hk
      clear hk cx10
      go_wp2_with fail
      go_ret
      exact ⟨rfl, k11⟩
theorem xofVecs_walk (a : Option Addr) (nd cap : Nat) (C : Nat → Int) (n : Int) (wn : (Lit.int .u8 n).wf = true) (many : Int) (wm : (Lit.int .i64 many).wf = true) (w : World) (hs : (nd : Int) ≤ 9223372036854775807 ∧ (∀ j, j < nd → 0 ≤ C j ∧ C j ≤ 255) ∧ DrawsAt w a nd cap C) :
    Calls Try.prog 19 #[.slice a nd cap, .int .u8 n, .int .i64 many] w fun e w' => e = .returned (.bool true) ∧ Kept w w' := by
  simp [Lit.wf, IntKind.min, IntKind.max, IntKind.signed, IntKind.bits] at wn wm
  have hF := f_F (n := n) (by omega) (by omega)
  have hf := isF_fOf (n := n) (by omega)
  have e : IntKind.u64.wrap many = many % 18446744073709551616 := by simp [IntKind.wrap, IntKind.bits, IntKind.signed]
  exact xof_vecs_r w a nd cap C hs.1 hs.2.1 hs.2.2 n many (fOf n) hF hf (many % 18446744073709551616 % 20).toNat (Lib.hid (by rw [e, Int.tmod_eq_emod_of_nonneg (by omega), IntWalk.wrap64_in _ (by omega)]; omega)) (by omega)
end Go.Proofs.Ytnajihlhcdedgaa
