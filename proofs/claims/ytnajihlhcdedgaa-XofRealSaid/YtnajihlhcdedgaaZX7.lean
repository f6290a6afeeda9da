/-
  A stream of an oracle: of a question that is new, of one that was asked.
-/
import Derived.Test.YtnajihlhcdedgaaZX6
namespace Go.Proofs.Ytnajihlhcdedgaa
open Go.RowKit
set_option linter.unusedVariables false
set_option linter.unusedSimpArgs false
attribute [local simp] blkAt_setCell blkAt_alloc blkAt_drew Obj.put_cells

theorem size77x : (Try.prog.info? 77).map (·.size) = some 16 := by kernel_rfl
theorem info9 : (Try.prog.info? 9).map (fun i => (i.zero, i.size, i.bytes)) = some (some (.string ⟨#[]⟩), 1, 16) := by kernel_rfl
section
variable {ops : Array Oper} {rest : List Oper} {o : Oper} {a : Act} {Q : Exit → Act → World → Prop} {wr : World} {base : Nat} {v : Value} {n : Nat} {xs : List Value}
/-- A string appended to a row of strings; it lies in a block that was just made. -/
theorem append_str1 (hown : wr.ownsRow base 9 1 v n xs) (q : ByteArray) (hn : n ≤ 1000000) (hbase : base ≤ wr.heap.size) (s x : Operand) (hgd : o.guard = none) (ho : o.op = .call { callee := .builtin .append, args := #[s, x], argTypes := #[86, 86] })
    (hs : a.eval s = v) (hx : a.eval x = .slice (some ⟨wr.heap.size, 0, none⟩) 1 1)
    (h : ∀ v' w', w'.ownsRow base 9 1 v' (n + 1) (xs ++ [.string q]) → wr.grownBy w' v.ownBlock → (v'.ownBlock = v.ownBlock ∨ v'.ownBlock = some (wr.heap.size + 1)) → wpList Try.prog ops Q rest (a.put o.dst v') w') :
    wpList Try.prog ops Q (o :: rest) a (wr.alloc (.cells #[.string q] 9)) := by
  obtain ⟨i, hi, hz0, hz1, hz2⟩ := info_parts info9
  refine wpList_append_own_at _ hgd s x 86 ho base 9 i _ 1 16 Try.underlying86 hi hz0 hz1 hz2 rfl (by decide) v n xs hs (hown.alloc _) ⟨wr.heap.size, 0, none⟩ 1 1 [.string q] hx rfl (cell_one_new _ _ _) (by simp [Value.oneCell']) (by unfold maxLen; omega) (by omega) (by simp; omega) ?_
  intro v' w' h2 h3 _ h5
  refine h v' w' h2 ⟨h3.os, h3.tape, h3.output, Nat.le_trans (by simp) h3.size, fun k hk hne => ?_⟩ (by simpa using h5)
  rw [h3.block k (by simp; omega) hne]
  exact heap_alloc_old wr _ hk
end
/-- A stream of an oracle: its block. -/
abbrev OStr (w : World) (x b : Nat) (Q : ByteArray) (at' : Nat) (skip : Int) : Prop := Blk w x 146 #[.pointer (some ⟨b, 0, none⟩), .pointer none, .string Q, .int .i64 (at' : Int), .int .i64 skip]
theorem Orc.chg {S : Nat → Prop} {w w' : World} {b M : Nat} {da : Option Addr} {nd dc : Nat} {D : Nat → Int} {pos : Nat} {es : Array MapEntry} {ck : Nat} {av : Value} (h : Orc w b M da nd dc D pos es ck av) (k : Chg S w w') (hb : ¬ S b) (hM : ∀ i, i ≤ M → ¬ S i) : Orc w' b M da nd dc D pos es ck av :=
  ⟨k.blk h.blk hb, k.heap h.map (hM M (Nat.le_refl _)), h.lt, k.slB h.draws fun i hi => hM i (Nat.le_of_lt hi)⟩
set_option maxRecDepth 100000 in
set_option maxHeartbeats 1000000 in
theorem x_Stream_old (w : World) (b M : Nat) (da : Option Addr) (nd dc : Nat) (D : Nat → Int) (pos : Nat) (es : Array MapEntry) (ck : Nat) (av : Value) (ho : Orc w b M da nd dc D pos es ck av)
    (T : ByteArray) (hT : T.size ≤ 255) (U : Int) (S : Nat → Int) (Qs : ByteArray)
    (HQ : Hid (∀ W, Kept w W → Calls Try.prog 129 #[.string T, .int .u16 U, .agg (rowF 16 (fun j => .int .u8 (S j))), .slice none 0 0] W fun e w' => e = .returned (.string Qs) ∧ Kept W w')) (u : Value) (i : Nat) (hf : Instr.findNow .string (.string Qs) es.toList 0 = some (some (i, u))) :
    Calls Try.prog 71 #[.pointer (some ⟨b, 0, none⟩), .string T, .int .u16 U, .agg (rowF 16 (fun j => .int .u8 (S j))), .slice none 0 0] w fun e w' => ∃ x, e = .returned (.pointer (some ⟨x, 0, none⟩)) ∧ w.heap.size ≤ x ∧ OStr w' x b Qs 0 0 ∧ Kept w w' := by
  obtain ⟨g8, hg8⟩ : ∃ g, w.heap.size = g := ⟨_, rfl⟩
  have nw8 : w.heap.size ≤ g8 := by omega
  have yT : (T.size : Int) ≤ 255 := by omega
  go_enter Try.func71, Try.ntmps71
  go_upto_region 3 with (fail)
  try simp only [hg8]
  refine abs_world (fun W => Kept w W ∧ Blk W g8 77 (rowF 16 (fun j => .int .u8 (S j)))) ⟨?_, ?_⟩ ?_
  · repeat (first | exact Kept.refl _ | (refine Kept.setCell ?_ (kept_side (by first | assumption | omega)) _) | apply Kept.alloc | apply Kept.drew)
  · simp [Blk, *] <;> omega
  clear hg8
  rintro W1 ⟨k1, B1⟩
  go_wp2_with (refine wpList_load_part 77 (.tmp 8) B1 (Nat.le_refl _) Try.underlying77 size77x rfl rfl rfl ?_)
  refine (HQ.out _ k1).mono ?_
  rintro e W2 ⟨rfl, hk⟩
  have k2 := k1.trans hk
  clear k1 B1 hk
  obtain ⟨x, hx⟩ : ∃ g, W2.heap.size = g := ⟨_, rfl⟩
  have nwx : w.heap.size ≤ x := hx ▸ k2.size
  have ltb := ho.blk.lt
  have ltM := ho.lt
  have nex : b ≠ x := by omega
  have nex' : x ≠ b := nex.symm
  go_upto_region 5 with (fail)
  try simp only [hx]
  refine abs_world (fun W => Kept W2 W ∧ Blk W x 146 #[.pointer (some ⟨b, 0, none⟩), .pointer none, .string Qs, .int .i64 0, .int .i64 0]) ⟨?_, ?_⟩ ?_
  · have nw9 : W2.heap.size ≤ x := by omega
    repeat (first | exact Kept.refl _ | (refine Kept.setCell ?_ (kept_side (by first | assumption | omega)) _) | apply Kept.alloc | apply Kept.drew)
  · simp [Blk, *] <;> omega
  clear hx
  rintro W3 ⟨hk, B3⟩
  have k3 := k2.trans hk
  have o3 := ho.kept k3
  clear k2 hk
  have c0 := o3.blk.cell 0 rfl
  have c3 := o3.blk.cell 3 rfl
  have hl := run_lookup_yes_ok o3.map hf
  go_wp2_with fail
  go_ret
  exact ⟨x, rfl, nwx, B3, k3⟩
set_option maxRecDepth 100000 in
set_option maxHeartbeats 1000000 in
theorem x_Stream_new (w : World) (b M : Nat) (da : Option Addr) (nd dc : Nat) (D : Nat → Int) (pos : Nat) (es : Array MapEntry) (ck : Nat) (av : Value) (ho : Orc w b M da nd dc D pos es ck av)
    (T : ByteArray) (hT : T.size ≤ 255) (U : Int) (S : Nat → Int) (Qs : ByteArray)
    (HQ : Hid (∀ W, Kept w W → Calls Try.prog 129 #[.string T, .int .u16 U, .agg (rowF 16 (fun j => .int .u8 (S j))), .slice none 0 0] W fun e w' => e = .returned (.string Qs) ∧ Kept W w')) (hf : Instr.findNow .string (.string Qs) es.toList 0 = some none) (na : Nat) (xa : List Value) (hna : na ≤ 1000000) (hav : w.ownsRow (b + 1) 9 1 av na xa) :
    Calls Try.prog 71 #[.pointer (some ⟨b, 0, none⟩), .string T, .int .u16 U, .agg (rowF 16 (fun j => .int .u8 (S j))), .slice none 0 0] w fun e w' => ∃ x av', e = .returned (.pointer (some ⟨x, 0, none⟩)) ∧ w.heap.size ≤ x ∧ OStr w' x b Qs 0 0 ∧ Orc w' b M da nd dc D pos (es.push { key := .string Qs, val := .slice none 0 0, born := ck }) (ck + 1) av' ∧
      w'.ownsRow (b + 1) 9 1 av' (na + 1) (xa ++ [.string Qs]) ∧ (∀ g, av'.ownBlock = some g → g ≠ x) ∧ Chg (fun i => i = b ∨ i = M ∨ av.ownBlock = some i) w w' := by
  obtain ⟨g8, hg8⟩ : ∃ g, w.heap.size = g := ⟨_, rfl⟩
  have nw8 : w.heap.size ≤ g8 := by omega
  have yT : (T.size : Int) ≤ 255 := by omega
  go_enter Try.func71, Try.ntmps71
  go_upto_region 3 with (fail)
  try simp only [hg8]
  refine abs_world (fun W => Kept w W ∧ Blk W g8 77 (rowF 16 (fun j => .int .u8 (S j)))) ⟨?_, ?_⟩ ?_
  · repeat (first | exact Kept.refl _ | (refine Kept.setCell ?_ (kept_side (by first | assumption | omega)) _) | apply Kept.alloc | apply Kept.drew)
  · simp [Blk, *] <;> omega
  clear hg8
  rintro W1 ⟨k1, B1⟩
  go_wp2_with (refine wpList_load_part 77 (.tmp 8) B1 (Nat.le_refl _) Try.underlying77 size77x rfl rfl rfl ?_)
  refine (HQ.out _ k1).mono ?_
  rintro e W2 ⟨rfl, hk⟩
  have k2 := k1.trans hk
  clear k1 B1 hk
  obtain ⟨x, hx⟩ : ∃ g, W2.heap.size = g := ⟨_, rfl⟩
  have nwx : w.heap.size ≤ x := hx ▸ k2.size
  have ltb := ho.blk.lt
  have ltM := ho.lt
  have nex : b ≠ x := by omega
  have nex' : x ≠ b := nex.symm
  go_upto_region 5 with (fail)
  try simp only [hx]
  refine abs_world (fun W => Kept W2 W ∧ Blk W x 146 #[.pointer (some ⟨b, 0, none⟩), .pointer none, .string Qs, .int .i64 0, .int .i64 0]) ⟨?_, ?_⟩ ?_
  · have nw9 : W2.heap.size ≤ x := by omega
    repeat (first | exact Kept.refl _ | (refine Kept.setCell ?_ (kept_side (by first | assumption | omega)) _) | apply Kept.alloc | apply Kept.drew)
  · simp [Blk, *] <;> omega
  clear hx
  rintro W3 ⟨hk, B3⟩
  have k3 := k2.trans hk
  have o3 := ho.kept k3
  clear k2 hk
  have c0 := o3.blk.cell 0 rfl
  have c3 := o3.blk.cell 3 rfl
  have hl := run_lookup_no_ok o3.map hf
  have hu := run_putNew (v := .slice none 0 0) o3.map hf
  have hav3 := ownsRow_kept hav k3
  have hal : ∀ g, av.ownBlock = some g → b + 1 ≤ g ∧ g < w.heap.size := fun g hg => own_lt hav hg
  go_upto_region 12 with (fail)
  refine abs_world (fun W => Chg (fun i => i = M) W3 W ∧ W.heap[M]? = some (.map (es.push { key := .string Qs, val := .slice none 0 0, born := ck }) (ck + 1))) ⟨chg_putMap _ _ _, putMap_at _ _ (by have := o3.blk.lt; omega)⟩ ?_
  clear hl hu c0 c3
  rintro W4 ⟨k4, hM4⟩
  have B4 := k4.blk o3.blk (by omega)
  have X4 := k4.blk B3 (by omega)
  have d4 := k4.slB o3.draws (fun i hi => by omega)
  have hav4 := k4.own hav3 (fun g hg => by have := hal g hg; omega)
  have kk4 : Chg (fun i => i = b ∨ i = M ∨ av.ownBlock = some i) w W4 := (Chg.of_kept k3).trans k4 fun i _ h => .inr (.inl h)
  have hsz : b + 1 ≤ W4.heap.size := by have := B4.lt; omega
  clear B3 o3 k4 hav3 k3
  have c4 := B4.cell 4 rfl
  go_wp2_with (at_builtin; refine append_str1 hav4 Qs (by omega) hsz (.tmp 73) (.tmp 75) rfl rfl rfl rfl ?_; intro v5 W5 own5 gr5 at5; have B5 := grown_blk B4 hav4 gr5 (Nat.lt_succ_self b); have c5 := B5.cell 4 rfl; have f5 := B5.free; have own6 := own5; obtain ⟨a5, n5, p5, rfl⟩ := ownsRow_slice own5)
  go_ret
  have kg := chg_grown gr5
  have X5 := kg.blk X4 (fun h => by have := hal x h; omega)
  have M5 := kg.heap hM4 (fun h => by have := hal M h; omega)
  have d5 := kg.slB d4 (fun i hi h => by have := hal i h; omega)
  have ks := chg_set W5 b 4 (.slice a5 n5 p5)
  have at6 : ∀ g, (Value.slice a5 n5 p5).ownBlock = some g → g ≠ x ∧ b + 1 ≤ g := fun g hg => by
    have h1 := own_lt own5 hg
    refine ⟨?_, h1.1⟩
    rcases at5 with h | h
    · rw [h] at hg
      have := hal g hg
      omega
    · rw [h] at hg
      have := X4.lt
      injection hg with hg
      omega
  refine ⟨x, _, rfl, nwx, ks.blk X5 nex', ⟨?_, ks.heap M5 (by omega), ho.lt, ks.slB d5 (fun i hi => by omega)⟩, ks.own own5 (fun g hg => by have := at6 g hg; omega), fun g hg => (at6 g hg).1, ?_⟩
  · simp [Blk, *]
  · refine (kk4.grown gr5 fun g hg => .inl (.inr (.inr hg))).trans ks fun i _ h => .inl h
end Go.Proofs.Ytnajihlhcdedgaa
