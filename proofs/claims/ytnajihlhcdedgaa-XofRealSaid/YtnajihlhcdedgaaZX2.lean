/-
  A question's bytes, of the program and of the reference.
-/
import Derived.Test.YtnajihlhcdedgaaZX1
namespace Go.Proofs.Ytnajihlhcdedgaa
open Go.RowKit
set_option linter.unusedVariables false
set_option linter.unusedSimpArgs false
attribute [local simp] blkAt_setCell blkAt_alloc blkAt_drew Obj.put_cells

section
variable {ops : Array Oper} {rest : List Oper} {o : Oper} {a : Act} {Q : Exit → Act → World → Prop} {wr : World} {base : Nat} {v : Value} {n : Nat} {xs : List Value}
/-- Bytes appended, from a place. -/
theorem app_bytes (hown : wr.ownsRow base 5 1 v n xs) (b off m c : Nat) (news : List Value) (hl : news.length = m) (h1 : ∀ u ∈ news, u.oneCell' = true) (hc : ∀ j u, news[j]? = some u → wr.cell? ⟨b, off + j, none⟩ = some u)
    (hn : n + m ≤ 140737488355328) (hbase : base ≤ wr.heap.size) (s x : Operand) (hgd : o.guard = none) (ho : o.op = .call { callee := .builtin .append, args := #[s, x], argTypes := #[42, 42] })
    (hs : a.eval s = v) (hx : a.eval x = .slice (some ⟨b, off, none⟩) m c)
    (h : ∀ v' w', w'.ownsRow base 5 1 v' (n + m) (xs ++ news) → wr.grownBy w' v.ownBlock → (v'.ownBlock = v.ownBlock ∨ v'.ownBlock = some wr.heap.size) → wpList Try.prog ops Q rest (a.put o.dst v') w') :
    wpList Try.prog ops Q (o :: rest) a wr := by
  obtain ⟨i, hi, hz0, hz1, hz2⟩ := info_parts info5
  refine wpList_append_own_at _ hgd s x 42 ho base 5 i _ 1 1 Try.underlying42 hi hz0 hz1 hz2 rfl (by decide) v n xs hs hown ⟨b, off, none⟩ m c news hx (by omega) ?_ h1 (by unfold maxLen; omega) (by omega) hbase ?_
  · intro j u hj
    rw [Addr.add_lit]
    exact hc j u hj
  · intro v' w' h2 h3 _ h5
    exact h v' w' h2 h3 h5
/-- Bytes appended, from wherever. -/
theorem app_bytesA (hown : wr.ownsRow base 5 1 v n xs) (ad : Addr) (m c : Nat) (news : List Value) (hl : news.length = m) (h1 : ∀ u ∈ news, u.oneCell' = true) (hc : ∀ j u, news[j]? = some u → wr.cell? (ad.add j) = some u)
    (hn : n + m ≤ 140737488355328) (hbase : base ≤ wr.heap.size) (s x : Operand) (hgd : o.guard = none) (ho : o.op = .call { callee := .builtin .append, args := #[s, x], argTypes := #[42, 42] })
    (hs : a.eval s = v) (hx : a.eval x = .slice (some ad) m c)
    (h : ∀ v' w', w'.ownsRow base 5 1 v' (n + m) (xs ++ news) → wr.grownBy w' v.ownBlock → (v'.ownBlock = v.ownBlock ∨ v'.ownBlock = some wr.heap.size) → wpList Try.prog ops Q rest (a.put o.dst v') w') :
    wpList Try.prog ops Q (o :: rest) a wr := by
  obtain ⟨i, hi, hz0, hz1, hz2⟩ := info_parts info5
  exact wpList_append_own_at _ hgd s x 42 ho base 5 i _ 1 1 Try.underlying42 hi hz0 hz1 hz2 rfl (by decide) v n xs hs hown ad m c news hx (by omega) hc h1 (by unfold maxLen; omega) (by omega) hbase fun v' w' h2 h3 _ h5 => h v' w' h2 h3 h5
/-- Nothing appended: nil. -/
theorem app_nil (hown : wr.ownsRow base 5 1 v n xs) (s x : Operand) (hgd : o.guard = none) (ho : o.op = .call { callee := .builtin .append, args := #[s, x], argTypes := #[42, 42] })
    (hs : a.eval s = v) (hx : a.eval x = .slice none 0 0) (h : wpList Try.prog ops Q rest (a.put o.dst v) wr) : wpList Try.prog ops Q (o :: rest) a wr := by
  obtain ⟨i, hi, hz0, hz1, hz2⟩ := info_parts info5
  exact wpList_append_own_none hgd s x 42 ho base 5 i 1 Try.underlying42 hi v n xs hs hown hx h
/-- A string's bytes appended. -/
theorem app_str (hown : wr.ownsRow base 5 1 v n xs) (T : ByteArray) (hn : n + T.size ≤ 140737488355328) (hbase : base ≤ wr.heap.size) (s x : Operand) (hgd : o.guard = none) (ho : o.op = .call { callee := .builtin .append, args := #[s, x], argTypes := #[42, 9] })
    (hs : a.eval s = v) (hx : a.eval x = .string T)
    (h : ∀ v' w', w'.ownsRow base 5 1 v' (n + T.size) (xs ++ Lib.strCells T) → wr.grownBy w' v.ownBlock → wpList Try.prog ops Q rest (a.put o.dst v') w') :
    wpList Try.prog ops Q (o :: rest) a wr := by
  obtain ⟨i, hi, hz0, hz1, hz2⟩ := info_parts info5
  exact Lib.wpList_append_own_string _ hgd s x 42 9 ho base 5 i Try.underlying42 Try.underlying9 hi hz0 hz1 hz2 v n xs hs hown T hx (by unfold maxLen; omega) hn hbase fun v' w' h2 h3 _ => h v' w' h2 h3
end
theorem wrap_u8x (x : Int) : IntKind.u8.wrap x = x % 256 := by simp [IntKind.wrap, IntKind.bits, IntKind.signed]
/-- A block of bytes is a row of its own. -/
theorem own_blk {w : World} {g base : Nat} {xs : List Value} (B : Blk w g 5 xs.toArray) (hb : base ≤ g) (hm : xs.length ≤ 140737488355328) : w.ownsRow base 5 1 (.slice (some ⟨g, 0, none⟩) xs.length xs.length) xs.length xs :=
  ⟨by simp, .inr ⟨g, xs.length, xs.toArray, rfl, hb, B.heap, Nat.le_refl _, by unfold maxLen; omega, by simp, by simp⟩⟩
/-- A string's bytes. -/
def tb (T : ByteArray) : List Int := T.data.toList.map fun b => (b.toNat : Int)
theorem strCells_tb (T : ByteArray) : Lib.strCells T = bytesV (tb T) := by simp [Lib.strCells, bytesV, tb]
theorem tb_length (T : ByteArray) : (tb T).length = T.size := by simp [tb]
theorem tb_byte (T : ByteArray) : ∀ x ∈ tb T, isByte x := by
  intro x hx
  obtain ⟨b, _, rfl⟩ := List.mem_map.1 hx
  have := b.toNat_lt
  unfold isByte
  omega
theorem strOf_tb (T : ByteArray) : strOf (tb T) = T := by
  unfold strOf tb
  rw [List.map_map]
  have : ((fun b : Int => UInt8.ofNat b.toNat) ∘ fun b : UInt8 => (b.toNat : Int)) = id := by
    funext b
    simp
  rw [this]
  simp
theorem tb_strOf {l : List Int} (h : ∀ x ∈ l, isByte x) : tb (strOf l) = l := by
  unfold strOf tb
  rw [List.map_map]
  refine (List.map_congr_left (g := id) fun x hx => ?_).trans (List.map_id l)
  have := h x hx
  unfold isByte at this
  simp
  omega
/-- A question's bytes. -/
def qL (T : ByteArray) (u0 u1 : Int) (S : Nat → Int) (C : Nat → Int) (n : Nat) : List Int := (T.size : Int) :: (tb T ++ ([u0, u1] ++ ((List.range 16).map S ++ (List.range n).map C)))
theorem qL_length (T : ByteArray) (u0 u1 : Int) (S : Nat → Int) (C : Nat → Int) (n : Nat) : (qL T u0 u1 S C n).length = 19 + T.size + n := by
  simp [qL, tb_length]
  omega
theorem qL_byte {T : ByteArray} (hT : T.size ≤ 255) {u0 u1 : Int} (h0 : isByte u0) (h1 : isByte u1) {S C : Nat → Int} {n : Nat} (hS : ∀ j, j < 16 → isByte (S j)) (hC : ∀ j, j < n → isByte (C j)) : ∀ x ∈ qL T u0 u1 S C n, isByte x := by
  intro x hx
  simp only [qL, List.mem_cons, List.mem_append, List.mem_map, List.mem_range, List.not_mem_nil, or_false] at hx
  rcases hx with rfl | hx | (rfl | rfl) | ⟨j, hj, rfl⟩ | ⟨j, hj, rfl⟩
  · unfold isByte; omega
  · exact tb_byte T _ hx
  · exact h0
  · exact h1
  · exact hS j hj
  · exact hC j hj
theorem qV {T : ByteArray} {u0 u1 : Int} {S C : Nat → Int} {n : Nat} : [Value.int .u8 (T.size : Int)] ++ Lib.strCells T ++ [.int .u8 u0, .int .u8 u1] ++ (List.range 16).map (fun j => Value.int .u8 (S j)) ++ (List.range n).map (fun j => Value.int .u8 (C j)) = bytesV (qL T u0 u1 S C n) := by
  rw [strCells_tb]
  simp [qL, bytesV, Function.comp_def]
theorem conv_own {w : World} {base : Nat} {v : Value} {n : Nat} {l : List Int} (h : w.ownsRow base 5 1 v n (bytesV l)) (hb : ∀ x ∈ l, isByte x) : (convert 42 9 v).run Try.prog w = .ok (.string (strOf l)) w := by
  by_cases hl : l = []
  · subst hl
    rcases h.2 with ⟨rfl, _⟩ | ⟨g, cap, cur, rfl, _⟩
    · exact conv_nil w
    · have hn : n = 0 := by simpa [bytesV] using h.1.symm
      subst hn
      exact conv_str (bs := []) Try.underlying42 Try.underlying5 Try.underlying9 w (by simp) (by simp)
  · exact conv_reads (reads_of_own h) hl hb

theorem ownsRow_slicex {w : World} {base : Nat} {e : TypeId} {v : Value} {n : Nat} {xs : List Value} (h : w.ownsRow base e 1 v n xs) : ∃ a c, v = .slice a n c := by
  rcases h.2 with ⟨rfl, rfl⟩ | ⟨g, cap, cur, rfl, _⟩
  · exact ⟨_, _, rfl⟩
  · exact ⟨_, _, rfl⟩
theorem one8x (L : Nat) (b : Nat → Int) : ∀ u ∈ (List.range L).map (fun c => Value.int .u8 (b c)), u.oneCell' = true := by
  intro u hu
  obtain ⟨c, _, rfl⟩ := List.mem_map.1 hu
  rfl
theorem cells16 {w : World} {g t L : Nat} {b : Nat → Int} (B : Blk w g t (rowF L (fun i => .int .u8 (b i)))) (j : Nat) (u : Value) (hj : ((List.range L).map fun c => Value.int .u8 (b c))[j]? = some u) : w.cell? ⟨g, j, none⟩ = some u := by
  have hlt : j < L := by have := (List.getElem?_eq_some_iff.1 hj).1; simpa using this
  rw [List.getElem?_map, List.getElem?_range hlt] at hj
  simp only [Option.map_some, Option.some.injEq] at hj
  rw [← hj]
  exact B.at hlt
theorem cellsA {w : World} {ad : Addr} {n : Nat} {C : Nat → Int} (hC : ∀ j, j < n → w.cell? (ad.add j) = some (.int .u8 (C j))) (j : Nat) (u : Value) (hj : ((List.range n).map fun c => Value.int .u8 (C c))[j]? = some u) : w.cell? (ad.add j) = some u := by
  have hlt : j < n := by have := (List.getElem?_eq_some_iff.1 hj).1; simpa using this
  rw [List.getElem?_map, List.getElem?_range hlt] at hj
  simp only [Option.map_some, Option.some.injEq] at hj
  rw [← hj]
  exact hC j hlt
theorem cellsN {w : World} {g o n : Nat} {C : Nat → Int} (hC : ∀ j, j < n → w.cell? ⟨g, o + j, none⟩ = some (.int .u8 (C j))) (j : Nat) (u : Value) (hj : ((List.range n).map fun c => Value.int .u8 (C c))[j]? = some u) : w.cell? ⟨g, o + j, none⟩ = some u := by
  have hlt : j < n := by have := (List.getElem?_eq_some_iff.1 hj).1; simpa using this
  rw [List.getElem?_map, List.getElem?_range hlt] at hj
  simp only [Option.map_some, Option.some.injEq] at hj
  rw [← hj]
  exact hC j hlt

set_option maxRecDepth 100000 in
set_option maxHeartbeats 8000000 in
theorem x_question_nil (w : World) (T : ByteArray) (hT : T.size ≤ 255) (U u0 u1 : Int) (hw0 : IntKind.u8.wrap U = u0) (hw1 : IntKind.u8.wrap (U / 256) = u1) (h0 : isByte u0) (h1 : isByte u1) (S : Nat → Int) (hS : Hid (∀ j, j < 16 → isByte (S j)))  (C : Nat → Int)  :
    Calls Try.prog 129 #[.string T, .int .u16 U, .agg (rowF 16 (fun j => .int .u8 (S j))), .slice none 0 0] w fun e w' => e = .returned (.string (strOf (qL T u0 u1 S C 0))) ∧ Kept w w' := by
  obtain ⟨g6, hg6⟩ : ∃ g, w.heap.size = g := ⟨_, rfl⟩
  obtain ⟨g13, hg13⟩ : ∃ g, g6 + 1 = g := ⟨_, rfl⟩
  have nw6 : w.heap.size ≤ g6 := by omega
  have hwT : IntKind.u8.wrap (T.size : Int) = (T.size : Int) := by rw [wrap_u8x]; omega
  have lt6 : g6 < g13 := by omega
  go_enter Try.func129, Try.ntmps129
  go_upto_region 2 with (fail)
  try simp only [hg6, hg13]
  refine abs_world (fun W => Kept w W ∧ Blk W g6 77 (rowF 16 (fun j => .int .u8 (S j))) ∧ Blk W g13 5 [Value.int .u8 (T.size : Int)].toArray ∧ g13 ≤ W.heap.size) ⟨?_, ?_, ?_, ?_⟩ ?_
  · have nw13 : w.heap.size ≤ g13 := by omega
    repeat (first | exact Kept.refl _ | (refine Kept.setCell ?_ (kept_side (by first | assumption | omega)) _) | apply Kept.alloc | apply Kept.drew)
  · simp [Blk, *] <;> omega
  · simp [Blk, *] <;> omega
  · simp; omega
  clear hg6 hg13
  rintro W1 ⟨k1, B6, B13, n1⟩
  have own1 := own_blk (base := g13) B13 (Nat.le_refl _) (by simp)
  have ns1 : 0 + 1 = 1 := rfl
  simp only [List.length_cons, List.length_nil, ns1] at own1
  clear B13 ns1
  go_upto_region 3 with (at_builtin; refine app_str own1 T (by omega) n1 (.tmp 14) (.tmp 15) rfl rfl rfl rfl ?_; intro v2 W2 own2 gr2)
  have k2 := grown_kept k1 own1 gr2 (by omega)
  have B2 := grown_blk B6 own1 gr2 lt6
  have n2 := Nat.le_trans n1 gr2.size
  clear k1 B6 own1 gr2 n1
  obtain ⟨m2, hm2⟩ : ∃ m, 1 + T.size = m := ⟨_, rfl⟩
  have lm2 : m2 ≤ 256 := by omega
  rw [hm2] at own2
  clear hm2
  go_upto_region 4 with (at_builtin; refine app_bytes (own2.alloc _) W2.heap.size 0 2 2 [.int .u8 u0, .int .u8 u1] rfl (by simp [Value.oneCell']) (by intro j u hj; rw [Nat.zero_add, World.cell?_alloc_at _ _ _ _ rfl]; simpa using hj) (by omega) (by simp; omega) (.tmp 17) (.tmp 23) rfl rfl rfl rfl ?_; intro v3 W3 own3 gr3 _)
  have k3 := grown_kept (k2.alloc _) (own2.alloc _) gr3 (by omega)
  have B3 := grown_blk (B2.alloc _) (own2.alloc _) gr3 lt6
  have n3 : g13 ≤ W3.heap.size := Nat.le_trans (Nat.le_trans n2 (by simp)) gr3.size
  clear k2 B2 own2 gr3 n2
  go_upto_region 5 with (at_builtin; refine app_bytes own3 g6 0 16 16 ((List.range 16).map fun j => Value.int .u8 (S j)) (by simp) (one8x 16 S) (by intro j u hj; rw [Nat.zero_add]; exact cells16 B3 j u hj) (by omega) n3 (.tmp 25) (.tmp 26) rfl rfl rfl rfl ?_; intro v4 W4 own4 gr4 _)
  have k4 := grown_kept k3 own3 gr4 (by omega)
  have n4 := Nat.le_trans n3 gr4.size
  clear k3 B3 own3 gr4 n3
  have own5 : W4.ownsRow g13 5 1 v4 (m2 + 2 + 16) (bytesV (qL T u0 u1 S C 0)) := by
    rw [← qV]
    simpa only [List.range_zero, List.map_nil, List.append_nil] using own4
  have hcv := conv_own own5 (qL_byte hT h0 h1 hS.out (fun j hj => absurd hj (Nat.not_lt_zero _)))
  go_wp2_with (at_builtin; refine app_nil own4 (.tmp 28) (.tmp 29) rfl rfl rfl rfl ?_)
  go_ret
  exact ⟨rfl, k4⟩

set_option maxRecDepth 100000 in
set_option maxHeartbeats 8000000 in
theorem x_question (w : World) (T : ByteArray) (hT : T.size ≤ 255) (U u0 u1 : Int) (hw0 : IntKind.u8.wrap U = u0) (hw1 : IntKind.u8.wrap (U / 256) = u1) (h0 : isByte u0) (h1 : isByte u1) (S : Nat → Int) (hS : Hid (∀ j, j < 16 → isByte (S j))) (ad : Addr) (n cap : Nat) (C : Nat → Int) (hn : n ≤ 65536) (hC : Hid (∀ j, j < n → w.cell? (ad.add j) = some (.int .u8 (C j)))) (hCb : Hid (∀ j, j < n → isByte (C j))) :
    Calls Try.prog 129 #[.string T, .int .u16 U, .agg (rowF 16 (fun j => .int .u8 (S j))), .slice (some ad) n cap] w fun e w' => e = .returned (.string (strOf (qL T u0 u1 S C n))) ∧ Kept w w' := by
  obtain ⟨g6, hg6⟩ : ∃ g, w.heap.size = g := ⟨_, rfl⟩
  obtain ⟨g13, hg13⟩ : ∃ g, g6 + 1 = g := ⟨_, rfl⟩
  have nw6 : w.heap.size ≤ g6 := by omega
  have hwT : IntKind.u8.wrap (T.size : Int) = (T.size : Int) := by rw [wrap_u8x]; omega
  have lt6 : g6 < g13 := by omega
  go_enter Try.func129, Try.ntmps129
  go_upto_region 2 with (fail)
  try simp only [hg6, hg13]
  refine abs_world (fun W => Kept w W ∧ Blk W g6 77 (rowF 16 (fun j => .int .u8 (S j))) ∧ Blk W g13 5 [Value.int .u8 (T.size : Int)].toArray ∧ g13 ≤ W.heap.size) ⟨?_, ?_, ?_, ?_⟩ ?_
  · have nw13 : w.heap.size ≤ g13 := by omega
    repeat (first | exact Kept.refl _ | (refine Kept.setCell ?_ (kept_side (by first | assumption | omega)) _) | apply Kept.alloc | apply Kept.drew)
  · simp [Blk, *] <;> omega
  · simp [Blk, *] <;> omega
  · simp; omega
  clear hg6 hg13
  rintro W1 ⟨k1, B6, B13, n1⟩
  have own1 := own_blk (base := g13) B13 (Nat.le_refl _) (by simp)
  have ns1 : 0 + 1 = 1 := rfl
  simp only [List.length_cons, List.length_nil, ns1] at own1
  clear B13 ns1
  go_upto_region 3 with (at_builtin; refine app_str own1 T (by omega) n1 (.tmp 14) (.tmp 15) rfl rfl rfl rfl ?_; intro v2 W2 own2 gr2)
  have k2 := grown_kept k1 own1 gr2 (by omega)
  have B2 := grown_blk B6 own1 gr2 lt6
  have n2 := Nat.le_trans n1 gr2.size
  clear k1 B6 own1 gr2 n1
  obtain ⟨m2, hm2⟩ : ∃ m, 1 + T.size = m := ⟨_, rfl⟩
  have lm2 : m2 ≤ 256 := by omega
  rw [hm2] at own2
  clear hm2
  go_upto_region 4 with (at_builtin; refine app_bytes (own2.alloc _) W2.heap.size 0 2 2 [.int .u8 u0, .int .u8 u1] rfl (by simp [Value.oneCell']) (by intro j u hj; rw [Nat.zero_add, World.cell?_alloc_at _ _ _ _ rfl]; simpa using hj) (by omega) (by simp; omega) (.tmp 17) (.tmp 23) rfl rfl rfl rfl ?_; intro v3 W3 own3 gr3 _)
  have k3 := grown_kept (k2.alloc _) (own2.alloc _) gr3 (by omega)
  have B3 := grown_blk (B2.alloc _) (own2.alloc _) gr3 lt6
  have n3 : g13 ≤ W3.heap.size := Nat.le_trans (Nat.le_trans n2 (by simp)) gr3.size
  clear k2 B2 own2 gr3 n2
  go_upto_region 5 with (at_builtin; refine app_bytes own3 g6 0 16 16 ((List.range 16).map fun j => Value.int .u8 (S j)) (by simp) (one8x 16 S) (by intro j u hj; rw [Nat.zero_add]; exact cells16 B3 j u hj) (by omega) n3 (.tmp 25) (.tmp 26) rfl rfl rfl rfl ?_; intro v4 W4 own4 gr4 _)
  have k4 := grown_kept k3 own3 gr4 (by omega)
  have n4 := Nat.le_trans n3 gr4.size
  clear k3 B3 own3 gr4 n3
  go_wp2_with (at_builtin; refine app_bytesA own4 ad n cap ((List.range n).map fun j => Value.int .u8 (C j)) (by simp) (one8x n C) (by intro j u hj; exact k4.cell (cellsA hC.out j u hj)) (by omega) n4 (.tmp 28) (.tmp 29) rfl rfl rfl rfl ?_; intro v5 W5 own5 gr5 _; rw [qV] at own5; have hcv := conv_own own5 (qL_byte hT h0 h1 hS.out hCb.out))
  have k5 := grown_kept k4 own4 gr5 (by omega)
  go_ret
  exact ⟨rfl, k5⟩
end Go.Proofs.Ytnajihlhcdedgaa
