/-
  Slices of elements: read, made; place by place.
-/
import Derived.Test.YtnajihlhcdedgaaFB
import Derived.Test.YtnajihlhcdedgaaM1
import Derived.Test.YtnajihlhcdedgaaMark4
import Derived.Laws.MakeOwn
import Derived.Deep.Cut
import Derived.IntWalk
namespace Go.Proofs.Ytnajihlhcdedgaa
open Go.RowKit
set_option linter.unusedVariables false
set_option linter.unusedSimpArgs false

/-- A slice whose cells lie in blocks below N reads as the elements of the halves C0 0, C1 0; C0 1, C1 1; .. -/
structure SlE (w : World) (a : Option Addr) (n cap N : Nat) (C0 C1 : Nat → Int) : Prop where
  at' : ∀ j, j < n → ∃ p : Addr, (∀ w', (Instr.indexAt 90 (.slice a n cap) (.int .i64 (j : Int))).run Try.prog w' = .ok (.pointer (some p)) w') ∧ w.cell? p = some (.int .u64 (C0 j)) ∧ w.cell? (p.add 1) = some (.int .u64 (C1 j)) ∧ p.block < N
theorem SlE.kept {w w' : World} {a : Option Addr} {n cap N : Nat} {C0 C1 : Nat → Int} (h : SlE w a n cap N C0 C1) (k : Kept w w') : SlE w' a n cap N C0 C1 :=
  ⟨fun j hj => let ⟨p, h1, h2, h3, h4⟩ := h.at' j hj; ⟨p, h1, k.cell h2, k.cell h3, h4⟩⟩
theorem SlE.mono {w : World} {a : Option Addr} {n cap N M : Nat} {C0 C1 : Nat → Int} (h : SlE w a n cap N C0 C1) (hM : N ≤ M) : SlE w a n cap M C0 C1 :=
  ⟨fun j hj => let ⟨p, h1, h2, h3, h4⟩ := h.at' j hj; ⟨p, h1, h2, h3, Nat.lt_of_lt_of_le h4 hM⟩⟩
theorem SlE.congr {w : World} {a : Option Addr} {n cap N : Nat} {C0 C1 D0 D1 : Nat → Int} (h : SlE w a n cap N C0 C1) (h0 : ∀ j, j < n → C0 j = D0 j) (h1 : ∀ j, j < n → C1 j = D1 j) : SlE w a n cap N D0 D1 :=
  ⟨fun j hj => let ⟨p, e1, e2, e3, e4⟩ := h.at' j hj; ⟨p, e1, by rw [← h0 j hj]; exact e2, by rw [← h1 j hj]; exact e3, e4⟩⟩

theorem size28 : (Try.prog.info? 28).map (fun i => i.size) = some 2 := by kernel_rfl
theorem run_loadVar28 (w : World) (p : Addr) {c0 c1 : Value} (h0 : w.cell? p = some c0) (h1 : w.cell? (p.add 1) = some c1) : (loadVar 28 p).run Try.prog w = .ok (.agg #[c0, c1]) w := by
  have hl : (loadCells p 2).run Try.prog w = .ok #[c0, c1] w := run_loadCells_list (P := Try.prog) w p [c0, c1] (fun j v hv => by
    match j, hv with
    | 0, hv => simp at hv; subst hv; simpa [Addr.add] using h0
    | 1, hv => simp at hv; subst hv; exact h1)
  cases hq : Try.prog.info? 28 with
  | none => have := size28; simp [hq] at this
  | some i =>
    have hs : i.size = 2 := by have := size28; simpa [hq] using this
    have hagg : (isAgg 28).run Try.prog w = .ok true w := by
      unfold isAgg
      rw [Sem.run_bind, run_underlying Try.underlying28 w]
      rfl
    simp [loadVar, Sem.run_bind, hagg, sizeOf, typeInfo, hq, hs, hl]
/-- An element is read. -/
theorem calm_load_elem {a : Act} {w : World} {o : Oper} (x : Operand) {p : Addr} {c0 c1 : Value} (h0 : w.cell? p = some c0) (h1 : w.cell? (p.add 1) = some c1) (ho : o.op = .load 28 x) (hx : a.eval x = .pointer (some p)) : calm Try.prog o a w (.agg #[c0, c1]) :=
  calm_run _ fun w' hk => by
    obtain ⟨dst, op, type, pos, after, guard⟩ := o
    simp only at ho
    subst ho
    simp only [execOp, hx, Instr.loadAt, Instr.sureAddr, Sem.run_bind, Sem.run_pure, Result.andThen_ok, run_loadVar28 w' p (hk.cell h0) (hk.cell h1)]
theorem wpList_load_elem {ops : Array Oper} {rest : List Oper} {o : Oper} {a : Act} {w : World} {Q : Exit → Act → World → Prop} (x : Operand) {p : Addr} {c0 c1 : Value} (h0 : w.cell? p = some c0) (h1 : w.cell? (p.add 1) = some c1)
    (hgd : o.guard = none) (ho : o.op = .load 28 x) (hx : a.eval x = .pointer (some p))
    (h : wpList Try.prog ops Q rest (a.put o.dst (.agg #[c0, c1])) w) : wpList Try.prog ops Q (o :: rest) a w := by
  refine wpList_plain hgd fun _ hK => ?_
  unfold Oper.wp execOp
  simp only [ho, hx, Instr.loadAt, Instr.sureAddr, Sem.run_bind, Sem.run_pure, Result.andThen_ok, run_loadVar28 w p h0 h1]
  exact hK _ _ h

theorem info28 : (Try.prog.info? 28).map (fun i => (i.zero, i.size, i.bytes)) = some (some (.agg #[.int .u64 0, .int .u64 0]), 2, 16) := by kernel_rfl
theorem run_index_at90 {ad : Addr} {n cap j : Nat} (hj : j < n) (w : World) :
    (Instr.indexAt 90 (.slice (some ad) n cap) (.int .i64 (j : Int))).run Try.prog w = .ok (.pointer (some (ad.add (j * 2)))) w := by
  cases hq : Try.prog.info? 28 with
  | none => have := size28; simp [hq] at this
  | some i =>
    have hs : i.size = 2 := by have := size28; simpa [hq] using this
    have h1 : (0 : Int) ≤ (j : Int) := by omega
    have h2 : (j : Int) < (n : Int) := by omega
    simp [Instr.indexAt, run_underlying Try.underlying90, asIntOf, sizeOf, typeInfo, hq, hs, hj]
/-- The cells of a row of elements. -/
def elemC (C0 C1 : Nat → Int) (c : Nat) : Int := if c % 2 = 0 then C0 (c / 2) else C1 (c / 2)
theorem elemC_0 (C0 C1 : Nat → Int) (j : Nat) : elemC C0 C1 (j * 2) = C0 j := by
  unfold elemC
  rw [if_pos (by omega), show j * 2 / 2 = j by omega]
theorem elemC_1 (C0 C1 : Nat → Int) (j : Nat) : elemC C0 C1 (j * 2 + 1) = C1 j := by
  unfold elemC
  rw [if_neg (by omega), show (j * 2 + 1) / 2 = j by omega]
theorem SlE.of_blk {w : World} {g n cap m : Nat} {t : TypeId} {C0 C1 : Nat → Int} (B : Blk w g t (rowF m (fun c => .int .u64 (elemC C0 C1 c)))) (hm : n * 2 ≤ m) : SlE w (some ⟨g, 0, none⟩) n cap (g + 1) C0 C1 :=
  ⟨fun j hj => by
    have a0 : (⟨g, 0, none⟩ : Addr).add (j * 2) = ⟨g, j * 2, none⟩ := by rw [Addr.add_lit]; simp
    refine ⟨⟨g, j * 2, none⟩, fun w' => by rw [run_index_at90 hj w', a0], ?_, ?_, Nat.lt_succ_self g⟩
    · have := B.at (i := j * 2) (by omega)
      rw [elemC_0] at this
      exact this
    · have := B.at (i := j * 2 + 1) (by omega)
      rw [elemC_1] at this
      rw [Addr.add_lit]
      exact this⟩
theorem makes_zero2 (n : Nat) : madeCells (Value.agg #[.int .u64 0, .int .u64 0]).cells (n * 2) = rowF (n * 2) (fun _ => .int .u64 0) := by
  unfold madeCells rowF
  apply Array.ext'
  apply List.ext_getElem?
  intro i
  simp only [Array.toList_map, List.getElem?_map, Array.toList_range]
  rcases Nat.lt_or_ge i (n * 2) with h | h
  · rw [List.getElem?_range h]
    have h2 : i % 2 = 0 ∨ i % 2 = 1 := by omega
    rcases h2 with h2 | h2 <;> simp [Value.cells, h2]
  · rw [List.getElem?_eq_none (by simpa using h)]
    rfl
theorem makefull90 (c : Nat) (h63 : (c : Int) ≤ 4096) (w : World) : (Instr.makeSlice 90 (.int .i64 (c : Int)) (.int .i64 (c : Int))).run Try.prog w = .ok (.slice (some ⟨w.heap.size, 0, none⟩) c c) (w.alloc (.cells (rowF (c * 2) (fun _ => .int .u64 0)) 28)) := by
  obtain ⟨i, hi, hz0, hz1, hz2⟩ := info_parts info28
  have hr := run_make (P := Try.prog) w 90 28 i _ Try.underlying90 hi hz0 .i64 .i64 c c (by omega) (by omega) (by rw [hz2]; omega) (by omega)
  simp only [Int.toNat_natCast] at hr
  rw [hr, hz1, makes_zero2]

set_option maxRecDepth 100000 in
set_option maxHeartbeats 4000000 in
theorem f_pair_long (v : Value) (a : Option Addr) (n cap : Nat) (b : Option Addr) (m capb : Nat) (hnm : n ≠ m) (h1 : (n : Int) ≤ 9223372036854775807) (h2 : (m : Int) ≤ 9223372036854775807) : Pure Try.prog 132 #[.slice a n cap, .slice b m capb, v] (.tuple #[.slice none 0 0, .int .i64 9]) := fun w => by
  have hne : (n : Int) ≠ (m : Int) := by omega
  go_enter Try.func132, Try.ntmps132
  go_wp2_with fail
  go_ret2
  exact ⟨rfl, Kept.refl w⟩

theorem enters99 (args : Array Value) (w : World) : (callFunc 99 args).run Try.prog w = .ok (.enter 99 args) w := by go_simp
theorem enters100 (args : Array Value) (w : World) : (callFunc 100 args).run Try.prog w = .ok (.enter 100 args) w := by go_simp
theorem enters102 (args : Array Value) (w : World) : (callFunc 102 args).run Try.prog w = .ok (.enter 102 args) w := by go_simp
set_option maxRecDepth 100000 in
set_option maxHeartbeats 4000000 in
theorem f_pair (w : World) (G : FuncId) (hcf : ∀ args w, (callFunc G args).run Try.prog w = .ok (.enter G args) w) (f : Int) (a : Option Addr) (n cap N : Nat) (b : Option Addr) (capb : Nat) (A0 A1 B0 B1 R0 R1 : Nat → Int) (hn : n ≤ 4096) (hA : SlE w a n cap N A0 A1) (hB : SlE w b n capb N B0 B1)
    (hG : Hid (∀ j, j < n → Pure Try.prog G #[.int .u8 f, .agg #[.int .u64 (A0 j), .int .u64 (A1 j)], .agg #[.int .u64 (B0 j), .int .u64 (B1 j)]] (.agg #[.int .u64 (R0 j), .int .u64 (R1 j)]))) :
    Calls Try.prog 132 #[.slice a n cap, .slice b n capb, .func (.func G) #[.int .u8 f] #[]] w fun e w' => ∃ g, e = .returned (.tuple #[.slice (some ⟨g, 0, none⟩) n n, .int .i64 0]) ∧ w.heap.size ≤ g ∧ Kept w w' ∧ Blk w' g 28 (rowF (n * 2) (fun c => .int .u64 (elemC R0 R1 c))) := by
  obtain ⟨g, hg⟩ : ∃ g, w.heap.size = g := ⟨_, rfl⟩
  have hmk := makefull90 n (by omega) w
  rw [hg] at hmk
  have hnn : (n : Int) ≤ 4096 := by omega
  go_enter Try.func132, Try.ntmps132
  go_upto_region 4 with (fail)
  refine abs_world (fun W => Kept w W ∧ Blk W g 28 (rowF (n * 2) (fun c => .int .u64 (if c < 0 * 2 then elemC R0 R1 c else 0)))) ⟨(Kept.refl w).alloc _, by rw [← hg]; exact Blk.new _ _ _⟩ ?_
  clear hmk
  rintro W1 ⟨k1, B1'⟩
  have nw : w.heap.size ≤ g := by omega
  go_wp2_with fail
  go_loopw [20] (fun t wr => ∃ i : Nat, i ≤ n ∧ t = .int .i64 i ∧ Kept w wr ∧ Blk wr g 28 (rowF (n * 2) (fun c => .int .u64 (if c < i * 2 then elemC R0 R1 c else 0)))) (fun t _ => n - (intOf t).toNat)
  case atStart => exact ⟨0, Nat.zero_le _, rfl, k1, B1'⟩
  case round =>
    clear k1 B1'
    obtain ⟨i, hi, rfl, k, B⟩ := hrel
    have zi : (0 : Int) ≤ (i : Int) := by omega
    rcases Nat.lt_or_ge i n with hlt | hge
    · have yi : (i : Int) < (n : Int) := by omega
      obtain ⟨p, hip, cp0, cp1, _⟩ := (hA.kept k).at' i hlt
      obtain ⟨q, hiq, cq0, cq1, _⟩ := (hB.kept k).at' i hlt
      have HG := Lib.hid (hG.out i hlt)
      have HR : Hid (∀ c, c < n * 2 → (if c < (i + 1) * 2 then elemC R0 R1 c else 0) = if c = i * 2 + 1 then R1 i else if c = i * 2 then R0 i else if c < i * 2 then elemC R0 R1 c else 0) := Lib.hid fun c hc => by
        by_cases h1 : c = i * 2 + 1
        · subst h1; rw [if_pos (by omega), if_pos rfl, elemC_1]
        · by_cases h2 : c = i * 2
          · subst h2; rw [if_pos (by omega), if_neg (by omega), if_pos rfl, elemC_0]
          · rw [if_neg h1, if_neg h2]
            by_cases h3 : c < i * 2
            · rw [if_pos (by omega), if_pos h3]
            · rw [if_neg (by omega), if_neg h3]
      generalize R0 i = r0 at HG HR
      generalize R1 i = r1 at HG HR
      generalize A0 i = a0 at *
      generalize A1 i = a1 at *
      generalize B0 i = b0 at *
      generalize B1 i = b1 at *
      go_upto_region 7 with (fail)
      refine wp_region_calm 13 (by kernel_rfl) (by kernel_rfl) ?_
      simp only [List.take_succ_cons, List.take_zero, List.drop_succ_cons, List.drop_zero]
      repeat (first
        | (refine calm_skip rfl ?_; simp only [Act.put, List.setIfInBounds_toArray, List.set_cons_zero, List.set_cons_succ])
        | (refine calm_step _ rfl (calm_load_elem (.tmp 28) cp0 cp1 rfl rfl) ?_; simp only [Act.put, List.setIfInBounds_toArray, List.set_cons_zero, List.set_cons_succ])
        | (refine calm_step _ rfl (calm_load_elem (.tmp 32) cq0 cq1 rfl rfl) ?_; simp only [Act.put, List.setIfInBounds_toArray, List.set_cons_zero, List.set_cons_succ])
        | (refine calm_ex rfl ?_; apply Exists.intro; refine And.intro (fun w' hk => ?_) ?_; (focus (have q0 := hk.cell cp0; have q1 := hk.cell cp1; have q2 := hk.cell cq0; have q3 := hk.cell cq1; clear hk; go_simp; exact rfl)); simp only [Act.put, List.setIfInBounds_toArray, List.set_cons_zero, List.set_cons_succ])
        | (refine calm_step _ rfl (HG.out.call ?_) ?_; (focus (intro w'; go_simp; done)); simp only [Act.put, List.setIfInBounds_toArray, List.set_cons_zero, List.set_cons_succ]))
      refine calm_nil ?_
      intro W2 hkW2
      have k2 := k.trans hkW2
      have B2 := B.kept hkW2
      clear cp0 cp1 cq0 cq1 k B hkW2
      have cl0 := B2.at (i := i * 2) (by omega)
      have cl1 := B2.at (i := i * 2 + 1) (by omega)
      have fr := B2.free
      go_wp2_with fail
      go_roundw
      case rel =>
        refine ⟨i + 1, by omega, by go_num, (k2.setCell (kept_side nw) _).setCell (kept_side nw) _, ?_⟩
        refine (B2.set (g := fun c => .int .u64 (if c = i * 2 then r0 else if c < i * 2 then elemC R0 R1 c else 0)) (by omega) fun c hc => ?_).set (by omega) fun c hc => ?_
        · split <;> rfl
        · rw [HR.out c hc]; split <;> rfl
      case measure => simp [intOf]; omega
    · have yi : (n : Int) ≤ (i : Int) := by omega
      obtain rfl : i = n := by omega
      have B9 : Blk wr g 28 (rowF (i * 2) (fun c => .int .u64 (elemC R0 R1 c))) := by rw [rowF_congr (g := fun c => Value.int .u64 (if c < i * 2 then elemC R0 R1 c else 0)) fun c hc => by rw [if_pos hc]]; exact B
      go_wp2_with fail
      go_ret2
      exact ⟨g, rfl, by omega, k, B9⟩
end Go.Proofs.Ytnajihlhcdedgaa
