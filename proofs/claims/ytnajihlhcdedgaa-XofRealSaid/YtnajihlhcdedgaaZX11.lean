/-
  A slice of questions among the arguments, opened.
-/
import Derived.Test.YtnajihlhcdedgaaZX4
import Derived.Test.YtnajihlhcdedgaaZa
import Derived.Deep.Slices
namespace Go.Proofs.Ytnajihlhcdedgaa
open Go.ChangeShapes Go.WideShapes Go.ChangeAt Go.RowKit Go.Deep
set_option linter.unusedVariables false

/-- The cells of an Ask. -/
def askF (T : ByteArray) (U : Int) (S : Nat → Int) (sl : Option Addr) (bn bc : Nat) (K mm : Int) (ag : Bool) (i : Nat) : Value :=
  if i = 0 then .string T else if i = 1 then .int .u16 U else if i < 18 then .int .u8 (S (i - 2)) else if i = 18 then .slice sl bn bc else if i = 19 then .int .u8 K else if i = 20 then .int .i64 mm else .bool ag
/-- An Ask lies at p. -/
structure AskAt (w : World) (p : Addr) (T : ByteArray) (U : Int) (S : Nat → Int) (sl : Option Addr) (bn bc : Nat) (C : Nat → Int) (K mm : Int) (ag : Bool) : Prop where
  cells : ∀ i, i < 22 → w.cell? (p.add i) = some (askF T U S sl bn bc K mm ag i)
  tag : (T.size : Int) ≤ 9223372036854775807
  use : 0 ≤ U ∧ U ≤ 65535
  seed : ∀ j, j < 16 → isByte (S j)
  bnd : Bnd w sl bn bc C
  byte : ∀ j, j < bn → isByte (C j)
  len : (bn : Int) ≤ 9223372036854775807
  many : (Lit.int .i64 mm).wf = true
theorem AskAt.kept {w w' : World} {p : Addr} {T : ByteArray} {U : Int} {S : Nat → Int} {sl : Option Addr} {bn bc : Nat} {C : Nat → Int} {K mm : Int} {ag : Bool} (h : AskAt w p T U S sl bn bc C K mm ag) (k : Kept w w') : AskAt w' p T U S sl bn bc C K mm ag :=
  ⟨fun i hi => k.cell (h.cells i hi), h.tag, h.use, h.seed, h.bnd.kept k, h.byte, h.len, h.many⟩
/-- A slice of Asks. -/
structure SlA (w : World) (a : Option Addr) (n cap : Nat) : Prop where
  at' : ∀ j, j < n → ∃ p : Addr, (∀ w', (Instr.indexAt 73 (.slice a n cap) (.int .i64 (j : Int))).run Try.prog w' = .ok (.pointer (some p)) w') ∧ ∃ T U S sl bn bc C K mm ag, AskAt w p T U S sl bn bc C K mm ag
theorem size79 : (Try.prog.info? 79).map (fun i => i.size) = some 22 := by kernel_rfl
theorem run_index_at73 {ad : Addr} {n cap j : Nat} (hj : j < n) (w : World) :
    (Instr.indexAt 73 (.slice (some ad) n cap) (.int .i64 (j : Int))).run Try.prog w = .ok (.pointer (some (ad.add (j * 22)))) w := by
  cases hq : Try.prog.info? 79 with
  | none => have := size79; simp [hq] at this
  | some i =>
    have hs : i.size = 22 := by have := size79; simpa [hq] using this
    have h1 : (0 : Int) ≤ (j : Int) := by omega
    have h2 : (j : Int) < (n : Int) := by omega
    simp [Instr.indexAt, run_underlying Try.underlying73, asIntOf, sizeOf, typeInfo, hq, hs, hj]

section
variable {H : Type} {enc : TypeId × Value → H} {W : World} {base : Nat} {spare : Nat → Bool} {held : Bool}
set_option maxRecDepth 100000 in
theorem trod_bytes16 {n : Nat} {cs : List Value} {x : DataW H × List MemPlace} (h : DataW.trod enc Try.prog W base spare held n 77 cs = some x) : ∃ S : Nat → Int, (∀ j, j < 16 → isByte (S j)) ∧ cs.length = 16 ∧ ∀ j, j < 16 → cs[j]? = some (.int .u8 (S j)) := by
  obtain ⟨xs, m, _, _, hl, hxl, hall⟩ := DataW.trod_array Try.underlying77 h
  have hc77 : Try.prog.cellsOf 77 = 16 := by kernel_rfl
  have hc5 : Try.prog.cellsOf 5 = 1 := by kernel_rfl
  rw [hc77] at hl
  rw [hc5] at hall
  have hz : ∀ j, j < 16 → ∃ z : Int, cs[j]? = some (.int .u8 z) ∧ isByte z := fun j hj => by
    have a := hall j hj
    rw [List.getElem?_eq_getElem (by omega), Nat.mul_one] at a
    obtain ⟨z, e, _, w0⟩ := DataW.trod_int Try.underlying5 a
    refine ⟨z, ?_, ?_⟩
    · have h2 := congrArg (·[0]?) e
      simp only [List.getElem?_take, List.getElem?_drop] at h2
      simpa using h2
    · simp [Lit.wf, IntKind.min, IntKind.max, IntKind.signed, IntKind.bits] at w0
      unfold isByte
      omega
  obtain ⟨S, hS⟩ := choose_lt (n := 16) (p := fun j z => cs[j]? = some (.int .u8 z) ∧ isByte z) hz
  exact ⟨S, fun j hj => (hS j hj).2, hl, fun j hj => (hS j hj).1⟩
theorem take_one {cs : List Value} {k : Nat} {v : Value} (h : (cs.drop k).take 1 = [v]) : cs[k]? = some v := by
  have h2 := congrArg (·[0]?) h
  simp only [List.getElem?_take, List.getElem?_drop] at h2
  simpa using h2
set_option maxRecDepth 100000 in
theorem trod_ask {n : Nat} {cs : List Value} {x : DataW H × List MemPlace} (h : DataW.trod enc Try.prog W base spare held n 79 cs = some x) :
    ∃ T U S sl bn bc C K mm ag, (∀ i, i < 22 → cs[i]? = some (askF T U S sl bn bc K mm ag i)) ∧ (T.size : Int) ≤ 9223372036854775807 ∧ (0 ≤ U ∧ U ≤ 65535) ∧ (∀ j, j < 16 → isByte (S j)) ∧ Bnd W sl bn bc C ∧ (∀ j, j < bn → isByte (C j)) ∧ (bn : Int) ≤ 9223372036854775807 ∧ (Lit.int .i64 mm).wf = true := by
  obtain ⟨xs, m, _, _, hl, hxl, hf⟩ := DataW.trod_struct Try.underlying79 h
  have c79 : Try.prog.cellsOf 79 = 22 := by kernel_rfl
  have c9 : Try.prog.cellsOf 9 = 1 := by kernel_rfl
  have c76 : Try.prog.cellsOf 76 = 1 := by kernel_rfl
  have c77 : Try.prog.cellsOf 77 = 16 := by kernel_rfl
  have c42 : Try.prog.cellsOf 42 = 1 := by kernel_rfl
  have c5 : Try.prog.cellsOf 5 = 1 := by kernel_rfl
  have c3 : Try.prog.cellsOf 3 = 1 := by kernel_rfl
  have c4 : Try.prog.cellsOf 4 = 1 := by kernel_rfl
  have hx7 : xs.length = 7 := hxl
  have f0 : DataW.trod enc Try.prog W base spare held m 9 ((cs.drop 0).take (Try.prog.cellsOf 9)) = xs[0]? := hf 0 _ rfl
  have f1 : DataW.trod enc Try.prog W base spare held m 76 ((cs.drop 1).take (Try.prog.cellsOf 76)) = xs[1]? := hf 1 _ rfl
  have f2 : DataW.trod enc Try.prog W base spare held m 77 ((cs.drop 2).take (Try.prog.cellsOf 77)) = xs[2]? := hf 2 _ rfl
  have f3 : DataW.trod enc Try.prog W base spare held m 42 ((cs.drop 18).take (Try.prog.cellsOf 42)) = xs[3]? := hf 3 _ rfl
  have f4 : DataW.trod enc Try.prog W base spare held m 5 ((cs.drop 19).take (Try.prog.cellsOf 5)) = xs[4]? := hf 4 _ rfl
  have f5 : DataW.trod enc Try.prog W base spare held m 3 ((cs.drop 20).take (Try.prog.cellsOf 3)) = xs[5]? := hf 5 _ rfl
  have f6 : DataW.trod enc Try.prog W base spare held m 4 ((cs.drop 21).take (Try.prog.cellsOf 4)) = xs[6]? := hf 6 _ rfl
  rw [List.getElem?_eq_getElem (by omega)] at f0 f1 f2 f3 f4 f5 f6
  rw [c9] at f0
  rw [c76] at f1
  rw [c77] at f2
  rw [c42] at f3
  rw [c5] at f4
  rw [c3] at f5
  rw [c4] at f6
  obtain ⟨T, e0, _, hT⟩ := DataW.trod_string Try.underlying9 f0
  obtain ⟨U, e1, _, wU⟩ := DataW.trod_int Try.underlying76 f1
  obtain ⟨S, hS, _, e2⟩ := trod_bytes16 f2
  obtain ⟨K, e4, _, _⟩ := DataW.trod_int Try.underlying5 f4
  obtain ⟨mm, e5, _, wm⟩ := DataW.trod_int Try.underlying3 f5
  obtain ⟨ag, e6, _⟩ := DataW.trod_bool Try.underlying4 f6
  have b : ∃ sl bn bc C, (cs.drop 18).take 1 = [.slice sl bn bc] ∧ Bnd W sl bn bc C ∧ (∀ j, j < bn → isByte (C j)) ∧ (bn : Int) ≤ 9223372036854775807 := by
    rcases open_ints Try.underlying42 Try.underlying5 c5 f3 with ⟨h1, _⟩ | ⟨a, len, cap, zs, h1, _, hlc, hcm, hzl, _, hcell, hwf⟩
    · exact ⟨none, 0, 0, fun _ => 0, h1, .inl ⟨rfl, rfl, rfl⟩, fun j hj => absurd hj (Nat.not_lt_zero _), by omega⟩
    · have hlz : len ≤ zs.length := by rw [hzl]; split <;> omega
      unfold maxLen at hcm
      refine ⟨some a, len, cap, fun j => zs.getD j 0, h1, .inr ⟨a, rfl, fun j hj => hcell j (by omega)⟩, fun j hj => ?_, by omega⟩
      have hj' : j < zs.length := by omega
      have := hwf zs[j] (List.getElem_mem hj')
      show isByte (zs.getD j 0)
      rw [List.getD_eq_getElem?_getD, List.getElem?_eq_getElem hj']
      simp [Lit.wf, IntKind.min, IntKind.max, IntKind.signed, IntKind.bits] at this
      simp only [Option.getD_some]
      unfold isByte
      omega
  obtain ⟨sl, bn, bc, C, e3, hb, hC, hbn⟩ := b
  refine ⟨T, U, S, sl, bn, bc, C, K, mm, ag, fun i hi => ?_, by unfold maxLen at hT; omega, ?_, hS, hb, hC, hbn, wm⟩
  · by_cases h0 : i = 0
    · subst h0; exact take_one e0
    by_cases h1 : i = 1
    · subst h1; exact take_one e1
    by_cases h18 : i < 18
    · have := e2 (i - 2) (by omega)
      rw [List.getElem?_take, if_pos (by omega), List.getElem?_drop, show 2 + (i - 2) = i by omega] at this
      rw [this]
      unfold askF
      rw [if_neg h0, if_neg h1, if_pos h18]
    · rcases (show i = 18 ∨ i = 19 ∨ i = 20 ∨ i = 21 by omega) with rfl | rfl | rfl | rfl
      · exact take_one e3
      · exact take_one e4
      · exact take_one e5
      · exact take_one e6
  · simp [Lit.wf, IntKind.min, IntKind.max, IntKind.signed, IntKind.bits] at wU
    omega
variable {v : Value} {d : DataW H} {p : List MemPlace}
set_option maxRecDepth 100000 in
theorem open_asks {r : Reach} {b : Nat} (hv : Value.okWide Try.prog W r b 73 v) (h : DataW.Trod enc Try.prog W base spare held 73 v d p) : ∃ (a : Option Addr) (n cap : Nat), v = .slice a n cap ∧ ((n : Int) ≤ 9223372036854775807 ∧ SlA W a n cap) := by
  obtain ⟨a, n, cap, rfl⟩ : ∃ a n cap, v = .slice a n cap := okWide_slice Try.underlying73 hv
  obtain ⟨fuel, hf⟩ := h
  rcases open_slice Try.underlying73 (by simpa [Value.cells] using hf) with ⟨h0, _⟩ | ⟨a', n', cap', m, k, D, Pl, hc, _, hle, hmax, hmm, _, hx⟩
  · simp only [List.cons.injEq, and_true, Value.slice.injEq] at h0
    obtain ⟨rfl, rfl, rfl⟩ := h0
    exact ⟨none, 0, 0, rfl, by omega, ⟨fun j hj => absurd hj (Nat.not_lt_zero _)⟩⟩
  · simp only [List.cons.injEq, and_true, Value.slice.injEq] at hc
    obtain ⟨rfl, rfl, rfl⟩ := hc
    have hnm : n ≤ m := by rw [hmm]; split <;> omega
    have hc79 : Try.prog.cellsOf 79 = 22 := by kernel_rfl
    rw [hc79] at hx
    unfold maxLen at hmax
    refine ⟨some a', n, cap, rfl, by omega, ⟨fun j hj => ⟨a'.add (j * 22), fun w' => run_index_at73 hj w', ?_⟩⟩⟩
    obtain ⟨cs', h1, h2⟩ := hx j (by omega)
    obtain ⟨T, U, S, sl, bn, bc, C, K, mm, ag, q1, q2, q3, q4, q5, q6, q7, q8⟩ := trod_ask h2
    obtain ⟨_, _, hcell⟩ := World.cells?_some h1
    refine ⟨T, U, S, sl, bn, bc, C, K, mm, ag, fun i hi => ?_, q2, q3, q4, q5, q6, q7, q8⟩
    have h5 := hcell i (by omega)
    have h6 := q1 i hi
    rw [← h6]
    exact h5
end
end Go.Proofs.Ytnajihlhcdedgaa
