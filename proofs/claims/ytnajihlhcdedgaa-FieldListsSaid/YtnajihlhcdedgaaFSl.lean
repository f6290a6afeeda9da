/-
  A slice of elements among the arguments, opened.
-/
import Derived.Test.YtnajihlhcdedgaaFC
import Derived.Test.YtnajihlhcdedgaaFE
import Derived.Test.YtnajihlhcdedgaaFrame
import Derived.Deep.Slices
namespace Go.Proofs.Ytnajihlhcdedgaa
open Go.ChangeShapes Go.WideShapes Go.ChangeAt Go.RowKit Go.Deep
set_option linter.unusedVariables false

section
variable {H : Type} {enc : TypeId × Value → H} {W : World} {base : Nat} {spare : Nat → Bool} {held : Bool}
set_option maxRecDepth 100000 in
theorem trod_pair {n : Nat} {cs : List Value} {x : DataW H × List MemPlace} (h : DataW.trod enc Try.prog W base spare held n 28 cs = some x) : ∃ z, is128 z ∧ cs = [.int .u64 (z % 18446744073709551616), .int .u64 (z / 18446744073709551616)] := by
  obtain ⟨xs, m, _, _, hl, hxl, hall⟩ := DataW.trod_array Try.underlying28 h
  have hc28 : Try.prog.cellsOf 28 = 2 := by kernel_rfl
  rw [hc28] at hl
  rw [cells22] at hall
  match cs, hl with
  | [v0, v1], _ =>
    have a0 := hall 0 (by omega)
    have a1 := hall 1 (by omega)
    rw [List.getElem?_eq_getElem (by omega)] at a0 a1
    simp only [Nat.zero_mul, Nat.one_mul, List.drop_zero, List.take_succ_cons, List.take_zero, List.drop_succ_cons] at a0 a1
    obtain ⟨z0, e0, _, w0⟩ := DataW.trod_int Try.underlying22 a0
    obtain ⟨z1, e1, _, w1⟩ := DataW.trod_int Try.underlying22 a1
    simp only [List.cons.injEq, and_true] at e0 e1
    subst e0 e1
    have h0 := is64_mk w0
    have h1 := is64_mk w1
    refine ⟨z0 + z1 * 18446744073709551616, ?_, ?_⟩
    · unfold is64 at h0 h1; unfold is128; omega
    · unfold is64 at h0 h1
      rw [show (z0 + z1 * 18446744073709551616) % 18446744073709551616 = z0 by omega, show (z0 + z1 * 18446744073709551616) / 18446744073709551616 = z1 by omega]
set_option maxRecDepth 100000 in
theorem open_elems {r : Reach} {b : Nat} {v : Value} {d : DataW H} {p : List MemPlace} (hv : Value.okWide Try.prog W r b 90 v) (h : DataW.Trod enc Try.prog W base spare held 90 v d p) :
    ∃ (a : Option Addr) (n cap : Nat) (x : Nat → Int), v = .slice a n cap ∧ ((n : Int) ≤ 9223372036854775807 ∧ (∀ j, j < n → is128 (x j)) ∧ SlX W a n cap W.heap.size x) := by
  obtain ⟨a, n, cap, rfl⟩ : ∃ a n cap, v = .slice a n cap := okWide_slice Try.underlying90 hv
  obtain ⟨fuel, hf⟩ := h
  rcases open_slice Try.underlying90 (by simpa [Value.cells] using hf) with ⟨h0, _⟩ | ⟨a', n', cap', m, k, D, Pl, hc, _, hle, hmax, hmm, _, hx⟩
  · simp only [List.cons.injEq, and_true, Value.slice.injEq] at h0
    obtain ⟨rfl, rfl, rfl⟩ := h0
    exact ⟨none, 0, 0, fun _ => 0, rfl, by omega, fun j hj => absurd hj (Nat.not_lt_zero _), ⟨fun j hj => absurd hj (Nat.not_lt_zero _)⟩⟩
  · simp only [List.cons.injEq, and_true, Value.slice.injEq] at hc
    obtain ⟨rfl, rfl, rfl⟩ := hc
    have hnm : n ≤ m := by rw [hmm]; split <;> omega
    have hc28 : Try.prog.cellsOf 28 = 2 := by kernel_rfl
    rw [hc28] at hx
    obtain ⟨x, hX⟩ := choose_lt (n := n) (p := fun i z => is128 z ∧ W.cell? (a'.add (i * 2)) = some (.int .u64 (z % 18446744073709551616)) ∧ W.cell? ((a'.add (i * 2)).add 1) = some (.int .u64 (z / 18446744073709551616))) (fun i hi => by
      obtain ⟨cs', h1, h2⟩ := hx i (by omega)
      obtain ⟨z, hz, rfl⟩ := trod_pair h2
      obtain ⟨_, _, hcell⟩ := World.cells?_some h1
      have c0 := hcell 0 (by omega)
      have c1 := hcell 1 (by omega)
      refine ⟨z, hz, by simpa [Addr.add] using c0, by simpa using c1⟩)
    refine ⟨some a', n, cap, x, rfl, by unfold maxLen at hmax; omega, fun j hj => (hX j hj).1, ⟨fun j hj => ⟨a'.add (j * 2), fun w' => run_index_at90 hj w', (hX j hj).2.1, (hX j hj).2.2, block_lt_of_cell (hX j hj).2.1⟩⟩⟩
end
end Go.Proofs.Ytnajihlhcdedgaa
