/-
  QuantVecs: for every scale, three small numbers and slice of doubles the law returns true; and how such arguments are opened.
-/
import Derived.Test.YtbpmgdneiejhoaaQV2
import Derived.Test.YtbpmgdneiejhoaaFrameQ
import Derived.Deep.Slices
namespace Go.Proofs.Ytbpmgdneiejhoaa
open Go.RowKit
set_option linter.unusedVariables false
set_option linter.unusedSimpArgs false
attribute [local go_sem] run_store_float
attribute [local simp] blkAt_setCell blkAt_alloc blkAt_drew Obj.put_cells

set_option maxRecDepth 100000 in
set_option maxHeartbeats 4000000 in
theorem quant_vecs_long (low0 step0 : Nat) (steps0 l s k : Int) (a : Option Addr) (n cap : Nat) (w : World) (hn : (100 : Int) < (n : Int)) (hm : (n : Int) ≤ 9223372036854775807) (hA : Pure Try.prog 7 #[] (.bool true)) :
    Calls Try.prog 3 #[.agg #[.float .f64 low0, .float .f64 step0, .int .u32 steps0], .agg #[.int .i16 l, .int .i16 s, .int .i16 k], .slice a n cap] w fun e w' => e = .returned (.bool true) ∧ Kept w w' := by
  have HA := Lib.hid hA
  clear hA
  go_enter Try.func3, Try.ntmps3
  go_wp2_with fail
  refine (HA.out _).mono ?_
  rintro e W1 ⟨rfl, hk1⟩
  have k1 := (((Kept.refl w).alloc _).alloc _).trans hk1
  go_wp2_with fail
  go_ret
  exact ⟨rfl, k1⟩

theorem choose_pair {p : Nat → Int → Int → Prop} (h : ∀ j, ∃ v c, p j v c) : ∃ vf cf : Nat → Int, ∀ j, p j (vf j) (cf j) := by
  classical
  exact ⟨fun j => Classical.choose (h j), fun j => Classical.choose (Classical.choose_spec (h j)), fun j => Classical.choose_spec (Classical.choose_spec (h j))⟩

theorem quant_vecs_law (low0 step0 : Nat) (steps0 : Int) (hl0 : low0 < 18446744073709551616) (hs0 : step0 < 18446744073709551616) (h0 : 0 ≤ steps0) (h1 : steps0 ≤ 4294967295)
    (t : List Int) (lt : t.length = 3) (wt : ∀ z ∈ t, (Lit.int .i16 z).wf = true) (a : Option Addr) (n cap : Nat) (X : Nat → Nat) (hm : (n : Int) ≤ 9223372036854775807) (w : World) (hS : SlF w a n cap X) :
    Calls Try.prog 3 #[.agg #[.float .f64 low0, .float .f64 step0, .int .u32 steps0], .agg (t.map (Value.int .i16)).toArray, .slice a n cap] w fun e w' => e = .returned (.bool true) ∧ Kept w w' := by
  match t, lt with
  | [l, s, k], _ =>
    rcases (by omega : (100 : Int) < (n : Int) ∨ (n : Int) ≤ 100) with h100 | h100
    · exact quant_vecs_long low0 step0 steps0 l s k a n cap w h100 hm quant_Awake
    have hl := wt l (by simp)
    simp [Lit.wf, IntKind.min, IntKind.max, IntKind.signed, IntKind.bits] at hl
    obtain ⟨A, low1, step1, steps1, h, hSc⟩ := law_scale l s k (by omega) (by omega)
    have hs10 := h.s0
    have hs11 := h.s1
    obtain ⟨v0, c0, H0⟩ := choose_pair (fun j => let ⟨v, c, h⟩ := whole_same low0 step0 (X j) steps0 hl0 hs0 h0 h1; ⟨v, c, (And.intro h.2.2.2.1 h.2.2.2.2 : (Pure Try.prog 13 #[scaleV low0 step0 steps0, .float .f64 (X j)] (.tuple #[.int .u32 v, .int .i64 c]) ∧ Pure Try.prog 11 #[scaleV low0 step0 steps0, .float .f64 (X j)] (.tuple #[.int .u32 v, .int .i64 c])))⟩)
    obtain ⟨v1, c1, H1⟩ := choose_pair (fun j => let ⟨v, c, h⟩ := whole_same low1 step1 (X j) steps1 h.low64 h.step64 (by omega) (by omega); ⟨v, c, (And.intro h.2.2.2.1 h.2.2.2.2 : (Pure Try.prog 13 #[scaleV low1 step1 steps1, .float .f64 (X j)] (.tuple #[.int .u32 v, .int .i64 c]) ∧ Pure Try.prog 11 #[scaleV low1 step1 steps1, .float .f64 (X j)] (.tuple #[.int .u32 v, .int .i64 c])))⟩)
    exact quant_vecs_raw low0 step0 low1 step1 steps0 steps1 l s k a n cap X (fun i => if i = 0 then v0 else v1) (fun i => if i = 0 then c0 else c1) w h100 hS quant_Awake hSc
      (Lib.hid fun j _ => (H0 j).1) (Lib.hid fun j _ => (H1 j).1) (Lib.hid fun j _ => (H0 j).2) (Lib.hid fun j _ => (H1 j).2)

theorem size22 : (Try.prog.info? 22).map (fun i => i.size) = some 1 := by kernel_rfl
section
open Go.ChangeShapes Go.WideShapes Go.ChangeAt Go.Joins Go.Deep
variable {H : Type} {enc : TypeId × Value → H} {w : World} {base : Nat} {spare : Nat → Bool} {held : Bool} {r : Reach} {b : Nat} {t : TypeId} {v : Value} {d : DataW H} {p : List MemPlace}
theorem trod_float {P : Program} {k : FloatKind} {n : Nat} {c : Value} {x : DataW H × List MemPlace} (ht : P.underlying t = some (.float k)) (h : DataW.trod enc P w base spare held n t [c] = some x) :
    ∃ b, c = .float k b ∧ (Lit.float k b).wf = true := by
  cases n with
  | zero => simp [DataW.trod] at h
  | succ n =>
    by_cases hc : ∃ b, c = .float k b
    · obtain ⟨b, rfl⟩ := hc
      refine ⟨b, rfl, ?_⟩
      simp only [DataW.trod, ht] at h
      by_cases hw : (Lit.float k b).wf = true
      · exact hw
      · simp [hw] at h
    · exfalso
      cases c <;> simp [DataW.trod, ht] at h
      rename_i k' b
      exact hc ⟨b, by simp [h.1.1]⟩

theorem open_scale (hv : Value.okWide Try.prog w r b 25 v) (h : DataW.Trod enc Try.prog w base spare held 25 v d p) :
    ∃ (low step : Nat) (steps : Int), v = .agg #[.float .f64 low, .float .f64 step, .int .u32 steps] ∧ low < 18446744073709551616 ∧ step < 18446744073709551616 ∧ 0 ≤ steps ∧ steps ≤ 4294967295 := by
  obtain ⟨v0, v1, v2, y0, y1, y2, n, rfl, _, _, t0, t1, t2⟩ := open_agg3 Try.underlying25 (by kernel_rfl) (by kernel_rfl) hv h
  obtain ⟨z0, rfl, w0⟩ := trod_float (k := .f64) (by kernel_rfl) t0
  obtain ⟨z1, rfl, w1⟩ := trod_float (k := .f64) (by kernel_rfl) t1
  obtain ⟨z2, e2, _, w2⟩ := DataW.trod_int (k := .u32) (by kernel_rfl) t2
  simp only [List.cons.injEq, and_true] at e2
  subst e2
  refine ⟨z0, z1, z2, rfl, ?_⟩
  simp [Lit.wf] at w0 w1
  simp [Lit.wf, IntKind.min, IntKind.max, IntKind.signed, IntKind.bits] at w2
  exact ⟨w0, w1, w2.1, by omega⟩

theorem open_floats (hv : Value.okWide Try.prog w r b 29 v) (h : DataW.Trod enc Try.prog w base spare held 29 v d p) :
    ∃ (a : Option Addr) (n cap : Nat) (X : Nat → Nat), v = .slice a n cap ∧ (n : Int) ≤ 9223372036854775807 ∧ SlF w a n cap X := by
  obtain ⟨a, n, cap, rfl⟩ : ∃ a n cap, v = .slice a n cap := okWide_slice Try.underlying29 hv
  obtain ⟨fuel, hf⟩ := h
  rcases open_slice1 Try.underlying29 (by kernel_rfl) (by simpa [Value.cells] using hf) with ⟨h0, _⟩ | ⟨a', n', cap', m, k, V, D, Pl, hc, _, hle, hmax, hmm, _, hx⟩
  · simp only [List.cons.injEq, and_true, Value.slice.injEq] at h0
    obtain ⟨rfl, rfl, rfl⟩ := h0
    exact ⟨none, 0, 0, fun _ => 0, rfl, by omega, ⟨fun j hj => absurd hj (Nat.not_lt_zero _)⟩⟩
  · simp only [List.cons.injEq, and_true, Value.slice.injEq] at hc
    obtain ⟨rfl, rfl, rfl⟩ := hc
    have hnm : n ≤ m := by rw [hmm]; split <;> omega
    obtain ⟨X, hX⟩ := choose_lt (n := n) (p := fun i x => V i = .float .f64 x) (fun i hi => by
      obtain ⟨z, hz, _⟩ := trod_float (k := .f64) (by kernel_rfl) (hx i (by omega)).2
      exact ⟨z, hz⟩)
    refine ⟨some a', n, cap, X, rfl, ?_, ⟨fun j hj => ⟨_, fun w' => run_index_at Try.underlying29 size22 hj w', ?_⟩⟩⟩
    · unfold maxLen at hmax; omega
    · rw [← hX j hj]; exact (hx j (by omega)).1
end
end Go.Proofs.Ytbpmgdneiejhoaa
