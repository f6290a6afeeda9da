/-
  A struct of three integers among the arguments, opened.
-/
import Derived.Test.YtbpmgdneiejhoaaFrame
import Derived.Lib.SmallJoins
import Derived.Laws.Cover2
namespace Go.Proofs.Ytbpmgdneiejhoaa
open Go.ChangeShapes Go.WideShapes Go.ChangeAt Go.RowKit Go.Joins Go.Deep
set_option linter.unusedVariables false

section
variable {H : Type} {enc : TypeId × Value → H} {P : Program} {w : World} {base : Nat} {spare : Nat → Bool} {held : Bool} {r : Reach} {b : Nat} {t : TypeId} {v : Value} {d : DataW H} {p : List MemPlace}
theorem open_int_struct3 {f0 f1 f2 : Field} {k : IntKind} (hs : P.underlying t = some (.struct #[f0, f1, f2])) (hone : oneCellFields P #[f0, f1, f2] = true) (hC : P.cellsOf t = 3)
    (h0 : P.underlying f0.type = some (.int k)) (h1 : P.underlying f1.type = some (.int k)) (h2 : P.underlying f2.type = some (.int k))
    (hv : Value.okWide P w r b t v) (h : DataW.Trod enc P w base spare held t v d p) :
    p = [] ∧ ∃ zs : List Int, v = .agg (zs.map (Value.int k)).toArray ∧ zs.length = 3 ∧ ∀ z ∈ zs, (Lit.int k z).wf = true := by
  obtain ⟨v0, v1, v2, y0, y1, y2, n, rfl, rfl, rfl, t0, t1, t2⟩ := open_agg3 hs hone hC hv h
  obtain ⟨z0, e0, g0, w0⟩ := DataW.trod_int h0 t0
  obtain ⟨z1, e1, g1, w1⟩ := DataW.trod_int h1 t1
  obtain ⟨z2, e2, g2, w2⟩ := DataW.trod_int h2 t2
  simp only [List.cons.injEq, and_true] at e0 e1 e2
  subst e0 e1 e2
  refine ⟨by rw [g0, g1, g2]; rfl, [z0, z1, z2], rfl, rfl, ?_⟩
  intro z hz
  simp only [List.mem_cons, List.not_mem_nil, or_false] at hz
  rcases hz with rfl | rfl | rfl
  · exact w0
  · exact w1
  · exact w2
end
end Go.Proofs.Ytbpmgdneiejhoaa
