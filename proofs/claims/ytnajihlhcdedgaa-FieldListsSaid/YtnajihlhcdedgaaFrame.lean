/-
  What every law's proof shares: arrays of integers among the arguments, opened.
-/
import Derived.Test.YtnajihlhcdedgaaRows
import Derived.Test.YtnajihlhcdedgaaCalm
import Derived.WalkKit
import Derived.ProofKit
import Derived.OpenShut
import Derived.ShutString
import Derived.ChangeOld
import Derived.Below
namespace Go.Proofs.Ytnajihlhcdedgaa
open Go.ChangeShapes Go.WideShapes Go.ChangeAt Go.RowKit
open Go.ChangeMaps (open_string shut_string)
set_option linter.unusedVariables false

theorem own : ownKnob Try.prog.godebug = none := by kernel_rfl
theorem laidOut : laidOutB Try.prog = true := by kernel_rfl

section
variable {H : Type} {enc : TypeId × Value → H} {P : Program} {w : World} {base : Nat} {spare : Nat → Bool} {held : Bool} {r : Reach} {b : Nat} {t : TypeId} {v : Value} {d : DataW H} {p : List MemPlace}

theorem okWide_array {n : Nat} {e : TypeId} (ht : P.underlying t = some (.array n e)) (h : Value.okWide P w r b t v) : ∃ cs, v = .agg cs ∧ cs.size = P.cellsOf t := by
  unfold Value.okWide at h
  rw [ht] at h
  obtain ⟨cs, h1, h2, _⟩ := h
  exact ⟨cs, h1, h2⟩

/-- An array of integers that came in. -/
theorem open_int_array {n : Nat} {e : TypeId} {k : IntKind} (ht : P.underlying t = some (.array n e)) (he : P.underlying e = some (.int k)) (hce : P.cellsOf e = 1) (hct : P.cellsOf t = n)
    (hv : Value.okWide P w r b t v) (h : DataW.Trod enc P w base spare held t v d p) :
    p = [] ∧ ∃ zs : List Int, v = .agg (zs.map (Value.int k)).toArray ∧ zs.length = n ∧ ∀ z ∈ zs, (Lit.int k z).wf = true := by
  obtain ⟨cs, rfl, hsz⟩ := okWide_array ht hv
  obtain ⟨fuel, hf⟩ := h
  obtain ⟨xs, m, hfu, hx, hl, hxs, hall⟩ := DataW.trod_array ht hf
  simp only [Value.cells] at hl hall
  have hlen : cs.toList.length = n := by rw [hl, hct]
  have key : ∀ i, i < n → ∃ z : Int, cs.toList[i]? = some (.int k z) ∧ (Lit.int k z).wf = true ∧ ∃ d', xs[i]? = some (d', []) := by
    intro i hi
    have h1 := hall i hi
    rw [hce, Nat.mul_one] at h1
    have hi' : i < cs.toList.length := by omega
    rw [List.drop_eq_getElem_cons hi'] at h1
    simp only [List.take_succ_cons, List.take_zero] at h1
    have h2 : xs[i]? = some xs[i] := List.getElem?_eq_getElem (by omega)
    rw [h2] at h1
    obtain ⟨z, e0, e1, wz⟩ := DataW.trod_int he h1
    simp only [List.cons.injEq, and_true] at e0
    refine ⟨z, by rw [List.getElem?_eq_getElem hi', e0], wz, _, by rw [h2, e1]⟩
  have hp : p = [] := by
    have : p = xs.flatMap (·.2) := by
      have := congrArg (·.2) hx
      simpa using this
    rw [this]
    apply List.flatMap_eq_nil_iff.2
    intro x hxm
    obtain ⟨i, hi, rfl⟩ := List.getElem_of_mem hxm
    obtain ⟨_, _, _, d', hd'⟩ := key i (by omega)
    rw [List.getElem?_eq_getElem hi] at hd'
    injection hd' with hd'
    rw [hd']
  refine ⟨hp, cs.toList.map (fun v => match v with | .int _ q => q | _ => 0), ?_, by simpa using hlen, ?_⟩
  · congr 1
    apply Array.ext'
    apply List.ext_getElem?
    intro i
    rcases Nat.lt_or_ge i n with hi | hi
    · obtain ⟨z, hz, _⟩ := key i hi
      simp only [List.map_map, List.getElem?_map, hz, Option.map_some]
      rfl
    · rw [List.getElem?_eq_none (by omega), List.getElem?_eq_none (by simp; omega)]
  · intro z hz
    obtain ⟨y, hy, rfl⟩ := List.mem_map.1 hz
    obtain ⟨i, hi, rfl⟩ := List.getElem_of_mem hy
    obtain ⟨z, hz, wz, _⟩ := key i (by omega)
    rw [List.getElem?_eq_getElem hi] at hz
    injection hz with hz
    rw [hz]; exact wz
end
end Go.Proofs.Ytnajihlhcdedgaa
