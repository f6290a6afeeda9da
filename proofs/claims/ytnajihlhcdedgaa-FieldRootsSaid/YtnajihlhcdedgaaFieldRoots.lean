/-
  FieldRoots: for every input the law returns true, and each argument reads afterwards as it read before.
  Conditions: none.
-/
import Derived.Test.YtnajihlhcdedgaaFRoots
import Derived.Test.YtnajihlhcdedgaaFrame
import Derived.Test.YtnajihlhcdedgaaHead
namespace Go.Proofs.Ytnajihlhcdedgaa.fieldRoots
open Go.ChangeShapes Go.WideShapes Go.ChangeAt Go.RowKit
open Go.ChangeMaps (open_string shut_string)
set_option linter.unusedVariables false

set_option maxRecDepth 100000 in
theorem lifted (os : Os) (started : os.Started) (H : Type) (enc : TypeId × Value → H) :
    ReturnsInHanded {} Try.checked os 18 .any (Rows.fieldRootsSpec.pre6 enc Try.prog Try.f18 Rows.fieldRootsRow.domain false) (Rows.fieldRootsSpec.post enc Try.prog Try.f18 false true false false) := by
  refine returnsInHanded_of_change (C := Try.checked) own started (by kernel_rfl) Try.func18
    (ChangeSpec.witness6 (enc := enc) (C := Try.checked) false ⟨#[], #[.int .i64 0], []⟩ 8 (by kernel_rfl) (by kernel_rfl) (by kernel_rfl) (by kernel_rfl)) ?_
  intro W base args ds gs before hval0 hW hcnd _
  have hval : ∀ (j : Nat) t v, Try.f18.params[j]? = some t → args[j]? = some v → Value.okWide Try.prog W .any base t v := hval0
  have hW' := hW
  obtain ⟨p, q, hA0, hV, rfl, hfz, hnd⟩ := hW
  have hA : DataW.TrodAll enc Try.prog W 0 (fun _ => true) true Try.f18.params.toList args.toList ds p := hA0
  rw [Try.params18] at hA hval
  obtain ⟨v0, vs0, d0, ds0, p0, q0, hargs, rfl, rfl, h0, r0⟩ := trodAll_cons hA
  obtain ⟨rfl, rfl, rfl⟩ := trodAll_nil r0
  obtain rfl : args = #[v0] := by cases args; simp_all
  obtain ⟨rfl, rfl⟩ := trodVars_none hV
  have k0 := h0
  have lt0 : ∀ x ∈ p0, x.block < W.heap.size := by obtain ⟨m, hm⟩ := k0; exact DataW.trod_lt m _ _ _ hm
  obtain ⟨a0, rfl, rfl, rfl, w0⟩ := open_int Try.underlying3 (hval 0 3 v0 rfl rfl) h0
  clear hA0 hval0
  refine (fieldRoots_walk a0 w0 W ).mono fun e W' ⟨he, bel⟩ => ?_
  subst he
  exact ⟨_, rfl, _, _, _, [], _, [], hW', trodAll_mk1 (shut_bool Try.underlying4 _), (trodAll_cons_mk (Below.trod laidOut (by kernel_rfl) (of_decide_eq_true (by kernel_rfl)) k0 bel lt0) trodAll_mk0), rfl, bel.frame _, fun h => by cases h⟩

theorem c10 : (Rows.fieldRootsRow.inPlace == Try.prog.inPlace 18) = true := by kernel_rfl
theorem c11 : (Rows.fieldRootsRow.unfollowed == Try.prog.unfollowed 18) = true := by kernel_rfl
theorem c12 : (Rows.fieldRootsRow.recurses == Try.prog.recurses 18) = true := by kernel_rfl
theorem c13 : (Rows.fieldRootsRow.named == Try.prog.varsNamed 18) = true := by kernel_rfl
theorem closed : joinedFacts Try.prog 18 Try.f18 Rows.fieldRootsSpec Rows.fieldRootsRow = true :=
  joinedFacts_mk (by as_aux_lemma => kernel_rfl) all_laidOut all_mapsRowed (by as_aux_lemma => kernel_rfl) (by as_aux_lemma => kernel_rfl) (by as_aux_lemma => kernel_rfl) all_stops (by as_aux_lemma => kernel_rfl) all_stopKnobs c10 c11 c12 c13
    (by as_aux_lemma => kernel_rfl) (by as_aux_lemma => kernel_rfl) (by as_aux_lemma => kernel_rfl) (by as_aux_lemma => kernel_rfl) (by as_aux_lemma => kernel_rfl) (by as_aux_lemma => kernel_rfl) (by as_aux_lemma => kernel_rfl) (by as_aux_lemma => kernel_rfl)
    (by as_aux_lemma => kernel_rfl) (by as_aux_lemma => kernel_rfl) (by as_aux_lemma => kernel_rfl) all_stopsHeard head_mayEnter head_liftsFinal head_make (by as_aux_lemma => kernel_rfl) (by as_aux_lemma => kernel_rfl) (by as_aux_lemma => kernel_rfl) (by as_aux_lemma => kernel_rfl)

theorem named : Try.prog.funcNamed Rows.fieldRootsRow.func = some 18 := by kernel_rfl
theorem inst : Try.f18.isInstance Try.prog Rows.fieldRootsRow.origin Rows.fieldRootsRow.targs := of_decide_eq_true (by kernel_rfl)
theorem wrap : Try.f18.isWrapper Try.prog Rows.fieldRootsRow.wrapper Rows.fieldRootsRow.mainSum := by
  unfold Func.isWrapper
  rw [if_neg (by decide +kernel)]
  exact ⟨rfl, rfl⟩

theorem over : Rows.fieldRootsRow.holds Try.pinned (OpenSpec.ofChange Rows.fieldRootsSpec) :=
  OpenClaim.holds_of_wide 18 Try.f18 rfl rfl rfl rfl rfl rfl rfl ⟨rfl, rfl, rfl, rfl, rfl⟩ rfl rfl rfl rfl rfl named Try.func18 closed inst wrap
    (fun os started H enc _ => lifted os started H enc)

/-- THE STATEMENT -/
theorem proved : Rows.FieldRootsSaid := over
#print axioms proved
end Go.Proofs.Ytnajihlhcdedgaa.fieldRoots
