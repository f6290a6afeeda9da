/-
  WideRoots: for every input the law returns true, and each argument reads afterwards as it read before.
  Conditions: none.
-/
import Derived.Test.YtnajihlhcdedgaaWRootsLaw
import Derived.Test.YtnajihlhcdedgaaFrame
import Derived.Test.YtnajihlhcdedgaaHead
namespace Go.Proofs.Ytnajihlhcdedgaa.wideRoots
open Go.ChangeShapes Go.WideShapes Go.ChangeAt Go.RowKit
open Go.ChangeMaps (open_string shut_string)
set_option linter.unusedVariables false

set_option maxRecDepth 100000 in
theorem lifted (os : Os) (started : os.Started) (H : Type) (enc : TypeId × Value → H) :
    ReturnsInHanded {} Try.checked os 15 .any (Rows.wideRootsSpec.pre6 enc Try.prog Try.f15 Rows.wideRootsRow.domain false) (Rows.wideRootsSpec.post enc Try.prog Try.f15 false true false false) := by
  refine returnsInHanded_of_change (C := Try.checked) own started (by kernel_rfl) Try.func15
    (ChangeSpec.witness6 (enc := enc) (C := Try.checked) false ⟨#[], #[.int .i64 0], []⟩ 8 (by kernel_rfl) (by kernel_rfl) (by kernel_rfl) (by kernel_rfl)) ?_
  intro W base args ds gs before hval0 hW hcnd _
  have hval : ∀ (j : Nat) t v, Try.f15.params[j]? = some t → args[j]? = some v → Value.okWide Try.prog W .any base t v := hval0
  have hW' := hW
  obtain ⟨p, q, hA0, hV, rfl, hfz, hnd⟩ := hW
  have hA : DataW.TrodAll enc Try.prog W 0 (fun _ => true) true Try.f15.params.toList args.toList ds p := hA0
  rw [Try.params15] at hA hval
  obtain ⟨v0, vs0, d0, ds0, p0, q0, hargs, rfl, rfl, h0, r0⟩ := trodAll_cons hA
  obtain ⟨rfl, rfl, rfl⟩ := trodAll_nil r0
  obtain rfl : args = #[v0] := by cases args; simp_all
  obtain ⟨rfl, rfl⟩ := trodVars_none hV
  have k0 := h0
  have lt0 : ∀ x ∈ p0, x.block < W.heap.size := by obtain ⟨m, hm⟩ := k0; exact DataW.trod_lt m _ _ _ hm
  obtain ⟨a0, rfl, rfl, rfl, w0⟩ := open_int Try.underlying3 (hval 0 3 v0 rfl rfl) h0
  clear hA0 hval0
  refine (wide_roots_law a0 w0 W).mono fun e W' ⟨he, bel⟩ => ?_
  subst he
  exact ⟨_, rfl, _, _, _, [], _, [], hW', trodAll_mk1 (shut_bool Try.underlying4 _), (trodAll_cons_mk (Below.trod laidOut (by kernel_rfl) (of_decide_eq_true (by kernel_rfl)) k0 bel lt0) trodAll_mk0), rfl, bel.frame _, fun h => by cases h⟩

theorem c10 : (Rows.wideRootsRow.inPlace == Try.prog.inPlace 15) = true := by kernel_rfl
theorem c11 : (Rows.wideRootsRow.unfollowed == Try.prog.unfollowed 15) = true := by kernel_rfl
theorem c12 : (Rows.wideRootsRow.recurses == Try.prog.recurses 15) = true := by kernel_rfl
theorem c13 : (Rows.wideRootsRow.named == Try.prog.varsNamed 15) = true := by kernel_rfl
theorem closed : joinedFacts Try.prog 15 Try.f15 Rows.wideRootsSpec Rows.wideRootsRow = true :=
  joinedFacts_mk (by as_aux_lemma => kernel_rfl) all_laidOut all_mapsRowed (by as_aux_lemma => kernel_rfl) (by as_aux_lemma => kernel_rfl) (by as_aux_lemma => kernel_rfl) all_stops (by as_aux_lemma => kernel_rfl) all_stopKnobs c10 c11 c12 c13
    (by as_aux_lemma => kernel_rfl) (by as_aux_lemma => kernel_rfl) (by as_aux_lemma => kernel_rfl) (by as_aux_lemma => kernel_rfl) (by as_aux_lemma => kernel_rfl) (by as_aux_lemma => kernel_rfl) (by as_aux_lemma => kernel_rfl) (by as_aux_lemma => kernel_rfl)
    (by as_aux_lemma => kernel_rfl) (by as_aux_lemma => kernel_rfl) (by as_aux_lemma => kernel_rfl) all_stopsHeard head_mayEnter head_liftsFinal head_make (by as_aux_lemma => kernel_rfl) (by as_aux_lemma => kernel_rfl) (by as_aux_lemma => kernel_rfl) (by as_aux_lemma => kernel_rfl)

theorem named : Try.prog.funcNamed Rows.wideRootsRow.func = some 15 := by kernel_rfl
theorem inst : Try.f15.isInstance Try.prog Rows.wideRootsRow.origin Rows.wideRootsRow.targs := of_decide_eq_true (by kernel_rfl)
theorem wrap : Try.f15.isWrapper Try.prog Rows.wideRootsRow.wrapper Rows.wideRootsRow.mainSum := by
  unfold Func.isWrapper
  rw [if_neg (by decide +kernel)]
  exact ⟨rfl, rfl⟩

theorem over : Rows.wideRootsRow.holds Try.pinned (OpenSpec.ofChange Rows.wideRootsSpec) :=
  OpenClaim.holds_of_wide 15 Try.f15 rfl rfl rfl rfl rfl rfl rfl ⟨rfl, rfl, rfl, rfl, rfl⟩ rfl rfl rfl rfl rfl named Try.func15 closed inst wrap
    (fun os started H enc _ => lifted os started H enc)

/-- THE STATEMENT -/
theorem proved : Rows.WideRootsSaid := over
#print axioms proved
end Go.Proofs.Ytnajihlhcdedgaa.wideRoots
