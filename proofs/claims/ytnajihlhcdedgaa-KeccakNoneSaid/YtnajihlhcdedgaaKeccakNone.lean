/-
  KeccakNone: for every input the law returns true, and each argument reads afterwards as it read before.
  Conditions: none.
-/
import Derived.Test.YtnajihlhcdedgaaKNone
import Derived.Test.YtnajihlhcdedgaaFrame
import Derived.Test.YtnajihlhcdedgaaHead
namespace Go.Proofs.Ytnajihlhcdedgaa.keccakNone
open Go.ChangeShapes Go.WideShapes Go.ChangeAt Go.RowKit
open Go.ChangeMaps (open_string shut_string)
set_option linter.unusedVariables false

set_option maxRecDepth 100000 in
theorem lifted (os : Os) (started : os.Started) (H : Type) (enc : TypeId × Value → H) :
    ReturnsInHanded {} Try.checked os 14 .any (Rows.keccakNoneSpec.pre6 enc Try.prog Try.f14 Rows.keccakNoneRow.domain false) (Rows.keccakNoneSpec.post enc Try.prog Try.f14 false true false false) := by
  refine returnsInHanded_of_change (C := Try.checked) own started (by kernel_rfl) Try.func14
    (ChangeSpec.witness6 (enc := enc) (C := Try.checked) false ⟨#[], #[.slice none 0 0, .int .i64 0], []⟩ 8 (by kernel_rfl) (by kernel_rfl) (by kernel_rfl) (by kernel_rfl)) ?_
  intro W base args ds gs before hval0 hW hcnd _
  have hval : ∀ (j : Nat) t v, Try.f14.params[j]? = some t → args[j]? = some v → Value.okWide Try.prog W .any base t v := hval0
  have hW' := hW
  obtain ⟨p, q, hA0, hV, rfl, hfz, hnd⟩ := hW
  have hA : DataW.TrodAll enc Try.prog W 0 (fun _ => true) true Try.f14.params.toList args.toList ds p := hA0
  rw [Try.params14] at hA hval
  obtain ⟨v0, vs0, d0, ds0, p0, q0, hargs, rfl, rfl, h0, r0⟩ := trodAll_cons hA
  obtain ⟨v1, vs1, d1, ds1, p1, q1, rfl, rfl, rfl, h1, r1⟩ := trodAll_cons r0
  obtain ⟨rfl, rfl, rfl⟩ := trodAll_nil r1
  obtain rfl : args = #[v0, v1] := by cases args; simp_all
  obtain ⟨rfl, rfl⟩ := trodVars_none hV
  have k0 := h0
  have lt0 : ∀ x ∈ p0, x.block < W.heap.size := by obtain ⟨m, hm⟩ := k0; exact DataW.trod_lt m _ _ _ hm
  obtain ⟨a0, n0, c0, X0, rfl, s0⟩ := open_bytes (hval 0 42 v0 rfl rfl) h0
  have k1 := h1
  have lt1 : ∀ x ∈ p1, x.block < W.heap.size := by obtain ⟨m, hm⟩ := k1; exact DataW.trod_lt m _ _ _ hm
  obtain ⟨a1, rfl, rfl, rfl, w1⟩ := open_int Try.underlying3 (hval 1 3 v1 rfl rfl) h1
  clear hA0 hval0
  refine (keccakNone_walk a0 n0 c0 X0 s0 a1 w1 W ).mono fun e W' ⟨he, bel⟩ => ?_
  subst he
  exact ⟨_, rfl, _, _, _, [], _, [], hW', trodAll_mk1 (shut_bool Try.underlying4 _), (trodAll_cons_mk (Below.trod laidOut (by kernel_rfl) (of_decide_eq_true (by kernel_rfl)) k0 bel lt0) (trodAll_cons_mk (Below.trod laidOut (by kernel_rfl) (of_decide_eq_true (by kernel_rfl)) k1 bel lt1) trodAll_mk0)), rfl, bel.frame _, fun h => by cases h⟩

theorem c10 : (Rows.keccakNoneRow.inPlace == Try.prog.inPlace 14) = true := by kernel_rfl
theorem c11 : (Rows.keccakNoneRow.unfollowed == Try.prog.unfollowed 14) = true := by kernel_rfl
theorem c12 : (Rows.keccakNoneRow.recurses == Try.prog.recurses 14) = true := by kernel_rfl
theorem c13 : (Rows.keccakNoneRow.named == Try.prog.varsNamed 14) = true := by kernel_rfl
theorem closed : joinedFacts Try.prog 14 Try.f14 Rows.keccakNoneSpec Rows.keccakNoneRow = true :=
  joinedFacts_mk (by as_aux_lemma => kernel_rfl) all_laidOut all_mapsRowed (by as_aux_lemma => kernel_rfl) (by as_aux_lemma => kernel_rfl) (by as_aux_lemma => kernel_rfl) all_stops (by as_aux_lemma => kernel_rfl) all_stopKnobs c10 c11 c12 c13
    (by as_aux_lemma => kernel_rfl) (by as_aux_lemma => kernel_rfl) (by as_aux_lemma => kernel_rfl) (by as_aux_lemma => kernel_rfl) (by as_aux_lemma => kernel_rfl) (by as_aux_lemma => kernel_rfl) (by as_aux_lemma => kernel_rfl) (by as_aux_lemma => kernel_rfl)
    (by as_aux_lemma => kernel_rfl) (by as_aux_lemma => kernel_rfl) (by as_aux_lemma => kernel_rfl) all_stopsHeard head_mayEnter head_liftsFinal head_make (by as_aux_lemma => kernel_rfl) (by as_aux_lemma => kernel_rfl) (by as_aux_lemma => kernel_rfl) (by as_aux_lemma => kernel_rfl)

theorem named : Try.prog.funcNamed Rows.keccakNoneRow.func = some 14 := by kernel_rfl
theorem inst : Try.f14.isInstance Try.prog Rows.keccakNoneRow.origin Rows.keccakNoneRow.targs := of_decide_eq_true (by kernel_rfl)
theorem wrap : Try.f14.isWrapper Try.prog Rows.keccakNoneRow.wrapper Rows.keccakNoneRow.mainSum := by
  unfold Func.isWrapper
  rw [if_neg (by decide +kernel)]
  exact ⟨rfl, rfl⟩

theorem over : Rows.keccakNoneRow.holds Try.pinned (OpenSpec.ofChange Rows.keccakNoneSpec) :=
  OpenClaim.holds_of_wide 14 Try.f14 rfl rfl rfl rfl rfl rfl rfl ⟨rfl, rfl, rfl, rfl, rfl⟩ rfl rfl rfl rfl rfl named Try.func14 closed inst wrap
    (fun os started H enc _ => lifted os started H enc)

/-- THE STATEMENT -/
theorem proved : Rows.KeccakNoneSaid := over
#print axioms proved
end Go.Proofs.Ytnajihlhcdedgaa.keccakNone
