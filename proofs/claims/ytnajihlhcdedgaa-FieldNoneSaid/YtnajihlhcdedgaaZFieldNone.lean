/-
  FieldNone: for every input the law returns true, and each argument reads afterwards as it read before.
  Conditions: none.
-/
import Derived.Test.YtnajihlhcdedgaaZFNone
import Derived.Test.YtnajihlhcdedgaaZa
import Derived.Test.YtnajihlhcdedgaaHead
namespace Go.Proofs.Ytnajihlhcdedgaa.fieldNone
open Go.ChangeShapes Go.WideShapes Go.ChangeAt Go.RowKit
open Go.ChangeMaps (open_string shut_string)
set_option linter.unusedVariables false

set_option maxRecDepth 100000 in
theorem lifted (os : Os) (started : os.Started) (H : Type) (enc : TypeId × Value → H) :
    ReturnsInHanded {} Try.checked os 25 .any (Rows.fieldNoneSpec.pre6 enc Try.prog Try.f25 Rows.fieldNoneRow.domain false) (Rows.fieldNoneSpec.post enc Try.prog Try.f25 false true false false) := by
  refine returnsInHanded_of_change (C := Try.checked) own started (by kernel_rfl) Try.func25
    (ChangeSpec.witness6 (enc := enc) (C := Try.checked) false ⟨#[], #[.int .u8 0, .agg #[.int .u64 0, .int .u64 0], .agg #[.int .u64 0, .int .u64 0], .slice none 0 0, .slice none 0 0], []⟩ 8 (by kernel_rfl) (by kernel_rfl) (by kernel_rfl) (by kernel_rfl)) ?_
  intro W base args ds gs before hval0 hW hcnd _
  have hval : ∀ (j : Nat) t v, Try.f25.params[j]? = some t → args[j]? = some v → Value.okWide Try.prog W .any base t v := hval0
  have hW' := hW
  obtain ⟨p, q, hA0, hV, rfl, hfz, hnd⟩ := hW
  have hA : DataW.TrodAll enc Try.prog W 0 (fun _ => true) true Try.f25.params.toList args.toList ds p := hA0
  rw [Try.params25] at hA hval
  obtain ⟨v0, vs0, d0, ds0, p0, q0, hargs, rfl, rfl, h0, r0⟩ := trodAll_cons hA
  obtain ⟨v1, vs1, d1, ds1, p1, q1, rfl, rfl, rfl, h1, r1⟩ := trodAll_cons r0
  obtain ⟨v2, vs2, d2, ds2, p2, q2, rfl, rfl, rfl, h2, r2⟩ := trodAll_cons r1
  obtain ⟨v3, vs3, d3, ds3, p3, q3, rfl, rfl, rfl, h3, r3⟩ := trodAll_cons r2
  obtain ⟨v4, vs4, d4, ds4, p4, q4, rfl, rfl, rfl, h4, r4⟩ := trodAll_cons r3
  obtain ⟨rfl, rfl, rfl⟩ := trodAll_nil r4
  obtain rfl : args = #[v0, v1, v2, v3, v4] := by cases args; simp_all
  obtain ⟨rfl, rfl⟩ := trodVars_none hV
  have k0 := h0
  have lt0 : ∀ x ∈ p0, x.block < W.heap.size := by obtain ⟨m, hm⟩ := k0; exact DataW.trod_lt m _ _ _ hm
  obtain ⟨a0, rfl, rfl, rfl, w0⟩ := open_int Try.underlying5 (hval 0 5 v0 rfl rfl) h0
  have k1 := h1
  have lt1 : ∀ x ∈ p1, x.block < W.heap.size := by obtain ⟨m, hm⟩ := k1; exact DataW.trod_lt m _ _ _ hm
  obtain ⟨_, a1, rfl, l1, w1⟩ := open_int_array Try.underlying28 Try.underlying22 (by kernel_rfl) (by kernel_rfl) (hval 1 28 v1 rfl rfl) h1
  have k2 := h2
  have lt2 : ∀ x ∈ p2, x.block < W.heap.size := by obtain ⟨m, hm⟩ := k2; exact DataW.trod_lt m _ _ _ hm
  obtain ⟨_, a2, rfl, l2, w2⟩ := open_int_array Try.underlying28 Try.underlying22 (by kernel_rfl) (by kernel_rfl) (hval 2 28 v2 rfl rfl) h2
  have k3 := h3
  have lt3 : ∀ x ∈ p3, x.block < W.heap.size := by obtain ⟨m, hm⟩ := k3; exact DataW.trod_lt m _ _ _ hm
  obtain ⟨a3, n3, c3, X3, rfl, s3⟩ := open_elems (hval 3 90 v3 rfl rfl) h3
  have k4 := h4
  have lt4 : ∀ x ∈ p4, x.block < W.heap.size := by obtain ⟨m, hm⟩ := k4; exact DataW.trod_lt m _ _ _ hm
  obtain ⟨a4, n4, c4, X4, rfl, s4⟩ := open_bytesA (hval 4 42 v4 rfl rfl) h4
  clear hA0 hval0
  refine (fieldNone_walk a0 w0 a1 l1 w1 a2 l2 w2 a3 n3 c3 X3 a4 n4 c4 X4 W s3 s4).mono fun e W' ⟨he, bel⟩ => ?_
  subst he
  exact ⟨_, rfl, _, _, _, [], _, [], hW', trodAll_mk1 (shut_bool Try.underlying4 _), (trodAll_cons_mk (Below.trod laidOut (by kernel_rfl) (of_decide_eq_true (by kernel_rfl)) k0 bel lt0) (trodAll_cons_mk (Below.trod laidOut (by kernel_rfl) (of_decide_eq_true (by kernel_rfl)) k1 bel lt1) (trodAll_cons_mk (Below.trod laidOut (by kernel_rfl) (of_decide_eq_true (by kernel_rfl)) k2 bel lt2) (trodAll_cons_mk (Below.trod laidOut (by kernel_rfl) (of_decide_eq_true (by kernel_rfl)) k3 bel lt3) (trodAll_cons_mk (Below.trod laidOut (by kernel_rfl) (of_decide_eq_true (by kernel_rfl)) k4 bel lt4) trodAll_mk0))))), rfl, bel.frame _, fun h => by cases h⟩

theorem c10 : (Rows.fieldNoneRow.inPlace == Try.prog.inPlace 25) = true := by kernel_rfl
theorem c11 : (Rows.fieldNoneRow.unfollowed == Try.prog.unfollowed 25) = true := by kernel_rfl
theorem c12 : (Rows.fieldNoneRow.recurses == Try.prog.recurses 25) = true := by kernel_rfl
theorem c13 : (Rows.fieldNoneRow.named == Try.prog.varsNamed 25) = true := by kernel_rfl
theorem closed : joinedFacts Try.prog 25 Try.f25 Rows.fieldNoneSpec Rows.fieldNoneRow = true :=
  joinedFacts_mk (by as_aux_lemma => kernel_rfl) all_laidOut all_mapsRowed (by as_aux_lemma => kernel_rfl) (by as_aux_lemma => kernel_rfl) (by as_aux_lemma => kernel_rfl) all_stops (by as_aux_lemma => kernel_rfl) all_stopKnobs c10 c11 c12 c13
    (by as_aux_lemma => kernel_rfl) (by as_aux_lemma => kernel_rfl) (by as_aux_lemma => kernel_rfl) (by as_aux_lemma => kernel_rfl) (by as_aux_lemma => kernel_rfl) (by as_aux_lemma => kernel_rfl) (by as_aux_lemma => kernel_rfl) (by as_aux_lemma => kernel_rfl)
    (by as_aux_lemma => kernel_rfl) (by as_aux_lemma => kernel_rfl) (by as_aux_lemma => kernel_rfl) all_stopsHeard head_mayEnter head_liftsFinal head_make (by as_aux_lemma => kernel_rfl) (by as_aux_lemma => kernel_rfl) (by as_aux_lemma => kernel_rfl) (by as_aux_lemma => kernel_rfl)

theorem named : Try.prog.funcNamed Rows.fieldNoneRow.func = some 25 := by kernel_rfl
theorem inst : Try.f25.isInstance Try.prog Rows.fieldNoneRow.origin Rows.fieldNoneRow.targs := of_decide_eq_true (by kernel_rfl)
theorem wrap : Try.f25.isWrapper Try.prog Rows.fieldNoneRow.wrapper Rows.fieldNoneRow.mainSum := by
  unfold Func.isWrapper
  rw [if_neg (by decide +kernel)]
  exact ⟨rfl, rfl⟩

theorem over : Rows.fieldNoneRow.holds Try.pinned (OpenSpec.ofChange Rows.fieldNoneSpec) :=
  OpenClaim.holds_of_wide 25 Try.f25 rfl rfl rfl rfl rfl rfl rfl ⟨rfl, rfl, rfl, rfl, rfl⟩ rfl rfl rfl rfl rfl named Try.func25 closed inst wrap
    (fun os started H enc _ => lifted os started H enc)

/-- THE STATEMENT -/
theorem proved : Rows.FieldNoneSaid := over
#print axioms proved
end Go.Proofs.Ytnajihlhcdedgaa.fieldNone
