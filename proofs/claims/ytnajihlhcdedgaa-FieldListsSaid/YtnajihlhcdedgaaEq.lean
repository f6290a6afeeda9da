/-
  Two arrays of integers, compared: as their numbers are.
-/
import Derived.Test.YtnajihlhcdedgaaRows
import Derived.ChangeKeysEq
import Derived.Laws.StructEq
import Derived.WalkKit
namespace Go.Proofs.Ytnajihlhcdedgaa
open Go.RowKit
set_option linter.unusedVariables false

section
variable {P : Program} (w : World)

theorem run_part_int {e : TypeId} {k : IntKind} (he : P.underlying e = some (.int k)) {xs : Array Value} {off : Nat} {v : Value} (hx : xs[off]? = some v) : (part e xs off).run P w = .ok v w :=
  run_part_plain w (by unfold Program.plainKey; rw [he]) hx

theorem run_eqItems_ints (d : Nat) {e : TypeId} {k : IntKind} (he : P.underlying e = some (.int k)) (hc : P.cellsOf e = 1) (xs ys : List Int) (hl : xs.length = ys.length) :
    ∀ (m i : Nat), i + m = xs.length → (Op.eqItems (d + 1) e (P.cellsOf e) (xs.map (Value.int k)).toArray (ys.map (Value.int k)).toArray (List.range' i m)).run P w = .ok (decide (xs.drop i = ys.drop i)) w
  | 0, i, h => by
    simp [Op.eqItems, List.drop_eq_nil_of_le (show xs.length ≤ i by omega), List.drop_eq_nil_of_le (show ys.length ≤ i by omega)]
  | m + 1, i, h => by
    have hx : i < xs.length := by omega
    have hy : i < ys.length := by omega
    have ih := run_eqItems_ints d he hc xs ys hl m (i + 1) (by omega)
    rw [List.range'_succ]
    simp only [Op.eqItems, Sem.run_bind, hc, Nat.mul_one] at ih ⊢
    rw [run_part_int w he (v := .int k xs[i]) (by simp [hx]), Result.andThen_ok, run_part_int w he (v := .int k ys[i]) (by simp [hy]), Result.andThen_ok, run_equalIn_int w d e k k _ _ he, Result.andThen_ok]
    rw [List.drop_eq_getElem_cons hx, List.drop_eq_getElem_cons hy]
    by_cases hxy : xs[i] = ys[i]
    · simp only [hxy, beq_self_eq_true, Bool.not_true, Bool.false_eq_true, if_false, List.cons.injEq, true_and]
      exact ih
    · have : (xs[i] == ys[i]) = false := by simp [hxy]
      simp only [this, Bool.not_false, if_true, List.cons.injEq, hxy, false_and, decide_false]
      rfl

theorem run_eql_ints {t e : TypeId} {n : Nat} {i : TypeInfo} {k : IntKind} (hu : P.underlying t = some (.array n e)) (hi : P.info? e = some i) (he : P.underlying e = some (.int k)) (hc : P.cellsOf e = 1)
    (xs ys : List Int) (hx : xs.length = n) (hy : ys.length = n) :
    (binOp .eql t (.agg (xs.map (Value.int k)).toArray) (.agg (ys.map (Value.int k)).toArray)).run P w = .ok (.bool (decide (xs = ys))) w := by
  have h : ∀ d, (Op.equalIn (d + 2) t (.agg (xs.map (Value.int k)).toArray) (.agg (ys.map (Value.int k)).toArray)).run P w = .ok (decide (xs = ys)) w := fun d => by
    rw [run_equalIn_array w (d + 1) _ _ hu hi, List.range_eq_range', run_eqItems_ints w d he hc xs ys (by omega) n 0 (by omega)]
    simp
  simp only [binOp]
  simp [Op.equal, Op.maxDepth, h 9998]

theorem run_neq_ints {t e : TypeId} {n : Nat} {i : TypeInfo} {k : IntKind} (hu : P.underlying t = some (.array n e)) (hi : P.info? e = some i) (he : P.underlying e = some (.int k)) (hc : P.cellsOf e = 1)
    (xs ys : List Int) (hx : xs.length = n) (hy : ys.length = n) :
    (binOp .neq t (.agg (xs.map (Value.int k)).toArray) (.agg (ys.map (Value.int k)).toArray)).run P w = .ok (.bool (!decide (xs = ys))) w := by
  have h : ∀ d, (Op.equalIn (d + 2) t (.agg (xs.map (Value.int k)).toArray) (.agg (ys.map (Value.int k)).toArray)).run P w = .ok (decide (xs = ys)) w := fun d => by
    rw [run_equalIn_array w (d + 1) _ _ hu hi, List.range_eq_range', run_eqItems_ints w d he hc xs ys (by omega) n 0 (by omega)]
    simp
  simp only [binOp]
  simp [Op.equal, Op.maxDepth, h 9998]
end

theorem info22' : (Try.prog.info? 22).isSome = true := by kernel_rfl
theorem info22 : ∃ i, Try.prog.info? 22 = some i := Option.isSome_iff_exists.1 info22'
theorem cells22 : Try.prog.cellsOf 22 = 1 := by kernel_rfl

theorem run_eql28 (a b c d : Int) (w : World) : (binOp .eql 28 (.agg #[.int .u64 a, .int .u64 b]) (.agg #[.int .u64 c, .int .u64 d])).run Try.prog w = .ok (.bool (decide (a = c ∧ b = d))) w := by
  obtain ⟨i, hi⟩ := info22
  have := run_eql_ints (P := Try.prog) w (t := 28) Try.underlying28 hi Try.underlying22 cells22 [a, b] [c, d] rfl rfl
  simpa using this
theorem run_neq28 (a b c d : Int) (w : World) : (binOp .neq 28 (.agg #[.int .u64 a, .int .u64 b]) (.agg #[.int .u64 c, .int .u64 d])).run Try.prog w = .ok (.bool (!decide (a = c ∧ b = d))) w := by
  obtain ⟨i, hi⟩ := info22
  have := run_neq_ints (P := Try.prog) w (t := 28) Try.underlying28 hi Try.underlying22 cells22 [a, b] [c, d] rfl rfl
  simpa using this
theorem run_eql61 (xs ys : List Int) (hx : xs.length = 25) (hy : ys.length = 25) (w : World) : (binOp .eql 61 (.agg (xs.map (Value.int .u64)).toArray) (.agg (ys.map (Value.int .u64)).toArray)).run Try.prog w = .ok (.bool (decide (xs = ys))) w := by
  obtain ⟨i, hi⟩ := info22
  exact run_eql_ints (P := Try.prog) w (t := 61) Try.underlying61 hi Try.underlying22 cells22 xs ys hx hy
theorem run_neq61 (xs ys : List Int) (hx : xs.length = 25) (hy : ys.length = 25) (w : World) : (binOp .neq 61 (.agg (xs.map (Value.int .u64)).toArray) (.agg (ys.map (Value.int .u64)).toArray)).run Try.prog w = .ok (.bool (!decide (xs = ys))) w := by
  obtain ⟨i, hi⟩ := info22
  exact run_neq_ints (P := Try.prog) w (t := 61) Try.underlying61 hi Try.underlying22 cells22 xs ys hx hy
end Go.Proofs.Ytnajihlhcdedgaa
