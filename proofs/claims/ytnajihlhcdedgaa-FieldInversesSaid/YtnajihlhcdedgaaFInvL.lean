/-
  FieldInverses: for every list of elements the law returns true.
-/
import Derived.Test.YtnajihlhcdedgaaFInv
import Derived.Test.YtnajihlhcdedgaaFSl
namespace Go.Proofs.Ytnajihlhcdedgaa
open Go.RowKit
set_option linter.unusedVariables false

theorem first_zero (p : Nat → Prop) [DecidablePred p] : ∀ n, (∃ j, j < n ∧ p j) → ∃ z, z < n ∧ p z ∧ ∀ j, j < z → ¬ p j
  | 0, h => by obtain ⟨j, hj, _⟩ := h; omega
  | n + 1, h => by
    by_cases hn : ∃ j, j < n ∧ p j
    · obtain ⟨z, h1, h2, h3⟩ := first_zero p n hn
      exact ⟨z, by omega, h2, h3⟩
    · obtain ⟨j, hj, hp⟩ := h
      have : j = n := by
        by_cases hjn : j < n
        · exact absurd ⟨j, hjn, hp⟩ hn
        · omega
      subst this
      exact ⟨j, by omega, hp, fun i hi hpi => hn ⟨i, hi, hpi⟩⟩
theorem fieldInverses_walk (u : Int) (wu : (Lit.int .u8 u).wf = true) (a : Option Addr) (n cap : Nat) (x : Nat → Int) (w : World) (hs : (n : Int) ≤ 9223372036854775807 ∧ (∀ j, j < n → is128 (x j)) ∧ SlX w a n cap w.heap.size x) :
    Calls Try.prog 22 #[.int .u8 u, .slice a n cap] w fun e w' => e = .returned (.bool true) ∧ Kept w w' := by
  obtain ⟨hn63, hx, hA⟩ := hs
  have h1 : 0 ≤ u ∧ u ≤ 255 := by
    simp [Lit.wf, IntKind.min, IntKind.max, IntKind.signed, IntKind.bits] at wu
    omega
  rcases Nat.lt_or_ge 30 n with hn | hn
  · exact field_inv_long u a n cap hn w
  have hf := isF_fOf h1.1
  have hF := f_F h1.1 h1.2
  have wf : IntKind.i64.wrap (fOf u) = fOf u := IntWalk.i64_in _ (by unfold isF at hf; omega)
  generalize fOf u = f at *
  have HOf : Hid (∀ j, j < n → Pure Try.prog 32 #[.int .i64 f, .agg #[.int .u64 ((fun j => x j % 18446744073709551616) j), .int .u64 ((fun j => x j / 18446744073709551616) j)]] (.agg #[.int .u64 ((fun j => rOf f (x j) % 18446744073709551616) j), .int .u64 ((fun j => rOf f (x j) / 18446744073709551616) j)])) := Lib.hid fun j hj => ref_Of hf (hx j hj)
  have hzero : ∀ j, rOf f (x j) ≠ 0 → decide (rOf f (x j) % 18446744073709551616 = 0 ∧ rOf f (x j) / 18446744073709551616 = 0) = false := fun j h => decide_eq_false (by have := rOf_lo f (x j); omega)
  by_cases h : ∃ j, j < n ∧ rOf f (x j) = 0
  · obtain ⟨z, hz, hz0, hz1⟩ := first_zero (fun j => rOf f (x j) = 0) n h
    exact field_inv_zero u f hf hF wf a n cap _ x _ _ _ _ hn hx w hA rfl rfl HOf z hz hz0 (Lib.hid fun j hj => hzero j (hz1 j hj)) (Lib.hid (decide_eq_true (by rw [hz0]; decide)))
  · have hu : ∀ j, j < n → rOf f (x j) ≠ 0 := fun j hj h0 => h ⟨j, hj, h0⟩
    have e1 : u.tmod 250 = u % 250 := Int.tmod_eq_emod_of_nonneg h1.1
    exact field_inv_unit u f hf hF wf (u % 250) (by simp; omega) (by simp; omega) e1 (by simp [IntKind.wrap, IntKind.bits, IntKind.signed]; omega) (by simp [IntKind.wrap, IntKind.bits, IntKind.signed]; omega) a n cap _ x _ _ _ _ hn hx w hA rfl rfl HOf hu (Lib.hid fun j hj => hzero j (hu j hj))
end Go.Proofs.Ytnajihlhcdedgaa
