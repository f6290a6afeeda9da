/-
  The walks of the reference: P, Less, take, plus: over numbers of 128 bits.
-/
import Derived.Test.YtnajihlhcdedgaaG1
namespace Go.Proofs.Ytnajihlhcdedgaa
open Go.RowKit
set_option linter.unusedVariables false

/-- A number of 64 bits. -/
def is64 (x : Int) : Prop := 0 ≤ x ∧ x ≤ 18446744073709551615
/-- A number of 128 bits. -/
def is128 (x : Int) : Prop := 0 ≤ x ∧ x ≤ 340282366920938463463374607431768211455
/-- A number of 128 bits as an element: its low half, its high one. -/
def E (n : Int) : Value := .agg #[.int .u64 (n % 18446744073709551616), .int .u64 (n / 18446744073709551616)]

theorem is64_lo (n : Int) : is64 (n % 18446744073709551616) := by unfold is64; omega
theorem is64_hi {n : Int} (h : is128 n) : is64 (n / 18446744073709551616) := by unfold is128 at h; unfold is64; omega
theorem E_mk {lo hi : Int} (h : is64 lo) : E (lo + hi * 18446744073709551616) = .agg #[.int .u64 lo, .int .u64 hi] := by
  unfold is64 at h; unfold E
  rw [show (lo + hi * 18446744073709551616) % 18446744073709551616 = lo by omega, show (lo + hi * 18446744073709551616) / 18446744073709551616 = hi by omega]
theorem E_congr {a b : Int} (h : a = b) : E a = E b := by rw [h]
theorem agg2_congr {a b c d : Int} (h : a = c) (k : b = d) : (Value.agg #[.int .u64 a, .int .u64 b]) = .agg #[.int .u64 c, .int .u64 d] := by rw [h, k]

/-- Two moduli. -/
def gP : Int := 18446744069414584321
def wP : Int := 340282366920938462946865773367900766209

/-- The world behind blocks that the call laid. -/
theorem kept2 (w : World) (a b : Obj) : Kept w ((w.alloc a).alloc b) := ((Kept.refl w).alloc _).alloc _

set_option maxHeartbeats 400000 in
theorem ref_P1 : Pure Try.prog 59 #[.int .i64 1] (E gP) := fun w => by
  go_enter Try.func59, Try.ntmps59
  go_wp2
  exact bodyPost_ret (v := .agg #[.int .u64 18446744069414584321, .int .u64 0]) (by simp [results, Try.results59, go_sem]) rfl ⟨rfl, (Kept.refl w).alloc _⟩
set_option maxHeartbeats 400000 in
theorem ref_P2 : Pure Try.prog 59 #[.int .i64 2] (E wP) := fun w => by
  go_enter Try.func59, Try.ntmps59
  go_wp2
  exact bodyPost_ret (v := .agg #[.int .u64 1, .int .u64 18446744073709551588]) (by simp [results, Try.results59, go_sem]) rfl ⟨rfl, (Kept.refl w).alloc _⟩

theorem ref_Less_raw (a0 a1 b0 b1 : Int) : Pure Try.prog 113 #[.agg #[.int .u64 a0, .int .u64 a1], .agg #[.int .u64 b0, .int .u64 b1]] (.bool (decide (a1 < b1 ∨ (a1 = b1 ∧ a0 < b0)))) := fun w => by
  by_cases h : a1 = b1
  · subst h
    go_enter Try.func113, Try.ntmps113
    go_wp2
    go_ret
    exact ⟨by simp, kept2 w _ _⟩
  · go_enter Try.func113, Try.ntmps113
    go_wp2
    go_ret
    exact ⟨by simp [h], kept2 w _ _⟩

theorem ref_Less {a b : Int} (ha : is128 a) (hb : is128 b) : Pure Try.prog 113 #[E a, E b] (.bool (decide (a < b))) := by
  have := ref_Less_raw (a % 18446744073709551616) (a / 18446744073709551616) (b % 18446744073709551616) (b / 18446744073709551616)
  have e : (a / 18446744073709551616 < b / 18446744073709551616 ∨ (a / 18446744073709551616 = b / 18446744073709551616 ∧ a % 18446744073709551616 < b % 18446744073709551616)) ↔ a < b := by omega
  rw [decide_eq_decide.2 e] at this
  exact this

set_option maxHeartbeats 400000 in
theorem ref_take_raw (a0 a1 b0 b1 R0 R1 : Int) (h0 : Hid (R0 = (a0 - b0) % 18446744073709551616)) (h1 : Hid (R1 = if a0 < b0 then (a1 - b1 - 1) % 18446744073709551616 else (a1 - b1) % 18446744073709551616)) :
    Pure Try.prog 114 #[.agg #[.int .u64 a0, .int .u64 a1], .agg #[.int .u64 b0, .int .u64 b1]] (.agg #[.int .u64 R0, .int .u64 R1]) := fun w => by
  by_cases h : a0 < b0
  · go_enter Try.func114, Try.ntmps114
    go_wp2
    refine bodyPost_ret (v := _) (by simp [results, Try.results114, go_sem]; rfl) rfl ⟨?_, ?_⟩
    · rw [h0.out, h1.out, if_pos h]
      simp only [IntKind.wrap_u64]
      rw [show ((a1 - b1) % 18446744073709551616 - 1) % 18446744073709551616 = (a1 - b1 - 1) % 18446744073709551616 by omega]
    · exact (kept2 w _ _).trans (kept2 _ _ _)
  · go_enter Try.func114, Try.ntmps114
    go_wp2
    refine bodyPost_ret (v := _) (by simp [results, Try.results114, go_sem]; rfl) rfl ⟨?_, ?_⟩
    · rw [h0.out, h1.out, if_neg (by omega)]
      simp only [IntKind.wrap_u64]
    · exact (kept2 w _ _).trans (kept2 _ _ _)

theorem ref_take {a b : Int} (ha : is128 a) (hb : is128 b) : Pure Try.prog 114 #[E a, E b] (E ((a - b) % 340282366920938463463374607431768211456)) := by
  unfold is128 at ha hb
  refine ref_take_raw _ _ _ _ _ _ ?_ ?_
  · show _ = _; omega
  · show _ = _
    by_cases h : a % 18446744073709551616 < b % 18446744073709551616
    · rw [if_pos h]; omega
    · rw [if_neg h]; omega

set_option maxHeartbeats 400000 in
theorem ref_plus_raw (a0 a1 b0 b1 R0 R1 : Int) (ha : is64 a0) (hb : is64 b0) (h0 : Hid (R0 = (a0 + b0) % 18446744073709551616)) (h1 : Hid (R1 = if R0 < a0 then (a1 + b1 + 1) % 18446744073709551616 else (a1 + b1) % 18446744073709551616)) :
    Pure Try.prog 115 #[.agg #[.int .u64 a0, .int .u64 a1], .agg #[.int .u64 b0, .int .u64 b1]] (.agg #[.int .u64 R0, .int .u64 R1]) := fun w => by
  obtain ⟨X, hX⟩ : ∃ X, X = IntKind.u64.wrap (a0 + b0) := ⟨_, rfl⟩
  have hw : IntKind.u64.wrap (a0 + b0) = R0 := by rw [h0.out, IntKind.wrap_u64]
  clear hX X ha hb
  by_cases h : R0 < a0
  · go_enter Try.func115, Try.ntmps115
    go_wp2
    refine bodyPost_ret (v := _) (by simp [results, Try.results115, go_sem]; rfl) rfl ⟨?_, ?_⟩
    · rw [h1.out, if_pos h]
      simp only [IntKind.wrap_u64]
      rw [show ((a1 + b1) % 18446744073709551616 + 1) % 18446744073709551616 = (a1 + b1 + 1) % 18446744073709551616 by omega]
    · exact (kept2 w _ _).trans (kept2 _ _ _)
  · go_enter Try.func115, Try.ntmps115
    go_wp2
    refine bodyPost_ret (v := _) (by simp [results, Try.results115, go_sem]; rfl) rfl ⟨?_, ?_⟩
    · rw [h1.out, if_neg (by omega)]
      simp only [IntKind.wrap_u64]
    · exact (kept2 w _ _).trans (kept2 _ _ _)

theorem ref_plus {a b : Int} (ha : is128 a) (hb : is128 b) : Pure Try.prog 115 #[E a, E b] (E ((a + b) % 340282366920938463463374607431768211456)) := by
  unfold is128 at ha hb
  refine ref_plus_raw _ _ _ _ _ _ (is64_lo a) (is64_lo b) ?_ ?_
  · show _ = _; omega
  · show _ = _
    by_cases h : (a + b) % 340282366920938463463374607431768211456 % 18446744073709551616 < a % 18446744073709551616
    · rw [if_pos h]; omega
    · rw [if_neg h]; omega

end Go.Proofs.Ytnajihlhcdedgaa
