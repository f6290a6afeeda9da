/-
  The walks of gold: Bytes, Take.
-/
import Derived.Test.YtnajihlhcdedgaaG2
import Derived.Test.YtnajihlhcdedgaaBlk
namespace Go.Proofs.Ytnajihlhcdedgaa
open Go.RowKit
set_option linter.unusedVariables false
set_option linter.unusedSimpArgs false

/-- A number's lowest bytes, so many, the lowest first. -/
def leBytes : Nat → Int → List Int
  | 0, _ => []
  | n + 1, x => x % 256 :: leBytes n (x / 256)
/-- Bytes as a number. -/
def leVal : List Int → Int
  | [] => 0
  | b :: r => b + 256 * leVal r
/-- A row of bytes. -/
def bytesV (l : List Int) : List Value := l.map (Value.int .u8)
def isByte (b : Int) : Prop := 0 ≤ b ∧ b ≤ 255

set_option maxRecDepth 100000 in
set_option maxHeartbeats 4000000 in
theorem gold_Bytes_in (a X : Int) (w : World) (x0 : 0 ≤ X) (x1 : X ≤ 18446744073709551615) (HO : Hid (Gives 31 #[.int .u64 a] (.int .u64 X))) :
    Calls Try.prog 42 #[.int .u64 a] w fun e w' => e = .returned (.agg #[.int .u8 (X % 256), .int .u8 (X / 256 % 256), .int .u8 (X / 65536 % 256), .int .u8 (X / 16777216 % 256), .int .u8 (X / 4294967296 % 256), .int .u8 (X / 1099511627776 % 256), .int .u8 (X / 281474976710656 % 256), .int .u8 (X / 72057594037927936)]) ∧ Kept w w' := by
  go_enter Try.func42, Try.ntmps42
  go_wp2_with fail
  refine (HO.out _).mono ?_
  rintro e w' ⟨rfl, rfl⟩
  go_wp2_with fail
  refine wp_loop_rounds 9 ?_
  iterate 9 (rw [rounds_succ]; go_wp2_with fail)
  refine bodyPost_ret (v := .agg #[.int .u8 (X % 256), .int .u8 (X / 256 % 256), .int .u8 (X / 65536 % 256), .int .u8 (X / 16777216 % 256), .int .u8 (X / 4294967296 % 256), .int .u8 (X / 1099511627776 % 256), .int .u8 (X / 281474976710656 % 256), .int .u8 (X / 72057594037927936)]) (by simp [results, Try.results42, go_sem]) rfl ⟨rfl, ?_⟩
  exact ((Kept.refl w).alloc _).alloc _

theorem div_256 (X : Int) (n : Int) (h : 0 ≤ n) : X / n / 256 = X / (n * 256) := Int.ediv_ediv_of_nonneg h
theorem leBytes8 (X : Int) : leBytes 8 X = [X % 256, X / 256 % 256, X / 65536 % 256, X / 16777216 % 256, X / 4294967296 % 256, X / 1099511627776 % 256, X / 281474976710656 % 256, X / 72057594037927936 % 256] := by
  simp only [leBytes]
  rw [div_256 X 256 (by omega), div_256 X _ (by omega), div_256 X _ (by omega), div_256 X _ (by omega), div_256 X _ (by omega), div_256 X _ (by omega)]
  rfl

theorem g_Bytes {a : Int} (ha : is64 a) : Pure Try.prog 42 #[.int .u64 a] (.agg (bytesV (leBytes 8 (a % gP))).toArray) := fun w => by
  rw [leBytes8]
  have hx := is64_emod a
  have key := gold_Bytes_in a _ w hx.1 hx.2 (g_Of ha)
  have e : a % gP / 72057594037927936 = a % gP / 72057594037927936 % 256 := by unfold is64 at hx; omega
  rw [← e]
  exact key

set_option maxRecDepth 100000 in
set_option maxHeartbeats 4000000 in
theorem gold_Take_yes (b0 v0 b1 v1 b2 v2 b3 v3 b4 v4 b5 v5 b6 v6 b7 v7 : Int) (w : World) (l0 : 0 ≤ b0) (u0 : b0 ≤ 255) (l1 : 0 ≤ b1) (u1 : b1 ≤ 255) (l2 : 0 ≤ b2) (u2 : b2 ≤ 255) (l3 : 0 ≤ b3) (u3 : b3 ≤ 255) (l4 : 0 ≤ b4) (u4 : b4 ≤ 255) (l5 : 0 ≤ b5) (u5 : b5 ≤ 255) (l6 : 0 ≤ b6) (u6 : b6 ≤ 255) (l7 : 0 ≤ b7) (u7 : b7 ≤ 255)
    (o0 : bits .or .u64 0 b0 = v0) (o1 : bits .or .u64 v0 (b1 * 256) = v1) (o2 : bits .or .u64 v1 (b2 * 65536) = v2) (o3 : bits .or .u64 v2 (b3 * 16777216) = v3) (o4 : bits .or .u64 v3 (b4 * 4294967296) = v4) (o5 : bits .or .u64 v4 (b5 * 1099511627776) = v5) (o6 : bits .or .u64 v5 (b6 * 281474976710656) = v6) (o7 : bits .or .u64 v6 (b7 * 72057594037927936) = v7) (HI : Hid (Gives 34 #[.int .u64 v7] (.bool true))) :
    Calls Try.prog 43 #[.agg #[.int .u8 b0, .int .u8 b1, .int .u8 b2, .int .u8 b3, .int .u8 b4, .int .u8 b5, .int .u8 b6, .int .u8 b7]] w fun e w' => e = .returned (.tuple #[.int .u64 v7, .int .i64 0]) ∧ Kept w w' := by
  have i0 : ∀ w, (Instr.index 37 (.agg #[.int .u8 b0, .int .u8 b1, .int .u8 b2, .int .u8 b3, .int .u8 b4, .int .u8 b5, .int .u8 b6, .int .u8 b7]) (.int .i64 0)).run Try.prog w = .ok (.int .u8 b0) w := fun _ => by kernel_rfl
  have i1 : ∀ w, (Instr.index 37 (.agg #[.int .u8 b0, .int .u8 b1, .int .u8 b2, .int .u8 b3, .int .u8 b4, .int .u8 b5, .int .u8 b6, .int .u8 b7]) (.int .i64 1)).run Try.prog w = .ok (.int .u8 b1) w := fun _ => by kernel_rfl
  have i2 : ∀ w, (Instr.index 37 (.agg #[.int .u8 b0, .int .u8 b1, .int .u8 b2, .int .u8 b3, .int .u8 b4, .int .u8 b5, .int .u8 b6, .int .u8 b7]) (.int .i64 2)).run Try.prog w = .ok (.int .u8 b2) w := fun _ => by kernel_rfl
  have i3 : ∀ w, (Instr.index 37 (.agg #[.int .u8 b0, .int .u8 b1, .int .u8 b2, .int .u8 b3, .int .u8 b4, .int .u8 b5, .int .u8 b6, .int .u8 b7]) (.int .i64 3)).run Try.prog w = .ok (.int .u8 b3) w := fun _ => by kernel_rfl
  have i4 : ∀ w, (Instr.index 37 (.agg #[.int .u8 b0, .int .u8 b1, .int .u8 b2, .int .u8 b3, .int .u8 b4, .int .u8 b5, .int .u8 b6, .int .u8 b7]) (.int .i64 4)).run Try.prog w = .ok (.int .u8 b4) w := fun _ => by kernel_rfl
  have i5 : ∀ w, (Instr.index 37 (.agg #[.int .u8 b0, .int .u8 b1, .int .u8 b2, .int .u8 b3, .int .u8 b4, .int .u8 b5, .int .u8 b6, .int .u8 b7]) (.int .i64 5)).run Try.prog w = .ok (.int .u8 b5) w := fun _ => by kernel_rfl
  have i6 : ∀ w, (Instr.index 37 (.agg #[.int .u8 b0, .int .u8 b1, .int .u8 b2, .int .u8 b3, .int .u8 b4, .int .u8 b5, .int .u8 b6, .int .u8 b7]) (.int .i64 6)).run Try.prog w = .ok (.int .u8 b6) w := fun _ => by kernel_rfl
  have i7 : ∀ w, (Instr.index 37 (.agg #[.int .u8 b0, .int .u8 b1, .int .u8 b2, .int .u8 b3, .int .u8 b4, .int .u8 b5, .int .u8 b6, .int .u8 b7]) (.int .i64 7)).run Try.prog w = .ok (.int .u8 b7) w := fun _ => by kernel_rfl
  go_enter Try.func43, Try.ntmps43
  go_wp2_with fail
  refine wp_loop_rounds 9 ?_
  iterate 9 (rw [rounds_succ]; go_wp2_with fail)
  refine (HI.out _).mono ?_
  rintro e w' ⟨rfl, rfl⟩
  go_wp2_with fail
  go_ret2
  exact ⟨rfl, (Kept.refl w).alloc _⟩

set_option maxRecDepth 100000 in
set_option maxHeartbeats 4000000 in
theorem gold_Take_no (b0 v0 b1 v1 b2 v2 b3 v3 b4 v4 b5 v5 b6 v6 b7 v7 : Int) (w : World) (l0 : 0 ≤ b0) (u0 : b0 ≤ 255) (l1 : 0 ≤ b1) (u1 : b1 ≤ 255) (l2 : 0 ≤ b2) (u2 : b2 ≤ 255) (l3 : 0 ≤ b3) (u3 : b3 ≤ 255) (l4 : 0 ≤ b4) (u4 : b4 ≤ 255) (l5 : 0 ≤ b5) (u5 : b5 ≤ 255) (l6 : 0 ≤ b6) (u6 : b6 ≤ 255) (l7 : 0 ≤ b7) (u7 : b7 ≤ 255)
    (o0 : bits .or .u64 0 b0 = v0) (o1 : bits .or .u64 v0 (b1 * 256) = v1) (o2 : bits .or .u64 v1 (b2 * 65536) = v2) (o3 : bits .or .u64 v2 (b3 * 16777216) = v3) (o4 : bits .or .u64 v3 (b4 * 4294967296) = v4) (o5 : bits .or .u64 v4 (b5 * 1099511627776) = v5) (o6 : bits .or .u64 v5 (b6 * 281474976710656) = v6) (o7 : bits .or .u64 v6 (b7 * 72057594037927936) = v7) (HI : Hid (Gives 34 #[.int .u64 v7] (.bool false))) :
    Calls Try.prog 43 #[.agg #[.int .u8 b0, .int .u8 b1, .int .u8 b2, .int .u8 b3, .int .u8 b4, .int .u8 b5, .int .u8 b6, .int .u8 b7]] w fun e w' => e = .returned (.tuple #[.int .u64 0, .int .i64 7]) ∧ Kept w w' := by
  have i0 : ∀ w, (Instr.index 37 (.agg #[.int .u8 b0, .int .u8 b1, .int .u8 b2, .int .u8 b3, .int .u8 b4, .int .u8 b5, .int .u8 b6, .int .u8 b7]) (.int .i64 0)).run Try.prog w = .ok (.int .u8 b0) w := fun _ => by kernel_rfl
  have i1 : ∀ w, (Instr.index 37 (.agg #[.int .u8 b0, .int .u8 b1, .int .u8 b2, .int .u8 b3, .int .u8 b4, .int .u8 b5, .int .u8 b6, .int .u8 b7]) (.int .i64 1)).run Try.prog w = .ok (.int .u8 b1) w := fun _ => by kernel_rfl
  have i2 : ∀ w, (Instr.index 37 (.agg #[.int .u8 b0, .int .u8 b1, .int .u8 b2, .int .u8 b3, .int .u8 b4, .int .u8 b5, .int .u8 b6, .int .u8 b7]) (.int .i64 2)).run Try.prog w = .ok (.int .u8 b2) w := fun _ => by kernel_rfl
  have i3 : ∀ w, (Instr.index 37 (.agg #[.int .u8 b0, .int .u8 b1, .int .u8 b2, .int .u8 b3, .int .u8 b4, .int .u8 b5, .int .u8 b6, .int .u8 b7]) (.int .i64 3)).run Try.prog w = .ok (.int .u8 b3) w := fun _ => by kernel_rfl
  have i4 : ∀ w, (Instr.index 37 (.agg #[.int .u8 b0, .int .u8 b1, .int .u8 b2, .int .u8 b3, .int .u8 b4, .int .u8 b5, .int .u8 b6, .int .u8 b7]) (.int .i64 4)).run Try.prog w = .ok (.int .u8 b4) w := fun _ => by kernel_rfl
  have i5 : ∀ w, (Instr.index 37 (.agg #[.int .u8 b0, .int .u8 b1, .int .u8 b2, .int .u8 b3, .int .u8 b4, .int .u8 b5, .int .u8 b6, .int .u8 b7]) (.int .i64 5)).run Try.prog w = .ok (.int .u8 b5) w := fun _ => by kernel_rfl
  have i6 : ∀ w, (Instr.index 37 (.agg #[.int .u8 b0, .int .u8 b1, .int .u8 b2, .int .u8 b3, .int .u8 b4, .int .u8 b5, .int .u8 b6, .int .u8 b7]) (.int .i64 6)).run Try.prog w = .ok (.int .u8 b6) w := fun _ => by kernel_rfl
  have i7 : ∀ w, (Instr.index 37 (.agg #[.int .u8 b0, .int .u8 b1, .int .u8 b2, .int .u8 b3, .int .u8 b4, .int .u8 b5, .int .u8 b6, .int .u8 b7]) (.int .i64 7)).run Try.prog w = .ok (.int .u8 b7) w := fun _ => by kernel_rfl
  go_enter Try.func43, Try.ntmps43
  go_wp2_with fail
  refine wp_loop_rounds 9 ?_
  iterate 9 (rw [rounds_succ]; go_wp2_with fail)
  refine (HI.out _).mono ?_
  rintro e w' ⟨rfl, rfl⟩
  go_wp2_with fail
  go_ret2
  exact ⟨rfl, (Kept.refl w).alloc _⟩


theorem bits_or_add (v b : Int) (k : Nat) (hv0 : 0 ≤ v) (hv : v < 2 ^ k) (hb0 : 0 ≤ b) (hlt : v + b * 2 ^ k ≤ 18446744073709551615) : bits .or .u64 v (b * 2 ^ k) = v + b * 2 ^ k := by
  obtain ⟨V, rfl⟩ := Int.eq_ofNat_of_zero_le hv0
  obtain ⟨B, rfl⟩ := Int.eq_ofNat_of_zero_le hb0
  have e : (B : Int) * 2 ^ k = ((B * 2 ^ k : Nat) : Int) := by simp
  rw [e] at hlt ⊢
  have hv' : V < 2 ^ k := by
    have : ((2 ^ k : Nat) : Int) = 2 ^ k := by simp
    omega
  rw [bits_or_u64_nat V (B * 2 ^ k) (by omega) (by omega), Nat.or_comm, Nat.mul_comm B, ← Nat.two_pow_add_eq_or_of_lt hv']
  omega

theorem leVal_lo : ∀ (l : List Int), (∀ b ∈ l, isByte b) → 0 ≤ leVal l
  | [], _ => by simp [leVal]
  | b :: r, h => by
    have := leVal_lo r fun x hx => h x (by simp [hx])
    have := h b (by simp)
    unfold isByte at this
    simp only [leVal]; omega

theorem g_Take {bs : List Int} (hl : bs.length = 8) (hb : ∀ b ∈ bs, isByte b) :
    Pure Try.prog 43 #[.agg (bytesV bs).toArray] (if leVal bs < gP then .tuple #[.int .u64 (leVal bs), .int .i64 0] else .tuple #[.int .u64 0, .int .i64 7]) := fun w => by
  match bs, hl with
  | [b0, b1, b2, b3, b4, b5, b6, b7], _ =>
    have h0 := hb b0 (by simp)
    have h1 := hb b1 (by simp)
    have h2 := hb b2 (by simp)
    have h3 := hb b3 (by simp)
    have h4 := hb b4 (by simp)
    have h5 := hb b5 (by simp)
    have h6 := hb b6 (by simp)
    have h7 := hb b7 (by simp)
    unfold isByte at h0 h1 h2 h3 h4 h5 h6 h7
    have e : leVal [b0, b1, b2, b3, b4, b5, b6, b7] = b0 + b1 * 256 + b2 * 65536 + b3 * 16777216 + b4 * 4294967296 + b5 * 1099511627776 + b6 * 281474976710656 + b7 * 72057594037927936 := by simp only [leVal]; omega
    have hin : Gives 34 #[.int .u64 (b0 + b1 * 256 + b2 * 65536 + b3 * 16777216 + b4 * 4294967296 + b5 * 1099511627776 + b6 * 281474976710656 + b7 * 72057594037927936)] (.bool (decide (b0 + b1 * 256 + b2 * 65536 + b3 * 16777216 + b4 * 4294967296 + b5 * 1099511627776 + b6 * 281474976710656 + b7 * 72057594037927936 < gP))) := fun w => gold_In _ w
    rw [e]
    have o0 : bits .or .u64 0 b0 = b0 := by
      have := bits_or_add 0 b0 0 (by omega) (by omega) (by omega) (by omega)
      simpa using this
    have o1 : bits .or .u64 (b0) (b1 * 256) = b0 + b1 * 256 := bits_or_add _ b1 8 (by omega) (by omega) (by omega) (by omega)
    have o2 : bits .or .u64 (b0 + b1 * 256) (b2 * 65536) = b0 + b1 * 256 + b2 * 65536 := bits_or_add _ b2 16 (by omega) (by omega) (by omega) (by omega)
    have o3 : bits .or .u64 (b0 + b1 * 256 + b2 * 65536) (b3 * 16777216) = b0 + b1 * 256 + b2 * 65536 + b3 * 16777216 := bits_or_add _ b3 24 (by omega) (by omega) (by omega) (by omega)
    have o4 : bits .or .u64 (b0 + b1 * 256 + b2 * 65536 + b3 * 16777216) (b4 * 4294967296) = b0 + b1 * 256 + b2 * 65536 + b3 * 16777216 + b4 * 4294967296 := bits_or_add _ b4 32 (by omega) (by omega) (by omega) (by omega)
    have o5 : bits .or .u64 (b0 + b1 * 256 + b2 * 65536 + b3 * 16777216 + b4 * 4294967296) (b5 * 1099511627776) = b0 + b1 * 256 + b2 * 65536 + b3 * 16777216 + b4 * 4294967296 + b5 * 1099511627776 := bits_or_add _ b5 40 (by omega) (by omega) (by omega) (by omega)
    have o6 : bits .or .u64 (b0 + b1 * 256 + b2 * 65536 + b3 * 16777216 + b4 * 4294967296 + b5 * 1099511627776) (b6 * 281474976710656) = b0 + b1 * 256 + b2 * 65536 + b3 * 16777216 + b4 * 4294967296 + b5 * 1099511627776 + b6 * 281474976710656 := bits_or_add _ b6 48 (by omega) (by omega) (by omega) (by omega)
    have o7 : bits .or .u64 (b0 + b1 * 256 + b2 * 65536 + b3 * 16777216 + b4 * 4294967296 + b5 * 1099511627776 + b6 * 281474976710656) (b7 * 72057594037927936) = b0 + b1 * 256 + b2 * 65536 + b3 * 16777216 + b4 * 4294967296 + b5 * 1099511627776 + b6 * 281474976710656 + b7 * 72057594037927936 := bits_or_add _ b7 56 (by omega) (by omega) (by omega) (by omega)
    by_cases h : b0 + b1 * 256 + b2 * 65536 + b3 * 16777216 + b4 * 4294967296 + b5 * 1099511627776 + b6 * 281474976710656 + b7 * 72057594037927936 < gP
    · rw [if_pos h]
      rw [decide_eq_true h] at hin
      exact gold_Take_yes b0 _ b1 _ b2 _ b3 _ b4 _ b5 _ b6 _ b7 _ w h0.1 h0.2 h1.1 h1.2 h2.1 h2.2 h3.1 h3.2 h4.1 h4.2 h5.1 h5.2 h6.1 h6.2 h7.1 h7.2 o0 o1 o2 o3 o4 o5 o6 o7 hin
    · rw [if_neg h]
      rw [decide_eq_false h] at hin
      exact gold_Take_no b0 _ b1 _ b2 _ b3 _ b4 _ b5 _ b6 _ b7 _ w h0.1 h0.2 h1.1 h1.2 h2.1 h2.2 h3.1 h3.2 h4.1 h4.2 h5.1 h5.2 h6.1 h6.2 h7.1 h7.2 o0 o1 o2 o3 o4 o5 o6 o7 hin

end Go.Proofs.Ytnajihlhcdedgaa
