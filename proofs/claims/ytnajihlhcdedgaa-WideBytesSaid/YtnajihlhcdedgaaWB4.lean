/-
  wide: Bytes, Take: what they answer.
-/
import Derived.Test.YtnajihlhcdedgaaWB1
import Derived.Test.YtnajihlhcdedgaaWB2
import Derived.Test.YtnajihlhcdedgaaWB3
import Derived.Test.YtnajihlhcdedgaaGBytes
namespace Go.Proofs.Ytnajihlhcdedgaa
open Go.RowKit
set_option linter.unusedVariables false

theorem pow_2_8 (i : Nat) : (2 : Int) ^ (8 * i) = 256 ^ i := by
  rw [Int.pow_mul]; rfl
theorem w_Bytes {a : Int} (ha : is128 a) : Pure Try.prog 56 #[E a] (.agg (bytesV (leBytes 16 (a % wP))).toArray) := fun w => by
  have hx := is128_emod_w a
  have e0 := is64_lo (a % wP)
  have e1 := is64_hi hx
  have key := wide_Bytes_in (a % 18446744073709551616) (a / 18446744073709551616) _ _ (fun k => a % wP / 256 ^ k % 256) w e0.1 e0.2 e1.1 e1.2
    (fun k hk => by rw [pow_2_8]; exact limb0 _ _ hk) (fun k hk => by rw [pow_2_8]; exact limb1 _ _) (w_Of ha)
  rw [leBytes_range, bytesV, List.map_map]
  exact key

theorem list16 {l : List Int} (h : l.length = 16) : ∃ x0 x1 x2 x3 x4 x5 x6 x7 x8 x9 x10 x11 x12 x13 x14 x15, l = [x0, x1, x2, x3, x4, x5, x6, x7, x8, x9, x10, x11, x12, x13, x14, x15] := by
  match l, h with
  | [x0, x1, x2, x3, x4, x5, x6, x7, x8, x9, x10, x11, x12, x13, x14, x15], _ => exact ⟨_, _, _, _, _, _, _, _, _, _, _, _, _, _, _, _, rfl⟩

set_option maxRecDepth 100000 in
set_option maxHeartbeats 4000000 in
theorem w_Take {bs : List Int} (hl : bs.length = 16) (hb : ∀ b ∈ bs, isByte b) :
    Pure Try.prog 57 #[.agg (bytesV bs).toArray] (if leVal bs < wP then .tuple #[E (leVal bs), .int .i64 0] else .tuple #[.agg #[.int .u64 0, .int .u64 0], .int .i64 7]) := fun w => by
  obtain ⟨b0, b1, b2, b3, b4, b5, b6, b7, b8, b9, b10, b11, b12, b13, b14, b15, rfl⟩ := list16 hl
  have h0 := hb b0 (by simp)
  have h1 := hb b1 (by simp)
  have h2 := hb b2 (by simp)
  have h3 := hb b3 (by simp)
  have h4 := hb b4 (by simp)
  have h5 := hb b5 (by simp)
  have h6 := hb b6 (by simp)
  have h7 := hb b7 (by simp)
  have h8 := hb b8 (by simp)
  have h9 := hb b9 (by simp)
  have h10 := hb b10 (by simp)
  have h11 := hb b11 (by simp)
  have h12 := hb b12 (by simp)
  have h13 := hb b13 (by simp)
  have h14 := hb b14 (by simp)
  have h15 := hb b15 (by simp)
  unfold isByte at h0 h1 h2 h3 h4 h5 h6 h7 h8 h9 h10 h11 h12 h13 h14 h15
  clear hb hl
  have e : leVal [b0, b1, b2, b3, b4, b5, b6, b7, b8, b9, b10, b11, b12, b13, b14, b15] = (b0 + b1 * 256 + b2 * 65536 + b3 * 16777216 + b4 * 4294967296 + b5 * 1099511627776 + b6 * 281474976710656 + b7 * 72057594037927936) + (b8 + b9 * 256 + b10 * 65536 + b11 * 16777216 + b12 * 4294967296 + b13 * 1099511627776 + b14 * 281474976710656 + b15 * 72057594037927936) * 18446744073709551616 := by simp only [leVal]; omega
  rw [e]
  have hlo : is64 (b0 + b1 * 256 + b2 * 65536 + b3 * 16777216 + b4 * 4294967296 + b5 * 1099511627776 + b6 * 281474976710656 + b7 * 72057594037927936) := by unfold is64; omega
  have hhi : is64 (b8 + b9 * 256 + b10 * 65536 + b11 * 16777216 + b12 * 4294967296 + b13 * 1099511627776 + b14 * 281474976710656 + b15 * 72057594037927936) := by unfold is64; omega
  have o0 : bits .or .u64 0 b0 = b0 := by
    have := bits_or_add 0 b0 0 (by omega) (by omega) (by omega) (by omega)
    simpa using this
  have o1 : bits .or .u64 (b0) (b1 * 256) = b0 + b1 * 256 := bits_or_add _ b1 8 (by omega) (by omega) (by omega) (by omega)
  have o2 : bits .or .u64 (b0 + b1 * 256) (b2 * 65536) = b0 + b1 * 256 + b2 * 65536 := bits_or_add _ b2 16 (by omega) (by omega) (by omega) (by omega)
  have o3 : bits .or .u64 (b0 + b1 * 256 + b2 * 65536) (b3 * 16777216) = b0 + b1 * 256 + b2 * 65536 + b3 * 16777216 := bits_or_add _ b3 24 (by omega) (by omega) (by omega) (by omega)
  have o4 : bits .or .u64 (b0 + b1 * 256 + b2 * 65536 + b3 * 16777216) (b4 * 4294967296) = b0 + b1 * 256 + b2 * 65536 + b3 * 16777216 + b4 * 4294967296 := bits_or_add _ b4 32 (by omega) (by omega) (by omega) (by omega)
  have o5 : bits .or .u64 (b0 + b1 * 256 + b2 * 65536 + b3 * 16777216 + b4 * 4294967296) (b5 * 1099511627776) = b0 + b1 * 256 + b2 * 65536 + b3 * 16777216 + b4 * 4294967296 + b5 * 1099511627776 := bits_or_add _ b5 40 (by omega) (by omega) (by omega) (by omega)
  have o6 : bits .or .u64 (b0 + b1 * 256 + b2 * 65536 + b3 * 16777216 + b4 * 4294967296 + b5 * 1099511627776) (b6 * 281474976710656) = b0 + b1 * 256 + b2 * 65536 + b3 * 16777216 + b4 * 4294967296 + b5 * 1099511627776 + b6 * 281474976710656 := bits_or_add _ b6 48 (by omega) (by omega) (by omega) (by omega)
  have o7 : bits .or .u64 (b0 + b1 * 256 + b2 * 65536 + b3 * 16777216 + b4 * 4294967296 + b5 * 1099511627776 + b6 * 281474976710656) (b7 * 72057594037927936) = b0 + b1 * 256 + b2 * 65536 + b3 * 16777216 + b4 * 4294967296 + b5 * 1099511627776 + b6 * 281474976710656 + b7 * 72057594037927936 := bits_or_add _ b7 56 (by omega) (by omega) (by omega) (by omega)
  have o8 : bits .or .u64 0 b8 = b8 := by
    have := bits_or_add 0 b8 0 (by omega) (by omega) (by omega) (by omega)
    simpa using this
  have o9 : bits .or .u64 (b8) (b9 * 256) = b8 + b9 * 256 := bits_or_add _ b9 8 (by omega) (by omega) (by omega) (by omega)
  have o10 : bits .or .u64 (b8 + b9 * 256) (b10 * 65536) = b8 + b9 * 256 + b10 * 65536 := bits_or_add _ b10 16 (by omega) (by omega) (by omega) (by omega)
  have o11 : bits .or .u64 (b8 + b9 * 256 + b10 * 65536) (b11 * 16777216) = b8 + b9 * 256 + b10 * 65536 + b11 * 16777216 := bits_or_add _ b11 24 (by omega) (by omega) (by omega) (by omega)
  have o12 : bits .or .u64 (b8 + b9 * 256 + b10 * 65536 + b11 * 16777216) (b12 * 4294967296) = b8 + b9 * 256 + b10 * 65536 + b11 * 16777216 + b12 * 4294967296 := bits_or_add _ b12 32 (by omega) (by omega) (by omega) (by omega)
  have o13 : bits .or .u64 (b8 + b9 * 256 + b10 * 65536 + b11 * 16777216 + b12 * 4294967296) (b13 * 1099511627776) = b8 + b9 * 256 + b10 * 65536 + b11 * 16777216 + b12 * 4294967296 + b13 * 1099511627776 := bits_or_add _ b13 40 (by omega) (by omega) (by omega) (by omega)
  have o14 : bits .or .u64 (b8 + b9 * 256 + b10 * 65536 + b11 * 16777216 + b12 * 4294967296 + b13 * 1099511627776) (b14 * 281474976710656) = b8 + b9 * 256 + b10 * 65536 + b11 * 16777216 + b12 * 4294967296 + b13 * 1099511627776 + b14 * 281474976710656 := bits_or_add _ b14 48 (by omega) (by omega) (by omega) (by omega)
  have o15 : bits .or .u64 (b8 + b9 * 256 + b10 * 65536 + b11 * 16777216 + b12 * 4294967296 + b13 * 1099511627776 + b14 * 281474976710656) (b15 * 72057594037927936) = b8 + b9 * 256 + b10 * 65536 + b11 * 16777216 + b12 * 4294967296 + b13 * 1099511627776 + b14 * 281474976710656 + b15 * 72057594037927936 := bits_or_add _ b15 56 (by omega) (by omega) (by omega) (by omega)
  have hE := E_mk (hi := b8 + b9 * 256 + b10 * 65536 + b11 * 16777216 + b12 * 4294967296 + b13 * 1099511627776 + b14 * 281474976710656 + b15 * 72057594037927936) hlo
  have hI := w_In (a := (b0 + b1 * 256 + b2 * 65536 + b3 * 16777216 + b4 * 4294967296 + b5 * 1099511627776 + b6 * 281474976710656 + b7 * 72057594037927936) + (b8 + b9 * 256 + b10 * 65536 + b11 * 16777216 + b12 * 4294967296 + b13 * 1099511627776 + b14 * 281474976710656 + b15 * 72057594037927936) * 18446744073709551616) (by unfold is64 at hlo hhi; unfold is128; omega)
  rw [hE] at hI ⊢
  by_cases h : (b0 + b1 * 256 + b2 * 65536 + b3 * 16777216 + b4 * 4294967296 + b5 * 1099511627776 + b6 * 281474976710656 + b7 * 72057594037927936) + (b8 + b9 * 256 + b10 * 65536 + b11 * 16777216 + b12 * 4294967296 + b13 * 1099511627776 + b14 * 281474976710656 + b15 * 72057594037927936) * 18446744073709551616 < wP
  · rw [if_pos h]
    rw [decide_eq_true h] at hI
    exact wide_Take_yes b0 _ b1 _ b2 _ b3 _ b4 _ b5 _ b6 _ b7 _ b8 _ b9 _ b10 _ b11 _ b12 _ b13 _ b14 _ b15 _ w h0.1 h0.2 h1.1 h1.2 h2.1 h2.2 h3.1 h3.2 h4.1 h4.2 h5.1 h5.2 h6.1 h6.2 h7.1 h7.2 h8.1 h8.2 h9.1 h9.2 h10.1 h10.2 h11.1 h11.2 h12.1 h12.2 h13.1 h13.2 h14.1 h14.2 h15.1 h15.2 o0 o1 o2 o3 o4 o5 o6 o7 o8 o9 o10 o11 o12 o13 o14 o15 hI
  · rw [if_neg h]
    rw [decide_eq_false h] at hI
    exact wide_Take_no b0 _ b1 _ b2 _ b3 _ b4 _ b5 _ b6 _ b7 _ b8 _ b9 _ b10 _ b11 _ b12 _ b13 _ b14 _ b15 _ w h0.1 h0.2 h1.1 h1.2 h2.1 h2.2 h3.1 h3.2 h4.1 h4.2 h5.1 h5.2 h6.1 h6.2 h7.1 h7.2 h8.1 h8.2 h9.1 h9.2 h10.1 h10.2 h11.1 h11.2 h12.1 h12.2 h13.1 h13.2 h14.1 h14.2 h15.1 h15.2 o0 o1 o2 o3 o4 o5 o6 o7 o8 o9 o10 o11 o12 o13 o14 o15 hI
end Go.Proofs.Ytnajihlhcdedgaa
