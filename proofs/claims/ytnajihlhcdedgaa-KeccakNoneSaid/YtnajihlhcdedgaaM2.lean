/-
  Slices of bytes: made, read, turned into strings.
-/
import Derived.Test.YtnajihlhcdedgaaK11
import Derived.Test.YtnajihlhcdedgaaM1
import Derived.Test.YtnajihlhcdedgaaMark3
import Derived.Test.YtnajihlhcdedgaaFrame
import Derived.Laws.MakeOwn
namespace Go.Proofs.Ytnajihlhcdedgaa
open Go.ChangeShapes Go.WideShapes Go.ChangeAt Go.RowKit
set_option linter.unusedVariables false

theorem run_index_at {t e : TypeId} {ad : Addr} {n cap j : Nat} (ht : Try.prog.underlying t = some (.slice e)) (he : (Try.prog.info? e).map (fun i => i.size) = some 1) (hj : j < n) (w : World) :
    (Instr.indexAt t (.slice (some ad) n cap) (.int .i64 (j : Int))).run Try.prog w = .ok (.pointer (some (ad.add j))) w := by
  cases hq : Try.prog.info? e with
  | none => simp [hq] at he
  | some i =>
    have hs : i.size = 1 := by simpa [hq] using he
    have h1 : (0 : Int) ≤ (j : Int) := by omega
    have h2 : (j : Int) < (n : Int) := by omega
    simp [Instr.indexAt, run_underlying ht, asIntOf, sizeOf, typeInfo, hq, hs, hj]
theorem size5 : (Try.prog.info? 5).map (fun i => i.size) = some 1 := by kernel_rfl
theorem add_zero_at (g j : Nat) : (⟨g, 0, none⟩ : Addr).add j = ⟨g, j, none⟩ := by rw [Addr.add_lit]; simp
theorem SlB.of_blk {w : World} {g n cap : Nat} {C : Nat → Int} (B : Blk w g 5 (rowF n (fun j => .int .u8 (C j)))) (hb : ∀ j, j < n → 0 ≤ C j ∧ C j ≤ 255) : SlB w (some ⟨g, 0, none⟩) n cap (g + 1) C :=
  ⟨fun j hj => ⟨_, fun w' => run_index_at Try.underlying42 size5 hj w', by rw [add_zero_at]; exact B.at hj, by rw [add_zero_at]; exact Nat.lt_succ_self g⟩, hb⟩
theorem SlB.mono {w : World} {a : Option Addr} {n cap N M : Nat} {C : Nat → Int} (h : SlB w a n cap N C) (hM : N ≤ M) : SlB w a n cap M C :=
  ⟨fun j hj => let ⟨p, h1, h2, h3⟩ := h.at' j hj; ⟨p, h1, h2, Nat.lt_of_lt_of_le h3 hM⟩, h.byte⟩
/-- What a slice of bytes of the call's own reads as. -/
theorem SlB.of_own {w : World} {base n : Nat} {a : Option Addr} {cap : Nat} {C : Nat → Int} (h : w.ownsRow base 5 1 (.slice a n cap) n ((List.range n).map fun j => Value.int .u8 (C j))) (hb : ∀ j, j < n → 0 ≤ C j ∧ C j ≤ 255) : SlB w a n cap w.heap.size C := by
  refine ⟨fun j hj => ?_, hb⟩
  rcases h.2 with ⟨h1, rfl⟩ | ⟨g, cap', cur, h1, h2⟩
  · omega
  · injection h1 with h1 h3 h4
    subst h1
    have hc := h.cells (g := g) rfl j (Value.int .u8 (C j)) (by simp [hj])
    exact ⟨_, fun w' => run_index_at Try.underlying42 size5 hj w', hc, block_lt_of_cell hc⟩
/-- Bytes as values. -/
def bytesR (n : Nat) (C : Nat → Int) : List Value := (List.range n).map fun j => Value.int .u8 (C j)
/-- The bytes as a string. -/
def strR (n : Nat) (C : Nat → Int) : ByteArray := strOf ((List.range n).map C)
theorem conv_nil (w : World) : (convert 42 9 (.slice none 0 0)).run Try.prog w = .ok (.string (strOf [])) w := by kernel_rfl
theorem conv_R {w : World} {v : Value} {n : Nat} {C : Nat → Int} (h : Reads w v (bytesR n C)) (hb : ∀ j, j < n → 0 ≤ C j ∧ C j ≤ 255) : (convert 42 9 v).run Try.prog w = .ok (.string (strR n C)) w := by
  rcases h with ⟨rfl, h⟩ | ⟨b, o, cap, h1, h2, h3⟩
  · have h0 : n = 0 := by
      have := congrArg List.length h
      simpa [bytesR] using this
    subst h0
    exact conv_nil w
  · have hl : (bytesR n C).length = ((List.range n).map C).length := by simp [bytesR]
    rw [h1, hl]
    refine conv_str Try.underlying42 Try.underlying5 Try.underlying9 w ?_ ?_
    · intro x hx
      obtain ⟨j, hj, rfl⟩ := List.mem_map.1 hx
      exact hb j (List.mem_range.1 hj)
    · intro j hj
      have hj' : j < n := by simpa using hj
      refine h3 j _ ?_
      rw [List.getD_eq_getElem?_getD]
      simp [bytesR, hj']
theorem makes_zero (z : Value) (hz : z.cells = #[z]) (n : Nat) : madeCells z.cells (n * 1) = rowF n (fun _ => z) := by
  rw [hz, Nat.mul_one]
  apply Array.ext'
  rw [toList_madeCells_one]
  unfold rowF
  apply List.ext_getElem?
  intro i
  rcases Nat.lt_or_ge i n with h | h
  · simp [h]
  · simp [h]
/-- A slice of noughts. -/
theorem makefull42 (c : Nat) (h63 : (c : Int) ≤ 281474976710656) (w : World) : (Instr.makeSlice 42 (.int .i64 (c : Int)) (.int .i64 (c : Int))).run Try.prog w = .ok (.slice (some ⟨w.heap.size, 0, none⟩) c c) (w.alloc (.cells (rowF c (fun _ => .int .u8 0)) 5)) := by
  obtain ⟨i, hi, hz0, hz1, hz2⟩ := info_parts info5
  have hr := run_make (P := Try.prog) w 42 5 i _ Try.underlying42 hi hz0 .i64 .i64 c c (by omega) (by omega) (by rw [hz2]; omega) (by omega)
  simp only [Int.toNat_natCast] at hr
  rw [hr, hz1, makes_zero _ rfl]
/-- What a mark stands for: a slice that reads so. -/
def readMean (L : List Value) : Mean := ⟨fun v w' => Reads w' v L, fun v w w' h hk => h.kept hk, fun b w h => by rcases h with ⟨h, _⟩ | ⟨_, _, _, h, _⟩ <;> cases h⟩
theorem bytesR_length (n : Nat) (C : Nat → Int) : (bytesR n C).length = n := by simp [bytesR]

section
variable {H : Type} {enc : TypeId × Value → H} {W : World} {base : Nat} {spare : Nat → Bool} {held : Bool} {v : Value} {d : DataW H} {p : List MemPlace}
set_option maxRecDepth 100000 in
theorem open_bytes {r : Reach} {b : Nat} (hv : Value.okWide Try.prog W r b 42 v) (h : DataW.Trod enc Try.prog W base spare held 42 v d p) : ∃ a n cap C, v = .slice a n cap ∧ ((n : Int) ≤ 9223372036854775807 ∧ SlB W a n cap W.heap.size C) := by
  obtain ⟨a0, n0, c0, rfl⟩ : ∃ a n cap, v = .slice a n cap := okWide_slice Try.underlying42 hv
  obtain ⟨fuel, hf⟩ := h
  rcases open_ints Try.underlying42 Try.underlying5 (by kernel_rfl) hf with ⟨h1, _⟩ | ⟨a, len, cap, zs, h1, _, hlc, hcm, hzl, _, hcell, hwf⟩
  · simp only [Value.cells, List.cons.injEq, and_true, Value.slice.injEq] at h1
    obtain ⟨rfl, rfl, rfl⟩ := h1
    exact ⟨none, 0, 0, fun _ => 0, rfl, by omega, fun j hj => absurd hj (Nat.not_lt_zero _), fun j hj => absurd hj (Nat.not_lt_zero _)⟩
  · simp only [Value.cells, List.cons.injEq, and_true, Value.slice.injEq] at h1
    obtain ⟨rfl, rfl, rfl⟩ := h1
    have hl : n0 ≤ zs.length := by rw [hzl]; split <;> omega
    refine ⟨some a, n0, c0, fun j => zs.getD j 0, rfl, by unfold maxLen at hcm; omega, fun j hj => ?_, fun j hj => ?_⟩
    · have hc := hcell j (by omega)
      exact ⟨_, fun w' => run_index_at Try.underlying42 size5 hj w', hc, block_lt_of_cell hc⟩
    · have hj' : j < zs.length := by omega
      have := hwf zs[j] (List.getElem_mem hj')
      show 0 ≤ zs.getD j 0 ∧ zs.getD j 0 ≤ 255
      rw [List.getD_eq_getElem?_getD, List.getElem?_eq_getElem hj']
      simp [Lit.wf, IntKind.min, IntKind.max, IntKind.signed, IntKind.bits] at this
      simp only [Option.getD_some]
      omega
end
end Go.Proofs.Ytnajihlhcdedgaa
