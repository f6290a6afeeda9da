/-
  The oracle: made, asked.
-/
import Derived.Test.YtnajihlhcdedgaaZX2
import Derived.Deep.RegionHeld3
import Derived.Deep.AppendLies
import Derived.Carry
namespace Go.Proofs.Ytnajihlhcdedgaa
open Go.RowKit
set_option linter.unusedVariables false
set_option linter.unusedSimpArgs false
attribute [local simp] blkAt_setCell blkAt_alloc blkAt_drew Obj.put_cells

/-- An oracle: its block b, its map's block M; its draws D (nd of them) lie in blocks below M. -/
structure Orc (w : World) (b M : Nat) (da : Option Addr) (nd dc : Nat) (D : Nat → Int) (pos : Nat) (es : Array MapEntry) (ck : Nat) (av : Value) : Prop where
  blk : Blk w b 143 #[.bool true, .slice da nd dc, .int .i64 (pos : Int), .map (some M), av]
  map : w.heap[M]? = some (.map es ck)
  lt : M < b
  draws : SlB w da nd dc M D
theorem Orc.kept {w w' : World} {b M : Nat} {da : Option Addr} {nd dc : Nat} {D : Nat → Int} {pos : Nat} {es : Array MapEntry} {ck : Nat} {av : Value} (h : Orc w b M da nd dc D pos es ck av) (k : Kept w w') : Orc w' b M da nd dc D pos es ck av :=
  ⟨h.blk.kept k, k.block h.map, h.lt, h.draws.kept k⟩

set_option maxRecDepth 100000 in
set_option maxHeartbeats 1000000 in
theorem x_Oracle (w : World) (sl : Option Addr) (n cap : Nat) (D : Nat → Int) (hn : n ≤ 65536) (hb : (sl = none ∧ n = 0 ∧ cap = 0) ∨ ∃ ad : Addr, sl = some ad ∧ ∀ j, j < n → w.cell? (ad.add j) = some (.int .u8 (D j))) (hD : ∀ j, j < n → 0 ≤ D j ∧ D j ≤ 255) :
    Calls Try.prog 85 #[.slice sl n cap] w fun e w' => ∃ b M da dc, e = .returned (.pointer (some ⟨b, 0, none⟩)) ∧ w.heap.size ≤ M ∧ Orc w' b M da n dc D 0 #[] 0 (.slice none 0 0) ∧ Kept w w' := by
  have own0 : (w.alloc (.cells #[] 5)).ownsRow w.heap.size 5 1 (.slice (some ⟨w.heap.size, 0, none⟩) 0 0) 0 [] := World.ownsRow_made w #[] 0 (Nat.le_refl _) (by decide) rfl
  have hmm := fun w' => run_makeMap (P := Try.prog) 141 w'
  have fin : ∀ W5 v5, W5.ownsRow w.heap.size 5 1 v5 n ((List.range n).map fun j => Value.int .u8 (D j)) → Kept w W5 → ∃ b M da dc, Ending.returned (.pointer (some ⟨W5.heap.size + 1, 0, none⟩)) = Ending.returned (.pointer (some ⟨b, 0, none⟩)) ∧ w.heap.size ≤ M ∧
      Orc ((W5.alloc (.map #[] 0)).alloc (.cells #[.bool true, v5, .int .i64 0, .map (some W5.heap.size), .slice none 0 0] 143)) b M da n dc D 0 #[] 0 (.slice none 0 0) ∧ Kept w ((W5.alloc (.map #[] 0)).alloc (.cells #[.bool true, v5, .int .i64 0, .map (some W5.heap.size), .slice none 0 0] 143)) := fun W5 v5 own5 k5 => by
    obtain ⟨da, dc, rfl⟩ := ownsRow_slicex own5
    have hs := SlB.of_own own5 hD
    have e : (W5.alloc (.map #[] 0)).heap.size = W5.heap.size + 1 := by simp
    refine ⟨_, W5.heap.size, da, dc, rfl, k5.size, ⟨?_, ?_, Nat.lt_succ_self _, (hs.kept ((Kept.refl W5).alloc _)).kept ((Kept.refl _).alloc _)⟩, (k5.alloc _).alloc _⟩
    · have := Blk.new (W5.alloc (.map #[] 0)) 143 #[.bool true, .slice da n dc, .int .i64 0, .map (some W5.heap.size), .slice none 0 0]
      rw [e] at this
      exact this
    · exact (heap_alloc_old _ _ (by rw [e]; omega)).trans (heap_alloc_new W5 _)
  rcases hb with ⟨rfl, rfl, rfl⟩ | ⟨ad, rfl, hc⟩
  · go_enter Try.func85, Try.ntmps85
    go_wp2_with (at_builtin; refine app_nil own0 (.tmp 3) (.tmp 4) rfl rfl rfl rfl ?_)
    refine ⟨rfl, .pointer (some ⟨w.heap.size + 1 + 1, 0, none⟩), by simp [results, Try.results85, go_sem], ?_⟩
    have f := fin _ _ own0 ((Kept.refl w).alloc _)
    simpa using f
  · go_enter Try.func85, Try.ntmps85
    go_wp2_with (at_builtin; refine app_bytesA own0 ad n cap ((List.range n).map fun j => Value.int .u8 (D j)) (by simp) (one8x n D) (by intro j u hj; exact ((Kept.refl w).alloc _).cell (cellsA hc j u hj)) (by omega) (by simp) (.tmp 3) (.tmp 4) rfl rfl rfl rfl ?_; intro v5 W5 own5 gr5 _; rw [Nat.zero_add, List.nil_append] at own5; obtain ⟨da, dc, rfl⟩ := ownsRow_slicex own5)
    have k5 := grown_kept ((Kept.refl w).alloc _) own0 gr5 (Nat.le_refl _)
    clear own0 gr5
    go_ret
    exact fin _ _ own5 k5
end Go.Proofs.Ytnajihlhcdedgaa
