/-
  A block of cells of the call's own, known whole; a world put behind a name.
-/
import Derived.Test.YtnajihlhcdedgaaCalm
import Derived.Lib.Hide
namespace Go.Proofs.Ytnajihlhcdedgaa
open Go.RowKit
set_option linter.unusedVariables false

/-- What block b is. -/
def blkAt (w : World) (b : Nat) : Option Obj := w.heap[b]?
/-- Block b holds the cells cs, none of them frozen. -/
abbrev Blk (w : World) (b : Nat) (t : TypeId) (cs : Array Value) : Prop := blkAt w b = some (.cells cs t (0, 0))

theorem Blk.eq {w : World} {b : Nat} {t : TypeId} {cs : Array Value} (h : Blk w b t cs) : blkAt w b = some (.cells cs t (0, 0)) := h
theorem Blk.heap {w : World} {b : Nat} {t : TypeId} {cs : Array Value} (h : Blk w b t cs) : w.heap[b]? = some (.cells cs t (0, 0)) := h
theorem Blk.of {w : World} {b : Nat} {t : TypeId} {cs : Array Value} (h : w.heap[b]? = some (.cells cs t (0, 0))) : Blk w b t cs := h
theorem Blk.cell {w : World} {b : Nat} {t : TypeId} {cs : Array Value} (h : Blk w b t cs) (i : Nat) {v : Value} (hv : cs[i]? = some v) : w.cell? ⟨b, i, none⟩ = some v := by
  have h := h.heap
  simp [World.cell?, h, hv]
theorem Blk.free {w : World} {b : Nat} {t : TypeId} {cs : Array Value} (h : Blk w b t cs) : ∀ i, w.frozen? ⟨b, i, none⟩ = false := by
  intro i
  have h := h.heap
  simp [World.frozen?, h]
theorem Blk.kept {w w' : World} {b : Nat} {t : TypeId} {cs : Array Value} (h : Blk w b t cs) (hk : Kept w w') : Blk w' b t cs := Blk.of (hk.block h.heap)
theorem Blk.lt {w : World} {b : Nat} {t : TypeId} {cs : Array Value} (h : Blk w b t cs) : b < w.heap.size := (Array.getElem?_eq_some_iff.1 h.heap).1

def Obj.put (o : Obj) (i : Nat) (v : Value) : Obj := match o with | .cells cs t fz => .cells (cs.setIfInBounds i v) t fz | o => o
theorem Obj.put_cells (cs : Array Value) (t : TypeId) (fz : Nat × Nat) (i : Nat) (v : Value) : Obj.put (.cells cs t fz) i v = .cells (cs.setIfInBounds i v) t fz := rfl
theorem blkAt_setCell (w : World) (c i b : Nat) (v : Value) : blkAt (w.setCell ⟨c, i, none⟩ v) b = if c = b then (blkAt w b).map (Obj.put · i v) else blkAt w b := by
  simp only [blkAt, World.setCell, Array.getElem?_modify]
  by_cases h : c = b
  · subst h
    simp only [if_true]
    cases hh : w.heap[c]? with
    | none => simp
    | some o => cases o <;> simp [Obj.put]
  · simp [h]
theorem blkAt_alloc (w : World) (o : Obj) (b : Nat) : blkAt (w.alloc o) b = if b = w.heap.size then some o else blkAt w b := by
  show (w.heap.push o)[b]? = _
  rw [Array.getElem?_push]
  rfl

theorem blkAt_drew (w : World) (b : Nat) : blkAt w.drew b = blkAt w b := rfl

theorem kept_side {w : World} {b i : Nat} (h : w.heap.size ≤ b) : w.heap.size ≤ (⟨b, i, none⟩ : Addr).block := h

/-- The world under a name, of which S is known. -/
theorem abs_calls {P : Program} {f : FuncId} {args : Array Value} {R : Ending → World → Prop} {w : World} (S : World → Prop) (hS : S w) (h : ∀ w', S w' → Calls P f args w' R) : Calls P f args w R := h w hS
theorem abs_world {Q : World → Prop} {w : World} (S : World → Prop) (hS : S w) (h : ∀ w', S w' → Q w') : Q w := h w hS

end Go.Proofs.Ytnajihlhcdedgaa
