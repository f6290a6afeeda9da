/-
  A block whose cells are a function of their place.
-/
import Derived.Test.YtnajihlhcdedgaaBlk
import Derived.Laws.Rows
import Derived.Laws.Tables
import Derived.Tactics
namespace Go.Proofs.Ytnajihlhcdedgaa
open Go.RowKit
set_option linter.unusedVariables false

/-- n cells, by their places. -/
def rowF (n : Nat) (f : Nat → Value) : Array Value := ((List.range n).map f).toArray

theorem rowF_get {n i : Nat} {f : Nat → Value} (h : i < n) : (rowF n f)[i]? = some (f i) := by
  simp [rowF, h]
theorem rowF_congr {n : Nat} {f g : Nat → Value} (h : ∀ i, i < n → f i = g i) : rowF n f = rowF n g := by
  unfold rowF
  congr 1
  exact List.map_congr_left fun i hi => h i (List.mem_range.1 hi)
theorem rowF_set {n i : Nat} {f : Nat → Value} {v : Value} (h : i < n) : (rowF n f).setIfInBounds i v = rowF n (fun j => if j = i then v else f j) := by
  apply Array.ext'
  apply List.ext_getElem?
  intro j
  simp only [rowF, Array.toList_setIfInBounds, List.getElem?_set, List.length_map, List.length_range, List.getElem?_map]
  by_cases hij : i = j
  · subst hij
    simp [h]
  · have hji : j ≠ i := fun e => hij e.symm
    by_cases hj : j < n
    · simp [hij, hj, hji]
    · simp [hij, hj]
theorem rowF_size (n : Nat) (f : Nat → Value) : (rowF n f).size = n := by simp [rowF]

/-- A cell of such a block. -/
theorem Blk.at {w : World} {b n : Nat} {t : TypeId} {f : Nat → Value} (h : Blk w b t (rowF n f)) {i : Nat} (hi : i < n) : w.cell? ⟨b, i, none⟩ = some (f i) := h.cell i (rowF_get hi)
/-- A store into such a block. -/
theorem Blk.set {w : World} {b n : Nat} {t : TypeId} {f g : Nat → Value} (h : Blk w b t (rowF n f)) {i : Nat} {v : Value} (hi : i < n) (hg : ∀ j, j < n → g j = if j = i then v else f j) : Blk (w.setCell ⟨b, i, none⟩ v) b t (rowF n g) := by
  unfold Blk
  rw [blkAt_setCell, if_pos rfl, h.eq]
  simp only [Option.map_some, Obj.put_cells]
  rw [rowF_set hi, rowF_congr hg]
theorem Blk.set_other {w : World} {b c i : Nat} {t : TypeId} {cs : Array Value} (h : Blk w b t cs) (hne : c ≠ b) (v : Value) : Blk (w.setCell ⟨c, i, none⟩ v) b t cs := by
  unfold Blk
  rw [blkAt_setCell, if_neg hne, h.eq]
theorem Blk.drew {w : World} {b : Nat} {t : TypeId} {cs : Array Value} (h : Blk w b t cs) : Blk w.drew b t cs := h
theorem Blk.alloc {w : World} {b : Nat} {t : TypeId} {cs : Array Value} (h : Blk w b t cs) (o : Obj) : Blk (w.alloc o) b t cs := by
  unfold Blk
  rw [blkAt_alloc, if_neg (Nat.ne_of_lt h.lt), h.eq]
theorem Blk.new (w : World) (t : TypeId) (cs : Array Value) : Blk (w.alloc (.cells cs t (0, 0))) w.heap.size t cs := by
  unfold Blk
  rw [blkAt_alloc, if_pos rfl]
/-! ### Whole rows -/
theorem Kept.trans' {a b c : World} (h : Kept a b) (k : Below a.heap.size b c) : Kept a c := Below.trans h k
theorem Blk.setRow {w : World} {b : Nat} {t : TypeId} {old : Array Value} (h : Blk w b t old) (cs : Array Value) : Blk (w.setRow b cs) b t cs := setRow_heap w b old cs t (0, 0) h.heap
theorem Blk.setRow_other {w : World} {b g : Nat} {t : TypeId} {cs : Array Value} (h : Blk w b t cs) (hne : g ≠ b) (new : Array Value) : Blk (w.setRow g new) b t cs := by
  unfold Blk blkAt
  rw [Go.setRow_other w g b new (fun e => hne e.symm)]
  exact h.heap
theorem Kept.setRow {a w : World} (h : Kept a w) {g : Nat} (hg : a.heap.size ≤ g) (cs : Array Value) : Kept a (w.setRow g cs) := by
  refine h.trans' ⟨rfl, rfl, rfl, by simp, fun k hk => ?_⟩
  exact Go.setRow_other w g k cs (by omega)

section
variable {P : Program} {ops : Array Oper} {rest : List Oper} {o : Oper} {a : Act} {w : World} {Q : Exit → Act → World → Prop}
/-- A whole variable is read. -/
theorem wpList_load_blk (ty : TypeId) (x : Operand) {g : Nat} {t : TypeId} {cs : Array Value} (B : Blk w g t cs) {n : Nat} {e : TypeId} (hu : P.underlying ty = some (.array n e)) (hi : (P.info? ty).map (·.size) = some cs.size)
    (hgd : o.guard = none) (ho : o.op = .load ty x) (hx : a.eval x = .pointer (some ⟨g, 0, none⟩))
    (h : wpList P ops Q rest (a.put o.dst (.agg cs)) w) : wpList P ops Q (o :: rest) a w :=
  wpList_load_row hgd ty x ho g hx t cs (0, 0) _ B.heap hu rfl hi h
/-- A whole variable is written. -/
theorem wpList_store_blk (ty : TypeId) (x y : Operand) {g : Nat} {t : TypeId} {old cs : Array Value} (B : Blk w g t old) (hi : (P.info? ty).map (·.size) = some cs.size) (hsz : old.size = cs.size) (h1 : cs.all (·.oneCell') = true)
    (hgd : o.guard = none) (ho : o.op = .store ty x y) (hx : a.eval x = .pointer (some ⟨g, 0, none⟩)) (hy : a.eval y = .agg cs)
    (h : wpList P ops Q rest (a.put o.dst undef) (w.setRow g cs)) : wpList P ops Q (o :: rest) a w :=
  wpList_store_row hgd ty x y ho g cs hx hy t old B.heap hi hsz h1 h
/-- The result lies in a block. -/
theorem ret_blk {fn : Func} {R : Ending → World → Prop} {p : Tmp} {ty : TypeId} (hr : fn.results = #[.cell p ty]) {g : Nat} {t : TypeId} {cs : Array Value} (B : Blk w g t cs) {n : Nat} {e : TypeId} (hu : P.underlying ty = some (.array n e)) (hi : (P.info? ty).map (·.size) = some cs.size)
    (hp : a.tmps.getD p undef = .pointer (some ⟨g, 0, none⟩)) (hd : a.defers = []) (hR : R (.returned (.agg cs)) w) : bodyPost P fn R .ret a w :=
  bodyPost_ret (results_cell_row hr a.tmps w g t cs (0, 0) _ hp B.heap hu rfl hi) hd hR
end
theorem rowF_one {n : Nat} {f : Nat → Value} (h : ∀ i, (f i).oneCell' = true) : (rowF n f).all (·.oneCell') = true := by
  refine Array.all_eq_true_iff_forall_mem.2 fun v hv => ?_
  simp only [rowF, List.mem_toArray, List.mem_map] at hv
  obtain ⟨i, _, rfl⟩ := hv
  exact h i
end Go.Proofs.Ytnajihlhcdedgaa
