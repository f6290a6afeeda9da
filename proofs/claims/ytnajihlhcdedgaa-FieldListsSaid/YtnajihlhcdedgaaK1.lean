/-
  One block of an older world is changed; part of a block is read and written whole.
-/
import Derived.Test.YtnajihlhcdedgaaRowF
namespace Go.Proofs.Ytnajihlhcdedgaa
open Go.RowKit
set_option linter.unusedVariables false

/-- Later than w: all blocks of w but b are as they were. -/
structure Touch (b : Nat) (w w' : World) : Prop where
  os : w'.os = w.os
  tape : w'.tape = w.tape
  output : w'.output = w.output
  size : w.heap.size ≤ w'.heap.size
  block : ∀ k, k < w.heap.size → k ≠ b → w'.heap[k]? = w.heap[k]?

theorem Touch.refl (b : Nat) (w : World) : Touch b w w := ⟨rfl, rfl, rfl, Nat.le_refl _, fun _ _ _ => rfl⟩
theorem Touch.of_kept {b : Nat} {w w' : World} (h : Kept w w') : Touch b w w' := ⟨h.os, h.tape, h.output, h.size, fun k hk _ => Below.block h k hk⟩
theorem Touch.trans {b : Nat} {u v w : World} (h : Touch b u v) (k : Touch b v w) : Touch b u w :=
  ⟨k.os.trans h.os, k.tape.trans h.tape, k.output.trans h.output, Nat.le_trans h.size k.size, fun i hi hb => (k.block i (Nat.lt_of_lt_of_le hi h.size) hb).trans (h.block i hi hb)⟩
theorem Touch.kept {a w w' : World} {b : Nat} (h : Kept a w) (hb : a.heap.size ≤ b) (k : Touch b w w') : Kept a w' :=
  ⟨k.os.trans h.os, k.tape.trans h.tape, k.output.trans h.output, Nat.le_trans h.size k.size, fun i hi => (k.block i (Nat.lt_of_lt_of_le hi h.size) (by omega)).trans (Below.block h i hi)⟩
theorem Touch.later {b : Nat} {u v w : World} (h : Touch b u v) (k : Kept v w) : Touch b u w := h.trans (.of_kept k)
/-- Of a block of the call's own nothing is asked. -/
theorem Touch.own {b c : Nat} {u v w : World} (h : Touch b u v) (hc : u.heap.size ≤ c) (k : Touch c v w) : Touch b u w :=
  ⟨k.os.trans h.os, k.tape.trans h.tape, k.output.trans h.output, Nat.le_trans h.size k.size, fun i hi hb => (k.block i (Nat.lt_of_lt_of_le hi h.size) (by omega)).trans (h.block i hi hb)⟩
theorem Touch.set (b : Nat) (w : World) (i : Nat) (v : Value) : Touch b w (w.setCell ⟨b, i, none⟩ v) :=
  ⟨rfl, rfl, rfl, by simp [World.setCell], fun k hk hb => heap_setCell_other w ⟨b, i, none⟩ k v hb⟩
theorem Touch.alloc (b : Nat) (w : World) (o : Obj) : Touch b w (w.alloc o) := .of_kept ((Kept.refl w).alloc o)
theorem Touch.setRow (b : Nat) (w : World) (cs : Array Value) : Touch b w (w.setRow b cs) :=
  ⟨rfl, rfl, rfl, by simp, fun k hk hb => Go.setRow_other w b k cs hb⟩
theorem Touch.blk {b c : Nat} {w w' : World} {t : TypeId} {cs : Array Value} (h : Blk w c t cs) (k : Touch b w w') (hb : c ≠ b) : Blk w' c t cs :=
  Blk.of ((k.block c h.lt hb).trans h.heap)

section
variable {P : Program}
theorem run_storeCells_part (g : Nat) (t : TypeId) : ∀ (vs : List Value) (i : Nat) (cur : Array Value) (w : World), w.heap[g]? = some (.cells cur t (0, 0)) → i + vs.length ≤ cur.size → (∀ v ∈ vs, v.oneCell' = true) →
    (storeCells ⟨g, 0, none⟩ vs i).run P w = .ok () (w.setRow g (cur.toList.take i ++ vs ++ cur.toList.drop (i + vs.length)).toArray)
  | [], i, cur, w, hg, hl, _ => by
    have hlt : g < w.heap.size := (Array.getElem?_eq_some_iff.1 hg).1
    have hv : w.heap[g] = .cells cur t (0, 0) := (Array.getElem?_eq_some_iff.1 hg).2
    simp only [storeCells, List.append_nil, List.length_nil, Nat.add_zero, List.take_append_drop, Array.toArray_toList]
    show Result.ok () w = _
    congr 1
    unfold World.setRow
    cases w with
    | mk heap tape drawn os output =>
      congr 1
      apply Array.ext
      · simp
      · intro k h1 h2
        simp only [Array.getElem_modify]
        split
        · rename_i hk; subst hk; simp at hv; simp [hv]
        · rfl
  | v :: rest, i, cur, w, hg, hl, h1 => by
    have hi : i < cur.size := by simp at hl; omega
    have hadd : (⟨g, 0, none⟩ : Addr).add i = ⟨g, i, none⟩ := by unfold Addr.add; split <;> simp_all
    have hcell : w.cell? ⟨g, i, none⟩ = some cur[i] := by simp [World.cell?, hg, hi]
    have hfro : w.frozen? ⟨g, i, none⟩ = false := by simp [World.frozen?, hg]
    have hst : (store ((⟨g, 0, none⟩ : Addr).add i) v).run P w = .ok () (w.setRow g (cur.setIfInBounds i v)) := by
      rw [hadd, run_store P w _ v _ (h1 v (by simp)), hcell]
      simp [hfro, setCell_eq_setRow w g i cur t (0, 0) v hg]
    have ih := run_storeCells_part g t rest (i + 1) (cur.setIfInBounds i v) (w.setRow g (cur.setIfInBounds i v)) (setRow_heap w g cur _ t _ hg) (by simp at hl ⊢; omega) (fun x hx => h1 x (by simp [hx]))
    simp only [storeCells, Sem.run_bind, hst, Result.andThen_ok, ih, setRow_setRow]
    congr 3
    apply List.ext_getElem?
    intro k
    simp only [Array.toList_setIfInBounds, List.getElem?_append, List.length_append, List.length_take, List.length_set, Array.length_toList, List.getElem?_drop, List.length_cons]
    by_cases hk : k < i
    · simp [hk, show k < i + 1 by omega, show min (i + 1) cur.size = i + 1 by omega, show min i cur.size = i by omega, show i ≠ k by omega, show k < i + 1 + rest.length by omega, show k < i + (rest.length + 1) by omega]
    · by_cases hk2 : k = i
      · subst hk2
        simp [show min (k + 1) cur.size = k + 1 by omega, show min k cur.size = k by omega, show k < k + 1 + rest.length by omega]
      · by_cases hk3 : k < i + 1 + rest.length
        · simp [hk, hk3, show ¬ k < i + 1 by omega, show min (i + 1) cur.size = i + 1 by omega, show min i cur.size = i by omega, show k - i = (k - (i + 1)) + 1 by omega, show k < i + (rest.length + 1) by omega]
        · simp [hk3, show min (i + 1) cur.size = i + 1 by omega, show min i cur.size = i by omega, show ¬ k < i + (rest.length + 1) by omega, show i + 1 + rest.length + (k - (i + 1 + rest.length)) = k by omega, show i + (rest.length + 1) + (k - (i + (rest.length + 1))) = k by omega, show i ≠ k by omega]

theorem rowF_part {n m : Nat} (hm : m ≤ n) (f g : Nat → Value) : ((rowF n f).toList.take 0 ++ (rowF m g).toList ++ (rowF n f).toList.drop (0 + (rowF m g).toList.length)).toArray = rowF n (fun i => if i < m then g i else f i) := by
  apply Array.ext'
  apply List.ext_getElem?
  intro k
  simp only [rowF, List.take_zero, List.nil_append, List.length_map, List.length_range, Nat.zero_add, List.getElem?_append, List.getElem?_map, List.getElem?_drop]
  by_cases hk : k < m
  · simp [hk, show k < n by omega]
  · simp only [hk, if_false, show m + (k - m) = k by omega]
    by_cases hn : k < n
    · simp [hn, hk]
    · simp [hn]

theorem run_storeVar_part (w : World) (g : Nat) (t ty : TypeId) {n m : Nat} (f h : Nat → Value) (B : Blk w g t (rowF n f)) (hm : m ≤ n) (hi : (P.info? ty).map (·.size) = some m) (h1 : ∀ i, (h i).oneCell' = true) :
    (storeVar ty ⟨g, 0, none⟩ (.agg (rowF m h))).run P w = .ok () (w.setRow g (rowF n (fun i => if i < m then h i else f i))) := by
  have hl : (rowF m h).toList.length = m := by simp [rowF]
  have := run_storeCells_part (P := P) g t (rowF m h).toList 0 (rowF n f) w B.heap (by rw [hl, rowF_size]; omega) (fun v hv => (Array.all_eq_true_iff_forall_mem.1 (rowF_one h1)) v (by simpa using hv))
  rw [rowF_part hm] at this
  cases hq : P.info? ty with
  | none => simp [hq] at hi
  | some i =>
    have hs : (rowF m h).size = i.size := by rw [rowF_size]; simp [hq] at hi; omega
    simp [storeVar, sizeOf, typeInfo, hq, Value.cells, hs, this]

theorem run_loadVar_part (w : World) (g : Nat) (t ty : TypeId) {n m k : Nat} {e : TypeId} (f : Nat → Value) (B : Blk w g t (rowF n f)) (hm : m ≤ n) (hu : P.underlying ty = some (.array k e)) (hi : (P.info? ty).map (·.size) = some m) :
    (loadVar ty ⟨g, 0, none⟩).run P w = .ok (.agg (rowF m f)) w := by
  have hl : (loadCells ⟨g, 0, none⟩ (rowF m f).toList.length).run P w = .ok (rowF m f).toList.toArray w :=
    run_loadCells_list (P := P) w ⟨g, 0, none⟩ (rowF m f).toList (fun j v hv => by
      have hadd : (⟨g, 0, none⟩ : Addr).add j = ⟨g, j, none⟩ := by unfold Addr.add; split <;> simp_all
      have hj : j < m := by have := (List.getElem?_eq_some_iff.1 hv).1; simpa [rowF] using this
      rw [hadd, B.at (i := j) (by omega)]
      rw [← hv, Array.getElem?_toList, rowF_get hj])
  cases hq : P.info? ty with
  | none => simp [hq] at hi
  | some i =>
    have hs : i.size = m := by simpa [hq] using hi
    have hagg : (isAgg ty).run P w = .ok true w := by
      unfold isAgg
      rw [Sem.run_bind, run_underlying hu w]
      rfl
    simp only [Array.length_toList, Array.toArray_toList, rowF_size] at hl
    simp [loadVar, Sem.run_bind, hagg, sizeOf, typeInfo, hq, hs, hl]

variable {ops : Array Oper} {rest : List Oper} {o : Oper} {a : Act} {w : World} {Q : Exit → Act → World → Prop}
/-- The first cells of a block are read whole. -/
theorem wpList_load_part (ty : TypeId) (x : Operand) {g : Nat} {t : TypeId} {n m k : Nat} {e : TypeId} {f : Nat → Value} (B : Blk w g t (rowF n f)) (hm : m ≤ n) (hu : P.underlying ty = some (.array k e)) (hi : (P.info? ty).map (·.size) = some m)
    (hgd : o.guard = none) (ho : o.op = .load ty x) (hx : a.eval x = .pointer (some ⟨g, 0, none⟩))
    (h : wpList P ops Q rest (a.put o.dst (.agg (rowF m f))) w) : wpList P ops Q (o :: rest) a w := by
  refine wpList_plain hgd fun _ hK => ?_
  unfold Oper.wp execOp
  simp only [ho, hx, Instr.loadAt, Instr.sureAddr, Sem.run_bind, Sem.run_pure, Result.andThen_ok, run_loadVar_part w g t ty f B hm hu hi]
  exact hK _ _ h
/-- The first cells of a block are written whole. -/
theorem wpList_store_part (ty : TypeId) (x y : Operand) {g : Nat} {t : TypeId} {n m : Nat} {f h' : Nat → Value} (B : Blk w g t (rowF n f)) (hm : m ≤ n) (hi : (P.info? ty).map (·.size) = some m) (h1 : ∀ i, (h' i).oneCell' = true)
    (hgd : o.guard = none) (ho : o.op = .store ty x y) (hx : a.eval x = .pointer (some ⟨g, 0, none⟩)) (hy : a.eval y = .agg (rowF m h'))
    (h : wpList P ops Q rest (a.put o.dst undef) (w.setRow g (rowF n (fun i => if i < m then h' i else f i)))) : wpList P ops Q (o :: rest) a w := by
  refine wpList_plain hgd fun _ hK => ?_
  unfold Oper.wp execOp
  simp only [ho, hx, hy, Instr.storeAt, Instr.sureAddr, Sem.run_bind, Sem.run_pure, Result.andThen_ok, run_storeVar_part w g t ty f h' B hm hi h1]
  exact hK _ _ h
end

/-- 25 lanes, and what stands behind them. -/
def lanes (s : Nat → Int) (f : Nat → Value) (i : Nat) : Value := if i < 25 then .int .u64 (s i) else f i
theorem Blk.lane {w : World} {b n : Nat} {t : TypeId} {s : Nat → Int} {f : Nat → Value} (h : Blk w b t (rowF n (lanes s f))) (hn : 25 ≤ n) {i : Nat} (hi : i < 25) : w.cell? ⟨b, i, none⟩ = some (.int .u64 (s i)) := by
  have := h.at (i := i) (by omega)
  simpa [lanes, hi] using this
theorem Blk.setLane {w : World} {b n : Nat} {t : TypeId} {s s' : Nat → Int} {f : Nat → Value} (h : Blk w b t (rowF n (lanes s f))) (hn : 25 ≤ n) {i : Nat} (hi : i < 25) {x : Int} (hs : ∀ j, j < 25 → s' j = if j = i then x else s j) :
    Blk (w.setCell ⟨b, i, none⟩ (.int .u64 x)) b t (rowF n (lanes s' f)) := by
  refine h.set (by omega) fun j hj => ?_
  by_cases h25 : j < 25
  · simp only [lanes, h25, if_true, hs j h25]
    split <;> rfl
  · simp only [lanes, h25, if_false]
    rw [if_neg (by omega)]
theorem lanes_congr {n : Nat} {s s' : Nat → Int} {f : Nat → Value} (h : ∀ i, i < 25 → s i = s' i) : rowF n (lanes s f) = rowF n (lanes s' f) :=
  rowF_congr fun i _ => by
    by_cases h25 : i < 25
    · simp [lanes, h25, h i h25]
    · simp [lanes, h25]
theorem lanes_part {n : Nat} {s s' : Nat → Int} {f : Nat → Value} : rowF n (fun i => if i < 25 then Value.int .u64 (s' i) else lanes s f i) = rowF n (lanes s' f) :=
  rowF_congr fun i _ => by
    by_cases h25 : i < 25
    · simp [lanes, h25]
    · simp [lanes, h25]
theorem lanes_row {s : Nat → Int} {f : Nat → Value} : rowF 25 (lanes s f) = rowF 25 (fun i => .int .u64 (s i)) :=
  rowF_congr fun i hi => by simp [lanes, hi]
end Go.Proofs.Ytnajihlhcdedgaa
