/-
  What changes and what stays, by blocks; a map of strings known whole; strings and bytes.
-/
import Derived.Test.YtnajihlhcdedgaaZf
import Derived.Test.YtnajihlhcdedgaaZa
import Derived.Test.YtnajihlhcdedgaaZb
import Derived.Lib.AppendStr
import Derived.Laws.AppendOwnNone
import Derived.Maps.AppendAt
import Derived.MapFrom
namespace Go.Proofs.Ytnajihlhcdedgaa
open Go.RowKit
set_option linter.unusedVariables false

/-- All older blocks but those of S are as they were. -/
structure Chg (S : Nat → Prop) (w w' : World) : Prop where
  os : w'.os = w.os
  tape : w'.tape = w.tape
  output : w'.output = w.output
  size : w.heap.size ≤ w'.heap.size
  block : ∀ i, i < w.heap.size → ¬ S i → w'.heap[i]? = w.heap[i]?
section
variable {S T : Nat → Prop} {w w' w'' : World}
theorem Chg.refl (S : Nat → Prop) (w : World) : Chg S w w := ⟨rfl, rfl, rfl, Nat.le_refl _, fun _ _ _ => rfl⟩
theorem Chg.of_kept (k : Kept w w') : Chg S w w' := ⟨k.os, k.tape, k.output, k.size, fun i hi _ => Below.block k i hi⟩
theorem Chg.of_touch {b : Nat} (k : Touch b w w') (hb : S b) : Chg S w w' := ⟨k.os, k.tape, k.output, k.size, fun i hi hn => k.block i hi fun h => hn (h ▸ hb)⟩
theorem Chg.trans (h : Chg S w w') (k : Chg T w' w'') (hT : ∀ i, i < w.heap.size → T i → S i) : Chg S w w'' :=
  ⟨k.os.trans h.os, k.tape.trans h.tape, k.output.trans h.output, Nat.le_trans h.size k.size, fun i hi hn => (k.block i (Nat.lt_of_lt_of_le hi h.size) fun ht => hn (hT i hi ht)).trans (h.block i hi hn)⟩
theorem Chg.trans_kept (h : Chg S w w') (k : Kept w' w'') : Chg S w w'' := h.trans (T := fun _ => False) (.of_kept k) fun _ _ hf => hf.elim
theorem Chg.mono (h : Chg S w w') (hS : ∀ i, i < w.heap.size → S i → T i) : Chg T w w' := ⟨h.os, h.tape, h.output, h.size, fun i hi hn => h.block i hi fun hs => hn (hS i hi hs)⟩
theorem Chg.kept (h : Chg S w w') (hS : ∀ i, i < w.heap.size → ¬ S i) : Kept w w' := ⟨h.os, h.tape, h.output, h.size, fun i hi => h.block i hi (hS i hi)⟩
theorem Chg.heap (h : Chg S w w') {b : Nat} {o : Obj} (hb : w.heap[b]? = some o) (hn : ¬ S b) : w'.heap[b]? = some o := by
  rw [h.block b (Array.getElem?_eq_some_iff.1 hb).1 hn]
  exact hb
theorem Chg.blk (h : Chg S w w') {b : Nat} {t : TypeId} {cs : Array Value} (B : Blk w b t cs) (hn : ¬ S b) : Blk w' b t cs := Blk.of (h.heap B.heap hn)
theorem Chg.cell (h : Chg S w w') {p : Addr} {v : Value} (hc : w.cell? p = some v) (hn : ¬ S p.block) : w'.cell? p = some v := by
  have hlt := block_lt_of_cell hc
  unfold World.cell? at hc ⊢
  rw [h.block p.block hlt hn]
  exact hc
theorem Chg.frozen (h : Chg S w w') {p : Addr} (hlt : p.block < w.heap.size) (hn : ¬ S p.block) : w'.frozen? p = w.frozen? p := by
  unfold World.frozen?
  rw [h.block p.block hlt hn]
theorem Chg.own (h : Chg S w w') {base : Nat} {e : TypeId} {size : Nat} {v : Value} {n : Nat} {xs : List Value} (ho : w.ownsRow base e size v n xs) (hn : ∀ g, v.ownBlock = some g → ¬ S g) : w'.ownsRow base e size v n xs := by
  refine ⟨ho.1, ?_⟩
  rcases ho.2 with h2 | ⟨g, cap, cur, h1, h2, h3, h4⟩
  · exact .inl h2
  · exact .inr ⟨g, cap, cur, h1, h2, h.heap h3 (hn g (by rw [h1]; rfl)), h4⟩
theorem Chg.slB (h : Chg S w w') {a : Option Addr} {n cap N : Nat} {C : Nat → Int} (hs : SlB w a n cap N C) (hn : ∀ i, i < N → ¬ S i) : SlB w' a n cap N C :=
  ⟨fun j hj => let ⟨p, h1, h2, h3⟩ := hs.at' j hj; ⟨p, h1, h.cell h2 (hn _ h3), h3⟩, hs.byte⟩
theorem Chg.setCell (h : Chg S w w') {b i : Nat} (hb : S b ∨ w.heap.size ≤ b) (v : Value) : Chg S w (w'.setCell ⟨b, i, none⟩ v) := by
  have k := Touch.set b w' i v
  refine ⟨k.os.trans h.os, k.tape.trans h.tape, k.output.trans h.output, Nat.le_trans h.size k.size, fun j hj hn => (k.block j (Nat.lt_of_lt_of_le hj h.size) fun he => ?_).trans (h.block j hj hn)⟩
  subst he
  rcases hb with hb | hb
  · exact hn hb
  · omega
theorem Chg.alloc (h : Chg S w w') (o : Obj) : Chg S w (w'.alloc o) := h.trans_kept ((Kept.refl w').alloc o)
theorem Chg.drew (h : Chg S w w') : Chg S w w'.drew := h.trans_kept ((Kept.refl w').drew)
theorem Chg.grown (h : Chg S w w') {r : Option Nat} (hg : w'.grownBy w'' r) (hr : ∀ g, r = some g → S g ∨ w.heap.size ≤ g) : Chg S w w'' :=
  ⟨hg.os.trans h.os, hg.tape.trans h.tape, hg.output.trans h.output, Nat.le_trans h.size hg.size, fun i hi hn => (hg.block i (Nat.lt_of_lt_of_le hi h.size) fun he => by
    rcases hr i he.symm with hs | hs
    · exact hn hs
    · omega).trans (h.block i hi hn)⟩
theorem Chg.below (h : Chg S w w') {N : Nat} (hN : N ≤ w.heap.size) (hS : ∀ i, i < N → ¬ S i) : Below N w w' := ⟨h.os, h.tape, h.output, h.size, fun i hi => h.block i (Nat.lt_of_lt_of_le hi hN) (hS i hi)⟩
end
theorem chg_grown {w w' : World} {v : Value} (hg : w.grownBy w' v.ownBlock) : Chg (fun i => v.ownBlock = some i) w w' := ⟨hg.os, hg.tape, hg.output, hg.size, fun i hi hn => hg.block i hi fun h => hn h.symm⟩
theorem chg_set (w : World) (b i : Nat) (v : Value) : Chg (fun j => j = b) w (w.setCell ⟨b, i, none⟩ v) := (Chg.refl (fun j => j = b) w).setCell (.inl rfl) v
theorem own_lt {w : World} {base : Nat} {e : TypeId} {size : Nat} {v : Value} {n : Nat} {xs : List Value} (h : w.ownsRow base e size v n xs) {g : Nat} (hg : v.ownBlock = some g) : base ≤ g ∧ g < w.heap.size := h.lt g hg

/-! ### A map -/
/-- The world in which block M is o. -/
def putMap (w : World) (M : Nat) (o : Obj) : World := { w with heap := w.heap.setIfInBounds M o }
theorem putMap_size (w : World) (M : Nat) (o : Obj) : (putMap w M o).heap.size = w.heap.size := by simp [putMap]
theorem putMap_at (w : World) {M : Nat} (o : Obj) (h : M < w.heap.size) : (putMap w M o).heap[M]? = some o := by simp [putMap, h]
theorem chg_putMap (w : World) (M : Nat) (o : Obj) : Chg (fun j => j = M) w (putMap w M o) :=
  ⟨rfl, rfl, rfl, by rw [putMap_size]; exact Nat.le_refl _, fun i hi hn => by
    have : ¬ M = i := fun h => hn h.symm
    simp [putMap, this]⟩
theorem zero42 (w : World) : (zeroValue 42).run Try.prog w = .ok (.slice none 0 0) w := by kernel_rfl
theorem run_checkKey9 (b : Bool) (q : ByteArray) (w : World) : (Instr.checkKey b 10000 9 (.string q)).run Try.prog w = .ok () w := by
  have h : ∀ n, (Instr.checkKey b (n + 1) 9 (.string q)).run Try.prog w = .ok () w := fun n => by simp [Instr.checkKey, run_underlying Try.underlying9]
  exact h 9999
/-- m[q], m[q] with ok: of a map known whole. -/
theorem run_lookup_yes {w : World} {M : Nat} {es : Array MapEntry} {ck : Nat} {q : ByteArray} (h : w.heap[M]? = some (.map es ck)) {i : Nat} {v : Value} (hf : Instr.findNow .string (.string q) es.toList 0 = some (some (i, v))) :
    (Instr.lookup 141 (.map (some M)) (.string q) false).run Try.prog w = .ok v w := by
  simp [Instr.lookup, run_underlying Try.underlying141, run_underlying Try.underlying9, MapKept.run_getObj_map h, run_checkKey9, Instr.findKey, hf]
theorem run_lookup_yes_ok {w : World} {M : Nat} {es : Array MapEntry} {ck : Nat} {q : ByteArray} (h : w.heap[M]? = some (.map es ck)) {i : Nat} {v : Value} (hf : Instr.findNow .string (.string q) es.toList 0 = some (some (i, v))) :
    (Instr.lookup 141 (.map (some M)) (.string q) true).run Try.prog w = .ok (.tuple #[v, .bool true]) w := by
  simp [Instr.lookup, run_underlying Try.underlying141, run_underlying Try.underlying9, MapKept.run_getObj_map h, run_checkKey9, Instr.findKey, hf]
theorem run_lookup_no_ok {w : World} {M : Nat} {es : Array MapEntry} {ck : Nat} {q : ByteArray} (h : w.heap[M]? = some (.map es ck)) (hf : Instr.findNow .string (.string q) es.toList 0 = some none) :
    (Instr.lookup 141 (.map (some M)) (.string q) true).run Try.prog w = .ok (.tuple #[.slice none 0 0, .bool false]) w := by
  simp [Instr.lookup, run_underlying Try.underlying141, run_underlying Try.underlying9, MapKept.run_getObj_map h, run_checkKey9, Instr.findKey, hf]
theorem run_putNew {w : World} {M : Nat} {es : Array MapEntry} {ck : Nat} {q : ByteArray} {v : Value} (h : w.heap[M]? = some (.map es ck)) (hf : Instr.findNow .string (.string q) es.toList 0 = some none) :
    (Instr.mapUpdate 141 (.map (some M)) (.string q) v).run Try.prog w = .ok () (putMap w M (.map (es.push { key := .string q, val := v, born := ck }) (ck + 1))) := by
  simp [Instr.mapUpdate, run_underlying Try.underlying141, run_underlying Try.underlying9, MapKept.run_getObj_map h, run_checkKey9, Instr.findKey, hf, MapKept.run_setObj_map _ h, putMap]
theorem run_putOld {w : World} {M : Nat} {es : Array MapEntry} {ck : Nat} {q : ByteArray} {v u : Value} {i : Nat} {e : MapEntry} (h : w.heap[M]? = some (.map es ck)) (hf : Instr.findNow .string (.string q) es.toList 0 = some (some (i, u))) (he : es[i]? = some e) (hk : e.key = .string q) :
    (Instr.mapUpdate 141 (.map (some M)) (.string q) v).run Try.prog w = .ok () (putMap w M (.map (es.modify i fun e => { e with key := .string q, val := v }) ck)) := by
  simp [Instr.mapUpdate, run_underlying Try.underlying141, run_underlying Try.underlying9, MapKept.run_getObj_map h, run_checkKey9, Instr.findKey, hf, MapKept.run_setObj_map _ h, putMap, he, hk, Instr.keyThatStays, Instr.sameBits, (MapKept.bytes_beq q q).2 rfl]
end Go.Proofs.Ytnajihlhcdedgaa
