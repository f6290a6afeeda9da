/-
  Slices: what a slice reads as; one element appended to a slice of the call's own.
-/
import Derived.Test.YtnajihlhcdedgaaRows
import Derived.Test.YtnajihlhcdedgaaBlk
import Derived.OwnWalk
import Derived.WalkKit
import Derived.Laws.IdiomStrings
namespace Go.Proofs.Ytnajihlhcdedgaa
open Go.RowKit
set_option linter.unusedVariables false

/-- A slice reads as xs (elements of one cell). -/
def Reads (w : World) (v : Value) (xs : List Value) : Prop :=
  (v = .slice none 0 0 ∧ xs = []) ∨ ∃ b o cap, v = .slice (some ⟨b, o, none⟩) xs.length cap ∧ xs.length ≤ cap ∧ ∀ j u, xs[j]? = some u → w.cell? ⟨b, o + j, none⟩ = some u

theorem Reads.kept {w w' : World} {v : Value} {xs : List Value} (h : Reads w v xs) (hk : Kept w w') : Reads w' v xs := by
  rcases h with h | ⟨b, o, cap, h1, h2, h3⟩
  · exact .inl h
  · exact .inr ⟨b, o, cap, h1, h2, fun j u hj => hk.cell (h3 j u hj)⟩

theorem ownsRow_kept {w w' : World} {base : Nat} {e : TypeId} {size : Nat} {v : Value} {n : Nat} {xs : List Value} (h : w.ownsRow base e size v n xs) (hk : Kept w w') : w'.ownsRow base e size v n xs := by
  refine ⟨h.1, ?_⟩
  rcases h.2 with h2 | ⟨g, cap, cur, h1, h2, h3, h4⟩
  · exact .inl h2
  · exact .inr ⟨g, cap, cur, h1, h2, hk.block h3, h4⟩

theorem reads_of_own {w : World} {base : Nat} {e : TypeId} {v : Value} {n : Nat} {xs : List Value} (h : w.ownsRow base e 1 v n xs) : Reads w v xs := by
  have hl := h.1
  rcases h.2 with ⟨rfl, rfl⟩ | ⟨g, cap, cur, rfl, hb, hg, hc, _, hs, ht⟩
  · exact .inl ⟨rfl, List.eq_nil_of_length_eq_zero (by simpa using hl)⟩
  · have hn : xs.length = n := by omega
    subst hn
    refine .inr ⟨g, 0, cap, rfl, hc, fun j u hj => ?_⟩
    have := h.cells (g := g) rfl j u hj
    have hadd : (⟨g, 0, none⟩ : Addr).add j = ⟨g, 0 + j, none⟩ := by rw [Addr.add_lit]
    rwa [hadd] at this

section
variable {P : Program}
/-- ONE ELEMENT APPENDED: it lies in a block that was just made. -/
theorem wpList_append_one {wr : World} {ops : Array Oper} {rest : List Oper} {o : Oper} {a : Act} {Q : Exit → Act → World → Prop} (t e : TypeId) {z : Value} {size bytes : Nat}
    (hinfo : (P.info? e).map (fun i => (i.zero, i.size, i.bytes)) = some (some z, size, bytes)) (ht : P.underlying t = some (.slice e)) (hzs : z.cells.size = size) (hsz : 0 < size)
    {base : Nat} {v : Value} {n : Nat} {xs : List Value} (hown : wr.ownsRow base e size v n xs) (news : List Value) (hl : news.length = size) (h1 : ∀ u ∈ news, u.oneCell' = true)
    (hn : (n + 1) * bytes ≤ 140737488355328) (hb0 : 0 < bytes) (hbase : base ≤ wr.heap.size)
    (s x : Operand) (hgd : o.guard = none) (ho : o.op = .call { callee := .builtin .append, args := #[s, x], argTypes := #[t, t] })
    (hs : a.eval s = v) (hx : a.eval x = .slice (some ⟨wr.heap.size, 0, none⟩) 1 1)
    (h : ∀ v' w', w'.ownsRow base e size v' (n + 1) (xs ++ news) → wr.grownBy w' v.ownBlock → v'.ownBlock ≠ none → wpList P ops Q rest (a.put o.dst v') w') :
    wpList P ops Q (o :: rest) a (wr.alloc (.cells news.toArray e)) := by
  obtain ⟨i, hi, hz0, hz1, hz2⟩ := info_parts hinfo
  have hnm : (n + 1) ≤ 140737488355328 := Nat.le_trans (Nat.le_mul_of_pos_right _ hb0) hn
  refine wpList_append_own _ hgd s x t ho base e i z size bytes ht hi hz0 hz1 hz2 hzs hsz v n xs hs (hown.alloc _) ⟨wr.heap.size, 0, none⟩ 1 1 news hx (by omega) ?_ h1 (by unfold maxLen; omega) hn (by simp; omega) ?_
  · intro j u hj
    have hadd : (⟨wr.heap.size, 0, none⟩ : Addr).add j = ⟨wr.heap.size, j, none⟩ := by rw [Addr.add_lit]; simp
    rw [hadd, World.cell?_alloc_at _ _ _ _ rfl]
    simpa using hj
  · intro v' w1 h2 h3 h4
    refine h v' w1 h2 ⟨h3.os, h3.tape, h3.output, Nat.le_trans (by simp) h3.size, fun k hk hne => ?_⟩ ?_
    · rw [h3.block k (by simp; omega) hne]
      exact heap_alloc_old wr _ hk
    · intro he
      rcases h2.2 with ⟨h5, h6⟩ | ⟨g, cap, cur, h5, _⟩
      · omega
      · rw [h5] at he; cases he
end

theorem grown_kept {w wr w1 : World} {v : Value} {base n size : Nat} {e : TypeId} {xs : List Value} (hk : Kept w wr) (hown : wr.ownsRow base e size v n xs) (hg : wr.grownBy w1 v.ownBlock) (hb : w.heap.size ≤ base) : Kept w w1 :=
  Below.grown hk hg hk.size fun k h => Nat.le_trans hb (hown.lt k h).1
theorem grown_blk {wr w1 : World} {v : Value} {base n size b : Nat} {e t : TypeId} {xs : List Value} {cs : Array Value} (hB : Blk wr b t cs) (hown : wr.ownsRow base e size v n xs) (hg : wr.grownBy w1 v.ownBlock) (hb : b < base) : Blk w1 b t cs := by
  refine Blk.of ?_
  rw [hg.block b hB.lt ?_]
  · exact hB.heap
  · intro he
    have := (hown.lt b he.symm).1
    omega

/-- Bytes as a string. -/
def strOf (bs : List Int) : ByteArray := ⟨(bs.map fun b => UInt8.ofNat b.toNat).toArray⟩
theorem conv_str {P : Program} {src dst e : TypeId} (hs : P.underlying src = some (.slice e)) (he : P.underlying e = some (.int .u8)) (hd : P.underlying dst = some .string) (w : World) {b o cap : Nat} {bs : List Int} (hb : ∀ x ∈ bs, 0 ≤ x ∧ x ≤ 255)
    (hc : ∀ j, j < bs.length → w.cell? ⟨b, o + j, none⟩ = some (.int .u8 (bs.getD j 0))) :
    (convert src dst (.slice (some ⟨b, o, none⟩) bs.length cap)).run P w = .ok (.string (strOf bs)) w := by
  have h := run_convert_bytes_back (P := P) w src dst e ⟨b, o, none⟩ cap (bs.map fun b => UInt8.ofNat b.toNat) hs he hd (by
    intro j hj
    have hj' : j < bs.length := by simpa using hj
    have hadd : (⟨b, o, none⟩ : Addr).add j = ⟨b, o + j, none⟩ := by rw [Addr.add_lit]
    rw [hadd, hc j hj']
    have := hb bs[j] (List.getElem_mem hj')
    rw [List.getD_eq_getElem?_getD, List.getElem?_eq_getElem hj']
    simp only [List.getElem_map, Option.getD_some, UInt8.toNat_ofNat']
    congr 2
    omega)
  rw [List.length_map] at h
  exact h

theorem info5 : (Try.prog.info? 5).map (fun i => (i.zero, i.size, i.bytes)) = some (some (.int .u8 0), 1, 1) := by kernel_rfl
end Go.Proofs.Ytnajihlhcdedgaa
