/-
  Appends from a block, and what a change of one block leaves.
-/
import Derived.Test.YtnajihlhcdedgaaK1
import Derived.Test.YtnajihlhcdedgaaOwn
import Derived.Test.YtnajihlhcdedgaaMark2
namespace Go.Proofs.Ytnajihlhcdedgaa
open Go.RowKit
set_option linter.unusedVariables false

theorem Touch.grown {b : Nat} {w wr w1 : World} {v : Value} {base n size : Nat} {e : TypeId} {xs : List Value} (hk : Touch b w wr) (hown : wr.ownsRow base e size v n xs) (hg : wr.grownBy w1 v.ownBlock) (hb : w.heap.size ≤ base) : Touch b w w1 :=
  ⟨hg.os.trans hk.os, hg.tape.trans hk.tape, hg.output.trans hk.output, Nat.le_trans hk.size hg.size, fun i hi hne => by
    rw [hg.block i (Nat.lt_of_lt_of_le hi hk.size) ?_]
    · exact hk.block i hi hne
    · intro he
      have := (hown.lt i he.symm).1
      omega⟩
theorem ownsRow_touch {b : Nat} {w w' : World} {base : Nat} {e : TypeId} {size : Nat} {v : Value} {n : Nat} {xs : List Value} (h : w.ownsRow base e size v n xs) (hk : Touch b w w') (hb : b < base) : w'.ownsRow base e size v n xs := by
  refine ⟨h.1, ?_⟩
  rcases h.2 with h2 | ⟨g, cap, cur, h1, h2, h3, h4⟩
  · exact .inl h2
  · refine .inr ⟨g, cap, cur, h1, h2, ?_, h4⟩
    rw [hk.block g (Array.getElem?_eq_some_iff.1 h3).1 (by omega)]
    exact h3

theorem ownsRow_slice {w : World} {base : Nat} {e : TypeId} {size : Nat} {v : Value} {n : Nat} {xs : List Value} (h : w.ownsRow base e size v n xs) : ∃ a k c, v = .slice a k c := by
  rcases h.2 with ⟨rfl, _⟩ | ⟨g, cap, cur, rfl, _⟩ <;> exact ⟨_, _, _, rfl⟩
theorem ownsRow_base {w : World} {base base' : Nat} {e : TypeId} {size : Nat} {v : Value} {n : Nat} {xs : List Value} (h : w.ownsRow base e size v n xs) (hb : base' ≤ base) : w.ownsRow base' e size v n xs := by
  refine ⟨h.1, ?_⟩
  rcases h.2 with h2 | ⟨g, cap, cur, h1, h2, h3⟩
  · exact .inl h2
  · exact .inr ⟨g, cap, cur, h1, Nat.le_trans hb h2, h3⟩
section
variable {P : Program}
/-- ELEMENTS APPENDED: they lie in a block. -/
theorem wpList_append_at {wr : World} {ops : Array Oper} {rest : List Oper} {o : Oper} {a : Act} {Q : Exit → Act → World → Prop} (t e : TypeId) {z : Value} {size bytes : Nat}
    (hinfo : (P.info? e).map (fun i => (i.zero, i.size, i.bytes)) = some (some z, size, bytes)) (ht : P.underlying t = some (.slice e)) (hzs : z.cells.size = size) (hsz : 0 < size)
    {base : Nat} {v : Value} {n : Nat} {xs : List Value} (hown : wr.ownsRow base e size v n xs) (b off m c : Nat) (news : List Value) (hl : news.length = m * size) (h1 : ∀ u ∈ news, u.oneCell' = true)
    (hc : ∀ j u, news[j]? = some u → wr.cell? ⟨b, off + j, none⟩ = some u)
    (hn : (n + m) * bytes ≤ 140737488355328) (hb0 : 0 < bytes) (hm0 : 0 < m) (hbase : base ≤ wr.heap.size)
    (s x : Operand) (hgd : o.guard = none) (ho : o.op = .call { callee := .builtin .append, args := #[s, x], argTypes := #[t, t] })
    (hs : a.eval s = v) (hx : a.eval x = .slice (some ⟨b, off, none⟩) m c)
    (h : ∀ v' w', w'.ownsRow base e size v' (n + m) (xs ++ news) → wr.grownBy w' v.ownBlock → v'.ownBlock ≠ none → wpList P ops Q rest (a.put o.dst v') w') :
    wpList P ops Q (o :: rest) a wr := by
  obtain ⟨i, hi, hz0, hz1, hz2⟩ := info_parts hinfo
  have hnm : (n + m) ≤ 140737488355328 := Nat.le_trans (Nat.le_mul_of_pos_right _ hb0) hn
  refine wpList_append_own _ hgd s x t ho base e i z size bytes ht hi hz0 hz1 hz2 hzs hsz v n xs hs hown ⟨b, off, none⟩ m c news hx hl ?_ h1 (by unfold maxLen; omega) hn hbase ?_
  · intro j u hj
    have hadd : (⟨b, off, none⟩ : Addr).add j = ⟨b, off + j, none⟩ := by rw [Addr.add_lit]
    rw [hadd]
    exact hc j u hj
  · intro v' w1 h2 h3 h4
    refine h v' w1 h2 h3 ?_
    intro he
    rcases h2.2 with ⟨h5, h6⟩ | ⟨g, cap, cur, h5, _⟩
    · omega
    · rw [h5] at he; cases he
end

/-- A slice of one element in a block that was just laid. -/
def isOne (t : TypeId) (cs : Array Value) (v : Value) (w : World) : Prop := ∃ b, v = .slice (some ⟨b, 0, none⟩) 1 1 ∧ Blk w b t cs
def oneMean (t : TypeId) (cs : Array Value) : Mean := ⟨isOne t cs, fun v w w' ⟨b, h1, h2⟩ hk => ⟨b, h1, h2.kept hk⟩, fun b w h => by obtain ⟨_, h, _⟩ := h; cases h⟩
end Go.Proofs.Ytnajihlhcdedgaa
