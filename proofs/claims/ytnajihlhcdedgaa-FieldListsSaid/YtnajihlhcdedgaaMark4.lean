/-
  Marked slots: the walk of the head behind a word that nothing lays open.
-/
import Derived.Test.YtnajihlhcdedgaaMark3
namespace Go.Proofs.Ytnajihlhcdedgaa
open Go.RowKit
set_option linter.unusedVariables false

/-- The head's walk; the marks begin at k0. -/
structure WM (k0 : Nat) (M : Means) (P : Program) (ops : Array Oper) (w : World) (Q : Act → Prop) (l : List Oper) (a : Act) : Prop where
  of :: out : wpCalmM (shift k0 M) P ops w Q l a

section
variable {P : Program} {Q : Exit → Act → World → Prop} {a : Act} {w : World} {l : List Oper} {id : Nat}
/-- A REGION WHOSE ORDER IS DRAWN: one walk of the head (k operations); then the tail. -/
theorem wp_region_wm (M : Means) (k : Nat) (hm : P.follows .mixedOrders = true) (hB : calmB l.toArray k 0 = true)
    (h : ∀ k0, WM k0 M P l.toArray w (fun a' => ∀ a'' w', Kept w w' → RelB (shift k0 M) (dstsOf (l.take k)) a' a'' w' → wpList P l.toArray Q (l.drop k) a'' w') (l.take k) a) : (Code.region id l.toArray true).wp P Q a w :=
  wp_region_marks_in M k hm hB fun k0 => (h k0).out
end
section
variable {P : Program} {ops : Array Oper} {M : Means} {w : World} {a : Act} {o : Oper} {rest : List Oper} {Lq : Act → Prop} {k0 : Nat}
theorem WM.nil (h : Lq a) : WM k0 M P ops w Lq [] a := ⟨marks_nil h⟩
theorem WM.skip (hw : Region.wanted o (yielded ops a.tmps) = false) (h : WM k0 M P ops w Lq rest (a.put o.dst undef)) : WM k0 M P ops w Lq (o :: rest) a := ⟨marks_skip hw h.out⟩
theorem WM.step (v : Value) (hw : Region.wanted o (yielded ops a.tmps) = true) (hc : calmM (shift k0 M) P o a w v) (h : WM k0 M P ops w Lq rest (a.put o.dst v)) : WM k0 M P ops w Lq (o :: rest) a := ⟨marks_step v hw hc h.out⟩
theorem WM.ex (hw : Region.wanted o (yielded ops a.tmps) = true) (hsel : noSel o = true) (hs : sane a o = true)
    (h : ∃ v, (∀ w', Kept w w' → (execOp a.eval o).run P w' = .ok (.value v) w') ∧ isMark v = false ∧ WM k0 M P ops w Lq rest (a.put o.dst v)) : WM k0 M P ops w Lq (o :: rest) a := by
  obtain ⟨v, h1, h2, h3⟩ := h
  exact ⟨marks_ex hw hsel hs ⟨v, h1, h2, h3.out⟩⟩
/-- A call whose result is known. -/
theorem WM.call {v : Value} {f : FuncId} {args : Array Value} (hw : Region.wanted o (yielded ops a.tmps) = true) (hsel : noSel o = true) (hs : sane a o = true) (hv : isMark v = false) (hp : Pure P f args v)
    (hr : ∀ w', (execOp a.eval o).run P w' = .ok (.enter f args) w') (h : WM k0 M P ops w Lq rest (a.put o.dst v)) : WM k0 M P ops w Lq (o :: rest) a := ⟨marks_call hw hsel hs hv hp hr h.out⟩
/-- A call whose result is known, by a contract in every later world. -/
theorem WM.callAt {v : Value} {f : FuncId} {args : Array Value} (hw : Region.wanted o (yielded ops a.tmps) = true) (hsel : noSel o = true) (hs : sane a o = true) (hv : isMark v = false)
    (hp : ∀ w', Kept w w' → Calls P f args w' fun e w'' => e = .returned v ∧ Kept w' w'')
    (hr : ∀ w', (execOp a.eval o).run P w' = .ok (.enter f args) w') (h : WM k0 M P ops w Lq rest (a.put o.dst v)) : WM k0 M P ops w Lq (o :: rest) a := ⟨marks_call_at hw hsel hs hv hp hr h.out⟩
/-- A call whose result is a mark. -/
theorem WM.make (k : Nat) {f : FuncId} {args : Array Value} {R : Value → World → Prop} (hw : Region.wanted o (yielded ops a.tmps) = true) (hsel : noSel o = true) (hs : sane a o = true) (hp : Makes P f args R)
    (hR : ∀ v w', R v w' → (M k).is v w')
    (hr : ∀ w', (execOp a.eval o).run P w' = .ok (.enter f args) w') (h : WM k0 M P ops w Lq rest (a.put o.dst (.chan (some (k0 + k))))) : WM k0 M P ops w Lq (o :: rest) a := ⟨marks_make_in k hw hsel hs hp hR hr h.out⟩
/-- A call whose result is a mark, by a contract in every later world. -/
theorem WM.makeAt (k : Nat) {f : FuncId} {args : Array Value} (hw : Region.wanted o (yielded ops a.tmps) = true) (hsel : noSel o = true) (hs : sane a o = true)
    (hp : ∀ w', Kept w w' → Calls P f args w' fun e w'' => ∃ v, e = .returned v ∧ (M k).is v w'' ∧ Kept w' w'')
    (hr : ∀ w', (execOp a.eval o).run P w' = .ok (.enter f args) w') (h : WM k0 M P ops w Lq rest (a.put o.dst (.chan (some (k0 + k))))) : WM k0 M P ops w Lq (o :: rest) a := ⟨marks_make_at k hw hsel hs hp hr h.out⟩
/-- An operation of known operands that makes something. -/
theorem WM.lay (k : Nat) (hw : Region.wanted o (yielded ops a.tmps) = true) (hsel : noSel o = true) (hs : sane a o = true)
    (hr : ∀ w', Kept w w' → ∃ u w'', (execOp a.eval o).run P w' = .ok (.value u) w'' ∧ Kept w' w'' ∧ (M k).is u w'')
    (h : WM k0 M P ops w Lq rest (a.put o.dst (.chan (some (k0 + k))))) : WM k0 M P ops w Lq (o :: rest) a := ⟨marks_lay k hw hsel hs hr h.out⟩
/-- An operation on what a mark stands for. -/
theorem WM.on (k t : Nat) (v : Value) (hw : Region.wanted o (yielded ops a.tmps) = true) (ht : hasTmp o t = true) (hm : a.tmps.getD t undef = .chan (some (k0 + k))) (hv : isMark v = false)
    (hc : ∀ (a' : Act) w', Kept w w' → (M k).is (a'.eval (.tmp t)) w' → (execOp a'.eval o).run P w' = .ok (.value v) w')
    (h : WM k0 M P ops w Lq rest (a.put o.dst v)) : WM k0 M P ops w Lq (o :: rest) a := ⟨marks_on k t v hw ht hm hv hc h.out⟩
/-- A conversion of what a mark stands for. -/
theorem WM.conv (k t : Nat) {src dst : TypeId} (v : Value) (hw : Region.wanted o (yielded ops a.tmps) = true) (ho : o.op = .convert src dst (.tmp t)) (hm : a.tmps.getD t undef = .chan (some (k0 + k))) (hv : isMark v = false)
    (hc : ∀ u w', (M k).is u w' → (convert src dst u).run P w' = .ok v w')
    (h : WM k0 M P ops w Lq rest (a.put o.dst v)) : WM k0 M P ops w Lq (o :: rest) a := ⟨marks_conv k t v hw ho hm hv hc h.out⟩
end
end Go.Proofs.Ytnajihlhcdedgaa
