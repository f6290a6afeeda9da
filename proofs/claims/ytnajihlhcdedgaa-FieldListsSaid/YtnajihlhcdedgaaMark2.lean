/-
  Marked slots, more: an operation that lays a block; an operation on what a mark stands for.
-/
import Derived.Test.YtnajihlhcdedgaaMark
namespace Go.Proofs.Ytnajihlhcdedgaa
open Go.RowKit
section
variable {P : Program} {a : Act} {w : World} {M : Means} {o : Oper}
/-- An operation of known operands that makes something. -/
theorem calmM_make (k : Nat) (hsel : noSel o = true) (hs : sane a o = true)
    (hr : ∀ w', Kept w w' → ∃ u w'', (execOp a.eval o).run P w' = .ok (.value u) w'' ∧ Kept w' w'' ∧ (M k).is u w'') : calmM M P o a w (.chan (some k)) := by
  intro a' w' hk hra
  have he : execOp a'.eval o = execOp a.eval o := execOp_congr o (noSel_spec hsel) (sane_eval hs hra)
  obtain ⟨u, w'', h1, h2, h3⟩ := hr w' hk
  rw [he, h1]
  exact ⟨h2, RelV.of h3⟩
/-- Is the slot among the operands? -/
def hasTmp (o : Oper) (t : Tmp) : Bool := o.op.operands.toList.any fun x => match x with | .tmp u => u == t | _ => false
theorem hasTmp_spec {t : Tmp} (h : hasTmp o t = true) : Operand.tmp t ∈ o.op.operands := by
  unfold hasTmp at h
  obtain ⟨x, hx, hh⟩ := List.any_eq_true.1 h
  cases x with
  | tmp u => have : u = t := by simpa using hh
             subst this; simpa using hx
  | _ => cases hh
/-- An operation on what a mark stands for. -/
theorem calmM_on {k : Nat} {t : Tmp} (ht : hasTmp o t = true) (hm : a.tmps.getD t undef = .chan (some k)) (v : Value) (hv : isMark v = false)
    (hc : ∀ (a' : Act) w', Kept w w' → (M k).is (a'.eval (.tmp t)) w' → (execOp a'.eval o).run P w' = .ok (.value v) w') : calmM M P o a w v := by
  intro a' w' hk hr
  have h2 : RelV M (.chan (some k)) (a'.eval (.tmp t)) w' := by rw [← hm]; exact hr t (hasTmp_spec ht)
  rw [hc a' w' hk h2.mark]
  exact ⟨Kept.refl _, RelV.same hv⟩
end
end Go.Proofs.Ytnajihlhcdedgaa
