/-
  A drawn region's head, walked over the list of its slots: for regions of many operations.
-/
import Derived.Test.YtnajihlhcdedgaaMark4
namespace Go.Proofs.Ytnajihlhcdedgaa
open Go.RowKit
set_option linter.unusedVariables false

/-- Is the operation wanted? D: where the operations' results go; ts: the slots. -/
def wantedL (D : List (Option Tmp)) (ts : List Value) (o : Oper) : Bool :=
  match o.guard with
  | none => true
  | some (j, b) => (match ((D[j]?).bind id).bind (ts[·]?) with | some (.bool c) => some c | _ => none) == some b
theorem wanted_L {ops : Array Oper} {D : List (Option Tmp)} (hD : ops.toList.map (·.dst) = D) (ts : List Value) (o : Oper) : Region.wanted o (yielded ops ts.toArray) = wantedL D ts o := by
  unfold Region.wanted wantedL
  cases o.guard with
  | none => rfl
  | some g =>
    obtain ⟨j, b⟩ := g
    have e : (ops[j]?).bind (·.dst) = (D[j]?).bind id := by
      rw [← hD, List.getElem?_map, Array.getElem?_toList]
      cases ops[j]? <;> rfl
    simp only [yielded, e, List.getElem?_toArray]
    rfl
def saneL (ts : List Value) (o : Oper) : Bool := o.op.operands.all fun x => match x with | .tmp t => !isMark (ts.getD t undef) | _ => true
theorem getD_toArray (ts : List Value) (t : Nat) : ts.toArray.getD t undef = ts.getD t undef := by
  simp [Array.getD_eq_getD_getElem?]
theorem sane_L {ts : List Value} {d : List Deferred} {o : Oper} (h : saneL ts o = true) : sane ⟨ts.toArray, d⟩ o = true := by
  unfold sane
  unfold saneL at h
  rw [← h]
  congr 1
  funext x
  cases x <;> simp only [saneAt, getD_toArray]
theorem put_L (ts : List Value) (d : List Deferred) {o : Oper} {t : Tmp} (hd : o.dst = some t) (v : Value) : (⟨ts.toArray, d⟩ : Act).put o.dst v = ⟨(ts.set t v).toArray, d⟩ := by
  rw [hd]
  simp only [Act.put, List.setIfInBounds_toArray]

/-- The head's walk over the slots. -/
structure WL (k0 : Nat) (M : Means) (P : Program) (D : List (Option Tmp)) (w : World) (Q : Act → Prop) (l : List Oper) (ts : List Value) (d : List Deferred) : Prop where
  of :: out : ∀ ops : Array Oper, ops.toList.map (·.dst) = D → wpCalmM (shift k0 M) P ops w Q l ⟨ts.toArray, d⟩

section
variable {P : Program} {Q : Exit → Act → World → Prop} {w : World} {l : List Oper} {id : Nat} {ts : List Value} {d : List Deferred}
/-- A REGION WHOSE ORDER IS DRAWN: one walk of the head (k operations); then the tail. -/
theorem wp_region_wl (M : Means) (k : Nat) (hm : P.follows .mixedOrders = true) (hB : calmB l.toArray k 0 = true) (D : List (Option Tmp)) (hD : l.map (·.dst) = D) (is : List Nat) (his : dstsOf (l.take k) = is) (l1 l2 : List Oper) (h1 : l.take k = l1) (h2 : l.drop k = l2)
    (h : ∀ k0 (Lq : Act → Prop), (∀ a', (∀ a'' w', Kept w w' → RelB (shift k0 M) is a' a'' w' → wpList P l.toArray Q l2 a'' w') → Lq a') → WL k0 M P D w Lq l1 ts d) : (Code.region id l.toArray true).wp P Q ⟨ts.toArray, d⟩ w :=
  wp_region_marks_in M k hm hB fun k0 => by
    rw [h1, h2]
    rw [h1] at his
    exact (h k0 _ fun a' ha a'' w' hk hr => ha a'' w' hk (his ▸ hr)).out _ (by simpa using hD)
end
section
variable {P : Program} {D : List (Option Tmp)} {M : Means} {w : World} {ts : List Value} {d : List Deferred} {o : Oper} {rest : List Oper} {Lq : Act → Prop} {k0 : Nat} {t : Tmp}
theorem WL.nil (h : Lq ⟨ts.toArray, d⟩) : WL k0 M P D w Lq [] ts d := ⟨fun ops _ => marks_nil h⟩
theorem WL.skip (hw : wantedL D ts o = false) (hd : o.dst = some t) (h : WL k0 M P D w Lq rest (ts.set t undef) d) : WL k0 M P D w Lq (o :: rest) ts d :=
  ⟨fun ops hD => marks_skip (by rw [wanted_L hD, hw]) (by rw [put_L ts d hd]; exact h.out ops hD)⟩
theorem WL.step (v : Value) (hw : wantedL D ts o = true) (hd : o.dst = some t) (hc : calmM (shift k0 M) P o ⟨ts.toArray, d⟩ w v) (h : WL k0 M P D w Lq rest (ts.set t v) d) : WL k0 M P D w Lq (o :: rest) ts d :=
  ⟨fun ops hD => marks_step v (by rw [wanted_L hD, hw]) hc (by rw [put_L ts d hd]; exact h.out ops hD)⟩
theorem WL.ex (hw : wantedL D ts o = true) (hsel : noSel o = true) (hs : saneL ts o = true) (hd : o.dst = some t)
    (h : ∃ v, (∀ w', Kept w w' → (execOp (Act.eval ⟨ts.toArray, d⟩) o).run P w' = .ok (.value v) w') ∧ isMark v = false ∧ WL k0 M P D w Lq rest (ts.set t v) d) : WL k0 M P D w Lq (o :: rest) ts d := by
  obtain ⟨v, h1, h2, h3⟩ := h
  exact WL.step v hw hd (calmM_of (noSel_spec hsel) (sane_L hs) h2 (calm_run v h1)) h3
/-- A known value, by a law of its own. -/
theorem WL.law (v : Value) (hw : wantedL D ts o = true) (hsel : noSel o = true) (hs : saneL ts o = true) (hd : o.dst = some t) (hv : isMark v = false) (hc : calm P o ⟨ts.toArray, d⟩ w v) (h : WL k0 M P D w Lq rest (ts.set t v) d) : WL k0 M P D w Lq (o :: rest) ts d :=
  WL.step v hw hd (calmM_of (noSel_spec hsel) (sane_L hs) hv hc) h
/-- A call whose result is known. -/
theorem WL.call {v : Value} {f : FuncId} {args : Array Value} (hw : wantedL D ts o = true) (hsel : noSel o = true) (hs : saneL ts o = true) (hd : o.dst = some t) (hv : isMark v = false) (hp : Pure P f args v)
    (hr : ∀ w', (execOp (Act.eval ⟨ts.toArray, d⟩) o).run P w' = .ok (.enter f args) w') (h : WL k0 M P D w Lq rest (ts.set t v) d) : WL k0 M P D w Lq (o :: rest) ts d :=
  WL.step v hw hd (calmM_of (noSel_spec hsel) (sane_L hs) hv (hp.call hr)) h
/-- A call whose result is known, by a contract in every later world. -/
theorem WL.callAt {v : Value} {f : FuncId} {args : Array Value} (hw : wantedL D ts o = true) (hsel : noSel o = true) (hs : saneL ts o = true) (hd : o.dst = some t) (hv : isMark v = false)
    (hp : ∀ w', Kept w w' → Calls P f args w' fun e w'' => e = .returned v ∧ Kept w' w'')
    (hr : ∀ w', (execOp (Act.eval ⟨ts.toArray, d⟩) o).run P w' = .ok (.enter f args) w') (h : WL k0 M P D w Lq rest (ts.set t v) d) : WL k0 M P D w Lq (o :: rest) ts d :=
  WL.step v hw hd (calmM_of (noSel_spec hsel) (sane_L hs) hv (calm_call v f args hr hp)) h
/-- A call whose result is a mark, by a contract in every later world. -/
theorem WL.makeAt (k : Nat) {f : FuncId} {args : Array Value} (hw : wantedL D ts o = true) (hsel : noSel o = true) (hs : saneL ts o = true) (hd : o.dst = some t)
    (hp : ∀ w', Kept w w' → Calls P f args w' fun e w'' => ∃ v, e = .returned v ∧ (M k).is v w'' ∧ Kept w' w'')
    (hr : ∀ w', (execOp (Act.eval ⟨ts.toArray, d⟩) o).run P w' = .ok (.enter f args) w') (h : WL k0 M P D w Lq rest (ts.set t (.chan (some (k0 + k)))) d) : WL k0 M P D w Lq (o :: rest) ts d := by
  refine WL.step (.chan (some (k0 + k))) hw hd ?_ h
  intro a' w' hk hra
  have he : execOp a'.eval o = execOp (Act.eval ⟨ts.toArray, d⟩) o := execOp_congr o (noSel_spec hsel) (sane_eval (sane_L hs) hra)
  rw [he, hr w']
  refine ⟨rfl, (hp w' hk).mono fun e w'' ⟨v, h1, h2, h3⟩ => ⟨v, h1, h3, RelV.of (by rw [shift_at]; exact h2)⟩⟩
/-- An operation of known operands that makes something. -/
theorem WL.lay (k : Nat) (hw : wantedL D ts o = true) (hsel : noSel o = true) (hs : saneL ts o = true) (hd : o.dst = some t)
    (hr : ∀ w', Kept w w' → ∃ u w'', (execOp (Act.eval ⟨ts.toArray, d⟩) o).run P w' = .ok (.value u) w'' ∧ Kept w' w'' ∧ (M k).is u w'')
    (h : WL k0 M P D w Lq rest (ts.set t (.chan (some (k0 + k)))) d) : WL k0 M P D w Lq (o :: rest) ts d :=
  WL.step _ hw hd (calmM_make (k0 + k) hsel (sane_L hs) fun w' hk => by obtain ⟨u, w'', h1, h2, h3⟩ := hr w' hk; exact ⟨u, w'', h1, h2, by rw [shift_at]; exact h3⟩) h
/-- An operation on what a mark stands for. -/
theorem WL.on (k s : Nat) (v : Value) (hw : wantedL D ts o = true) (ht : hasTmp o s = true) (hm : ts.getD s undef = .chan (some (k0 + k))) (hd : o.dst = some t) (hv : isMark v = false)
    (hc : ∀ (a' : Act) w', Kept w w' → (M k).is (a'.eval (.tmp s)) w' → (execOp a'.eval o).run P w' = .ok (.value v) w')
    (h : WL k0 M P D w Lq rest (ts.set t v) d) : WL k0 M P D w Lq (o :: rest) ts d :=
  WL.step v hw hd (calmM_on ht (by rw [getD_toArray]; exact hm) v hv fun a' w' hk hi => hc a' w' hk (by rw [shift_at] at hi; exact hi)) h
/-- A conversion of what a mark stands for. -/
theorem WL.conv (k s : Nat) {src dst : TypeId} (v : Value) (hw : wantedL D ts o = true) (ho : o.op = .convert src dst (.tmp s)) (hm : ts.getD s undef = .chan (some (k0 + k))) (hd : o.dst = some t) (hv : isMark v = false)
    (hc : ∀ u w', (M k).is u w' → (convert src dst u).run P w' = .ok v w')
    (h : WL k0 M P D w Lq rest (ts.set t v) d) : WL k0 M P D w Lq (o :: rest) ts d :=
  WL.step v hw hd (calmM_conv ho (by rw [getD_toArray]; exact hm) v hv fun u w' hi => hc u w' (by rw [shift_at] at hi; exact hi)) h
end
end Go.Proofs.Ytnajihlhcdedgaa
