/-
  Marked slots within a loop: slots of which nothing is known may lie beside the marks.
-/
import Derived.Test.YtnajihlhcdedgaaMark2
namespace Go.Proofs.Ytnajihlhcdedgaa
open Go.RowKit
set_option linter.unusedVariables false

/-- The meanings from k0 on; below it each stands for itself. -/
def shift (k0 : Nat) (M : Means) : Means := fun k => if k < k0 then ⟨fun v _ => v = .chan (some k), fun v w w' h _ => h, fun b w h => by cases h⟩ else M (k - k0)
theorem shift_at (k0 : Nat) (M : Means) (k : Nat) : shift k0 M (k0 + k) = M k := by
  unfold shift
  rw [if_neg (by omega)]
  congr
  omega
def Low (k0 : Nat) (v : Value) : Prop := ∀ k, v = .chan (some k) → k < k0
theorem Low.undef (k0 : Nat) : Low k0 Go.undef := fun k h => by cases h
theorem low_list : ∀ l : List Value, ∃ k0, ∀ v ∈ l, Low k0 v
  | [] => ⟨0, fun v h => by cases h⟩
  | x :: l => by
    obtain ⟨k0, h⟩ := low_list l
    cases hm : isMark x with
    | false =>
      refine ⟨k0, fun v hv => ?_⟩
      rcases List.mem_cons.1 hv with rfl | hv
      · intro k e; subst e; cases hm
      · exact h v hv
    | true =>
      cases x <;> simp only [isMark, Bool.false_eq_true] at hm
      rename_i r
      cases r with
      | none => cases hm
      | some j =>
        refine ⟨max k0 (j + 1), fun v hv => ?_⟩
        rcases List.mem_cons.1 hv with rfl | hv
        · intro k e; injection e with e; injection e with e; omega
        · intro k e; have := h v hv k e; omega
theorem low_act (a : Act) : ∃ k0, ∀ t, Low k0 (a.tmps.getD t undef) := by
  obtain ⟨k0, h⟩ := low_list a.tmps.toList
  refine ⟨k0, fun t => ?_⟩
  by_cases hlt : t < a.tmps.size
  · have e : a.tmps.getD t undef = a.tmps[t] := by simp [hlt]
    rw [e]
    exact h _ (by simp)
  · have e : a.tmps.getD t undef = undef := by simp [hlt]
    rw [e]
    exact Low.undef k0
theorem RelV.low {k0 : Nat} {M : Means} {m v : Value} {w : World} (hl : Low k0 m) (h : RelV (shift k0 M) m v w) : v = m := by
  unfold RelV at h
  split at h
  · rename_i k
    have hk := hl k rfl
    unfold shift at h
    rw [if_pos hk] at h
    exact h
  · exact h
theorem RelV.low_refl {k0 : Nat} {M : Means} {m : Value} {w : World} (hl : Low k0 m) : RelV (shift k0 M) m m w := by
  unfold RelV
  split
  · rename_i k
    have hk := hl k rfl
    unfold shift
    rw [if_pos hk]
  · rfl

/-- The slots that the operations fill. -/
def dstsOf (l : List Oper) : List Nat := l.filterMap (·.dst)

section
variable {P : Program} {ops : Array Oper} {M : Means} {w : World}
theorem wpCalmM_mono : ∀ (l : List Oper) (a : Act) (L1 L2 : Act → Prop), (∀ a, L1 a → L2 a) → wpCalmM M P ops w L1 l a → wpCalmM M P ops w L2 l a := by
  intro l
  induction l with
  | nil => intro a L1 L2 h hh; exact h _ hh
  | cons o l ih =>
    intro a L1 L2 h hh
    unfold wpCalmM at hh ⊢
    split
    · rename_i hw; rw [if_pos hw] at hh; obtain ⟨v, h1, h2⟩ := hh; exact ⟨v, h1, ih _ _ _ h h2⟩
    · rename_i hw; rw [if_neg hw] at hh; exact ih _ _ _ h hh
theorem wpCalmM_agree : ∀ (l : List Oper) (a : Act) (Lq : Act → Prop), wpCalmM M P ops w Lq l a → wpCalmM M P ops w (fun a' => Lq a' ∧ ∀ t, t ∉ dstsOf l → a'.tmps.getD t undef = a.tmps.getD t undef) l a := by
  intro l
  induction l with
  | nil => intro a Lq h; exact ⟨h, fun _ _ => rfl⟩
  | cons o l ih =>
    intro a Lq h
    have put : ∀ (v : Value) t, t ∉ dstsOf (o :: l) → (a.put o.dst v).tmps.getD t undef = a.tmps.getD t undef := fun v t ht => by
      cases hd : o.dst with
      | none => rfl
      | some d =>
        have hne : d ≠ t := fun e => ht (by unfold dstsOf; rw [List.filterMap_cons, hd]; simp [e])
        simp [Act.put, Array.getD_eq_getD_getElem?, hne]
    have sub : ∀ t, t ∉ dstsOf (o :: l) → t ∉ dstsOf l := fun t ht h => ht (by
      unfold dstsOf at h ⊢
      rw [List.filterMap_cons]
      split
      · exact h
      · exact List.mem_cons_of_mem _ h)
    unfold wpCalmM at h ⊢
    split
    · rename_i hw
      rw [if_pos hw] at h
      obtain ⟨v, h1, h2⟩ := h
      exact ⟨v, h1, wpCalmM_mono _ _ _ _ (fun a' ha => ⟨ha.1, fun t ht => (ha.2 t (sub t ht)).trans (put v t ht)⟩) (ih _ _ h2)⟩
    · rename_i hw
      rw [if_neg hw] at h
      exact wpCalmM_mono _ _ _ _ (fun a' ha => ⟨ha.1, fun t ht => (ha.2 t (sub t ht)).trans (put undef t ht)⟩) (ih _ _ h)
end

/-- The act that runs against the one that is walked; what the head does not fill is the same. -/
structure RelB (M : Means) (is : List Nat) (a a' : Act) (w : World) : Prop where
  rel : RelA M a a' w
  same : ∀ t, t ∉ is → a'.tmps.getD t undef = a.tmps.getD t undef

section
variable {P : Program} {Q : Exit → Act → World → Prop} {a : Act} {w : World} {l : List Oper} {id : Nat}
theorem wp_region_marks_rel (M : Means) (k : Nat) (hm : P.follows .mixedOrders = true) (hB : calmB l.toArray k 0 = true) (h0 : ∀ w', RelA M a a w')
    (h : wpCalmM M P l.toArray w (fun a' => ∀ a'' w', Kept w w' → RelA M a' a'' w' → wpList P l.toArray Q (l.drop k) a'' w') (l.take k) a) : (Code.region id l.toArray true).wp P Q a w := by
  simp only [calmB, Bool.and_eq_true, decide_eq_true_eq, Bool.or_eq_true, Nat.add_zero] at hB
  obtain ⟨⟨⟨⟨⟨hsel, hn⟩, hs⟩, hc⟩, hlex⟩, hseq⟩ := hB
  have hdl : (l.drop k).length = l.toArray.size - k := by simp
  refine wp_region_any hm ?_
  have H := AnyM_lex (P := P) (md := .any) (M := M) (n := k) (g := 0) (w := w) (Lq := fun a' => ∀ a'' w', Kept w w' → RelA M a' a'' w' → wpList P l.toArray Q (l.drop k) a'' w')
    (L := fun listed' a' => listed' = listAll (List.range k) (Array.replicate l.toArray.size false) ∧ ∀ a'' w', Kept w w' → RelA M a' a'' w' → wpList P l.toArray Q (l.drop k) a'' w')
    hs hc (fun listed a' hL => by rw [hL.1]; exact seqB_ready hseq) (List.range k) (Array.replicate l.toArray.size false) a
    (fun i hi => List.mem_range.1 hi) (headInv0 _ _) hlex
    (fun i hi => by have := List.mem_range.1 hi; have h2 : i < l.toArray.size := by omega
                    simp [Array.getElem?_eq_getElem h2])
    (fun a' ha' _ => ⟨rfl, ha'⟩) (by rw [range_ops]; exact h)
  have H2 := wpAny_of_anyM (P := P) (md := .any) (M := M) (Q' := Q) (g := l.toArray.size - k)
    (fun listed a a' w' hL hk hr => by
      have := wpAny_of_seq (P := P) (md := .any) (Q' := Q) (l.drop k) k listed a' w' (fun j => by simp [List.getElem?_drop]) (by rw [hdl, hL.1]; exact hseq) (hL.2 a' w' hk hr)
      rwa [hdl] at this) _ _ a a w.drew H (Kept.drew (Kept.refl w)) (h0 _)
  rw [List.length_range, show k + 0 + (l.toArray.size - k) = l.toArray.size by omega] at H2
  exact H2

/-- A REGION WHOSE ORDER IS DRAWN, marks beside slots of which nothing is known. -/
theorem wp_region_marks_in (M : Means) (k : Nat) (hm : P.follows .mixedOrders = true) (hB : calmB l.toArray k 0 = true)
    (h : ∀ k0, wpCalmM (shift k0 M) P l.toArray w (fun a' => ∀ a'' w', Kept w w' → RelB (shift k0 M) (dstsOf (l.take k)) a' a'' w' → wpList P l.toArray Q (l.drop k) a'' w') (l.take k) a) : (Code.region id l.toArray true).wp P Q a w := by
  obtain ⟨k0, hlow⟩ := low_act a
  refine wp_region_marks_rel (shift k0 M) k hm hB (fun w' => ⟨rfl, rfl, fun t => RelV.low_refl (hlow t)⟩) ?_
  refine wpCalmM_mono _ _ _ _ (fun a' ha a'' w' hk hr => ?_) (wpCalmM_agree _ _ _ (h k0))
  refine ha.1 a'' w' hk ⟨hr, fun t ht => ?_⟩
  have h1 := ha.2 t ht
  have h2 := hr.slot t
  rw [h1] at h2 ⊢
  exact h2.low (hlow t)
end

/-- No mark among the slots is but at ts. -/
def markFreeOn (is : List Nat) (a : Act) (ts : List Nat) : Bool := is.all fun t => ts.contains t || !isMark (a.tmps.getD t undef)
section
variable {M : Means} {k0 : Nat} {is : List Nat} {a a' : Act} {w : World}
theorem RelB.one (h : RelB (shift k0 M) is a a' w) (ts : List Nat) (hf : markFreeOn is a ts = true) : ∀ t, t ∉ ts → a'.tmps.getD t undef = a.tmps.getD t undef := by
  intro t ht
  by_cases hi : t ∈ is
  · have := List.all_eq_true.1 hf t hi
    refine (h.rel.slot t).eq ?_
    simpa [ht] using this
  · exact h.same t hi
theorem RelB.mark0 (h : RelB (shift k0 M) is a a' w) (hf : markFreeOn is a [] = true) : a' = a :=
  Act.ext' h.rel.defers h.rel.size fun t _ => h.one [] hf t (by simp)
theorem RelB.mark1 (h : RelB (shift k0 M) is a a' w) (t k : Nat) (hf : markFreeOn is a [t] = true) (hm : a.tmps.getD t undef = .chan (some (k0 + k))) : ∃ x, (M k).is x w ∧ a' = a.put (some t) x := by
  refine ⟨a'.tmps.getD t undef, ?_, ?_⟩
  · have := h.rel.slot t
    rw [hm] at this
    have h2 := this.mark
    rw [shift_at] at h2
    exact h2
  · refine Act.ext' h.rel.defers (by simp [Act.put, h.rel.size]) fun i hi => ?_
    simp only [Act.put, Array.size_setIfInBounds] at hi
    by_cases hti : t = i
    · subst hti
      simp [Act.put, hi]
    · rw [h.one [t] hf i (by simp; omega)]
      simp [Act.put, hti]
theorem RelB.mark2 (h : RelB (shift k0 M) is a a' w) (t k u l : Nat) (htu : t ≠ u) (hf : markFreeOn is a [t, u] = true) (hm : a.tmps.getD t undef = .chan (some (k0 + k))) (hn : a.tmps.getD u undef = .chan (some (k0 + l))) :
    ∃ x y, (M k).is x w ∧ (M l).is y w ∧ a' = (a.put (some t) x).put (some u) y := by
  refine ⟨a'.tmps.getD t undef, a'.tmps.getD u undef, ?_, ?_, ?_⟩
  · have := h.rel.slot t
    rw [hm] at this
    have h2 := this.mark
    rw [shift_at] at h2
    exact h2
  · have := h.rel.slot u
    rw [hn] at this
    have h2 := this.mark
    rw [shift_at] at h2
    exact h2
  · refine Act.ext' h.rel.defers (by simp [Act.put, h.rel.size]) fun i hi => ?_
    simp only [Act.put, Array.size_setIfInBounds] at hi
    by_cases hui : u = i
    · subst hui
      simp [Act.put, hi]
    · by_cases hti : t = i
      · subst hti
        simp [Act.put, hi, hui]
      · rw [h.one [t, u] hf i (by simp; omega)]
        simp [Act.put, hti, hui]
end
section
variable {P : Program} {ops : Array Oper} {M : Means} {w : World} {a : Act} {o : Oper} {rest : List Oper} {Lq : Act → Prop} {k0 : Nat}
/-- A call whose result is a mark. -/
theorem marks_make_in (k : Nat) {f : FuncId} {args : Array Value} {R : Value → World → Prop} (hw : Region.wanted o (yielded ops a.tmps) = true) (hsel : noSel o = true) (hs : sane a o = true) (hp : Makes P f args R)
    (hR : ∀ v w', R v w' → (M k).is v w')
    (hr : ∀ w', (execOp a.eval o).run P w' = .ok (.enter f args) w') (h : wpCalmM (shift k0 M) P ops w Lq rest (a.put o.dst (.chan (some (k0 + k))))) : wpCalmM (shift k0 M) P ops w Lq (o :: rest) a :=
  marks_make (k0 + k) hw hsel hs hp (fun v w' hv => by rw [shift_at]; exact hR v w' hv) hr h
/-- A call whose result is a mark, by a contract in every later world. -/
theorem marks_make_at (k : Nat) {f : FuncId} {args : Array Value} (hw : Region.wanted o (yielded ops a.tmps) = true) (hsel : noSel o = true) (hs : sane a o = true)
    (hp : ∀ w', Kept w w' → Calls P f args w' fun e w'' => ∃ v, e = .returned v ∧ (M k).is v w'' ∧ Kept w' w'')
    (hr : ∀ w', (execOp a.eval o).run P w' = .ok (.enter f args) w') (h : wpCalmM (shift k0 M) P ops w Lq rest (a.put o.dst (.chan (some (k0 + k))))) : wpCalmM (shift k0 M) P ops w Lq (o :: rest) a := by
  refine marks_step (.chan (some (k0 + k))) hw ?_ h
  intro a' w' hk hra
  have he : execOp a'.eval o = execOp a.eval o := execOp_congr o (noSel_spec hsel) (sane_eval hs hra)
  rw [he, hr w']
  refine ⟨rfl, (hp w' hk).mono fun e w'' ⟨v, h1, h2, h3⟩ => ⟨v, h1, h3, RelV.of (by rw [shift_at]; exact h2)⟩⟩
/-- A call with a known result, by a contract in every later world. -/
theorem marks_call_at {M : Means} {v : Value} {f : FuncId} {args : Array Value} (hw : Region.wanted o (yielded ops a.tmps) = true) (hsel : noSel o = true) (hs : sane a o = true) (hv : isMark v = false)
    (hp : ∀ w', Kept w w' → Calls P f args w' fun e w'' => e = .returned v ∧ Kept w' w'')
    (hr : ∀ w', (execOp a.eval o).run P w' = .ok (.enter f args) w') (h : wpCalmM M P ops w Lq rest (a.put o.dst v)) : wpCalmM M P ops w Lq (o :: rest) a :=
  marks_step v hw (calmM_of (noSel_spec hsel) hs hv (calm_call v f args hr hp)) h
/-- An operation of known operands that makes something. -/
theorem marks_lay (k : Nat) (hw : Region.wanted o (yielded ops a.tmps) = true) (hsel : noSel o = true) (hs : sane a o = true)
    (hr : ∀ w', Kept w w' → ∃ u w'', (execOp a.eval o).run P w' = .ok (.value u) w'' ∧ Kept w' w'' ∧ (M k).is u w'')
    (h : wpCalmM (shift k0 M) P ops w Lq rest (a.put o.dst (.chan (some (k0 + k))))) : wpCalmM (shift k0 M) P ops w Lq (o :: rest) a :=
  marks_step _ hw (calmM_make (k0 + k) hsel hs fun w' hk => by obtain ⟨u, w'', h1, h2, h3⟩ := hr w' hk; exact ⟨u, w'', h1, h2, by rw [shift_at]; exact h3⟩) h
/-- An operation on what a mark stands for. -/
theorem marks_on (k t : Nat) (v : Value) (hw : Region.wanted o (yielded ops a.tmps) = true) (ht : hasTmp o t = true) (hm : a.tmps.getD t undef = .chan (some (k0 + k))) (hv : isMark v = false)
    (hc : ∀ (a' : Act) w', Kept w w' → (M k).is (a'.eval (.tmp t)) w' → (execOp a'.eval o).run P w' = .ok (.value v) w')
    (h : wpCalmM (shift k0 M) P ops w Lq rest (a.put o.dst v)) : wpCalmM (shift k0 M) P ops w Lq (o :: rest) a :=
  marks_step v hw (calmM_on ht hm v hv fun a' w' hk hi => hc a' w' hk (by rw [shift_at] at hi; exact hi)) h
/-- A conversion of what a mark stands for. -/
theorem marks_conv (k t : Nat) {src dst : TypeId} (v : Value) (hw : Region.wanted o (yielded ops a.tmps) = true) (ho : o.op = .convert src dst (.tmp t)) (hm : a.tmps.getD t undef = .chan (some (k0 + k))) (hv : isMark v = false)
    (hc : ∀ u w', (M k).is u w' → (convert src dst u).run P w' = .ok v w')
    (h : wpCalmM (shift k0 M) P ops w Lq rest (a.put o.dst v)) : wpCalmM (shift k0 M) P ops w Lq (o :: rest) a :=
  marks_step v hw (calmM_conv ho hm v hv fun u w' hi => hc u w' (by rw [shift_at] at hi; exact hi)) h
end
end Go.Proofs.Ytnajihlhcdedgaa
