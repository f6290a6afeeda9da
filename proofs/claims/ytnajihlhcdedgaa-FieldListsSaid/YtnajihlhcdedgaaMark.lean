/-
  A region whose order is drawn, walked once in the order of the text, where calls may also make memory: a slot then bears a mark, which stands for every value of which its meaning holds.
  Conditions: the Bool 'calmB' over the region's operations, which the kernel reckons.
-/
import Derived.Test.YtnajihlhcdedgaaCalm
namespace Go.Proofs.Ytnajihlhcdedgaa
open Go.RowKit
set_option linter.unusedVariables false

/-- What a mark stands for: it holds in every later world; it is no bool. -/
structure Mean where
  is : Value → World → Prop
  later : ∀ v w w', is v w → Kept w w' → is v w'
  noBool : ∀ b w, ¬ is (.bool b) w

/-- The marks' meanings. -/
abbrev Means := Nat → Mean

def isMark : Value → Bool
  | .chan (some _) => true
  | _ => false

def RelV (M : Means) : Value → Value → World → Prop
  | .chan (some k), v, w => (M k).is v w
  | m, v, _ => v = m

theorem RelV.eq {M : Means} {m v : Value} {w : World} (hm : isMark m = false) (h : RelV M m v w) : v = m := by
  unfold RelV at h
  split at h
  · cases hm
  · exact h
theorem RelV.same {M : Means} {m : Value} {w : World} (hm : isMark m = false) : RelV M m m w := by
  unfold RelV
  split
  · cases hm
  · rfl
theorem RelV.mark {M : Means} {k : Nat} {v : Value} {w : World} (h : RelV M (.chan (some k)) v w) : (M k).is v w := h
theorem RelV.of {M : Means} {k : Nat} {v : Value} {w : World} (h : (M k).is v w) : RelV M (.chan (some k)) v w := h
theorem RelV.later {M : Means} {m v : Value} {w w' : World} (h : RelV M m v w) (hk : Kept w w') : RelV M m v w' := by
  unfold RelV at *
  split
  · rename_i k; exact (M k).later _ _ _ h hk
  · rename_i hh; split at h
    · rename_i k' ; exact absurd rfl (hh k')
    · exact h
theorem RelV.bool {M : Means} {m v : Value} {w : World} (h : RelV M m v w) (b : Bool) : v = .bool b ↔ m = .bool b := by
  cases hm : isMark m with
  | false => rw [h.eq hm]
  | true =>
    cases m <;> simp only [isMark, Bool.false_eq_true] at hm
    rename_i r
    cases r with
    | none => cases hm
    | some k =>
      refine ⟨fun e => ?_, fun e => by cases e⟩
      subst e
      exact absurd h.mark ((M k).noBool b w)

/-- The act that runs, against the act that is walked. -/
structure RelA (M : Means) (a a' : Act) (w : World) : Prop where
  defers : a'.defers = a.defers
  size : a'.tmps.size = a.tmps.size
  slot : ∀ t, RelV M (a.tmps.getD t undef) (a'.tmps.getD t undef) w

theorem RelA.later {M : Means} {a a' : Act} {w w' : World} (h : RelA M a a' w) (hk : Kept w w') : RelA M a a' w' := ⟨h.defers, h.size, fun t => (h.slot t).later hk⟩
theorem RelA.put {M : Means} {a a' : Act} {w : World} (h : RelA M a a' w) (dst : Option Tmp) {m v : Value} (hv : RelV M m v w) : RelA M (a.put dst m) (a'.put dst v) w := by
  cases dst with
  | none => exact h
  | some d =>
    refine ⟨h.defers, by simp [Act.put, h.size], fun t => ?_⟩
    have hs := h.slot t
    simp only [Act.put, Array.getD_eq_getD_getElem?, Array.getElem?_setIfInBounds] at hs ⊢
    by_cases hd : d = t
    · subst hd
      simp only [if_true, h.size]
      by_cases hlt : d < a.tmps.size
      · simp only [hlt, if_true, Option.getD_some]; exact hv
      · simp only [hlt, if_false, Option.getD_none]
        exact RelV.same rfl
    · simp only [hd, if_false]; exact hs
theorem RelA.yielded {M : Means} {a a' : Act} {w : World} (h : RelA M a a' w) (ops : Array Oper) (j : Nat) : Go.yielded ops a'.tmps j = Go.yielded ops a.tmps j := by
  unfold Go.yielded
  cases ho : (ops[j]?).bind (·.dst) with
  | none => rfl
  | some t =>
    simp only [Option.bind_some]
    have hs := h.slot t
    have hz := h.size
    simp only [Array.getD_eq_getD_getElem?] at hs
    by_cases hlt : t < a.tmps.size
    · have hlt' : t < a'.tmps.size := by rw [h.size]; exact hlt
      rw [Array.getElem?_eq_getElem hlt, Array.getElem?_eq_getElem hlt'] at hs ⊢
      simp only [Option.getD_some] at hs
      have hb := hs.bool
      cases hv : a.tmps[t] with
      | bool b =>
        rw [hv] at hb
        rw [(hb b).2 rfl]
      | _ =>
        rw [hv] at hb
        cases hv' : a'.tmps[t] with
        | bool b => exact absurd ((hb b).1 hv') (by intro e; cases e)
        | _ => rfl
    · rw [Array.getElem?_eq_none (by rw [h.size]; exact Nat.le_of_not_lt hlt), Array.getElem?_eq_none (Nat.le_of_not_lt hlt)]
theorem RelA.wanted {M : Means} {a a' : Act} {w : World} (h : RelA M a a' w) (ops : Array Oper) (o : Oper) : Region.wanted o (Go.yielded ops a'.tmps) = Region.wanted o (Go.yielded ops a.tmps) := by
  have : Go.yielded ops a'.tmps = Go.yielded ops a.tmps := funext fun j => h.yielded ops j
  rw [this]

/-- No mark but at slot t (t at or beyond the size: none). -/
def markFree (a : Act) (ts : List Nat) : Bool := (List.range a.tmps.size).all fun t => ts.contains t || !isMark (a.tmps.getD t undef)

theorem RelA.refl {M : Means} {a : Act} {w : World} (h : markFree a [] = true) : RelA M a a w := by
  refine ⟨rfl, rfl, fun t => RelV.same ?_⟩
  by_cases hlt : t < a.tmps.size
  · have := List.all_eq_true.1 h t (List.mem_range.2 hlt)
    simpa using this
  · simp [hlt]
    rfl
theorem RelA.one {M : Means} {a a' : Act} {w : World} (h : RelA M a a' w) (ts : List Nat) (hf : markFree a ts = true) : ∀ t, t ∉ ts → a'.tmps.getD t undef = a.tmps.getD t undef := by
  intro t ht
  refine (h.slot t).eq ?_
  by_cases hlt : t < a.tmps.size
  · have := List.all_eq_true.1 hf t (List.mem_range.2 hlt)
    simpa [ht] using this
  · simp [hlt]
    rfl
theorem Act.ext' {a a' : Act} (hd : a'.defers = a.defers) (hs : a'.tmps.size = a.tmps.size) (ht : ∀ t, t < a.tmps.size → a'.tmps.getD t undef = a.tmps.getD t undef) : a' = a := by
  obtain ⟨x, d⟩ := a
  obtain ⟨x', d'⟩ := a'
  simp only at *
  subst hd
  congr 1
  apply Array.ext hs
  intro i h1 h2
  have := ht i h2
  simpa [h1, h2] using this
theorem RelA.mark0 {M : Means} {a a' : Act} {w : World} (h : RelA M a a' w) (hf : markFree a [] = true) : a' = a :=
  Act.ext' h.defers h.size fun t _ => h.one [] hf t (by simp)
theorem RelA.mark1 {M : Means} {a a' : Act} {w : World} (h : RelA M a a' w) (t k : Nat) (hf : markFree a [t] = true) (hm : a.tmps.getD t undef = .chan (some k)) : ∃ x, (M k).is x w ∧ a' = a.put (some t) x := by
  refine ⟨a'.tmps.getD t undef, ?_, ?_⟩
  · have := h.slot t
    rw [hm] at this
    exact this.mark
  · refine Act.ext' h.defers (by simp [Act.put, h.size]) fun i hi => ?_
    simp only [Act.put, Array.size_setIfInBounds] at hi
    by_cases hti : t = i
    · subst hti
      simp [Act.put, hi]
    · rw [h.one [t] hf i (by simp; omega)]
      simp [Act.put, hti]
theorem RelA.mark2 {M : Means} {a a' : Act} {w : World} (h : RelA M a a' w) (t k u l : Nat) (htu : t ≠ u) (hf : markFree a [t, u] = true) (hm : a.tmps.getD t undef = .chan (some k)) (hn : a.tmps.getD u undef = .chan (some l)) :
    ∃ x y, (M k).is x w ∧ (M l).is y w ∧ a' = (a.put (some t) x).put (some u) y := by
  refine ⟨a'.tmps.getD t undef, a'.tmps.getD u undef, ?_, ?_, ?_⟩
  · have := h.slot t
    rw [hm] at this
    exact this.mark
  · have := h.slot u
    rw [hn] at this
    exact this.mark
  · refine Act.ext' h.defers (by simp [Act.put, h.size]) fun i hi => ?_
    simp only [Act.put, Array.size_setIfInBounds] at hi
    by_cases hui : u = i
    · subst hui
      simp [Act.put, hi]
    · by_cases hti : t = i
      · subst hti
        simp [Act.put, hi, hui]
      · rw [h.one [t, u] hf i (by simp; omega)]
        simp [Act.put, hti, hui]

section
variable {P : Program} {ops : Array Oper} {md : Region.Mode} {M : Means} {w : World}

def calmUponM (M : Means) (P : Program) (w : World) (v : Value) : Result Next → Prop
  | .ok (.value u) w' => Kept w w' ∧ RelV M v u w'
  | .ok .skip w' => Kept w w' ∧ v = undef
  | .ok (.enter f args) w' => w' = w ∧ Calls P f args w (fun e w'' => ∃ u, e = .returned u ∧ Kept w w'' ∧ RelV M v u w'')
  | _ => False

/-- ONE VALUE OR MARK, IN EVERY LATER WORLD, WHATEVER THE MARKS AMONG THE OPERANDS STAND FOR. -/
def calmM (M : Means) (P : Program) (o : Oper) (a : Act) (w : World) (v : Value) : Prop :=
  ∀ (a' : Act) w', Kept w w' → (∀ t, Operand.tmp t ∈ o.op.operands → RelV M (a.eval (.tmp t)) (a'.eval (.tmp t)) w') → calmUponM M P w' v ((execOp a'.eval o).run P w')

def kOpM (M : Means) (P : Program) (ops : Array Oper) (w : World) (i : Nat) (K : Act → Prop) (a : Act) : Prop :=
  match ops[i]? with
  | none => False
  | some o => if Region.wanted o (yielded ops a.tmps) then ∃ v, calmM M P o a w v ∧ K (a.put o.dst v) else K (a.put o.dst undef)

theorem kOpM_mono {i : Nat} {a : Act} {K K' : Act → Prop} (h : ∀ a, K a → K' a) (hh : kOpM M P ops w i K a) : kOpM M P ops w i K' a := by
  unfold kOpM at *
  split
  · rename_i ho; simp only [ho] at hh
  · rename_i o ho
    simp only [ho] at hh
    split
    · rename_i hw
      simp only [hw, if_true] at hh
      obtain ⟨v, h1, h2⟩ := hh; exact ⟨v, h1, h _ h2⟩
    · rename_i hw; simp only [hw] at hh; exact h _ hh

theorem wpOp_of_kOpM {i : Nat} {a : Act} {K : Act → Prop} {K' : Act → World → Prop} {Q' : Exit → Act → World → Prop} (hK : ∀ a a' w', K a → Kept w w' → RelA M a a' w' → K' a' w')
    (hh : kOpM M P ops w i K a) {a' : Act} {w' : World} (hk : Kept w w') (hr : RelA M a a' w') : wpOp P ops Q' i K' a' w' := by
  unfold kOpM at hh
  unfold wpOp
  split
  · rename_i ho; simp only [ho] at hh
  · rename_i o ho
    simp only [ho] at hh
    rw [hr.wanted]
    split
    · rename_i hw
      simp only [hw, if_true] at hh
      refine .inl ?_
      obtain ⟨v, h1, h2⟩ := hh
      have h3 := h1 a' w' hk fun t _ => hr.slot t
      unfold Oper.wp
      generalize (execOp a'.eval o).run P w' = r at *
      cases r with
      | ok n w1 =>
        cases n <;> simp only [calmUponM] at h3 <;> simp only [Oper.upon]
        case value u => exact hK _ _ _ h2 (hk.trans h3.1) ((hr.later h3.1).put _ h3.2)
        case skip => obtain ⟨h3, rfl⟩ := h3; exact hK _ _ _ h2 (hk.trans h3) ((hr.later h3).put _ (RelV.same rfl))
        case enter f args =>
          obtain ⟨rfl, hc⟩ := h3
          refine hc.mono fun e w'' he => ?_
          obtain ⟨u, rfl, hk', hv⟩ := he
          exact hK _ _ _ h2 (hk.trans hk') ((hr.later hk').put _ hv)
      | halt x w1 => simp only [calmUponM] at h3
    · rename_i hw
      simp only [hw] at hh
      exact hK _ _ _ hh hk (hr.put _ (RelV.same rfl))

/-- Whatever order is picked from here on, as long as the head lasts. -/
def AnyM (M : Means) (P : Program) (md : Region.Mode) (ops : Array Oper) (w : World) (n : Nat) (L : Array Bool → Act → Prop) : Nat → Array Bool → Act → Prop
  | 0, listed, a => L listed a
  | f + 1, listed, a =>
    Region.ready md ops listed ≠ [] ∧ ∀ i ∈ Region.ready md ops listed, i < n ∧ kOpM M P ops w i (AnyM M P md ops w n L f (listed.setIfInBounds i true)) a

theorem wpAny_of_anyM {n g : Nat} {L : Array Bool → Act → Prop} {Q' : Exit → Act → World → Prop}
    (hL : ∀ listed a a' w', L listed a → Kept w w' → RelA M a a' w' → wpAny P md ops Q' g listed a' w') :
    ∀ (f : Nat) (listed : Array Bool) (a a' : Act) (w' : World), AnyM M P md ops w n L f listed a → Kept w w' → RelA M a a' w' → wpAny P md ops Q' (f + g) listed a' w'
  | 0, listed, a, a', w', h, hk, hr => by rw [Nat.zero_add]; exact hL _ _ _ _ h hk hr
  | f + 1, listed, a, a', w', h, hk, hr => by
    rw [show f + 1 + g = (f + g) + 1 by omega]
    exact ⟨fun h0 => absurd h0 h.1, fun i hi => wpOp_of_kOpM (fun a a' w' h' hk' hr' => wpAny_of_anyM hL f _ a a' w' h' hk' hr') (h.2 i hi).2 hk hr⟩

def YieldsM (M : Means) (P : Program) (ops : Array Oper) (w : World) (o : Oper) (v : Value) (a : Act) : Prop :=
  (Region.wanted o (yielded ops a.tmps) = true ∧ calmM M P o a w v) ∨ (Region.wanted o (yielded ops a.tmps) = false ∧ v = undef)

theorem calmM_put {o : Oper} {v u : Value} {a : Act} {dst : Option Tmp} (h : ∀ d, dst = some d → d ∉ o.looksAt ops) : calmM M P o (a.put dst u) w v ↔ calmM M P o a w v := by
  have he : ∀ t, Operand.tmp t ∈ o.op.operands → (a.put dst u).eval (.tmp t) = a.eval (.tmp t) := fun t hx => Act.eval_put fun d hd hxd => h d hd (by
    cases hxd
    exact List.mem_append_left _ (List.mem_filterMap.2 ⟨.tmp t, by simpa using hx, rfl⟩))
  unfold calmM
  constructor
  · intro hc a' w' hk hr
    exact hc a' w' hk fun x hx => by rw [he x hx]; exact hr x hx
  · intro hc a' w' hk hr
    exact hc a' w' hk fun x hx => by rw [← he x hx]; exact hr x hx

theorem YieldsM.put {oi oj : Oper} {v u : Value} {a : Act} (h : YieldsM M P ops w oi v a) (h3 : ∀ d, oj.dst = some d → d ∉ oi.looksAt ops) : YieldsM M P ops w oi v (a.put oj.dst u) := by
  unfold YieldsM at *
  rw [wanted_put oi a oj.dst u h3, calmM_put h3]
  exact h

theorem YieldsM.kOp {i : Nat} {o : Oper} {v : Value} {a : Act} (hi : ops[i]? = some o) (hy : YieldsM M P ops w o v a) {K : Act → Prop} (h : K (a.put o.dst v)) : kOpM M P ops w i K a := by
  unfold kOpM
  simp only [hi]
  rcases hy with ⟨hw, hv⟩ | ⟨hw, rfl⟩
  · simp only [hw, if_true]; exact ⟨v, hv, h⟩
  · simp only [hw, Bool.false_eq_true, if_false]; exact h

/-- One operation 'oj', apart from 'oi'. -/
theorem kOpM_put {j : Nat} {oi oj : Oper} {v : Value} (hj : ops[j]? = some oj) (hap : oi.apart ops oj = true) {K : Act → Prop} {a : Act}
    (hy : YieldsM M P ops w oi v a) (h : kOpM M P ops w j K (a.put oi.dst v)) :
    kOpM M P ops w j (fun a' => YieldsM M P ops w oi v a' ∧ K (a'.put oi.dst v)) a := by
  obtain ⟨h1, h2, h3⟩ := Oper.apart_spec hap
  unfold kOpM at *
  simp only [hj] at *
  rw [wanted_put oj a oi.dst v h1] at h
  split
  · rename_i hw
    simp only [hw, if_true] at h
    obtain ⟨u, hu, hn⟩ := h
    exact ⟨u, (calmM_put h1).1 hu, hy.put h3, by rw [← Act.put_comm a v u h2]; exact hn⟩
  · rename_i hw
    simp only [hw] at h
    exact ⟨hy.put h3, by rw [← Act.put_comm a v undef h2]; exact h⟩

theorem AnyM_first {n i : Nat} {oi : Oper} {v : Value} {L : Array Bool → Act → Prop} (hi : ops[i]? = some oi)
    (hs : Region.sinkB md ops n = true ∨ ops.size ≤ n) (hc : Region.chainB md ops n = true) (hin : i < n)
    (hdone : ∀ listed a, L listed a → ∀ j ∈ Region.ready md ops listed, n ≤ j) :
    ∀ (f : Nat) (listed : Array Bool) (a : Act), HeadInv md ops n listed →
      (∀ j oj, ops[j]? = some oj → j ≠ i → listed.getD j true = false → (∀ e ∈ oj.after, Region.binds md e = true → e.on ≠ i) → oi.apart ops oj = true) →
      i ∈ Region.ready md ops listed → YieldsM M P ops w oi v a →
      AnyM M P md ops w n L f (listed.setIfInBounds i true) (a.put oi.dst v) → AnyM M P md ops w n L (f + 1) listed a := by
  have hless : ∀ (listed : Array Bool), HeadInv md ops n listed → listed.getD i true = false → ∀ j ∈ Region.ready md ops listed, j < n := by
    intro listed inv hun j hj
    rcases Nat.lt_or_ge j n with h | h
    · exact h
    · obtain ⟨_, oj, hoj, _⟩ := mem_ready.1 hj
      have hjs : j < ops.size := (Array.getElem?_eq_some_iff.1 hoj).1
      rcases hs with hs | hs
      · exact absurd hj (tail_waits hs hc (by omega) inv _ i rfl hin hun j h)
      · omega
  intro f
  induction f with
  | zero =>
    intro listed a inv _ hr hy H
    have hun := (mem_ready.1 hr).1
    refine ⟨fun h => (by rw [h] at hr; cases hr), fun j hj => ?_⟩
    have hjn : j < n := hless listed inv hun j hj
    refine ⟨hjn, ?_⟩
    by_cases hji : j = i
    · subst hji; exact hy.kOp hi H
    · have := hdone _ _ H j (ready_mono hj hji)
      omega
  | succ f ih =>
    intro listed a inv hfree hr hy H
    have hun := (mem_ready.1 hr).1
    refine ⟨fun h => (by rw [h] at hr; cases hr), fun j hj => ?_⟩
    have hjn : j < n := hless listed inv hun j hj
    refine ⟨hjn, ?_⟩
    by_cases hji : j = i
    · subst hji; exact hy.kOp hi H
    · have h1 := (H.2 j (ready_mono hj hji)).2
      obtain ⟨hjun, oj, hoj, hall⟩ := mem_ready.1 hj
      have hnot : ∀ e ∈ oj.after, Region.binds md e = true → e.on ≠ i := fun e he hb heq => by
        have h1 := hall e he hb
        rw [heq, getD_both hun] at h1
        cases h1
      have h2 := kOpM_put hoj (hfree j oj hoj hji hjun hnot) hy h1
      have hfree' : ∀ k ok, ops[k]? = some ok → k ≠ i → (listed.setIfInBounds j true).getD k true = false →
          (∀ e ∈ ok.after, Region.binds md e = true → e.on ≠ i) → oi.apart ops ok = true := fun k ok hk hki hun hno => by
        refine hfree k ok hk hki ?_ hno
        by_cases hjk : j = k
        · subst hjk; exact hjun
        · rw [getD_set_ne true hjk] at hun; exact hun
      refine kOpM_mono (fun a' h3 => ih (listed.setIfInBounds j true) a' (inv.set hj hjn) hfree' (ready_mono hr (Ne.symm hji)) h3.1 ?_) h2
      rw [Array.setIfInBounds_comm _ _ hji]
      exact h3.2

/-! ### The walk of the head in the order of the text -/

def wpCalmM (M : Means) (P : Program) (ops : Array Oper) (w : World) (Q : Act → Prop) : List Oper → Act → Prop
  | [], a => Q a
  | o :: rest, a => if Region.wanted o (yielded ops a.tmps) then ∃ v, calmM M P o a w v ∧ wpCalmM M P ops w Q rest (a.put o.dst v) else wpCalmM M P ops w Q rest (a.put o.dst undef)

theorem AnyM_lex {n g : Nat} {L : Array Bool → Act → Prop} {Lq : Act → Prop}
    (hs : Region.sinkB md ops n = true ∨ ops.size ≤ n) (hc : Region.chainB md ops n = true)
    (hdone : ∀ listed a, L listed a → ∀ j ∈ Region.ready md ops listed, n ≤ j) :
    ∀ (ks : List Nat) (listed : Array Bool) (a : Act), (∀ k ∈ ks, k < n) → HeadInv md ops n listed →
      lexCalm md ops ks listed = true → (∀ k ∈ ks, (ops[k]?).isSome = true) →
      (∀ a', Lq a' → HeadInv md ops n (listAll ks listed) → AnyM M P md ops w n L g (listAll ks listed) a') →
      wpCalmM M P ops w Lq (ks.filterMap fun k => ops[k]?) a → AnyM M P md ops w n L (ks.length + g) listed a
  | [], listed, a, _, inv, _, _, hfin, h => by
    rw [List.length_nil, Nat.zero_add]
    exact hfin a h inv
  | k :: ks, listed, a, hks, inv, hB, hsome, hfin, h => by
    obtain ⟨o, h0⟩ := Option.isSome_iff_exists.1 (hsome k (by simp))
    simp only [lexCalm, Bool.and_eq_true] at hB
    obtain ⟨⟨hr, hf⟩, hB'⟩ := hB
    have hkn := hks k (by simp)
    have hr' : k ∈ Region.ready md ops listed := by simpa using hr
    rw [List.filterMap_cons, h0] at h
    simp only [wpCalmM] at h
    have hy : ∃ v, YieldsM M P ops w o v a ∧ wpCalmM M P ops w Lq (ks.filterMap fun k => ops[k]?) (a.put o.dst v) := by
      by_cases hw : Region.wanted o (yielded ops a.tmps) = true
      · simp only [hw, if_true] at h
        obtain ⟨v, h1, h2⟩ := h
        exact ⟨v, .inl ⟨hw, h1⟩, h2⟩
      · simp only [hw] at h
        exact ⟨undef, .inr ⟨by simpa using hw, rfl⟩, h⟩
    obtain ⟨v, hy, hK⟩ := hy
    have hlen : (k :: ks).length + g = ks.length + g + 1 := by simp only [List.length_cons]; omega
    rw [hlen]
    exact AnyM_first h0 hs hc hkn hdone (ks.length + g) listed a inv (Region.free_spec h0 hf) hr' hy
      (AnyM_lex hs hc hdone ks _ _ (fun k' hk' => hks k' (by simp [hk'])) (inv.set hr' hkn) hB' (fun k' hk' => hsome k' (by simp [hk'])) (fun a' ha' inv' => hfin a' ha' inv') hK)
end

/-! ### The region -/
section
variable {P : Program} {Q : Exit → Act → World → Prop} {a : Act} {w : World} {l : List Oper} {id : Nat} {M : Means}

/-- A REGION WHOSE ORDER IS DRAWN: one walk of the head (k operations), then the tail in every later world, whatever the marks stand for. -/
theorem wp_region_marks (M : Means) (k : Nat) (hm : P.follows .mixedOrders = true) (hB : calmB l.toArray k 0 = true) (h0 : markFree a [] = true)
    (h : wpCalmM M P l.toArray w (fun a' => ∀ a'' w', Kept w w' → RelA M a' a'' w' → wpList P l.toArray Q (l.drop k) a'' w') (l.take k) a) : (Code.region id l.toArray true).wp P Q a w := by
  simp only [calmB, Bool.and_eq_true, decide_eq_true_eq, Bool.or_eq_true, Nat.add_zero] at hB
  obtain ⟨⟨⟨⟨⟨hsel, hn⟩, hs⟩, hc⟩, hlex⟩, hseq⟩ := hB
  have hdl : (l.drop k).length = l.toArray.size - k := by simp
  refine wp_region_any hm ?_
  have H := AnyM_lex (P := P) (md := .any) (M := M) (n := k) (g := 0) (w := w) (Lq := fun a' => ∀ a'' w', Kept w w' → RelA M a' a'' w' → wpList P l.toArray Q (l.drop k) a'' w')
    (L := fun listed' a' => listed' = listAll (List.range k) (Array.replicate l.toArray.size false) ∧ ∀ a'' w', Kept w w' → RelA M a' a'' w' → wpList P l.toArray Q (l.drop k) a'' w')
    hs hc (fun listed a' hL => by rw [hL.1]; exact seqB_ready hseq) (List.range k) (Array.replicate l.toArray.size false) a
    (fun i hi => List.mem_range.1 hi) (headInv0 _ _) hlex
    (fun i hi => by have := List.mem_range.1 hi; have h2 : i < l.toArray.size := by omega
                    simp [Array.getElem?_eq_getElem h2])
    (fun a' ha' _ => ⟨rfl, ha'⟩) (by rw [range_ops]; exact h)
  have H2 := wpAny_of_anyM (P := P) (md := .any) (M := M) (Q' := Q) (g := l.toArray.size - k)
    (fun listed a a' w' hL hk hr => by
      have := wpAny_of_seq (P := P) (md := .any) (Q' := Q) (l.drop k) k listed a' w' (fun j => by simp [List.getElem?_drop]) (by rw [hdl, hL.1]; exact hseq) (hL.2 a' w' hk hr)
      rwa [hdl] at this) _ _ a a w.drew H (Kept.drew (Kept.refl w)) (RelA.refl h0)
  rw [List.length_range, show k + 0 + (l.toArray.size - k) = l.toArray.size by omega] at H2
  exact H2

/-! ### The steps of the head -/
variable {ops : Array Oper} {Lq : Act → Prop} {o : Oper} {rest : List Oper}

/-- No mark among the operands. -/
def saneAt (a : Act) : Operand → Bool
  | .tmp t => !isMark (a.tmps.getD t undef)
  | _ => true
def sane (a : Act) (o : Oper) : Bool := o.op.operands.all (saneAt a)
theorem sane_eval {a a' : Act} {o : Oper} {w' : World} (hs : sane a o = true) (hr : ∀ t, Operand.tmp t ∈ o.op.operands → RelV M (a.eval (.tmp t)) (a'.eval (.tmp t)) w') : ∀ x ∈ o.op.operands, a'.eval x = a.eval x := by
  intro x hx
  have h1 := (Array.all_eq_true'.1 hs) x hx
  cases x with
  | tmp t => exact (hr t hx).eq (by simp only [saneAt, Bool.not_eq_true'] at h1; exact h1)
  | _ => rfl

theorem calmM_of {v : Value} (hsel : ∀ cs b, o.op ≠ .select cs b) (hs : sane a o = true) (hv : isMark v = false) (h : calm P o a w v) : calmM M P o a w v := by
  intro a' w' hk hr
  have he : execOp a'.eval o = execOp a.eval o := execOp_congr o hsel (sane_eval hs hr)
  have h3 := h w' hk
  unfold calmAt at h3
  rw [he]
  generalize (execOp a.eval o).run P w' = r at *
  cases r with
  | ok n w1 =>
    cases n <;> simp only [calmUpon] at h3 <;> simp only [calmUponM]
    case value u => obtain ⟨rfl, rfl⟩ := h3; exact ⟨Kept.refl _, RelV.same hv⟩
    case skip => obtain ⟨rfl, rfl⟩ := h3; exact ⟨Kept.refl _, rfl⟩
    case enter f args =>
      obtain ⟨rfl, hc⟩ := h3
      exact ⟨rfl, hc.mono fun e w'' ⟨he, hw''⟩ => ⟨v, he, hw'', RelV.same hv⟩⟩
  | halt x w1 => simp only [calmUpon] at h3

/-- No select: the operation's own word. -/
def noSel (o : Oper) : Bool := match o.op with | .select _ _ => false | _ => true
theorem noSel_spec (h : noSel o = true) : ∀ cs b, o.op ≠ .select cs b := by
  intro cs b he
  unfold noSel at h
  rw [he] at h
  cases h

theorem marks_nil (h : Lq a) : wpCalmM M P ops w Lq [] a := h
theorem marks_step (v : Value) (hw : Region.wanted o (yielded ops a.tmps) = true) (hc : calmM M P o a w v) (h : wpCalmM M P ops w Lq rest (a.put o.dst v)) : wpCalmM M P ops w Lq (o :: rest) a := by
  unfold wpCalmM; rw [if_pos hw]; exact ⟨v, hc, h⟩
theorem marks_skip (hw : Region.wanted o (yielded ops a.tmps) = false) (h : wpCalmM M P ops w Lq rest (a.put o.dst undef)) : wpCalmM M P ops w Lq (o :: rest) a := by
  unfold wpCalmM; rw [if_neg (by rw [hw]; exact Bool.false_ne_true)]; exact h
theorem marks_ex (hw : Region.wanted o (yielded ops a.tmps) = true) (hsel : noSel o = true) (hs : sane a o = true)
    (h : ∃ v, (∀ w', Kept w w' → (execOp a.eval o).run P w' = .ok (.value v) w') ∧ isMark v = false ∧ wpCalmM M P ops w Lq rest (a.put o.dst v)) : wpCalmM M P ops w Lq (o :: rest) a := by
  obtain ⟨v, h1, h0, h2⟩ := h
  exact marks_step v hw (calmM_of (noSel_spec hsel) hs h0 (calm_run v h1)) h2
/-- A conversion of what a mark stands for. -/
theorem calmM_conv {k : Nat} {t : Tmp} {src dst : TypeId} (ho : o.op = .convert src dst (.tmp t)) (hm : a.tmps.getD t undef = .chan (some k)) (v : Value) (hv : isMark v = false)
    (hc : ∀ u w', (M k).is u w' → (convert src dst u).run P w' = .ok v w') : calmM M P o a w v := by
  intro a' w' hk hr
  have h := hr t (by rw [ho]; simp [Op.operands])
  have h2 : RelV M (.chan (some k)) (a'.eval (.tmp t)) w' := by rw [← hm]; exact h
  have h3 := hc _ _ h2.mark
  have : (execOp a'.eval o).run P w' = .ok (.value v) w' := by
    obtain ⟨dst', op, type, pos, after, guard⟩ := o
    simp only at ho
    subst ho
    simp [execOp, h3]
  rw [this]
  exact ⟨Kept.refl _, RelV.same hv⟩
/-- A call whose result is known. -/
theorem marks_call {v : Value} {f : FuncId} {args : Array Value} (hw : Region.wanted o (yielded ops a.tmps) = true) (hsel : noSel o = true) (hs : sane a o = true) (hv : isMark v = false) (hp : Pure P f args v)
    (hr : ∀ w', (execOp a.eval o).run P w' = .ok (.enter f args) w') (h : wpCalmM M P ops w Lq rest (a.put o.dst v)) : wpCalmM M P ops w Lq (o :: rest) a :=
  marks_step v hw (calmM_of (noSel_spec hsel) hs hv (hp.call hr)) h
/-- A contract: whatever the world, a value comes back of which R holds, and what was there is as it was. -/
def Makes (P : Program) (f : FuncId) (args : Array Value) (R : Value → World → Prop) : Prop := ∀ w, Calls P f args w fun e w' => ∃ v, e = .returned v ∧ R v w' ∧ Kept w w'
/-- A call whose result is a mark. -/
theorem marks_make (k : Nat) {f : FuncId} {args : Array Value} {R : Value → World → Prop} (hw : Region.wanted o (yielded ops a.tmps) = true) (hsel : noSel o = true) (hs : sane a o = true) (hp : Makes P f args R)
    (hR : ∀ v w', R v w' → (M k).is v w')
    (hr : ∀ w', (execOp a.eval o).run P w' = .ok (.enter f args) w') (h : wpCalmM M P ops w Lq rest (a.put o.dst (.chan (some k)))) : wpCalmM M P ops w Lq (o :: rest) a := by
  refine marks_step (.chan (some k)) hw ?_ h
  intro a' w' hk hra
  have he : execOp a'.eval o = execOp a.eval o := execOp_congr o (noSel_spec hsel) (sane_eval hs hra)
  rw [he, hr w']
  refine ⟨rfl, (hp w').mono fun e w'' ⟨v, h1, h2, h3⟩ => ⟨v, h1, h3, RelV.of (hR _ _ h2)⟩⟩
end
end Go.Proofs.Ytnajihlhcdedgaa
