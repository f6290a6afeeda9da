/-
  A region whose order is drawn, walked once in the order of the text: its head's operations each yield one value in every later world ('calm'), or lay a new block ('maker'); its tail's operations come in one forced order behind the head.
  Conditions: the Bool 'calmB' over the region's operations, which the kernel reckons.
-/
import Derived.StillTail
import Derived.Below
import Derived.WalkKit
import Derived.Shelf.Abstract
namespace Go.Proofs.Ytnajihlhcdedgaa
open Go.RowKit

/-- Later than w: all blocks of w are as they were. -/
def Kept (w w' : World) : Prop := Below w.heap.size w w'

theorem Kept.refl (w : World) : Kept w w := Below.refl _ _
theorem Kept.trans {a b c : World} (h : Kept a b) (k : Kept b c) : Kept a c :=
  Below.trans h (Below.mono k h.size)
theorem Kept.drew {a w : World} (h : Kept a w) : Kept a w.drew := Below.drew h
theorem Kept.alloc {a w : World} (h : Kept a w) (o : Obj) : Kept a (w.alloc o) := Below.alloc h h.size o
theorem Kept.setCell {a w : World} (h : Kept a w) {p : Addr} (hp : a.heap.size ≤ p.block) (u : Value) : Kept a (w.setCell p u) := Below.setCell h hp u
theorem Kept.block {w w' : World} (h : Kept w w') {b : Nat} {o : Obj} (hb : w.heap[b]? = some o) : w'.heap[b]? = some o := by
  have hlt : b < w.heap.size := (Array.getElem?_eq_some_iff.1 hb).1
  rw [Below.block h b hlt]; exact hb
theorem Kept.cell {w w' : World} (h : Kept w w') {p : Addr} {v : Value} (hb : w.cell? p = some v) : w'.cell? p = some v := by
  have hlt : p.block < w.heap.size := by
    by_cases hlt : p.block < w.heap.size
    · exact hlt
    · have : w.heap[p.block]? = none := Array.getElem?_eq_none (by omega)
      unfold World.cell? at hb
      rw [this] at hb
      cases hb
  rw [Below.cell h hlt]; exact hb

section
variable {P : Program} {ops : Array Oper} {md : Region.Mode}

def calmUpon (P : Program) (w : World) (v : Value) : Result Next → Prop
  | .ok (.value u) w' => w' = w ∧ u = v
  | .ok .skip w' => w' = w ∧ v = undef
  | .ok (.enter f args) w' => w' = w ∧ Calls P f args w (fun e w'' => e = .returned v ∧ Kept w w'')
  | _ => False

def calmAt (P : Program) (o : Oper) (a : Act) (w : World) (v : Value) : Prop := calmUpon P w v ((execOp a.eval o).run P w)

/-- ONE VALUE, IN EVERY LATER WORLD. -/
def calm (P : Program) (o : Oper) (a : Act) (w : World) (v : Value) : Prop := ∀ w', Kept w w' → calmAt P o a w' v

theorem calm.later {o : Oper} {a : Act} {w w' : World} {v : Value} (h : calm P o a w v) (hk : Kept w w') : calm P o a w' v :=
  fun w'' hk' => h w'' (hk.trans hk')

/-- Which operations lay a new block: the value by the block's number, and what it holds. -/
abbrev Makers := Nat → Option ((Nat → Value) × Obj)

def isMaker (P : Program) (o : Oper) (m : (Nat → Value) × Obj) : Prop :=
  o.guard = none ∧ ∀ (a : Act) (w : World), (execOp a.eval o).run P w = .ok (.value (m.1 w.heap.size)) (w.alloc m.2)

def kOp (P : Program) (ops : Array Oper) (mk : Makers) (i : Nat) (K : Act → World → Prop) (a : Act) (w : World) : Prop :=
  match ops[i]? with
  | none => False
  | some o =>
    if Region.wanted o (yielded ops a.tmps) then
      match mk i with
      | none => ∃ v, calm P o a w v ∧ K (a.put o.dst v) w
      | some m => isMaker P o m ∧ ∀ w1, Kept w w1 → K (a.put o.dst (m.1 w1.heap.size)) (w1.alloc m.2)
    else K (a.put o.dst undef) w

theorem kOp_mono {mk : Makers} {i : Nat} {a : Act} {w : World} {K K' : Act → World → Prop} (h : ∀ a w, K a w → K' a w) (hh : kOp P ops mk i K a w) : kOp P ops mk i K' a w := by
  unfold kOp at *
  split
  · rename_i ho; simp only [ho] at hh
  · rename_i o ho
    simp only [ho] at hh
    split
    · rename_i hw
      simp only [hw, if_true] at hh
      split
      · rename_i hm; simp only [hm] at hh; obtain ⟨v, h1, h2⟩ := hh; exact ⟨v, h1, h _ _ h2⟩
      · rename_i m hm; simp only [hm] at hh; exact ⟨hh.1, fun w1 hk => h _ _ (hh.2 w1 hk)⟩
    · rename_i hw; simp only [hw] at hh; exact h _ _ hh

theorem kOp_later {mk : Makers} {i : Nat} {a : Act} {w w' : World} {K : Act → World → Prop} (hK : ∀ a w w', K a w → Kept w w' → K a w') (hh : kOp P ops mk i K a w) (hk : Kept w w') : kOp P ops mk i K a w' := by
  unfold kOp at *
  split
  · rename_i ho; simp only [ho] at hh
  · rename_i o ho
    simp only [ho] at hh
    split
    · rename_i hw
      simp only [hw, if_true] at hh
      split
      · rename_i hm; simp only [hm] at hh; obtain ⟨v, h1, h2⟩ := hh; exact ⟨v, h1.later hk, hK _ _ _ h2 hk⟩
      · rename_i m hm; simp only [hm] at hh; exact ⟨hh.1, fun w1 hk1 => hh.2 w1 (hk.trans hk1)⟩
    · rename_i hw; simp only [hw] at hh; exact hK _ _ _ hh hk

theorem wpOp_of_kOp {mk : Makers} {i : Nat} {a : Act} {w : World} {K : Act → World → Prop} {Q' : Exit → Act → World → Prop} (hK : ∀ a w w', K a w → Kept w w' → K a w') (hh : kOp P ops mk i K a w) : wpOp P ops Q' i K a w := by
  unfold kOp at hh
  unfold wpOp
  split
  · rename_i ho; simp only [ho] at hh
  · rename_i o ho
    simp only [ho] at hh
    split
    · rename_i hw
      simp only [hw, if_true] at hh
      refine .inl ?_
      split at hh
      · obtain ⟨v, h1, h2⟩ := hh
        have h3 := h1 w (Kept.refl w)
        unfold calmAt at h3
        unfold Oper.wp
        generalize (execOp a.eval o).run P w = r at *
        cases r with
        | ok n w' =>
          cases n <;> simp only [calmUpon] at h3 <;> simp only [Oper.upon]
          case value u => obtain ⟨rfl, rfl⟩ := h3; exact h2
          case skip => obtain ⟨rfl, rfl⟩ := h3; exact h2
          case enter f args =>
            obtain ⟨rfl, hc⟩ := h3
            exact hc.mono fun e w'' ⟨he, hw''⟩ => by subst he; exact hK _ _ _ h2 hw''
        | halt x w' => simp only [calmUpon] at h3
      · rename_i m hm
        unfold Oper.wp
        rw [hh.1.2 a w]
        exact hh.2 w (Kept.refl w)
    · rename_i hw; simp only [hw] at hh; exact hh

/-- Whatever order is picked from here on, as long as the head lasts. -/
def AnyK (P : Program) (md : Region.Mode) (ops : Array Oper) (mk : Makers) (n : Nat) (L : Array Bool → Act → World → Prop) : Nat → Array Bool → Act → World → Prop
  | 0, listed, a, w => L listed a w
  | f + 1, listed, a, w =>
    Region.ready md ops listed ≠ [] ∧ ∀ i ∈ Region.ready md ops listed, i < n ∧ kOp P ops mk i (AnyK P md ops mk n L f (listed.setIfInBounds i true)) a w

theorem AnyK_later {mk : Makers} {n : Nat} {L : Array Bool → Act → World → Prop} (hL : ∀ listed a w w', L listed a w → Kept w w' → L listed a w') :
    ∀ (f : Nat) (listed : Array Bool) (a : Act) (w w' : World), AnyK P md ops mk n L f listed a w → Kept w w' → AnyK P md ops mk n L f listed a w'
  | 0, _, _, _, _, h, hk => hL _ _ _ _ h hk
  | f + 1, _, _, _, _, h, hk => ⟨h.1, fun i hi => ⟨(h.2 i hi).1, kOp_later (fun a w w' => AnyK_later hL f _ a w w') (h.2 i hi).2 hk⟩⟩

theorem wpAny_of_anyK {mk : Makers} {n g : Nat} {L : Array Bool → Act → World → Prop} {Q' : Exit → Act → World → Prop} (hL : ∀ listed a w w', L listed a w → Kept w w' → L listed a w')
    (hL' : ∀ listed a w, L listed a w → wpAny P md ops Q' g listed a w) :
    ∀ (f : Nat) (listed : Array Bool) (a : Act) (w : World), AnyK P md ops mk n L f listed a w → wpAny P md ops Q' (f + g) listed a w
  | 0, listed, a, w, h => by rw [Nat.zero_add]; exact hL' _ _ _ h
  | f + 1, listed, a, w, h => by
    rw [show f + 1 + g = (f + g) + 1 by omega]
    exact ⟨fun h0 => absurd h0 h.1, fun i hi => wpOp_mono (fun a' w' h' => wpAny_of_anyK hL hL' f _ a' w' h') (wpOp_of_kOp (fun a w w' => AnyK_later hL f _ a w w') (h.2 i hi).2)⟩

def YieldsK (P : Program) (ops : Array Oper) (o : Oper) (v : Value) (a : Act) (w : World) : Prop :=
  (Region.wanted o (yielded ops a.tmps) = true ∧ calm P o a w v) ∨ (Region.wanted o (yielded ops a.tmps) = false ∧ v = undef)

theorem YieldsK.later {o : Oper} {v : Value} {a : Act} {w w' : World} (h : YieldsK P ops o v a w) (hk : Kept w w') : YieldsK P ops o v a w' :=
  h.imp (fun ⟨h1, h2⟩ => ⟨h1, h2.later hk⟩) id

theorem calm_congr {o : Oper} {v : Value} {a a' : Act} {w : World} (he : execOp a'.eval o = execOp a.eval o) (h : calm P o a w v) : calm P o a' w v := by
  unfold calm calmAt at *
  rw [he]; exact h

theorem YieldsK.of_same {o : Oper} {v : Value} {a a' : Act} {w : World} (hy : YieldsK P ops o v a w) (he : execOp a'.eval o = execOp a.eval o)
    (hw : Region.wanted o (yielded ops a'.tmps) = Region.wanted o (yielded ops a.tmps)) : YieldsK P ops o v a' w := by
  unfold YieldsK at *
  rw [hw]
  exact hy.imp (fun ⟨h1, h2⟩ => ⟨h1, calm_congr he h2⟩) id

theorem YieldsK.kOp {mk : Makers} {i : Nat} {o : Oper} {v : Value} {a : Act} {w : World} (hi : ops[i]? = some o) (hm : mk i = none) (hy : YieldsK P ops o v a w) {K : Act → World → Prop} (h : K (a.put o.dst v) w) : kOp P ops mk i K a w := by
  unfold Go.Proofs.Ytnajihlhcdedgaa.kOp
  simp only [hi, hm]
  rcases hy with ⟨hw, hv⟩ | ⟨hw, rfl⟩
  · simp only [hw, if_true]; exact ⟨v, hv, h⟩
  · simp only [hw, Bool.false_eq_true, if_false]; exact h

/-- One operation 'oj', apart from 'oi'. -/
theorem kOp_put {mk : Makers} {j : Nat} {oi oj : Oper} {v : Value} (hj : ops[j]? = some oj) (hap : oi.apart ops oj = true)
    (hsi : ∀ cs b, oi.op ≠ .select cs b) (hsj : ∀ cs b, oj.op ≠ .select cs b) {K : Act → World → Prop} {a : Act} {w : World}
    (hy : YieldsK P ops oi v a w) (h : kOp P ops mk j K (a.put oi.dst v) w) :
    kOp P ops mk j (fun a' w' => YieldsK P ops oi v a' w' ∧ K (a'.put oi.dst v) w') a w := by
  obtain ⟨h1, h2, h3⟩ := Oper.apart_spec hap
  have keep : ∀ (u : Value) (w' : World), Kept w w' → YieldsK P ops oi v (a.put oj.dst u) w' := fun u w' hk =>
    (hy.later hk).of_same (execOp_put oi hsi a oj.dst u h3) (wanted_put oi a oj.dst u h3)
  unfold kOp at *
  simp only [hj] at *
  rw [wanted_put oj a oi.dst v h1] at h
  split
  · rename_i hw
    simp only [hw, if_true] at h
    split
    · rename_i hm
      simp only [hm] at h
      obtain ⟨u, hu, hn⟩ := h
      exact ⟨u, calm_congr (execOp_put oj hsj a oi.dst v h1).symm hu, keep u w (Kept.refl w), by rw [← Act.put_comm a v u h2]; exact hn⟩
    · rename_i m hm
      simp only [hm] at h
      exact ⟨h.1, fun w1 hk => ⟨keep _ _ (hk.alloc _), by rw [← Act.put_comm a v _ h2]; exact h.2 w1 hk⟩⟩
  · rename_i hw
    simp only [hw] at h
    exact ⟨keep _ w (Kept.refl w), by rw [← Act.put_comm a v undef h2]; exact h⟩

theorem AnyK_first {mk : Makers} {n i : Nat} {oi : Oper} {v : Value} {L : Array Bool → Act → World → Prop} (hi : ops[i]? = some oi) (hsel : ∀ (j : Nat) (o : Oper) cs b, ops[j]? = some o → o.op ≠ .select cs b)
    (hs : Region.sinkB md ops n = true ∨ ops.size ≤ n) (hc : Region.chainB md ops n = true) (hin : i < n) (him : mk i = none)
    (hdone : ∀ listed a w, L listed a w → ∀ j ∈ Region.ready md ops listed, n ≤ j) :
    ∀ (f : Nat) (listed : Array Bool) (a : Act) (w : World), HeadInv md ops n listed →
      (∀ j oj, ops[j]? = some oj → j ≠ i → listed.getD j true = false → (∀ e ∈ oj.after, Region.binds md e = true → e.on ≠ i) → oi.apart ops oj = true) →
      i ∈ Region.ready md ops listed → YieldsK P ops oi v a w →
      AnyK P md ops mk n L f (listed.setIfInBounds i true) (a.put oi.dst v) w → AnyK P md ops mk n L (f + 1) listed a w := by
  have hless : ∀ (listed : Array Bool), HeadInv md ops n listed → listed.getD i true = false → ∀ j ∈ Region.ready md ops listed, j < n := by
    intro listed inv hun j hj
    rcases Nat.lt_or_ge j n with h | h
    · exact h
    · obtain ⟨_, oj, hoj, _⟩ := mem_ready.1 hj
      have hjs : j < ops.size := (Array.getElem?_eq_some_iff.1 hoj).1
      rcases hs with hs | hs
      · exact absurd hj (tail_waits hs hc (by omega) inv _ i rfl hin hun j h)
      · omega
  intro f
  induction f with
  | zero =>
    intro listed a w inv _ hr hy H
    have hun := (mem_ready.1 hr).1
    refine ⟨fun h => (by rw [h] at hr; cases hr), fun j hj => ?_⟩
    have hjn : j < n := hless listed inv hun j hj
    refine ⟨hjn, ?_⟩
    by_cases hji : j = i
    · subst hji; exact hy.kOp hi him H
    · have := hdone _ _ _ H j (ready_mono hj hji)
      omega
  | succ f ih =>
    intro listed a w inv hfree hr hy H
    have hun := (mem_ready.1 hr).1
    refine ⟨fun h => (by rw [h] at hr; cases hr), fun j hj => ?_⟩
    have hjn : j < n := hless listed inv hun j hj
    refine ⟨hjn, ?_⟩
    by_cases hji : j = i
    · subst hji; exact hy.kOp hi him H
    · have h1 := (H.2 j (ready_mono hj hji)).2
      obtain ⟨hjun, oj, hoj, hall⟩ := mem_ready.1 hj
      have hnot : ∀ e ∈ oj.after, Region.binds md e = true → e.on ≠ i := fun e he hb heq => by
        have h1 := hall e he hb
        rw [heq, getD_both hun] at h1
        cases h1
      have h2 := kOp_put hoj (hfree j oj hoj hji hjun hnot) (fun cs b => hsel i oi cs b hi) (fun cs b => hsel j oj cs b hoj) hy h1
      have hfree' : ∀ k ok, ops[k]? = some ok → k ≠ i → (listed.setIfInBounds j true).getD k true = false →
          (∀ e ∈ ok.after, Region.binds md e = true → e.on ≠ i) → oi.apart ops ok = true := fun k ok hk hki hun hno => by
        refine hfree k ok hk hki ?_ hno
        by_cases hjk : j = k
        · subst hjk; exact hjun
        · rw [getD_set_ne true hjk] at hun; exact hun
      refine kOp_mono (fun a' w' h3 => ih (listed.setIfInBounds j true) a' w' (inv.set hj hjn) hfree' (ready_mono hr (Ne.symm hji)) h3.1 ?_) h2
      rw [Array.setIfInBounds_comm _ _ hji]
      exact h3.2

/-! ### The walk of the head in the order of the text; the makers are passed over -/

def wpCalm (P : Program) (ops : Array Oper) (w : World) (Q : Act → Prop) : List Oper → Act → Prop
  | [], a => Q a
  | o :: rest, a => if Region.wanted o (yielded ops a.tmps) then ∃ v, calm P o a w v ∧ wpCalm P ops w Q rest (a.put o.dst v) else wpCalm P ops w Q rest (a.put o.dst undef)

theorem wpCalm_later {w w' : World} {Q : Act → Prop} (hk : Kept w w') : ∀ (l : List Oper) (a : Act), wpCalm P ops w Q l a → wpCalm P ops w' Q l a
  | [], _, h => h
  | o :: rest, a, h => by
    unfold wpCalm at *
    split
    · rename_i hw
      rw [if_pos hw] at h
      obtain ⟨v, h1, h2⟩ := h
      exact ⟨v, h1.later hk, wpCalm_later hk rest _ h2⟩
    · rename_i hw
      rw [if_neg hw] at h
      exact wpCalm_later hk rest _ h

/-- The numbers of the head's operations that are no makers. -/
def calmNums (ms : List Nat) (n : Nat) : List Nat := (List.range n).filter fun i => !ms.contains i

def lexCalm (md : Region.Mode) (ops : Array Oper) : List Nat → Array Bool → Bool
  | [], _ => true
  | k :: ks, listed => (Region.ready md ops listed).contains k && Region.free md ops listed k && lexCalm md ops ks (listed.setIfInBounds k true)

def listAll (ks : List Nat) (listed : Array Bool) : Array Bool := ks.foldl (fun l k => l.setIfInBounds k true) listed

theorem AnyK_lex {mk : Makers} {n g : Nat} {L : Array Bool → Act → World → Prop} {w : World} {Lq : Act → Prop} (hsel : Region.noSelect ops = true)
    (hs : Region.sinkB md ops n = true ∨ ops.size ≤ n) (hc : Region.chainB md ops n = true)
    (hdone : ∀ listed a w, L listed a w → ∀ j ∈ Region.ready md ops listed, n ≤ j) :
    ∀ (ks : List Nat) (listed : Array Bool) (a : Act), (∀ k ∈ ks, k < n ∧ mk k = none) → HeadInv md ops n listed →
      lexCalm md ops ks listed = true → (∀ k ∈ ks, (ops[k]?).isSome = true) →
      (∀ a', Lq a' → HeadInv md ops n (listAll ks listed) → AnyK P md ops mk n L g (listAll ks listed) a' w) →
      wpCalm P ops w Lq (ks.filterMap fun k => ops[k]?) a → AnyK P md ops mk n L (ks.length + g) listed a w
  | [], listed, a, _, inv, _, _, hfin, h => by
    rw [List.length_nil, Nat.zero_add]
    exact hfin a h inv
  | k :: ks, listed, a, hks, inv, hB, hsome, hfin, h => by
    obtain ⟨o, h0⟩ := Option.isSome_iff_exists.1 (hsome k (by simp))
    simp only [lexCalm, Bool.and_eq_true] at hB
    obtain ⟨⟨hr, hf⟩, hB'⟩ := hB
    have hkn := hks k (by simp)
    have hr' : k ∈ Region.ready md ops listed := by simpa using hr
    rw [List.filterMap_cons, h0] at h
    simp only [wpCalm] at h
    have hy : ∃ v, YieldsK P ops o v a w ∧ wpCalm P ops w Lq (ks.filterMap fun k => ops[k]?) (a.put o.dst v) := by
      by_cases hw : Region.wanted o (yielded ops a.tmps) = true
      · simp only [hw, if_true] at h
        obtain ⟨v, h1, h2⟩ := h
        exact ⟨v, .inl ⟨hw, h1⟩, h2⟩
      · simp only [hw] at h
        exact ⟨undef, .inr ⟨by simpa using hw, rfl⟩, h⟩
    obtain ⟨v, hy, hK⟩ := hy
    have hlen : (k :: ks).length + g = ks.length + g + 1 := by simp only [List.length_cons]; omega
    rw [hlen]
    exact AnyK_first h0 (Region.noSelect_spec hsel) hs hc hkn.1 hkn.2 hdone (ks.length + g) listed a w inv (Region.free_spec h0 hf) hr' hy
      (AnyK_lex hsel hs hc hdone ks _ _ (fun k' hk' => hks k' (by simp [hk'])) (inv.set hr' hkn.1) hB' (fun k' hk' => hsome k' (by simp [hk'])) (fun a' ha' inv' => hfin a' ha' inv') hK)

end

/-! ### The region -/

/-- What is asked of the operations: k: how many calm ones stand at the head; m: how many makers stand behind them. -/
def calmB (ops : Array Oper) (k m : Nat) : Bool :=
  Region.noSelect ops && decide (k + m ≤ ops.size) && (Region.sinkB .any ops (k + m) || decide (ops.size ≤ k + m)) && Region.chainB .any ops (k + m) &&
  lexCalm .any ops (List.range k) (Array.replicate ops.size false) &&
  Region.seqB .any ops (ops.size - (k + m)) (k + m) (listAll (List.range' k m) (listAll (List.range k) (Array.replicate ops.size false)))

theorem headInv0 (ops : Array Oper) (n : Nat) : HeadInv .any ops n (Array.replicate ops.size false) :=
  ⟨by simp, fun j oj _ hl => (by rw [getD_replicate_false] at hl; cases hl), fun t _ ht => getD_in (by simpa using ht) (getD_replicate_false _ _)⟩

theorem range_ops (l : List Oper) : ∀ k, ((List.range k).filterMap fun i => l.toArray[i]?) = l.take k
  | 0 => by simp
  | k + 1 => by
    rw [List.range_succ, List.filterMap_append, range_ops l k, List.take_add_one]
    congr 1
    cases h : l[k]? <;> simp [h]

section
variable {P : Program} {Q : Exit → Act → World → Prop} {a : Act} {w : World} {l : List Oper} {id : Nat}

theorem wp_calm_core (k m : Nat) (mk : Makers) (hm : P.follows .mixedOrders = true) (hB : calmB l.toArray k m = true)
    (hmk : ∀ i, i < k → mk i = none) {Lq : Act → Prop}
    (hfin : ∀ a', Lq a' → ∀ listed, listed = listAll (List.range k) (Array.replicate l.toArray.size false) →
      AnyK P .any l.toArray mk (k + m) (fun listed' a'' w'' => listed' = listAll (List.range' k m) listed ∧ ∀ w3, Kept w'' w3 → wpList P l.toArray Q (l.drop (k + m)) a'' w3) m listed a' w.drew)
    (h0 : wpCalm P l.toArray w Lq (l.take k) a) : (Code.region id l.toArray true).wp P Q a w := by
  have h : wpCalm P l.toArray w.drew Lq (l.take k) a := wpCalm_later (Kept.drew (Kept.refl w)) _ _ h0
  simp only [calmB, Bool.and_eq_true, decide_eq_true_eq, Bool.or_eq_true] at hB
  obtain ⟨⟨⟨⟨⟨hsel, hn⟩, hs⟩, hc⟩, hlex⟩, hseq⟩ := hB
  have hdl : (l.drop (k + m)).length = l.toArray.size - (k + m) := by simp
  refine wp_region_any hm ?_
  have H := AnyK_lex (P := P) (md := .any) (mk := mk) (n := k + m) (g := m) (w := w.drew) (Lq := Lq)
    (L := fun listed' a'' w'' => listed' = listAll (List.range' k m) (listAll (List.range k) (Array.replicate l.toArray.size false)) ∧ ∀ w3, Kept w'' w3 → wpList P l.toArray Q (l.drop (k + m)) a'' w3)
    hsel hs hc (fun listed a' w' hL => by rw [hL.1]; exact seqB_ready hseq) (List.range k) (Array.replicate l.toArray.size false) a
    (fun i hi => by have := List.mem_range.1 hi; exact ⟨by omega, hmk i this⟩) (headInv0 _ _) hlex
    (fun i hi => by have := List.mem_range.1 hi; have h2 : i < l.toArray.size := by omega
                    simp [Array.getElem?_eq_getElem h2])
    (fun a' ha' _ => hfin a' ha' _ rfl) (by rw [range_ops]; exact h)
  have H2 := wpAny_of_anyK (P := P) (md := .any) (Q' := Q) (g := l.toArray.size - (k + m)) (fun listed a w w' hL hk => ⟨hL.1, fun w3 hk3 => hL.2 w3 (hk.trans hk3)⟩)
    (fun listed a' w' hL => by
      have := wpAny_of_seq (P := P) (md := .any) (Q' := Q) (l.drop (k + m)) (k + m) listed a' w' (fun j => by simp [List.getElem?_drop]) (by rw [hdl, hL.1]; exact hseq) (hL.2 w' (Kept.refl w'))
      rwa [hdl] at this) _ _ _ _ H
  rw [List.length_range, show k + m + (l.toArray.size - (k + m)) = l.toArray.size by omega] at H2
  exact H2

/-- NO MAKER: one walk of the head, then the tail in every later world. -/
theorem wp_region_calm (k : Nat) (hm : P.follows .mixedOrders = true) (hB : calmB l.toArray k 0 = true)
    (h : wpCalm P l.toArray w (fun a' => ∀ w', Kept w w' → wpList P l.toArray Q (l.drop k) a' w') (l.take k) a) : (Code.region id l.toArray true).wp P Q a w :=
  wp_calm_core k 0 (fun _ => none) hm hB (fun _ _ => rfl) (Lq := fun a' => ∀ w', Kept w w' → wpList P l.toArray Q (l.drop k) a' w')
    (fun _ ha' _ _ => ⟨rfl, fun w3 hk => ha' w3 ((Kept.drew (Kept.refl w)).trans hk)⟩) h

/-- ONE MAKER, behind the k calm ones: its block's number is b. -/
theorem wp_region_calm1 (k : Nat) (o : Oper) (mkr : (Nat → Value) × Obj) (hm : P.follows .mixedOrders = true) (hB : calmB l.toArray k 1 = true)
    (ho : l.toArray[k]? = some o) (hmk : isMaker P o mkr) (hr : Region.ready .any l.toArray (listAll (List.range k) (Array.replicate l.toArray.size false)) = [k])
    (h : wpCalm P l.toArray w (fun a' => ∀ w' b, Kept w w' → w.heap.size ≤ b → w'.heap[b]? = some mkr.2 → wpList P l.toArray Q (l.drop (k + 1)) (a'.put o.dst (mkr.1 b)) w') (l.take k) a) :
    (Code.region id l.toArray true).wp P Q a w := by
  refine wp_calm_core k 1 (fun i => if i = k then some mkr else none) hm hB (fun i hi => by rw [if_neg (by omega)]) (Lq := _) ?_ h
  intro a' ha' listed hl
  rw [AnyK]
  rw [← hl] at hr
  refine ⟨by rw [hr]; simp, fun i hi => ?_⟩
  rw [hr] at hi
  have hik : i = k := by simpa using hi
  subst hik
  refine ⟨by omega, ?_⟩
  unfold kOp
  have hw : Region.wanted o (yielded l.toArray a'.tmps) = true := by simp [Region.wanted, hmk.1]
  simp only [ho, hw, if_true]
  refine ⟨hmk, fun w1 hk => ⟨by simp [listAll, List.range'], fun w3 hk3 => ?_⟩⟩
  have hk1 : Kept w w1 := (Kept.drew (Kept.refl w)).trans hk
  refine ha' w3 w1.heap.size ((hk1.alloc _).trans hk3) hk1.size (hk3.block ?_)
  show (w1.heap.push _)[w1.heap.size]? = _
  simp

/-- TWO MAKERS, behind the k calm ones. -/
theorem wp_region_calm2 (k : Nat) (o1 o2 : Oper) (m1 m2 : (Nat → Value) × Obj) (hm : P.follows .mixedOrders = true) (hB : calmB l.toArray k 2 = true)
    (ho1 : l.toArray[k]? = some o1) (ho2 : l.toArray[k + 1]? = some o2) (hmk1 : isMaker P o1 m1) (hmk2 : isMaker P o2 m2) (hne : ∀ d, o1.dst = some d → o2.dst ≠ some d)
    (hr : Region.ready .any l.toArray (listAll (List.range k) (Array.replicate l.toArray.size false)) = [k, k + 1])
    (hr1 : Region.ready .any l.toArray ((listAll (List.range k) (Array.replicate l.toArray.size false)).setIfInBounds k true) = [k + 1])
    (hr2 : Region.ready .any l.toArray ((listAll (List.range k) (Array.replicate l.toArray.size false)).setIfInBounds (k + 1) true) = [k])
    (h : wpCalm P l.toArray w (fun a' => ∀ w' b1 b2, Kept w w' → w.heap.size ≤ b1 → w.heap.size ≤ b2 → b1 ≠ b2 → w'.heap[b1]? = some m1.2 → w'.heap[b2]? = some m2.2 →
      wpList P l.toArray Q (l.drop (k + 2)) ((a'.put o1.dst (m1.1 b1)).put o2.dst (m2.1 b2)) w') (l.take k) a) :
    (Code.region id l.toArray true).wp P Q a w := by
  refine wp_calm_core k 2 (fun i => if i = k then some m1 else if i = k + 1 then some m2 else none) hm hB (fun i hi => by rw [if_neg (by omega), if_neg (by omega)]) (Lq := _) ?_ h
  intro a' ha' listed hl
  rw [← hl] at hr hr1 hr2
  have hw1 : ∀ b : Act, Region.wanted o1 (yielded l.toArray b.tmps) = true := fun b => by simp [Region.wanted, hmk1.1]
  have hw2 : ∀ b : Act, Region.wanted o2 (yielded l.toArray b.tmps) = true := fun b => by simp [Region.wanted, hmk2.1]
  have e12 : (k + 1 = k) = False := by simp
  have hat : ∀ (w1 : World) (o : Obj), (w1.alloc o).heap[w1.heap.size]? = some o := fun w1 o => by
    show (w1.heap.push _)[w1.heap.size]? = _
    simp
  rw [AnyK]
  refine ⟨by rw [hr]; simp, fun i hi => ?_⟩
  rw [hr] at hi
  have hik : i = k ∨ i = k + 1 := by simpa using hi
  rcases hik with rfl | rfl
  · refine ⟨by omega, ?_⟩
    unfold kOp
    simp only [ho1, hw1, if_true]
    refine ⟨hmk1, fun w1 hk => ?_⟩
    rw [AnyK]
    refine ⟨by rw [hr1]; simp, fun j hj => ?_⟩
    rw [hr1] at hj
    have hjk : j = i + 1 := by simpa using hj
    subst hjk
    refine ⟨by omega, ?_⟩
    unfold kOp
    simp only [ho2, hw2, if_true, e12, if_false]
    refine ⟨hmk2, fun w2 hk2 => ⟨by simp [listAll, List.range'], fun w3 hk3 => ?_⟩⟩
    have hk1 : Kept w w1 := (Kept.drew (Kept.refl w)).trans hk
    have hs1 := hk1.size
    have hs2 := hk2.size
    have hsz : (w1.alloc m1.2).heap.size = w1.heap.size + 1 := by simp
    have hka : Kept (w1.alloc m1.2) w3 := (hk2.alloc _).trans hk3
    exact ha' w3 w1.heap.size w2.heap.size ((hk1.alloc _).trans hka) hs1 (by omega) (by omega) (hka.block (hat _ _)) (hk3.block (hat _ _))
  · refine ⟨by omega, ?_⟩
    unfold kOp
    simp only [ho2, hw2, if_true, e12, if_false]
    refine ⟨hmk2, fun w1 hk => ?_⟩
    rw [AnyK]
    refine ⟨by rw [hr2]; simp, fun j hj => ?_⟩
    rw [hr2] at hj
    have hjk : j = k := by simpa using hj
    subst hjk
    refine ⟨by omega, ?_⟩
    unfold kOp
    simp only [ho1, hw1, if_true]
    refine ⟨hmk1, fun w2 hk2 => ⟨?_, fun w3 hk3 => ?_⟩⟩
    · rw [Array.setIfInBounds_comm _ _ (by omega)]; simp [listAll, List.range']
    have hk1 : Kept w w1 := (Kept.drew (Kept.refl w)).trans hk
    have hs1 := hk1.size
    have hs2 := hk2.size
    have hsz : (w1.alloc m2.2).heap.size = w1.heap.size + 1 := by simp
    have hka : Kept (w1.alloc m2.2) w3 := (hk2.alloc _).trans hk3
    have := ha' w3 w2.heap.size w1.heap.size ((hk1.alloc _).trans hka) (by omega) hs1 (by omega) (hk3.block (hat _ _)) (hka.block (hat _ _))
    rw [Act.put_comm a' _ _ hne] at this
    exact this

/-! ### The steps of the head -/
variable {ops : Array Oper} {Lq : Act → Prop} {o : Oper} {rest : List Oper}

theorem calm_nil (h : Lq a) : wpCalm P ops w Lq [] a := h
theorem calm_step (v : Value) (hw : Region.wanted o (yielded ops a.tmps) = true) (hc : calm P o a w v) (h : wpCalm P ops w Lq rest (a.put o.dst v)) : wpCalm P ops w Lq (o :: rest) a := by
  unfold wpCalm; rw [if_pos hw]; exact ⟨v, hc, h⟩
theorem calm_skip (hw : Region.wanted o (yielded ops a.tmps) = false) (h : wpCalm P ops w Lq rest (a.put o.dst undef)) : wpCalm P ops w Lq (o :: rest) a := by
  unfold wpCalm; rw [if_neg (by rw [hw]; exact Bool.false_ne_true)]; exact h
theorem calm_move (x : Operand) (ho : o.op = .move x) : calm P o a w (a.eval x) := fun w' _ => by
  unfold calmAt
  have : (execOp a.eval o).run P w' = .ok (.value (a.eval x)) w' := by
    obtain ⟨dst, op, type, pos, after, guard⟩ := o
    simp only at ho
    subst ho
    simp [execOp]
  rw [this]; exact ⟨rfl, rfl⟩
/-- An operation that yields v in every later world, and writes nothing. -/
theorem calm_run (v : Value) (h : ∀ w', Kept w w' → (execOp a.eval o).run P w' = .ok (.value v) w') : calm P o a w v := fun w' hk => by
  unfold calmAt; rw [h w' hk]; exact ⟨rfl, rfl⟩
theorem calm_ex (hw : Region.wanted o (yielded ops a.tmps) = true) (h : ∃ v, (∀ w', Kept w w' → (execOp a.eval o).run P w' = .ok (.value v) w') ∧ wpCalm P ops w Lq rest (a.put o.dst v)) : wpCalm P ops w Lq (o :: rest) a := by
  obtain ⟨v, h1, h2⟩ := h
  exact calm_step v hw (calm_run v h1) h2
/-- A call, by its contract in every later world. -/
theorem calm_call (v : Value) (f : FuncId) (args : Array Value) (hr : ∀ w', (execOp a.eval o).run P w' = .ok (.enter f args) w')
    (h : ∀ w', Kept w w' → Calls P f args w' fun e w'' => e = .returned v ∧ Kept w' w'') : calm P o a w v := fun w' hk => by
  unfold calmAt; rw [hr w']; exact ⟨rfl, h w' hk⟩
end

/-- A contract: whatever the world, v comes back, and what was there is as it was. -/
def Pure (P : Program) (f : FuncId) (args : Array Value) (v : Value) : Prop := ∀ w, Calls P f args w fun e w' => e = .returned v ∧ Kept w w'

theorem Kept.cells {w w' : World} (h : Kept w w') : ∀ b o, b < w.heap.size → w'.cell? ⟨b, o, none⟩ = w.cell? ⟨b, o, none⟩ := fun b o hb => Below.cell (p := ⟨b, o, none⟩) h hb
theorem Kept.marks {w w' : World} (h : Kept w w') : ∀ b o, b < w.heap.size → w'.frozen? ⟨b, o, none⟩ = w.frozen? ⟨b, o, none⟩ := fun b o hb => Below.frozen (p := ⟨b, o, none⟩) h hb

theorem Pure.call {P : Program} {f : FuncId} {args : Array Value} {v : Value} {o : Oper} {a : Act} {w : World} (h : Pure P f args v) (hr : ∀ w', (execOp a.eval o).run P w' = .ok (.enter f args) w') : calm P o a w v :=
  calm_call v f args hr fun w' _ => h w'

end Go.Proofs.Ytnajihlhcdedgaa
