/-
  Texts joined: Calm G1 R1 R2 Blk Eq G2 GSumsLaw W1 FA W5 G3 WSums FB RowF K1 Own Mark Mark2 M1 Mark3 Mark4 FC FE G5 FV FV2 G8.
-/
import Derived.StillTail
import Derived.Below
import Derived.WalkKit
import Derived.Shelf.Abstract
import Derived.Test.YtnajihlhcdedgaaRows
import Derived.WalkSpells
import Derived.WalkLawsBesides
import Derived.Lib.Mul64
import Derived.Lib.Hide
import Derived.Laws.Bits64b
import Derived.ChangeKeysEq
import Derived.Laws.StructEq
import Derived.OpenShut
import Derived.Outline
import Derived.Deep.LoopGhost
import Derived.Laws.Rows
import Derived.Laws.Tables
import Derived.Tactics
import Derived.OwnWalk
import Derived.Laws.IdiomStrings
import Derived.Laws.MakeOwn
import Derived.Deep.Cut
import Derived.IntWalk
namespace Go.Proofs.Ytnajihlhcdedgaa
open Go.RowKit
/-- Later than w: all blocks of w are as they were. -/
def Kept (w w' : World) : Prop := Below w.heap.size w w'
theorem Kept.refl (w : World) : Kept w w := Below.refl _ _
theorem Kept.trans {a b c : World} (h : Kept a b) (k : Kept b c) : Kept a c :=
  Below.trans h (Below.mono k h.size)
theorem Kept.drew {a w : World} (h : Kept a w) : Kept a w.drew := Below.drew h
theorem Kept.alloc {a w : World} (h : Kept a w) (o : Obj) : Kept a (w.alloc o) := Below.alloc h h.size o
theorem Kept.setCell {a w : World} (h : Kept a w) {p : Addr} (hp : a.heap.size ≤ p.block) (u : Value) : Kept a (w.setCell p u) := Below.setCell h hp u
theorem Kept.block {w w' : World} (h : Kept w w') {b : Nat} {o : Obj} (hb : w.heap[b]? = some o) : w'.heap[b]? = some o := by
  have hlt : b < w.heap.size := (Array.getElem?_eq_some_iff.1 hb).1
  rw [Below.block h b hlt]; exact hb
theorem Kept.cell {w w' : World} (h : Kept w w') {p : Addr} {v : Value} (hb : w.cell? p = some v) : w'.cell? p = some v := by
  have hlt : p.block < w.heap.size := by
    by_cases hlt : p.block < w.heap.size
    · exact hlt
    · have : w.heap[p.block]? = none := Array.getElem?_eq_none (by omega)
      unfold World.cell? at hb
      rw [this] at hb
      cases hb
  rw [Below.cell h hlt]; exact hb
section
variable {P : Program} {ops : Array Oper} {md : Region.Mode}
def calmUpon (P : Program) (w : World) (v : Value) : Result Next → Prop
  | .ok (.value u) w' => w' = w ∧ u = v
  | .ok .skip w' => w' = w ∧ v = undef
  | .ok (.enter f args) w' => w' = w ∧ Calls P f args w (fun e w'' => e = .returned v ∧ Kept w w'')
  | _ => False
def calmAt (P : Program) (o : Oper) (a : Act) (w : World) (v : Value) : Prop := calmUpon P w v ((execOp a.eval o).run P w)
/-- ONE VALUE, IN EVERY LATER WORLD. -/
def calm (P : Program) (o : Oper) (a : Act) (w : World) (v : Value) : Prop := ∀ w', Kept w w' → calmAt P o a w' v
theorem calm.later {o : Oper} {a : Act} {w w' : World} {v : Value} (h : calm P o a w v) (hk : Kept w w') : calm P o a w' v :=
  fun w'' hk' => h w'' (hk.trans hk')
/-- Which operations lay a new block: the value by the block's number, and what it holds. -/
abbrev Makers := Nat → Option ((Nat → Value) × Obj)
def isMaker (P : Program) (o : Oper) (m : (Nat → Value) × Obj) : Prop :=
  o.guard = none ∧ ∀ (a : Act) (w : World), (execOp a.eval o).run P w = .ok (.value (m.1 w.heap.size)) (w.alloc m.2)
def kOp (P : Program) (ops : Array Oper) (mk : Makers) (i : Nat) (K : Act → World → Prop) (a : Act) (w : World) : Prop :=
  match ops[i]? with
  | none => False
  | some o =>
    if Region.wanted o (yielded ops a.tmps) then
      match mk i with
      | none => ∃ v, calm P o a w v ∧ K (a.put o.dst v) w
      | some m => isMaker P o m ∧ ∀ w1, Kept w w1 → K (a.put o.dst (m.1 w1.heap.size)) (w1.alloc m.2)
    else K (a.put o.dst undef) w
theorem kOp_mono {mk : Makers} {i : Nat} {a : Act} {w : World} {K K' : Act → World → Prop} (h : ∀ a w, K a w → K' a w) (hh : kOp P ops mk i K a w) : kOp P ops mk i K' a w := by
  unfold kOp at *
  split
  · rename_i ho; simp only [ho] at hh
  · rename_i o ho
    simp only [ho] at hh
    split
    · rename_i hw
      simp only [hw, if_true] at hh
      split
      · rename_i hm; simp only [hm] at hh; obtain ⟨v, h1, h2⟩ := hh; exact ⟨v, h1, h _ _ h2⟩
      · rename_i m hm; simp only [hm] at hh; exact ⟨hh.1, fun w1 hk => h _ _ (hh.2 w1 hk)⟩
    · rename_i hw; simp only [hw] at hh; exact h _ _ hh
theorem kOp_later {mk : Makers} {i : Nat} {a : Act} {w w' : World} {K : Act → World → Prop} (hK : ∀ a w w', K a w → Kept w w' → K a w') (hh : kOp P ops mk i K a w) (hk : Kept w w') : kOp P ops mk i K a w' := by
  unfold kOp at *
  split
  · rename_i ho; simp only [ho] at hh
  · rename_i o ho
    simp only [ho] at hh
    split
    · rename_i hw
      simp only [hw, if_true] at hh
      split
      · rename_i hm; simp only [hm] at hh; obtain ⟨v, h1, h2⟩ := hh; exact ⟨v, h1.later hk, hK _ _ _ h2 hk⟩
      · rename_i m hm; simp only [hm] at hh; exact ⟨hh.1, fun w1 hk1 => hh.2 w1 (hk.trans hk1)⟩
    · rename_i hw; simp only [hw] at hh; exact hK _ _ _ hh hk
theorem wpOp_of_kOp {mk : Makers} {i : Nat} {a : Act} {w : World} {K : Act → World → Prop} {Q' : Exit → Act → World → Prop} (hK : ∀ a w w', K a w → Kept w w' → K a w') (hh : kOp P ops mk i K a w) : wpOp P ops Q' i K a w := by
  unfold kOp at hh
  unfold wpOp
  split
  · rename_i ho; simp only [ho] at hh
  · rename_i o ho
    simp only [ho] at hh
    split
    · rename_i hw
      simp only [hw, if_true] at hh
      refine .inl ?_
      split at hh
      · obtain ⟨v, h1, h2⟩ := hh
        have h3 := h1 w (Kept.refl w)
        unfold calmAt at h3
        unfold Oper.wp
        generalize (execOp a.eval o).run P w = r at *
        cases r with
        | ok n w' =>
          cases n <;> simp only [calmUpon] at h3 <;> simp only [Oper.upon]
          case value u => obtain ⟨rfl, rfl⟩ := h3; exact h2
          case skip => obtain ⟨rfl, rfl⟩ := h3; exact h2
          case enter f args =>
            obtain ⟨rfl, hc⟩ := h3
            exact hc.mono fun e w'' ⟨he, hw''⟩ => by subst he; exact hK _ _ _ h2 hw''
        | halt x w' => simp only [calmUpon] at h3
      · rename_i m hm
        unfold Oper.wp
        rw [hh.1.2 a w]
        exact hh.2 w (Kept.refl w)
    · rename_i hw; simp only [hw] at hh; exact hh
/-- Whatever order is picked from here on, as long as the head lasts. -/
def AnyK (P : Program) (md : Region.Mode) (ops : Array Oper) (mk : Makers) (n : Nat) (L : Array Bool → Act → World → Prop) : Nat → Array Bool → Act → World → Prop
  | 0, listed, a, w => L listed a w
  | f + 1, listed, a, w =>
    Region.ready md ops listed ≠ [] ∧ ∀ i ∈ Region.ready md ops listed, i < n ∧ kOp P ops mk i (AnyK P md ops mk n L f (listed.setIfInBounds i true)) a w
theorem AnyK_later {mk : Makers} {n : Nat} {L : Array Bool → Act → World → Prop} (hL : ∀ listed a w w', L listed a w → Kept w w' → L listed a w') :
    ∀ (f : Nat) (listed : Array Bool) (a : Act) (w w' : World), AnyK P md ops mk n L f listed a w → Kept w w' → AnyK P md ops mk n L f listed a w'
  | 0, _, _, _, _, h, hk => hL _ _ _ _ h hk
  | f + 1, _, _, _, _, h, hk => ⟨h.1, fun i hi => ⟨(h.2 i hi).1, kOp_later (fun a w w' => AnyK_later hL f _ a w w') (h.2 i hi).2 hk⟩⟩
theorem wpAny_of_anyK {mk : Makers} {n g : Nat} {L : Array Bool → Act → World → Prop} {Q' : Exit → Act → World → Prop} (hL : ∀ listed a w w', L listed a w → Kept w w' → L listed a w')
    (hL' : ∀ listed a w, L listed a w → wpAny P md ops Q' g listed a w) :
    ∀ (f : Nat) (listed : Array Bool) (a : Act) (w : World), AnyK P md ops mk n L f listed a w → wpAny P md ops Q' (f + g) listed a w
  | 0, listed, a, w, h => by rw [Nat.zero_add]; exact hL' _ _ _ h
  | f + 1, listed, a, w, h => by
    rw [show f + 1 + g = (f + g) + 1 by omega]
    exact ⟨fun h0 => absurd h0 h.1, fun i hi => wpOp_mono (fun a' w' h' => wpAny_of_anyK hL hL' f _ a' w' h') (wpOp_of_kOp (fun a w w' => AnyK_later hL f _ a w w') (h.2 i hi).2)⟩
def YieldsK (P : Program) (ops : Array Oper) (o : Oper) (v : Value) (a : Act) (w : World) : Prop :=
  (Region.wanted o (yielded ops a.tmps) = true ∧ calm P o a w v) ∨ (Region.wanted o (yielded ops a.tmps) = false ∧ v = undef)
theorem YieldsK.later {o : Oper} {v : Value} {a : Act} {w w' : World} (h : YieldsK P ops o v a w) (hk : Kept w w') : YieldsK P ops o v a w' :=
  h.imp (fun ⟨h1, h2⟩ => ⟨h1, h2.later hk⟩) id
theorem calm_congr {o : Oper} {v : Value} {a a' : Act} {w : World} (he : execOp a'.eval o = execOp a.eval o) (h : calm P o a w v) : calm P o a' w v := by
  unfold calm calmAt at *
  rw [he]; exact h
theorem YieldsK.of_same {o : Oper} {v : Value} {a a' : Act} {w : World} (hy : YieldsK P ops o v a w) (he : execOp a'.eval o = execOp a.eval o)
    (hw : Region.wanted o (yielded ops a'.tmps) = Region.wanted o (yielded ops a.tmps)) : YieldsK P ops o v a' w := by
  unfold YieldsK at *
  rw [hw]
  exact hy.imp (fun ⟨h1, h2⟩ => ⟨h1, calm_congr he h2⟩) id
theorem YieldsK.kOp {mk : Makers} {i : Nat} {o : Oper} {v : Value} {a : Act} {w : World} (hi : ops[i]? = some o) (hm : mk i = none) (hy : YieldsK P ops o v a w) {K : Act → World → Prop} (h : K (a.put o.dst v) w) : kOp P ops mk i K a w := by
  unfold Go.Proofs.Ytnajihlhcdedgaa.kOp
  simp only [hi, hm]
  rcases hy with ⟨hw, hv⟩ | ⟨hw, rfl⟩
  · simp only [hw, if_true]; exact ⟨v, hv, h⟩
  · simp only [hw, Bool.false_eq_true, if_false]; exact h
/-- One operation 'oj', apart from 'oi'. -/
theorem kOp_put {mk : Makers} {j : Nat} {oi oj : Oper} {v : Value} (hj : ops[j]? = some oj) (hap : oi.apart ops oj = true)
    (hsi : ∀ cs b, oi.op ≠ .select cs b) (hsj : ∀ cs b, oj.op ≠ .select cs b) {K : Act → World → Prop} {a : Act} {w : World}
    (hy : YieldsK P ops oi v a w) (h : kOp P ops mk j K (a.put oi.dst v) w) :
    kOp P ops mk j (fun a' w' => YieldsK P ops oi v a' w' ∧ K (a'.put oi.dst v) w') a w := by
  obtain ⟨h1, h2, h3⟩ := Oper.apart_spec hap
  have keep : ∀ (u : Value) (w' : World), Kept w w' → YieldsK P ops oi v (a.put oj.dst u) w' := fun u w' hk =>
    (hy.later hk).of_same (execOp_put oi hsi a oj.dst u h3) (wanted_put oi a oj.dst u h3)
  unfold kOp at *
  simp only [hj] at *
  rw [wanted_put oj a oi.dst v h1] at h
  split
  · rename_i hw
    simp only [hw, if_true] at h
    split
    · rename_i hm
      simp only [hm] at h
      obtain ⟨u, hu, hn⟩ := h
      exact ⟨u, calm_congr (execOp_put oj hsj a oi.dst v h1).symm hu, keep u w (Kept.refl w), by rw [← Act.put_comm a v u h2]; exact hn⟩
    · rename_i m hm
      simp only [hm] at h
      exact ⟨h.1, fun w1 hk => ⟨keep _ _ (hk.alloc _), by rw [← Act.put_comm a v _ h2]; exact h.2 w1 hk⟩⟩
  · rename_i hw
    simp only [hw] at h
    exact ⟨keep _ w (Kept.refl w), by rw [← Act.put_comm a v undef h2]; exact h⟩
theorem AnyK_first {mk : Makers} {n i : Nat} {oi : Oper} {v : Value} {L : Array Bool → Act → World → Prop} (hi : ops[i]? = some oi) (hsel : ∀ (j : Nat) (o : Oper) cs b, ops[j]? = some o → o.op ≠ .select cs b)
    (hs : Region.sinkB md ops n = true ∨ ops.size ≤ n) (hc : Region.chainB md ops n = true) (hin : i < n) (him : mk i = none)
    (hdone : ∀ listed a w, L listed a w → ∀ j ∈ Region.ready md ops listed, n ≤ j) :
    ∀ (f : Nat) (listed : Array Bool) (a : Act) (w : World), HeadInv md ops n listed →
      (∀ j oj, ops[j]? = some oj → j ≠ i → listed.getD j true = false → (∀ e ∈ oj.after, Region.binds md e = true → e.on ≠ i) → oi.apart ops oj = true) →
      i ∈ Region.ready md ops listed → YieldsK P ops oi v a w →
      AnyK P md ops mk n L f (listed.setIfInBounds i true) (a.put oi.dst v) w → AnyK P md ops mk n L (f + 1) listed a w := by
  have hless : ∀ (listed : Array Bool), HeadInv md ops n listed → listed.getD i true = false → ∀ j ∈ Region.ready md ops listed, j < n := by
    intro listed inv hun j hj
    rcases Nat.lt_or_ge j n with h | h
    · exact h
    · obtain ⟨_, oj, hoj, _⟩ := mem_ready.1 hj
      have hjs : j < ops.size := (Array.getElem?_eq_some_iff.1 hoj).1
      rcases hs with hs | hs
      · exact absurd hj (tail_waits hs hc (by omega) inv _ i rfl hin hun j h)
      · omega
  intro f
  induction f with
  | zero =>
    intro listed a w inv _ hr hy H
    have hun := (mem_ready.1 hr).1
    refine ⟨fun h => (by rw [h] at hr; cases hr), fun j hj => ?_⟩
    have hjn : j < n := hless listed inv hun j hj
    refine ⟨hjn, ?_⟩
    by_cases hji : j = i
    · subst hji; exact hy.kOp hi him H
    · have := hdone _ _ _ H j (ready_mono hj hji)
      omega
  | succ f ih =>
    intro listed a w inv hfree hr hy H
    have hun := (mem_ready.1 hr).1
    refine ⟨fun h => (by rw [h] at hr; cases hr), fun j hj => ?_⟩
    have hjn : j < n := hless listed inv hun j hj
    refine ⟨hjn, ?_⟩
    by_cases hji : j = i
    · subst hji; exact hy.kOp hi him H
    · have h1 := (H.2 j (ready_mono hj hji)).2
      obtain ⟨hjun, oj, hoj, hall⟩ := mem_ready.1 hj
      have hnot : ∀ e ∈ oj.after, Region.binds md e = true → e.on ≠ i := fun e he hb heq => by
        have h1 := hall e he hb
        rw [heq, getD_both hun] at h1
        cases h1
      have h2 := kOp_put hoj (hfree j oj hoj hji hjun hnot) (fun cs b => hsel i oi cs b hi) (fun cs b => hsel j oj cs b hoj) hy h1
      have hfree' : ∀ k ok, ops[k]? = some ok → k ≠ i → (listed.setIfInBounds j true).getD k true = false →
          (∀ e ∈ ok.after, Region.binds md e = true → e.on ≠ i) → oi.apart ops ok = true := fun k ok hk hki hun hno => by
        refine hfree k ok hk hki ?_ hno
        by_cases hjk : j = k
        · subst hjk; exact hjun
        · rw [getD_set_ne true hjk] at hun; exact hun
      refine kOp_mono (fun a' w' h3 => ih (listed.setIfInBounds j true) a' w' (inv.set hj hjn) hfree' (ready_mono hr (Ne.symm hji)) h3.1 ?_) h2
      rw [Array.setIfInBounds_comm _ _ hji]
      exact h3.2
/-! ### The walk of the head in the order of the text; the makers are passed over -/
def wpCalm (P : Program) (ops : Array Oper) (w : World) (Q : Act → Prop) : List Oper → Act → Prop
  | [], a => Q a
  | o :: rest, a => if Region.wanted o (yielded ops a.tmps) then ∃ v, calm P o a w v ∧ wpCalm P ops w Q rest (a.put o.dst v) else wpCalm P ops w Q rest (a.put o.dst undef)
theorem wpCalm_later {w w' : World} {Q : Act → Prop} (hk : Kept w w') : ∀ (l : List Oper) (a : Act), wpCalm P ops w Q l a → wpCalm P ops w' Q l a
  | [], _, h => h
  | o :: rest, a, h => by
    unfold wpCalm at *
    split
    · rename_i hw
      rw [if_pos hw] at h
      obtain ⟨v, h1, h2⟩ := h
      exact ⟨v, h1.later hk, wpCalm_later hk rest _ h2⟩
    · rename_i hw
      rw [if_neg hw] at h
      exact wpCalm_later hk rest _ h
def lexCalm (md : Region.Mode) (ops : Array Oper) : List Nat → Array Bool → Bool
  | [], _ => true
  | k :: ks, listed => (Region.ready md ops listed).contains k && Region.free md ops listed k && lexCalm md ops ks (listed.setIfInBounds k true)
def listAll (ks : List Nat) (listed : Array Bool) : Array Bool := ks.foldl (fun l k => l.setIfInBounds k true) listed
theorem AnyK_lex {mk : Makers} {n g : Nat} {L : Array Bool → Act → World → Prop} {w : World} {Lq : Act → Prop} (hsel : Region.noSelect ops = true)
    (hs : Region.sinkB md ops n = true ∨ ops.size ≤ n) (hc : Region.chainB md ops n = true)
    (hdone : ∀ listed a w, L listed a w → ∀ j ∈ Region.ready md ops listed, n ≤ j) :
    ∀ (ks : List Nat) (listed : Array Bool) (a : Act), (∀ k ∈ ks, k < n ∧ mk k = none) → HeadInv md ops n listed →
      lexCalm md ops ks listed = true → (∀ k ∈ ks, (ops[k]?).isSome = true) →
      (∀ a', Lq a' → HeadInv md ops n (listAll ks listed) → AnyK P md ops mk n L g (listAll ks listed) a' w) →
      wpCalm P ops w Lq (ks.filterMap fun k => ops[k]?) a → AnyK P md ops mk n L (ks.length + g) listed a w
  | [], listed, a, _, inv, _, _, hfin, h => by
    rw [List.length_nil, Nat.zero_add]
    exact hfin a h inv
  | k :: ks, listed, a, hks, inv, hB, hsome, hfin, h => by
    obtain ⟨o, h0⟩ := Option.isSome_iff_exists.1 (hsome k (by simp))
    simp only [lexCalm, Bool.and_eq_true] at hB
    obtain ⟨⟨hr, hf⟩, hB'⟩ := hB
    have hkn := hks k (by simp)
    have hr' : k ∈ Region.ready md ops listed := by simpa using hr
    rw [List.filterMap_cons, h0] at h
    simp only [wpCalm] at h
    have hy : ∃ v, YieldsK P ops o v a w ∧ wpCalm P ops w Lq (ks.filterMap fun k => ops[k]?) (a.put o.dst v) := by
      by_cases hw : Region.wanted o (yielded ops a.tmps) = true
      · simp only [hw, if_true] at h
        obtain ⟨v, h1, h2⟩ := h
        exact ⟨v, .inl ⟨hw, h1⟩, h2⟩
      · simp only [hw] at h
        exact ⟨undef, .inr ⟨by simpa using hw, rfl⟩, h⟩
    obtain ⟨v, hy, hK⟩ := hy
    have hlen : (k :: ks).length + g = ks.length + g + 1 := by simp only [List.length_cons]; omega
    rw [hlen]
    exact AnyK_first h0 (Region.noSelect_spec hsel) hs hc hkn.1 hkn.2 hdone (ks.length + g) listed a w inv (Region.free_spec h0 hf) hr' hy
      (AnyK_lex hsel hs hc hdone ks _ _ (fun k' hk' => hks k' (by simp [hk'])) (inv.set hr' hkn.1) hB' (fun k' hk' => hsome k' (by simp [hk'])) (fun a' ha' inv' => hfin a' ha' inv') hK)
end
/-! ### The region -/
/-- What is asked of the operations: k: how many calm ones stand at the head; m: how many makers stand behind them. -/
def calmB (ops : Array Oper) (k m : Nat) : Bool :=
  Region.noSelect ops && decide (k + m ≤ ops.size) && (Region.sinkB .any ops (k + m) || decide (ops.size ≤ k + m)) && Region.chainB .any ops (k + m) &&
  lexCalm .any ops (List.range k) (Array.replicate ops.size false) &&
  Region.seqB .any ops (ops.size - (k + m)) (k + m) (listAll (List.range' k m) (listAll (List.range k) (Array.replicate ops.size false)))
theorem headInv0 (ops : Array Oper) (n : Nat) : HeadInv .any ops n (Array.replicate ops.size false) :=
  ⟨by simp, fun j oj _ hl => (by rw [getD_replicate_false] at hl; cases hl), fun t _ ht => getD_in (by simpa using ht) (getD_replicate_false _ _)⟩
theorem range_ops (l : List Oper) : ∀ k, ((List.range k).filterMap fun i => l.toArray[i]?) = l.take k
  | 0 => by simp
  | k + 1 => by
    rw [List.range_succ, List.filterMap_append, range_ops l k, List.take_add_one]
    congr 1
    cases h : l[k]? <;> simp [h]
section
variable {P : Program} {Q : Exit → Act → World → Prop} {a : Act} {w : World} {l : List Oper} {id : Nat}
theorem wp_calm_core (k m : Nat) (mk : Makers) (hm : P.follows .mixedOrders = true) (hB : calmB l.toArray k m = true)
    (hmk : ∀ i, i < k → mk i = none) {Lq : Act → Prop}
    (hfin : ∀ a', Lq a' → ∀ listed, listed = listAll (List.range k) (Array.replicate l.toArray.size false) →
      AnyK P .any l.toArray mk (k + m) (fun listed' a'' w'' => listed' = listAll (List.range' k m) listed ∧ ∀ w3, Kept w'' w3 → wpList P l.toArray Q (l.drop (k + m)) a'' w3) m listed a' w.drew)
    (h0 : wpCalm P l.toArray w Lq (l.take k) a) : (Code.region id l.toArray true).wp P Q a w := by
  have h : wpCalm P l.toArray w.drew Lq (l.take k) a := wpCalm_later (Kept.drew (Kept.refl w)) _ _ h0
  simp only [calmB, Bool.and_eq_true, decide_eq_true_eq, Bool.or_eq_true] at hB
  obtain ⟨⟨⟨⟨⟨hsel, hn⟩, hs⟩, hc⟩, hlex⟩, hseq⟩ := hB
  have hdl : (l.drop (k + m)).length = l.toArray.size - (k + m) := by simp
  refine wp_region_any hm ?_
  have H := AnyK_lex (P := P) (md := .any) (mk := mk) (n := k + m) (g := m) (w := w.drew) (Lq := Lq)
    (L := fun listed' a'' w'' => listed' = listAll (List.range' k m) (listAll (List.range k) (Array.replicate l.toArray.size false)) ∧ ∀ w3, Kept w'' w3 → wpList P l.toArray Q (l.drop (k + m)) a'' w3)
    hsel hs hc (fun listed a' w' hL => by rw [hL.1]; exact seqB_ready hseq) (List.range k) (Array.replicate l.toArray.size false) a
    (fun i hi => by have := List.mem_range.1 hi; exact ⟨by omega, hmk i this⟩) (headInv0 _ _) hlex
    (fun i hi => by have := List.mem_range.1 hi; have h2 : i < l.toArray.size := by omega
                    simp [Array.getElem?_eq_getElem h2])
    (fun a' ha' _ => hfin a' ha' _ rfl) (by rw [range_ops]; exact h)
  have H2 := wpAny_of_anyK (P := P) (md := .any) (Q' := Q) (g := l.toArray.size - (k + m)) (fun listed a w w' hL hk => ⟨hL.1, fun w3 hk3 => hL.2 w3 (hk.trans hk3)⟩)
    (fun listed a' w' hL => by
      have := wpAny_of_seq (P := P) (md := .any) (Q' := Q) (l.drop (k + m)) (k + m) listed a' w' (fun j => by simp [List.getElem?_drop]) (by rw [hdl, hL.1]; exact hseq) (hL.2 w' (Kept.refl w'))
      rwa [hdl] at this) _ _ _ _ H
  rw [List.length_range, show k + m + (l.toArray.size - (k + m)) = l.toArray.size by omega] at H2
  exact H2
/-- NO MAKER: one walk of the head, then the tail in every later world. -/
theorem wp_region_calm (k : Nat) (hm : P.follows .mixedOrders = true) (hB : calmB l.toArray k 0 = true)
    (h : wpCalm P l.toArray w (fun a' => ∀ w', Kept w w' → wpList P l.toArray Q (l.drop k) a' w') (l.take k) a) : (Code.region id l.toArray true).wp P Q a w :=
  wp_calm_core k 0 (fun _ => none) hm hB (fun _ _ => rfl) (Lq := fun a' => ∀ w', Kept w w' → wpList P l.toArray Q (l.drop k) a' w')
    (fun _ ha' _ _ => ⟨rfl, fun w3 hk => ha' w3 ((Kept.drew (Kept.refl w)).trans hk)⟩) h
variable {ops : Array Oper} {Lq : Act → Prop} {o : Oper} {rest : List Oper}
theorem calm_nil (h : Lq a) : wpCalm P ops w Lq [] a := h
theorem calm_step (v : Value) (hw : Region.wanted o (yielded ops a.tmps) = true) (hc : calm P o a w v) (h : wpCalm P ops w Lq rest (a.put o.dst v)) : wpCalm P ops w Lq (o :: rest) a := by
  unfold wpCalm; rw [if_pos hw]; exact ⟨v, hc, h⟩
theorem calm_skip (hw : Region.wanted o (yielded ops a.tmps) = false) (h : wpCalm P ops w Lq rest (a.put o.dst undef)) : wpCalm P ops w Lq (o :: rest) a := by
  unfold wpCalm; rw [if_neg (by rw [hw]; exact Bool.false_ne_true)]; exact h
/-- An operation that yields v in every later world, and writes nothing. -/
theorem calm_run (v : Value) (h : ∀ w', Kept w w' → (execOp a.eval o).run P w' = .ok (.value v) w') : calm P o a w v := fun w' hk => by
  unfold calmAt; rw [h w' hk]; exact ⟨rfl, rfl⟩
theorem calm_ex (hw : Region.wanted o (yielded ops a.tmps) = true) (h : ∃ v, (∀ w', Kept w w' → (execOp a.eval o).run P w' = .ok (.value v) w') ∧ wpCalm P ops w Lq rest (a.put o.dst v)) : wpCalm P ops w Lq (o :: rest) a := by
  obtain ⟨v, h1, h2⟩ := h
  exact calm_step v hw (calm_run v h1) h2
/-- A call, by its contract in every later world. -/
theorem calm_call (v : Value) (f : FuncId) (args : Array Value) (hr : ∀ w', (execOp a.eval o).run P w' = .ok (.enter f args) w')
    (h : ∀ w', Kept w w' → Calls P f args w' fun e w'' => e = .returned v ∧ Kept w' w'') : calm P o a w v := fun w' hk => by
  unfold calmAt; rw [hr w']; exact ⟨rfl, h w' hk⟩
end
/-- A contract: whatever the world, v comes back, and what was there is as it was. -/
def Pure (P : Program) (f : FuncId) (args : Array Value) (v : Value) : Prop := ∀ w, Calls P f args w fun e w' => e = .returned v ∧ Kept w w'
theorem Kept.cells {w w' : World} (h : Kept w w') : ∀ b o, b < w.heap.size → w'.cell? ⟨b, o, none⟩ = w.cell? ⟨b, o, none⟩ := fun b o hb => Below.cell (p := ⟨b, o, none⟩) h hb
theorem Pure.call {P : Program} {f : FuncId} {args : Array Value} {v : Value} {o : Oper} {a : Act} {w : World} (h : Pure P f args v) (hr : ∀ w', (execOp a.eval o).run P w' = .ok (.enter f args) w') : calm P o a w v :=
  calm_call v f args hr fun w' _ => h w'
end Go.Proofs.Ytnajihlhcdedgaa

namespace Go.Proofs.Ytnajihlhcdedgaa
open Go.RowKit
set_option linter.unusedVariables false
namespace Mul64
end Mul64
theorem gold_In (x : Int) (w : World) : Calls Try.prog 34 #[.int .u64 x] w fun e w' => e = .returned (.bool (decide (x < 18446744069414584321))) ∧ w = w' := by
  go_enter Try.func34, Try.ntmps34
  go_wp2
  go_ret
  exact ⟨rfl, rfl⟩
end Go.Proofs.Ytnajihlhcdedgaa

namespace Go.Proofs.Ytnajihlhcdedgaa
open Go.RowKit
set_option linter.unusedVariables false
/-- A number of 64 bits. -/
def is64 (x : Int) : Prop := 0 ≤ x ∧ x ≤ 18446744073709551615
/-- A number of 128 bits. -/
def is128 (x : Int) : Prop := 0 ≤ x ∧ x ≤ 340282366920938463463374607431768211455
/-- A number of 128 bits as an element: its low half, its high one. -/
def E (n : Int) : Value := .agg #[.int .u64 (n % 18446744073709551616), .int .u64 (n / 18446744073709551616)]
theorem E_mk {lo hi : Int} (h : is64 lo) : E (lo + hi * 18446744073709551616) = .agg #[.int .u64 lo, .int .u64 hi] := by
  unfold is64 at h; unfold E
  rw [show (lo + hi * 18446744073709551616) % 18446744073709551616 = lo by omega, show (lo + hi * 18446744073709551616) / 18446744073709551616 = hi by omega]
theorem E_congr {a b : Int} (h : a = b) : E a = E b := by rw [h]
/-- Two moduli. -/
def gP : Int := 18446744069414584321
def wP : Int := 340282366920938462946865773367900766209
/-- The world behind blocks that the call laid. -/
theorem kept2 (w : World) (a b : Obj) : Kept w ((w.alloc a).alloc b) := ((Kept.refl w).alloc _).alloc _
end Go.Proofs.Ytnajihlhcdedgaa

namespace Go.Proofs.Ytnajihlhcdedgaa
open Go.RowKit
set_option linter.unusedVariables false
/-- Which field: its modulus; a number in it. -/
def isF (f : Int) : Prop := f = 1 ∨ f = 2
def rP (f : Int) : Int := if f = 1 then gP else wP
end Go.Proofs.Ytnajihlhcdedgaa

namespace Go.Proofs.Ytnajihlhcdedgaa
open Go.RowKit
set_option linter.unusedVariables false
/-- What block b is. -/
def blkAt (w : World) (b : Nat) : Option Obj := w.heap[b]?
/-- Block b holds the cells cs, none of them frozen. -/
abbrev Blk (w : World) (b : Nat) (t : TypeId) (cs : Array Value) : Prop := blkAt w b = some (.cells cs t (0, 0))
theorem Blk.eq {w : World} {b : Nat} {t : TypeId} {cs : Array Value} (h : Blk w b t cs) : blkAt w b = some (.cells cs t (0, 0)) := h
theorem Blk.heap {w : World} {b : Nat} {t : TypeId} {cs : Array Value} (h : Blk w b t cs) : w.heap[b]? = some (.cells cs t (0, 0)) := h
theorem Blk.of {w : World} {b : Nat} {t : TypeId} {cs : Array Value} (h : w.heap[b]? = some (.cells cs t (0, 0))) : Blk w b t cs := h
theorem Blk.cell {w : World} {b : Nat} {t : TypeId} {cs : Array Value} (h : Blk w b t cs) (i : Nat) {v : Value} (hv : cs[i]? = some v) : w.cell? ⟨b, i, none⟩ = some v := by
  have h := h.heap
  simp [World.cell?, h, hv]
theorem Blk.free {w : World} {b : Nat} {t : TypeId} {cs : Array Value} (h : Blk w b t cs) : ∀ i, w.frozen? ⟨b, i, none⟩ = false := by
  intro i
  have h := h.heap
  simp [World.frozen?, h]
theorem Blk.kept {w w' : World} {b : Nat} {t : TypeId} {cs : Array Value} (h : Blk w b t cs) (hk : Kept w w') : Blk w' b t cs := Blk.of (hk.block h.heap)
theorem Blk.lt {w : World} {b : Nat} {t : TypeId} {cs : Array Value} (h : Blk w b t cs) : b < w.heap.size := (Array.getElem?_eq_some_iff.1 h.heap).1
def Obj.put (o : Obj) (i : Nat) (v : Value) : Obj := match o with | .cells cs t fz => .cells (cs.setIfInBounds i v) t fz | o => o
theorem Obj.put_cells (cs : Array Value) (t : TypeId) (fz : Nat × Nat) (i : Nat) (v : Value) : Obj.put (.cells cs t fz) i v = .cells (cs.setIfInBounds i v) t fz := rfl
theorem blkAt_setCell (w : World) (c i b : Nat) (v : Value) : blkAt (w.setCell ⟨c, i, none⟩ v) b = if c = b then (blkAt w b).map (Obj.put · i v) else blkAt w b := by
  simp only [blkAt, World.setCell, Array.getElem?_modify]
  by_cases h : c = b
  · subst h
    simp only [if_true]
    cases hh : w.heap[c]? with
    | none => simp
    | some o => cases o <;> simp [Obj.put]
  · simp [h]
theorem blkAt_alloc (w : World) (o : Obj) (b : Nat) : blkAt (w.alloc o) b = if b = w.heap.size then some o else blkAt w b := by
  show (w.heap.push o)[b]? = _
  rw [Array.getElem?_push]
  rfl
theorem blkAt_drew (w : World) (b : Nat) : blkAt w.drew b = blkAt w b := rfl
theorem kept_side {w : World} {b i : Nat} (h : w.heap.size ≤ b) : w.heap.size ≤ (⟨b, i, none⟩ : Addr).block := h
/-- The world under a name, of which S is known. -/
theorem abs_calls {P : Program} {f : FuncId} {args : Array Value} {R : Ending → World → Prop} {w : World} (S : World → Prop) (hS : S w) (h : ∀ w', S w' → Calls P f args w' R) : Calls P f args w R := h w hS
theorem abs_world {Q : World → Prop} {w : World} (S : World → Prop) (hS : S w) (h : ∀ w', S w' → Q w') : Q w := h w hS
end Go.Proofs.Ytnajihlhcdedgaa

namespace Go.Proofs.Ytnajihlhcdedgaa
open Go.RowKit
set_option linter.unusedVariables false
section
variable {P : Program} (w : World)
theorem run_part_int {e : TypeId} {k : IntKind} (he : P.underlying e = some (.int k)) {xs : Array Value} {off : Nat} {v : Value} (hx : xs[off]? = some v) : (part e xs off).run P w = .ok v w :=
  run_part_plain w (by unfold Program.plainKey; rw [he]) hx
end
theorem info22' : (Try.prog.info? 22).isSome = true := by kernel_rfl
theorem info22 : ∃ i, Try.prog.info? 22 = some i := Option.isSome_iff_exists.1 info22'
theorem cells22 : Try.prog.cellsOf 22 = 1 := by kernel_rfl
end Go.Proofs.Ytnajihlhcdedgaa

namespace Go.Proofs.Ytnajihlhcdedgaa
open Go.RowKit
set_option linter.unusedVariables false
abbrev Gives (f : FuncId) (args : Array Value) (v : Value) : Prop := ∀ w, Calls Try.prog f args w fun e w' => e = .returned v ∧ w = w'
end Go.Proofs.Ytnajihlhcdedgaa

namespace Go.Proofs.Ytnajihlhcdedgaa
open Go.RowKit
set_option linter.unusedVariables false
theorem E_small {a : Int} (h : is64 a) : E a = .agg #[.int .u64 a, .int .u64 0] := by
  have := E_mk (lo := a) (hi := 0) h
  rw [← this]; exact E_congr (by omega)
theorem rP1 : rP 1 = gP := by unfold rP; rw [if_pos rfl]
end Go.Proofs.Ytnajihlhcdedgaa

namespace Go.Proofs.Ytnajihlhcdedgaa
open Go.RowKit
set_option linter.unusedVariables false
set_option linter.unusedSimpArgs false
attribute [local simp] blkAt_setCell blkAt_alloc blkAt_drew Obj.put_cells
theorem w_P : Pure Try.prog 58 #[] (E wP) := fun w => by
  go_enter Try.func58, Try.ntmps58
  go_wp2
  exact bodyPost_ret (v := .agg #[.int .u64 1, .int .u64 18446744073709551588]) (by simp [results, Try.results58, go_sem]) rfl ⟨rfl, (Kept.refl w).alloc _⟩
theorem w_less_raw (a0 a1 b0 b1 : Int) : Pure Try.prog 118 #[.agg #[.int .u64 a0, .int .u64 a1], .agg #[.int .u64 b0, .int .u64 b1]] (.bool (decide (a1 < b1 ∨ (a1 = b1 ∧ a0 < b0)))) := fun w => by
  by_cases h : a1 < b1
  · go_enter Try.func118, Try.ntmps118
    go_wp2
    go_ret
    exact ⟨by simp [h], kept2 w _ _⟩
  · by_cases g : a1 = b1
    · subst g
      go_enter Try.func118, Try.ntmps118
      go_wp2
      go_ret
      exact ⟨by simp, kept2 w _ _⟩
    · go_enter Try.func118, Try.ntmps118
      go_wp2
      go_ret
      exact ⟨by simp [h, g], kept2 w _ _⟩
theorem w_less {a b : Int} (ha : is128 a) (hb : is128 b) : Pure Try.prog 118 #[E a, E b] (.bool (decide (a < b))) := by
  have := w_less_raw (a % 18446744073709551616) (a / 18446744073709551616) (b % 18446744073709551616) (b / 18446744073709551616)
  have e : (a / 18446744073709551616 < b / 18446744073709551616 ∨ (a / 18446744073709551616 = b / 18446744073709551616 ∧ a % 18446744073709551616 < b % 18446744073709551616)) ↔ a < b := by omega
  rw [decide_eq_decide.2 e] at this
  exact this
set_option maxRecDepth 100000 in
set_option maxHeartbeats 4000000 in
theorem w_In_raw (a0 a1 : Int) (b : Bool) (p : Value) (hP : Pure Try.prog 58 #[] p) (hL : Pure Try.prog 118 #[.agg #[.int .u64 a0, .int .u64 a1], p] (.bool b)) :
    Pure Try.prog 49 #[.agg #[.int .u64 a0, .int .u64 a1]] (.bool b) := fun w => by
  have HP := Lib.hid hP
  have HL := Lib.hid hL
  clear hP hL
  go_enter Try.func49, Try.ntmps49
  go_wp2_with fail
  refine abs_world (fun W => Kept w W ∧ Blk W (w.heap.size) 28 #[.int .u64 a0, .int .u64 a1]) ?_ ?_
  · refine ⟨?_, ?_⟩
    · repeat (first | exact Kept.refl _ | (refine Kept.setCell ?_ (kept_side (by first | assumption | omega)) _) | apply Kept.alloc)
    · simp [Blk, *] <;> (intros; omega)
  rintro W1 ⟨kW1, BW1_0⟩
  have cW1_0_0 : W1.cell? ⟨w.heap.size, 0, none⟩ = some (.int .u64 a0) := BW1_0.cell 0 rfl
  have cW1_0_1 : W1.cell? ⟨w.heap.size, 1, none⟩ = some (.int .u64 a1) := BW1_0.cell 1 rfl
  have fW1_0 := BW1_0.free
  refine wp_region_calm 3 (by kernel_rfl) (by kernel_rfl) ?_
  simp only [List.take_succ_cons, List.take_zero, List.drop_succ_cons, List.drop_zero]
  repeat (first
    | (refine calm_skip rfl ?_; simp only [Act.put, List.setIfInBounds_toArray, List.set_cons_zero, List.set_cons_succ])
    | (refine calm_ex rfl ?_; apply Exists.intro; refine And.intro (fun w' hk => ?_) ?_; (focus (have q0 := hk.cell cW1_0_0; have q1 := hk.cell cW1_0_1; clear hk; go_simp; exact rfl)); simp only [Act.put, List.setIfInBounds_toArray, List.set_cons_zero, List.set_cons_succ])
    | (refine calm_step _ rfl (HP.out.call ?_) ?_; (focus (intro w'; go_simp; done)); simp only [Act.put, List.setIfInBounds_toArray, List.set_cons_zero, List.set_cons_succ])
    | (refine calm_step _ rfl (HL.out.call ?_) ?_; (focus (intro w'; go_simp; done)); simp only [Act.put, List.setIfInBounds_toArray, List.set_cons_zero, List.set_cons_succ]))
  refine calm_nil ?_
  intro W2 hkW2
  have kW2 := kW1.trans hkW2
  have BW2_0 := BW1_0.kept hkW2
  clear cW1_0_0 cW1_0_1 fW1_0 BW1_0 kW1 hkW2
  have cW2_0_0 : W2.cell? ⟨w.heap.size, 0, none⟩ = some (.int .u64 a0) := BW2_0.cell 0 rfl
  have cW2_0_1 : W2.cell? ⟨w.heap.size, 1, none⟩ = some (.int .u64 a1) := BW2_0.cell 1 rfl
  have fW2_0 := BW2_0.free
  go_wp2_with fail
  go_ret
  exact ⟨rfl, kW2⟩
theorem is128_wP : is128 wP := by unfold is128 wP; omega
theorem w_In {a : Int} (ha : is128 a) : Pure Try.prog 49 #[E a] (.bool (decide (a < wP))) := w_In_raw _ _ _ _ w_P (w_less ha is128_wP)
end Go.Proofs.Ytnajihlhcdedgaa

namespace Go.Proofs.Ytnajihlhcdedgaa
open Go.RowKit
set_option linter.unusedVariables false
set_option linter.unusedSimpArgs false
attribute [local simp] blkAt_setCell blkAt_alloc blkAt_drew Obj.put_cells
set_option maxRecDepth 100000 in
set_option maxHeartbeats 4000000 in
theorem f_Size_s  : Pure Try.prog 89 #[.int .u8 1] (.int .i64 8) := fun w => by
  go_enter Try.func89, Try.ntmps89
  go_wp2_with fail
  refine bodyPost_ret (v := .int .i64 8) (by simp [results, Try.results89, go_sem, *]) rfl ⟨rfl, ?_⟩
  repeat (first | exact Kept.refl _ | (refine Kept.setCell ?_ (kept_side (by first | assumption | omega)) _) | apply Kept.alloc | apply Kept.drew)
set_option maxRecDepth 100000 in
set_option maxHeartbeats 4000000 in
theorem f_Size_l  : Pure Try.prog 89 #[.int .u8 2] (.int .i64 16) := fun w => by
  go_enter Try.func89, Try.ntmps89
  go_wp2_with fail
  refine bodyPost_ret (v := .int .i64 16) (by simp [results, Try.results89, go_sem, *]) rfl ⟨rfl, ?_⟩
  repeat (first | exact Kept.refl _ | (refine Kept.setCell ?_ (kept_side (by first | assumption | omega)) _) | apply Kept.alloc | apply Kept.drew)
set_option maxRecDepth 100000 in
set_option maxHeartbeats 4000000 in
theorem f_Valid_s  : Pure Try.prog 108 #[.int .u8 1] (.bool true) := fun w => by
  go_enter Try.func108, Try.ntmps108
  go_wp2_with fail
  refine bodyPost_ret (v := .bool true) (by simp [results, Try.results108, go_sem, *]) rfl ⟨rfl, ?_⟩
  repeat (first | exact Kept.refl _ | (refine Kept.setCell ?_ (kept_side (by first | assumption | omega)) _) | apply Kept.alloc | apply Kept.drew)
set_option maxRecDepth 100000 in
set_option maxHeartbeats 4000000 in
theorem f_Valid_l  : Pure Try.prog 108 #[.int .u8 2] (.bool true) := fun w => by
  go_enter Try.func108, Try.ntmps108
  go_wp2_with fail
  refine bodyPost_ret (v := .bool true) (by simp [results, Try.results108, go_sem, *]) rfl ⟨rfl, ?_⟩
  repeat (first | exact Kept.refl _ | (refine Kept.setCell ?_ (kept_side (by first | assumption | omega)) _) | apply Kept.alloc | apply Kept.drew)
end Go.Proofs.Ytnajihlhcdedgaa

namespace Go.Proofs.Ytnajihlhcdedgaa
open Go.RowKit
set_option linter.unusedVariables false
set_option linter.unusedSimpArgs false
attribute [local simp] blkAt_setCell blkAt_alloc blkAt_drew Obj.put_cells
def l0 (n : Int) : Int := n % 18446744073709551616
def l1 (n : Int) : Int := n / 18446744073709551616 % 18446744073709551616
def l2 (n : Int) : Int := n / 340282366920938463463374607431768211456 % 18446744073709551616
def l3 (n : Int) : Int := n / 6277101735386680763835789423207666416102355444464034512896
end Go.Proofs.Ytnajihlhcdedgaa

namespace Go.Proofs.Ytnajihlhcdedgaa
open Go.RowKit
set_option linter.unusedVariables false
def isG (y : Int) : Prop := 0 ≤ y ∧ y < gP
theorem isG.is64 {y : Int} (h : isG y) : is64 y := by unfold isG gP at h; unfold Go.Proofs.Ytnajihlhcdedgaa.is64; omega
end Go.Proofs.Ytnajihlhcdedgaa

namespace Go.Proofs.Ytnajihlhcdedgaa
open Go.RowKit
set_option linter.unusedVariables false
set_option linter.unusedSimpArgs false
attribute [local simp] blkAt_setCell blkAt_alloc blkAt_drew Obj.put_cells
theorem rP2 : rP 2 = wP := by unfold rP; rw [if_neg (by omega)]
end Go.Proofs.Ytnajihlhcdedgaa

namespace Go.Proofs.Ytnajihlhcdedgaa
open Go.RowKit
set_option linter.unusedVariables false
theorem E_nought : E 0 = .agg #[.int .u64 0, .int .u64 0] := E_small (by unfold is64; omega)
theorem f_Size {f : Int} (hf : isF f) : Pure Try.prog 89 #[.int .u8 f] (.int .i64 (8 * f)) := by
  rcases hf with rfl | rfl
  · exact f_Size_s
  · exact f_Size_l
theorem f_Valid {f : Int} (hf : isF f) : Pure Try.prog 108 #[.int .u8 f] (.bool true) := by
  rcases hf with rfl | rfl
  · exact f_Valid_s
  · exact f_Valid_l
end Go.Proofs.Ytnajihlhcdedgaa

namespace Go.Proofs.Ytnajihlhcdedgaa
open Go.RowKit
set_option linter.unusedVariables false
/-- n cells, by their places. -/
def rowF (n : Nat) (f : Nat → Value) : Array Value := ((List.range n).map f).toArray
theorem rowF_get {n i : Nat} {f : Nat → Value} (h : i < n) : (rowF n f)[i]? = some (f i) := by
  simp [rowF, h]
theorem rowF_congr {n : Nat} {f g : Nat → Value} (h : ∀ i, i < n → f i = g i) : rowF n f = rowF n g := by
  unfold rowF
  congr 1
  exact List.map_congr_left fun i hi => h i (List.mem_range.1 hi)
theorem rowF_set {n i : Nat} {f : Nat → Value} {v : Value} (h : i < n) : (rowF n f).setIfInBounds i v = rowF n (fun j => if j = i then v else f j) := by
  apply Array.ext'
  apply List.ext_getElem?
  intro j
  simp only [rowF, Array.toList_setIfInBounds, List.getElem?_set, List.length_map, List.length_range, List.getElem?_map]
  by_cases hij : i = j
  · subst hij
    simp [h]
  · have hji : j ≠ i := fun e => hij e.symm
    by_cases hj : j < n
    · simp [hij, hj, hji]
    · simp [hij, hj]
theorem rowF_size (n : Nat) (f : Nat → Value) : (rowF n f).size = n := by simp [rowF]
/-- A cell of such a block. -/
theorem Blk.at {w : World} {b n : Nat} {t : TypeId} {f : Nat → Value} (h : Blk w b t (rowF n f)) {i : Nat} (hi : i < n) : w.cell? ⟨b, i, none⟩ = some (f i) := h.cell i (rowF_get hi)
/-- A store into such a block. -/
theorem Blk.set {w : World} {b n : Nat} {t : TypeId} {f g : Nat → Value} (h : Blk w b t (rowF n f)) {i : Nat} {v : Value} (hi : i < n) (hg : ∀ j, j < n → g j = if j = i then v else f j) : Blk (w.setCell ⟨b, i, none⟩ v) b t (rowF n g) := by
  unfold Blk
  rw [blkAt_setCell, if_pos rfl, h.eq]
  simp only [Option.map_some, Obj.put_cells]
  rw [rowF_set hi, rowF_congr hg]
theorem Blk.set_other {w : World} {b c i : Nat} {t : TypeId} {cs : Array Value} (h : Blk w b t cs) (hne : c ≠ b) (v : Value) : Blk (w.setCell ⟨c, i, none⟩ v) b t cs := by
  unfold Blk
  rw [blkAt_setCell, if_neg hne, h.eq]
theorem Blk.drew {w : World} {b : Nat} {t : TypeId} {cs : Array Value} (h : Blk w b t cs) : Blk w.drew b t cs := h
theorem Blk.alloc {w : World} {b : Nat} {t : TypeId} {cs : Array Value} (h : Blk w b t cs) (o : Obj) : Blk (w.alloc o) b t cs := by
  unfold Blk
  rw [blkAt_alloc, if_neg (Nat.ne_of_lt h.lt), h.eq]
theorem Blk.new (w : World) (t : TypeId) (cs : Array Value) : Blk (w.alloc (.cells cs t (0, 0))) w.heap.size t cs := by
  unfold Blk
  rw [blkAt_alloc, if_pos rfl]
/-! ### Whole rows -/
theorem Kept.trans' {a b c : World} (h : Kept a b) (k : Below a.heap.size b c) : Kept a c := Below.trans h k
theorem Blk.setRow {w : World} {b : Nat} {t : TypeId} {old : Array Value} (h : Blk w b t old) (cs : Array Value) : Blk (w.setRow b cs) b t cs := setRow_heap w b old cs t (0, 0) h.heap
theorem Blk.setRow_other {w : World} {b g : Nat} {t : TypeId} {cs : Array Value} (h : Blk w b t cs) (hne : g ≠ b) (new : Array Value) : Blk (w.setRow g new) b t cs := by
  unfold Blk blkAt
  rw [Go.setRow_other w g b new (fun e => hne e.symm)]
  exact h.heap
theorem Kept.setRow {a w : World} (h : Kept a w) {g : Nat} (hg : a.heap.size ≤ g) (cs : Array Value) : Kept a (w.setRow g cs) := by
  refine h.trans' ⟨rfl, rfl, rfl, by simp, fun k hk => ?_⟩
  exact Go.setRow_other w g k cs (by omega)
section
variable {P : Program} {ops : Array Oper} {rest : List Oper} {o : Oper} {a : Act} {w : World} {Q : Exit → Act → World → Prop}
/-- The result lies in a block. -/
theorem ret_blk {fn : Func} {R : Ending → World → Prop} {p : Tmp} {ty : TypeId} (hr : fn.results = #[.cell p ty]) {g : Nat} {t : TypeId} {cs : Array Value} (B : Blk w g t cs) {n : Nat} {e : TypeId} (hu : P.underlying ty = some (.array n e)) (hi : (P.info? ty).map (·.size) = some cs.size)
    (hp : a.tmps.getD p undef = .pointer (some ⟨g, 0, none⟩)) (hd : a.defers = []) (hR : R (.returned (.agg cs)) w) : bodyPost P fn R .ret a w :=
  bodyPost_ret (results_cell_row hr a.tmps w g t cs (0, 0) _ hp B.heap hu rfl hi) hd hR
end
theorem rowF_one {n : Nat} {f : Nat → Value} (h : ∀ i, (f i).oneCell' = true) : (rowF n f).all (·.oneCell') = true := by
  refine Array.all_eq_true_iff_forall_mem.2 fun v hv => ?_
  simp only [rowF, List.mem_toArray, List.mem_map] at hv
  obtain ⟨i, _, rfl⟩ := hv
  exact h i
end Go.Proofs.Ytnajihlhcdedgaa

namespace Go.Proofs.Ytnajihlhcdedgaa
open Go.RowKit
set_option linter.unusedVariables false
/-- Later than w: all blocks of w but b are as they were. -/
structure Touch (b : Nat) (w w' : World) : Prop where
  os : w'.os = w.os
  tape : w'.tape = w.tape
  output : w'.output = w.output
  size : w.heap.size ≤ w'.heap.size
  block : ∀ k, k < w.heap.size → k ≠ b → w'.heap[k]? = w.heap[k]?
theorem Touch.refl (b : Nat) (w : World) : Touch b w w := ⟨rfl, rfl, rfl, Nat.le_refl _, fun _ _ _ => rfl⟩
theorem Touch.of_kept {b : Nat} {w w' : World} (h : Kept w w') : Touch b w w' := ⟨h.os, h.tape, h.output, h.size, fun k hk _ => Below.block h k hk⟩
theorem Touch.trans {b : Nat} {u v w : World} (h : Touch b u v) (k : Touch b v w) : Touch b u w :=
  ⟨k.os.trans h.os, k.tape.trans h.tape, k.output.trans h.output, Nat.le_trans h.size k.size, fun i hi hb => (k.block i (Nat.lt_of_lt_of_le hi h.size) hb).trans (h.block i hi hb)⟩
theorem Touch.kept {a w w' : World} {b : Nat} (h : Kept a w) (hb : a.heap.size ≤ b) (k : Touch b w w') : Kept a w' :=
  ⟨k.os.trans h.os, k.tape.trans h.tape, k.output.trans h.output, Nat.le_trans h.size k.size, fun i hi => (k.block i (Nat.lt_of_lt_of_le hi h.size) (by omega)).trans (Below.block h i hi)⟩
theorem Touch.later {b : Nat} {u v w : World} (h : Touch b u v) (k : Kept v w) : Touch b u w := h.trans (.of_kept k)
/-- Of a block of the call's own nothing is asked. -/
theorem Touch.own {b c : Nat} {u v w : World} (h : Touch b u v) (hc : u.heap.size ≤ c) (k : Touch c v w) : Touch b u w :=
  ⟨k.os.trans h.os, k.tape.trans h.tape, k.output.trans h.output, Nat.le_trans h.size k.size, fun i hi hb => (k.block i (Nat.lt_of_lt_of_le hi h.size) (by omega)).trans (h.block i hi hb)⟩
theorem Touch.set (b : Nat) (w : World) (i : Nat) (v : Value) : Touch b w (w.setCell ⟨b, i, none⟩ v) :=
  ⟨rfl, rfl, rfl, by simp [World.setCell], fun k hk hb => heap_setCell_other w ⟨b, i, none⟩ k v hb⟩
theorem Touch.alloc (b : Nat) (w : World) (o : Obj) : Touch b w (w.alloc o) := .of_kept ((Kept.refl w).alloc o)
theorem Touch.setRow (b : Nat) (w : World) (cs : Array Value) : Touch b w (w.setRow b cs) :=
  ⟨rfl, rfl, rfl, by simp, fun k hk hb => Go.setRow_other w b k cs hb⟩
theorem Touch.blk {b c : Nat} {w w' : World} {t : TypeId} {cs : Array Value} (h : Blk w c t cs) (k : Touch b w w') (hb : c ≠ b) : Blk w' c t cs :=
  Blk.of ((k.block c h.lt hb).trans h.heap)
section
variable {P : Program}
theorem run_storeCells_part (g : Nat) (t : TypeId) : ∀ (vs : List Value) (i : Nat) (cur : Array Value) (w : World), w.heap[g]? = some (.cells cur t (0, 0)) → i + vs.length ≤ cur.size → (∀ v ∈ vs, v.oneCell' = true) →
    (storeCells ⟨g, 0, none⟩ vs i).run P w = .ok () (w.setRow g (cur.toList.take i ++ vs ++ cur.toList.drop (i + vs.length)).toArray)
  | [], i, cur, w, hg, hl, _ => by
    have hlt : g < w.heap.size := (Array.getElem?_eq_some_iff.1 hg).1
    have hv : w.heap[g] = .cells cur t (0, 0) := (Array.getElem?_eq_some_iff.1 hg).2
    simp only [storeCells, List.append_nil, List.length_nil, Nat.add_zero, List.take_append_drop, Array.toArray_toList]
    show Result.ok () w = _
    congr 1
    unfold World.setRow
    cases w with
    | mk heap tape drawn os output =>
      congr 1
      apply Array.ext
      · simp
      · intro k h1 h2
        simp only [Array.getElem_modify]
        split
        · rename_i hk; subst hk; simp at hv; simp [hv]
        · rfl
  | v :: rest, i, cur, w, hg, hl, h1 => by
    have hi : i < cur.size := by simp at hl; omega
    have hadd : (⟨g, 0, none⟩ : Addr).add i = ⟨g, i, none⟩ := by unfold Addr.add; split <;> simp_all
    have hcell : w.cell? ⟨g, i, none⟩ = some cur[i] := by simp [World.cell?, hg, hi]
    have hfro : w.frozen? ⟨g, i, none⟩ = false := by simp [World.frozen?, hg]
    have hst : (store ((⟨g, 0, none⟩ : Addr).add i) v).run P w = .ok () (w.setRow g (cur.setIfInBounds i v)) := by
      rw [hadd, run_store P w _ v _ (h1 v (by simp)), hcell]
      simp [hfro, setCell_eq_setRow w g i cur t (0, 0) v hg]
    have ih := run_storeCells_part g t rest (i + 1) (cur.setIfInBounds i v) (w.setRow g (cur.setIfInBounds i v)) (setRow_heap w g cur _ t _ hg) (by simp at hl ⊢; omega) (fun x hx => h1 x (by simp [hx]))
    simp only [storeCells, Sem.run_bind, hst, Result.andThen_ok, ih, setRow_setRow]
    congr 3
    apply List.ext_getElem?
    intro k
    simp only [Array.toList_setIfInBounds, List.getElem?_append, List.length_append, List.length_take, List.length_set, Array.length_toList, List.getElem?_drop, List.length_cons]
    by_cases hk : k < i
    · simp [hk, show k < i + 1 by omega, show min (i + 1) cur.size = i + 1 by omega, show min i cur.size = i by omega, show i ≠ k by omega, show k < i + 1 + rest.length by omega, show k < i + (rest.length + 1) by omega]
    · by_cases hk2 : k = i
      · subst hk2
        simp [show min (k + 1) cur.size = k + 1 by omega, show min k cur.size = k by omega, show k < k + 1 + rest.length by omega]
      · by_cases hk3 : k < i + 1 + rest.length
        · simp [hk, hk3, show ¬ k < i + 1 by omega, show min (i + 1) cur.size = i + 1 by omega, show min i cur.size = i by omega, show k - i = (k - (i + 1)) + 1 by omega, show k < i + (rest.length + 1) by omega]
        · simp [hk3, show min (i + 1) cur.size = i + 1 by omega, show min i cur.size = i by omega, show ¬ k < i + (rest.length + 1) by omega, show i + 1 + rest.length + (k - (i + 1 + rest.length)) = k by omega, show i + (rest.length + 1) + (k - (i + (rest.length + 1))) = k by omega, show i ≠ k by omega]
theorem rowF_part {n m : Nat} (hm : m ≤ n) (f g : Nat → Value) : ((rowF n f).toList.take 0 ++ (rowF m g).toList ++ (rowF n f).toList.drop (0 + (rowF m g).toList.length)).toArray = rowF n (fun i => if i < m then g i else f i) := by
  apply Array.ext'
  apply List.ext_getElem?
  intro k
  simp only [rowF, List.take_zero, List.nil_append, List.length_map, List.length_range, Nat.zero_add, List.getElem?_append, List.getElem?_map, List.getElem?_drop]
  by_cases hk : k < m
  · simp [hk, show k < n by omega]
  · simp only [hk, if_false, show m + (k - m) = k by omega]
    by_cases hn : k < n
    · simp [hn, hk]
    · simp [hn]
theorem run_storeVar_part (w : World) (g : Nat) (t ty : TypeId) {n m : Nat} (f h : Nat → Value) (B : Blk w g t (rowF n f)) (hm : m ≤ n) (hi : (P.info? ty).map (·.size) = some m) (h1 : ∀ i, (h i).oneCell' = true) :
    (storeVar ty ⟨g, 0, none⟩ (.agg (rowF m h))).run P w = .ok () (w.setRow g (rowF n (fun i => if i < m then h i else f i))) := by
  have hl : (rowF m h).toList.length = m := by simp [rowF]
  have := run_storeCells_part (P := P) g t (rowF m h).toList 0 (rowF n f) w B.heap (by rw [hl, rowF_size]; omega) (fun v hv => (Array.all_eq_true_iff_forall_mem.1 (rowF_one h1)) v (by simpa using hv))
  rw [rowF_part hm] at this
  cases hq : P.info? ty with
  | none => simp [hq] at hi
  | some i =>
    have hs : (rowF m h).size = i.size := by rw [rowF_size]; simp [hq] at hi; omega
    simp [storeVar, sizeOf, typeInfo, hq, Value.cells, hs, this]
theorem run_loadVar_part (w : World) (g : Nat) (t ty : TypeId) {n m k : Nat} {e : TypeId} (f : Nat → Value) (B : Blk w g t (rowF n f)) (hm : m ≤ n) (hu : P.underlying ty = some (.array k e)) (hi : (P.info? ty).map (·.size) = some m) :
    (loadVar ty ⟨g, 0, none⟩).run P w = .ok (.agg (rowF m f)) w := by
  have hl : (loadCells ⟨g, 0, none⟩ (rowF m f).toList.length).run P w = .ok (rowF m f).toList.toArray w :=
    run_loadCells_list (P := P) w ⟨g, 0, none⟩ (rowF m f).toList (fun j v hv => by
      have hadd : (⟨g, 0, none⟩ : Addr).add j = ⟨g, j, none⟩ := by unfold Addr.add; split <;> simp_all
      have hj : j < m := by have := (List.getElem?_eq_some_iff.1 hv).1; simpa [rowF] using this
      rw [hadd, B.at (i := j) (by omega)]
      rw [← hv, Array.getElem?_toList, rowF_get hj])
  cases hq : P.info? ty with
  | none => simp [hq] at hi
  | some i =>
    have hs : i.size = m := by simpa [hq] using hi
    have hagg : (isAgg ty).run P w = .ok true w := by
      unfold isAgg
      rw [Sem.run_bind, run_underlying hu w]
      rfl
    simp only [Array.length_toList, Array.toArray_toList, rowF_size] at hl
    simp [loadVar, Sem.run_bind, hagg, sizeOf, typeInfo, hq, hs, hl]
variable {ops : Array Oper} {rest : List Oper} {o : Oper} {a : Act} {w : World} {Q : Exit → Act → World → Prop}
/-- The first cells of a block are read whole. -/
theorem wpList_load_part (ty : TypeId) (x : Operand) {g : Nat} {t : TypeId} {n m k : Nat} {e : TypeId} {f : Nat → Value} (B : Blk w g t (rowF n f)) (hm : m ≤ n) (hu : P.underlying ty = some (.array k e)) (hi : (P.info? ty).map (·.size) = some m)
    (hgd : o.guard = none) (ho : o.op = .load ty x) (hx : a.eval x = .pointer (some ⟨g, 0, none⟩))
    (h : wpList P ops Q rest (a.put o.dst (.agg (rowF m f))) w) : wpList P ops Q (o :: rest) a w := by
  refine wpList_plain hgd fun _ hK => ?_
  unfold Oper.wp execOp
  simp only [ho, hx, Instr.loadAt, Instr.sureAddr, Sem.run_bind, Sem.run_pure, Result.andThen_ok, run_loadVar_part w g t ty f B hm hu hi]
  exact hK _ _ h
/-- The first cells of a block are written whole. -/
theorem wpList_store_part (ty : TypeId) (x y : Operand) {g : Nat} {t : TypeId} {n m : Nat} {f h' : Nat → Value} (B : Blk w g t (rowF n f)) (hm : m ≤ n) (hi : (P.info? ty).map (·.size) = some m) (h1 : ∀ i, (h' i).oneCell' = true)
    (hgd : o.guard = none) (ho : o.op = .store ty x y) (hx : a.eval x = .pointer (some ⟨g, 0, none⟩)) (hy : a.eval y = .agg (rowF m h'))
    (h : wpList P ops Q rest (a.put o.dst undef) (w.setRow g (rowF n (fun i => if i < m then h' i else f i)))) : wpList P ops Q (o :: rest) a w := by
  refine wpList_plain hgd fun _ hK => ?_
  unfold Oper.wp execOp
  simp only [ho, hx, hy, Instr.storeAt, Instr.sureAddr, Sem.run_bind, Sem.run_pure, Result.andThen_ok, run_storeVar_part w g t ty f h' B hm hi h1]
  exact hK _ _ h
end
/-- 25 lanes, and what stands behind them. -/
def lanes (s : Nat → Int) (f : Nat → Value) (i : Nat) : Value := if i < 25 then .int .u64 (s i) else f i
theorem Blk.lane {w : World} {b n : Nat} {t : TypeId} {s : Nat → Int} {f : Nat → Value} (h : Blk w b t (rowF n (lanes s f))) (hn : 25 ≤ n) {i : Nat} (hi : i < 25) : w.cell? ⟨b, i, none⟩ = some (.int .u64 (s i)) := by
  have := h.at (i := i) (by omega)
  simpa [lanes, hi] using this
theorem Blk.setLane {w : World} {b n : Nat} {t : TypeId} {s s' : Nat → Int} {f : Nat → Value} (h : Blk w b t (rowF n (lanes s f))) (hn : 25 ≤ n) {i : Nat} (hi : i < 25) {x : Int} (hs : ∀ j, j < 25 → s' j = if j = i then x else s j) :
    Blk (w.setCell ⟨b, i, none⟩ (.int .u64 x)) b t (rowF n (lanes s' f)) := by
  refine h.set (by omega) fun j hj => ?_
  by_cases h25 : j < 25
  · simp only [lanes, h25, if_true, hs j h25]
    split <;> rfl
  · simp only [lanes, h25, if_false]
    rw [if_neg (by omega)]
theorem lanes_congr {n : Nat} {s s' : Nat → Int} {f : Nat → Value} (h : ∀ i, i < 25 → s i = s' i) : rowF n (lanes s f) = rowF n (lanes s' f) :=
  rowF_congr fun i _ => by
    by_cases h25 : i < 25
    · simp [lanes, h25, h i h25]
    · simp [lanes, h25]
theorem lanes_part {n : Nat} {s s' : Nat → Int} {f : Nat → Value} : rowF n (fun i => if i < 25 then Value.int .u64 (s' i) else lanes s f i) = rowF n (lanes s' f) :=
  rowF_congr fun i _ => by
    by_cases h25 : i < 25
    · simp [lanes, h25]
    · simp [lanes, h25]
end Go.Proofs.Ytnajihlhcdedgaa

namespace Go.Proofs.Ytnajihlhcdedgaa
open Go.RowKit
set_option linter.unusedVariables false
/-- A slice reads as xs (elements of one cell). -/
def Reads (w : World) (v : Value) (xs : List Value) : Prop :=
  (v = .slice none 0 0 ∧ xs = []) ∨ ∃ b o cap, v = .slice (some ⟨b, o, none⟩) xs.length cap ∧ xs.length ≤ cap ∧ ∀ j u, xs[j]? = some u → w.cell? ⟨b, o + j, none⟩ = some u
theorem Reads.kept {w w' : World} {v : Value} {xs : List Value} (h : Reads w v xs) (hk : Kept w w') : Reads w' v xs := by
  rcases h with h | ⟨b, o, cap, h1, h2, h3⟩
  · exact .inl h
  · exact .inr ⟨b, o, cap, h1, h2, fun j u hj => hk.cell (h3 j u hj)⟩
theorem ownsRow_kept {w w' : World} {base : Nat} {e : TypeId} {size : Nat} {v : Value} {n : Nat} {xs : List Value} (h : w.ownsRow base e size v n xs) (hk : Kept w w') : w'.ownsRow base e size v n xs := by
  refine ⟨h.1, ?_⟩
  rcases h.2 with h2 | ⟨g, cap, cur, h1, h2, h3, h4⟩
  · exact .inl h2
  · exact .inr ⟨g, cap, cur, h1, h2, hk.block h3, h4⟩
theorem reads_of_own {w : World} {base : Nat} {e : TypeId} {v : Value} {n : Nat} {xs : List Value} (h : w.ownsRow base e 1 v n xs) : Reads w v xs := by
  have hl := h.1
  rcases h.2 with ⟨rfl, rfl⟩ | ⟨g, cap, cur, rfl, hb, hg, hc, _, hs, ht⟩
  · exact .inl ⟨rfl, List.eq_nil_of_length_eq_zero (by simpa using hl)⟩
  · have hn : xs.length = n := by omega
    subst hn
    refine .inr ⟨g, 0, cap, rfl, hc, fun j u hj => ?_⟩
    have := h.cells (g := g) rfl j u hj
    have hadd : (⟨g, 0, none⟩ : Addr).add j = ⟨g, 0 + j, none⟩ := by rw [Addr.add_lit]
    rwa [hadd] at this
section
variable {P : Program}
end
theorem grown_kept {w wr w1 : World} {v : Value} {base n size : Nat} {e : TypeId} {xs : List Value} (hk : Kept w wr) (hown : wr.ownsRow base e size v n xs) (hg : wr.grownBy w1 v.ownBlock) (hb : w.heap.size ≤ base) : Kept w w1 :=
  Below.grown hk hg hk.size fun k h => Nat.le_trans hb (hown.lt k h).1
theorem grown_blk {wr w1 : World} {v : Value} {base n size b : Nat} {e t : TypeId} {xs : List Value} {cs : Array Value} (hB : Blk wr b t cs) (hown : wr.ownsRow base e size v n xs) (hg : wr.grownBy w1 v.ownBlock) (hb : b < base) : Blk w1 b t cs := by
  refine Blk.of ?_
  rw [hg.block b hB.lt ?_]
  · exact hB.heap
  · intro he
    have := (hown.lt b he.symm).1
    omega
/-- Bytes as a string. -/
def strOf (bs : List Int) : ByteArray := ⟨(bs.map fun b => UInt8.ofNat b.toNat).toArray⟩
theorem conv_str {P : Program} {src dst e : TypeId} (hs : P.underlying src = some (.slice e)) (he : P.underlying e = some (.int .u8)) (hd : P.underlying dst = some .string) (w : World) {b o cap : Nat} {bs : List Int} (hb : ∀ x ∈ bs, 0 ≤ x ∧ x ≤ 255)
    (hc : ∀ j, j < bs.length → w.cell? ⟨b, o + j, none⟩ = some (.int .u8 (bs.getD j 0))) :
    (convert src dst (.slice (some ⟨b, o, none⟩) bs.length cap)).run P w = .ok (.string (strOf bs)) w := by
  have h := run_convert_bytes_back (P := P) w src dst e ⟨b, o, none⟩ cap (bs.map fun b => UInt8.ofNat b.toNat) hs he hd (by
    intro j hj
    have hj' : j < bs.length := by simpa using hj
    have hadd : (⟨b, o, none⟩ : Addr).add j = ⟨b, o + j, none⟩ := by rw [Addr.add_lit]
    rw [hadd, hc j hj']
    have := hb bs[j] (List.getElem_mem hj')
    rw [List.getD_eq_getElem?_getD, List.getElem?_eq_getElem hj']
    simp only [List.getElem_map, Option.getD_some, UInt8.toNat_ofNat']
    congr 2
    omega)
  rw [List.length_map] at h
  exact h
theorem info5 : (Try.prog.info? 5).map (fun i => (i.zero, i.size, i.bytes)) = some (some (.int .u8 0), 1, 1) := by kernel_rfl
end Go.Proofs.Ytnajihlhcdedgaa

namespace Go.Proofs.Ytnajihlhcdedgaa
open Go.RowKit
set_option linter.unusedVariables false
/-- What a mark stands for: it holds in every later world; it is no bool. -/
structure Mean where
  is : Value → World → Prop
  later : ∀ v w w', is v w → Kept w w' → is v w'
  noBool : ∀ b w, ¬ is (.bool b) w
/-- The marks' meanings. -/
abbrev Means := Nat → Mean
def isMark : Value → Bool
  | .chan (some _) => true
  | _ => false
def RelV (M : Means) : Value → Value → World → Prop
  | .chan (some k), v, w => (M k).is v w
  | m, v, _ => v = m
theorem RelV.eq {M : Means} {m v : Value} {w : World} (hm : isMark m = false) (h : RelV M m v w) : v = m := by
  unfold RelV at h
  split at h
  · cases hm
  · exact h
theorem RelV.same {M : Means} {m : Value} {w : World} (hm : isMark m = false) : RelV M m m w := by
  unfold RelV
  split
  · cases hm
  · rfl
theorem RelV.mark {M : Means} {k : Nat} {v : Value} {w : World} (h : RelV M (.chan (some k)) v w) : (M k).is v w := h
theorem RelV.of {M : Means} {k : Nat} {v : Value} {w : World} (h : (M k).is v w) : RelV M (.chan (some k)) v w := h
theorem RelV.later {M : Means} {m v : Value} {w w' : World} (h : RelV M m v w) (hk : Kept w w') : RelV M m v w' := by
  unfold RelV at *
  split
  · rename_i k; exact (M k).later _ _ _ h hk
  · rename_i hh; split at h
    · rename_i k' ; exact absurd rfl (hh k')
    · exact h
theorem RelV.bool {M : Means} {m v : Value} {w : World} (h : RelV M m v w) (b : Bool) : v = .bool b ↔ m = .bool b := by
  cases hm : isMark m with
  | false => rw [h.eq hm]
  | true =>
    cases m <;> simp only [isMark, Bool.false_eq_true] at hm
    rename_i r
    cases r with
    | none => cases hm
    | some k =>
      refine ⟨fun e => ?_, fun e => by cases e⟩
      subst e
      exact absurd h.mark ((M k).noBool b w)
/-- The act that runs, against the act that is walked. -/
structure RelA (M : Means) (a a' : Act) (w : World) : Prop where
  defers : a'.defers = a.defers
  size : a'.tmps.size = a.tmps.size
  slot : ∀ t, RelV M (a.tmps.getD t undef) (a'.tmps.getD t undef) w
theorem RelA.later {M : Means} {a a' : Act} {w w' : World} (h : RelA M a a' w) (hk : Kept w w') : RelA M a a' w' := ⟨h.defers, h.size, fun t => (h.slot t).later hk⟩
theorem RelA.put {M : Means} {a a' : Act} {w : World} (h : RelA M a a' w) (dst : Option Tmp) {m v : Value} (hv : RelV M m v w) : RelA M (a.put dst m) (a'.put dst v) w := by
  cases dst with
  | none => exact h
  | some d =>
    refine ⟨h.defers, by simp [Act.put, h.size], fun t => ?_⟩
    have hs := h.slot t
    simp only [Act.put, Array.getD_eq_getD_getElem?, Array.getElem?_setIfInBounds] at hs ⊢
    by_cases hd : d = t
    · subst hd
      simp only [if_true, h.size]
      by_cases hlt : d < a.tmps.size
      · simp only [hlt, if_true, Option.getD_some]; exact hv
      · simp only [hlt, if_false, Option.getD_none]
        exact RelV.same rfl
    · simp only [hd, if_false]; exact hs
theorem RelA.yielded {M : Means} {a a' : Act} {w : World} (h : RelA M a a' w) (ops : Array Oper) (j : Nat) : Go.yielded ops a'.tmps j = Go.yielded ops a.tmps j := by
  unfold Go.yielded
  cases ho : (ops[j]?).bind (·.dst) with
  | none => rfl
  | some t =>
    simp only [Option.bind_some]
    have hs := h.slot t
    have hz := h.size
    simp only [Array.getD_eq_getD_getElem?] at hs
    by_cases hlt : t < a.tmps.size
    · have hlt' : t < a'.tmps.size := by rw [h.size]; exact hlt
      rw [Array.getElem?_eq_getElem hlt, Array.getElem?_eq_getElem hlt'] at hs ⊢
      simp only [Option.getD_some] at hs
      have hb := hs.bool
      cases hv : a.tmps[t] with
      | bool b =>
        rw [hv] at hb
        rw [(hb b).2 rfl]
      | _ =>
        rw [hv] at hb
        cases hv' : a'.tmps[t] with
        | bool b => exact absurd ((hb b).1 hv') (by intro e; cases e)
        | _ => rfl
    · rw [Array.getElem?_eq_none (by rw [h.size]; exact Nat.le_of_not_lt hlt), Array.getElem?_eq_none (Nat.le_of_not_lt hlt)]
theorem RelA.wanted {M : Means} {a a' : Act} {w : World} (h : RelA M a a' w) (ops : Array Oper) (o : Oper) : Region.wanted o (Go.yielded ops a'.tmps) = Region.wanted o (Go.yielded ops a.tmps) := by
  have : Go.yielded ops a'.tmps = Go.yielded ops a.tmps := funext fun j => h.yielded ops j
  rw [this]
/-- No mark but at slot t (t at or beyond the size: none). -/
def markFree (a : Act) (ts : List Nat) : Bool := (List.range a.tmps.size).all fun t => ts.contains t || !isMark (a.tmps.getD t undef)
theorem RelA.refl {M : Means} {a : Act} {w : World} (h : markFree a [] = true) : RelA M a a w := by
  refine ⟨rfl, rfl, fun t => RelV.same ?_⟩
  by_cases hlt : t < a.tmps.size
  · have := List.all_eq_true.1 h t (List.mem_range.2 hlt)
    simpa using this
  · simp [hlt]
    rfl
theorem RelA.one {M : Means} {a a' : Act} {w : World} (h : RelA M a a' w) (ts : List Nat) (hf : markFree a ts = true) : ∀ t, t ∉ ts → a'.tmps.getD t undef = a.tmps.getD t undef := by
  intro t ht
  refine (h.slot t).eq ?_
  by_cases hlt : t < a.tmps.size
  · have := List.all_eq_true.1 hf t (List.mem_range.2 hlt)
    simpa [ht] using this
  · simp [hlt]
    rfl
theorem Act.ext' {a a' : Act} (hd : a'.defers = a.defers) (hs : a'.tmps.size = a.tmps.size) (ht : ∀ t, t < a.tmps.size → a'.tmps.getD t undef = a.tmps.getD t undef) : a' = a := by
  obtain ⟨x, d⟩ := a
  obtain ⟨x', d'⟩ := a'
  simp only at *
  subst hd
  congr 1
  apply Array.ext hs
  intro i h1 h2
  have := ht i h2
  simpa [h1, h2] using this
theorem RelA.mark0 {M : Means} {a a' : Act} {w : World} (h : RelA M a a' w) (hf : markFree a [] = true) : a' = a :=
  Act.ext' h.defers h.size fun t _ => h.one [] hf t (by simp)
theorem RelA.mark1 {M : Means} {a a' : Act} {w : World} (h : RelA M a a' w) (t k : Nat) (hf : markFree a [t] = true) (hm : a.tmps.getD t undef = .chan (some k)) : ∃ x, (M k).is x w ∧ a' = a.put (some t) x := by
  refine ⟨a'.tmps.getD t undef, ?_, ?_⟩
  · have := h.slot t
    rw [hm] at this
    exact this.mark
  · refine Act.ext' h.defers (by simp [Act.put, h.size]) fun i hi => ?_
    simp only [Act.put, Array.size_setIfInBounds] at hi
    by_cases hti : t = i
    · subst hti
      simp [Act.put, hi]
    · rw [h.one [t] hf i (by simp; omega)]
      simp [Act.put, hti]
theorem RelA.mark2 {M : Means} {a a' : Act} {w : World} (h : RelA M a a' w) (t k u l : Nat) (htu : t ≠ u) (hf : markFree a [t, u] = true) (hm : a.tmps.getD t undef = .chan (some k)) (hn : a.tmps.getD u undef = .chan (some l)) :
    ∃ x y, (M k).is x w ∧ (M l).is y w ∧ a' = (a.put (some t) x).put (some u) y := by
  refine ⟨a'.tmps.getD t undef, a'.tmps.getD u undef, ?_, ?_, ?_⟩
  · have := h.slot t
    rw [hm] at this
    exact this.mark
  · have := h.slot u
    rw [hn] at this
    exact this.mark
  · refine Act.ext' h.defers (by simp [Act.put, h.size]) fun i hi => ?_
    simp only [Act.put, Array.size_setIfInBounds] at hi
    by_cases hui : u = i
    · subst hui
      simp [Act.put, hi]
    · by_cases hti : t = i
      · subst hti
        simp [Act.put, hi, hui]
      · rw [h.one [t, u] hf i (by simp; omega)]
        simp [Act.put, hti, hui]
section
variable {P : Program} {ops : Array Oper} {md : Region.Mode} {M : Means} {w : World}
def calmUponM (M : Means) (P : Program) (w : World) (v : Value) : Result Next → Prop
  | .ok (.value u) w' => Kept w w' ∧ RelV M v u w'
  | .ok .skip w' => Kept w w' ∧ v = undef
  | .ok (.enter f args) w' => w' = w ∧ Calls P f args w (fun e w'' => ∃ u, e = .returned u ∧ Kept w w'' ∧ RelV M v u w'')
  | _ => False
/-- ONE VALUE OR MARK, IN EVERY LATER WORLD, WHATEVER THE MARKS AMONG THE OPERANDS STAND FOR. -/
def calmM (M : Means) (P : Program) (o : Oper) (a : Act) (w : World) (v : Value) : Prop :=
  ∀ (a' : Act) w', Kept w w' → (∀ t, Operand.tmp t ∈ o.op.operands → RelV M (a.eval (.tmp t)) (a'.eval (.tmp t)) w') → calmUponM M P w' v ((execOp a'.eval o).run P w')
def kOpM (M : Means) (P : Program) (ops : Array Oper) (w : World) (i : Nat) (K : Act → Prop) (a : Act) : Prop :=
  match ops[i]? with
  | none => False
  | some o => if Region.wanted o (yielded ops a.tmps) then ∃ v, calmM M P o a w v ∧ K (a.put o.dst v) else K (a.put o.dst undef)
theorem kOpM_mono {i : Nat} {a : Act} {K K' : Act → Prop} (h : ∀ a, K a → K' a) (hh : kOpM M P ops w i K a) : kOpM M P ops w i K' a := by
  unfold kOpM at *
  split
  · rename_i ho; simp only [ho] at hh
  · rename_i o ho
    simp only [ho] at hh
    split
    · rename_i hw
      simp only [hw, if_true] at hh
      obtain ⟨v, h1, h2⟩ := hh; exact ⟨v, h1, h _ h2⟩
    · rename_i hw; simp only [hw] at hh; exact h _ hh
theorem wpOp_of_kOpM {i : Nat} {a : Act} {K : Act → Prop} {K' : Act → World → Prop} {Q' : Exit → Act → World → Prop} (hK : ∀ a a' w', K a → Kept w w' → RelA M a a' w' → K' a' w')
    (hh : kOpM M P ops w i K a) {a' : Act} {w' : World} (hk : Kept w w') (hr : RelA M a a' w') : wpOp P ops Q' i K' a' w' := by
  unfold kOpM at hh
  unfold wpOp
  split
  · rename_i ho; simp only [ho] at hh
  · rename_i o ho
    simp only [ho] at hh
    rw [hr.wanted]
    split
    · rename_i hw
      simp only [hw, if_true] at hh
      refine .inl ?_
      obtain ⟨v, h1, h2⟩ := hh
      have h3 := h1 a' w' hk fun t _ => hr.slot t
      unfold Oper.wp
      generalize (execOp a'.eval o).run P w' = r at *
      cases r with
      | ok n w1 =>
        cases n <;> simp only [calmUponM] at h3 <;> simp only [Oper.upon]
        case value u => exact hK _ _ _ h2 (hk.trans h3.1) ((hr.later h3.1).put _ h3.2)
        case skip => obtain ⟨h3, rfl⟩ := h3; exact hK _ _ _ h2 (hk.trans h3) ((hr.later h3).put _ (RelV.same rfl))
        case enter f args =>
          obtain ⟨rfl, hc⟩ := h3
          refine hc.mono fun e w'' he => ?_
          obtain ⟨u, rfl, hk', hv⟩ := he
          exact hK _ _ _ h2 (hk.trans hk') ((hr.later hk').put _ hv)
      | halt x w1 => simp only [calmUponM] at h3
    · rename_i hw
      simp only [hw] at hh
      exact hK _ _ _ hh hk (hr.put _ (RelV.same rfl))
/-- Whatever order is picked from here on, as long as the head lasts. -/
def AnyM (M : Means) (P : Program) (md : Region.Mode) (ops : Array Oper) (w : World) (n : Nat) (L : Array Bool → Act → Prop) : Nat → Array Bool → Act → Prop
  | 0, listed, a => L listed a
  | f + 1, listed, a =>
    Region.ready md ops listed ≠ [] ∧ ∀ i ∈ Region.ready md ops listed, i < n ∧ kOpM M P ops w i (AnyM M P md ops w n L f (listed.setIfInBounds i true)) a
theorem wpAny_of_anyM {n g : Nat} {L : Array Bool → Act → Prop} {Q' : Exit → Act → World → Prop}
    (hL : ∀ listed a a' w', L listed a → Kept w w' → RelA M a a' w' → wpAny P md ops Q' g listed a' w') :
    ∀ (f : Nat) (listed : Array Bool) (a a' : Act) (w' : World), AnyM M P md ops w n L f listed a → Kept w w' → RelA M a a' w' → wpAny P md ops Q' (f + g) listed a' w'
  | 0, listed, a, a', w', h, hk, hr => by rw [Nat.zero_add]; exact hL _ _ _ _ h hk hr
  | f + 1, listed, a, a', w', h, hk, hr => by
    rw [show f + 1 + g = (f + g) + 1 by omega]
    exact ⟨fun h0 => absurd h0 h.1, fun i hi => wpOp_of_kOpM (fun a a' w' h' hk' hr' => wpAny_of_anyM hL f _ a a' w' h' hk' hr') (h.2 i hi).2 hk hr⟩
def YieldsM (M : Means) (P : Program) (ops : Array Oper) (w : World) (o : Oper) (v : Value) (a : Act) : Prop :=
  (Region.wanted o (yielded ops a.tmps) = true ∧ calmM M P o a w v) ∨ (Region.wanted o (yielded ops a.tmps) = false ∧ v = undef)
theorem calmM_put {o : Oper} {v u : Value} {a : Act} {dst : Option Tmp} (h : ∀ d, dst = some d → d ∉ o.looksAt ops) : calmM M P o (a.put dst u) w v ↔ calmM M P o a w v := by
  have he : ∀ t, Operand.tmp t ∈ o.op.operands → (a.put dst u).eval (.tmp t) = a.eval (.tmp t) := fun t hx => Act.eval_put fun d hd hxd => h d hd (by
    cases hxd
    exact List.mem_append_left _ (List.mem_filterMap.2 ⟨.tmp t, by simpa using hx, rfl⟩))
  unfold calmM
  constructor
  · intro hc a' w' hk hr
    exact hc a' w' hk fun x hx => by rw [he x hx]; exact hr x hx
  · intro hc a' w' hk hr
    exact hc a' w' hk fun x hx => by rw [← he x hx]; exact hr x hx
theorem YieldsM.put {oi oj : Oper} {v u : Value} {a : Act} (h : YieldsM M P ops w oi v a) (h3 : ∀ d, oj.dst = some d → d ∉ oi.looksAt ops) : YieldsM M P ops w oi v (a.put oj.dst u) := by
  unfold YieldsM at *
  rw [wanted_put oi a oj.dst u h3, calmM_put h3]
  exact h
theorem YieldsM.kOp {i : Nat} {o : Oper} {v : Value} {a : Act} (hi : ops[i]? = some o) (hy : YieldsM M P ops w o v a) {K : Act → Prop} (h : K (a.put o.dst v)) : kOpM M P ops w i K a := by
  unfold kOpM
  simp only [hi]
  rcases hy with ⟨hw, hv⟩ | ⟨hw, rfl⟩
  · simp only [hw, if_true]; exact ⟨v, hv, h⟩
  · simp only [hw, Bool.false_eq_true, if_false]; exact h
/-- One operation 'oj', apart from 'oi'. -/
theorem kOpM_put {j : Nat} {oi oj : Oper} {v : Value} (hj : ops[j]? = some oj) (hap : oi.apart ops oj = true) {K : Act → Prop} {a : Act}
    (hy : YieldsM M P ops w oi v a) (h : kOpM M P ops w j K (a.put oi.dst v)) :
    kOpM M P ops w j (fun a' => YieldsM M P ops w oi v a' ∧ K (a'.put oi.dst v)) a := by
  obtain ⟨h1, h2, h3⟩ := Oper.apart_spec hap
  unfold kOpM at *
  simp only [hj] at *
  rw [wanted_put oj a oi.dst v h1] at h
  split
  · rename_i hw
    simp only [hw, if_true] at h
    obtain ⟨u, hu, hn⟩ := h
    exact ⟨u, (calmM_put h1).1 hu, hy.put h3, by rw [← Act.put_comm a v u h2]; exact hn⟩
  · rename_i hw
    simp only [hw] at h
    exact ⟨hy.put h3, by rw [← Act.put_comm a v undef h2]; exact h⟩
theorem AnyM_first {n i : Nat} {oi : Oper} {v : Value} {L : Array Bool → Act → Prop} (hi : ops[i]? = some oi)
    (hs : Region.sinkB md ops n = true ∨ ops.size ≤ n) (hc : Region.chainB md ops n = true) (hin : i < n)
    (hdone : ∀ listed a, L listed a → ∀ j ∈ Region.ready md ops listed, n ≤ j) :
    ∀ (f : Nat) (listed : Array Bool) (a : Act), HeadInv md ops n listed →
      (∀ j oj, ops[j]? = some oj → j ≠ i → listed.getD j true = false → (∀ e ∈ oj.after, Region.binds md e = true → e.on ≠ i) → oi.apart ops oj = true) →
      i ∈ Region.ready md ops listed → YieldsM M P ops w oi v a →
      AnyM M P md ops w n L f (listed.setIfInBounds i true) (a.put oi.dst v) → AnyM M P md ops w n L (f + 1) listed a := by
  have hless : ∀ (listed : Array Bool), HeadInv md ops n listed → listed.getD i true = false → ∀ j ∈ Region.ready md ops listed, j < n := by
    intro listed inv hun j hj
    rcases Nat.lt_or_ge j n with h | h
    · exact h
    · obtain ⟨_, oj, hoj, _⟩ := mem_ready.1 hj
      have hjs : j < ops.size := (Array.getElem?_eq_some_iff.1 hoj).1
      rcases hs with hs | hs
      · exact absurd hj (tail_waits hs hc (by omega) inv _ i rfl hin hun j h)
      · omega
  intro f
  induction f with
  | zero =>
    intro listed a inv _ hr hy H
    have hun := (mem_ready.1 hr).1
    refine ⟨fun h => (by rw [h] at hr; cases hr), fun j hj => ?_⟩
    have hjn : j < n := hless listed inv hun j hj
    refine ⟨hjn, ?_⟩
    by_cases hji : j = i
    · subst hji; exact hy.kOp hi H
    · have := hdone _ _ H j (ready_mono hj hji)
      omega
  | succ f ih =>
    intro listed a inv hfree hr hy H
    have hun := (mem_ready.1 hr).1
    refine ⟨fun h => (by rw [h] at hr; cases hr), fun j hj => ?_⟩
    have hjn : j < n := hless listed inv hun j hj
    refine ⟨hjn, ?_⟩
    by_cases hji : j = i
    · subst hji; exact hy.kOp hi H
    · have h1 := (H.2 j (ready_mono hj hji)).2
      obtain ⟨hjun, oj, hoj, hall⟩ := mem_ready.1 hj
      have hnot : ∀ e ∈ oj.after, Region.binds md e = true → e.on ≠ i := fun e he hb heq => by
        have h1 := hall e he hb
        rw [heq, getD_both hun] at h1
        cases h1
      have h2 := kOpM_put hoj (hfree j oj hoj hji hjun hnot) hy h1
      have hfree' : ∀ k ok, ops[k]? = some ok → k ≠ i → (listed.setIfInBounds j true).getD k true = false →
          (∀ e ∈ ok.after, Region.binds md e = true → e.on ≠ i) → oi.apart ops ok = true := fun k ok hk hki hun hno => by
        refine hfree k ok hk hki ?_ hno
        by_cases hjk : j = k
        · subst hjk; exact hjun
        · rw [getD_set_ne true hjk] at hun; exact hun
      refine kOpM_mono (fun a' h3 => ih (listed.setIfInBounds j true) a' (inv.set hj hjn) hfree' (ready_mono hr (Ne.symm hji)) h3.1 ?_) h2
      rw [Array.setIfInBounds_comm _ _ hji]
      exact h3.2
/-! ### The walk of the head in the order of the text -/
def wpCalmM (M : Means) (P : Program) (ops : Array Oper) (w : World) (Q : Act → Prop) : List Oper → Act → Prop
  | [], a => Q a
  | o :: rest, a => if Region.wanted o (yielded ops a.tmps) then ∃ v, calmM M P o a w v ∧ wpCalmM M P ops w Q rest (a.put o.dst v) else wpCalmM M P ops w Q rest (a.put o.dst undef)
theorem AnyM_lex {n g : Nat} {L : Array Bool → Act → Prop} {Lq : Act → Prop}
    (hs : Region.sinkB md ops n = true ∨ ops.size ≤ n) (hc : Region.chainB md ops n = true)
    (hdone : ∀ listed a, L listed a → ∀ j ∈ Region.ready md ops listed, n ≤ j) :
    ∀ (ks : List Nat) (listed : Array Bool) (a : Act), (∀ k ∈ ks, k < n) → HeadInv md ops n listed →
      lexCalm md ops ks listed = true → (∀ k ∈ ks, (ops[k]?).isSome = true) →
      (∀ a', Lq a' → HeadInv md ops n (listAll ks listed) → AnyM M P md ops w n L g (listAll ks listed) a') →
      wpCalmM M P ops w Lq (ks.filterMap fun k => ops[k]?) a → AnyM M P md ops w n L (ks.length + g) listed a
  | [], listed, a, _, inv, _, _, hfin, h => by
    rw [List.length_nil, Nat.zero_add]
    exact hfin a h inv
  | k :: ks, listed, a, hks, inv, hB, hsome, hfin, h => by
    obtain ⟨o, h0⟩ := Option.isSome_iff_exists.1 (hsome k (by simp))
    simp only [lexCalm, Bool.and_eq_true] at hB
    obtain ⟨⟨hr, hf⟩, hB'⟩ := hB
    have hkn := hks k (by simp)
    have hr' : k ∈ Region.ready md ops listed := by simpa using hr
    rw [List.filterMap_cons, h0] at h
    simp only [wpCalmM] at h
    have hy : ∃ v, YieldsM M P ops w o v a ∧ wpCalmM M P ops w Lq (ks.filterMap fun k => ops[k]?) (a.put o.dst v) := by
      by_cases hw : Region.wanted o (yielded ops a.tmps) = true
      · simp only [hw, if_true] at h
        obtain ⟨v, h1, h2⟩ := h
        exact ⟨v, .inl ⟨hw, h1⟩, h2⟩
      · simp only [hw] at h
        exact ⟨undef, .inr ⟨by simpa using hw, rfl⟩, h⟩
    obtain ⟨v, hy, hK⟩ := hy
    have hlen : (k :: ks).length + g = ks.length + g + 1 := by simp only [List.length_cons]; omega
    rw [hlen]
    exact AnyM_first h0 hs hc hkn hdone (ks.length + g) listed a inv (Region.free_spec h0 hf) hr' hy
      (AnyM_lex hs hc hdone ks _ _ (fun k' hk' => hks k' (by simp [hk'])) (inv.set hr' hkn) hB' (fun k' hk' => hsome k' (by simp [hk'])) (fun a' ha' inv' => hfin a' ha' inv') hK)
end
section
variable {P : Program} {Q : Exit → Act → World → Prop} {a : Act} {w : World} {l : List Oper} {id : Nat} {M : Means}
variable {ops : Array Oper} {Lq : Act → Prop} {o : Oper} {rest : List Oper}
/-- No mark among the operands. -/
def saneAt (a : Act) : Operand → Bool
  | .tmp t => !isMark (a.tmps.getD t undef)
  | _ => true
def sane (a : Act) (o : Oper) : Bool := o.op.operands.all (saneAt a)
theorem sane_eval {a a' : Act} {o : Oper} {w' : World} (hs : sane a o = true) (hr : ∀ t, Operand.tmp t ∈ o.op.operands → RelV M (a.eval (.tmp t)) (a'.eval (.tmp t)) w') : ∀ x ∈ o.op.operands, a'.eval x = a.eval x := by
  intro x hx
  have h1 := (Array.all_eq_true'.1 hs) x hx
  cases x with
  | tmp t => exact (hr t hx).eq (by simp only [saneAt, Bool.not_eq_true'] at h1; exact h1)
  | _ => rfl
theorem calmM_of {v : Value} (hsel : ∀ cs b, o.op ≠ .select cs b) (hs : sane a o = true) (hv : isMark v = false) (h : calm P o a w v) : calmM M P o a w v := by
  intro a' w' hk hr
  have he : execOp a'.eval o = execOp a.eval o := execOp_congr o hsel (sane_eval hs hr)
  have h3 := h w' hk
  unfold calmAt at h3
  rw [he]
  generalize (execOp a.eval o).run P w' = r at *
  cases r with
  | ok n w1 =>
    cases n <;> simp only [calmUpon] at h3 <;> simp only [calmUponM]
    case value u => obtain ⟨rfl, rfl⟩ := h3; exact ⟨Kept.refl _, RelV.same hv⟩
    case skip => obtain ⟨rfl, rfl⟩ := h3; exact ⟨Kept.refl _, rfl⟩
    case enter f args =>
      obtain ⟨rfl, hc⟩ := h3
      exact ⟨rfl, hc.mono fun e w'' ⟨he, hw''⟩ => ⟨v, he, hw'', RelV.same hv⟩⟩
  | halt x w1 => simp only [calmUpon] at h3
/-- No select: the operation's own word. -/
def noSel (o : Oper) : Bool := match o.op with | .select _ _ => false | _ => true
theorem noSel_spec (h : noSel o = true) : ∀ cs b, o.op ≠ .select cs b := by
  intro cs b he
  unfold noSel at h
  rw [he] at h
  cases h
theorem marks_nil (h : Lq a) : wpCalmM M P ops w Lq [] a := h
theorem marks_step (v : Value) (hw : Region.wanted o (yielded ops a.tmps) = true) (hc : calmM M P o a w v) (h : wpCalmM M P ops w Lq rest (a.put o.dst v)) : wpCalmM M P ops w Lq (o :: rest) a := by
  unfold wpCalmM; rw [if_pos hw]; exact ⟨v, hc, h⟩
theorem marks_skip (hw : Region.wanted o (yielded ops a.tmps) = false) (h : wpCalmM M P ops w Lq rest (a.put o.dst undef)) : wpCalmM M P ops w Lq (o :: rest) a := by
  unfold wpCalmM; rw [if_neg (by rw [hw]; exact Bool.false_ne_true)]; exact h
theorem marks_ex (hw : Region.wanted o (yielded ops a.tmps) = true) (hsel : noSel o = true) (hs : sane a o = true)
    (h : ∃ v, (∀ w', Kept w w' → (execOp a.eval o).run P w' = .ok (.value v) w') ∧ isMark v = false ∧ wpCalmM M P ops w Lq rest (a.put o.dst v)) : wpCalmM M P ops w Lq (o :: rest) a := by
  obtain ⟨v, h1, h0, h2⟩ := h
  exact marks_step v hw (calmM_of (noSel_spec hsel) hs h0 (calm_run v h1)) h2
/-- A call whose result is known. -/
theorem marks_call {v : Value} {f : FuncId} {args : Array Value} (hw : Region.wanted o (yielded ops a.tmps) = true) (hsel : noSel o = true) (hs : sane a o = true) (hv : isMark v = false) (hp : Pure P f args v)
    (hr : ∀ w', (execOp a.eval o).run P w' = .ok (.enter f args) w') (h : wpCalmM M P ops w Lq rest (a.put o.dst v)) : wpCalmM M P ops w Lq (o :: rest) a :=
  marks_step v hw (calmM_of (noSel_spec hsel) hs hv (hp.call hr)) h
end
end Go.Proofs.Ytnajihlhcdedgaa

namespace Go.Proofs.Ytnajihlhcdedgaa
open Go.RowKit
section
variable {P : Program} {a : Act} {w : World} {M : Means} {o : Oper}
/-- An operation of known operands that makes something. -/
theorem calmM_make (k : Nat) (hsel : noSel o = true) (hs : sane a o = true)
    (hr : ∀ w', Kept w w' → ∃ u w'', (execOp a.eval o).run P w' = .ok (.value u) w'' ∧ Kept w' w'' ∧ (M k).is u w'') : calmM M P o a w (.chan (some k)) := by
  intro a' w' hk hra
  have he : execOp a'.eval o = execOp a.eval o := execOp_congr o (noSel_spec hsel) (sane_eval hs hra)
  obtain ⟨u, w'', h1, h2, h3⟩ := hr w' hk
  rw [he, h1]
  exact ⟨h2, RelV.of h3⟩
/-- Is the slot among the operands? -/
def hasTmp (o : Oper) (t : Tmp) : Bool := o.op.operands.toList.any fun x => match x with | .tmp u => u == t | _ => false
theorem hasTmp_spec {t : Tmp} (h : hasTmp o t = true) : Operand.tmp t ∈ o.op.operands := by
  unfold hasTmp at h
  obtain ⟨x, hx, hh⟩ := List.any_eq_true.1 h
  cases x with
  | tmp u => have : u = t := by simpa using hh
             subst this; simpa using hx
  | _ => cases hh
/-- An operation on what a mark stands for. -/
theorem calmM_on {k : Nat} {t : Tmp} (ht : hasTmp o t = true) (hm : a.tmps.getD t undef = .chan (some k)) (v : Value) (hv : isMark v = false)
    (hc : ∀ (a' : Act) w', Kept w w' → (M k).is (a'.eval (.tmp t)) w' → (execOp a'.eval o).run P w' = .ok (.value v) w') : calmM M P o a w v := by
  intro a' w' hk hr
  have h2 : RelV M (.chan (some k)) (a'.eval (.tmp t)) w' := by rw [← hm]; exact hr t (hasTmp_spec ht)
  rw [hc a' w' hk h2.mark]
  exact ⟨Kept.refl _, RelV.same hv⟩
end
end Go.Proofs.Ytnajihlhcdedgaa

namespace Go.Proofs.Ytnajihlhcdedgaa
open Go.RowKit
set_option linter.unusedVariables false
theorem Touch.grown {b : Nat} {w wr w1 : World} {v : Value} {base n size : Nat} {e : TypeId} {xs : List Value} (hk : Touch b w wr) (hown : wr.ownsRow base e size v n xs) (hg : wr.grownBy w1 v.ownBlock) (hb : w.heap.size ≤ base) : Touch b w w1 :=
  ⟨hg.os.trans hk.os, hg.tape.trans hk.tape, hg.output.trans hk.output, Nat.le_trans hk.size hg.size, fun i hi hne => by
    rw [hg.block i (Nat.lt_of_lt_of_le hi hk.size) ?_]
    · exact hk.block i hi hne
    · intro he
      have := (hown.lt i he.symm).1
      omega⟩
theorem ownsRow_touch {b : Nat} {w w' : World} {base : Nat} {e : TypeId} {size : Nat} {v : Value} {n : Nat} {xs : List Value} (h : w.ownsRow base e size v n xs) (hk : Touch b w w') (hb : b < base) : w'.ownsRow base e size v n xs := by
  refine ⟨h.1, ?_⟩
  rcases h.2 with h2 | ⟨g, cap, cur, h1, h2, h3, h4⟩
  · exact .inl h2
  · refine .inr ⟨g, cap, cur, h1, h2, ?_, h4⟩
    rw [hk.block g (Array.getElem?_eq_some_iff.1 h3).1 (by omega)]
    exact h3
theorem ownsRow_slice {w : World} {base : Nat} {e : TypeId} {size : Nat} {v : Value} {n : Nat} {xs : List Value} (h : w.ownsRow base e size v n xs) : ∃ a k c, v = .slice a k c := by
  rcases h.2 with ⟨rfl, _⟩ | ⟨g, cap, cur, rfl, _⟩ <;> exact ⟨_, _, _, rfl⟩
theorem ownsRow_base {w : World} {base base' : Nat} {e : TypeId} {size : Nat} {v : Value} {n : Nat} {xs : List Value} (h : w.ownsRow base e size v n xs) (hb : base' ≤ base) : w.ownsRow base' e size v n xs := by
  refine ⟨h.1, ?_⟩
  rcases h.2 with h2 | ⟨g, cap, cur, h1, h2, h3⟩
  · exact .inl h2
  · exact .inr ⟨g, cap, cur, h1, Nat.le_trans hb h2, h3⟩
section
variable {P : Program}
/-- ELEMENTS APPENDED: they lie in a block. -/
theorem wpList_append_at {wr : World} {ops : Array Oper} {rest : List Oper} {o : Oper} {a : Act} {Q : Exit → Act → World → Prop} (t e : TypeId) {z : Value} {size bytes : Nat}
    (hinfo : (P.info? e).map (fun i => (i.zero, i.size, i.bytes)) = some (some z, size, bytes)) (ht : P.underlying t = some (.slice e)) (hzs : z.cells.size = size) (hsz : 0 < size)
    {base : Nat} {v : Value} {n : Nat} {xs : List Value} (hown : wr.ownsRow base e size v n xs) (b off m c : Nat) (news : List Value) (hl : news.length = m * size) (h1 : ∀ u ∈ news, u.oneCell' = true)
    (hc : ∀ j u, news[j]? = some u → wr.cell? ⟨b, off + j, none⟩ = some u)
    (hn : (n + m) * bytes ≤ 140737488355328) (hb0 : 0 < bytes) (hm0 : 0 < m) (hbase : base ≤ wr.heap.size)
    (s x : Operand) (hgd : o.guard = none) (ho : o.op = .call { callee := .builtin .append, args := #[s, x], argTypes := #[t, t] })
    (hs : a.eval s = v) (hx : a.eval x = .slice (some ⟨b, off, none⟩) m c)
    (h : ∀ v' w', w'.ownsRow base e size v' (n + m) (xs ++ news) → wr.grownBy w' v.ownBlock → v'.ownBlock ≠ none → wpList P ops Q rest (a.put o.dst v') w') :
    wpList P ops Q (o :: rest) a wr := by
  obtain ⟨i, hi, hz0, hz1, hz2⟩ := info_parts hinfo
  have hnm : (n + m) ≤ 140737488355328 := Nat.le_trans (Nat.le_mul_of_pos_right _ hb0) hn
  refine wpList_append_own _ hgd s x t ho base e i z size bytes ht hi hz0 hz1 hz2 hzs hsz v n xs hs hown ⟨b, off, none⟩ m c news hx hl ?_ h1 (by unfold maxLen; omega) hn hbase ?_
  · intro j u hj
    have hadd : (⟨b, off, none⟩ : Addr).add j = ⟨b, off + j, none⟩ := by rw [Addr.add_lit]
    rw [hadd]
    exact hc j u hj
  · intro v' w1 h2 h3 h4
    refine h v' w1 h2 h3 ?_
    intro he
    rcases h2.2 with ⟨h5, h6⟩ | ⟨g, cap, cur, h5, _⟩
    · omega
    · rw [h5] at he; cases he
end
/-- A slice of one element in a block that was just laid. -/
def isOne (t : TypeId) (cs : Array Value) (v : Value) (w : World) : Prop := ∃ b, v = .slice (some ⟨b, 0, none⟩) 1 1 ∧ Blk w b t cs
def oneMean (t : TypeId) (cs : Array Value) : Mean := ⟨isOne t cs, fun v w w' ⟨b, h1, h2⟩ hk => ⟨b, h1, h2.kept hk⟩, fun b w h => by obtain ⟨_, h, _⟩ := h; cases h⟩
end Go.Proofs.Ytnajihlhcdedgaa

namespace Go.Proofs.Ytnajihlhcdedgaa
open Go.RowKit
set_option linter.unusedVariables false
/-- The meanings from k0 on; below it each stands for itself. -/
def shift (k0 : Nat) (M : Means) : Means := fun k => if k < k0 then ⟨fun v _ => v = .chan (some k), fun v w w' h _ => h, fun b w h => by cases h⟩ else M (k - k0)
theorem shift_at (k0 : Nat) (M : Means) (k : Nat) : shift k0 M (k0 + k) = M k := by
  unfold shift
  rw [if_neg (by omega)]
  congr
  omega
def Low (k0 : Nat) (v : Value) : Prop := ∀ k, v = .chan (some k) → k < k0
theorem Low.undef (k0 : Nat) : Low k0 Go.undef := fun k h => by cases h
theorem low_list : ∀ l : List Value, ∃ k0, ∀ v ∈ l, Low k0 v
  | [] => ⟨0, fun v h => by cases h⟩
  | x :: l => by
    obtain ⟨k0, h⟩ := low_list l
    cases hm : isMark x with
    | false =>
      refine ⟨k0, fun v hv => ?_⟩
      rcases List.mem_cons.1 hv with rfl | hv
      · intro k e; subst e; cases hm
      · exact h v hv
    | true =>
      cases x <;> simp only [isMark, Bool.false_eq_true] at hm
      rename_i r
      cases r with
      | none => cases hm
      | some j =>
        refine ⟨max k0 (j + 1), fun v hv => ?_⟩
        rcases List.mem_cons.1 hv with rfl | hv
        · intro k e; injection e with e; injection e with e; omega
        · intro k e; have := h v hv k e; omega
theorem low_act (a : Act) : ∃ k0, ∀ t, Low k0 (a.tmps.getD t undef) := by
  obtain ⟨k0, h⟩ := low_list a.tmps.toList
  refine ⟨k0, fun t => ?_⟩
  by_cases hlt : t < a.tmps.size
  · have e : a.tmps.getD t undef = a.tmps[t] := by simp [hlt]
    rw [e]
    exact h _ (by simp)
  · have e : a.tmps.getD t undef = undef := by simp [hlt]
    rw [e]
    exact Low.undef k0
theorem RelV.low {k0 : Nat} {M : Means} {m v : Value} {w : World} (hl : Low k0 m) (h : RelV (shift k0 M) m v w) : v = m := by
  unfold RelV at h
  split at h
  · rename_i k
    have hk := hl k rfl
    unfold shift at h
    rw [if_pos hk] at h
    exact h
  · exact h
theorem RelV.low_refl {k0 : Nat} {M : Means} {m : Value} {w : World} (hl : Low k0 m) : RelV (shift k0 M) m m w := by
  unfold RelV
  split
  · rename_i k
    have hk := hl k rfl
    unfold shift
    rw [if_pos hk]
  · rfl
/-- The slots that the operations fill. -/
def dstsOf (l : List Oper) : List Nat := l.filterMap (·.dst)
section
variable {P : Program} {ops : Array Oper} {M : Means} {w : World}
theorem wpCalmM_mono : ∀ (l : List Oper) (a : Act) (L1 L2 : Act → Prop), (∀ a, L1 a → L2 a) → wpCalmM M P ops w L1 l a → wpCalmM M P ops w L2 l a := by
  intro l
  induction l with
  | nil => intro a L1 L2 h hh; exact h _ hh
  | cons o l ih =>
    intro a L1 L2 h hh
    unfold wpCalmM at hh ⊢
    split
    · rename_i hw; rw [if_pos hw] at hh; obtain ⟨v, h1, h2⟩ := hh; exact ⟨v, h1, ih _ _ _ h h2⟩
    · rename_i hw; rw [if_neg hw] at hh; exact ih _ _ _ h hh
theorem wpCalmM_agree : ∀ (l : List Oper) (a : Act) (Lq : Act → Prop), wpCalmM M P ops w Lq l a → wpCalmM M P ops w (fun a' => Lq a' ∧ ∀ t, t ∉ dstsOf l → a'.tmps.getD t undef = a.tmps.getD t undef) l a := by
  intro l
  induction l with
  | nil => intro a Lq h; exact ⟨h, fun _ _ => rfl⟩
  | cons o l ih =>
    intro a Lq h
    have put : ∀ (v : Value) t, t ∉ dstsOf (o :: l) → (a.put o.dst v).tmps.getD t undef = a.tmps.getD t undef := fun v t ht => by
      cases hd : o.dst with
      | none => rfl
      | some d =>
        have hne : d ≠ t := fun e => ht (by unfold dstsOf; rw [List.filterMap_cons, hd]; simp [e])
        simp [Act.put, Array.getD_eq_getD_getElem?, hne]
    have sub : ∀ t, t ∉ dstsOf (o :: l) → t ∉ dstsOf l := fun t ht h => ht (by
      unfold dstsOf at h ⊢
      rw [List.filterMap_cons]
      split
      · exact h
      · exact List.mem_cons_of_mem _ h)
    unfold wpCalmM at h ⊢
    split
    · rename_i hw
      rw [if_pos hw] at h
      obtain ⟨v, h1, h2⟩ := h
      exact ⟨v, h1, wpCalmM_mono _ _ _ _ (fun a' ha => ⟨ha.1, fun t ht => (ha.2 t (sub t ht)).trans (put v t ht)⟩) (ih _ _ h2)⟩
    · rename_i hw
      rw [if_neg hw] at h
      exact wpCalmM_mono _ _ _ _ (fun a' ha => ⟨ha.1, fun t ht => (ha.2 t (sub t ht)).trans (put undef t ht)⟩) (ih _ _ h)
end
/-- The act that runs against the one that is walked; what the head does not fill is the same. -/
structure RelB (M : Means) (is : List Nat) (a a' : Act) (w : World) : Prop where
  rel : RelA M a a' w
  same : ∀ t, t ∉ is → a'.tmps.getD t undef = a.tmps.getD t undef
section
variable {P : Program} {Q : Exit → Act → World → Prop} {a : Act} {w : World} {l : List Oper} {id : Nat}
theorem wp_region_marks_rel (M : Means) (k : Nat) (hm : P.follows .mixedOrders = true) (hB : calmB l.toArray k 0 = true) (h0 : ∀ w', RelA M a a w')
    (h : wpCalmM M P l.toArray w (fun a' => ∀ a'' w', Kept w w' → RelA M a' a'' w' → wpList P l.toArray Q (l.drop k) a'' w') (l.take k) a) : (Code.region id l.toArray true).wp P Q a w := by
  simp only [calmB, Bool.and_eq_true, decide_eq_true_eq, Bool.or_eq_true, Nat.add_zero] at hB
  obtain ⟨⟨⟨⟨⟨hsel, hn⟩, hs⟩, hc⟩, hlex⟩, hseq⟩ := hB
  have hdl : (l.drop k).length = l.toArray.size - k := by simp
  refine wp_region_any hm ?_
  have H := AnyM_lex (P := P) (md := .any) (M := M) (n := k) (g := 0) (w := w) (Lq := fun a' => ∀ a'' w', Kept w w' → RelA M a' a'' w' → wpList P l.toArray Q (l.drop k) a'' w')
    (L := fun listed' a' => listed' = listAll (List.range k) (Array.replicate l.toArray.size false) ∧ ∀ a'' w', Kept w w' → RelA M a' a'' w' → wpList P l.toArray Q (l.drop k) a'' w')
    hs hc (fun listed a' hL => by rw [hL.1]; exact seqB_ready hseq) (List.range k) (Array.replicate l.toArray.size false) a
    (fun i hi => List.mem_range.1 hi) (headInv0 _ _) hlex
    (fun i hi => by have := List.mem_range.1 hi; have h2 : i < l.toArray.size := by omega
                    simp [Array.getElem?_eq_getElem h2])
    (fun a' ha' _ => ⟨rfl, ha'⟩) (by rw [range_ops]; exact h)
  have H2 := wpAny_of_anyM (P := P) (md := .any) (M := M) (Q' := Q) (g := l.toArray.size - k)
    (fun listed a a' w' hL hk hr => by
      have := wpAny_of_seq (P := P) (md := .any) (Q' := Q) (l.drop k) k listed a' w' (fun j => by simp [List.getElem?_drop]) (by rw [hdl, hL.1]; exact hseq) (hL.2 a' w' hk hr)
      rwa [hdl] at this) _ _ a a w.drew H (Kept.drew (Kept.refl w)) (h0 _)
  rw [List.length_range, show k + 0 + (l.toArray.size - k) = l.toArray.size by omega] at H2
  exact H2
/-- A REGION WHOSE ORDER IS DRAWN, marks beside slots of which nothing is known. -/
theorem wp_region_marks_in (M : Means) (k : Nat) (hm : P.follows .mixedOrders = true) (hB : calmB l.toArray k 0 = true)
    (h : ∀ k0, wpCalmM (shift k0 M) P l.toArray w (fun a' => ∀ a'' w', Kept w w' → RelB (shift k0 M) (dstsOf (l.take k)) a' a'' w' → wpList P l.toArray Q (l.drop k) a'' w') (l.take k) a) : (Code.region id l.toArray true).wp P Q a w := by
  obtain ⟨k0, hlow⟩ := low_act a
  refine wp_region_marks_rel (shift k0 M) k hm hB (fun w' => ⟨rfl, rfl, fun t => RelV.low_refl (hlow t)⟩) ?_
  refine wpCalmM_mono _ _ _ _ (fun a' ha a'' w' hk hr => ?_) (wpCalmM_agree _ _ _ (h k0))
  refine ha.1 a'' w' hk ⟨hr, fun t ht => ?_⟩
  have h1 := ha.2 t ht
  have h2 := hr.slot t
  rw [h1] at h2 ⊢
  exact h2.low (hlow t)
end
/-- No mark among the slots is but at ts. -/
def markFreeOn (is : List Nat) (a : Act) (ts : List Nat) : Bool := is.all fun t => ts.contains t || !isMark (a.tmps.getD t undef)
section
variable {M : Means} {k0 : Nat} {is : List Nat} {a a' : Act} {w : World}
theorem RelB.one (h : RelB (shift k0 M) is a a' w) (ts : List Nat) (hf : markFreeOn is a ts = true) : ∀ t, t ∉ ts → a'.tmps.getD t undef = a.tmps.getD t undef := by
  intro t ht
  by_cases hi : t ∈ is
  · have := List.all_eq_true.1 hf t hi
    refine (h.rel.slot t).eq ?_
    simpa [ht] using this
  · exact h.same t hi
theorem RelB.mark0 (h : RelB (shift k0 M) is a a' w) (hf : markFreeOn is a [] = true) : a' = a :=
  Act.ext' h.rel.defers h.rel.size fun t _ => h.one [] hf t (by simp)
theorem RelB.mark1 (h : RelB (shift k0 M) is a a' w) (t k : Nat) (hf : markFreeOn is a [t] = true) (hm : a.tmps.getD t undef = .chan (some (k0 + k))) : ∃ x, (M k).is x w ∧ a' = a.put (some t) x := by
  refine ⟨a'.tmps.getD t undef, ?_, ?_⟩
  · have := h.rel.slot t
    rw [hm] at this
    have h2 := this.mark
    rw [shift_at] at h2
    exact h2
  · refine Act.ext' h.rel.defers (by simp [Act.put, h.rel.size]) fun i hi => ?_
    simp only [Act.put, Array.size_setIfInBounds] at hi
    by_cases hti : t = i
    · subst hti
      simp [Act.put, hi]
    · rw [h.one [t] hf i (by simp; omega)]
      simp [Act.put, hti]
theorem RelB.mark2 (h : RelB (shift k0 M) is a a' w) (t k u l : Nat) (htu : t ≠ u) (hf : markFreeOn is a [t, u] = true) (hm : a.tmps.getD t undef = .chan (some (k0 + k))) (hn : a.tmps.getD u undef = .chan (some (k0 + l))) :
    ∃ x y, (M k).is x w ∧ (M l).is y w ∧ a' = (a.put (some t) x).put (some u) y := by
  refine ⟨a'.tmps.getD t undef, a'.tmps.getD u undef, ?_, ?_, ?_⟩
  · have := h.rel.slot t
    rw [hm] at this
    have h2 := this.mark
    rw [shift_at] at h2
    exact h2
  · have := h.rel.slot u
    rw [hn] at this
    have h2 := this.mark
    rw [shift_at] at h2
    exact h2
  · refine Act.ext' h.rel.defers (by simp [Act.put, h.rel.size]) fun i hi => ?_
    simp only [Act.put, Array.size_setIfInBounds] at hi
    by_cases hui : u = i
    · subst hui
      simp [Act.put, hi]
    · by_cases hti : t = i
      · subst hti
        simp [Act.put, hi, hui]
      · rw [h.one [t, u] hf i (by simp; omega)]
        simp [Act.put, hti, hui]
end
section
variable {P : Program} {ops : Array Oper} {M : Means} {w : World} {a : Act} {o : Oper} {rest : List Oper} {Lq : Act → Prop} {k0 : Nat}
/-- A call whose result is a mark, by a contract in every later world. -/
theorem marks_make_at (k : Nat) {f : FuncId} {args : Array Value} (hw : Region.wanted o (yielded ops a.tmps) = true) (hsel : noSel o = true) (hs : sane a o = true)
    (hp : ∀ w', Kept w w' → Calls P f args w' fun e w'' => ∃ v, e = .returned v ∧ (M k).is v w'' ∧ Kept w' w'')
    (hr : ∀ w', (execOp a.eval o).run P w' = .ok (.enter f args) w') (h : wpCalmM (shift k0 M) P ops w Lq rest (a.put o.dst (.chan (some (k0 + k))))) : wpCalmM (shift k0 M) P ops w Lq (o :: rest) a := by
  refine marks_step (.chan (some (k0 + k))) hw ?_ h
  intro a' w' hk hra
  have he : execOp a'.eval o = execOp a.eval o := execOp_congr o (noSel_spec hsel) (sane_eval hs hra)
  rw [he, hr w']
  refine ⟨rfl, (hp w' hk).mono fun e w'' ⟨v, h1, h2, h3⟩ => ⟨v, h1, h3, RelV.of (by rw [shift_at]; exact h2)⟩⟩
/-- An operation of known operands that makes something. -/
theorem marks_lay (k : Nat) (hw : Region.wanted o (yielded ops a.tmps) = true) (hsel : noSel o = true) (hs : sane a o = true)
    (hr : ∀ w', Kept w w' → ∃ u w'', (execOp a.eval o).run P w' = .ok (.value u) w'' ∧ Kept w' w'' ∧ (M k).is u w'')
    (h : wpCalmM (shift k0 M) P ops w Lq rest (a.put o.dst (.chan (some (k0 + k))))) : wpCalmM (shift k0 M) P ops w Lq (o :: rest) a :=
  marks_step _ hw (calmM_make (k0 + k) hsel hs fun w' hk => by obtain ⟨u, w'', h1, h2, h3⟩ := hr w' hk; exact ⟨u, w'', h1, h2, by rw [shift_at]; exact h3⟩) h
/-- An operation on what a mark stands for. -/
theorem marks_on (k t : Nat) (v : Value) (hw : Region.wanted o (yielded ops a.tmps) = true) (ht : hasTmp o t = true) (hm : a.tmps.getD t undef = .chan (some (k0 + k))) (hv : isMark v = false)
    (hc : ∀ (a' : Act) w', Kept w w' → (M k).is (a'.eval (.tmp t)) w' → (execOp a'.eval o).run P w' = .ok (.value v) w')
    (h : wpCalmM (shift k0 M) P ops w Lq rest (a.put o.dst v)) : wpCalmM (shift k0 M) P ops w Lq (o :: rest) a :=
  marks_step v hw (calmM_on ht hm v hv fun a' w' hk hi => hc a' w' hk (by rw [shift_at] at hi; exact hi)) h
end
end Go.Proofs.Ytnajihlhcdedgaa

namespace Go.Proofs.Ytnajihlhcdedgaa
open Go.RowKit
set_option linter.unusedVariables false
/-- The head's walk; the marks begin at k0. -/
structure WM (k0 : Nat) (M : Means) (P : Program) (ops : Array Oper) (w : World) (Q : Act → Prop) (l : List Oper) (a : Act) : Prop where
  of :: out : wpCalmM (shift k0 M) P ops w Q l a
section
variable {P : Program} {Q : Exit → Act → World → Prop} {a : Act} {w : World} {l : List Oper} {id : Nat}
end
section
variable {P : Program} {ops : Array Oper} {M : Means} {w : World} {a : Act} {o : Oper} {rest : List Oper} {Lq : Act → Prop} {k0 : Nat}
theorem WM.nil (h : Lq a) : WM k0 M P ops w Lq [] a := ⟨marks_nil h⟩
theorem WM.skip (hw : Region.wanted o (yielded ops a.tmps) = false) (h : WM k0 M P ops w Lq rest (a.put o.dst undef)) : WM k0 M P ops w Lq (o :: rest) a := ⟨marks_skip hw h.out⟩
theorem WM.step (v : Value) (hw : Region.wanted o (yielded ops a.tmps) = true) (hc : calmM (shift k0 M) P o a w v) (h : WM k0 M P ops w Lq rest (a.put o.dst v)) : WM k0 M P ops w Lq (o :: rest) a := ⟨marks_step v hw hc h.out⟩
theorem WM.ex (hw : Region.wanted o (yielded ops a.tmps) = true) (hsel : noSel o = true) (hs : sane a o = true)
    (h : ∃ v, (∀ w', Kept w w' → (execOp a.eval o).run P w' = .ok (.value v) w') ∧ isMark v = false ∧ WM k0 M P ops w Lq rest (a.put o.dst v)) : WM k0 M P ops w Lq (o :: rest) a := by
  obtain ⟨v, h1, h2, h3⟩ := h
  exact ⟨marks_ex hw hsel hs ⟨v, h1, h2, h3.out⟩⟩
/-- A call whose result is known. -/
theorem WM.call {v : Value} {f : FuncId} {args : Array Value} (hw : Region.wanted o (yielded ops a.tmps) = true) (hsel : noSel o = true) (hs : sane a o = true) (hv : isMark v = false) (hp : Pure P f args v)
    (hr : ∀ w', (execOp a.eval o).run P w' = .ok (.enter f args) w') (h : WM k0 M P ops w Lq rest (a.put o.dst v)) : WM k0 M P ops w Lq (o :: rest) a := ⟨marks_call hw hsel hs hv hp hr h.out⟩
/-- A call whose result is a mark, by a contract in every later world. -/
theorem WM.makeAt (k : Nat) {f : FuncId} {args : Array Value} (hw : Region.wanted o (yielded ops a.tmps) = true) (hsel : noSel o = true) (hs : sane a o = true)
    (hp : ∀ w', Kept w w' → Calls P f args w' fun e w'' => ∃ v, e = .returned v ∧ (M k).is v w'' ∧ Kept w' w'')
    (hr : ∀ w', (execOp a.eval o).run P w' = .ok (.enter f args) w') (h : WM k0 M P ops w Lq rest (a.put o.dst (.chan (some (k0 + k))))) : WM k0 M P ops w Lq (o :: rest) a := ⟨marks_make_at k hw hsel hs hp hr h.out⟩
/-- An operation of known operands that makes something. -/
theorem WM.lay (k : Nat) (hw : Region.wanted o (yielded ops a.tmps) = true) (hsel : noSel o = true) (hs : sane a o = true)
    (hr : ∀ w', Kept w w' → ∃ u w'', (execOp a.eval o).run P w' = .ok (.value u) w'' ∧ Kept w' w'' ∧ (M k).is u w'')
    (h : WM k0 M P ops w Lq rest (a.put o.dst (.chan (some (k0 + k))))) : WM k0 M P ops w Lq (o :: rest) a := ⟨marks_lay k hw hsel hs hr h.out⟩
/-- An operation on what a mark stands for. -/
theorem WM.on (k t : Nat) (v : Value) (hw : Region.wanted o (yielded ops a.tmps) = true) (ht : hasTmp o t = true) (hm : a.tmps.getD t undef = .chan (some (k0 + k))) (hv : isMark v = false)
    (hc : ∀ (a' : Act) w', Kept w w' → (M k).is (a'.eval (.tmp t)) w' → (execOp a'.eval o).run P w' = .ok (.value v) w')
    (h : WM k0 M P ops w Lq rest (a.put o.dst v)) : WM k0 M P ops w Lq (o :: rest) a := ⟨marks_on k t v hw ht hm hv hc h.out⟩
end
end Go.Proofs.Ytnajihlhcdedgaa

namespace Go.Proofs.Ytnajihlhcdedgaa
open Go.RowKit
set_option linter.unusedVariables false
set_option linter.unusedSimpArgs false
/-- A slice whose cells lie in blocks below N reads as the elements of the halves C0 0, C1 0; C0 1, C1 1; .. -/
structure SlE (w : World) (a : Option Addr) (n cap N : Nat) (C0 C1 : Nat → Int) : Prop where
  at' : ∀ j, j < n → ∃ p : Addr, (∀ w', (Instr.indexAt 90 (.slice a n cap) (.int .i64 (j : Int))).run Try.prog w' = .ok (.pointer (some p)) w') ∧ w.cell? p = some (.int .u64 (C0 j)) ∧ w.cell? (p.add 1) = some (.int .u64 (C1 j)) ∧ p.block < N
theorem SlE.kept {w w' : World} {a : Option Addr} {n cap N : Nat} {C0 C1 : Nat → Int} (h : SlE w a n cap N C0 C1) (k : Kept w w') : SlE w' a n cap N C0 C1 :=
  ⟨fun j hj => let ⟨p, h1, h2, h3, h4⟩ := h.at' j hj; ⟨p, h1, k.cell h2, k.cell h3, h4⟩⟩
theorem SlE.mono {w : World} {a : Option Addr} {n cap N M : Nat} {C0 C1 : Nat → Int} (h : SlE w a n cap N C0 C1) (hM : N ≤ M) : SlE w a n cap M C0 C1 :=
  ⟨fun j hj => let ⟨p, h1, h2, h3, h4⟩ := h.at' j hj; ⟨p, h1, h2, h3, Nat.lt_of_lt_of_le h4 hM⟩⟩
theorem SlE.congr {w : World} {a : Option Addr} {n cap N : Nat} {C0 C1 D0 D1 : Nat → Int} (h : SlE w a n cap N C0 C1) (h0 : ∀ j, j < n → C0 j = D0 j) (h1 : ∀ j, j < n → C1 j = D1 j) : SlE w a n cap N D0 D1 :=
  ⟨fun j hj => let ⟨p, e1, e2, e3, e4⟩ := h.at' j hj; ⟨p, e1, by rw [← h0 j hj]; exact e2, by rw [← h1 j hj]; exact e3, e4⟩⟩
theorem size28 : (Try.prog.info? 28).map (fun i => i.size) = some 2 := by kernel_rfl
theorem info28 : (Try.prog.info? 28).map (fun i => (i.zero, i.size, i.bytes)) = some (some (.agg #[.int .u64 0, .int .u64 0]), 2, 16) := by kernel_rfl
theorem run_index_at90 {ad : Addr} {n cap j : Nat} (hj : j < n) (w : World) :
    (Instr.indexAt 90 (.slice (some ad) n cap) (.int .i64 (j : Int))).run Try.prog w = .ok (.pointer (some (ad.add (j * 2)))) w := by
  cases hq : Try.prog.info? 28 with
  | none => have := size28; simp [hq] at this
  | some i =>
    have hs : i.size = 2 := by have := size28; simpa [hq] using this
    have h1 : (0 : Int) ≤ (j : Int) := by omega
    have h2 : (j : Int) < (n : Int) := by omega
    simp [Instr.indexAt, run_underlying Try.underlying90, asIntOf, sizeOf, typeInfo, hq, hs, hj]
/-- The cells of a row of elements. -/
def elemC (C0 C1 : Nat → Int) (c : Nat) : Int := if c % 2 = 0 then C0 (c / 2) else C1 (c / 2)
theorem elemC_0 (C0 C1 : Nat → Int) (j : Nat) : elemC C0 C1 (j * 2) = C0 j := by
  unfold elemC
  rw [if_pos (by omega), show j * 2 / 2 = j by omega]
theorem elemC_1 (C0 C1 : Nat → Int) (j : Nat) : elemC C0 C1 (j * 2 + 1) = C1 j := by
  unfold elemC
  rw [if_neg (by omega), show (j * 2 + 1) / 2 = j by omega]
end Go.Proofs.Ytnajihlhcdedgaa

namespace Go.Proofs.Ytnajihlhcdedgaa
open Go.RowKit
set_option linter.unusedVariables false
set_option linter.unusedSimpArgs false
attribute [local simp] blkAt_setCell blkAt_alloc blkAt_drew Obj.put_cells
/-- The cells of the first n elements. -/
def elist (C0 C1 : Nat → Int) (n : Nat) : List Value := (List.range (n * 2)).map fun c => Value.int .u64 (elemC C0 C1 c)
theorem elist_succ (C0 C1 : Nat → Int) (i : Nat) : elist C0 C1 (i + 1) = elist C0 C1 i ++ [.int .u64 (C0 i), .int .u64 (C1 i)] := by
  unfold elist
  rw [show (i + 1) * 2 = i * 2 + 1 + 1 by omega, List.range_succ, List.range_succ, List.map_append, List.map_append, List.map_singleton, List.map_singleton, elemC_0, elemC_1, List.append_assoc]
  rfl
theorem SlE.of_own {w : World} {base n : Nat} {v : Value} {C0 C1 : Nat → Int} (h : w.ownsRow base 28 2 v n (elist C0 C1 n)) : ∃ a c, v = .slice a n c ∧ SlE w a n c w.heap.size C0 C1 := by
  rcases h.2 with ⟨rfl, rfl⟩ | ⟨g, cap, cur, rfl, _⟩
  · exact ⟨none, 0, rfl, ⟨fun j hj => absurd hj (Nat.not_lt_zero _)⟩⟩
  · refine ⟨_, cap, rfl, ⟨fun j hj => ?_⟩⟩
    have c0 := h.cells (g := g) rfl (j * 2) (Value.int .u64 (C0 j)) (by unfold elist; rw [List.getElem?_map, List.getElem?_range (by omega), Option.map_some, elemC_0])
    have c1 := h.cells (g := g) rfl (j * 2 + 1) (Value.int .u64 (C1 j)) (by unfold elist; rw [List.getElem?_map, List.getElem?_range (by omega), Option.map_some, elemC_1])
    have a0 : (⟨g, 0, none⟩ : Addr).add (j * 2) = ⟨g, j * 2, none⟩ := by rw [Addr.add_lit]; simp
    have a1 : (⟨g, 0, none⟩ : Addr).add (j * 2 + 1) = ⟨g, j * 2 + 1, none⟩ := by rw [Addr.add_lit]; simp
    rw [a0] at c0
    rw [a1] at c1
    exact ⟨⟨g, j * 2, none⟩, fun w' => by rw [run_index_at90 hj w', a0], c0, by rw [Addr.add_lit]; exact c1, block_lt_of_cell c0⟩
/-- Which field. -/
def fOf (n : Int) : Int := 1 + n % 2
theorem isF_fOf {n : Int} (h : 0 ≤ n) : isF (fOf n) := by unfold isF fOf; omega
set_option maxRecDepth 100000 in
set_option maxHeartbeats 4000000 in
theorem f_F {n : Int} (h0 : 0 ≤ n) (h1 : n ≤ 255) : Pure Try.prog 77 #[.int .u8 n] (.int .u8 (fOf n)) := fun w => by
  obtain ⟨m, hm, hm2⟩ : ∃ m : Nat, n % 2 = (m : Int) ∧ m < 2 := ⟨(n % 2).toNat, by omega, by omega⟩
  have e1 : n.tmod 2 = (m : Int) := by rw [Int.tmod_eq_emod_of_nonneg h0]; exact hm
  have w1 : IntKind.u8.wrap (m : Int) = (m : Int) := by simp [IntKind.wrap, IntKind.bits, IntKind.signed]; omega
  have w2 : IntKind.u8.wrap (1 + (m : Int)) = 1 + (m : Int) := by simp [IntKind.wrap, IntKind.bits, IntKind.signed]; omega
  have HF : Hid (fOf n = 1 + (m : Int)) := Lib.hid (by unfold fOf; rw [hm])
  go_enter Try.func77, Try.ntmps77
  go_wp2_with fail
  refine bodyPost_ret (v := .int .u8 (fOf n)) (by rw [HF.out]; simp [results, Try.results77, go_sem, *]) rfl ⟨rfl, Kept.refl w⟩
end Go.Proofs.Ytnajihlhcdedgaa

namespace Go.Proofs.Ytnajihlhcdedgaa
open Go.RowKit
set_option linter.unusedVariables false
set_option linter.unusedSimpArgs false
/-- Bytes as a number. -/
def leVal : List Int → Int
  | [] => 0
  | b :: r => b + 256 * leVal r
/-- A row of bytes. -/
def bytesV (l : List Int) : List Value := l.map (Value.int .u8)
def isByte (b : Int) : Prop := 0 ≤ b ∧ b ≤ 255
set_option maxRecDepth 100000 in
set_option maxHeartbeats 4000000 in
theorem gold_Take_yes (b0 v0 b1 v1 b2 v2 b3 v3 b4 v4 b5 v5 b6 v6 b7 v7 : Int) (w : World) (l0 : 0 ≤ b0) (u0 : b0 ≤ 255) (l1 : 0 ≤ b1) (u1 : b1 ≤ 255) (l2 : 0 ≤ b2) (u2 : b2 ≤ 255) (l3 : 0 ≤ b3) (u3 : b3 ≤ 255) (l4 : 0 ≤ b4) (u4 : b4 ≤ 255) (l5 : 0 ≤ b5) (u5 : b5 ≤ 255) (l6 : 0 ≤ b6) (u6 : b6 ≤ 255) (l7 : 0 ≤ b7) (u7 : b7 ≤ 255)
    (o0 : bits .or .u64 0 b0 = v0) (o1 : bits .or .u64 v0 (b1 * 256) = v1) (o2 : bits .or .u64 v1 (b2 * 65536) = v2) (o3 : bits .or .u64 v2 (b3 * 16777216) = v3) (o4 : bits .or .u64 v3 (b4 * 4294967296) = v4) (o5 : bits .or .u64 v4 (b5 * 1099511627776) = v5) (o6 : bits .or .u64 v5 (b6 * 281474976710656) = v6) (o7 : bits .or .u64 v6 (b7 * 72057594037927936) = v7) (HI : Hid (Gives 34 #[.int .u64 v7] (.bool true))) :
    Calls Try.prog 43 #[.agg #[.int .u8 b0, .int .u8 b1, .int .u8 b2, .int .u8 b3, .int .u8 b4, .int .u8 b5, .int .u8 b6, .int .u8 b7]] w fun e w' => e = .returned (.tuple #[.int .u64 v7, .int .i64 0]) ∧ Kept w w' := by
  have i0 : ∀ w, (Instr.index 37 (.agg #[.int .u8 b0, .int .u8 b1, .int .u8 b2, .int .u8 b3, .int .u8 b4, .int .u8 b5, .int .u8 b6, .int .u8 b7]) (.int .i64 0)).run Try.prog w = .ok (.int .u8 b0) w := fun _ => by kernel_rfl
  have i1 : ∀ w, (Instr.index 37 (.agg #[.int .u8 b0, .int .u8 b1, .int .u8 b2, .int .u8 b3, .int .u8 b4, .int .u8 b5, .int .u8 b6, .int .u8 b7]) (.int .i64 1)).run Try.prog w = .ok (.int .u8 b1) w := fun _ => by kernel_rfl
  have i2 : ∀ w, (Instr.index 37 (.agg #[.int .u8 b0, .int .u8 b1, .int .u8 b2, .int .u8 b3, .int .u8 b4, .int .u8 b5, .int .u8 b6, .int .u8 b7]) (.int .i64 2)).run Try.prog w = .ok (.int .u8 b2) w := fun _ => by kernel_rfl
  have i3 : ∀ w, (Instr.index 37 (.agg #[.int .u8 b0, .int .u8 b1, .int .u8 b2, .int .u8 b3, .int .u8 b4, .int .u8 b5, .int .u8 b6, .int .u8 b7]) (.int .i64 3)).run Try.prog w = .ok (.int .u8 b3) w := fun _ => by kernel_rfl
  have i4 : ∀ w, (Instr.index 37 (.agg #[.int .u8 b0, .int .u8 b1, .int .u8 b2, .int .u8 b3, .int .u8 b4, .int .u8 b5, .int .u8 b6, .int .u8 b7]) (.int .i64 4)).run Try.prog w = .ok (.int .u8 b4) w := fun _ => by kernel_rfl
  have i5 : ∀ w, (Instr.index 37 (.agg #[.int .u8 b0, .int .u8 b1, .int .u8 b2, .int .u8 b3, .int .u8 b4, .int .u8 b5, .int .u8 b6, .int .u8 b7]) (.int .i64 5)).run Try.prog w = .ok (.int .u8 b5) w := fun _ => by kernel_rfl
  have i6 : ∀ w, (Instr.index 37 (.agg #[.int .u8 b0, .int .u8 b1, .int .u8 b2, .int .u8 b3, .int .u8 b4, .int .u8 b5, .int .u8 b6, .int .u8 b7]) (.int .i64 6)).run Try.prog w = .ok (.int .u8 b6) w := fun _ => by kernel_rfl
  have i7 : ∀ w, (Instr.index 37 (.agg #[.int .u8 b0, .int .u8 b1, .int .u8 b2, .int .u8 b3, .int .u8 b4, .int .u8 b5, .int .u8 b6, .int .u8 b7]) (.int .i64 7)).run Try.prog w = .ok (.int .u8 b7) w := fun _ => by kernel_rfl
  go_enter Try.func43, Try.ntmps43
  go_wp2_with fail
  refine wp_loop_rounds 9 ?_
  iterate 9 (rw [rounds_succ]; go_wp2_with fail)
  refine (HI.out _).mono ?_
  rintro e w' ⟨rfl, rfl⟩
  go_wp2_with fail
  go_ret2
  exact ⟨rfl, (Kept.refl w).alloc _⟩
set_option maxRecDepth 100000 in
set_option maxHeartbeats 4000000 in
theorem gold_Take_no (b0 v0 b1 v1 b2 v2 b3 v3 b4 v4 b5 v5 b6 v6 b7 v7 : Int) (w : World) (l0 : 0 ≤ b0) (u0 : b0 ≤ 255) (l1 : 0 ≤ b1) (u1 : b1 ≤ 255) (l2 : 0 ≤ b2) (u2 : b2 ≤ 255) (l3 : 0 ≤ b3) (u3 : b3 ≤ 255) (l4 : 0 ≤ b4) (u4 : b4 ≤ 255) (l5 : 0 ≤ b5) (u5 : b5 ≤ 255) (l6 : 0 ≤ b6) (u6 : b6 ≤ 255) (l7 : 0 ≤ b7) (u7 : b7 ≤ 255)
    (o0 : bits .or .u64 0 b0 = v0) (o1 : bits .or .u64 v0 (b1 * 256) = v1) (o2 : bits .or .u64 v1 (b2 * 65536) = v2) (o3 : bits .or .u64 v2 (b3 * 16777216) = v3) (o4 : bits .or .u64 v3 (b4 * 4294967296) = v4) (o5 : bits .or .u64 v4 (b5 * 1099511627776) = v5) (o6 : bits .or .u64 v5 (b6 * 281474976710656) = v6) (o7 : bits .or .u64 v6 (b7 * 72057594037927936) = v7) (HI : Hid (Gives 34 #[.int .u64 v7] (.bool false))) :
    Calls Try.prog 43 #[.agg #[.int .u8 b0, .int .u8 b1, .int .u8 b2, .int .u8 b3, .int .u8 b4, .int .u8 b5, .int .u8 b6, .int .u8 b7]] w fun e w' => e = .returned (.tuple #[.int .u64 0, .int .i64 7]) ∧ Kept w w' := by
  have i0 : ∀ w, (Instr.index 37 (.agg #[.int .u8 b0, .int .u8 b1, .int .u8 b2, .int .u8 b3, .int .u8 b4, .int .u8 b5, .int .u8 b6, .int .u8 b7]) (.int .i64 0)).run Try.prog w = .ok (.int .u8 b0) w := fun _ => by kernel_rfl
  have i1 : ∀ w, (Instr.index 37 (.agg #[.int .u8 b0, .int .u8 b1, .int .u8 b2, .int .u8 b3, .int .u8 b4, .int .u8 b5, .int .u8 b6, .int .u8 b7]) (.int .i64 1)).run Try.prog w = .ok (.int .u8 b1) w := fun _ => by kernel_rfl
  have i2 : ∀ w, (Instr.index 37 (.agg #[.int .u8 b0, .int .u8 b1, .int .u8 b2, .int .u8 b3, .int .u8 b4, .int .u8 b5, .int .u8 b6, .int .u8 b7]) (.int .i64 2)).run Try.prog w = .ok (.int .u8 b2) w := fun _ => by kernel_rfl
  have i3 : ∀ w, (Instr.index 37 (.agg #[.int .u8 b0, .int .u8 b1, .int .u8 b2, .int .u8 b3, .int .u8 b4, .int .u8 b5, .int .u8 b6, .int .u8 b7]) (.int .i64 3)).run Try.prog w = .ok (.int .u8 b3) w := fun _ => by kernel_rfl
  have i4 : ∀ w, (Instr.index 37 (.agg #[.int .u8 b0, .int .u8 b1, .int .u8 b2, .int .u8 b3, .int .u8 b4, .int .u8 b5, .int .u8 b6, .int .u8 b7]) (.int .i64 4)).run Try.prog w = .ok (.int .u8 b4) w := fun _ => by kernel_rfl
  have i5 : ∀ w, (Instr.index 37 (.agg #[.int .u8 b0, .int .u8 b1, .int .u8 b2, .int .u8 b3, .int .u8 b4, .int .u8 b5, .int .u8 b6, .int .u8 b7]) (.int .i64 5)).run Try.prog w = .ok (.int .u8 b5) w := fun _ => by kernel_rfl
  have i6 : ∀ w, (Instr.index 37 (.agg #[.int .u8 b0, .int .u8 b1, .int .u8 b2, .int .u8 b3, .int .u8 b4, .int .u8 b5, .int .u8 b6, .int .u8 b7]) (.int .i64 6)).run Try.prog w = .ok (.int .u8 b6) w := fun _ => by kernel_rfl
  have i7 : ∀ w, (Instr.index 37 (.agg #[.int .u8 b0, .int .u8 b1, .int .u8 b2, .int .u8 b3, .int .u8 b4, .int .u8 b5, .int .u8 b6, .int .u8 b7]) (.int .i64 7)).run Try.prog w = .ok (.int .u8 b7) w := fun _ => by kernel_rfl
  go_enter Try.func43, Try.ntmps43
  go_wp2_with fail
  refine wp_loop_rounds 9 ?_
  iterate 9 (rw [rounds_succ]; go_wp2_with fail)
  refine (HI.out _).mono ?_
  rintro e w' ⟨rfl, rfl⟩
  go_wp2_with fail
  go_ret2
  exact ⟨rfl, (Kept.refl w).alloc _⟩
theorem bits_or_add (v b : Int) (k : Nat) (hv0 : 0 ≤ v) (hv : v < 2 ^ k) (hb0 : 0 ≤ b) (hlt : v + b * 2 ^ k ≤ 18446744073709551615) : bits .or .u64 v (b * 2 ^ k) = v + b * 2 ^ k := by
  obtain ⟨V, rfl⟩ := Int.eq_ofNat_of_zero_le hv0
  obtain ⟨B, rfl⟩ := Int.eq_ofNat_of_zero_le hb0
  have e : (B : Int) * 2 ^ k = ((B * 2 ^ k : Nat) : Int) := by simp
  rw [e] at hlt ⊢
  have hv' : V < 2 ^ k := by
    have : ((2 ^ k : Nat) : Int) = 2 ^ k := by simp
    omega
  rw [bits_or_u64_nat V (B * 2 ^ k) (by omega) (by omega), Nat.or_comm, Nat.mul_comm B, ← Nat.two_pow_add_eq_or_of_lt hv']
  omega
theorem leVal_lo : ∀ (l : List Int), (∀ b ∈ l, isByte b) → 0 ≤ leVal l
  | [], _ => by simp [leVal]
  | b :: r, h => by
    have := leVal_lo r fun x hx => h x (by simp [hx])
    have := h b (by simp)
    unfold isByte at this
    simp only [leVal]; omega
theorem g_Take {bs : List Int} (hl : bs.length = 8) (hb : ∀ b ∈ bs, isByte b) :
    Pure Try.prog 43 #[.agg (bytesV bs).toArray] (if leVal bs < gP then .tuple #[.int .u64 (leVal bs), .int .i64 0] else .tuple #[.int .u64 0, .int .i64 7]) := fun w => by
  match bs, hl with
  | [b0, b1, b2, b3, b4, b5, b6, b7], _ =>
    have h0 := hb b0 (by simp)
    have h1 := hb b1 (by simp)
    have h2 := hb b2 (by simp)
    have h3 := hb b3 (by simp)
    have h4 := hb b4 (by simp)
    have h5 := hb b5 (by simp)
    have h6 := hb b6 (by simp)
    have h7 := hb b7 (by simp)
    unfold isByte at h0 h1 h2 h3 h4 h5 h6 h7
    have e : leVal [b0, b1, b2, b3, b4, b5, b6, b7] = b0 + b1 * 256 + b2 * 65536 + b3 * 16777216 + b4 * 4294967296 + b5 * 1099511627776 + b6 * 281474976710656 + b7 * 72057594037927936 := by simp only [leVal]; omega
    have hin : Gives 34 #[.int .u64 (b0 + b1 * 256 + b2 * 65536 + b3 * 16777216 + b4 * 4294967296 + b5 * 1099511627776 + b6 * 281474976710656 + b7 * 72057594037927936)] (.bool (decide (b0 + b1 * 256 + b2 * 65536 + b3 * 16777216 + b4 * 4294967296 + b5 * 1099511627776 + b6 * 281474976710656 + b7 * 72057594037927936 < gP))) := fun w => gold_In _ w
    rw [e]
    have o0 : bits .or .u64 0 b0 = b0 := by
      have := bits_or_add 0 b0 0 (by omega) (by omega) (by omega) (by omega)
      simpa using this
    have o1 : bits .or .u64 (b0) (b1 * 256) = b0 + b1 * 256 := bits_or_add _ b1 8 (by omega) (by omega) (by omega) (by omega)
    have o2 : bits .or .u64 (b0 + b1 * 256) (b2 * 65536) = b0 + b1 * 256 + b2 * 65536 := bits_or_add _ b2 16 (by omega) (by omega) (by omega) (by omega)
    have o3 : bits .or .u64 (b0 + b1 * 256 + b2 * 65536) (b3 * 16777216) = b0 + b1 * 256 + b2 * 65536 + b3 * 16777216 := bits_or_add _ b3 24 (by omega) (by omega) (by omega) (by omega)
    have o4 : bits .or .u64 (b0 + b1 * 256 + b2 * 65536 + b3 * 16777216) (b4 * 4294967296) = b0 + b1 * 256 + b2 * 65536 + b3 * 16777216 + b4 * 4294967296 := bits_or_add _ b4 32 (by omega) (by omega) (by omega) (by omega)
    have o5 : bits .or .u64 (b0 + b1 * 256 + b2 * 65536 + b3 * 16777216 + b4 * 4294967296) (b5 * 1099511627776) = b0 + b1 * 256 + b2 * 65536 + b3 * 16777216 + b4 * 4294967296 + b5 * 1099511627776 := bits_or_add _ b5 40 (by omega) (by omega) (by omega) (by omega)
    have o6 : bits .or .u64 (b0 + b1 * 256 + b2 * 65536 + b3 * 16777216 + b4 * 4294967296 + b5 * 1099511627776) (b6 * 281474976710656) = b0 + b1 * 256 + b2 * 65536 + b3 * 16777216 + b4 * 4294967296 + b5 * 1099511627776 + b6 * 281474976710656 := bits_or_add _ b6 48 (by omega) (by omega) (by omega) (by omega)
    have o7 : bits .or .u64 (b0 + b1 * 256 + b2 * 65536 + b3 * 16777216 + b4 * 4294967296 + b5 * 1099511627776 + b6 * 281474976710656) (b7 * 72057594037927936) = b0 + b1 * 256 + b2 * 65536 + b3 * 16777216 + b4 * 4294967296 + b5 * 1099511627776 + b6 * 281474976710656 + b7 * 72057594037927936 := bits_or_add _ b7 56 (by omega) (by omega) (by omega) (by omega)
    by_cases h : b0 + b1 * 256 + b2 * 65536 + b3 * 16777216 + b4 * 4294967296 + b5 * 1099511627776 + b6 * 281474976710656 + b7 * 72057594037927936 < gP
    · rw [if_pos h]
      rw [decide_eq_true h] at hin
      exact gold_Take_yes b0 _ b1 _ b2 _ b3 _ b4 _ b5 _ b6 _ b7 _ w h0.1 h0.2 h1.1 h1.2 h2.1 h2.2 h3.1 h3.2 h4.1 h4.2 h5.1 h5.2 h6.1 h6.2 h7.1 h7.2 o0 o1 o2 o3 o4 o5 o6 o7 hin
    · rw [if_neg h]
      rw [decide_eq_false h] at hin
      exact gold_Take_no b0 _ b1 _ b2 _ b3 _ b4 _ b5 _ b6 _ b7 _ w h0.1 h0.2 h1.1 h1.2 h2.1 h2.2 h3.1 h3.2 h4.1 h4.2 h5.1 h5.2 h6.1 h6.2 h7.1 h7.2 o0 o1 o2 o3 o4 o5 o6 o7 hin
end Go.Proofs.Ytnajihlhcdedgaa

namespace Go.Proofs.Ytnajihlhcdedgaa
open Go.RowKit
set_option linter.unusedVariables false
set_option linter.unusedSimpArgs false
attribute [local simp] blkAt_setCell blkAt_alloc blkAt_drew Obj.put_cells
theorem size37b : (Try.prog.info? 37).map (·.size) = some 8 := by kernel_rfl
theorem size54b : (Try.prog.info? 54).map (·.size) = some 16 := by kernel_rfl
end Go.Proofs.Ytnajihlhcdedgaa

namespace Go.Proofs.Ytnajihlhcdedgaa
open Go.RowKit
set_option linter.unusedVariables false
set_option linter.unusedSimpArgs false
attribute [local simp] blkAt_setCell blkAt_alloc blkAt_drew Obj.put_cells
theorem run_loadVar_at {P : Program} (w : World) (g o : Nat) (ty : TypeId) {m k : Nat} {e : TypeId} (f : Nat → Value) (hc : ∀ j, j < m → w.cell? ⟨g, o + j, none⟩ = some (f j)) (hu : P.underlying ty = some (.array k e)) (hi : (P.info? ty).map (·.size) = some m) :
    (loadVar ty ⟨g, o, none⟩).run P w = .ok (.agg (rowF m f)) w := by
  have hl : (loadCells ⟨g, o, none⟩ (rowF m f).toList.length).run P w = .ok (rowF m f).toList.toArray w :=
    run_loadCells_list (P := P) w ⟨g, o, none⟩ (rowF m f).toList (fun j v hv => by
      have hadd : (⟨g, o, none⟩ : Addr).add j = ⟨g, o + j, none⟩ := by rw [Addr.add_lit]
      have hj : j < m := by have := (List.getElem?_eq_some_iff.1 hv).1; simpa [rowF] using this
      rw [hadd, hc j hj]
      rw [← hv, Array.getElem?_toList, rowF_get hj])
  cases hq : P.info? ty with
  | none => simp [hq] at hi
  | some i =>
    have hs : i.size = m := by simpa [hq] using hi
    have hagg : (isAgg ty).run P w = .ok true w := by
      unfold isAgg
      rw [Sem.run_bind, run_underlying hu w]
      rfl
    simp only [Array.length_toList, Array.toArray_toList, rowF_size] at hl
    simp [loadVar, Sem.run_bind, hagg, sizeOf, typeInfo, hq, hs, hl]
/-- An array is read whole at a place. -/
theorem wpList_load_at {P : Program} {ops : Array Oper} {rest : List Oper} {o' : Oper} {a : Act} {w : World} {Q : Exit → Act → World → Prop} (ty : TypeId) (x : Operand) {g o : Nat} {m k : Nat} {e : TypeId} {f : Nat → Value} (hc : ∀ j, j < m → w.cell? ⟨g, o + j, none⟩ = some (f j)) (hu : P.underlying ty = some (.array k e)) (hi : (P.info? ty).map (·.size) = some m)
    (hgd : o'.guard = none) (ho : o'.op = .load ty x) (hx : a.eval x = .pointer (some ⟨g, o, none⟩))
    (h : wpList P ops Q rest (a.put o'.dst (.agg (rowF m f))) w) : wpList P ops Q (o' :: rest) a w := by
  refine wpList_plain hgd fun _ hK => ?_
  unfold Oper.wp execOp
  simp only [ho, hx, Instr.loadAt, Instr.sureAddr, Sem.run_bind, Sem.run_pure, Result.andThen_ok, run_loadVar_at w g o ty f hc hu hi]
  exact hK _ _ h
set_option maxRecDepth 100000 in
set_option maxHeartbeats 4000000 in
theorem f_Take_s (w : World) (g o cap : Nat) (C : Nat → Int) (n e : Int) (hc : Hid (∀ j, j < 8 → w.cell? ⟨g, o + j, none⟩ = some (.int .u8 (C j)))) (hcap : 8 ≤ cap)
    (hG : Pure Try.prog 43 #[.agg (rowF 8 (fun i => .int .u8 (C i)))] (.tuple #[.int .u64 n, .int .i64 e])) :
    Calls Try.prog 97 #[.int .u8 1, .slice (some ⟨g, o, none⟩) 8 cap] w fun e' w' => e' = .returned (.tuple #[.agg #[.int .u64 n, .int .u64 0], .int .i64 e]) ∧ Kept w w' := by
  have harr : ∀ w, (Instr.arrayAt 37 (.slice (some ⟨g, o, none⟩) 8 cap)).run Try.prog w = .ok (.pointer (some ⟨g, o, none⟩)) w := fun w => by
    simp [Instr.arrayAt, run_underlying Try.underlying37]
  have HG := Lib.hid hG
  have HV := Lib.hid f_Valid_s
  have HS := Lib.hid f_Size_s
  clear hG
  obtain ⟨g4, hg4⟩ : ∃ g, w.heap.size = g := ⟨_, rfl⟩
  have nw4 : w.heap.size ≤ g4 := by omega
  go_enter Try.func97, Try.ntmps97
  go_wp2_with fail
  try simp only [hg4]
  refine abs_calls (fun W => Kept w W ∧ Blk W g4 28 #[.int .u64 0, .int .u64 0]) ⟨(Kept.refl w).alloc _, by rw [← hg4]; exact Blk.new _ _ _⟩ ?_
  clear hg4
  rintro W1 ⟨k1, B1⟩
  refine (HV.out _).mono ?_
  rintro e' W2 ⟨rfl, hk2⟩
  have k2 := k1.trans hk2
  have B2 := B1.kept hk2
  clear k1 B1 hk2
  go_wp2_with fail
  refine (HS.out _).mono ?_
  rintro e' W3 ⟨rfl, hk3⟩
  have k3 := k2.trans hk3
  have B3 := B2.kept hk3
  clear k2 B2 hk3
  have HC3 : Hid (∀ j, j < 8 → W3.cell? ⟨g, o + j, none⟩ = some (.int .u8 (C j))) := Lib.hid fun j hj => k3.cell (hc.out j hj)
  go_wp2_with (refine wpList_load_at 37 (.tmp 22) (m := 8) (f := fun i => .int .u8 (C i)) HC3.out Try.underlying37 size37b rfl rfl rfl ?_)
  refine (HG.out _).mono ?_
  rintro e' W4 ⟨rfl, hk4⟩
  have k4 := k3.trans hk4
  have B4 := B3.kept hk4
  clear k3 B3 hk4 HC3
  have c0 := B4.cell 0 rfl
  have c1 := B4.cell 1 rfl
  have fr := B4.free
  go_wp2_with fail
  refine bodyPost_ret (v := .tuple #[.agg #[.int .u64 n, .int .u64 0], .int .i64 e]) (by simp [results, Try.results97, go_sem, *]) rfl ⟨rfl, ?_⟩
  exact (k4.setCell (kept_side nw4) _).setCell (kept_side nw4) _
set_option maxRecDepth 100000 in
set_option maxHeartbeats 4000000 in
theorem f_Take_l (w : World) (g o cap : Nat) (C : Nat → Int) (r0 r1 e : Int) (hc : Hid (∀ j, j < 16 → w.cell? ⟨g, o + j, none⟩ = some (.int .u8 (C j)))) (hcap : 16 ≤ cap)
    (hG : Pure Try.prog 57 #[.agg (rowF 16 (fun i => .int .u8 (C i)))] (.tuple #[.agg #[.int .u64 r0, .int .u64 r1], .int .i64 e])) :
    Calls Try.prog 97 #[.int .u8 2, .slice (some ⟨g, o, none⟩) 16 cap] w fun e' w' => e' = .returned (.tuple #[.agg #[.int .u64 r0, .int .u64 r1], .int .i64 e]) ∧ Kept w w' := by
  have harr : ∀ w, (Instr.arrayAt 54 (.slice (some ⟨g, o, none⟩) 16 cap)).run Try.prog w = .ok (.pointer (some ⟨g, o, none⟩)) w := fun w => by
    simp [Instr.arrayAt, run_underlying Try.underlying54]
  have HG := Lib.hid hG
  have HV := Lib.hid f_Valid_l
  have HS := Lib.hid f_Size_l
  clear hG
  obtain ⟨g4, hg4⟩ : ∃ g, w.heap.size = g := ⟨_, rfl⟩
  have nw4 : w.heap.size ≤ g4 := by omega
  go_enter Try.func97, Try.ntmps97
  go_wp2_with fail
  try simp only [hg4]
  refine abs_calls (fun W => Kept w W ∧ Blk W g4 28 #[.int .u64 0, .int .u64 0]) ⟨(Kept.refl w).alloc _, by rw [← hg4]; exact Blk.new _ _ _⟩ ?_
  clear hg4
  rintro W1 ⟨k1, B1⟩
  refine (HV.out _).mono ?_
  rintro e' W2 ⟨rfl, hk2⟩
  have k2 := k1.trans hk2
  have B2 := B1.kept hk2
  clear k1 B1 hk2
  go_wp2_with fail
  refine (HS.out _).mono ?_
  rintro e' W3 ⟨rfl, hk3⟩
  have k3 := k2.trans hk3
  have B3 := B2.kept hk3
  clear k2 B2 hk3
  have HC3 : Hid (∀ j, j < 16 → W3.cell? ⟨g, o + j, none⟩ = some (.int .u8 (C j))) := Lib.hid fun j hj => k3.cell (hc.out j hj)
  go_wp2_with (refine wpList_load_at 54 (.tmp 31) (m := 16) (f := fun i => .int .u8 (C i)) HC3.out Try.underlying54 size54b rfl rfl rfl ?_)
  refine (HG.out _).mono ?_
  rintro e' W4 ⟨rfl, hk4⟩
  have k4 := k3.trans hk4
  have B4 := B3.kept hk4
  clear k3 B3 hk4 HC3
  have c0 := B4.cell 0 rfl
  have c1 := B4.cell 1 rfl
  have fr := B4.free
  go_wp2_with fail
  refine bodyPost_ret (v := .tuple #[.agg #[.int .u64 r0, .int .u64 r1], .int .i64 e]) (by simp [results, Try.results97, go_sem, *]) rfl ⟨rfl, ?_⟩
  exact (k4.setCell (kept_side nw4) _).setCell (kept_side nw4) _
end Go.Proofs.Ytnajihlhcdedgaa

namespace Go.Proofs.Ytnajihlhcdedgaa
open Go.RowKit
set_option linter.unusedVariables false
set_option linter.unusedSimpArgs false
attribute [local simp] blkAt_setCell blkAt_alloc blkAt_drew Obj.put_cells
theorem leVal_cons (b : Int) (r : List Int) : leVal (b :: r) = b + 256 * leVal r := rfl
theorem leVal_append : ∀ (l r : List Int), leVal (l ++ r) = leVal l + 256 ^ l.length * leVal r
  | [], r => by simp [leVal]
  | b :: l, r => by
    rw [List.cons_append, leVal_cons, leVal_cons, leVal_append l r, List.length_cons, Int.pow_succ, Int.mul_add, Int.add_assoc, ← Int.mul_assoc, Int.mul_comm (256 ^ l.length) 256]
end Go.Proofs.Ytnajihlhcdedgaa
