/-
  The Boolean 'calmB' of a large region, reckoned in parts.
-/
import Derived.Test.YtnajihlhcdedgaaZa
namespace Go.Proofs.Ytnajihlhcdedgaa
open Go.RowKit
set_option linter.unusedVariables false

/-- The first k of n are listed. -/
def mask (n k : Nat) : Array Bool := (List.replicate k true ++ List.replicate (n - k) false).toArray
theorem mask_set {n k : Nat} (h : k < n) : (mask n k).setIfInBounds k true = mask n (k + 1) := by
  unfold mask
  rw [List.setIfInBounds_toArray]
  congr 1
  obtain ⟨d, hd⟩ : ∃ d, n - k = d + 1 := ⟨n - k - 1, by omega⟩
  have hd2 : n - (k + 1) = d := by omega
  rw [hd, hd2, List.set_append_right _ _ (by simp), List.length_replicate, Nat.sub_self, List.replicate_succ, List.set_cons_zero, List.replicate_succ', List.append_assoc]
  rfl
theorem mask_zero (n : Nat) : mask n 0 = Array.replicate n false := by
  unfold mask
  simp
theorem listAll_append (k1 k2 : List Nat) (l : Array Bool) : listAll (k1 ++ k2) l = listAll k2 (listAll k1 l) := by
  unfold listAll
  rw [List.foldl_append]
theorem listAll_mask (n : Nat) : ∀ k, k ≤ n → listAll (List.range k) (Array.replicate n false) = mask n k
  | 0, _ => (mask_zero n).symm
  | k + 1, h => by
    rw [List.range_succ, listAll_append, listAll_mask n k (by omega)]
    exact mask_set (by omega)
/-- As lexCalm, from a on, c of them. -/
def lexM (md : Region.Mode) (ops : Array Oper) : Nat → Nat → Bool
  | _, 0 => true
  | a, c + 1 => (Region.ready md ops (mask ops.size a)).contains a && Region.free md ops (mask ops.size a) a && lexM md ops (a + 1) c
theorem lexM_calm {md : Region.Mode} {ops : Array Oper} : ∀ c a, a + c ≤ ops.size → lexM md ops a c = true → ∀ ks, lexCalm md ops ks (mask ops.size (a + c)) = true → lexCalm md ops (List.range' a c ++ ks) (mask ops.size a) = true
  | 0, a, _, _, ks, h => by simpa using h
  | c + 1, a, hs, h, ks, hk => by
    simp only [lexM, Bool.and_eq_true] at h
    rw [List.range'_succ, List.cons_append]
    simp only [lexCalm, Bool.and_eq_true]
    refine ⟨h.1, ?_⟩
    rw [mask_set (by omega)]
    refine lexM_calm c (a + 1) (by omega) h.2 ks ?_
    rw [show a + 1 + c = a + (c + 1) by omega]
    exact hk
/-- Six parts of c operations each. -/
theorem calmB_six {ops : Array Oper} {k : Nat} (c : Nat) (hk : k = c * 6) (h1 : Region.noSelect ops = true) (h2 : decide (k ≤ ops.size) = true) (h3 : (Region.sinkB .any ops k || decide (ops.size ≤ k)) = true) (h4 : Region.chainB .any ops k = true)
    (l0 : lexM .any ops 0 c = true) (l1 : lexM .any ops c c = true) (l2 : lexM .any ops (c * 2) c = true) (l3 : lexM .any ops (c * 3) c = true) (l4 : lexM .any ops (c * 4) c = true) (l5 : lexM .any ops (c * 5) c = true)
    (h6 : Region.seqB .any ops (ops.size - k) k (mask ops.size k) = true) : calmB ops k 0 = true := by
  have hs : k ≤ ops.size := of_decide_eq_true h2
  have hlex : lexCalm .any ops (List.range k) (Array.replicate ops.size false) = true := by
    rw [← mask_zero]
    have e : List.range k = List.range' 0 c ++ (List.range' c c ++ (List.range' (c * 2) c ++ (List.range' (c * 3) c ++ (List.range' (c * 4) c ++ (List.range' (c * 5) c ++ []))))) := by
      rw [List.range_eq_range', List.append_nil]
      have ap : ∀ s m n t r : Nat, t = s + m → r = m + n → List.range' s m ++ List.range' t n = List.range' s r := fun s m n t r h h' => by subst h; subst h'; simp
      rw [ap (c * 4) c c (c * 5) (c * 2) (by omega) (by omega), ap (c * 3) c (c * 2) (c * 4) (c * 3) (by omega) (by omega), ap (c * 2) c (c * 3) (c * 3) (c * 4) (by omega) (by omega), ap c c (c * 4) (c * 2) (c * 5) (by omega) (by omega), ap 0 c (c * 5) c k (by omega) (by omega)]
    rw [e]
    have st : ∀ a t ks, t = a + c → a + c ≤ ops.size → lexM .any ops a c = true → lexCalm .any ops ks (mask ops.size t) = true → lexCalm .any ops (List.range' a c ++ ks) (mask ops.size a) = true := fun a t ks ht hl h hk => by subst ht; exact lexM_calm c a hl h ks hk
    exact st 0 c _ (by omega) (by omega) l0 (st c (c * 2) _ (by omega) (by omega) l1 (st (c * 2) (c * 3) _ (by omega) (by omega) l2 (st (c * 3) (c * 4) _ (by omega) (by omega) l3 (st (c * 4) (c * 5) _ (by omega) (by omega) l4 (st (c * 5) (c * 6) _ (by omega) (by omega) l5 rfl)))))
  unfold calmB
  simp only [Nat.add_zero, Bool.and_eq_true]
  refine ⟨⟨⟨⟨⟨h1, h2⟩, h3⟩, h4⟩, hlex⟩, ?_⟩
  rw [listAll_mask ops.size k hs]
  exact h6
end Go.Proofs.Ytnajihlhcdedgaa
