/-
  The walks of the reference: Of, Add, Neg, Sub: over numbers of 128 bits, in either field.
-/
import Derived.Test.YtnajihlhcdedgaaR1
namespace Go.Proofs.Ytnajihlhcdedgaa
open Go.RowKit
set_option linter.unusedVariables false

/-- Which field: its modulus; a number in it. -/
def isF (f : Int) : Prop := f = 1 ∨ f = 2
def rP (f : Int) : Int := if f = 1 then gP else wP
def rOf (f n : Int) : Int := if f = 1 then n % 18446744073709551616 % gP else n % wP
theorem rP_pos (f : Int) : 0 < rP f := by unfold rP gP wP; split <;> omega
theorem rP_lt (f : Int) : rP f ≤ 340282366920938462946865773367900766209 := by unfold rP gP wP; split <;> omega
theorem rOf_lo (f n : Int) : 0 ≤ rOf f n := by unfold rOf gP wP; split <;> omega
theorem rOf_lt (f n : Int) : rOf f n < rP f := by unfold rOf rP gP wP; split <;> omega
theorem is128_rOf (f n : Int) : is128 (rOf f n) := by have := rOf_lo f n; have := rOf_lt f n; have := rP_lt f; unfold is128; omega
theorem is128_rP (f : Int) : is128 (rP f) := by have := rP_pos f; have := rP_lt f; unfold is128; omega
theorem is128_emod (f n : Int) : is128 (n % rP f) := by
  have h := rP_pos f; have := rP_lt f; have := Int.emod_nonneg n (by omega : rP f ≠ 0); have := Int.emod_lt_of_pos n h; unfold is128; omega

theorem ref_P {f : Int} (hf : isF f) : Pure Try.prog 59 #[.int .i64 f] (E (rP f)) := by
  rcases hf with rfl | rfl
  · exact ref_P1
  · exact ref_P2

set_option maxRecDepth 100000 in
set_option maxHeartbeats 400000 in
theorem ref_Of_stay2 (a0 a1 : Int) (p : Value) (hP : Pure Try.prog 59 #[.int .i64 2] p)
    (hL : Pure Try.prog 113 #[.agg #[.int .u64 a0, .int .u64 a1], p] (.bool true)) :
    Pure Try.prog 32 #[.int .i64 2, .agg #[.int .u64 a0, .int .u64 a1]] (.agg #[.int .u64 a0, .int .u64 a1]) := fun w => by
  have HP := Lib.hid hP
  have HL := Lib.hid hL
  clear hP hL
  go_enter Try.func32, Try.ntmps32
  go_wp2_with fail
  refine wp_region_calm 5 (by kernel_rfl) (by kernel_rfl) ?_
  simp only [List.take_succ_cons, List.take_zero, List.drop_succ_cons, List.drop_zero]
  repeat (first
    | (refine calm_skip rfl ?_; simp only [Act.put, List.setIfInBounds_toArray, List.set_cons_zero, List.set_cons_succ])
    | (refine calm_ex rfl ?_; apply Exists.intro; refine And.intro (fun w' hk => ?_) ?_; (focus (have hc := hk.cells; clear hk; go_simp; exact rfl)); simp only [Act.put, List.setIfInBounds_toArray, List.set_cons_zero, List.set_cons_succ])
    | (refine calm_step _ rfl (HP.out.call ?_) ?_; (focus (intro w'; go_simp; done)); simp only [Act.put, List.setIfInBounds_toArray, List.set_cons_zero, List.set_cons_succ])
    | (refine calm_step _ rfl (HL.out.call ?_) ?_; (focus (intro w'; go_simp; done)); simp only [Act.put, List.setIfInBounds_toArray, List.set_cons_zero, List.set_cons_succ]))
  refine calm_nil ?_
  intro w1 hkw1
  have hcw1 := hkw1.cells
  have hfw1 := hkw1.marks
  have hzw10 : w.heap.size < w1.heap.size := by have := hkw1.size; (try simp at this); omega
  have hzw11 : w.heap.size + 1 < w1.heap.size := by have := hkw1.size; (try simp at this); omega
  go_wp2
  refine bodyPost_ret (v := .agg #[.int .u64 a0, .int .u64 a1]) (by simp [results, Try.results32, go_sem, hcw1]) rfl ⟨rfl, ?_⟩
  repeat (first | exact Kept.refl _ | (refine Kept.setCell ?_ (by simp) _) | (refine Kept.trans ?_ hkw1) | apply Kept.alloc)

set_option maxRecDepth 100000 in
set_option maxHeartbeats 400000 in
theorem ref_Of_take2 (a0 a1 r0 r1 : Int) (p : Value) (hP : Pure Try.prog 59 #[.int .i64 2] p)
    (hL : Pure Try.prog 113 #[.agg #[.int .u64 a0, .int .u64 a1], p] (.bool false)) (hT : Pure Try.prog 114 #[.agg #[.int .u64 a0, .int .u64 a1], p] (.agg #[.int .u64 r0, .int .u64 r1])) :
    Pure Try.prog 32 #[.int .i64 2, .agg #[.int .u64 a0, .int .u64 a1]] (.agg #[.int .u64 r0, .int .u64 r1]) := fun w => by
  have HP := Lib.hid hP
  have HL := Lib.hid hL
  have HT := Lib.hid hT
  clear hP hL hT
  go_enter Try.func32, Try.ntmps32
  go_wp2_with fail
  refine wp_region_calm 5 (by kernel_rfl) (by kernel_rfl) ?_
  simp only [List.take_succ_cons, List.take_zero, List.drop_succ_cons, List.drop_zero]
  repeat (first
    | (refine calm_skip rfl ?_; simp only [Act.put, List.setIfInBounds_toArray, List.set_cons_zero, List.set_cons_succ])
    | (refine calm_ex rfl ?_; apply Exists.intro; refine And.intro (fun w' hk => ?_) ?_; (focus (have hc := hk.cells; clear hk; go_simp; exact rfl)); simp only [Act.put, List.setIfInBounds_toArray, List.set_cons_zero, List.set_cons_succ])
    | (refine calm_step _ rfl (HP.out.call ?_) ?_; (focus (intro w'; go_simp; done)); simp only [Act.put, List.setIfInBounds_toArray, List.set_cons_zero, List.set_cons_succ])
    | (refine calm_step _ rfl (HL.out.call ?_) ?_; (focus (intro w'; go_simp; done)); simp only [Act.put, List.setIfInBounds_toArray, List.set_cons_zero, List.set_cons_succ]))
  refine calm_nil ?_
  intro w1 hkw1
  have hcw1 := hkw1.cells
  have hfw1 := hkw1.marks
  have hzw10 : w.heap.size < w1.heap.size := by have := hkw1.size; (try simp at this); omega
  have hzw11 : w.heap.size + 1 < w1.heap.size := by have := hkw1.size; (try simp at this); omega
  go_wp2_with fail
  refine wp_region_calm 4 (by kernel_rfl) (by kernel_rfl) ?_
  simp only [List.take_succ_cons, List.take_zero, List.drop_succ_cons, List.drop_zero]
  repeat (first
    | (refine calm_skip rfl ?_; simp only [Act.put, List.setIfInBounds_toArray, List.set_cons_zero, List.set_cons_succ])
    | (refine calm_ex rfl ?_; apply Exists.intro; refine And.intro (fun w' hk => ?_) ?_; (focus (have hc := hk.cells; clear hk; go_simp; exact rfl)); simp only [Act.put, List.setIfInBounds_toArray, List.set_cons_zero, List.set_cons_succ])
    | (refine calm_step _ rfl (HP.out.call ?_) ?_; (focus (intro w'; go_simp; done)); simp only [Act.put, List.setIfInBounds_toArray, List.set_cons_zero, List.set_cons_succ])
    | (refine calm_step _ rfl (HT.out.call ?_) ?_; (focus (intro w'; go_simp; done)); simp only [Act.put, List.setIfInBounds_toArray, List.set_cons_zero, List.set_cons_succ]))
  refine calm_nil ?_
  intro w2 hkw2
  have hcw2 := hkw2.cells
  have hfw2 := hkw2.marks
  have hzw20 : w.heap.size < w2.heap.size := by have := hkw2.size; (try simp at this); omega
  have hzw21 : w.heap.size + 1 < w2.heap.size := by have := hkw2.size; (try simp at this); omega
  go_wp2
  refine bodyPost_ret (v := .agg #[.int .u64 r0, .int .u64 r1]) (by simp [results, Try.results32, go_sem, hcw1, hcw2, hzw11]) rfl ⟨rfl, ?_⟩
  repeat (first | exact Kept.refl _ | (refine Kept.setCell ?_ (by simp) _) | (refine Kept.trans ?_ hkw2) | (refine Kept.trans ?_ hkw1) | apply Kept.alloc)

set_option maxRecDepth 100000 in
set_option maxHeartbeats 400000 in
theorem ref_Of_stay1 (a0 a1 : Int) (p : Value) (hP : Pure Try.prog 59 #[.int .i64 1] p)
    (hL : Pure Try.prog 113 #[.agg #[.int .u64 a0, .int .u64 0], p] (.bool true)) :
    Pure Try.prog 32 #[.int .i64 1, .agg #[.int .u64 a0, .int .u64 a1]] (.agg #[.int .u64 a0, .int .u64 0]) := fun w => by
  have HP := Lib.hid hP
  have HL := Lib.hid hL
  clear hP hL
  go_enter Try.func32, Try.ntmps32
  go_wp2_with fail
  refine wp_region_calm 5 (by kernel_rfl) (by kernel_rfl) ?_
  simp only [List.take_succ_cons, List.take_zero, List.drop_succ_cons, List.drop_zero]
  repeat (first
    | (refine calm_skip rfl ?_; simp only [Act.put, List.setIfInBounds_toArray, List.set_cons_zero, List.set_cons_succ])
    | (refine calm_ex rfl ?_; apply Exists.intro; refine And.intro (fun w' hk => ?_) ?_; (focus (have hc := hk.cells; clear hk; go_simp; exact rfl)); simp only [Act.put, List.setIfInBounds_toArray, List.set_cons_zero, List.set_cons_succ])
    | (refine calm_step _ rfl (HP.out.call ?_) ?_; (focus (intro w'; go_simp; done)); simp only [Act.put, List.setIfInBounds_toArray, List.set_cons_zero, List.set_cons_succ])
    | (refine calm_step _ rfl (HL.out.call ?_) ?_; (focus (intro w'; go_simp; done)); simp only [Act.put, List.setIfInBounds_toArray, List.set_cons_zero, List.set_cons_succ]))
  refine calm_nil ?_
  intro w1 hkw1
  have hcw1 := hkw1.cells
  have hfw1 := hkw1.marks
  have hzw10 : w.heap.size < w1.heap.size := by have := hkw1.size; (try simp at this); omega
  have hzw11 : w.heap.size + 1 < w1.heap.size := by have := hkw1.size; (try simp at this); omega
  go_wp2
  refine bodyPost_ret (v := .agg #[.int .u64 a0, .int .u64 0]) (by simp [results, Try.results32, go_sem, hcw1]) rfl ⟨rfl, ?_⟩
  repeat (first | exact Kept.refl _ | (refine Kept.setCell ?_ (by simp) _) | (refine Kept.trans ?_ hkw1) | apply Kept.alloc)

set_option maxRecDepth 100000 in
set_option maxHeartbeats 400000 in
theorem ref_Of_take1 (a0 a1 r0 r1 : Int) (p : Value) (hP : Pure Try.prog 59 #[.int .i64 1] p)
    (hL : Pure Try.prog 113 #[.agg #[.int .u64 a0, .int .u64 0], p] (.bool false)) (hT : Pure Try.prog 114 #[.agg #[.int .u64 a0, .int .u64 0], p] (.agg #[.int .u64 r0, .int .u64 r1])) :
    Pure Try.prog 32 #[.int .i64 1, .agg #[.int .u64 a0, .int .u64 a1]] (.agg #[.int .u64 r0, .int .u64 r1]) := fun w => by
  have HP := Lib.hid hP
  have HL := Lib.hid hL
  have HT := Lib.hid hT
  clear hP hL hT
  go_enter Try.func32, Try.ntmps32
  go_wp2_with fail
  refine wp_region_calm 5 (by kernel_rfl) (by kernel_rfl) ?_
  simp only [List.take_succ_cons, List.take_zero, List.drop_succ_cons, List.drop_zero]
  repeat (first
    | (refine calm_skip rfl ?_; simp only [Act.put, List.setIfInBounds_toArray, List.set_cons_zero, List.set_cons_succ])
    | (refine calm_ex rfl ?_; apply Exists.intro; refine And.intro (fun w' hk => ?_) ?_; (focus (have hc := hk.cells; clear hk; go_simp; exact rfl)); simp only [Act.put, List.setIfInBounds_toArray, List.set_cons_zero, List.set_cons_succ])
    | (refine calm_step _ rfl (HP.out.call ?_) ?_; (focus (intro w'; go_simp; done)); simp only [Act.put, List.setIfInBounds_toArray, List.set_cons_zero, List.set_cons_succ])
    | (refine calm_step _ rfl (HL.out.call ?_) ?_; (focus (intro w'; go_simp; done)); simp only [Act.put, List.setIfInBounds_toArray, List.set_cons_zero, List.set_cons_succ]))
  refine calm_nil ?_
  intro w1 hkw1
  have hcw1 := hkw1.cells
  have hfw1 := hkw1.marks
  have hzw10 : w.heap.size < w1.heap.size := by have := hkw1.size; (try simp at this); omega
  have hzw11 : w.heap.size + 1 < w1.heap.size := by have := hkw1.size; (try simp at this); omega
  go_wp2_with fail
  refine wp_region_calm 4 (by kernel_rfl) (by kernel_rfl) ?_
  simp only [List.take_succ_cons, List.take_zero, List.drop_succ_cons, List.drop_zero]
  repeat (first
    | (refine calm_skip rfl ?_; simp only [Act.put, List.setIfInBounds_toArray, List.set_cons_zero, List.set_cons_succ])
    | (refine calm_ex rfl ?_; apply Exists.intro; refine And.intro (fun w' hk => ?_) ?_; (focus (have hc := hk.cells; clear hk; go_simp; exact rfl)); simp only [Act.put, List.setIfInBounds_toArray, List.set_cons_zero, List.set_cons_succ])
    | (refine calm_step _ rfl (HP.out.call ?_) ?_; (focus (intro w'; go_simp; done)); simp only [Act.put, List.setIfInBounds_toArray, List.set_cons_zero, List.set_cons_succ])
    | (refine calm_step _ rfl (HT.out.call ?_) ?_; (focus (intro w'; go_simp; done)); simp only [Act.put, List.setIfInBounds_toArray, List.set_cons_zero, List.set_cons_succ]))
  refine calm_nil ?_
  intro w2 hkw2
  have hcw2 := hkw2.cells
  have hfw2 := hkw2.marks
  have hzw20 : w.heap.size < w2.heap.size := by have := hkw2.size; (try simp at this); omega
  have hzw21 : w.heap.size + 1 < w2.heap.size := by have := hkw2.size; (try simp at this); omega
  go_wp2
  refine bodyPost_ret (v := .agg #[.int .u64 r0, .int .u64 r1]) (by simp [results, Try.results32, go_sem, hcw1, hcw2, hzw11]) rfl ⟨rfl, ?_⟩
  repeat (first | exact Kept.refl _ | (refine Kept.setCell ?_ (by simp) _) | (refine Kept.trans ?_ hkw2) | (refine Kept.trans ?_ hkw1) | apply Kept.alloc)

theorem ref_Of {f n : Int} (hf : isF f) (hn : is128 n) : Pure Try.prog 32 #[.int .i64 f, E n] (E (rOf f n)) := by
  rcases hf with rfl | rfl
  · have h0 : is64 (n % 18446744073709551616) := is64_lo n
    have e0 : E (n % 18446744073709551616) = .agg #[.int .u64 (n % 18446744073709551616), .int .u64 0] := by
      have := E_mk (lo := n % 18446744073709551616) (hi := 0) h0
      rw [← this]; exact E_congr (by omega)
    have hm : is128 (n % 18446744073709551616) := by unfold is64 at h0; unfold is128; omega
    have hg : is128 gP := by unfold is128 gP; omega
    by_cases h : n % 18446744073709551616 < gP
    · have hL := ref_Less hm hg
      rw [decide_eq_true h, e0] at hL
      have := ref_Of_stay1 (n % 18446744073709551616) (n / 18446744073709551616) _ ref_P1 hL
      rw [← e0] at this
      rw [show rOf 1 n = n % 18446744073709551616 by unfold rOf; rw [if_pos rfl]; unfold gP at *; omega]
      exact this
    · have hL := ref_Less hm hg
      rw [decide_eq_false h, e0] at hL
      have hT := ref_take hm hg
      rw [e0] at hT
      have := ref_Of_take1 (n % 18446744073709551616) (n / 18446744073709551616) _ _ _ ref_P1 hL hT
      rw [show rOf 1 n = (n % 18446744073709551616 - gP) % 340282366920938463463374607431768211456 by unfold rOf; rw [if_pos rfl]; unfold gP at *; omega]
      exact this
  · have hg : is128 wP := by unfold is128 wP; omega
    by_cases h : n < wP
    · have hL := ref_Less hn hg
      rw [decide_eq_true h] at hL
      rw [show rOf 2 n = n by unfold rOf; rw [if_neg (by omega)]; unfold wP is128 at *; omega]
      exact ref_Of_stay2 _ _ _ ref_P2 hL
    · have hL := ref_Less hn hg
      rw [decide_eq_false h] at hL
      rw [show rOf 2 n = (n - wP) % 340282366920938463463374607431768211456 by unfold rOf; rw [if_neg (by omega)]; unfold wP is128 at *; omega]
      exact ref_Of_take2 _ _ _ _ _ ref_P2 hL (ref_take hn hg)

end Go.Proofs.Ytnajihlhcdedgaa
