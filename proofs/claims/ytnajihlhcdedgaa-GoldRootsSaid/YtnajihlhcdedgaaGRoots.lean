/-
  GoldRoots: for every order the law returns true.
  Conditions: none.
-/
import Derived.Test.YtnajihlhcdedgaaG4
namespace Go.Proofs.Ytnajihlhcdedgaa
open Go.RowKit
set_option linter.unusedVariables false
set_option linter.unusedSimpArgs false
attribute [local simp] blkAt_setCell blkAt_alloc blkAt_drew Obj.put_cells

set_option maxRecDepth 100000 in
set_option maxHeartbeats 4000000 in
theorem gold_roots_no (l : Int) (h : l < 0 ∨ 32 < l) (hK : Hid (Gives 26 #[] (.bool true))) (hR : Hid (Gives 46 #[.int .i64 l] (.tuple #[.int .u64 0, .int .i64 6]))) (w : World) :
    Calls Try.prog 7 #[.int .i64 l] w fun e w' => e = .returned (.bool true) ∧ Kept w w' := by
  rcases h with h | h
  · go_enter Try.func7, Try.ntmps7
    go_wp2_with fail
    refine (hK.out _).mono ?_
    rintro e w' ⟨rfl, rfl⟩
    go_wp2_with fail
    refine (hR.out _).mono ?_
    rintro e w' ⟨rfl, rfl⟩
    go_wp2_with fail
    go_ret
    exact ⟨rfl, Kept.refl w⟩
  · have hl1 : ¬ l < 0 := by omega
    go_enter Try.func7, Try.ntmps7
    go_wp2_with fail
    refine (hK.out _).mono ?_
    rintro e w' ⟨rfl, rfl⟩
    go_wp2_with fail
    refine (hR.out _).mono ?_
    rintro e w' ⟨rfl, rfl⟩
    go_wp2_with fail
    go_ret
    exact ⟨rfl, Kept.refl w⟩

set_option maxRecDepth 100000 in
set_option maxHeartbeats 4000000 in
theorem gold_roots_nought (hK : Hid (Gives 26 #[] (.bool true))) (hR : Hid (Gives 46 #[.int .i64 0] (.tuple #[.int .u64 1, .int .i64 0]))) (w : World) :
    Calls Try.prog 7 #[.int .i64 0] w fun e w' => e = .returned (.bool true) ∧ Kept w w' := by
  go_enter Try.func7, Try.ntmps7
  go_wp2_with fail
  refine (hK.out _).mono ?_
  rintro e w' ⟨rfl, rfl⟩
  go_wp2_with fail
  refine (hR.out _).mono ?_
  rintro e w' ⟨rfl, rfl⟩
  go_wp2_with fail
  refine wp_loop_rounds 1 ?_
  rw [rounds_succ]
  go_wp2_with fail
  go_ret
  exact ⟨rfl, Kept.refl w⟩

set_option maxRecDepth 100000 in
set_option maxHeartbeats 4000000 in
theorem gold_roots_yes (l n : Int) (N : Nat) (r : Nat → Int) (h0 : 1 ≤ l) (h1 : l ≤ 32) (hN : Hid (N = (32 - l).toNat)) (hn : (18446744069414584320 : Int) / 2 ^ l.toNat = n)
    (hK : Hid (Gives 26 #[] (.bool true))) (hR : Hid (Gives 46 #[.int .i64 l] (.tuple #[.int .u64 (r N), .int .i64 0])))
    (hM : Hid (∀ k, Gives 28 #[.int .u64 (r k), .int .u64 (r k)] (.int .u64 (r (k + 1))))) (h31 : Hid (r 31 = 18446744069414584320))
    (hE : ∀ t, Pure Try.prog 33 #[.int .u64 t] (.agg #[.int .u64 t, .int .u64 0]))
    (hRp : Pure Try.prog 40 #[.int .i64 1, .agg #[.int .u64 7, .int .u64 0], .agg #[.int .u64 n, .int .u64 0]] (.agg #[.int .u64 (r N), .int .u64 0]))
    (hs : ∀ t w, (binOp .eql 28 (.agg #[.int .u64 t, .int .u64 0]) (.agg #[.int .u64 t, .int .u64 0])).run Try.prog w = .ok (.bool true) w) (w : World) :
    Calls Try.prog 7 #[.int .i64 l] w fun e w' => e = .returned (.bool true) ∧ Kept w w' := by
  have HEr := Lib.hid (hE (r N))
  have HE7 := Lib.hid (hE 7)
  have HEn := Lib.hid (hE n)
  have HRp := Lib.hid hRp
  clear hE hRp
  have hl1 : ¬ l < 0 := by omega
  have hl2 : ¬ 32 < l := by omega
  have hl3 : (l == 0) = false := by simp; omega
  have hl4 : 0 ≤ l - 1 := by omega
  go_enter Try.func7, Try.ntmps7
  go_wp2_with fail
  refine (hK.out _).mono ?_
  rintro e w' ⟨rfl, rfl⟩
  go_wp2_with fail
  refine (hR.out _).mono ?_
  rintro e w' ⟨rfl, rfl⟩
  go_wp2_with fail
  go_loop [5, 29] (fun v i => ∃ k : Nat, (k : Int) ≤ l - 1 ∧ i = .int .i64 k ∧ v = .int .u64 (r (N + k))) (fun _ i => (l - 1 - intOf i).toNat)
  case atStart => exact ⟨0, by omega, rfl, rfl⟩
  case round =>
    obtain ⟨k, hk, rfl, rfl⟩ := hrel
    by_cases hlt : (k : Int) < l - 1
    · go_wp2_with fail
      refine (hM.out _ _).mono ?_
      rintro e w' ⟨rfl, rfl⟩
      go_wp2_with fail
      go_round
      case rel => exact ⟨k + 1, by omega, by go_num, rfl⟩
      case measure => (simp [intOf]) <;> omega
    · have hk31 : N + k = 31 := by have := hN.out; omega
      have h2 := h31.out
      rw [hk31, h2]
      clear hk31 h2
      go_wp2_with fail
      have kw := Kept.refl w
      refine wp_region_calm 16 (by kernel_rfl) (by kernel_rfl) ?_
      simp only [List.take_succ_cons, List.take_zero, List.drop_succ_cons, List.drop_zero]
      repeat (first
        | (refine calm_skip rfl ?_; simp only [Act.put, List.setIfInBounds_toArray, List.set_cons_zero, List.set_cons_succ])
        | (refine calm_ex rfl ?_; apply Exists.intro; refine And.intro (fun w' hk => ?_) ?_; (focus (clear hk; go_simp; exact rfl)); simp only [Act.put, List.setIfInBounds_toArray, List.set_cons_zero, List.set_cons_succ])
        | (refine calm_step _ rfl (HEr.out.call ?_) ?_; (focus (intro w'; go_simp; done)); simp only [Act.put, List.setIfInBounds_toArray, List.set_cons_zero, List.set_cons_succ])
        | (refine calm_step _ rfl (HE7.out.call ?_) ?_; (focus (intro w'; go_simp; done)); simp only [Act.put, List.setIfInBounds_toArray, List.set_cons_zero, List.set_cons_succ])
        | (refine calm_step _ rfl (HEn.out.call ?_) ?_; (focus (intro w'; go_simp; done)); simp only [Act.put, List.setIfInBounds_toArray, List.set_cons_zero, List.set_cons_succ])
        | (refine calm_step _ rfl (HRp.out.call ?_) ?_; (focus (intro w'; go_simp; done)); simp only [Act.put, List.setIfInBounds_toArray, List.set_cons_zero, List.set_cons_succ]))
      refine calm_nil ?_
      intro W1 hkW1
      have kW1 := kw.trans hkW1
      clear kw hkW1
      go_wp2_with fail
      go_ret
      exact ⟨rfl, kW1⟩
theorem gold_roots_law (l : Int) (wl : (Lit.int .i64 l).wf = true) (w : World) : Calls Try.prog 7 #[.int .i64 l] w fun e w' => e = .returned (.bool true) ∧ Kept w w' := by
  by_cases h : l < 0 ∨ 32 < l
  · exact gold_roots_no l h gold_Awake (g_Root_no h) w
  · have h0 : 0 ≤ l := by omega
    have h1 : l ≤ 32 := by omega
    have hr := g_Root h0 h1
    by_cases hz : l = 0
    · subst hz
      rw [show ((32 : Int) - 0).toNat = 32 from rfl, gRoot32] at hr
      exact gold_roots_nought gold_Awake hr w
    · have hm : ∀ k, Gives 28 #[.int .u64 (gRoot k), .int .u64 (gRoot k)] (.int .u64 (gRoot (k + 1))) := fun k => by
        have := g_Mul (isG_gRoot k).is64 (isG_gRoot k).is64
        rw [gRoot_succ] at this
        exact this
      have hN : (32 - l).toNat ≤ 31 := by omega
      have hn64 : is64 ((4294967295 * 2 ^ (32 - l).toNat : Nat) : Int) := by
        have : 2 ^ (32 - l).toNat ≤ 2 ^ 31 := Nat.pow_le_pow_right (by omega) hN
        unfold is64; omega
      have rp := ref_Pow (f := 1) (a := 7) (n := 4294967295 * 2 ^ (32 - l).toNat) isF1 (is128_of64 (by unfold is64; omega)) (is128_of64 hn64)
      rw [rOf1 (by unfold is64; omega), rP1, emod_pow, E_small hn64, E_small (a := 7) (by unfold is64; omega), E_small (is64_emod _)] at rp
      exact gold_roots_yes l _ _ gRoot (by omega) h1 rfl (shr_val l h0 h1) gold_Awake hr hm gRoot31 law_e rp (fun t w => by rw [run_eql28]; simp) w

end Go.Proofs.Ytnajihlhcdedgaa
