/-
  The sponge: end.
-/
import Derived.Test.YtnajihlhcdedgaaK11
namespace Go.Proofs.Ytnajihlhcdedgaa
open Go.RowKit
set_option linter.unusedVariables false
set_option linter.unusedSimpArgs false

/-- The lanes behind the end. -/
def kend (s : Nat → Int) (a : Nat) (d : Int) : Nat → Int := kperm 12 (kflip (kflip (norm s a) (normA a) d) 167 128)

set_option maxRecDepth 100000 in
set_option maxHeartbeats 4000000 in
theorem k_end (w : World) (b : Nat) (u : Nat → Int) (m : Nat) (hm : m ≤ 168) (d : Int) (d0 : 0 ≤ d) (d1 : d ≤ 255) (B : Sp w b u m d false) :
    Calls Try.prog 128 #[.pointer (some ⟨b, 0, none⟩)] w fun e w' => e = .returned (.tuple #[]) ∧ Touch b w w' ∧ Sp w' b (kend u m d) 0 d true := by
  have HV : Hid (kend u m d = kperm 12 (kflip (kflip (norm u m) (normA m) d) 167 128)) := Lib.hid rfl
  have ca := B.sat
  have fa := B.free
  by_cases h168 : m = 168
  · subst h168
    go_enter Try.func128, Try.ntmps128
    go_wp2_with fail
    refine (k_permute _ b 28 139 u _ (by omega) B).mono ?_
    rintro e W1 ⟨rfl, k1, B1⟩
    clear ca fa B
    have ca := B1.sat
    have fa := B1.free
    go_upto_region 3 with (fail)
    refine abs_world (fun W => Touch b w W ∧ Sp W b (kperm 12 u) 0 d false) ⟨k1.trans (Touch.set _ _ _ _), B1.setAt 0⟩ ?_
    clear ca fa B1 k1
    rintro W2 ⟨k2, B2⟩
    have ca := B2.sat
    have cd := B2.sdom
    refine wp_region_calm 9 (by kernel_rfl) (by kernel_rfl) ?_
    simp only [List.take_succ_cons, List.take_zero, List.drop_succ_cons, List.drop_zero]
    repeat (first
      | (refine calm_skip rfl ?_; simp only [Act.put, List.setIfInBounds_toArray, List.set_cons_zero, List.set_cons_succ])
      | (refine calm_ex rfl ?_; apply Exists.intro; refine And.intro (fun w' hk => ?_) ?_; (focus (have q0 := hk.cell ca; have q1 := hk.cell cd; clear hk; go_simp; exact rfl)); simp only [Act.put, List.setIfInBounds_toArray, List.set_cons_zero, List.set_cons_succ]))
    refine calm_nil ?_
    intro W3 hkW3
    have k3 := k2.later hkW3
    have B3 := B2.kept hkW3
    clear ca cd k2 B2 hkW3
    go_wp2_with fail
    refine (k_flip _ b _ 0 d false 0 (by omega) d d0 d1 B3).mono ?_
    rintro e W4 ⟨rfl, k4, B4⟩
    have k5 := k3.trans k4
    clear k3 k4 B3
    go_wp2_with fail
    refine (k_flip _ b _ 0 d false 167 (by omega) 128 (by omega) (by omega) B4).mono ?_
    rintro e W5 ⟨rfl, k6, B5⟩
    have k7 := k5.trans k6
    clear k5 k6 B4
    go_wp2_with fail
    refine (k_permute _ b 28 139 _ _ (by omega) B5).mono ?_
    rintro e W6 ⟨rfl, k8, B6⟩
    have k9 := k7.trans k8
    clear k7 k8 B5
    have ca := B6.sat
    have cg := B6.sgive
    have fa := B6.free
    go_wp2_with fail
    refine bodyPost_end (v := .tuple #[]) (by simp [results, Try.results128, go_sem]) rfl ⟨rfl, (k9.trans (Touch.set _ _ _ _)).trans (Touch.set _ _ _ _), ?_⟩
    rw [HV.out]
    exact (B6.setAt 0).setGive true
  · have hm2 : (m : Int) ≠ 168 := by omega
    have hm3 : ((m : Int) == 168) = false := by simp [hm2]
    have HN : Hid (norm u m = u ∧ normA m = m) := Lib.hid ⟨if_neg h168, if_neg h168⟩
    go_enter Try.func128, Try.ntmps128
    go_upto_region 3 with (fail)
    clear fa
    have cd := B.sdom
    refine wp_region_calm 9 (by kernel_rfl) (by kernel_rfl) ?_
    simp only [List.take_succ_cons, List.take_zero, List.drop_succ_cons, List.drop_zero]
    repeat (first
      | (refine calm_skip rfl ?_; simp only [Act.put, List.setIfInBounds_toArray, List.set_cons_zero, List.set_cons_succ])
      | (refine calm_ex rfl ?_; apply Exists.intro; refine And.intro (fun w' hk => ?_) ?_; (focus (have q0 := hk.cell ca; have q1 := hk.cell cd; clear hk; go_simp; exact rfl)); simp only [Act.put, List.setIfInBounds_toArray, List.set_cons_zero, List.set_cons_succ]))
    refine calm_nil ?_
    intro W3 hkW3
    have k3 : Touch b w W3 := .of_kept hkW3
    have B3 := B.kept hkW3
    clear ca cd B hkW3
    go_wp2_with fail
    refine (k_flip _ b _ m d false m (by omega) d d0 d1 B3).mono ?_
    rintro e W4 ⟨rfl, k4, B4⟩
    have k5 := k3.trans k4
    clear k3 k4 B3
    go_wp2_with fail
    refine (k_flip _ b _ m d false 167 (by omega) 128 (by omega) (by omega) B4).mono ?_
    rintro e W5 ⟨rfl, k6, B5⟩
    have k7 := k5.trans k6
    clear k5 k6 B4
    go_wp2_with fail
    refine (k_permute _ b 28 139 _ _ (by omega) B5).mono ?_
    rintro e W6 ⟨rfl, k8, B6⟩
    have k9 := k7.trans k8
    clear k7 k8 B5
    have ca := B6.sat
    have cg := B6.sgive
    have fa := B6.free
    go_wp2_with fail
    refine bodyPost_end (v := .tuple #[]) (by simp [results, Try.results128, go_sem]) rfl ⟨rfl, (k9.trans (Touch.set _ _ _ _)).trans (Touch.set _ _ _ _), ?_⟩
    rw [HV.out, HN.out.1, HN.out.2]
    exact (B6.setAt 0).setGive true
end Go.Proofs.Ytnajihlhcdedgaa
