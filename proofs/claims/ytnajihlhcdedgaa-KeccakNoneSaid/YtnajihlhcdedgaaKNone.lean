/-
  KeccakNone: the walk.
-/
import Derived.Test.YtnajihlhcdedgaaKEdge
import Derived.Test.YtnajihlhcdedgaaMark4
namespace Go.Proofs.Ytnajihlhcdedgaa
open Go.RowKit
set_option linter.unusedVariables false
set_option linter.unusedSimpArgs false

set_option maxRecDepth 100000 in
set_option maxHeartbeats 4000000 in
theorem keccak_none_neg (many : Int) (hm : many < 0) (a : Option Addr) (n cap : Nat) (hn : n ≤ 300) (w : World) : Calls Try.prog 14 #[.slice a n cap, .int .i64 many] w fun e w' => e = .returned (.bool true) ∧ Kept w w' := by
  have HK := Lib.hid k_Awake
  have HPn := Lib.hid k_permute_nil
  have HWn := Lib.hid (k_Write_nil a n cap)
  have HRn := Lib.hid (k_Read_nil many)
  have yn : (n : Int) ≤ 300 := by omega

  go_enter Try.func14, Try.ntmps14
  go_wp2_with fail
  refine (HK.out _).mono ?_
  rintro e W1 ⟨rfl, k1⟩
  go_wp2_with fail
  refine (HPn.out _).mono ?_
  rintro e W2 ⟨rfl, hk2⟩
  have k2 := k1.trans hk2
  clear k1 hk2
  go_wp2_with fail
  refine (HWn.out _).mono ?_
  rintro e W4 ⟨rfl, hk4⟩
  have k4 := k2.trans hk4
  clear k2 hk4
  go_wp2_with fail
  refine (k_New _ 5 (by omega) (by omega)).mono ?_
  rintro e W5 ⟨b, rfl, hb, B5, hk5⟩
  have k5 := k4.trans hk5
  have hwb : w.heap.size ≤ b := Nat.le_trans k4.size hb
  clear k4 hk5 hb
  go_wp2_with fail
  refine (k_Read_neg b many hm _).mono ?_
  rintro e W3 ⟨rfl, hk3⟩
  have k3 := k5.trans hk3
  clear k5 hk3 B5
  go_upto_region 14 with (fail)
  refine wp_region_wm (fun _ => readMean []) 28 (by kernel_rfl) (by kernel_rfl) (fun k0 => ?_)
  simp only [List.take_succ_cons, List.take_zero, List.drop_succ_cons, List.drop_zero]
  repeat (first
    | (refine WM.skip rfl ?_; simp only [Act.put, List.setIfInBounds_toArray, List.set_cons_zero, List.set_cons_succ])
    | (refine WM.call rfl rfl (by kernel_rfl) rfl HRn.out ?_ ?_; (focus (intro w'; go_simp; done)); simp only [Act.put, List.setIfInBounds_toArray, List.set_cons_zero, List.set_cons_succ])
    | (refine WM.ex rfl rfl (by kernel_rfl) ?_; apply Exists.intro; refine And.intro (fun w' hk => ?_) (And.intro ?_ ?_); (focus (clear hk; go_simp; exact rfl)); (focus (exact rfl)); simp only [Act.put, List.setIfInBounds_toArray, List.set_cons_zero, List.set_cons_succ]))
  refine WM.nil ?_
  intro a'' W9 hkW9 hra
  obtain rfl := hra.mark0 (by kernel_rfl)
  try simp only [Act.put, List.setIfInBounds_toArray, List.set_cons_zero, List.set_cons_succ]
  have k9 := k3.trans hkW9
  clear hra hkW9 k3
  go_wp2_with fail
  go_ret
  exact ⟨rfl, k9⟩

set_option maxRecDepth 100000 in
set_option maxHeartbeats 4000000 in
theorem keccak_none_big (many : Nat) (hm : 65536 < many) (hm63 : (many : Int) ≤ 9223372036854775807) (a : Option Addr) (n cap : Nat) (hn : n ≤ 300) (w : World) : Calls Try.prog 14 #[.slice a n cap, .int .i64 (many : Int)] w fun e w' => e = .returned (.bool true) ∧ Kept w w' := by
  have HK := Lib.hid k_Awake
  have HPn := Lib.hid k_permute_nil
  have HWn := Lib.hid (k_Write_nil a n cap)
  have HRn := Lib.hid (k_Read_nil (many : Int))
  have yn : (n : Int) ≤ 300 := by omega
  have n1 : ¬ (many : Int) < 0 := by omega
  have n3 : (3000 : Int) < (many : Int) := by omega
  have y1 : (65536 : Int) < (many : Int) := by omega
  have y0 : (0 : Int) ≤ (many : Int) := by omega
  go_enter Try.func14, Try.ntmps14
  go_wp2_with fail
  refine (HK.out _).mono ?_
  rintro e W1 ⟨rfl, k1⟩
  go_wp2_with fail
  refine (HPn.out _).mono ?_
  rintro e W2 ⟨rfl, hk2⟩
  have k2 := k1.trans hk2
  clear k1 hk2
  go_wp2_with fail
  refine (HWn.out _).mono ?_
  rintro e W4 ⟨rfl, hk4⟩
  have k4 := k2.trans hk4
  clear k2 hk4
  go_wp2_with fail
  refine (k_New _ 5 (by omega) (by omega)).mono ?_
  rintro e W5 ⟨b, rfl, hb, B5, hk5⟩
  have k5 := k4.trans hk5
  have hwb : w.heap.size ≤ b := Nat.le_trans k4.size hb
  clear k4 hk5 hb
  go_wp2_with fail
  refine (k_End_gt _ b _ 5 0 (by omega) many hm hm63 (by omega) (by omega) B5).mono ?_
  rintro e W3 ⟨v, rfl, t3, B3, hown⟩
  obtain ⟨va, vc, rfl⟩ := ownsRow_slice1 hown
  have k3 := t3.kept k5 hwb
  clear k5 t3 B5 B3 hown
  go_upto_region 14 with (fail)
  refine wp_region_wm (fun _ => readMean []) 28 (by kernel_rfl) (by kernel_rfl) (fun k0 => ?_)
  simp only [List.take_succ_cons, List.take_zero, List.drop_succ_cons, List.drop_zero]
  repeat (first
    | (refine WM.skip rfl ?_; simp only [Act.put, List.setIfInBounds_toArray, List.set_cons_zero, List.set_cons_succ])
    | (refine WM.call rfl rfl (by kernel_rfl) rfl HRn.out ?_ ?_; (focus (intro w'; go_simp; done)); simp only [Act.put, List.setIfInBounds_toArray, List.set_cons_zero, List.set_cons_succ])
    | (refine WM.ex rfl rfl (by kernel_rfl) ?_; apply Exists.intro; refine And.intro (fun w' hk => ?_) (And.intro ?_ ?_); (focus (clear hk; go_simp; exact rfl)); (focus (exact rfl)); simp only [Act.put, List.setIfInBounds_toArray, List.set_cons_zero, List.set_cons_succ]))
  refine WM.nil ?_
  intro a'' W9 hkW9 hra
  obtain rfl := hra.mark0 (by kernel_rfl)
  try simp only [Act.put, List.setIfInBounds_toArray, List.set_cons_zero, List.set_cons_succ]
  have k9 := k3.trans hkW9
  clear hra hkW9 k3
  go_wp2_with fail
  go_ret
  exact ⟨rfl, k9⟩

set_option maxRecDepth 100000 in
set_option maxHeartbeats 4000000 in
theorem keccak_none_mid (many : Nat) (hm : many ≤ 65536) (hm2 : 3000 < many) (a : Option Addr) (n cap : Nat) (hn : n ≤ 300) (w : World) : Calls Try.prog 14 #[.slice a n cap, .int .i64 (many : Int)] w fun e w' => e = .returned (.bool true) ∧ Kept w w' := by
  have HK := Lib.hid k_Awake
  have HPn := Lib.hid k_permute_nil
  have HWn := Lib.hid (k_Write_nil a n cap)
  have HRn := Lib.hid (k_Read_nil (many : Int))
  have yn : (n : Int) ≤ 300 := by omega
  have n1 : ¬ (many : Int) < 0 := by omega
  have n2 : ¬ (65536 : Int) < (many : Int) := by omega
  have y1 : (many : Int) ≤ 65536 := by omega
  have y2 : (3000 : Int) < (many : Int) := by omega
  have y0 : (0 : Int) ≤ (many : Int) := by omega
  go_enter Try.func14, Try.ntmps14
  go_wp2_with fail
  refine (HK.out _).mono ?_
  rintro e W1 ⟨rfl, k1⟩
  go_wp2_with fail
  refine (HPn.out _).mono ?_
  rintro e W2 ⟨rfl, hk2⟩
  have k2 := k1.trans hk2
  clear k1 hk2
  go_wp2_with fail
  refine (HWn.out _).mono ?_
  rintro e W4 ⟨rfl, hk4⟩
  have k4 := k2.trans hk4
  clear k2 hk4
  go_wp2_with fail
  refine (k_New _ 5 (by omega) (by omega)).mono ?_
  rintro e W5 ⟨b, rfl, hb, B5, hk5⟩
  have k5 := k4.trans hk5
  have hwb : w.heap.size ≤ b := Nat.le_trans k4.size hb
  clear k4 hk5 hb
  go_wp2_with fail
  refine (k_End_le _ b _ 5 0 (by omega) many hm (by omega) (by omega) B5).mono ?_
  rintro e W3 ⟨v, rfl, t3, B3, hown⟩
  obtain ⟨va, vc, rfl⟩ := ownsRow_slice1 hown
  have k3 := t3.kept k5 hwb
  clear k5 t3 B5 B3 hown
  go_upto_region 14 with (fail)
  have hmin : ∀ w, (Builtin.min_ #[3, 3] 3 #[.int .i64 (many : Int), .int .i64 65536]).run Try.prog w = .ok (.int .i64 (many : Int)) w := fun w => by rw [run_min_int2, if_neg (by omega)]
  refine wp_region_wm (fun _ => readMean []) 28 (by kernel_rfl) (by kernel_rfl) (fun k0 => ?_)
  simp only [List.take_succ_cons, List.take_zero, List.drop_succ_cons, List.drop_zero]
  repeat (first
    | (refine WM.skip rfl ?_; simp only [Act.put, List.setIfInBounds_toArray, List.set_cons_zero, List.set_cons_succ])
    | (refine WM.call rfl rfl (by kernel_rfl) rfl HRn.out ?_ ?_; (focus (intro w'; go_simp; done)); simp only [Act.put, List.setIfInBounds_toArray, List.set_cons_zero, List.set_cons_succ])
    | (refine WM.ex rfl rfl (by kernel_rfl) ?_; apply Exists.intro; refine And.intro (fun w' hk => ?_) (And.intro ?_ ?_); (focus (clear hk; go_simp; exact rfl)); (focus (exact rfl)); simp only [Act.put, List.setIfInBounds_toArray, List.set_cons_zero, List.set_cons_succ]))
  refine WM.nil ?_
  intro a'' W9 hkW9 hra
  obtain rfl := hra.mark0 (by kernel_rfl)
  try simp only [Act.put, List.setIfInBounds_toArray, List.set_cons_zero, List.set_cons_succ]
  have k9 := k3.trans hkW9
  clear hra hkW9 k3
  go_wp2_with fail
  go_ret
  exact ⟨rfl, k9⟩

set_option maxRecDepth 100000 in
set_option maxHeartbeats 4000000 in
theorem keccak_none_small (many : Nat) (hm : many ≤ 3000) (a : Option Addr) (n cap : Nat) (hn : n ≤ 300) (w : World) : Calls Try.prog 14 #[.slice a n cap, .int .i64 (many : Int)] w fun e w' => e = .returned (.bool true) ∧ Kept w w' := by
  have HK := Lib.hid k_Awake
  have HPn := Lib.hid k_permute_nil
  have HWn := Lib.hid (k_Write_nil a n cap)
  have HRn := Lib.hid (k_Read_nil (many : Int))
  have yn : (n : Int) ≤ 300 := by omega
  have n1 : ¬ (many : Int) < 0 := by omega
  have n2 : ¬ (65536 : Int) < (many : Int) := by omega
  have n4 : ¬ (3000 : Int) < (many : Int) := by omega
  have y1 : (many : Int) ≤ 65536 := by omega
  have y2 : (many : Int) ≤ 3000 := by omega
  have y0 : (0 : Int) ≤ (many : Int) := by omega
  go_enter Try.func14, Try.ntmps14
  go_wp2_with fail
  refine (HK.out _).mono ?_
  rintro e W1 ⟨rfl, k1⟩
  go_wp2_with fail
  refine (HPn.out _).mono ?_
  rintro e W2 ⟨rfl, hk2⟩
  have k2 := k1.trans hk2
  clear k1 hk2
  go_wp2_with fail
  refine (HWn.out _).mono ?_
  rintro e W4 ⟨rfl, hk4⟩
  have k4 := k2.trans hk4
  clear k2 hk4
  go_wp2_with fail
  refine (k_New _ 5 (by omega) (by omega)).mono ?_
  rintro e W5 ⟨b, rfl, hb, B5, hk5⟩
  have k5 := k4.trans hk5
  have hwb : w.heap.size ≤ b := Nat.le_trans k4.size hb
  clear k4 hk5 hb
  go_wp2_with fail
  refine (k_End_le _ b _ 5 0 (by omega) many (by omega) (by omega) (by omega) B5).mono ?_
  rintro e W3 ⟨v, rfl, t3, B3, hown⟩
  obtain ⟨va, vc, rfl⟩ := ownsRow_slice1 hown
  have k3 := t3.kept k5 hwb
  clear k5 t3 B5 B3 hown
  go_upto_region 14 with (fail)
  have HP1 : Hid (∀ w', Kept W3 w' → Calls Try.prog 63 #[.int .u8 5, .slice none 0 0, .int .i64 (many : Int)] w' fun e w'' => ∃ v, e = .returned v ∧ Reads w'' v (hashV (fun _ => 0) 0 5 many) ∧ Kept w' w'') := Lib.hid fun w' hk =>
    (k_Hash w' 5 (by omega) (by omega) none 0 0 0 (fun _ => 0) (by omega) (SlB.nil _ _ _) (Nat.zero_le _) many (by omega)).mono fun e w'' ⟨v, h1, h2, h3⟩ => ⟨v, h1, reads_of_own h3, h2⟩
  have HP2 : Hid (∀ w', Kept W3 w' → Calls Try.prog 64 #[.int .u8 5, .slice none 0 0, .int .i64 (many : Int)] w' fun e w'' => ∃ v, e = .returned v ∧ Reads w'' v (hashV (fun _ => 0) 0 5 many) ∧ Kept w' w'') := Lib.hid fun w' hk => by
    have h := r_Hash w' 5 (by omega) (by omega) none 0 0 0 0 (fun _ => 0) (.inl rfl) (Nat.le_refl _) (by omega) (Lib.hid fun j hj => absurd hj (by omega)) (Lib.hid fun j hj => absurd hj (by omega)) many (by omega) 0 0 (Lib.hid rfl) (by omega) (.inl rfl)
    have e9 := hashV_rbytes (fun _ => 0) 0 0 5 (by omega) (.inl rfl) many
    rw [← e9] at h
    exact h.mono fun e w'' ⟨v, h1, h2, h3⟩ => ⟨v, h1, reads_of_own h3, h2⟩
  have HCV : Hid (∀ v w', Reads w' v (hashV (fun _ => 0) 0 5 many) → (convert 42 9 v).run Try.prog w' = .ok (.string (strR many (outs (hashS (fun _ => 0) 0 5) 0))) w') := Lib.hid fun v w' h => conv_R h (fun j _ => outs_byte _ _ j)
  generalize strR many _ = S at HCV
  generalize hashV (fun _ => 0) 0 5 many = L at *
  have hmin : ∀ w, (Builtin.min_ #[3, 3] 3 #[.int .i64 (many : Int), .int .i64 65536]).run Try.prog w = .ok (.int .i64 (many : Int)) w := fun w => by rw [run_min_int2, if_neg (by omega)]
  have n6 : decide ((many : Int) < 0) = false := decide_eq_false (by omega)
  have n7 : decide ((3000 : Int) < (many : Int)) = false := decide_eq_false (by omega)
  refine wp_region_wm (fun _ => readMean L) 28 (by kernel_rfl) (by kernel_rfl) (fun k0 => ?_)
  simp only [List.take_succ_cons, List.take_zero, List.drop_succ_cons, List.drop_zero]
  repeat (first
    | (refine WM.skip rfl ?_; simp only [Act.put, List.setIfInBounds_toArray, List.set_cons_zero, List.set_cons_succ])
        | (refine WM.makeAt 0 rfl rfl (by kernel_rfl) HP1.out ?_ ?_; (focus (intro w'; go_simp; done)); simp only [Act.put, List.setIfInBounds_toArray, List.set_cons_zero, List.set_cons_succ])
    | (refine WM.makeAt 0 rfl rfl (by kernel_rfl) HP2.out ?_ ?_; (focus (intro w'; go_simp; done)); simp only [Act.put, List.setIfInBounds_toArray, List.set_cons_zero, List.set_cons_succ])
    | (refine WM.conv 0 48 (.string S) rfl rfl rfl rfl HCV.out ?_; simp only [Act.put, List.setIfInBounds_toArray, List.set_cons_zero, List.set_cons_succ])
    | (refine WM.conv 0 51 (.string S) rfl rfl rfl rfl HCV.out ?_; simp only [Act.put, List.setIfInBounds_toArray, List.set_cons_zero, List.set_cons_succ])
    | (refine WM.call rfl rfl (by kernel_rfl) rfl HRn.out ?_ ?_; (focus (intro w'; go_simp; done)); simp only [Act.put, List.setIfInBounds_toArray, List.set_cons_zero, List.set_cons_succ])
    | (refine WM.ex rfl rfl (by kernel_rfl) ?_; apply Exists.intro; refine And.intro (fun w' hk => ?_) (And.intro ?_ ?_); (focus (clear hk; go_simp; exact rfl)); (focus (exact rfl)); simp only [Act.put, List.setIfInBounds_toArray, List.set_cons_zero, List.set_cons_succ]))
  refine WM.nil ?_
  intro a'' W9 hkW9 hra
  obtain ⟨v1, v2, hv1, hv2, rfl⟩ := hra.mark2 48 0 51 0 (by decide) (by kernel_rfl) rfl rfl
  try simp only [Act.put, List.setIfInBounds_toArray, List.set_cons_zero, List.set_cons_succ]
  have k9 := k3.trans hkW9
  clear hra hkW9 k3
  go_wp2_with fail
  go_ret
  exact ⟨rfl, k9⟩

set_option maxRecDepth 100000 in
set_option maxHeartbeats 4000000 in
theorem keccak_none_long (many : Int) (a : Option Addr) (n cap : Nat) (hn : 300 < n) (w : World) : Calls Try.prog 14 #[.slice a n cap, .int .i64 many] w fun e w' => e = .returned (.bool true) ∧ Kept w w' := by
  have HK := Lib.hid k_Awake
  have yn : (300 : Int) < (n : Int) := by omega
  go_enter Try.func14, Try.ntmps14
  go_wp2_with fail
  refine (HK.out _).mono ?_
  rintro e W1 ⟨rfl, k1⟩
  go_wp2_with fail
  go_ret
  exact ⟨rfl, k1⟩

theorem keccakNone_walk {W : World} (a : Option Addr) (n cap : Nat) (C : Nat → Int) (m0 : (n : Int) ≤ 9223372036854775807 ∧ SlB W a n cap W.heap.size C) (many : Int) (wm : (Lit.int .i64 many).wf = true) (w : World) :
    Calls Try.prog 14 #[.slice a n cap, .int .i64 many] w fun e w' => e = .returned (.bool true) ∧ Kept w w' := by
  have h1 : -9223372036854775808 ≤ many ∧ many ≤ 9223372036854775807 := by
    simp [Lit.wf, IntKind.min, IntKind.max, IntKind.signed, IntKind.bits] at wm
    omega
  rcases Nat.lt_or_ge 300 n with h | h
  · exact keccak_none_long many a n cap h w
  · by_cases h0 : many < 0
    · exact keccak_none_neg many h0 a n cap h w
    · obtain ⟨m, rfl⟩ : ∃ m : Nat, many = (m : Int) := ⟨many.toNat, by omega⟩
      by_cases hb : 65536 < m
      · exact keccak_none_big m hb (by omega) a n cap h w
      · by_cases hs : 3000 < m
        · exact keccak_none_mid m (by omega) hs a n cap h w
        · exact keccak_none_small m (by omega) a n cap h w
end Go.Proofs.Ytnajihlhcdedgaa
