/-
  KeccakEdges: the walk.
-/
import Derived.Test.YtnajihlhcdedgaaK18
import Derived.Test.YtnajihlhcdedgaaM2
namespace Go.Proofs.Ytnajihlhcdedgaa
open Go.RowKit
set_option linter.unusedVariables false
set_option linter.unusedSimpArgs false

theorem parts (n : Nat) : ∃ K r, n = 168 * K + r ∧ r ≤ 168 ∧ (K = 0 ∨ 0 < r) := by
  by_cases h : n = 0
  · exact ⟨0, 0, by omega, by omega, .inl rfl⟩
  · by_cases h2 : n % 168 = 0
    · exact ⟨n / 168 - 1, 168, by omega, by omega, .inr (by omega)⟩
    · exact ⟨n / 168, n % 168, by omega, by omega, .inr (by omega)⟩
theorem outs_byte (s : Nat → Int) (a j : Nat) : 0 ≤ outs s a j ∧ outs s a j ≤ 255 := by
  unfold outs byteAt
  omega

set_option maxRecDepth 100000 in
set_option maxHeartbeats 4000000 in
theorem keccak_edges_false (n c dm : Int) (n0 : 0 ≤ n) (n1 : n ≤ 255) (c0 : 0 ≤ c) (c1 : c ≤ 255) (d0 : 0 ≤ dm) (d1 : dm ≤ 255) (w : World) : Calls Try.prog 13 #[.int .u8 n, .bool false, .int .u8 c, .int .u8 dm] w fun e w' => e = .returned (.bool true) ∧ Kept w w' := by
  have HK := Lib.hid k_Awake
  obtain ⟨m, hm, hm16⟩ : ∃ m : Nat, n % 16 = (m : Int) ∧ m < 16 := ⟨(n % 16).toNat, by omega, by omega⟩
  have e1 : n.tmod 16 = (m : Int) := by rw [Int.tmod_eq_emod_of_nonneg n0]; exact hm
  obtain ⟨d, hd, hd127⟩ : ∃ d : Nat, dm % 127 = (d : Int) ∧ d < 127 := ⟨(dm % 127).toNat, by omega, by omega⟩
  have e2 : dm.tmod 127 = (d : Int) := by rw [Int.tmod_eq_emod_of_nonneg d0]; exact hd
  obtain ⟨z, hz, hzl⟩ : ∃ z : Nat, Hid (z = 160 + m) ∧ z ≤ 175 := ⟨160 + m, Lib.hid rfl, by omega⟩
  have w1 : IntKind.i64.wrap (160 + (m : Int)) = (z : Int) := by have := hz.out; rw [show 160 + (m : Int) = (z : Int) by omega]; exact IntWalk.i64_in _ (by omega)
  have w2 : IntKind.u8.wrap (1 + (d : Int)) = 1 + (d : Int) := by rw [wrap_u8]; omega
  have w3 : IntKind.i64.wrap (m : Int) = (m : Int) := IntWalk.i64_in _ (by omega)
  have w4 : IntKind.u8.wrap (d : Int) = (d : Int) := by rw [wrap_u8]; omega
  have w5 : IntKind.u8.wrap (m : Int) = (m : Int) := by rw [wrap_u8]; omega
  have zm : (0 : Int) ≤ (m : Int) := by omega
  have zd : (0 : Int) ≤ (d : Int) := by omega
  obtain ⟨N, hN, hN2⟩ : ∃ N : Nat, Hid (N = z) ∧ N ≤ 343 := ⟨_, Lib.hid rfl, by omega⟩
  obtain rfl := hN.out
  have hmk := makefull42 N (by omega)
  go_enter Try.func13, Try.ntmps13
  go_wp2_with fail
  refine (HK.out _).mono ?_
  rintro e W1 ⟨rfl, k1⟩
  obtain ⟨g, hg⟩ : ∃ g, W1.heap.size = g := ⟨_, rfl⟩
  have hmk1 := hmk W1
  rw [hg] at hmk1
  clear hmk
  go_upto_region 7 with (fail)
  have nw : w.heap.size ≤ g := by have := k1.size; omega
  refine abs_world (fun W => Kept w W ∧ Blk W g 5 (rowF N (fun j => .int .u8 (if j < 0 then IntKind.u8.wrap (c + IntKind.u8.wrap (j : Int)) else 0)))) ⟨k1.alloc _, by rw [← hg]; exact Blk.new _ _ _⟩ ?_
  clear k1 hmk1 hg
  rintro W2 ⟨k2, B2⟩
  go_wp2_with fail
  go_loopw [26] (fun t wr => ∃ i : Nat, i ≤ N ∧ t = .int .i64 i ∧ Kept w wr ∧ Blk wr g 5 (rowF N (fun j => .int .u8 (if j < i then IntKind.u8.wrap (c + IntKind.u8.wrap (j : Int)) else 0)))) (fun t _ => N - (intOf t).toNat)
  case atStart => exact ⟨0, Nat.zero_le _, rfl, k2, B2⟩
  case round =>
    clear k2 B2
    obtain ⟨i, hi, rfl, k, B⟩ := hrel
    have zi : (0 : Int) ≤ (i : Int) := by omega
    rcases Nat.lt_or_ge i N with hlt | hge
    · have yi : (i : Int) < (N : Int) := by omega
      have cl := B.at hlt
      have fr := B.free
      go_wp2_with fail
      go_roundw
      case rel =>
        refine ⟨i + 1, by omega, by go_num, k.setCell (kept_side nw) _, B.set hlt fun j hj => ?_⟩
        by_cases hji : j = i
        · subst hji
          rw [if_pos rfl, if_pos (by omega), wrap_u8, wrap_u8]
          congr 1
          omega
        · rw [if_neg hji]
          by_cases h : j < i
          · rw [if_pos h, if_pos (by omega)]
          · rw [if_neg h, if_neg (by omega)]
      case measure => simp [intOf]; omega
    · have yi : (N : Int) ≤ (i : Int) := by omega
      have HC : Hid (∀ j, j < N → (if j < i then IntKind.u8.wrap (c + IntKind.u8.wrap (j : Int)) else 0) = IntKind.u8.wrap (c + IntKind.u8.wrap (j : Int))) := Lib.hid fun j hj => if_pos (by omega)
      have B3 : Blk wr g 5 (rowF N (fun j => .int .u8 (IntKind.u8.wrap (c + IntKind.u8.wrap (j : Int))))) := by rw [rowF_congr fun j hj => congrArg (Value.int .u8) (HC.out j hj)] at B; exact B
      have hbyte : ∀ j, j < N → 0 ≤ IntKind.u8.wrap (c + IntKind.u8.wrap (j : Int)) ∧ IntKind.u8.wrap (c + IntKind.u8.wrap (j : Int)) ≤ 255 := fun j hj => by rw [wrap_u8]; omega
      clear HC B
      have HP1 : Hid (∀ w', Kept wr w' → Calls Try.prog 63 #[.int .u8 (1 + (d : Int)), .slice (some ⟨g, 0, none⟩) N N, .int .i64 200] w' fun e w'' => ∃ v, e = .returned v ∧ Reads w'' v (hashV (fun j => IntKind.u8.wrap (c + IntKind.u8.wrap (j : Int))) N (1 + (d : Int)) 200) ∧ Kept w' w'') := Lib.hid fun w' hk =>
        (k_Hash w' (1 + (d : Int)) (by omega) (by omega) _ N N (g + 1) _ (by omega) (SlB.of_blk (B3.kept hk) hbyte) (by have := (B3.kept hk).lt; omega) 200 (by omega)).mono fun e w'' ⟨v, h1, h2, h3⟩ => ⟨v, h1, reads_of_own h3, h2⟩
      obtain ⟨K, r, hKr, hr, hK⟩ : ∃ K r, N = 168 * K + r ∧ r ≤ 168 ∧ (K = 0 ∨ 0 < r) := parts N
      have HP2 : Hid (∀ w', Kept wr w' → Calls Try.prog 64 #[.int .u8 (1 + (d : Int)), .slice (some ⟨g, 0, none⟩) N N, .int .i64 200] w' fun e w'' => ∃ v, e = .returned v ∧ Reads w'' v (hashV (fun j => IntKind.u8.wrap (c + IntKind.u8.wrap (j : Int))) N (1 + (d : Int)) 200) ∧ Kept w' w'') := Lib.hid fun w' hk => by
        have h := r_Hash w' (1 + (d : Int)) (by omega) (by omega) (some ⟨g, 0, none⟩) N N g 0 (fun j => IntKind.u8.wrap (c + IntKind.u8.wrap (j : Int))) (.inr rfl) (Nat.le_refl _) (by omega) (Lib.hid fun j hj => by rw [Nat.zero_add]; exact (B3.kept hk).at hj) (Lib.hid hbyte) 200 (by omega) K r (Lib.hid hKr) hr hK
        have e9 := hashV_rbytes (fun j => IntKind.u8.wrap (c + IntKind.u8.wrap (j : Int))) K r (1 + (d : Int)) hr hK 200
        rw [← hKr] at e9
        rw [e9]
        exact h.mono fun e w'' ⟨v, h1, h2, h3⟩ => ⟨v, h1, reads_of_own h3, h2⟩
      have hconv : ∀ v w', Reads w' v (hashV (fun j => IntKind.u8.wrap (c + IntKind.u8.wrap (j : Int))) N (1 + (d : Int)) 200) → ∀ w'', w'' = w' → (convert 42 9 v).run Try.prog w' = .ok (.string (strR 200 (outs (hashS (fun j => IntKind.u8.wrap (c + IntKind.u8.wrap (j : Int))) N (1 + (d : Int))) 0))) w' := fun v w' h _ _ => conv_R h (fun j _ => outs_byte _ _ j)
      have HCV : Hid (∀ v w', Reads w' v (hashV (fun j => IntKind.u8.wrap (c + IntKind.u8.wrap (j : Int))) N (1 + (d : Int)) 200) → (convert 42 9 v).run Try.prog w' = .ok (.string (strR 200 (outs (hashS (fun j => IntKind.u8.wrap (c + IntKind.u8.wrap (j : Int))) N (1 + (d : Int))) 0))) w') := Lib.hid fun v w' h => hconv v w' h w' rfl
      clear hconv hbyte hKr hr hK
      generalize strR 200 _ = S at HCV
      generalize hashV _ N _ 200 = L at *
      go_wp2_with fail
      refine wp_region_marks_in (fun _ => readMean L) 9 (by kernel_rfl) (by kernel_rfl) (fun k0 => ?_)
      simp only [List.take_succ_cons, List.take_zero, List.drop_succ_cons, List.drop_zero]
      repeat (first
        | (refine marks_make_at 0 rfl rfl (by kernel_rfl) HP1.out ?_ ?_; (focus (intro w'; go_simp; done)); simp only [Act.put, List.setIfInBounds_toArray, List.set_cons_zero, List.set_cons_succ])
        | (refine marks_make_at 0 rfl rfl (by kernel_rfl) HP2.out ?_ ?_; (focus (intro w'; go_simp; done)); simp only [Act.put, List.setIfInBounds_toArray, List.set_cons_zero, List.set_cons_succ])
        | (refine marks_conv 0 42 (.string S) rfl rfl rfl rfl HCV.out ?_; simp only [Act.put, List.setIfInBounds_toArray, List.set_cons_zero, List.set_cons_succ])
        | (refine marks_conv 0 46 (.string S) rfl rfl rfl rfl HCV.out ?_; simp only [Act.put, List.setIfInBounds_toArray, List.set_cons_zero, List.set_cons_succ])
        | (refine marks_ex rfl rfl (by kernel_rfl) ?_; apply Exists.intro; refine And.intro (fun w' hk => ?_) (And.intro ?_ ?_); (focus (clear hk; go_simp; exact rfl)); (focus (exact rfl)); simp only [Act.put, List.setIfInBounds_toArray, List.set_cons_zero, List.set_cons_succ]))
      refine marks_nil ?_
      intro a'' W5 hkW5 hra
      obtain ⟨v1, v2, hv1, hv2, rfl⟩ := hra.mark2 42 0 46 0 (by decide) (by kernel_rfl) rfl rfl
      simp only [Act.put, List.setIfInBounds_toArray, List.set_cons_zero, List.set_cons_succ]
      have k5 := k.trans hkW5
      clear hra hv1 hv2 hkW5 k B3
      go_wp2_with fail
      go_ret
      exact ⟨rfl, k5⟩

set_option maxRecDepth 100000 in
set_option maxHeartbeats 4000000 in
theorem keccak_edges_true (n c dm : Int) (n0 : 0 ≤ n) (n1 : n ≤ 255) (c0 : 0 ≤ c) (c1 : c ≤ 255) (d0 : 0 ≤ dm) (d1 : dm ≤ 255) (w : World) : Calls Try.prog 13 #[.int .u8 n, .bool true, .int .u8 c, .int .u8 dm] w fun e w' => e = .returned (.bool true) ∧ Kept w w' := by
  have HK := Lib.hid k_Awake
  obtain ⟨m, hm, hm16⟩ : ∃ m : Nat, n % 16 = (m : Int) ∧ m < 16 := ⟨(n % 16).toNat, by omega, by omega⟩
  have e1 : n.tmod 16 = (m : Int) := by rw [Int.tmod_eq_emod_of_nonneg n0]; exact hm
  obtain ⟨d, hd, hd127⟩ : ∃ d : Nat, dm % 127 = (d : Int) ∧ d < 127 := ⟨(dm % 127).toNat, by omega, by omega⟩
  have e2 : dm.tmod 127 = (d : Int) := by rw [Int.tmod_eq_emod_of_nonneg d0]; exact hd
  obtain ⟨z, hz, hzl⟩ : ∃ z : Nat, Hid (z = 160 + m) ∧ z ≤ 175 := ⟨160 + m, Lib.hid rfl, by omega⟩
  have w1 : IntKind.i64.wrap (160 + (m : Int)) = (z : Int) := by have := hz.out; rw [show 160 + (m : Int) = (z : Int) by omega]; exact IntWalk.i64_in _ (by omega)
  have w2 : IntKind.u8.wrap (1 + (d : Int)) = 1 + (d : Int) := by rw [wrap_u8]; omega
  have w3 : IntKind.i64.wrap (m : Int) = (m : Int) := IntWalk.i64_in _ (by omega)
  have w4 : IntKind.u8.wrap (d : Int) = (d : Int) := by rw [wrap_u8]; omega
  have w5 : IntKind.u8.wrap (m : Int) = (m : Int) := by rw [wrap_u8]; omega
  have zm : (0 : Int) ≤ (m : Int) := by omega
  have zd : (0 : Int) ≤ (d : Int) := by omega
  obtain ⟨N, hN, hN2⟩ : ∃ N : Nat, Hid (N = z + 168) ∧ N ≤ 343 := ⟨_, Lib.hid rfl, by omega⟩
  have w6 : IntKind.i64.wrap ((z : Int) + 168) = (N : Int) := by have := hN.out; rw [show (z : Int) + 168 = (N : Int) by omega]; exact IntWalk.i64_in _ (by omega)
  have hmk := makefull42 N (by omega)
  go_enter Try.func13, Try.ntmps13
  go_wp2_with fail
  refine (HK.out _).mono ?_
  rintro e W1 ⟨rfl, k1⟩
  obtain ⟨g, hg⟩ : ∃ g, W1.heap.size = g := ⟨_, rfl⟩
  have hmk1 := hmk W1
  rw [hg] at hmk1
  clear hmk
  go_upto_region 7 with (fail)
  have nw : w.heap.size ≤ g := by have := k1.size; omega
  refine abs_world (fun W => Kept w W ∧ Blk W g 5 (rowF N (fun j => .int .u8 (if j < 0 then IntKind.u8.wrap (c + IntKind.u8.wrap (j : Int)) else 0)))) ⟨k1.alloc _, by rw [← hg]; exact Blk.new _ _ _⟩ ?_
  clear k1 hmk1 hg
  rintro W2 ⟨k2, B2⟩
  go_wp2_with fail
  go_loopw [26] (fun t wr => ∃ i : Nat, i ≤ N ∧ t = .int .i64 i ∧ Kept w wr ∧ Blk wr g 5 (rowF N (fun j => .int .u8 (if j < i then IntKind.u8.wrap (c + IntKind.u8.wrap (j : Int)) else 0)))) (fun t _ => N - (intOf t).toNat)
  case atStart => exact ⟨0, Nat.zero_le _, rfl, k2, B2⟩
  case round =>
    clear k2 B2
    obtain ⟨i, hi, rfl, k, B⟩ := hrel
    have zi : (0 : Int) ≤ (i : Int) := by omega
    rcases Nat.lt_or_ge i N with hlt | hge
    · have yi : (i : Int) < (N : Int) := by omega
      have cl := B.at hlt
      have fr := B.free
      go_wp2_with fail
      go_roundw
      case rel =>
        refine ⟨i + 1, by omega, by go_num, k.setCell (kept_side nw) _, B.set hlt fun j hj => ?_⟩
        by_cases hji : j = i
        · subst hji
          rw [if_pos rfl, if_pos (by omega), wrap_u8, wrap_u8]
          congr 1
          omega
        · rw [if_neg hji]
          by_cases h : j < i
          · rw [if_pos h, if_pos (by omega)]
          · rw [if_neg h, if_neg (by omega)]
      case measure => simp [intOf]; omega
    · have yi : (N : Int) ≤ (i : Int) := by omega
      have HC : Hid (∀ j, j < N → (if j < i then IntKind.u8.wrap (c + IntKind.u8.wrap (j : Int)) else 0) = IntKind.u8.wrap (c + IntKind.u8.wrap (j : Int))) := Lib.hid fun j hj => if_pos (by omega)
      have B3 : Blk wr g 5 (rowF N (fun j => .int .u8 (IntKind.u8.wrap (c + IntKind.u8.wrap (j : Int))))) := by rw [rowF_congr fun j hj => congrArg (Value.int .u8) (HC.out j hj)] at B; exact B
      have hbyte : ∀ j, j < N → 0 ≤ IntKind.u8.wrap (c + IntKind.u8.wrap (j : Int)) ∧ IntKind.u8.wrap (c + IntKind.u8.wrap (j : Int)) ≤ 255 := fun j hj => by rw [wrap_u8]; omega
      clear HC B
      have HP1 : Hid (∀ w', Kept wr w' → Calls Try.prog 63 #[.int .u8 (1 + (d : Int)), .slice (some ⟨g, 0, none⟩) N N, .int .i64 200] w' fun e w'' => ∃ v, e = .returned v ∧ Reads w'' v (hashV (fun j => IntKind.u8.wrap (c + IntKind.u8.wrap (j : Int))) N (1 + (d : Int)) 200) ∧ Kept w' w'') := Lib.hid fun w' hk =>
        (k_Hash w' (1 + (d : Int)) (by omega) (by omega) _ N N (g + 1) _ (by omega) (SlB.of_blk (B3.kept hk) hbyte) (by have := (B3.kept hk).lt; omega) 200 (by omega)).mono fun e w'' ⟨v, h1, h2, h3⟩ => ⟨v, h1, reads_of_own h3, h2⟩
      obtain ⟨K, r, hKr, hr, hK⟩ : ∃ K r, N = 168 * K + r ∧ r ≤ 168 ∧ (K = 0 ∨ 0 < r) := parts N
      have HP2 : Hid (∀ w', Kept wr w' → Calls Try.prog 64 #[.int .u8 (1 + (d : Int)), .slice (some ⟨g, 0, none⟩) N N, .int .i64 200] w' fun e w'' => ∃ v, e = .returned v ∧ Reads w'' v (hashV (fun j => IntKind.u8.wrap (c + IntKind.u8.wrap (j : Int))) N (1 + (d : Int)) 200) ∧ Kept w' w'') := Lib.hid fun w' hk => by
        have h := r_Hash w' (1 + (d : Int)) (by omega) (by omega) (some ⟨g, 0, none⟩) N N g 0 (fun j => IntKind.u8.wrap (c + IntKind.u8.wrap (j : Int))) (.inr rfl) (Nat.le_refl _) (by omega) (Lib.hid fun j hj => by rw [Nat.zero_add]; exact (B3.kept hk).at hj) (Lib.hid hbyte) 200 (by omega) K r (Lib.hid hKr) hr hK
        have e9 := hashV_rbytes (fun j => IntKind.u8.wrap (c + IntKind.u8.wrap (j : Int))) K r (1 + (d : Int)) hr hK 200
        rw [← hKr] at e9
        rw [e9]
        exact h.mono fun e w'' ⟨v, h1, h2, h3⟩ => ⟨v, h1, reads_of_own h3, h2⟩
      have hconv : ∀ v w', Reads w' v (hashV (fun j => IntKind.u8.wrap (c + IntKind.u8.wrap (j : Int))) N (1 + (d : Int)) 200) → ∀ w'', w'' = w' → (convert 42 9 v).run Try.prog w' = .ok (.string (strR 200 (outs (hashS (fun j => IntKind.u8.wrap (c + IntKind.u8.wrap (j : Int))) N (1 + (d : Int))) 0))) w' := fun v w' h _ _ => conv_R h (fun j _ => outs_byte _ _ j)
      have HCV : Hid (∀ v w', Reads w' v (hashV (fun j => IntKind.u8.wrap (c + IntKind.u8.wrap (j : Int))) N (1 + (d : Int)) 200) → (convert 42 9 v).run Try.prog w' = .ok (.string (strR 200 (outs (hashS (fun j => IntKind.u8.wrap (c + IntKind.u8.wrap (j : Int))) N (1 + (d : Int))) 0))) w') := Lib.hid fun v w' h => hconv v w' h w' rfl
      clear hconv hbyte hKr hr hK
      generalize strR 200 _ = S at HCV
      generalize hashV _ N _ 200 = L at *
      go_wp2_with fail
      refine wp_region_marks_in (fun _ => readMean L) 9 (by kernel_rfl) (by kernel_rfl) (fun k0 => ?_)
      simp only [List.take_succ_cons, List.take_zero, List.drop_succ_cons, List.drop_zero]
      repeat (first
        | (refine marks_make_at 0 rfl rfl (by kernel_rfl) HP1.out ?_ ?_; (focus (intro w'; go_simp; done)); simp only [Act.put, List.setIfInBounds_toArray, List.set_cons_zero, List.set_cons_succ])
        | (refine marks_make_at 0 rfl rfl (by kernel_rfl) HP2.out ?_ ?_; (focus (intro w'; go_simp; done)); simp only [Act.put, List.setIfInBounds_toArray, List.set_cons_zero, List.set_cons_succ])
        | (refine marks_conv 0 42 (.string S) rfl rfl rfl rfl HCV.out ?_; simp only [Act.put, List.setIfInBounds_toArray, List.set_cons_zero, List.set_cons_succ])
        | (refine marks_conv 0 46 (.string S) rfl rfl rfl rfl HCV.out ?_; simp only [Act.put, List.setIfInBounds_toArray, List.set_cons_zero, List.set_cons_succ])
        | (refine marks_ex rfl rfl (by kernel_rfl) ?_; apply Exists.intro; refine And.intro (fun w' hk => ?_) (And.intro ?_ ?_); (focus (clear hk; go_simp; exact rfl)); (focus (exact rfl)); simp only [Act.put, List.setIfInBounds_toArray, List.set_cons_zero, List.set_cons_succ]))
      refine marks_nil ?_
      intro a'' W5 hkW5 hra
      obtain ⟨v1, v2, hv1, hv2, rfl⟩ := hra.mark2 42 0 46 0 (by decide) (by kernel_rfl) rfl rfl
      simp only [Act.put, List.setIfInBounds_toArray, List.set_cons_zero, List.set_cons_succ]
      have k5 := k.trans hkW5
      clear hra hv1 hv2 hkW5 k B3
      go_wp2_with fail
      go_ret
      exact ⟨rfl, k5⟩

theorem keccakEdges_walk (n : Int) (wn : (Lit.int .u8 n).wf = true) (tw : Bool) (c : Int) (wc : (Lit.int .u8 c).wf = true) (dm : Int) (wd : (Lit.int .u8 dm).wf = true) (w : World) :
    Calls Try.prog 13 #[.int .u8 n, .bool tw, .int .u8 c, .int .u8 dm] w fun e w' => e = .returned (.bool true) ∧ Kept w w' := by
  have h1 : 0 ≤ n ∧ n ≤ 255 := by
    simp [Lit.wf, IntKind.min, IntKind.max, IntKind.signed, IntKind.bits] at wn
    omega
  have h2 : 0 ≤ c ∧ c ≤ 255 := by
    simp [Lit.wf, IntKind.min, IntKind.max, IntKind.signed, IntKind.bits] at wc
    omega
  have h3 : 0 ≤ dm ∧ dm ≤ 255 := by
    simp [Lit.wf, IntKind.min, IntKind.max, IntKind.signed, IntKind.bits] at wd
    omega
  cases tw
  · exact keccak_edges_false n c dm h1.1 h1.2 h2.1 h2.2 h3.1 h3.2 w
  · exact keccak_edges_true n c dm h1.1 h1.2 h2.1 h2.2 h3.1 h3.2 w
end Go.Proofs.Ytnajihlhcdedgaa
