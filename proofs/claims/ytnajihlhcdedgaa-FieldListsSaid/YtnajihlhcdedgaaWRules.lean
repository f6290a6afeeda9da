/-
  WideRules: for every three elements the law returns true.
  Conditions: none.
-/
import Derived.Test.YtnajihlhcdedgaaWSums
namespace Go.Proofs.Ytnajihlhcdedgaa
open Go.RowKit
set_option linter.unusedVariables false
set_option linter.unusedSimpArgs false
attribute [local simp] blkAt_setCell blkAt_alloc blkAt_drew Obj.put_cells

set_option maxRecDepth 100000 in
set_option maxHeartbeats 4000000 in
theorem wide_rules_raw (a0 a1 b0 b1 c0 c1 s0 s1 m0 m1 t0 t1 d0 d1 n0 n1 e0 e1 f0 f1 g0 g1 x0 x1 : Int)
    (hK : Pure Try.prog 47 #[] (.bool true))
    (hK1 : Pure Try.prog 50 #[.agg #[.int .u64 a0, .int .u64 a1], .agg #[.int .u64 b0, .int .u64 b1]] (.agg #[.int .u64 s0, .int .u64 s1]))
    (hK2 : Pure Try.prog 50 #[.agg #[.int .u64 b0, .int .u64 b1], .agg #[.int .u64 a0, .int .u64 a1]] (.agg #[.int .u64 s0, .int .u64 s1]))
    (hK3 : Pure Try.prog 53 #[.agg #[.int .u64 a0, .int .u64 a1], .agg #[.int .u64 b0, .int .u64 b1]] (.agg #[.int .u64 m0, .int .u64 m1]))
    (hK4 : Pure Try.prog 53 #[.agg #[.int .u64 b0, .int .u64 b1], .agg #[.int .u64 a0, .int .u64 a1]] (.agg #[.int .u64 m0, .int .u64 m1]))
    (hK5 : Pure Try.prog 50 #[.agg #[.int .u64 b0, .int .u64 b1], .agg #[.int .u64 c0, .int .u64 c1]] (.agg #[.int .u64 t0, .int .u64 t1]))
    (hK6 : Pure Try.prog 53 #[.agg #[.int .u64 a0, .int .u64 a1], .agg #[.int .u64 t0, .int .u64 t1]] (.agg #[.int .u64 d0, .int .u64 d1]))
    (hK7 : Pure Try.prog 53 #[.agg #[.int .u64 a0, .int .u64 a1], .agg #[.int .u64 c0, .int .u64 c1]] (.agg #[.int .u64 n0, .int .u64 n1]))
    (hK8 : Pure Try.prog 50 #[.agg #[.int .u64 m0, .int .u64 m1], .agg #[.int .u64 n0, .int .u64 n1]] (.agg #[.int .u64 d0, .int .u64 d1]))
    (hK9 : Pure Try.prog 53 #[.agg #[.int .u64 m0, .int .u64 m1], .agg #[.int .u64 c0, .int .u64 c1]] (.agg #[.int .u64 e0, .int .u64 e1]))
    (hKa : Pure Try.prog 53 #[.agg #[.int .u64 b0, .int .u64 b1], .agg #[.int .u64 c0, .int .u64 c1]] (.agg #[.int .u64 f0, .int .u64 f1]))
    (hKb : Pure Try.prog 53 #[.agg #[.int .u64 a0, .int .u64 a1], .agg #[.int .u64 f0, .int .u64 f1]] (.agg #[.int .u64 e0, .int .u64 e1]))
    (hKc : Pure Try.prog 52 #[.agg #[.int .u64 a0, .int .u64 a1]] (.agg #[.int .u64 g0, .int .u64 g1]))
    (hKd : Pure Try.prog 50 #[.agg #[.int .u64 a0, .int .u64 a1], .agg #[.int .u64 g0, .int .u64 g1]] (.agg #[.int .u64 0, .int .u64 0]))
    (hKe : Pure Try.prog 51 #[.agg #[.int .u64 s0, .int .u64 s1], .agg #[.int .u64 b0, .int .u64 b1]] (.agg #[.int .u64 x0, .int .u64 x1]))
    (hKf : Pure Try.prog 48 #[.agg #[.int .u64 a0, .int .u64 a1]] (.agg #[.int .u64 x0, .int .u64 x1]))
    (hs : ∀ s t w, (binOp .eql 28 (.agg #[.int .u64 s, .int .u64 t]) (.agg #[.int .u64 s, .int .u64 t])).run Try.prog w = .ok (.bool true) w)
    (w : World) : Calls Try.prog 10 #[.agg #[.int .u64 a0, .int .u64 a1], .agg #[.int .u64 b0, .int .u64 b1], .agg #[.int .u64 c0, .int .u64 c1]] w fun e w' => e = .returned (.bool true) ∧ Kept w w' := by
  have HK := Lib.hid hK
  have HK1 := Lib.hid hK1
  have HK2 := Lib.hid hK2
  have HK3 := Lib.hid hK3
  have HK4 := Lib.hid hK4
  have HK5 := Lib.hid hK5
  have HK6 := Lib.hid hK6
  have HK7 := Lib.hid hK7
  have HK8 := Lib.hid hK8
  have HK9 := Lib.hid hK9
  have HKa := Lib.hid hKa
  have HKb := Lib.hid hKb
  have HKc := Lib.hid hKc
  have HKd := Lib.hid hKd
  have HKe := Lib.hid hKe
  have HKf := Lib.hid hKf
  clear hK hK1 hK2 hK3 hK4 hK5 hK6 hK7 hK8 hK9 hKa hKb hKc hKd hKe hKf
  have ne0_2 : w.heap.size ≠ w.heap.size + 1 + 1 := by omega
  have ne2_0 : w.heap.size + 1 + 1 ≠ w.heap.size := by omega
  go_enter Try.func10, Try.ntmps10
  go_wp2_with fail
  refine abs_calls (fun W => Kept w W ∧ Blk W (w.heap.size) 28 #[.int .u64 a0, .int .u64 a1] ∧ Blk W (w.heap.size + 1) 28 #[.int .u64 b0, .int .u64 b1] ∧ Blk W (w.heap.size + 1 + 1) 28 #[.int .u64 c0, .int .u64 c1]) ?_ ?_
  · refine ⟨?_, ?_, ?_, ?_⟩
    · repeat (first | exact Kept.refl _ | (refine Kept.setCell ?_ (kept_side (by first | assumption | omega)) _) | apply Kept.alloc | apply Kept.drew)
    · simp [Blk, *] <;> (intros; omega)
    · simp [Blk, *] <;> (intros; omega)
    · simp [Blk, *] <;> (intros; omega)
  rintro W1 ⟨kW1, BW1_0, BW1_1, BW1_2⟩
  have cW1_0_0 : W1.cell? ⟨w.heap.size, 0, none⟩ = some (.int .u64 a0) := BW1_0.cell 0 rfl
  have cW1_0_1 : W1.cell? ⟨w.heap.size, 1, none⟩ = some (.int .u64 a1) := BW1_0.cell 1 rfl
  have fW1_0 := BW1_0.free
  have cW1_1_0 : W1.cell? ⟨w.heap.size + 1, 0, none⟩ = some (.int .u64 b0) := BW1_1.cell 0 rfl
  have cW1_1_1 : W1.cell? ⟨w.heap.size + 1, 1, none⟩ = some (.int .u64 b1) := BW1_1.cell 1 rfl
  have fW1_1 := BW1_1.free
  have cW1_2_0 : W1.cell? ⟨w.heap.size + 1 + 1, 0, none⟩ = some (.int .u64 c0) := BW1_2.cell 0 rfl
  have cW1_2_1 : W1.cell? ⟨w.heap.size + 1 + 1, 1, none⟩ = some (.int .u64 c1) := BW1_2.cell 1 rfl
  have fW1_2 := BW1_2.free
  refine (HK.out _).mono ?_
  rintro e W2 ⟨rfl, hkW2⟩
  have kW2 := kW1.trans hkW2
  have BW2_0 := BW1_0.kept hkW2
  have BW2_1 := BW1_1.kept hkW2
  have BW2_2 := BW1_2.kept hkW2
  clear cW1_0_0 cW1_0_1 cW1_1_0 cW1_1_1 cW1_2_0 cW1_2_1 fW1_0 fW1_1 fW1_2 BW1_0 BW1_1 BW1_2 kW1 hkW2
  have cW2_0_0 : W2.cell? ⟨w.heap.size, 0, none⟩ = some (.int .u64 a0) := BW2_0.cell 0 rfl
  have cW2_0_1 : W2.cell? ⟨w.heap.size, 1, none⟩ = some (.int .u64 a1) := BW2_0.cell 1 rfl
  have fW2_0 := BW2_0.free
  have cW2_1_0 : W2.cell? ⟨w.heap.size + 1, 0, none⟩ = some (.int .u64 b0) := BW2_1.cell 0 rfl
  have cW2_1_1 : W2.cell? ⟨w.heap.size + 1, 1, none⟩ = some (.int .u64 b1) := BW2_1.cell 1 rfl
  have fW2_1 := BW2_1.free
  have cW2_2_0 : W2.cell? ⟨w.heap.size + 1 + 1, 0, none⟩ = some (.int .u64 c0) := BW2_2.cell 0 rfl
  have cW2_2_1 : W2.cell? ⟨w.heap.size + 1 + 1, 1, none⟩ = some (.int .u64 c1) := BW2_2.cell 1 rfl
  have fW2_2 := BW2_2.free
  go_wp2_with fail
  refine wp_region_calm 62 (by kernel_rfl) (by kernel_rfl) ?_
  simp only [List.take_succ_cons, List.take_zero, List.drop_succ_cons, List.drop_zero]
  repeat (first
    | (refine calm_skip rfl ?_; simp only [Act.put, List.setIfInBounds_toArray, List.set_cons_zero, List.set_cons_succ])
    | (refine calm_ex rfl ?_; apply Exists.intro; refine And.intro (fun w' hk => ?_) ?_; (focus (have q0 := hk.cell cW2_0_0; have q1 := hk.cell cW2_0_1; have q2 := hk.cell cW2_1_0; have q3 := hk.cell cW2_1_1; have q4 := hk.cell cW2_2_0; have q5 := hk.cell cW2_2_1; clear hk; go_simp; exact rfl)); simp only [Act.put, List.setIfInBounds_toArray, List.set_cons_zero, List.set_cons_succ])
    | (refine calm_step _ rfl (HK1.out.call ?_) ?_; (focus (intro w'; go_simp; done)); simp only [Act.put, List.setIfInBounds_toArray, List.set_cons_zero, List.set_cons_succ])
    | (refine calm_step _ rfl (HK2.out.call ?_) ?_; (focus (intro w'; go_simp; done)); simp only [Act.put, List.setIfInBounds_toArray, List.set_cons_zero, List.set_cons_succ])
    | (refine calm_step _ rfl (HK3.out.call ?_) ?_; (focus (intro w'; go_simp; done)); simp only [Act.put, List.setIfInBounds_toArray, List.set_cons_zero, List.set_cons_succ])
    | (refine calm_step _ rfl (HK4.out.call ?_) ?_; (focus (intro w'; go_simp; done)); simp only [Act.put, List.setIfInBounds_toArray, List.set_cons_zero, List.set_cons_succ])
    | (refine calm_step _ rfl (HK5.out.call ?_) ?_; (focus (intro w'; go_simp; done)); simp only [Act.put, List.setIfInBounds_toArray, List.set_cons_zero, List.set_cons_succ])
    | (refine calm_step _ rfl (HK6.out.call ?_) ?_; (focus (intro w'; go_simp; done)); simp only [Act.put, List.setIfInBounds_toArray, List.set_cons_zero, List.set_cons_succ])
    | (refine calm_step _ rfl (HK7.out.call ?_) ?_; (focus (intro w'; go_simp; done)); simp only [Act.put, List.setIfInBounds_toArray, List.set_cons_zero, List.set_cons_succ])
    | (refine calm_step _ rfl (HK8.out.call ?_) ?_; (focus (intro w'; go_simp; done)); simp only [Act.put, List.setIfInBounds_toArray, List.set_cons_zero, List.set_cons_succ])
    | (refine calm_step _ rfl (HK9.out.call ?_) ?_; (focus (intro w'; go_simp; done)); simp only [Act.put, List.setIfInBounds_toArray, List.set_cons_zero, List.set_cons_succ])
    | (refine calm_step _ rfl (HKa.out.call ?_) ?_; (focus (intro w'; go_simp; done)); simp only [Act.put, List.setIfInBounds_toArray, List.set_cons_zero, List.set_cons_succ])
    | (refine calm_step _ rfl (HKb.out.call ?_) ?_; (focus (intro w'; go_simp; done)); simp only [Act.put, List.setIfInBounds_toArray, List.set_cons_zero, List.set_cons_succ])
    | (refine calm_step _ rfl (HKc.out.call ?_) ?_; (focus (intro w'; go_simp; done)); simp only [Act.put, List.setIfInBounds_toArray, List.set_cons_zero, List.set_cons_succ])
    | (refine calm_step _ rfl (HKd.out.call ?_) ?_; (focus (intro w'; go_simp; done)); simp only [Act.put, List.setIfInBounds_toArray, List.set_cons_zero, List.set_cons_succ])
    | (refine calm_step _ rfl (HKe.out.call ?_) ?_; (focus (intro w'; go_simp; done)); simp only [Act.put, List.setIfInBounds_toArray, List.set_cons_zero, List.set_cons_succ])
    | (refine calm_step _ rfl (HKf.out.call ?_) ?_; (focus (intro w'; go_simp; done)); simp only [Act.put, List.setIfInBounds_toArray, List.set_cons_zero, List.set_cons_succ])
  )
  refine calm_nil ?_
  intro W3 hkW3
  have kW3 := kW2.trans hkW3
  have BW3_0 := BW2_0.kept hkW3
  have BW3_1 := BW2_1.kept hkW3
  have BW3_2 := BW2_2.kept hkW3
  clear cW2_0_0 cW2_0_1 cW2_1_0 cW2_1_1 cW2_2_0 cW2_2_1 fW2_0 fW2_1 fW2_2 BW2_0 BW2_1 BW2_2 kW2 hkW3
  have cW3_0_0 : W3.cell? ⟨w.heap.size, 0, none⟩ = some (.int .u64 a0) := BW3_0.cell 0 rfl
  have cW3_0_1 : W3.cell? ⟨w.heap.size, 1, none⟩ = some (.int .u64 a1) := BW3_0.cell 1 rfl
  have fW3_0 := BW3_0.free
  have cW3_1_0 : W3.cell? ⟨w.heap.size + 1, 0, none⟩ = some (.int .u64 b0) := BW3_1.cell 0 rfl
  have cW3_1_1 : W3.cell? ⟨w.heap.size + 1, 1, none⟩ = some (.int .u64 b1) := BW3_1.cell 1 rfl
  have fW3_1 := BW3_1.free
  have cW3_2_0 : W3.cell? ⟨w.heap.size + 1 + 1, 0, none⟩ = some (.int .u64 c0) := BW3_2.cell 0 rfl
  have cW3_2_1 : W3.cell? ⟨w.heap.size + 1 + 1, 1, none⟩ = some (.int .u64 c1) := BW3_2.cell 1 rfl
  have fW3_2 := BW3_2.free
  go_wp2_with fail
  go_ret
  exact ⟨rfl, kW3⟩

theorem wide_rules_E {a b c : Int} (ha : is128 a) (hb : is128 b) (hc : is128 c) (w : World) :
    Calls Try.prog 10 #[E a, E b, E c] w fun e w' => e = .returned (.bool true) ∧ Kept w w' := by
  have im := is128_emod_w
  have h2 := w_Add hb ha
  rw [Int.add_comm b a] at h2
  have h4 := w_Mul hb ha
  rw [Int.mul_comm b a] at h4
  have h6 := w_Mul ha (im (b + c))
  have h8 := (w_Add (im (a * b)) (im (a * c))).to (congrArg E (show (a * b % wP + a * c % wP) % wP = a * ((b + c) % wP) % wP by
    rw [← Int.add_emod, ← Int.mul_add, Int.mul_emod a ((b + c) % wP), Int.emod_emod, ← Int.mul_emod]))
  have h9 := w_Mul (im (a * b)) hc
  have hb' := (w_Mul ha (im (b * c))).to (congrArg E (show a * (b * c % wP) % wP = a * b % wP * c % wP by
    rw [Int.mul_emod a (b * c % wP), Int.emod_emod, ← Int.mul_emod, Int.mul_emod (a * b % wP) c, Int.emod_emod, ← Int.mul_emod, Int.mul_assoc]))
  have hd := w_Add ha (im (-a))
  rw [show (a + -a % wP) % wP = 0 by unfold wP; omega] at hd
  have he := w_Sub (im (a + b)) hb
  rw [show ((a + b) % wP - b) % wP = a % wP by unfold wP; omega] at he
  exact wide_rules_raw _ _ _ _ _ _ _ _ _ _ _ _ _ _ _ _ _ _ _ _ _ _ _ _ wide_Awake (w_Add ha hb) h2 (w_Mul ha hb) h4 (w_Add hb hc) h6 (w_Mul ha hc) h8
    h9 (w_Mul hb hc) hb' (w_Neg ha) hd he (w_Of ha) eql28_self w

theorem elem_of {l : List Int} (hl : l.length = 2) (hw : ∀ z ∈ l, (Lit.int .u64 z).wf = true) : ∃ n, is128 n ∧ Value.agg (l.map (Value.int .u64)).toArray = E n := by
  obtain ⟨a, b, rfl⟩ := arr2 hl
  obtain ⟨h1, h2⟩ := E_of (is64_mk (hw a (by simp))) (is64_mk (hw b (by simp)))
  exact ⟨_, h1, h2.symm⟩

theorem wide_sums_law (a : List Int) (la : a.length = 2) (wa : ∀ z ∈ a, (Lit.int .u64 z).wf = true) (b : List Int) (lb : b.length = 2) (wb : ∀ z ∈ b, (Lit.int .u64 z).wf = true) (w : World) :
    Calls Try.prog 8 #[.agg (a.map (Value.int .u64)).toArray, .agg (b.map (Value.int .u64)).toArray] w fun e w' => e = .returned (.bool true) ∧ Kept w w' := by
  obtain ⟨n, hn, en⟩ := elem_of la wa
  obtain ⟨m, hm, em⟩ := elem_of lb wb
  rw [en, em]
  exact wide_sums_E hn hm w

theorem wide_rules_law (a : List Int) (la : a.length = 2) (wa : ∀ z ∈ a, (Lit.int .u64 z).wf = true) (b : List Int) (lb : b.length = 2) (wb : ∀ z ∈ b, (Lit.int .u64 z).wf = true) (c : List Int) (lc : c.length = 2) (wc : ∀ z ∈ c, (Lit.int .u64 z).wf = true) (w : World) :
    Calls Try.prog 10 #[.agg (a.map (Value.int .u64)).toArray, .agg (b.map (Value.int .u64)).toArray, .agg (c.map (Value.int .u64)).toArray] w fun e w' => e = .returned (.bool true) ∧ Kept w w' := by
  obtain ⟨n, hn, en⟩ := elem_of la wa
  obtain ⟨m, hm, em⟩ := elem_of lb wb
  obtain ⟨k, hk, ek⟩ := elem_of lc wc
  rw [en, em, ek]
  exact wide_rules_E hn hm hk w

end Go.Proofs.Ytnajihlhcdedgaa
