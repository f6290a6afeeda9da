/-
  GoldSums: for every two numbers of 64 bits the law returns true.
  Conditions: none.
-/
import Derived.Test.YtnajihlhcdedgaaG2
import Derived.Test.YtnajihlhcdedgaaR5
namespace Go.Proofs.Ytnajihlhcdedgaa
open Go.RowKit
set_option linter.unusedVariables false
set_option linter.unusedSimpArgs false
attribute [local simp] blkAt_setCell blkAt_alloc blkAt_drew Obj.put_cells

theorem law_e (t : Int) : Pure Try.prog 33 #[.int .u64 t] (.agg #[.int .u64 t, .int .u64 0]) := fun w => by
  go_enter Try.func33, Try.ntmps33
  go_wp2
  exact bodyPost_ret (v := .agg #[.int .u64 t, .int .u64 0]) (by simp [results, Try.results33, go_sem]) rfl ⟨rfl, (Kept.refl w).alloc _⟩

set_option maxRecDepth 100000 in
set_option maxHeartbeats 4000000 in
theorem gold_sums_raw (a b X Y S D N M : Int) (c : Bool)
    (hK : Gives 26 #[] (.bool true)) (hE : ∀ t, Pure Try.prog 33 #[.int .u64 t] (.agg #[.int .u64 t, .int .u64 0]))
    (hOa : Pure Try.prog 32 #[.int .i64 1, .agg #[.int .u64 a, .int .u64 0]] (.agg #[.int .u64 X, .int .u64 0]))
    (hOb : Pure Try.prog 32 #[.int .i64 1, .agg #[.int .u64 b, .int .u64 0]] (.agg #[.int .u64 Y, .int .u64 0]))
    (hOf : Pure Try.prog 31 #[.int .u64 a] (.int .u64 X)) (hIn : Pure Try.prog 34 #[.int .u64 a] (.bool c))
    (hAd : Pure Try.prog 27 #[.int .u64 a, .int .u64 b] (.int .u64 S)) (hSu : Pure Try.prog 30 #[.int .u64 a, .int .u64 b] (.int .u64 D))
    (hNe : Pure Try.prog 29 #[.int .u64 a] (.int .u64 N)) (hMu : Pure Try.prog 28 #[.int .u64 a, .int .u64 b] (.int .u64 M))
    (hRa : Pure Try.prog 35 #[.int .i64 1, .agg #[.int .u64 X, .int .u64 0], .agg #[.int .u64 Y, .int .u64 0]] (.agg #[.int .u64 S, .int .u64 0]))
    (hRs : Pure Try.prog 36 #[.int .i64 1, .agg #[.int .u64 X, .int .u64 0], .agg #[.int .u64 Y, .int .u64 0]] (.agg #[.int .u64 D, .int .u64 0]))
    (hRn : Pure Try.prog 37 #[.int .i64 1, .agg #[.int .u64 X, .int .u64 0]] (.agg #[.int .u64 N, .int .u64 0]))
    (hRm : Pure Try.prog 38 #[.int .i64 1, .agg #[.int .u64 X, .int .u64 0], .agg #[.int .u64 Y, .int .u64 0]] (.agg #[.int .u64 M, .int .u64 0]))
    (hq : ∀ w, (binOp .eql 28 (.agg #[.int .u64 X, .int .u64 0]) (.agg #[.int .u64 a, .int .u64 0])).run Try.prog w = .ok (.bool c) w)
    (hs : ∀ t w, (binOp .eql 28 (.agg #[.int .u64 t, .int .u64 0]) (.agg #[.int .u64 t, .int .u64 0])).run Try.prog w = .ok (.bool true) w)
    (w : World) : Calls Try.prog 4 #[.int .u64 a, .int .u64 b] w fun e w' => e = .returned (.bool true) ∧ Kept w w' := by
  have HK := Lib.hid hK
  have HE := Lib.hid hE
  have HOa := Lib.hid hOa
  have HOb := Lib.hid hOb
  have HOf := Lib.hid hOf
  have HIn := Lib.hid hIn
  have HAd := Lib.hid hAd
  have HSu := Lib.hid hSu
  have HNe := Lib.hid hNe
  have HMu := Lib.hid hMu
  have HRa := Lib.hid hRa
  have HRs := Lib.hid hRs
  have HRn := Lib.hid hRn
  have HRm := Lib.hid hRm
  clear hK hE hOa hOb hOf hIn hAd hSu hNe hMu hRa hRs hRn hRm
  go_enter Try.func4, Try.ntmps4
  go_wp2_with fail
  refine (HK.out _).mono ?_
  rintro e w' ⟨rfl, rfl⟩
  go_wp2_with fail
  refine (HE.out _ _).mono ?_
  rintro e W1 ⟨rfl, kW1⟩
  go_wp2_with fail
  refine (HOa.out _).mono ?_
  rintro e W2 ⟨rfl, hkW2⟩
  have kW2 := kW1.trans hkW2
  clear kW1 hkW2
  go_wp2_with fail
  refine (HE.out _ _).mono ?_
  rintro e W3 ⟨rfl, hkW3⟩
  have kW3 := kW2.trans hkW3
  clear kW2 hkW3
  go_wp2_with fail
  refine (HOb.out _).mono ?_
  rintro e W4 ⟨rfl, hkW4⟩
  have kW4 := kW3.trans hkW4
  clear kW3 hkW4
  have HEX := Lib.hid (HE.out X)
  have HEa := Lib.hid (HE.out a)
  have HES := Lib.hid (HE.out S)
  have HED := Lib.hid (HE.out D)
  have HEN := Lib.hid (HE.out N)
  have HEM := Lib.hid (HE.out M)
  obtain ⟨b5, hb5⟩ : ∃ b, W4.heap.size = b := ⟨_, rfl⟩
  have lob5 : w.heap.size ≤ b5 := hb5 ▸ kW4.size
  go_wp2_with fail
  refine abs_world (fun W => Kept w W ∧ Blk W (b5) 28 #[.int .u64 X, .int .u64 0] ∧ Blk W (b5 + 1) 28 #[.int .u64 Y, .int .u64 0]) ?_ ?_
  · refine ⟨?_, ?_, ?_⟩
    · repeat (first | exact kW4 | (refine Kept.setCell ?_ (kept_side (by first | assumption | omega)) _) | apply Kept.alloc)
    · simp [Blk, *] <;> (intros; omega)
    · simp [Blk, *] <;> (intros; omega)
  rintro W5 ⟨kW5, BW5_0, BW5_1⟩
  have cW5_0_0 : W5.cell? ⟨b5, 0, none⟩ = some (.int .u64 X) := BW5_0.cell 0 rfl
  have cW5_0_1 : W5.cell? ⟨b5, 1, none⟩ = some (.int .u64 0) := BW5_0.cell 1 rfl
  have fW5_0 := BW5_0.free
  have cW5_1_0 : W5.cell? ⟨b5 + 1, 0, none⟩ = some (.int .u64 Y) := BW5_1.cell 0 rfl
  have cW5_1_1 : W5.cell? ⟨b5 + 1, 1, none⟩ = some (.int .u64 0) := BW5_1.cell 1 rfl
  have fW5_1 := BW5_1.free
  refine wp_region_calm 52 (by kernel_rfl) (by kernel_rfl) ?_
  simp only [List.take_succ_cons, List.take_zero, List.drop_succ_cons, List.drop_zero]
  repeat (first
    | (refine calm_skip rfl ?_; simp only [Act.put, List.setIfInBounds_toArray, List.set_cons_zero, List.set_cons_succ])
    | (refine calm_ex rfl ?_; apply Exists.intro; refine And.intro (fun w' hk => ?_) ?_; (focus (have q0 := hk.cell cW5_0_0; have q1 := hk.cell cW5_0_1; have q2 := hk.cell cW5_1_0; have q3 := hk.cell cW5_1_1; clear hk; go_simp; exact rfl)); simp only [Act.put, List.setIfInBounds_toArray, List.set_cons_zero, List.set_cons_succ])
    | (refine calm_step _ rfl (HEX.out.call ?_) ?_; (focus (intro w'; go_simp; done)); simp only [Act.put, List.setIfInBounds_toArray, List.set_cons_zero, List.set_cons_succ])
    | (refine calm_step _ rfl (HEa.out.call ?_) ?_; (focus (intro w'; go_simp; done)); simp only [Act.put, List.setIfInBounds_toArray, List.set_cons_zero, List.set_cons_succ])
    | (refine calm_step _ rfl (HES.out.call ?_) ?_; (focus (intro w'; go_simp; done)); simp only [Act.put, List.setIfInBounds_toArray, List.set_cons_zero, List.set_cons_succ])
    | (refine calm_step _ rfl (HED.out.call ?_) ?_; (focus (intro w'; go_simp; done)); simp only [Act.put, List.setIfInBounds_toArray, List.set_cons_zero, List.set_cons_succ])
    | (refine calm_step _ rfl (HEN.out.call ?_) ?_; (focus (intro w'; go_simp; done)); simp only [Act.put, List.setIfInBounds_toArray, List.set_cons_zero, List.set_cons_succ])
    | (refine calm_step _ rfl (HEM.out.call ?_) ?_; (focus (intro w'; go_simp; done)); simp only [Act.put, List.setIfInBounds_toArray, List.set_cons_zero, List.set_cons_succ])
    | (refine calm_step _ rfl (HOf.out.call ?_) ?_; (focus (intro w'; go_simp; done)); simp only [Act.put, List.setIfInBounds_toArray, List.set_cons_zero, List.set_cons_succ])
    | (refine calm_step _ rfl (HIn.out.call ?_) ?_; (focus (intro w'; go_simp; done)); simp only [Act.put, List.setIfInBounds_toArray, List.set_cons_zero, List.set_cons_succ])
    | (refine calm_step _ rfl (HAd.out.call ?_) ?_; (focus (intro w'; go_simp; done)); simp only [Act.put, List.setIfInBounds_toArray, List.set_cons_zero, List.set_cons_succ])
    | (refine calm_step _ rfl (HSu.out.call ?_) ?_; (focus (intro w'; go_simp; done)); simp only [Act.put, List.setIfInBounds_toArray, List.set_cons_zero, List.set_cons_succ])
    | (refine calm_step _ rfl (HNe.out.call ?_) ?_; (focus (intro w'; go_simp; done)); simp only [Act.put, List.setIfInBounds_toArray, List.set_cons_zero, List.set_cons_succ])
    | (refine calm_step _ rfl (HMu.out.call ?_) ?_; (focus (intro w'; go_simp; done)); simp only [Act.put, List.setIfInBounds_toArray, List.set_cons_zero, List.set_cons_succ])
    | (refine calm_step _ rfl (HRa.out.call ?_) ?_; (focus (intro w'; go_simp; done)); simp only [Act.put, List.setIfInBounds_toArray, List.set_cons_zero, List.set_cons_succ])
    | (refine calm_step _ rfl (HRs.out.call ?_) ?_; (focus (intro w'; go_simp; done)); simp only [Act.put, List.setIfInBounds_toArray, List.set_cons_zero, List.set_cons_succ])
    | (refine calm_step _ rfl (HRn.out.call ?_) ?_; (focus (intro w'; go_simp; done)); simp only [Act.put, List.setIfInBounds_toArray, List.set_cons_zero, List.set_cons_succ])
    | (refine calm_step _ rfl (HRm.out.call ?_) ?_; (focus (intro w'; go_simp; done)); simp only [Act.put, List.setIfInBounds_toArray, List.set_cons_zero, List.set_cons_succ]))
  refine calm_nil ?_
  intro W6 hkW6
  have kW6 := kW5.trans hkW6
  have BW6_0 := BW5_0.kept hkW6
  have BW6_1 := BW5_1.kept hkW6
  clear cW5_0_0 cW5_0_1 cW5_1_0 cW5_1_1 fW5_0 fW5_1 BW5_0 BW5_1 kW5 hkW6
  have cW6_0_0 : W6.cell? ⟨b5, 0, none⟩ = some (.int .u64 X) := BW6_0.cell 0 rfl
  have cW6_0_1 : W6.cell? ⟨b5, 1, none⟩ = some (.int .u64 0) := BW6_0.cell 1 rfl
  have fW6_0 := BW6_0.free
  have cW6_1_0 : W6.cell? ⟨b5 + 1, 0, none⟩ = some (.int .u64 Y) := BW6_1.cell 0 rfl
  have cW6_1_1 : W6.cell? ⟨b5 + 1, 1, none⟩ = some (.int .u64 0) := BW6_1.cell 1 rfl
  have fW6_1 := BW6_1.free
  go_wp2_with fail
  go_ret
  exact ⟨rfl, kW6⟩

end Go.Proofs.Ytnajihlhcdedgaa
