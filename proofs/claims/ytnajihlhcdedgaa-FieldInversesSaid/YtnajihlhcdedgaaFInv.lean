/-
  FieldInverses: for every list of elements the law returns true.
-/
import Derived.Test.YtnajihlhcdedgaaFI2
import Derived.Test.YtnajihlhcdedgaaFRoots
import Derived.Test.YtnajihlhcdedgaaG6
import Derived.Test.YtnajihlhcdedgaaMark5
namespace Go.Proofs.Ytnajihlhcdedgaa
open Go.RowKit
set_option linter.unusedVariables false
set_option linter.unusedSimpArgs false
attribute [local simp] blkAt_setCell blkAt_alloc blkAt_drew Obj.put_cells

set_option maxRecDepth 100000 in
set_option maxHeartbeats 8000000 in
theorem field_inv_zero (u f : Int) (hf : isF f) (hF : Pure Try.prog 77 #[.int .u8 u] (.int .u8 f)) (wf : IntKind.i64.wrap f = f) (a : Option Addr) (n cap N : Nat) (x X0 X1 C0 C1 : Nat → Int) (hn : n ≤ 30) (hx : ∀ j, j < n → is128 (x j)) (w : World) (hA : SlX w a n cap N x)
    (hC0 : C0 = fun j => x j % 18446744073709551616) (hC1 : C1 = fun j => x j / 18446744073709551616)
    (HOf : Hid (∀ j, j < n → Pure Try.prog 32 #[.int .i64 f, .agg #[.int .u64 (C0 j), .int .u64 (C1 j)]] (.agg #[.int .u64 (X0 j), .int .u64 (X1 j)]))) (z : Nat) (hzn : z < n) (hz0 : rOf f (x z) = 0)
    (HZ0 : Hid (∀ j, j < z → decide (X0 j = 0 ∧ X1 j = 0) = false)) (HZ1 : Hid (decide (X0 z = 0 ∧ X1 z = 0) = true)) :
    Calls Try.prog 22 #[.int .u8 u, .slice a n cap] w fun e w' => e = .returned (.bool true) ∧ Kept w w' := by
  have hA' : SlE w a n cap N C0 C1 := by rw [hC0, hC1]; exact hA
  clear hC0 hC1
  have HA := Lib.hid f_Awake
  have HF := Lib.hid hF
  clear hF
  have yn : (n : Int) ≤ 30 := by omega
  go_enter Try.func22, Try.ntmps22
  go_wp2_with fail
  refine (HA.out _).mono ?_
  rintro e W1 ⟨rfl, k1⟩
  go_wp2_with fail
  refine (HF.out _).mono ?_
  rintro e W2 ⟨rfl, hk2⟩
  have k2 := k1.trans hk2
  clear k1 hk2
  go_wp2_with fail
  refine (HF.out _).mono ?_
  rintro e W3 ⟨rfl, hk3⟩
  have k3 := k2.trans hk3
  clear k2 hk3
  go_wp2_with fail
  refine (f_InvVec_zero hf _ (by omega) hx (hA.kept k3) ⟨z, hzn, hz0⟩).mono ?_
  rintro e W4 ⟨rfl, hk4⟩
  have k4 := k3.trans hk4
  clear k3 hk4 hz0
  go_wp2_with fail
  go_loopw [35] (fun t wr => ∃ i : Nat, i ≤ z ∧ t = .int .i64 i ∧ Kept W4 wr) (fun t _ => z + 1 - (intOf t).toNat)
  case atStart => exact ⟨0, Nat.zero_le _, rfl, Kept.refl _⟩
  case round =>
    obtain ⟨i, hi, rfl, k⟩ := hrel
    have zi : (0 : Int) ≤ (i : Int) := by omega
    have yi : (i : Int) < (n : Int) := by omega
    rcases Nat.lt_or_ge i z with hlt | hge
    · have HZ : Hid (∀ j, j < z → decide (X0 j = 0 ∧ X1 j = 0) = false) := HZ0
      obtain ⟨p, hip, cp0, cp1, _⟩ := (hA'.kept (k4.trans k)).at' i (by omega)
      have HOi := Lib.hid (HOf.out i (by omega))
      have HZi := HZ.out i (by omega)
      have hz := fun w => run_eql28 (X0 i) (X1 i) 0 0 w
      simp only [HZi] at hz
      clear HZi
      generalize X0 i = x0 at *
      generalize X1 i = x1 at *
      generalize C0 i = c0 at cp0 HOi
      generalize C1 i = c1 at cp1 HOi
      obtain ⟨g10, hg10⟩ : ∃ g, wr.heap.size = g := ⟨_, rfl⟩
      go_upto_region 10 with (refine wpList_load_elem (.tmp 37) cp0 cp1 rfl rfl rfl ?_)
      try simp only [hg10]
      clear cp0 cp1
      have nw10 : W4.heap.size ≤ g10 := hg10 ▸ k.size
      refine abs_world (fun W => Kept W4 W ∧ Blk W g10 28 #[.int .u64 c0, .int .u64 c1]) ⟨?_, ?_⟩ ?_
      · repeat (first | exact k | (refine Kept.setCell ?_ (kept_side (by first | assumption | omega)) _) | apply Kept.alloc | apply Kept.drew)
      · simp [Blk, *]
      clear k hg10
      rintro W5 ⟨k5, B5⟩
      have d0 := B5.cell 0 rfl
      have d1 := B5.cell 1 rfl
      go_wp2_with fail
      refine (HOi.out _).mono ?_
      rintro e W6 ⟨rfl, hk6⟩
      have k6 := k5.trans hk6
      clear d0 d1 k5 B5 hk6
      go_wp2_with fail
      go_roundw
      case rel => exact ⟨i + 1, by omega, by go_num, k6⟩
      case measure => simp [intOf]; omega
    · obtain rfl : i = z := by omega
      have HZ : Hid (∀ j, j < i + 1 → i ≤ j → decide (X0 j = 0 ∧ X1 j = 0) = true) := Lib.hid fun j h1 h2 => by rw [show j = i by omega]; exact HZ1.out
      obtain ⟨p, hip, cp0, cp1, _⟩ := (hA'.kept (k4.trans k)).at' i (by omega)
      have HOi := Lib.hid (HOf.out i (by omega))
      have HZi := HZ.out i (by omega) (by omega)
      have hz := fun w => run_eql28 (X0 i) (X1 i) 0 0 w
      simp only [HZi] at hz
      clear HZi
      generalize X0 i = x0 at *
      generalize X1 i = x1 at *
      generalize C0 i = c0 at cp0 HOi
      generalize C1 i = c1 at cp1 HOi
      obtain ⟨g10, hg10⟩ : ∃ g, wr.heap.size = g := ⟨_, rfl⟩
      go_upto_region 10 with (refine wpList_load_elem (.tmp 37) cp0 cp1 rfl rfl rfl ?_)
      try simp only [hg10]
      clear cp0 cp1
      have nw10 : W4.heap.size ≤ g10 := hg10 ▸ k.size
      refine abs_world (fun W => Kept W4 W ∧ Blk W g10 28 #[.int .u64 c0, .int .u64 c1]) ⟨?_, ?_⟩ ?_
      · repeat (first | exact k | (refine Kept.setCell ?_ (kept_side (by first | assumption | omega)) _) | apply Kept.alloc | apply Kept.drew)
      · simp [Blk, *]
      clear k hg10
      rintro W5 ⟨k5, B5⟩
      have d0 := B5.cell 0 rfl
      have d1 := B5.cell 1 rfl
      go_wp2_with fail
      refine (HOi.out _).mono ?_
      rintro e W6 ⟨rfl, hk6⟩
      have k6 := k5.trans hk6
      clear d0 d1 k5 B5 hk6
      go_wp2_with fail
      go_ret
      exact ⟨rfl, k4.trans k6⟩

set_option maxRecDepth 100000 in
set_option maxHeartbeats 8000000 in
theorem field_inv_unit (u f : Int) (hf : isF f) (hF : Pure Try.prog 77 #[.int .u8 u] (.int .u8 f)) (wf : IntKind.i64.wrap f = f) (f' : Int) (hb1 : ((3 + f' : Int) == 1) = false) (hb2 : ((3 + f' : Int) == 2) = false) (e1 : u.tmod 250 = f') (e2 : IntKind.u8.wrap f' = f') (e3 : IntKind.u8.wrap (3 + f') = 3 + f')
    (a : Option Addr) (n cap N : Nat) (x X0 X1 C0 C1 : Nat → Int) (hn : n ≤ 30) (hx : ∀ j, j < n → is128 (x j)) (w : World) (hA : SlX w a n cap N x)
    (hC0 : C0 = fun j => x j % 18446744073709551616) (hC1 : C1 = fun j => x j / 18446744073709551616)
    (HOf : Hid (∀ j, j < n → Pure Try.prog 32 #[.int .i64 f, .agg #[.int .u64 (C0 j), .int .u64 (C1 j)]] (.agg #[.int .u64 (X0 j), .int .u64 (X1 j)]))) (hu : ∀ j, j < n → rOf f (x j) ≠ 0)
    (HZ : Hid (∀ j, j < n → decide (X0 j = 0 ∧ X1 j = 0) = false)) :
    Calls Try.prog 22 #[.int .u8 u, .slice a n cap] w fun e w' => e = .returned (.bool true) ∧ Kept w w' := by
  have hA' : SlE w a n cap N C0 C1 := by rw [hC0, hC1]; exact hA
  have hn1 := neq28_self
  have HA := Lib.hid f_Awake
  have HF := Lib.hid hF
  clear hF
  have yn : (n : Int) ≤ 30 := by omega
  go_enter Try.func22, Try.ntmps22
  go_wp2_with fail
  refine (HA.out _).mono ?_
  rintro e W1 ⟨rfl, k1⟩
  go_wp2_with fail
  refine (HF.out _).mono ?_
  rintro e W2 ⟨rfl, hk2⟩
  have k2 := k1.trans hk2
  clear k1 hk2
  go_wp2_with fail
  refine (HF.out _).mono ?_
  rintro e W3 ⟨rfl, hk3⟩
  have k3 := k2.trans hk3
  clear k2 hk3
  go_wp2_with fail
  obtain ⟨r, hr, hc⟩ := f_InvVec_unit hf W3 (by omega) hx (hA.kept k3) hu
  refine hc.mono ?_
  clear hc
  rintro e W4 ⟨g, rfl, hk4, S4⟩
  have k4 := k3.trans hk4
  clear k3 hk4 hu
  have HIN : Hid (∀ j, j < n → Pure Try.prog 93 #[.int .i64 f, .agg #[.int .u64 (r j % 18446744073709551616), .int .u64 (r j / 18446744073709551616)]] (.bool true)) := Lib.hid fun j hj => by
    have := ref_In hf (is128_in ⟨(hr j hj).1, (hr j hj).2.1⟩)
    rw [decide_eq_true (hr j hj).2.1] at this
    exact this
  have HMU : Hid (∀ j, j < n → Pure Try.prog 38 #[.int .i64 f, .agg #[.int .u64 (C0 j), .int .u64 (C1 j)], .agg #[.int .u64 (r j % 18446744073709551616), .int .u64 (r j / 18446744073709551616)]] (.agg #[.int .u64 1, .int .u64 0])) := Lib.hid fun j hj => by
    obtain ⟨r0, r1, r2⟩ := hr j hj
    have := ref_Mul hf (hx j hj) (is128_in ⟨r0, r1⟩); rw [hC0, hC1]
    rw [rOf_of_lt r0 r1, r2, E_one] at this
    exact this
  clear hr hC0 hC1
  go_wp2_with fail
  go_loopw [35] (fun t wr => ∃ i : Nat, i ≤ n ∧ t = .int .i64 i ∧ Kept W4 wr) (fun t _ => n - (intOf t).toNat)
  case atStart => exact ⟨0, Nat.zero_le _, rfl, Kept.refl _⟩
  case round =>
    obtain ⟨i, hi, rfl, k⟩ := hrel
    have zi : (0 : Int) ≤ (i : Int) := by omega
    rcases Nat.lt_or_ge i n with hlt | hge
    · have yi : (i : Int) < (n : Int) := by omega
      obtain ⟨p, hip, cp0, cp1, _⟩ := (hA'.kept (k4.trans k)).at' i (by omega)
      have HOi := Lib.hid (HOf.out i (by omega))
      have HZi := HZ.out i (by omega)
      have hz := fun w => run_eql28 (X0 i) (X1 i) 0 0 w
      simp only [HZi] at hz
      clear HZi
      generalize X0 i = x0 at *
      generalize X1 i = x1 at *
      generalize C0 i = c0 at cp0 HOi
      generalize C1 i = c1 at cp1 HOi
      obtain ⟨g10, hg10⟩ : ∃ g, wr.heap.size = g := ⟨_, rfl⟩
      go_upto_region 10 with (refine wpList_load_elem (.tmp 37) cp0 cp1 rfl rfl rfl ?_)
      try simp only [hg10]
      clear cp0 cp1
      have nw10 : W4.heap.size ≤ g10 := hg10 ▸ k.size
      refine abs_world (fun W => Kept W4 W ∧ Blk W g10 28 #[.int .u64 c0, .int .u64 c1]) ⟨?_, ?_⟩ ?_
      · repeat (first | exact k | (refine Kept.setCell ?_ (kept_side (by first | assumption | omega)) _) | apply Kept.alloc | apply Kept.drew)
      · simp [Blk, *]
      clear k hg10
      rintro W5 ⟨k5, B5⟩
      have d0 := B5.cell 0 rfl
      have d1 := B5.cell 1 rfl
      go_wp2_with fail
      refine (HOi.out _).mono ?_
      rintro e W6 ⟨rfl, hk6⟩
      have k6 := k5.trans hk6
      clear d0 d1 k5 B5 hk6
      go_wp2_with fail
      go_roundw
      case rel => exact ⟨i + 1, by omega, by go_num, k6⟩
      case measure => simp [intOf]; omega
    · have yi : (n : Int) ≤ (i : Int) := by omega
      obtain rfl : n = i := by omega
      clear HOf HZ
      go_wp2_with fail
      go_loopw [63] (fun t wr => ∃ i : Nat, i ≤ n ∧ t = .int .i64 i ∧ Kept W4 wr) (fun t _ => n - (intOf t).toNat)
      case atStart => exact ⟨0, Nat.zero_le _, rfl, k⟩
      case round =>
        clear k
        rename_i wr
        obtain ⟨i, hi, rfl, k⟩ := hrel
        have zi : (0 : Int) ≤ (i : Int) := by omega
        rcases Nat.lt_or_ge i n with hlt | hge
        · have yi : (i : Int) < (n : Int) := by omega
          obtain ⟨p, hip, cp0, cp1, _⟩ := (hA'.kept (k4.trans k)).at' i hlt
          obtain ⟨q, hiq, cq00, cq10, _⟩ := S4.at' i hlt
          have HIn := Lib.hid (HIN.out i hlt)
          have HMu := Lib.hid (HMU.out i hlt)
          generalize r i % 18446744073709551616 = r0 at *
          generalize r i / 18446744073709551616 = r1 at *
          generalize C0 i = c0 at cp0 HMu
          generalize C1 i = c1 at cp1 HMu
          obtain ⟨g12, hg12⟩ : ∃ g, wr.heap.size = g := ⟨_, rfl⟩
          go_upto_region 18 with (refine wpList_load_elem (.tmp 66) cp0 cp1 rfl rfl rfl ?_)
          try simp only [hg12]
          clear cp0 cp1
          have nw12 : W4.heap.size ≤ g12 := hg12 ▸ k.size
          refine abs_world (fun W => Kept W4 W ∧ Blk W g12 28 #[.int .u64 c0, .int .u64 c1]) ⟨?_, ?_⟩ ?_
          · repeat (first | exact k | (refine Kept.setCell ?_ (kept_side (by first | assumption | omega)) _) | apply Kept.alloc | apply Kept.drew)
          · simp [Blk, *]
          clear k hg12
          rintro W11 ⟨k11, B11⟩
          have cq0 := k11.cell cq00
          have cq1 := k11.cell cq10
          have d0 := B11.cell 0 rfl
          have d1 := B11.cell 1 rfl
          clear cq00 cq10
          try simp only [List.append_eq, List.cons_append, List.nil_append]
          refine wp_region_wl (fun _ => oneMean 5 #[]) 18 (by kernel_rfl) (by as_aux_lemma => kernel_rfl) _ rfl _ rfl _ _ rfl rfl (fun k0 Lq hLq => ?_)
          dsimp only [List.map_cons, List.map_nil, List.take_succ_cons, List.take_zero, List.drop_succ_cons, List.drop_zero] at hLq ⊢
          repeat (first
            | (refine WL.law _ rfl rfl (by kernel_rfl) rfl rfl (calm_load_elem (.tmp 71) cq0 cq1 rfl rfl) ?_; dsimp only [List.set_cons_zero, List.set_cons_succ])
            | (refine WL.law _ rfl rfl (by kernel_rfl) rfl rfl (calm_load_elem (.tmp 80) cq0 cq1 rfl rfl) ?_; dsimp only [List.set_cons_zero, List.set_cons_succ])
            | (refine WL.skip rfl rfl ?_; dsimp only [List.set_cons_zero, List.set_cons_succ])
            | (refine WL.ex rfl rfl (by kernel_rfl) rfl ?_; apply Exists.intro; refine And.intro (fun w' hk => ?_) (And.intro ?_ ?_); (focus (have q0 := hk.cell d0; have q1 := hk.cell d1; clear hk; go_simp; exact rfl)); (focus (exact rfl)); dsimp only [List.set_cons_zero, List.set_cons_succ])
            | (refine WL.call rfl rfl (by kernel_rfl) rfl rfl HIn.out ?_ ?_; (focus (intro w'; go_simp; done)); dsimp only [List.set_cons_zero, List.set_cons_succ])
            | (refine WL.call rfl rfl (by kernel_rfl) rfl rfl HMu.out ?_ ?_; (focus (intro w'; go_simp; done)); dsimp only [List.set_cons_zero, List.set_cons_succ]))
          refine WL.nil (hLq _ ?_)
          clear hLq
          intro a'' W21 hkW21 hra
          obtain rfl := hra.mark0 (by kernel_rfl)
          clear hra
          try simp only [List.drop_succ_cons, List.drop_zero, List.drop_nil]
          have k13 := k11.trans hkW21
          clear d0 d1 cq0 cq1 k11 B11 hkW21
          go_wp2_with fail
          go_roundw
          case rel => exact ⟨i + 1, by omega, by go_num, k13⟩
          case measure => simp [intOf]; omega
        · have yi : (n : Int) ≤ (i : Int) := by omega
          have hmk := makefull90' 4097 (by omega) wr
          obtain ⟨g13, hg13⟩ : ∃ g, wr.heap.size = g := ⟨_, rfl⟩
          rw [hg13] at hmk
          have HL := Lib.hid (f_InvVec_long hf (some ⟨g13, 0, none⟩) 4097 4097 (by omega))
          have HKd := Lib.hid (f_InvVec_kind hb1 hb2 a n cap)
          have hmk' : (Instr.makeSlice 90 (.int .i64 4097) (.int .i64 4097)).run Try.prog wr = .ok (.slice (some ⟨g13, 0, none⟩) 4097 4097) (wr.alloc (.cells (rowF (4097 * 2) (fun _ => .int .u64 0)) 28)) := hmk
          clear hmk
          generalize rowF (4097 * 2) (fun _ => Value.int .u64 0) = big at hmk'
          go_wp2_with fail
          refine (HL.out _).mono ?_
          rintro e W20 ⟨rfl, hk20⟩
          have k20 := (k.alloc _).trans hk20
          clear k hk20 hmk'
          go_wp2_with fail
          refine (HKd.out _).mono ?_
          rintro e W21 ⟨rfl, hk21⟩
          have k21 := k20.trans hk21
          clear k20 hk21
          go_wp2_with fail
          go_ret
          exact ⟨rfl, k4.trans k21⟩

set_option maxRecDepth 100000 in
set_option maxHeartbeats 8000000 in
theorem field_inv_long (u : Int) (a : Option Addr) (n cap : Nat) (hn : 30 < n) (w : World) : Calls Try.prog 22 #[.int .u8 u, .slice a n cap] w fun e w' => e = .returned (.bool true) ∧ Kept w w' := by
  have HA := Lib.hid f_Awake
  have yn : (30 : Int) < (n : Int) := by omega
  go_enter Try.func22, Try.ntmps22
  go_wp2_with fail
  refine (HA.out _).mono ?_
  rintro e W1 ⟨rfl, k1⟩
  go_wp2_with fail
  go_ret
  exact ⟨rfl, k1⟩
end Go.Proofs.Ytnajihlhcdedgaa
