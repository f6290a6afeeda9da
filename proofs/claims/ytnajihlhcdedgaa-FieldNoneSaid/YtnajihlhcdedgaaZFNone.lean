/-
  FieldNone: the walks.
-/
import Derived.Test.YtnajihlhcdedgaaZh
import Derived.Test.YtnajihlhcdedgaaZg
import Derived.Test.YtnajihlhcdedgaaZMark6
import Derived.Test.YtnajihlhcdedgaaZd
namespace Go.Proofs.Ytnajihlhcdedgaa
open Go.RowKit
set_option linter.unusedVariables false
set_option linter.unusedSimpArgs false
attribute [local simp] blkAt_setCell blkAt_alloc blkAt_drew Obj.put_cells

set_option maxRecDepth 100000 in
set_option maxHeartbeats 8000000 in
theorem f_Vec_none (w : World) (f : Int) (h1b : (f == 1) = false) (h2b : (f == 2) = false) (a : Option Addr) (n cap N : Nat) (C0 C1 : Nat → Int) (hn : n ≤ 4096) (hA : SlE w a n cap N C0 C1) :
    Calls Try.prog 94 #[.int .u8 f, .slice a n cap] w fun e w' => e = .returned (.slice none 0 0) ∧ Kept w w' := by
  have yn : (n : Int) ≤ 4096 := by omega
  have HB : Hid (∀ j, Pure Try.prog 109 #[.int .u8 f, .agg #[.int .u64 (C0 j), .int .u64 (C1 j)]] (.slice none 0 0)) := Lib.hid fun j => f_Bytes_n f h1b h2b (C0 j) (C1 j)
  go_enter Try.func94, Try.ntmps94
  go_wp2_with fail
  go_loopw [5, 10] (fun v t wr => ∃ i : Nat, i ≤ n ∧ t = .int .i64 i ∧ Kept w wr ∧ v = .slice none 0 0) (fun _ t _ => n - (intOf t).toNat)
  case atStart => exact ⟨0, Nat.zero_le _, rfl, Kept.refl _, rfl⟩
  case round =>
    obtain ⟨i, hi, rfl, k, rfl⟩ := hrel
    have zi : (0 : Int) ≤ (i : Int) := by omega
    rcases Nat.lt_or_ge i n with hlt | hge
    · have yi : (i : Int) < (n : Int) := by omega
      obtain ⟨p, hip, cp0, cp1, _⟩ := (hA.kept k).at' i hlt
      have HBi := Lib.hid (HB.out i)
      generalize C0 i = c0 at cp0 HBi
      generalize C1 i = c1 at cp1 HBi
      obtain ⟨g7, hg7⟩ : ∃ g, wr.heap.size = g := ⟨_, rfl⟩
      have nw7 : w.heap.size ≤ g7 := hg7 ▸ k.size
      go_upto_region 5 with (refine wpList_load_elem (.tmp 12) cp0 cp1 rfl rfl rfl ?_)
      try simp only [hg7]
      clear cp0 cp1
      refine abs_world (fun W => Kept wr W ∧ Blk W g7 28 #[.int .u64 c0, .int .u64 c1]) ⟨?_, ?_⟩ ?_
      · have nw9 : wr.heap.size ≤ g7 := by omega
        repeat (first | exact Kept.refl _ | (refine Kept.setCell ?_ (kept_side (by first | assumption | omega)) _) | apply Kept.alloc | apply Kept.drew)
      · simp [Blk, *]
      clear hg7
      rintro W1 ⟨hk1, B1⟩
      have k1 := k.trans hk1
      clear k hk1
      have d0 := B1.cell 0 rfl
      have d1 := B1.cell 1 rfl
      go_wp2_with fail
      refine (HBi.out _).mono ?_
      rintro e W2 ⟨rfl, hk2⟩
      have k2 := k1.trans hk2
      clear k1 hk2 d0 d1 B1
      go_wp2_with fail
      go_roundw
      case rel => exact ⟨i + 1, by omega, by go_num, k2, rfl⟩
      case measure => simp [intOf]; omega
    · have yi : (n : Int) ≤ (i : Int) := by omega
      obtain rfl : n = i := by omega
      go_wp2_with fail
      go_ret
      exact ⟨rfl, k⟩

set_option maxRecDepth 100000 in
set_option maxHeartbeats 8000000 in
theorem field_none_r (u : Int) (h1b : (u == 1) = false) (h2b : (u == 2) = false) (a0 a1 b0 b1 : Int) (a : Option Addr) (n cap N : Nat) (C0 C1 : Nat → Int) (yn : (n : Int) ≤ 50) (c : Option Addr) (m capc : Nat) (ym : (m : Int) ≤ 50) (w : World) (hA : SlE w a n cap N C0 C1) :
    Calls Try.prog 25 #[.int .u8 u, .agg #[.int .u64 a0, .int .u64 a1], .agg #[.int .u64 b0, .int .u64 b1], .slice a n cap, .slice c m capc] w fun e w' => e = .returned (.bool true) ∧ Kept w w' := by
  obtain ⟨g6, hg6⟩ : ∃ g, w.heap.size = g := ⟨_, rfl⟩
  obtain ⟨g7, hg7⟩ : ∃ g, g6 + 1 = g := ⟨_, rfl⟩
  have nw6 : w.heap.size ≤ g6 := by omega
  have nw7 : w.heap.size ≤ g7 := by omega
  have ne67 : g6 ≠ g7 := by omega
  have ne76 : g7 ≠ g6 := by omega
  have heq := eql28_selfF
  have HA := Lib.hid f_Awake
  have HI := Lib.hid (f_Inv_n u h1b h2b a0 a1)
  have HR := Lib.hid (f_Root_n u h1b h2b 1)
  have HT := Lib.hid (f_Take_none u h1b h2b c m capc)
  have HTV := Lib.hid (f_TakeVec_none u h1b h2b c m capc 1)
  have HV := Lib.hid (f_Valid_n u h1b h2b)
  have HS := Lib.hid (f_Size_n u h1b h2b)
  have HRs := Lib.hid (f_Roots_n u h1b h2b)
  have HIn := Lib.hid (f_In_n u h1b h2b a0 a1)
  have HOf := Lib.hid (f_Of_n u h1b h2b 7)
  have HAd := Lib.hid (f_Add_n u h1b h2b a0 a1 b0 b1)
  have HSu := Lib.hid (f_Sub_n u h1b h2b a0 a1 b0 b1)
  have HMu := Lib.hid (f_Mul_n u h1b h2b a0 a1 b0 b1)
  have HNe := Lib.hid (f_Neg_r u a0 a1 0 0 (f_Sub_n u h1b h2b 0 0 a0 a1))
  have HPo := Lib.hid (f_Pow_n u h1b h2b a0 a1 3)
  have HBy := Lib.hid (f_Bytes_n u h1b h2b a0 a1)
  have HSm : Hid (∀ w', Kept w w' → Calls Try.prog 82 #[.int .u8 u, .slice a n cap] w' fun e w'' => e = .returned (.agg #[.int .u64 0, .int .u64 0]) ∧ Kept w' w'') := Lib.hid fun w' hk => f_Sum_r w' u a n cap N C0 C1 (fun _ => 0) (fun _ => 0) (by omega) (hA.kept hk) rfl rfl (Lib.hid fun j hj => f_Add_n u h1b h2b 0 0 (C0 j) (C1 j))
  have HVe : Hid (∀ w', Kept w w' → Calls Try.prog 94 #[.int .u8 u, .slice a n cap] w' fun e w'' => e = .returned (.slice none 0 0) ∧ Kept w' w'') := Lib.hid fun w' hk => f_Vec_none w' u h1b h2b a n cap N C0 C1 (by omega) (hA.kept hk)
  go_enter Try.func25, Try.ntmps25
  go_wp2_with fail
  try simp only [hg6, hg7]
  refine abs_calls (fun W => Kept w W ∧ Blk W g6 28 #[.int .u64 a0, .int .u64 a1] ∧ Blk W g7 28 #[.int .u64 b0, .int .u64 b1]) ⟨?_, ?_, ?_⟩ ?_
  · repeat (first | exact Kept.refl _ | (refine Kept.setCell ?_ (kept_side (by first | assumption | omega)) _) | apply Kept.alloc | apply Kept.drew)
  · simp [Blk, *]
  · simp [Blk, *]
  clear hg6 hg7
  rintro X0 ⟨k, B_g6, B_g7⟩
  refine (HA.out _).mono ?_
  rintro e X1 ⟨rfl, hk⟩
  have k' := k.trans hk
  clear k
  have k := k'
  clear k'
  have D := B_g6.kept hk
  clear B_g6
  have B_g6 := D
  clear D
  have D := B_g7.kept hk
  clear B_g7
  have B_g7 := D
  clear D
  clear hk
  obtain ⟨g12, hg12⟩ : ∃ g, X1.heap.size = g := ⟨_, rfl⟩
  have lt6 : g6 < g12 := hg12 ▸ B_g6.lt
  have lt7 : g7 < g12 := hg12 ▸ B_g7.lt
  have nw12 : w.heap.size ≤ g12 := hg12 ▸ k.size
  have c0_g6 := B_g6.cell 0 rfl
  have c1_g6 := B_g6.cell 1 rfl
  have fr_g6 := B_g6.free
  have c0_g7 := B_g7.cell 0 rfl
  have c1_g7 := B_g7.cell 1 rfl
  have fr_g7 := B_g7.free
  go_wp2_with fail
  try simp only [hg12]
  refine abs_calls (fun W => Kept X1 W ∧ Blk W g12 28 #[.int .u64 0, .int .u64 0]) ⟨?_, ?_⟩ ?_
  · have nw0 : X1.heap.size ≤ g12 := by omega
    repeat (first | exact Kept.refl _ | (refine Kept.setCell ?_ (kept_side (by first | assumption | omega)) _) | apply Kept.alloc | apply Kept.drew)
  · simp [Blk, *]
  clear hg12
  rintro X2 ⟨hk, B_g12⟩
  clear c0_g6 c1_g6 fr_g6
  clear c0_g7 c1_g7 fr_g7
  have k' := k.trans hk
  clear k
  have k := k'
  clear k'
  have D := B_g6.kept hk
  clear B_g6
  have B_g6 := D
  clear D
  have D := B_g7.kept hk
  clear B_g7
  have B_g7 := D
  clear D
  clear hk
  refine (HI.out _).mono ?_
  rintro e X3 ⟨rfl, hk⟩
  have k' := k.trans hk
  clear k
  have k := k'
  clear k'
  have D := B_g6.kept hk
  clear B_g6
  have B_g6 := D
  clear D
  have D := B_g7.kept hk
  clear B_g7
  have B_g7 := D
  clear D
  have D := B_g12.kept hk
  clear B_g12
  have B_g12 := D
  clear D
  clear hk
  have nwa : w.heap.size ≤ X3.heap.size := k.size
  have c0_g6 := B_g6.cell 0 rfl
  have c1_g6 := B_g6.cell 1 rfl
  have fr_g6 := B_g6.free
  have c0_g7 := B_g7.cell 0 rfl
  have c1_g7 := B_g7.cell 1 rfl
  have fr_g7 := B_g7.free
  have c0_g12 := B_g12.cell 0 rfl
  have c1_g12 := B_g12.cell 1 rfl
  have fr_g12 := B_g12.free
  go_wp2_with fail
  refine abs_calls (fun W => Kept X3 W) (by repeat (first | exact Kept.refl _ | (refine Kept.setCell ?_ (kept_side (by first | assumption | omega)) _) | apply Kept.alloc | apply Kept.drew)) ?_
  rintro X4 hk
  clear c0_g6 c1_g6 fr_g6
  clear c0_g7 c1_g7 fr_g7
  clear c0_g12 c1_g12 fr_g12
  have k' := k.trans hk
  clear k
  have k := k'
  clear k'
  have D := B_g6.kept hk
  clear B_g6
  have B_g6 := D
  clear D
  have D := B_g7.kept hk
  clear B_g7
  have B_g7 := D
  clear D
  have D := B_g12.kept hk
  clear B_g12
  have B_g12 := D
  clear D
  clear hk
  clear nwa
  refine (HR.out _).mono ?_
  rintro e X5 ⟨rfl, hk⟩
  have k' := k.trans hk
  clear k
  have k := k'
  clear k'
  have D := B_g6.kept hk
  clear B_g6
  have B_g6 := D
  clear D
  have D := B_g7.kept hk
  clear B_g7
  have B_g7 := D
  clear D
  have D := B_g12.kept hk
  clear B_g12
  have B_g12 := D
  clear D
  clear hk
  have nwa : w.heap.size ≤ X5.heap.size := k.size
  have c0_g6 := B_g6.cell 0 rfl
  have c1_g6 := B_g6.cell 1 rfl
  have fr_g6 := B_g6.free
  have c0_g7 := B_g7.cell 0 rfl
  have c1_g7 := B_g7.cell 1 rfl
  have fr_g7 := B_g7.free
  have c0_g12 := B_g12.cell 0 rfl
  have c1_g12 := B_g12.cell 1 rfl
  have fr_g12 := B_g12.free
  go_wp2_with fail
  refine abs_calls (fun W => Kept X5 W) (by repeat (first | exact Kept.refl _ | (refine Kept.setCell ?_ (kept_side (by first | assumption | omega)) _) | apply Kept.alloc | apply Kept.drew)) ?_
  rintro X6 hk
  clear c0_g6 c1_g6 fr_g6
  clear c0_g7 c1_g7 fr_g7
  clear c0_g12 c1_g12 fr_g12
  have k' := k.trans hk
  clear k
  have k := k'
  clear k'
  have D := B_g6.kept hk
  clear B_g6
  have B_g6 := D
  clear D
  have D := B_g7.kept hk
  clear B_g7
  have B_g7 := D
  clear D
  have D := B_g12.kept hk
  clear B_g12
  have B_g12 := D
  clear D
  clear hk
  clear nwa
  refine (HT.out _).mono ?_
  rintro e X7 ⟨rfl, hk⟩
  have k' := k.trans hk
  clear k
  have k := k'
  clear k'
  have D := B_g6.kept hk
  clear B_g6
  have B_g6 := D
  clear D
  have D := B_g7.kept hk
  clear B_g7
  have B_g7 := D
  clear D
  have D := B_g12.kept hk
  clear B_g12
  have B_g12 := D
  clear D
  clear hk
  have nwa : w.heap.size ≤ X7.heap.size := k.size
  have c0_g6 := B_g6.cell 0 rfl
  have c1_g6 := B_g6.cell 1 rfl
  have fr_g6 := B_g6.free
  have c0_g7 := B_g7.cell 0 rfl
  have c1_g7 := B_g7.cell 1 rfl
  have fr_g7 := B_g7.free
  have c0_g12 := B_g12.cell 0 rfl
  have c1_g12 := B_g12.cell 1 rfl
  have fr_g12 := B_g12.free
  go_wp2_with fail
  refine abs_calls (fun W => Kept X7 W) (by repeat (first | exact Kept.refl _ | (refine Kept.setCell ?_ (kept_side (by first | assumption | omega)) _) | apply Kept.alloc | apply Kept.drew)) ?_
  rintro X8 hk
  clear c0_g6 c1_g6 fr_g6
  clear c0_g7 c1_g7 fr_g7
  clear c0_g12 c1_g12 fr_g12
  have k' := k.trans hk
  clear k
  have k := k'
  clear k'
  have D := B_g6.kept hk
  clear B_g6
  have B_g6 := D
  clear D
  have D := B_g7.kept hk
  clear B_g7
  have B_g7 := D
  clear D
  have D := B_g12.kept hk
  clear B_g12
  have B_g12 := D
  clear D
  clear hk
  clear nwa
  refine (HTV.out _).mono ?_
  rintro e X9 ⟨rfl, hk⟩
  have k' := k.trans hk
  clear k
  have k := k'
  clear k'
  have D := B_g6.kept hk
  clear B_g6
  have B_g6 := D
  clear D
  have D := B_g7.kept hk
  clear B_g7
  have B_g7 := D
  clear D
  have D := B_g12.kept hk
  clear B_g12
  have B_g12 := D
  clear D
  clear hk
  have c0_g6 := B_g6.cell 0 rfl
  have c1_g6 := B_g6.cell 1 rfl
  have fr_g6 := B_g6.free
  have c0_g7 := B_g7.cell 0 rfl
  have c1_g7 := B_g7.cell 1 rfl
  have fr_g7 := B_g7.free
  have c0_g12 := B_g12.cell 0 rfl
  have c1_g12 := B_g12.cell 1 rfl
  have fr_g12 := B_g12.free
  go_upto_region 13 with (fail)
  have HSm2 : Hid (∀ w', Kept X9 w' → Calls Try.prog 82 #[.int .u8 u, .slice a n cap] w' fun e w'' => e = .returned (.agg #[.int .u64 0, .int .u64 0]) ∧ Kept w' w'') := Lib.hid fun w' hk => HSm.out w' (k.trans hk)
  have HVe2 : Hid (∀ w', Kept X9 w' → Calls Try.prog 94 #[.int .u8 u, .slice a n cap] w' fun e w'' => e = .returned (.slice none 0 0) ∧ Kept w' w'') := Lib.hid fun w' hk => HVe.out w' (k.trans hk)
  clear HSm HVe
  try simp only [List.append_eq, List.cons_append, List.nil_append]
  refine wp_region_wl (fun _ => oneMean 5 #[]) 96 (by kernel_rfl) (calmB_six 16 rfl (by as_aux_lemma => kernel_rfl) (by as_aux_lemma => kernel_rfl) (by as_aux_lemma => kernel_rfl) (by as_aux_lemma => kernel_rfl) (by as_aux_lemma => kernel_rfl) (by as_aux_lemma => kernel_rfl) (by as_aux_lemma => kernel_rfl) (by as_aux_lemma => kernel_rfl) (by as_aux_lemma => kernel_rfl) (by as_aux_lemma => kernel_rfl) (by as_aux_lemma => kernel_rfl)) _ rfl _ rfl _ _ rfl rfl (fun k0 Lq hLq => ?_)
  dsimp only [List.map_cons, List.map_nil, List.take_succ_cons, List.take_zero, List.drop_succ_cons, List.drop_zero] at hLq ⊢
  repeat (first
    | (refine WL.skip rfl rfl ?_; dsimp only [List.set_cons_zero, List.set_cons_succ])
    | (refine WL.ex rfl rfl (by kernel_rfl) rfl ?_; apply Exists.intro; refine And.intro (fun w' hk => ?_) (And.intro ?_ ?_); (focus (have q0g6 := hk.cell c0_g6; have q1g6 := hk.cell c1_g6; have q0g7 := hk.cell c0_g7; have q1g7 := hk.cell c1_g7; have q0g12 := hk.cell c0_g12; have q1g12 := hk.cell c1_g12; clear hk; go_simp; exact rfl)); (focus (exact rfl)); dsimp only [List.set_cons_zero, List.set_cons_succ])
    | (refine WL.call rfl rfl (by kernel_rfl) rfl rfl HV.out ?_ ?_; (focus (intro w'; go_simp; done)); dsimp only [List.set_cons_zero, List.set_cons_succ])
    | (refine WL.call rfl rfl (by kernel_rfl) rfl rfl HS.out ?_ ?_; (focus (intro w'; go_simp; done)); dsimp only [List.set_cons_zero, List.set_cons_succ])
    | (refine WL.call rfl rfl (by kernel_rfl) rfl rfl HRs.out ?_ ?_; (focus (intro w'; go_simp; done)); dsimp only [List.set_cons_zero, List.set_cons_succ])
    | (refine WL.call rfl rfl (by kernel_rfl) rfl rfl HIn.out ?_ ?_; (focus (intro w'; go_simp; done)); dsimp only [List.set_cons_zero, List.set_cons_succ])
    | (refine WL.call rfl rfl (by kernel_rfl) rfl rfl HOf.out ?_ ?_; (focus (intro w'; go_simp; done)); dsimp only [List.set_cons_zero, List.set_cons_succ])
    | (refine WL.call rfl rfl (by kernel_rfl) rfl rfl HAd.out ?_ ?_; (focus (intro w'; go_simp; done)); dsimp only [List.set_cons_zero, List.set_cons_succ])
    | (refine WL.call rfl rfl (by kernel_rfl) rfl rfl HSu.out ?_ ?_; (focus (intro w'; go_simp; done)); dsimp only [List.set_cons_zero, List.set_cons_succ])
    | (refine WL.call rfl rfl (by kernel_rfl) rfl rfl HMu.out ?_ ?_; (focus (intro w'; go_simp; done)); dsimp only [List.set_cons_zero, List.set_cons_succ])
    | (refine WL.call rfl rfl (by kernel_rfl) rfl rfl HNe.out ?_ ?_; (focus (intro w'; go_simp; done)); dsimp only [List.set_cons_zero, List.set_cons_succ])
    | (refine WL.call rfl rfl (by kernel_rfl) rfl rfl HPo.out ?_ ?_; (focus (intro w'; go_simp; done)); dsimp only [List.set_cons_zero, List.set_cons_succ])
    | (refine WL.call rfl rfl (by kernel_rfl) rfl rfl HBy.out ?_ ?_; (focus (intro w'; go_simp; done)); dsimp only [List.set_cons_zero, List.set_cons_succ])
    | (refine WL.callAt rfl rfl (by kernel_rfl) rfl rfl HSm2.out ?_ ?_; (focus (intro w'; go_simp; done)); dsimp only [List.set_cons_zero, List.set_cons_succ])
    | (refine WL.callAt rfl rfl (by kernel_rfl) rfl rfl HVe2.out ?_ ?_; (focus (intro w'; go_simp; done)); dsimp only [List.set_cons_zero, List.set_cons_succ]))
  refine WL.nil (hLq _ ?_)
  clear hLq
  intro a'' X10 hk hra
  obtain rfl := hra.mark0 (by kernel_rfl)
  clear hra
  try simp only [List.drop_succ_cons, List.drop_zero, List.drop_nil]
  have k2 := k.trans hk
  clear k hk HSm2 HVe2
  go_wp2_with fail
  go_ret
  exact ⟨rfl, k2⟩

set_option maxRecDepth 100000 in
set_option maxHeartbeats 8000000 in
theorem field_none_longA (u a0 a1 b0 b1 : Int) (a : Option Addr) (n cap : Nat) (c : Option Addr) (m capc : Nat) (h : (50 : Int) < (n : Int)) (w : World) :
    Calls Try.prog 25 #[.int .u8 u, .agg #[.int .u64 a0, .int .u64 a1], .agg #[.int .u64 b0, .int .u64 b1], .slice a n cap, .slice c m capc] w fun e w' => e = .returned (.bool true) ∧ Kept w w' := by
  have HA := Lib.hid f_Awake
  go_enter Try.func25, Try.ntmps25
  go_wp2_with fail
  refine abs_calls (fun W => Kept w W) (by repeat (first | exact Kept.refl _ | (refine Kept.setCell ?_ (kept_side (by first | assumption | omega)) _) | apply Kept.alloc | apply Kept.drew)) ?_
  rintro X0 k
  refine (HA.out _).mono ?_
  rintro e W1 ⟨rfl, hk⟩
  have k1 := k.trans hk
  clear k hk
  go_wp2_with fail
  go_ret
  exact ⟨rfl, k1⟩

set_option maxRecDepth 100000 in
set_option maxHeartbeats 8000000 in
theorem field_none_longB (u a0 a1 b0 b1 : Int) (a : Option Addr) (n cap : Nat) (c : Option Addr) (m capc : Nat) (h : (n : Int) ≤ 50) (h2 : (50 : Int) < (m : Int)) (w : World) :
    Calls Try.prog 25 #[.int .u8 u, .agg #[.int .u64 a0, .int .u64 a1], .agg #[.int .u64 b0, .int .u64 b1], .slice a n cap, .slice c m capc] w fun e w' => e = .returned (.bool true) ∧ Kept w w' := by
  have HA := Lib.hid f_Awake
  go_enter Try.func25, Try.ntmps25
  go_wp2_with fail
  refine abs_calls (fun W => Kept w W) (by repeat (first | exact Kept.refl _ | (refine Kept.setCell ?_ (kept_side (by first | assumption | omega)) _) | apply Kept.alloc | apply Kept.drew)) ?_
  rintro X0 k
  refine (HA.out _).mono ?_
  rintro e W1 ⟨rfl, hk⟩
  have k1 := k.trans hk
  clear k hk
  go_wp2_with fail
  go_ret
  exact ⟨rfl, k1⟩

set_option maxRecDepth 100000 in
set_option maxHeartbeats 8000000 in
theorem field_none_one (u a0 a1 b0 b1 : Int) (a : Option Addr) (n cap : Nat) (c : Option Addr) (m capc : Nat) (h : (n : Int) ≤ 50) (h2 : (m : Int) ≤ 50) (hV : Pure Try.prog 108 #[.int .u8 u] (.bool true)) (h1b : (u == 1) = true) (w : World) :
    Calls Try.prog 25 #[.int .u8 u, .agg #[.int .u64 a0, .int .u64 a1], .agg #[.int .u64 b0, .int .u64 b1], .slice a n cap, .slice c m capc] w fun e w' => e = .returned (.bool true) ∧ Kept w w' := by
  have HA := Lib.hid f_Awake
  have HV := Lib.hid hV
  clear hV
  go_enter Try.func25, Try.ntmps25
  go_wp2_with fail
  refine abs_calls (fun W => Kept w W) (by repeat (first | exact Kept.refl _ | (refine Kept.setCell ?_ (kept_side (by first | assumption | omega)) _) | apply Kept.alloc | apply Kept.drew)) ?_
  rintro X0 k
  refine (HA.out _).mono ?_
  rintro e W1 ⟨rfl, hk⟩
  have k1 := k.trans hk
  clear k hk
  go_wp2_with fail
  refine (HV.out _).mono ?_
  rintro e W2 ⟨rfl, hk⟩
  have k2 := k1.trans hk
  go_wp2_with fail
  go_ret
  exact ⟨rfl, k2⟩

set_option maxRecDepth 100000 in
set_option maxHeartbeats 8000000 in
theorem field_none_two (u a0 a1 b0 b1 : Int) (a : Option Addr) (n cap : Nat) (c : Option Addr) (m capc : Nat) (h : (n : Int) ≤ 50) (h2 : (m : Int) ≤ 50) (hV : Pure Try.prog 108 #[.int .u8 u] (.bool true)) (h1b : (u == 1) = false) (h2b : (u == 2) = true) (w : World) :
    Calls Try.prog 25 #[.int .u8 u, .agg #[.int .u64 a0, .int .u64 a1], .agg #[.int .u64 b0, .int .u64 b1], .slice a n cap, .slice c m capc] w fun e w' => e = .returned (.bool true) ∧ Kept w w' := by
  have HA := Lib.hid f_Awake
  have HV := Lib.hid hV
  clear hV
  go_enter Try.func25, Try.ntmps25
  go_wp2_with fail
  refine abs_calls (fun W => Kept w W) (by repeat (first | exact Kept.refl _ | (refine Kept.setCell ?_ (kept_side (by first | assumption | omega)) _) | apply Kept.alloc | apply Kept.drew)) ?_
  rintro X0 k
  refine (HA.out _).mono ?_
  rintro e W1 ⟨rfl, hk⟩
  have k1 := k.trans hk
  clear k hk
  go_wp2_with fail
  refine (HV.out _).mono ?_
  rintro e W2 ⟨rfl, hk⟩
  have k2 := k1.trans hk
  go_wp2_with fail
  go_ret
  exact ⟨rfl, k2⟩

theorem pair_F {l : List Int} (hl : l.length = 2) : ∃ a0 a1, Value.agg (l.map (Value.int .u64)).toArray = .agg #[.int .u64 a0, .int .u64 a1] := by
  match l, hl with
  | [x, y], _ => exact ⟨x, y, rfl⟩
theorem fieldNone_walk (u : Int) (wu : (Lit.int .u8 u).wf = true) (l1 : List Int) (ll1 : l1.length = 2) (wl1 : ∀ z ∈ l1, (Lit.int .u64 z).wf = true) (l2 : List Int) (ll2 : l2.length = 2) (wl2 : ∀ z ∈ l2, (Lit.int .u64 z).wf = true) (a : Option Addr) (n cap : Nat) (x : Nat → Int) (c : Option Addr) (m capc : Nat) (C : Nat → Int)
    (w' : World) (hs : (n : Int) ≤ 9223372036854775807 ∧ (∀ j, j < n → is128 (x j)) ∧ SlX w' a n cap w'.heap.size x)
    (ht : (m : Int) ≤ 9223372036854775807 ∧ m ≤ capc ∧ (capc : Int) ≤ 9223372036854775807 ∧ (∀ j, j < m → 0 ≤ C j ∧ C j ≤ 255) ∧ ∃ (g o : Nat), (m = 0 ∨ c = some ⟨g, o, none⟩) ∧ (∀ j, j < m → w'.cell? ⟨g, o + j, none⟩ = some (.int .u8 (C j))) ∧ (m = 0 ∨ g < w'.heap.size)) :
    Calls Try.prog 25 #[.int .u8 u, .agg (l1.map (Value.int .u64)).toArray, .agg (l2.map (Value.int .u64)).toArray, .slice a n cap, .slice c m capc] w' fun e w'' => e = .returned (.bool true) ∧ Kept w' w'' := by
  obtain ⟨a0, a1, e1⟩ := pair_F ll1
  obtain ⟨b0, b1, e2⟩ := pair_F ll2
  rw [e1, e2]
  by_cases hn : 50 < n
  · exact field_none_longA u a0 a1 b0 b1 a n cap c m capc (by omega) w'
  by_cases hm : 50 < m
  · exact field_none_longB u a0 a1 b0 b1 a n cap c m capc (by omega) (by omega) w'
  by_cases h1 : u = 1
  · exact field_none_one u a0 a1 b0 b1 a n cap c m capc (by omega) (by omega) (f_Valid (.inl h1)) (by simp [h1]) w'
  by_cases h2 : u = 2
  · exact field_none_two u a0 a1 b0 b1 a n cap c m capc (by omega) (by omega) (f_Valid (.inr h2)) (by simp [h1]) (by simp [h2]) w'
  exact field_none_r u (by simp [h1]) (by simp [h2]) a0 a1 b0 b1 a n cap _ _ _ (by omega) c m capc (by omega) w' hs.2.2
end Go.Proofs.Ytnajihlhcdedgaa
