/-
  FieldLists: the walks.
-/
import Derived.Test.YtnajihlhcdedgaaFRoots
import Derived.Test.YtnajihlhcdedgaaG6
import Derived.Test.YtnajihlhcdedgaaMark5
namespace Go.Proofs.Ytnajihlhcdedgaa
open Go.RowKit
set_option linter.unusedVariables false
set_option linter.unusedSimpArgs false
attribute [local simp] blkAt_setCell blkAt_alloc blkAt_drew Obj.put_cells

theorem add_block (p : Addr) (n : Nat) : (p.add n).block = p.block := by
  unfold Addr.add
  split <;> rfl
theorem cell_far {w : World} {p : Addr} {v : Value} (h : w.cell? p = some v) {b : Nat} (hb : p.block ≠ b) (i : Nat) (u : Value) : (w.setCell ⟨b, i, none⟩ u).cell? p = some v := by
  have hlt := block_lt_of_cell h
  unfold World.cell? at h ⊢
  rw [(Touch.set b w i u).block p.block hlt hb]
  exact h
theorem SlE.setCell {w : World} {a : Option Addr} {n cap N : Nat} {C0 C1 : Nat → Int} (h : SlE w a n cap N C0 C1) {b i : Nat} (hb : N ≤ b) (v : Value) : SlE (w.setCell ⟨b, i, none⟩ v) a n cap N C0 C1 :=
  ⟨fun j hj => let ⟨p, h1, h2, h3, h4⟩ := h.at' j hj; ⟨p, h1, cell_far h2 (by omega) i v, cell_far h3 (by rw [add_block]; omega) i v, h4⟩⟩
theorem SlE.alloc {w : World} {a : Option Addr} {n cap N : Nat} {C0 C1 : Nat → Int} (h : SlE w a n cap N C0 C1) (o : Obj) : SlE (w.alloc o) a n cap N C0 C1 := h.kept ((Kept.refl w).alloc o)

set_option maxRecDepth 100000 in
set_option maxHeartbeats 8000000 in
theorem field_lists_ne (u f many : Int) (hF : Pure Try.prog 77 #[.int .u8 u] (.int .u8 f)) (wf : IntKind.i64.wrap f = f) (a : Option Addr) (n cap : Nat) (b : Option Addr) (m capb N K : Nat) (A0 A1 S0 S1 Z0 Z1 : Nat → Int) (x0 x1 : Int) (yn : (n : Int) ≤ 20) (ym : (m : Int) ≤ 20) (yk : many ≤ 40) (yK : (K : Int) ≤ 40) (w : World)
    (hA : SlE w a n cap N A0 A1) (HS0 : Hid (S0 0 = 0 ∧ S1 0 = 0)) (HZ0 : Hid (Z0 0 = 1 ∧ Z1 0 = 0)) (hmax : ∀ w, (Builtin.max_ #[3, 3] 3 #[.int .i64 many, .int .i64 0]).run Try.prog w = .ok (.int .i64 (K : Int)) w)
    (HrU : Hid (∀ j, j < n → Pure Try.prog 35 #[.int .i64 f, .agg #[.int .u64 (S0 j), .int .u64 (S1 j)], .agg #[.int .u64 (A0 j), .int .u64 (A1 j)]] (.agg #[.int .u64 (S0 (j + 1)), .int .u64 (S1 (j + 1))]))) (HrW : Hid (∀ j, Pure Try.prog 38 #[.int .i64 f, .agg #[.int .u64 (Z0 j), .int .u64 (Z1 j)], .agg #[.int .u64 x0, .int .u64 x1]] (.agg #[.int .u64 (Z0 (j + 1)), .int .u64 (Z1 (j + 1))])))
    (HCU : Hid (∀ w', Kept w w' → Calls Try.prog 82 #[.int .u8 f, .slice a n cap] w' fun e w'' => e = .returned (.agg #[.int .u64 (S0 n), .int .u64 (S1 n)]) ∧ Kept w' w''))
    (HCP : Hid (∀ w', Kept w w' → Calls Try.prog 81 #[.int .u8 f, .agg #[.int .u64 x0, .int .u64 x1], .int .i64 many] w' fun e w'' => ∃ ad c, e = .returned (.slice ad K c) ∧ Kept w' w'' ∧ SlE w'' ad K c w''.heap.size Z0 Z1))
    (hneb : ((n : Int) != (m : Int)) = true) (HCA : Hid (Pure Try.prog 78 #[.int .u8 f, .slice a n cap, .slice b m capb] (.tuple #[.slice none 0 0, .int .i64 9]))) (HCS : Hid (Pure Try.prog 79 #[.int .u8 f, .slice a n cap, .slice b m capb] (.tuple #[.slice none 0 0, .int .i64 9]))) (HCD : Hid (Pure Try.prog 80 #[.int .u8 f, .slice a n cap, .slice b m capb] (.tuple #[.agg #[.int .u64 0, .int .u64 0], .int .i64 9]))) :
    Calls Try.prog 17 #[.int .u8 u, .slice a n cap, .slice b m capb, .agg #[.int .u64 x0, .int .u64 x1], .int .i64 many] w fun e w' => e = .returned (.bool true) ∧ Kept w w' := by
  have HA := Lib.hid f_Awake
  have HF := Lib.hid hF
  clear hF
  have hneq := neq28_self
  have heq := eql28_selfF
  obtain ⟨g8, hg8⟩ : ∃ g, w.heap.size = g := ⟨_, rfl⟩
  have nw_g8 : w.heap.size ≤ g8 := by omega
  go_enter Try.func17, Try.ntmps17
  go_wp2_with fail
  try simp only [hg8]
  refine abs_calls (fun W => Kept w W ∧ Blk W g8 28 #[.int .u64 x0, .int .u64 x1]) ⟨(Kept.refl w).alloc _, by rw [← hg8]; exact Blk.new _ _ _⟩ ?_
  clear hg8
  rintro V0 ⟨kk, b_g8⟩
  refine (HA.out _).mono ?_
  rintro e V1 ⟨rfl, hk⟩
  have kk' := kk.trans hk
  have d_g8 := b_g8.kept hk
  clear kk b_g8
  have kk := kk'
  clear kk'
  have b_g8 := d_g8
  clear d_g8
  clear hk
  go_wp2_with fail
  refine (HF.out _).mono ?_
  rintro e V2 ⟨rfl, hk⟩
  have kk' := kk.trans hk
  have d_g8 := b_g8.kept hk
  clear kk b_g8
  have kk := kk'
  clear kk'
  have b_g8 := d_g8
  clear d_g8
  clear hk
  go_wp2_with fail
  refine (HF.out _).mono ?_
  rintro e V3 ⟨rfl, hk⟩
  have kk' := kk.trans hk
  have d_g8 := b_g8.kept hk
  clear kk b_g8
  have kk := kk'
  clear kk'
  have b_g8 := d_g8
  clear d_g8
  clear hk
  go_wp2_with fail
  refine (HCA.out _).mono ?_
  rintro e V4 ⟨rfl, hk⟩
  have kk' := kk.trans hk
  have d_g8 := b_g8.kept hk
  clear kk b_g8
  have kk := kk'
  clear kk'
  have b_g8 := d_g8
  clear d_g8
  clear hk
  go_wp2_with fail
  refine (HCS.out _).mono ?_
  rintro e V5 ⟨rfl, hk⟩
  have kk' := kk.trans hk
  have d_g8 := b_g8.kept hk
  clear kk b_g8
  have kk := kk'
  clear kk'
  have b_g8 := d_g8
  clear d_g8
  clear hk
  go_wp2_with fail
  refine (HCD.out _).mono ?_
  rintro e V6 ⟨rfl, hk⟩
  have kk' := kk.trans hk
  have d_g8 := b_g8.kept hk
  clear kk b_g8
  have kk := kk'
  clear kk'
  have b_g8 := d_g8
  clear d_g8
  clear hk
  obtain ⟨g17, hg⟩ : ∃ g, V6.heap.size = g := ⟨_, rfl⟩
  have lt_g8_g17 : g8 < g17 := hg ▸ b_g8.lt
  have nw_g17 : w.heap.size ≤ g17 := hg ▸ kk.size
  go_upto_region 9 with (fail)
  try simp only [hg]
  refine abs_world (fun W => Kept w W ∧ Blk W g8 28 #[.int .u64 x0, .int .u64 x1] ∧ Blk W g17 28 #[.int .u64 0, .int .u64 0]) ⟨?_, ?_, ?_⟩ ?_
  · repeat (first | exact kk | (refine Kept.setCell ?_ (kept_side (by first | assumption | omega)) _) | apply Kept.alloc | apply Kept.drew)
  · repeat (first | exact b_g8 | (refine Blk.set_other ?_ (by omega) _) | apply Blk.alloc)
  · simp [Blk, *]
  clear kk hg b_g8
  rintro V7 ⟨kk, b_g8, b_g17⟩
  go_upto_region 22 with (fail)
  clear b_g17
  obtain ⟨g21, hg⟩ : ∃ g, V7.heap.size = g := ⟨_, rfl⟩
  have lt_g8_g21 : g8 < g21 := hg ▸ b_g8.lt
  have nw_g21 : w.heap.size ≤ g21 := hg ▸ kk.size
  go_upto_region 23 with (fail)
  try simp only [hg]
  refine abs_world (fun W => Kept w W ∧ Blk W g8 28 #[.int .u64 x0, .int .u64 x1] ∧ Blk W g21 28 #[.int .u64 0, .int .u64 0]) ⟨?_, ?_, ?_⟩ ?_
  · repeat (first | exact kk | (refine Kept.setCell ?_ (kept_side (by first | assumption | omega)) _) | apply Kept.alloc | apply Kept.drew)
  · repeat (first | exact b_g8 | (refine Blk.set_other ?_ (by omega) _) | apply Blk.alloc)
  · simp [Blk, *]
  clear kk hg b_g8
  rintro V8 ⟨kk, b_g8, b_g21⟩
  go_wp2_with fail
  go_loopw [151] (fun t wr => ∃ i : Nat, i ≤ n ∧ t = .int .i64 i ∧ Kept w wr ∧ Blk wr g8 28 #[.int .u64 x0, .int .u64 x1] ∧ Blk wr g21 28 #[.int .u64 (S0 i), .int .u64 (S1 i)]) (fun t _ => n - (intOf t).toNat)
  case atStart => exact ⟨0, Nat.zero_le _, rfl, kk, b_g8, by rw [HS0.out.1, HS0.out.2]; exact b_g21⟩
  case round =>
    clear kk b_g8 b_g21
    obtain ⟨i, hi, rfl, kk, b_g8, b_g21⟩ := hrel
    have zi : (0 : Int) ≤ (i : Int) := by omega
    rcases Nat.lt_or_ge i n with hlt | hge
    · have yi : (i : Int) < (n : Int) := by omega
      obtain ⟨p, hip, cp0, cp1, _⟩ := (hA.kept kk).at' i hlt
      have HUi := Lib.hid (HrU.out i hlt)
      obtain ⟨s2, hs2⟩ : ∃ x, S0 (i + 1) = x := ⟨_, rfl⟩
      obtain ⟨s3, hs3⟩ : ∃ x, S1 (i + 1) = x := ⟨_, rfl⟩
      rw [hs2, hs3] at HUi
      have HS2 := Lib.hid hs2
      have HS3 := Lib.hid hs3
      clear hs2 hs3
      generalize S0 i = s0 at HUi b_g21
      generalize S1 i = s1 at HUi b_g21
      generalize A0 i = c0 at cp0 HUi
      generalize A1 i = c1 at cp1 HUi
      obtain ⟨g23, hg⟩ : ∃ g, wr.heap.size = g := ⟨_, rfl⟩
      have lt_g8_g23 : g8 < g23 := hg ▸ b_g8.lt
      have lt_g21_g23 : g21 < g23 := hg ▸ b_g21.lt
      have nw_g23 : w.heap.size ≤ g23 := hg ▸ kk.size
      go_upto_region 26 with (refine wpList_load_elem (.tmp 153) cp0 cp1 rfl rfl rfl ?_)
      try simp only [hg]
      refine abs_world (fun W => Kept w W ∧ Blk W g8 28 #[.int .u64 x0, .int .u64 x1] ∧ Blk W g21 28 #[.int .u64 s0, .int .u64 s1] ∧ Blk W g23 28 #[.int .u64 c0, .int .u64 c1]) ⟨?_, ?_, ?_, ?_⟩ ?_
      · repeat (first | exact kk | (refine Kept.setCell ?_ (kept_side (by first | assumption | omega)) _) | apply Kept.alloc | apply Kept.drew)
      · repeat (first | exact b_g8 | (refine Blk.set_other ?_ (by omega) _) | apply Blk.alloc)
      · repeat (first | exact b_g21 | (refine Blk.set_other ?_ (by omega) _) | apply Blk.alloc)
      · simp [Blk, *]
      clear kk hg b_g8 b_g21
      rintro V9 ⟨kk, b_g8, b_g21, b_g23⟩
      clear cp0 cp1
      have c0_g21 := b_g21.cell 0 rfl
      have c1_g21 := b_g21.cell 1 rfl
      have fr_g21 := b_g21.free
      have c0_g23 := b_g23.cell 0 rfl
      have c1_g23 := b_g23.cell 1 rfl
      have fr_g23 := b_g23.free
      go_wp2_with fail
      refine (HUi.out _).mono ?_
      rintro e V10 ⟨rfl, hk⟩
      clear c0_g21 c1_g21 fr_g21 c0_g23 c1_g23 fr_g23
      have kk' := kk.trans hk
      have d_g8 := b_g8.kept hk
      have d_g21 := b_g21.kept hk
      have d_g23 := b_g23.kept hk
      clear kk b_g8 b_g21 b_g23
      have kk := kk'
      clear kk'
      have b_g8 := d_g8
      clear d_g8
      have b_g21 := d_g21
      clear d_g21
      have b_g23 := d_g23
      clear d_g23
      clear hk
      have c0_g21 := b_g21.cell 0 rfl
      have c1_g21 := b_g21.cell 1 rfl
      have fr_g21 := b_g21.free
      go_wp2_with fail
      go_roundw
      case rel =>
        refine ⟨i + 1, by omega, by go_num, ?_, ?_, ?_⟩
        · repeat (first | exact kk | (refine Kept.setCell ?_ (kept_side (by first | assumption | omega)) _) | apply Kept.alloc | apply Kept.drew)
        · repeat (first | exact b_g8 | (refine Blk.set_other ?_ (by omega) _) | apply Blk.alloc)
        · rw [HS2.out, HS3.out]; simp [Blk, *]
      case measure => simp [intOf]; omega
    · have yi : (n : Int) ≤ (i : Int) := by omega
      obtain rfl : n = i := by omega
      obtain ⟨u0, hu0⟩ : ∃ x, S0 n = x := ⟨_, rfl⟩
      obtain ⟨u1, hu1⟩ : ∃ x, S1 n = x := ⟨_, rfl⟩
      rw [hu0, hu1] at b_g21
      have HU0 := Lib.hid hu0
      have HU1 := Lib.hid hu1
      clear hu0 hu1
      have c0_g8 := b_g8.cell 0 rfl
      have c1_g8 := b_g8.cell 1 rfl
      have fr_g8 := b_g8.free
      go_wp2_with fail
      refine (HCP.out _ kk).mono ?_
      rintro e V11 ⟨ad, cp, rfl, hk, SL⟩
      clear c0_g8 c1_g8 fr_g8
      have kk' := kk.trans hk
      have d_g8 := b_g8.kept hk
      have d_g21 := b_g21.kept hk
      clear kk b_g8 b_g21
      have kk := kk'
      clear kk'
      have b_g8 := d_g8
      clear d_g8
      have b_g21 := d_g21
      clear d_g21
      clear hk
      obtain ⟨N_l, s_l, n_l⟩ : ∃ N, SlE V11 ad K cp N Z0 Z1 ∧ N ≤ V11.heap.size := ⟨_, SL, Nat.le_refl _⟩
      clear SL
      obtain ⟨g25, hg⟩ : ∃ g, V11.heap.size = g := ⟨_, rfl⟩
      have lt_g8_g25 : g8 < g25 := hg ▸ b_g8.lt
      have lt_g21_g25 : g21 < g25 := hg ▸ b_g21.lt
      have nl_l_g25 : N_l ≤ g25 := hg ▸ n_l
      have nw_g25 : w.heap.size ≤ g25 := hg ▸ kk.size
      go_upto_region 30 with (fail)
      try simp only [hg]
      refine abs_world (fun W => Kept w W ∧ Blk W g8 28 #[.int .u64 x0, .int .u64 x1] ∧ Blk W g21 28 #[.int .u64 u0, .int .u64 u1] ∧ Blk W g25 28 #[.int .u64 1, .int .u64 0] ∧ SlE W ad K cp N_l Z0 Z1 ∧ N_l ≤ W.heap.size) ⟨?_, ?_, ?_, ?_, ?_, ?_⟩ ?_
      · repeat (first | exact kk | (refine Kept.setCell ?_ (kept_side (by first | assumption | omega)) _) | apply Kept.alloc | apply Kept.drew)
      · repeat (first | exact b_g8 | (refine Blk.set_other ?_ (by omega) _) | apply Blk.alloc)
      · repeat (first | exact b_g21 | (refine Blk.set_other ?_ (by omega) _) | apply Blk.alloc)
      · simp [Blk, *]
      · repeat (first | exact s_l | (refine SlE.setCell ?_ (by omega) _) | apply SlE.alloc)
      · (first | omega | (simp [World.setCell]; omega))
      clear kk hg b_g8 b_g21 s_l n_l
      rintro V12 ⟨kk, b_g8, b_g21, b_g25, s_l, n_l⟩
      go_wp2_with fail
      go_loopw [167] (fun t wr => ∃ i : Nat, i ≤ K ∧ t = .int .i64 i ∧ Kept w wr ∧ Blk wr g8 28 #[.int .u64 x0, .int .u64 x1] ∧ Blk wr g21 28 #[.int .u64 u0, .int .u64 u1] ∧ Blk wr g25 28 #[.int .u64 (Z0 i), .int .u64 (Z1 i)] ∧ SlE wr ad K cp N_l Z0 Z1 ∧ N_l ≤ wr.heap.size) (fun t _ => K - (intOf t).toNat)
      case atStart => exact ⟨0, Nat.zero_le _, rfl, kk, b_g8, b_g21, by rw [HZ0.out.1, HZ0.out.2]; exact b_g25, s_l, n_l⟩
      case round =>
        clear kk b_g8 b_g21 b_g25 s_l n_l
        rename_i wr
        obtain ⟨i, hi, rfl, kk, b_g8, b_g21, b_g25, s_l, n_l⟩ := hrel
        have zi : (0 : Int) ≤ (i : Int) := by omega
        rcases Nat.lt_or_ge i K with hlt | hge
        · have yi : (i : Int) < (K : Int) := by omega
          obtain ⟨p, hip, cp0, cp1, _⟩ := s_l.at' i hlt
          have HWi := Lib.hid (HrW.out i)
          obtain ⟨s2, hs2⟩ : ∃ x, Z0 (i + 1) = x := ⟨_, rfl⟩
          obtain ⟨s3, hs3⟩ : ∃ x, Z1 (i + 1) = x := ⟨_, rfl⟩
          rw [hs2, hs3] at HWi
          have HS2 := Lib.hid hs2
          have HS3 := Lib.hid hs3
          clear hs2 hs3
          obtain ⟨s0, hs0⟩ : ∃ x, Z0 i = x := ⟨_, rfl⟩
          obtain ⟨s1, hs1⟩ : ∃ x, Z1 i = x := ⟨_, rfl⟩
          rw [hs0, hs1] at HWi b_g25
          rw [hs0] at cp0
          rw [hs1] at cp1
          clear hs0 hs1
          obtain ⟨g27, hg⟩ : ∃ g, wr.heap.size = g := ⟨_, rfl⟩
          have lt_g8_g27 : g8 < g27 := hg ▸ b_g8.lt
          have lt_g21_g27 : g21 < g27 := hg ▸ b_g21.lt
          have lt_g25_g27 : g25 < g27 := hg ▸ b_g25.lt
          have nl_l_g27 : N_l ≤ g27 := hg ▸ n_l
          have nw_g27 : w.heap.size ≤ g27 := hg ▸ kk.size
          go_upto_region 33 with (refine wpList_load_elem (.tmp 169) cp0 cp1 rfl rfl rfl ?_)
          try simp only [hg]
          refine abs_world (fun W => Kept w W ∧ Blk W g8 28 #[.int .u64 x0, .int .u64 x1] ∧ Blk W g21 28 #[.int .u64 u0, .int .u64 u1] ∧ Blk W g25 28 #[.int .u64 s0, .int .u64 s1] ∧ Blk W g27 28 #[.int .u64 s0, .int .u64 s1] ∧ SlE W ad K cp N_l Z0 Z1 ∧ N_l ≤ W.heap.size) ⟨?_, ?_, ?_, ?_, ?_, ?_, ?_⟩ ?_
          · repeat (first | exact kk | (refine Kept.setCell ?_ (kept_side (by first | assumption | omega)) _) | apply Kept.alloc | apply Kept.drew)
          · repeat (first | exact b_g8 | (refine Blk.set_other ?_ (by omega) _) | apply Blk.alloc)
          · repeat (first | exact b_g21 | (refine Blk.set_other ?_ (by omega) _) | apply Blk.alloc)
          · repeat (first | exact b_g25 | (refine Blk.set_other ?_ (by omega) _) | apply Blk.alloc)
          · simp [Blk, *]
          · repeat (first | exact s_l | (refine SlE.setCell ?_ (by omega) _) | apply SlE.alloc)
          · (first | omega | (simp [World.setCell]; omega))
          clear kk hg b_g8 b_g21 b_g25 s_l n_l
          rintro V13 ⟨kk, b_g8, b_g21, b_g25, b_g27, s_l, n_l⟩
          clear cp0 cp1
          have c0_g8 := b_g8.cell 0 rfl
          have c1_g8 := b_g8.cell 1 rfl
          have fr_g8 := b_g8.free
          have c0_g25 := b_g25.cell 0 rfl
          have c1_g25 := b_g25.cell 1 rfl
          have fr_g25 := b_g25.free
          have c0_g27 := b_g27.cell 0 rfl
          have c1_g27 := b_g27.cell 1 rfl
          have fr_g27 := b_g27.free
          go_wp2_with fail
          refine (HWi.out _).mono ?_
          rintro e V14 ⟨rfl, hk⟩
          clear c0_g8 c1_g8 fr_g8 c0_g25 c1_g25 fr_g25 c0_g27 c1_g27 fr_g27
          have kk' := kk.trans hk
          have d_g8 := b_g8.kept hk
          have d_g21 := b_g21.kept hk
          have d_g25 := b_g25.kept hk
          have d_g27 := b_g27.kept hk
          have d_l := s_l.kept hk
          have e_l := Nat.le_trans n_l hk.size
          clear kk b_g8 b_g21 b_g25 b_g27 s_l n_l
          have kk := kk'
          clear kk'
          have b_g8 := d_g8
          clear d_g8
          have b_g21 := d_g21
          clear d_g21
          have b_g25 := d_g25
          clear d_g25
          have b_g27 := d_g27
          clear d_g27
          have s_l := d_l
          clear d_l
          have n_l := e_l
          clear e_l
          clear hk
          have c0_g25 := b_g25.cell 0 rfl
          have c1_g25 := b_g25.cell 1 rfl
          have fr_g25 := b_g25.free
          go_wp2_with fail
          go_roundw
          case rel =>
            refine ⟨i + 1, by omega, by go_num, ?_, ?_, ?_, ?_, ?_, ?_⟩
            · repeat (first | exact kk | (refine Kept.setCell ?_ (kept_side (by first | assumption | omega)) _) | apply Kept.alloc | apply Kept.drew)
            · repeat (first | exact b_g8 | (refine Blk.set_other ?_ (by omega) _) | apply Blk.alloc)
            · repeat (first | exact b_g21 | (refine Blk.set_other ?_ (by omega) _) | apply Blk.alloc)
            · rw [HS2.out, HS3.out]; simp [Blk, *]
            · repeat (first | exact s_l | (refine SlE.setCell ?_ (by omega) _) | apply SlE.alloc)
            · (first | omega | (simp [World.setCell]; omega))
          case measure => simp [intOf]; omega
        · have yi : (K : Int) ≤ (i : Int) := by omega
          have HCV : Hid (∀ w', Kept wr w' → Calls Try.prog 82 #[.int .u8 f, .slice a n cap] w' fun e w'' => e = .returned (.agg #[.int .u64 u0, .int .u64 u1]) ∧ Kept w' w'') := Lib.hid fun w' hk => by have := HCU.out w' (kk.trans hk); rw [HU0.out, HU1.out] at this; exact this
          have c0_g21 := b_g21.cell 0 rfl
          have c1_g21 := b_g21.cell 1 rfl
          have fr_g21 := b_g21.free
          go_wp2_with fail
          try simp only [List.append_eq, List.cons_append, List.nil_append]
          refine wp_region_wl (fun _ => oneMean 5 #[]) 12 (by kernel_rfl) (by as_aux_lemma => kernel_rfl) _ rfl _ rfl _ _ rfl rfl (fun k0 Lq hLq => ?_)
          dsimp only [List.map_cons, List.map_nil, List.take_succ_cons, List.take_zero, List.drop_succ_cons, List.drop_zero] at hLq ⊢
          repeat (first
            | (refine WL.skip rfl rfl ?_; dsimp only [List.set_cons_zero, List.set_cons_succ])
            | (refine WL.ex rfl rfl (by kernel_rfl) rfl ?_; apply Exists.intro; refine And.intro (fun w' hk => ?_) (And.intro ?_ ?_); (focus (have q0 := hk.cell c0_g21; have r0 := hk.cell c1_g21; clear hk; go_simp; exact rfl)); (focus (exact rfl)); dsimp only [List.set_cons_zero, List.set_cons_succ])
            | (refine WL.callAt rfl rfl (by kernel_rfl) rfl rfl HCV.out ?_ ?_; (focus (intro w'; go_simp; done)); dsimp only [List.set_cons_zero, List.set_cons_succ]))
          refine WL.nil (hLq _ ?_)
          clear hLq
          intro a'' V15 hk hra
          obtain rfl := hra.mark0 (by kernel_rfl)
          clear hra
          try simp only [List.drop_succ_cons, List.drop_zero, List.drop_nil]
          have k9 := kk.trans hk
          clear kk hk c0_g21 c1_g21 fr_g21 b_g8 b_g21 b_g25 s_l n_l
          go_wp2_with fail
          go_ret
          exact ⟨rfl, k9⟩
set_option maxRecDepth 100000 in
set_option maxHeartbeats 8000000 in
theorem field_lists_eq (u f many : Int) (hF : Pure Try.prog 77 #[.int .u8 u] (.int .u8 f)) (wf : IntKind.i64.wrap f = f) (a : Option Addr) (n cap : Nat) (b : Option Addr) (capb N K : Nat) (A0 A1 S0 S1 Z0 Z1 : Nat → Int) (x0 x1 : Int) (yn : (n : Int) ≤ 20) (yk : many ≤ 40) (yK : (K : Int) ≤ 40) (w : World)
    (hA : SlE w a n cap N A0 A1) (HS0 : Hid (S0 0 = 0 ∧ S1 0 = 0)) (HZ0 : Hid (Z0 0 = 1 ∧ Z1 0 = 0)) (hmax : ∀ w, (Builtin.max_ #[3, 3] 3 #[.int .i64 many, .int .i64 0]).run Try.prog w = .ok (.int .i64 (K : Int)) w)
    (HrU : Hid (∀ j, j < n → Pure Try.prog 35 #[.int .i64 f, .agg #[.int .u64 (S0 j), .int .u64 (S1 j)], .agg #[.int .u64 (A0 j), .int .u64 (A1 j)]] (.agg #[.int .u64 (S0 (j + 1)), .int .u64 (S1 (j + 1))]))) (HrW : Hid (∀ j, Pure Try.prog 38 #[.int .i64 f, .agg #[.int .u64 (Z0 j), .int .u64 (Z1 j)], .agg #[.int .u64 x0, .int .u64 x1]] (.agg #[.int .u64 (Z0 (j + 1)), .int .u64 (Z1 (j + 1))])))
    (HCU : Hid (∀ w', Kept w w' → Calls Try.prog 82 #[.int .u8 f, .slice a n cap] w' fun e w'' => e = .returned (.agg #[.int .u64 (S0 n), .int .u64 (S1 n)]) ∧ Kept w' w''))
    (HCP : Hid (∀ w', Kept w w' → Calls Try.prog 81 #[.int .u8 f, .agg #[.int .u64 x0, .int .u64 x1], .int .i64 many] w' fun e w'' => ∃ ad c, e = .returned (.slice ad K c) ∧ Kept w' w'' ∧ SlE w'' ad K c w''.heap.size Z0 Z1))
    (B0 B1 P0 P1 Q0 Q1 D0 D1 M0 M1 : Nat → Int) (hB : SlE w b n capb N B0 B1) (HD0 : Hid (D0 0 = 0 ∧ D1 0 = 0))
    (HrA : Hid (∀ j, j < n → Pure Try.prog 35 #[.int .i64 f, .agg #[.int .u64 (A0 j), .int .u64 (A1 j)], .agg #[.int .u64 (B0 j), .int .u64 (B1 j)]] (.agg #[.int .u64 (P0 j), .int .u64 (P1 j)]))) (HrS : Hid (∀ j, j < n → Pure Try.prog 36 #[.int .i64 f, .agg #[.int .u64 (A0 j), .int .u64 (A1 j)], .agg #[.int .u64 (B0 j), .int .u64 (B1 j)]] (.agg #[.int .u64 (Q0 j), .int .u64 (Q1 j)]))) (HrM : Hid (∀ j, j < n → Pure Try.prog 38 #[.int .i64 f, .agg #[.int .u64 (A0 j), .int .u64 (A1 j)], .agg #[.int .u64 (B0 j), .int .u64 (B1 j)]] (.agg #[.int .u64 (M0 j), .int .u64 (M1 j)]))) (HrD : Hid (∀ j, j < n → Pure Try.prog 35 #[.int .i64 f, .agg #[.int .u64 (D0 j), .int .u64 (D1 j)], .agg #[.int .u64 (M0 j), .int .u64 (M1 j)]] (.agg #[.int .u64 (D0 (j + 1)), .int .u64 (D1 (j + 1))])))
    (HCA : Hid (∀ w', Kept w w' → Calls Try.prog 78 #[.int .u8 f, .slice a n cap, .slice b n capb] w' fun e w'' => ∃ g, e = .returned (.tuple #[.slice (some ⟨g, 0, none⟩) n n, .int .i64 0]) ∧ Kept w' w'' ∧ SlE w'' (some ⟨g, 0, none⟩) n n w''.heap.size P0 P1))
    (HCS : Hid (∀ w', Kept w w' → Calls Try.prog 79 #[.int .u8 f, .slice a n cap, .slice b n capb] w' fun e w'' => ∃ g, e = .returned (.tuple #[.slice (some ⟨g, 0, none⟩) n n, .int .i64 0]) ∧ Kept w' w'' ∧ SlE w'' (some ⟨g, 0, none⟩) n n w''.heap.size Q0 Q1))
    (HCD : Hid (∀ w', Kept w w' → Calls Try.prog 80 #[.int .u8 f, .slice a n cap, .slice b n capb] w' fun e w'' => e = .returned (.tuple #[.agg #[.int .u64 (D0 n), .int .u64 (D1 n)], .int .i64 0]) ∧ Kept w' w'')) :
    Calls Try.prog 17 #[.int .u8 u, .slice a n cap, .slice b n capb, .agg #[.int .u64 x0, .int .u64 x1], .int .i64 many] w fun e w' => e = .returned (.bool true) ∧ Kept w w' := by
  have HA := Lib.hid f_Awake
  have HF := Lib.hid hF
  clear hF
  have hneq := neq28_self
  have heq := eql28_selfF
  obtain ⟨g8, hg8⟩ : ∃ g, w.heap.size = g := ⟨_, rfl⟩
  have nw_g8 : w.heap.size ≤ g8 := by omega
  go_enter Try.func17, Try.ntmps17
  go_wp2_with fail
  try simp only [hg8]
  refine abs_calls (fun W => Kept w W ∧ Blk W g8 28 #[.int .u64 x0, .int .u64 x1]) ⟨(Kept.refl w).alloc _, by rw [← hg8]; exact Blk.new _ _ _⟩ ?_
  clear hg8
  rintro V0 ⟨kk, b_g8⟩
  refine (HA.out _).mono ?_
  rintro e V1 ⟨rfl, hk⟩
  have kk' := kk.trans hk
  have d_g8 := b_g8.kept hk
  clear kk b_g8
  have kk := kk'
  clear kk'
  have b_g8 := d_g8
  clear d_g8
  clear hk
  go_wp2_with fail
  refine (HF.out _).mono ?_
  rintro e V2 ⟨rfl, hk⟩
  have kk' := kk.trans hk
  have d_g8 := b_g8.kept hk
  clear kk b_g8
  have kk := kk'
  clear kk'
  have b_g8 := d_g8
  clear d_g8
  clear hk
  go_wp2_with fail
  refine (HF.out _).mono ?_
  rintro e V3 ⟨rfl, hk⟩
  have kk' := kk.trans hk
  have d_g8 := b_g8.kept hk
  clear kk b_g8
  have kk := kk'
  clear kk'
  have b_g8 := d_g8
  clear d_g8
  clear hk
  go_wp2_with fail
  refine (HCA.out _ kk).mono ?_
  rintro e V4 ⟨gp, rfl, hk, SL⟩
  have kk' := kk.trans hk
  have d_g8 := b_g8.kept hk
  clear kk b_g8
  have kk := kk'
  clear kk'
  have b_g8 := d_g8
  clear d_g8
  clear hk
  obtain ⟨N_P, s_P, n_P⟩ : ∃ N, SlE V4 (some ⟨gp, 0, none⟩) n n N P0 P1 ∧ N ≤ V4.heap.size := ⟨_, SL, Nat.le_refl _⟩
  clear SL
  go_wp2_with fail
  refine (HCS.out _ kk).mono ?_
  rintro e V5 ⟨gq, rfl, hk, SL⟩
  have kk' := kk.trans hk
  have d_g8 := b_g8.kept hk
  have d_P := s_P.kept hk
  have e_P := Nat.le_trans n_P hk.size
  clear kk b_g8 s_P n_P
  have kk := kk'
  clear kk'
  have b_g8 := d_g8
  clear d_g8
  have s_P := d_P
  clear d_P
  have n_P := e_P
  clear e_P
  clear hk
  obtain ⟨N_Q, s_Q, n_Q⟩ : ∃ N, SlE V5 (some ⟨gq, 0, none⟩) n n N Q0 Q1 ∧ N ≤ V5.heap.size := ⟨_, SL, Nat.le_refl _⟩
  clear SL
  go_wp2_with fail
  refine (HCD.out _ kk).mono ?_
  rintro e V6 ⟨rfl, hk⟩
  have kk' := kk.trans hk
  have d_g8 := b_g8.kept hk
  have d_P := s_P.kept hk
  have e_P := Nat.le_trans n_P hk.size
  have d_Q := s_Q.kept hk
  have e_Q := Nat.le_trans n_Q hk.size
  clear kk b_g8 s_P n_P s_Q n_Q
  have kk := kk'
  clear kk'
  have b_g8 := d_g8
  clear d_g8
  have s_P := d_P
  clear d_P
  have n_P := e_P
  clear e_P
  have s_Q := d_Q
  clear d_Q
  have n_Q := e_Q
  clear e_Q
  clear hk
  obtain ⟨v0, hv0⟩ : ∃ x, D0 n = x := ⟨_, rfl⟩
  obtain ⟨v1, hv1⟩ : ∃ x, D1 n = x := ⟨_, rfl⟩
  simp only [hv0, hv1]
  have HV0 := Lib.hid hv0
  have HV1 := Lib.hid hv1
  clear hv0 hv1
  obtain ⟨g17, hg⟩ : ∃ g, V6.heap.size = g := ⟨_, rfl⟩
  have lt_g8_g17 : g8 < g17 := hg ▸ b_g8.lt
  have nl_P_g17 : N_P ≤ g17 := hg ▸ n_P
  have nl_Q_g17 : N_Q ≤ g17 := hg ▸ n_Q
  have nw_g17 : w.heap.size ≤ g17 := hg ▸ kk.size
  go_upto_region 9 with (fail)
  try simp only [hg]
  refine abs_world (fun W => Kept w W ∧ Blk W g8 28 #[.int .u64 x0, .int .u64 x1] ∧ Blk W g17 28 #[.int .u64 v0, .int .u64 v1] ∧ SlE W (some ⟨gp, 0, none⟩) n n N_P P0 P1 ∧ N_P ≤ W.heap.size ∧ SlE W (some ⟨gq, 0, none⟩) n n N_Q Q0 Q1 ∧ N_Q ≤ W.heap.size) ⟨?_, ?_, ?_, ?_, ?_, ?_, ?_⟩ ?_
  · repeat (first | exact kk | (refine Kept.setCell ?_ (kept_side (by first | assumption | omega)) _) | apply Kept.alloc | apply Kept.drew)
  · repeat (first | exact b_g8 | (refine Blk.set_other ?_ (by omega) _) | apply Blk.alloc)
  · simp [Blk, *]
  · repeat (first | exact s_P | (refine SlE.setCell ?_ (by omega) _) | apply SlE.alloc)
  · (first | omega | (simp [World.setCell]; omega))
  · repeat (first | exact s_Q | (refine SlE.setCell ?_ (by omega) _) | apply SlE.alloc)
  · (first | omega | (simp [World.setCell]; omega))
  clear kk hg b_g8 s_P n_P s_Q n_Q
  rintro V7 ⟨kk, b_g8, b_g17, s_P, n_P, s_Q, n_Q⟩
  obtain ⟨g19, hg⟩ : ∃ g, V7.heap.size = g := ⟨_, rfl⟩
  have lt_g8_g19 : g8 < g19 := hg ▸ b_g8.lt
  have lt_g17_g19 : g17 < g19 := hg ▸ b_g17.lt
  have nl_P_g19 : N_P ≤ g19 := hg ▸ n_P
  have nl_Q_g19 : N_Q ≤ g19 := hg ▸ n_Q
  have nw_g19 : w.heap.size ≤ g19 := hg ▸ kk.size
  go_upto_region 13 with (fail)
  try simp only [hg]
  refine abs_world (fun W => Kept w W ∧ Blk W g8 28 #[.int .u64 x0, .int .u64 x1] ∧ Blk W g17 28 #[.int .u64 v0, .int .u64 v1] ∧ Blk W g19 28 #[.int .u64 0, .int .u64 0] ∧ SlE W (some ⟨gp, 0, none⟩) n n N_P P0 P1 ∧ N_P ≤ W.heap.size ∧ SlE W (some ⟨gq, 0, none⟩) n n N_Q Q0 Q1 ∧ N_Q ≤ W.heap.size) ⟨?_, ?_, ?_, ?_, ?_, ?_, ?_, ?_⟩ ?_
  · repeat (first | exact kk | (refine Kept.setCell ?_ (kept_side (by first | assumption | omega)) _) | apply Kept.alloc | apply Kept.drew)
  · repeat (first | exact b_g8 | (refine Blk.set_other ?_ (by omega) _) | apply Blk.alloc)
  · repeat (first | exact b_g17 | (refine Blk.set_other ?_ (by omega) _) | apply Blk.alloc)
  · simp [Blk, *]
  · repeat (first | exact s_P | (refine SlE.setCell ?_ (by omega) _) | apply SlE.alloc)
  · (first | omega | (simp [World.setCell]; omega))
  · repeat (first | exact s_Q | (refine SlE.setCell ?_ (by omega) _) | apply SlE.alloc)
  · (first | omega | (simp [World.setCell]; omega))
  clear kk hg b_g8 b_g17 s_P n_P s_Q n_Q
  rintro V8 ⟨kk, b_g8, b_g17, b_g19, s_P, n_P, s_Q, n_Q⟩
  go_wp2_with fail
  go_loopw [85] (fun t wr => ∃ i : Nat, i ≤ n ∧ t = .int .i64 i ∧ Kept w wr ∧ Blk wr g8 28 #[.int .u64 x0, .int .u64 x1] ∧ Blk wr g17 28 #[.int .u64 v0, .int .u64 v1] ∧ Blk wr g19 28 #[.int .u64 (D0 i), .int .u64 (D1 i)] ∧ SlE wr (some ⟨gp, 0, none⟩) n n N_P P0 P1 ∧ N_P ≤ wr.heap.size ∧ SlE wr (some ⟨gq, 0, none⟩) n n N_Q Q0 Q1 ∧ N_Q ≤ wr.heap.size) (fun t _ => n - (intOf t).toNat)
  case atStart => exact ⟨0, Nat.zero_le _, rfl, kk, b_g8, b_g17, by rw [HD0.out.1, HD0.out.2]; exact b_g19, s_P, n_P, s_Q, n_Q⟩
  case round =>
    clear kk b_g8 b_g17 b_g19 s_P n_P s_Q n_Q
    obtain ⟨i, hi, rfl, kk, b_g8, b_g17, b_g19, s_P, n_P, s_Q, n_Q⟩ := hrel
    have zi : (0 : Int) ≤ (i : Int) := by omega
    rcases Nat.lt_or_ge i n with hlt | hge
    · have yi : (i : Int) < (n : Int) := by omega
      obtain ⟨pa, hpa, ca0, ca1, _⟩ := (hA.kept kk).at' i hlt
      obtain ⟨pb, hpb, cb0, cb1, _⟩ := (hB.kept kk).at' i hlt
      obtain ⟨pp, hpp, cp0, cp1, _⟩ := s_P.at' i hlt
      obtain ⟨pq, hpq, cq0, cq1, _⟩ := s_Q.at' i hlt
      have HIA := Lib.hid (HrA.out i hlt)
      have HIS := Lib.hid (HrS.out i hlt)
      have HIM := Lib.hid (HrM.out i hlt)
      have HID := Lib.hid (HrD.out i hlt)
      obtain ⟨s2, hs2⟩ : ∃ x, D0 (i + 1) = x := ⟨_, rfl⟩
      obtain ⟨s3, hs3⟩ : ∃ x, D1 (i + 1) = x := ⟨_, rfl⟩
      rw [hs2, hs3] at HID
      have HS2 := Lib.hid hs2
      have HS3 := Lib.hid hs3
      clear hs2 hs3
      obtain ⟨a0, ha0⟩ : ∃ x, A0 i = x := ⟨_, rfl⟩
      obtain ⟨a1, ha1⟩ : ∃ x, A1 i = x := ⟨_, rfl⟩
      obtain ⟨b0, hb0⟩ : ∃ x, B0 i = x := ⟨_, rfl⟩
      obtain ⟨b1, hb1⟩ : ∃ x, B1 i = x := ⟨_, rfl⟩
      obtain ⟨p0, hp0⟩ : ∃ x, P0 i = x := ⟨_, rfl⟩
      obtain ⟨p1, hp1⟩ : ∃ x, P1 i = x := ⟨_, rfl⟩
      obtain ⟨q0, hq0⟩ : ∃ x, Q0 i = x := ⟨_, rfl⟩
      obtain ⟨q1, hq1⟩ : ∃ x, Q1 i = x := ⟨_, rfl⟩
      obtain ⟨m0, hm0⟩ : ∃ x, M0 i = x := ⟨_, rfl⟩
      obtain ⟨m1, hm1⟩ : ∃ x, M1 i = x := ⟨_, rfl⟩
      obtain ⟨s0, hs0⟩ : ∃ x, D0 i = x := ⟨_, rfl⟩
      obtain ⟨s1, hs1⟩ : ∃ x, D1 i = x := ⟨_, rfl⟩
      simp only [ha0, ha1, hb0, hb1, hp0, hp1, hq0, hq1, hm0, hm1, hs0, hs1] at HIA
      simp only [ha0, ha1, hb0, hb1, hp0, hp1, hq0, hq1, hm0, hm1, hs0, hs1] at HIS
      simp only [ha0, ha1, hb0, hb1, hp0, hp1, hq0, hq1, hm0, hm1, hs0, hs1] at HIM
      simp only [ha0, ha1, hb0, hb1, hp0, hp1, hq0, hq1, hm0, hm1, hs0, hs1] at HID
      simp only [ha0, ha1, hb0, hb1, hp0, hp1, hq0, hq1, hm0, hm1, hs0, hs1] at ca0
      simp only [ha0, ha1, hb0, hb1, hp0, hp1, hq0, hq1, hm0, hm1, hs0, hs1] at ca1
      simp only [ha0, ha1, hb0, hb1, hp0, hp1, hq0, hq1, hm0, hm1, hs0, hs1] at cb0
      simp only [ha0, ha1, hb0, hb1, hp0, hp1, hq0, hq1, hm0, hm1, hs0, hs1] at cb1
      simp only [ha0, ha1, hb0, hb1, hp0, hp1, hq0, hq1, hm0, hm1, hs0, hs1] at cp0
      simp only [ha0, ha1, hb0, hb1, hp0, hp1, hq0, hq1, hm0, hm1, hs0, hs1] at cp1
      simp only [ha0, ha1, hb0, hb1, hp0, hp1, hq0, hq1, hm0, hm1, hs0, hs1] at cq0
      simp only [ha0, ha1, hb0, hb1, hp0, hp1, hq0, hq1, hm0, hm1, hs0, hs1] at cq1
      simp only [ha0, ha1, hb0, hb1, hp0, hp1, hq0, hq1, hm0, hm1, hs0, hs1] at b_g19
      clear ha0 ha1 hb0 hb1 hp0 hp1 hq0 hq1 hm0 hm1 hs0 hs1
      go_upto_region 16 with (fail)
      try simp only [List.append_eq, List.cons_append, List.nil_append]
      refine wp_region_wl (fun _ => oneMean 5 #[]) 32 (by kernel_rfl) (by as_aux_lemma => kernel_rfl) _ rfl _ rfl _ _ rfl rfl (fun k0 Lq hLq => ?_)
      dsimp only [List.map_cons, List.map_nil, List.take_succ_cons, List.take_zero, List.drop_succ_cons, List.drop_zero] at hLq ⊢
      repeat (first
        | (refine WL.law _ rfl rfl (by kernel_rfl) rfl rfl (calm_load_elem (.tmp 90) cp0 cp1 rfl rfl) ?_; dsimp only [List.set_cons_zero, List.set_cons_succ])
        | (refine WL.law _ rfl rfl (by kernel_rfl) rfl rfl (calm_load_elem (.tmp 95) ca0 ca1 rfl rfl) ?_; dsimp only [List.set_cons_zero, List.set_cons_succ])
        | (refine WL.law _ rfl rfl (by kernel_rfl) rfl rfl (calm_load_elem (.tmp 99) cb0 cb1 rfl rfl) ?_; dsimp only [List.set_cons_zero, List.set_cons_succ])
        | (refine WL.law _ rfl rfl (by kernel_rfl) rfl rfl (calm_load_elem (.tmp 106) cq0 cq1 rfl rfl) ?_; dsimp only [List.set_cons_zero, List.set_cons_succ])
        | (refine WL.law _ rfl rfl (by kernel_rfl) rfl rfl (calm_load_elem (.tmp 111) ca0 ca1 rfl rfl) ?_; dsimp only [List.set_cons_zero, List.set_cons_succ])
        | (refine WL.law _ rfl rfl (by kernel_rfl) rfl rfl (calm_load_elem (.tmp 115) cb0 cb1 rfl rfl) ?_; dsimp only [List.set_cons_zero, List.set_cons_succ])
        | (refine WL.skip rfl rfl ?_; dsimp only [List.set_cons_zero, List.set_cons_succ])
        | (refine WL.ex rfl rfl (by kernel_rfl) rfl ?_; apply Exists.intro; refine And.intro (fun w' hk => ?_) (And.intro ?_ ?_); (focus (clear hk; go_simp; exact rfl)); (focus (exact rfl)); dsimp only [List.set_cons_zero, List.set_cons_succ])
        | (refine WL.call rfl rfl (by kernel_rfl) rfl rfl HIA.out ?_ ?_; (focus (intro w'; go_simp; done)); dsimp only [List.set_cons_zero, List.set_cons_succ])
        | (refine WL.call rfl rfl (by kernel_rfl) rfl rfl HIS.out ?_ ?_; (focus (intro w'; go_simp; done)); dsimp only [List.set_cons_zero, List.set_cons_succ]))
      refine WL.nil (hLq _ ?_)
      clear hLq
      intro a'' V9 hk hra
      obtain rfl := hra.mark0 (by kernel_rfl)
      clear hra
      try simp only [List.drop_succ_cons, List.drop_zero, List.drop_nil]
      have dca0 := hk.cell ca0
      have dca1 := hk.cell ca1
      have dcb0 := hk.cell cb0
      have dcb1 := hk.cell cb1
      clear ca0 ca1 cb0 cb1 cp0 cp1 cq0 cq1
      have kk' := kk.trans hk
      have d_g8 := b_g8.kept hk
      have d_g17 := b_g17.kept hk
      have d_g19 := b_g19.kept hk
      have d_P := s_P.kept hk
      have e_P := Nat.le_trans n_P hk.size
      have d_Q := s_Q.kept hk
      have e_Q := Nat.le_trans n_Q hk.size
      clear kk b_g8 b_g17 b_g19 s_P n_P s_Q n_Q
      have kk := kk'
      clear kk'
      have b_g8 := d_g8
      clear d_g8
      have b_g17 := d_g17
      clear d_g17
      have b_g19 := d_g19
      clear d_g19
      have s_P := d_P
      clear d_P
      have n_P := e_P
      clear e_P
      have s_Q := d_Q
      clear d_Q
      have n_Q := e_Q
      clear e_Q
      clear hk
      have c0_g19 := b_g19.cell 0 rfl
      have c1_g19 := b_g19.cell 1 rfl
      have fr_g19 := b_g19.free
      go_upto_region 18 with (fail)
      try simp only [List.append_eq, List.cons_append, List.nil_append]
      refine wp_region_wl (fun _ => oneMean 5 #[]) 13 (by kernel_rfl) (by as_aux_lemma => kernel_rfl) _ rfl _ rfl _ _ rfl rfl (fun k0 Lq hLq => ?_)
      dsimp only [List.map_cons, List.map_nil, List.take_succ_cons, List.take_zero, List.drop_succ_cons, List.drop_zero] at hLq ⊢
      repeat (first
        | (refine WL.law _ rfl rfl (by kernel_rfl) rfl rfl (calm_load_elem (.tmp 125) dca0 dca1 rfl rfl) ?_; dsimp only [List.set_cons_zero, List.set_cons_succ])
        | (refine WL.law _ rfl rfl (by kernel_rfl) rfl rfl (calm_load_elem (.tmp 129) dcb0 dcb1 rfl rfl) ?_; dsimp only [List.set_cons_zero, List.set_cons_succ])
        | (refine WL.skip rfl rfl ?_; dsimp only [List.set_cons_zero, List.set_cons_succ])
        | (refine WL.ex rfl rfl (by kernel_rfl) rfl ?_; apply Exists.intro; refine And.intro (fun w' hk => ?_) (And.intro ?_ ?_); (focus (have q0 := hk.cell c0_g19; have r0 := hk.cell c1_g19; clear hk; go_simp; exact rfl)); (focus (exact rfl)); dsimp only [List.set_cons_zero, List.set_cons_succ])
        | (refine WL.call rfl rfl (by kernel_rfl) rfl rfl HIM.out ?_ ?_; (focus (intro w'; go_simp; done)); dsimp only [List.set_cons_zero, List.set_cons_succ])
        | (refine WL.call rfl rfl (by kernel_rfl) rfl rfl HID.out ?_ ?_; (focus (intro w'; go_simp; done)); dsimp only [List.set_cons_zero, List.set_cons_succ]))
      refine WL.nil (hLq _ ?_)
      clear hLq
      intro a'' V10 hk hra
      obtain rfl := hra.mark0 (by kernel_rfl)
      clear hra
      try simp only [List.drop_succ_cons, List.drop_zero, List.drop_nil]
      clear dca0 dca1 dcb0 dcb1
      clear c0_g19 c1_g19 fr_g19
      have kk' := kk.trans hk
      have d_g8 := b_g8.kept hk
      have d_g17 := b_g17.kept hk
      have d_g19 := b_g19.kept hk
      have d_P := s_P.kept hk
      have e_P := Nat.le_trans n_P hk.size
      have d_Q := s_Q.kept hk
      have e_Q := Nat.le_trans n_Q hk.size
      clear kk b_g8 b_g17 b_g19 s_P n_P s_Q n_Q
      have kk := kk'
      clear kk'
      have b_g8 := d_g8
      clear d_g8
      have b_g17 := d_g17
      clear d_g17
      have b_g19 := d_g19
      clear d_g19
      have s_P := d_P
      clear d_P
      have n_P := e_P
      clear e_P
      have s_Q := d_Q
      clear d_Q
      have n_Q := e_Q
      clear e_Q
      clear hk
      have c0_g19 := b_g19.cell 0 rfl
      have c1_g19 := b_g19.cell 1 rfl
      have fr_g19 := b_g19.free
      go_wp2_with fail
      go_roundw
      case rel =>
        refine ⟨i + 1, by omega, by go_num, ?_, ?_, ?_, ?_, ?_, ?_, ?_, ?_⟩
        · repeat (first | exact kk | (refine Kept.setCell ?_ (kept_side (by first | assumption | omega)) _) | apply Kept.alloc | apply Kept.drew)
        · repeat (first | exact b_g8 | (refine Blk.set_other ?_ (by omega) _) | apply Blk.alloc)
        · repeat (first | exact b_g17 | (refine Blk.set_other ?_ (by omega) _) | apply Blk.alloc)
        · rw [HS2.out, HS3.out]; simp [Blk, *]
        · repeat (first | exact s_P | (refine SlE.setCell ?_ (by omega) _) | apply SlE.alloc)
        · (first | omega | (simp [World.setCell]; omega))
        · repeat (first | exact s_Q | (refine SlE.setCell ?_ (by omega) _) | apply SlE.alloc)
        · (first | omega | (simp [World.setCell]; omega))
      case measure => simp [intOf]; omega
    · have yi : (n : Int) ≤ (i : Int) := by omega
      obtain rfl : n = i := by omega
      rw [HV0.out, HV1.out] at b_g19
      clear s_P n_P s_Q n_Q
      have c0_g17 := b_g17.cell 0 rfl
      have c1_g17 := b_g17.cell 1 rfl
      have fr_g17 := b_g17.free
      have c0_g19 := b_g19.cell 0 rfl
      have c1_g19 := b_g19.cell 1 rfl
      have fr_g19 := b_g19.free
      go_upto_region 22 with (fail)
      clear c0_g17 c1_g17 fr_g17 c0_g19 c1_g19 fr_g19
      clear b_g17 b_g19
      obtain ⟨g21, hg⟩ : ∃ g, wr.heap.size = g := ⟨_, rfl⟩
      have lt_g8_g21 : g8 < g21 := hg ▸ b_g8.lt
      have nw_g21 : w.heap.size ≤ g21 := hg ▸ kk.size
      go_upto_region 23 with (fail)
      try simp only [hg]
      refine abs_world (fun W => Kept w W ∧ Blk W g8 28 #[.int .u64 x0, .int .u64 x1] ∧ Blk W g21 28 #[.int .u64 0, .int .u64 0]) ⟨?_, ?_, ?_⟩ ?_
      · repeat (first | exact kk | (refine Kept.setCell ?_ (kept_side (by first | assumption | omega)) _) | apply Kept.alloc | apply Kept.drew)
      · repeat (first | exact b_g8 | (refine Blk.set_other ?_ (by omega) _) | apply Blk.alloc)
      · simp [Blk, *]
      clear kk hg b_g8
      rintro V11 ⟨kk, b_g8, b_g21⟩
      go_wp2_with fail
      go_loopw [151] (fun t wr => ∃ i : Nat, i ≤ n ∧ t = .int .i64 i ∧ Kept w wr ∧ Blk wr g8 28 #[.int .u64 x0, .int .u64 x1] ∧ Blk wr g21 28 #[.int .u64 (S0 i), .int .u64 (S1 i)]) (fun t _ => n - (intOf t).toNat)
      case atStart => exact ⟨0, Nat.zero_le _, rfl, kk, b_g8, by rw [HS0.out.1, HS0.out.2]; exact b_g21⟩
      case round =>
        clear kk b_g8 b_g21
        rename_i wr
        obtain ⟨i, hi, rfl, kk, b_g8, b_g21⟩ := hrel
        have zi : (0 : Int) ≤ (i : Int) := by omega
        rcases Nat.lt_or_ge i n with hlt | hge
        · have yi : (i : Int) < (n : Int) := by omega
          obtain ⟨p, hip, cp0, cp1, _⟩ := (hA.kept kk).at' i hlt
          have HUi := Lib.hid (HrU.out i hlt)
          obtain ⟨s2, hs2⟩ : ∃ x, S0 (i + 1) = x := ⟨_, rfl⟩
          obtain ⟨s3, hs3⟩ : ∃ x, S1 (i + 1) = x := ⟨_, rfl⟩
          rw [hs2, hs3] at HUi
          have HS2 := Lib.hid hs2
          have HS3 := Lib.hid hs3
          clear hs2 hs3
          generalize S0 i = s0 at HUi b_g21
          generalize S1 i = s1 at HUi b_g21
          generalize A0 i = c0 at cp0 HUi
          generalize A1 i = c1 at cp1 HUi
          obtain ⟨g23, hg⟩ : ∃ g, wr.heap.size = g := ⟨_, rfl⟩
          have lt_g8_g23 : g8 < g23 := hg ▸ b_g8.lt
          have lt_g21_g23 : g21 < g23 := hg ▸ b_g21.lt
          have nw_g23 : w.heap.size ≤ g23 := hg ▸ kk.size
          go_upto_region 26 with (refine wpList_load_elem (.tmp 153) cp0 cp1 rfl rfl rfl ?_)
          try simp only [hg]
          refine abs_world (fun W => Kept w W ∧ Blk W g8 28 #[.int .u64 x0, .int .u64 x1] ∧ Blk W g21 28 #[.int .u64 s0, .int .u64 s1] ∧ Blk W g23 28 #[.int .u64 c0, .int .u64 c1]) ⟨?_, ?_, ?_, ?_⟩ ?_
          · repeat (first | exact kk | (refine Kept.setCell ?_ (kept_side (by first | assumption | omega)) _) | apply Kept.alloc | apply Kept.drew)
          · repeat (first | exact b_g8 | (refine Blk.set_other ?_ (by omega) _) | apply Blk.alloc)
          · repeat (first | exact b_g21 | (refine Blk.set_other ?_ (by omega) _) | apply Blk.alloc)
          · simp [Blk, *]
          clear kk hg b_g8 b_g21
          rintro V12 ⟨kk, b_g8, b_g21, b_g23⟩
          clear cp0 cp1
          have c0_g21 := b_g21.cell 0 rfl
          have c1_g21 := b_g21.cell 1 rfl
          have fr_g21 := b_g21.free
          have c0_g23 := b_g23.cell 0 rfl
          have c1_g23 := b_g23.cell 1 rfl
          have fr_g23 := b_g23.free
          go_wp2_with fail
          refine (HUi.out _).mono ?_
          rintro e V13 ⟨rfl, hk⟩
          clear c0_g21 c1_g21 fr_g21 c0_g23 c1_g23 fr_g23
          have kk' := kk.trans hk
          have d_g8 := b_g8.kept hk
          have d_g21 := b_g21.kept hk
          have d_g23 := b_g23.kept hk
          clear kk b_g8 b_g21 b_g23
          have kk := kk'
          clear kk'
          have b_g8 := d_g8
          clear d_g8
          have b_g21 := d_g21
          clear d_g21
          have b_g23 := d_g23
          clear d_g23
          clear hk
          have c0_g21 := b_g21.cell 0 rfl
          have c1_g21 := b_g21.cell 1 rfl
          have fr_g21 := b_g21.free
          go_wp2_with fail
          go_roundw
          case rel =>
            refine ⟨i + 1, by omega, by go_num, ?_, ?_, ?_⟩
            · repeat (first | exact kk | (refine Kept.setCell ?_ (kept_side (by first | assumption | omega)) _) | apply Kept.alloc | apply Kept.drew)
            · repeat (first | exact b_g8 | (refine Blk.set_other ?_ (by omega) _) | apply Blk.alloc)
            · rw [HS2.out, HS3.out]; simp [Blk, *]
          case measure => simp [intOf]; omega
        · have yi : (n : Int) ≤ (i : Int) := by omega
          obtain rfl : n = i := by omega
          obtain ⟨u0, hu0⟩ : ∃ x, S0 n = x := ⟨_, rfl⟩
          obtain ⟨u1, hu1⟩ : ∃ x, S1 n = x := ⟨_, rfl⟩
          rw [hu0, hu1] at b_g21
          have HU0 := Lib.hid hu0
          have HU1 := Lib.hid hu1
          clear hu0 hu1
          have c0_g8 := b_g8.cell 0 rfl
          have c1_g8 := b_g8.cell 1 rfl
          have fr_g8 := b_g8.free
          go_wp2_with fail
          refine (HCP.out _ kk).mono ?_
          rintro e V14 ⟨ad, cp, rfl, hk, SL⟩
          clear c0_g8 c1_g8 fr_g8
          have kk' := kk.trans hk
          have d_g8 := b_g8.kept hk
          have d_g21 := b_g21.kept hk
          clear kk b_g8 b_g21
          have kk := kk'
          clear kk'
          have b_g8 := d_g8
          clear d_g8
          have b_g21 := d_g21
          clear d_g21
          clear hk
          obtain ⟨N_l, s_l, n_l⟩ : ∃ N, SlE V14 ad K cp N Z0 Z1 ∧ N ≤ V14.heap.size := ⟨_, SL, Nat.le_refl _⟩
          clear SL
          obtain ⟨g25, hg⟩ : ∃ g, V14.heap.size = g := ⟨_, rfl⟩
          have lt_g8_g25 : g8 < g25 := hg ▸ b_g8.lt
          have lt_g21_g25 : g21 < g25 := hg ▸ b_g21.lt
          have nl_l_g25 : N_l ≤ g25 := hg ▸ n_l
          have nw_g25 : w.heap.size ≤ g25 := hg ▸ kk.size
          go_upto_region 30 with (fail)
          try simp only [hg]
          refine abs_world (fun W => Kept w W ∧ Blk W g8 28 #[.int .u64 x0, .int .u64 x1] ∧ Blk W g21 28 #[.int .u64 u0, .int .u64 u1] ∧ Blk W g25 28 #[.int .u64 1, .int .u64 0] ∧ SlE W ad K cp N_l Z0 Z1 ∧ N_l ≤ W.heap.size) ⟨?_, ?_, ?_, ?_, ?_, ?_⟩ ?_
          · repeat (first | exact kk | (refine Kept.setCell ?_ (kept_side (by first | assumption | omega)) _) | apply Kept.alloc | apply Kept.drew)
          · repeat (first | exact b_g8 | (refine Blk.set_other ?_ (by omega) _) | apply Blk.alloc)
          · repeat (first | exact b_g21 | (refine Blk.set_other ?_ (by omega) _) | apply Blk.alloc)
          · simp [Blk, *]
          · repeat (first | exact s_l | (refine SlE.setCell ?_ (by omega) _) | apply SlE.alloc)
          · (first | omega | (simp [World.setCell]; omega))
          clear kk hg b_g8 b_g21 s_l n_l
          rintro V15 ⟨kk, b_g8, b_g21, b_g25, s_l, n_l⟩
          go_wp2_with fail
          go_loopw [167] (fun t wr => ∃ i : Nat, i ≤ K ∧ t = .int .i64 i ∧ Kept w wr ∧ Blk wr g8 28 #[.int .u64 x0, .int .u64 x1] ∧ Blk wr g21 28 #[.int .u64 u0, .int .u64 u1] ∧ Blk wr g25 28 #[.int .u64 (Z0 i), .int .u64 (Z1 i)] ∧ SlE wr ad K cp N_l Z0 Z1 ∧ N_l ≤ wr.heap.size) (fun t _ => K - (intOf t).toNat)
          case atStart => exact ⟨0, Nat.zero_le _, rfl, kk, b_g8, b_g21, by rw [HZ0.out.1, HZ0.out.2]; exact b_g25, s_l, n_l⟩
          case round =>
            clear kk b_g8 b_g21 b_g25 s_l n_l
            rename_i wr
            obtain ⟨i, hi, rfl, kk, b_g8, b_g21, b_g25, s_l, n_l⟩ := hrel
            have zi : (0 : Int) ≤ (i : Int) := by omega
            rcases Nat.lt_or_ge i K with hlt | hge
            · have yi : (i : Int) < (K : Int) := by omega
              obtain ⟨p, hip, cp0, cp1, _⟩ := s_l.at' i hlt
              have HWi := Lib.hid (HrW.out i)
              obtain ⟨s2, hs2⟩ : ∃ x, Z0 (i + 1) = x := ⟨_, rfl⟩
              obtain ⟨s3, hs3⟩ : ∃ x, Z1 (i + 1) = x := ⟨_, rfl⟩
              rw [hs2, hs3] at HWi
              have HS2 := Lib.hid hs2
              have HS3 := Lib.hid hs3
              clear hs2 hs3
              obtain ⟨s0, hs0⟩ : ∃ x, Z0 i = x := ⟨_, rfl⟩
              obtain ⟨s1, hs1⟩ : ∃ x, Z1 i = x := ⟨_, rfl⟩
              rw [hs0, hs1] at HWi b_g25
              rw [hs0] at cp0
              rw [hs1] at cp1
              clear hs0 hs1
              obtain ⟨g27, hg⟩ : ∃ g, wr.heap.size = g := ⟨_, rfl⟩
              have lt_g8_g27 : g8 < g27 := hg ▸ b_g8.lt
              have lt_g21_g27 : g21 < g27 := hg ▸ b_g21.lt
              have lt_g25_g27 : g25 < g27 := hg ▸ b_g25.lt
              have nl_l_g27 : N_l ≤ g27 := hg ▸ n_l
              have nw_g27 : w.heap.size ≤ g27 := hg ▸ kk.size
              go_upto_region 33 with (refine wpList_load_elem (.tmp 169) cp0 cp1 rfl rfl rfl ?_)
              try simp only [hg]
              refine abs_world (fun W => Kept w W ∧ Blk W g8 28 #[.int .u64 x0, .int .u64 x1] ∧ Blk W g21 28 #[.int .u64 u0, .int .u64 u1] ∧ Blk W g25 28 #[.int .u64 s0, .int .u64 s1] ∧ Blk W g27 28 #[.int .u64 s0, .int .u64 s1] ∧ SlE W ad K cp N_l Z0 Z1 ∧ N_l ≤ W.heap.size) ⟨?_, ?_, ?_, ?_, ?_, ?_, ?_⟩ ?_
              · repeat (first | exact kk | (refine Kept.setCell ?_ (kept_side (by first | assumption | omega)) _) | apply Kept.alloc | apply Kept.drew)
              · repeat (first | exact b_g8 | (refine Blk.set_other ?_ (by omega) _) | apply Blk.alloc)
              · repeat (first | exact b_g21 | (refine Blk.set_other ?_ (by omega) _) | apply Blk.alloc)
              · repeat (first | exact b_g25 | (refine Blk.set_other ?_ (by omega) _) | apply Blk.alloc)
              · simp [Blk, *]
              · repeat (first | exact s_l | (refine SlE.setCell ?_ (by omega) _) | apply SlE.alloc)
              · (first | omega | (simp [World.setCell]; omega))
              clear kk hg b_g8 b_g21 b_g25 s_l n_l
              rintro V16 ⟨kk, b_g8, b_g21, b_g25, b_g27, s_l, n_l⟩
              clear cp0 cp1
              have c0_g8 := b_g8.cell 0 rfl
              have c1_g8 := b_g8.cell 1 rfl
              have fr_g8 := b_g8.free
              have c0_g25 := b_g25.cell 0 rfl
              have c1_g25 := b_g25.cell 1 rfl
              have fr_g25 := b_g25.free
              have c0_g27 := b_g27.cell 0 rfl
              have c1_g27 := b_g27.cell 1 rfl
              have fr_g27 := b_g27.free
              go_wp2_with fail
              refine (HWi.out _).mono ?_
              rintro e V17 ⟨rfl, hk⟩
              clear c0_g8 c1_g8 fr_g8 c0_g25 c1_g25 fr_g25 c0_g27 c1_g27 fr_g27
              have kk' := kk.trans hk
              have d_g8 := b_g8.kept hk
              have d_g21 := b_g21.kept hk
              have d_g25 := b_g25.kept hk
              have d_g27 := b_g27.kept hk
              have d_l := s_l.kept hk
              have e_l := Nat.le_trans n_l hk.size
              clear kk b_g8 b_g21 b_g25 b_g27 s_l n_l
              have kk := kk'
              clear kk'
              have b_g8 := d_g8
              clear d_g8
              have b_g21 := d_g21
              clear d_g21
              have b_g25 := d_g25
              clear d_g25
              have b_g27 := d_g27
              clear d_g27
              have s_l := d_l
              clear d_l
              have n_l := e_l
              clear e_l
              clear hk
              have c0_g25 := b_g25.cell 0 rfl
              have c1_g25 := b_g25.cell 1 rfl
              have fr_g25 := b_g25.free
              go_wp2_with fail
              go_roundw
              case rel =>
                refine ⟨i + 1, by omega, by go_num, ?_, ?_, ?_, ?_, ?_, ?_⟩
                · repeat (first | exact kk | (refine Kept.setCell ?_ (kept_side (by first | assumption | omega)) _) | apply Kept.alloc | apply Kept.drew)
                · repeat (first | exact b_g8 | (refine Blk.set_other ?_ (by omega) _) | apply Blk.alloc)
                · repeat (first | exact b_g21 | (refine Blk.set_other ?_ (by omega) _) | apply Blk.alloc)
                · rw [HS2.out, HS3.out]; simp [Blk, *]
                · repeat (first | exact s_l | (refine SlE.setCell ?_ (by omega) _) | apply SlE.alloc)
                · (first | omega | (simp [World.setCell]; omega))
              case measure => simp [intOf]; omega
            · have yi : (K : Int) ≤ (i : Int) := by omega
              have HCV : Hid (∀ w', Kept wr w' → Calls Try.prog 82 #[.int .u8 f, .slice a n cap] w' fun e w'' => e = .returned (.agg #[.int .u64 u0, .int .u64 u1]) ∧ Kept w' w'') := Lib.hid fun w' hk => by have := HCU.out w' (kk.trans hk); rw [HU0.out, HU1.out] at this; exact this
              have c0_g21 := b_g21.cell 0 rfl
              have c1_g21 := b_g21.cell 1 rfl
              have fr_g21 := b_g21.free
              go_wp2_with fail
              try simp only [List.append_eq, List.cons_append, List.nil_append]
              refine wp_region_wl (fun _ => oneMean 5 #[]) 12 (by kernel_rfl) (by as_aux_lemma => kernel_rfl) _ rfl _ rfl _ _ rfl rfl (fun k0 Lq hLq => ?_)
              dsimp only [List.map_cons, List.map_nil, List.take_succ_cons, List.take_zero, List.drop_succ_cons, List.drop_zero] at hLq ⊢
              repeat (first
                | (refine WL.skip rfl rfl ?_; dsimp only [List.set_cons_zero, List.set_cons_succ])
                | (refine WL.ex rfl rfl (by kernel_rfl) rfl ?_; apply Exists.intro; refine And.intro (fun w' hk => ?_) (And.intro ?_ ?_); (focus (have q0 := hk.cell c0_g21; have r0 := hk.cell c1_g21; clear hk; go_simp; exact rfl)); (focus (exact rfl)); dsimp only [List.set_cons_zero, List.set_cons_succ])
                | (refine WL.callAt rfl rfl (by kernel_rfl) rfl rfl HCV.out ?_ ?_; (focus (intro w'; go_simp; done)); dsimp only [List.set_cons_zero, List.set_cons_succ]))
              refine WL.nil (hLq _ ?_)
              clear hLq
              intro a'' V18 hk hra
              obtain rfl := hra.mark0 (by kernel_rfl)
              clear hra
              try simp only [List.drop_succ_cons, List.drop_zero, List.drop_nil]
              have k9 := kk.trans hk
              clear kk hk c0_g21 c1_g21 fr_g21 b_g8 b_g21 b_g25 s_l n_l
              go_wp2_with fail
              go_ret
              exact ⟨rfl, k9⟩
end Go.Proofs.Ytnajihlhcdedgaa
