/-
  InvVec.
-/
import Derived.Test.YtnajihlhcdedgaaFAw
namespace Go.Proofs.Ytnajihlhcdedgaa
open Go.RowKit
set_option linter.unusedVariables false
set_option linter.unusedSimpArgs false
attribute [local simp] blkAt_setCell blkAt_alloc blkAt_drew Obj.put_cells

theorem ahead_step (P0 P1 : Nat → Int) (n i : Nat) : ∀ c, c < n * 2 → (if c < (i + 1) * 2 then elemC P0 P1 c else 0) = if c = i * 2 + 1 then P1 i else if c = i * 2 then P0 i else if c < i * 2 then elemC P0 P1 c else 0 := by
  intro c hc
  by_cases h1 : c = i * 2 + 1
  · subst h1; rw [if_pos (by omega), if_pos rfl, elemC_1]
  · by_cases h2 : c = i * 2
    · subst h2; rw [if_pos (by omega), if_neg (by omega), if_pos rfl, elemC_0]
    · rw [if_neg h1, if_neg h2]
      by_cases h3 : c < i * 2
      · rw [if_pos (by omega), if_pos h3]
      · rw [if_neg (by omega), if_neg h3]
theorem out_step (R0 R1 : Nat → Int) (n j : Nat) : ∀ c, c < n * 2 → (if c < j * 2 then 0 else elemC R0 R1 c) = if c = j * 2 + 1 then R1 j else if c = j * 2 then R0 j else if c < (j + 1) * 2 then 0 else elemC R0 R1 c := by
  intro c hc
  by_cases h1 : c = j * 2 + 1
  · subst h1; rw [if_neg (by omega), if_pos rfl, elemC_1]
  · by_cases h2 : c = j * 2
    · subst h2; rw [if_neg (by omega), if_neg (by omega), if_pos rfl, elemC_0]
    · rw [if_neg h1, if_neg h2]
      by_cases h3 : c < j * 2
      · rw [if_pos h3, if_pos (by omega)]
      · rw [if_neg h3, if_neg (by omega)]

set_option maxRecDepth 100000 in
set_option maxHeartbeats 4000000 in
theorem f_InvVec_none (w : World) (f : Int) (a : Option Addr) (n cap N : Nat) (C0 C1 P0 P1 : Nat → Int) (hn : n ≤ 4096) (hA : SlE w a n cap N C0 C1) (h00 : P0 0 = 1) (h01 : P1 0 = 0)
    (hV : Pure Try.prog 108 #[.int .u8 f] (.bool true)) (hO : Pure Try.prog 105 #[.int .u8 f] (.agg #[.int .u64 1, .int .u64 0]))
    (HG : Hid (∀ j, j < n → Pure Try.prog 102 #[.int .u8 f, .agg #[.int .u64 (P0 j), .int .u64 (P1 j)], .agg #[.int .u64 (C0 j), .int .u64 (C1 j)]] (.agg #[.int .u64 (P0 (j + 1)), .int .u64 (P1 (j + 1))])))
    (hI : Pure Try.prog 98 #[.int .u8 f, .agg #[.int .u64 (P0 n), .int .u64 (P1 n)]] (.tuple #[.agg #[.int .u64 0, .int .u64 0], .int .i64 8])) :
    Calls Try.prog 92 #[.int .u8 f, .slice a n cap] w fun e w' => e = .returned (.tuple #[.slice none 0 0, .int .i64 8]) ∧ Kept w w' := by
  have HV := Lib.hid hV
  have HO := Lib.hid hO
  have HI := Lib.hid hI
  clear hV hO hI
  have yn : (n : Int) ≤ 4096 := by omega
  go_enter Try.func92, Try.ntmps92
  go_wp2_with fail
  refine (HV.out _).mono ?_
  rintro e W1 ⟨rfl, k1⟩
  obtain ⟨g6, hg6⟩ : ∃ g, W1.heap.size = g := ⟨_, rfl⟩
  have hmk := makefull90 n (by omega) W1
  rw [hg6] at hmk
  go_upto_region 6 with (fail)
  have nw6 : w.heap.size ≤ g6 := by have := k1.size; omega
  refine abs_world (fun W => Kept w W ∧ Blk W g6 28 (rowF (n * 2) (fun c => .int .u64 (if c < 0 * 2 then elemC P0 P1 c else 0)))) ⟨k1.alloc _, by rw [← hg6]; exact Blk.new _ _ _⟩ ?_
  clear hmk k1 hg6
  rintro W2 ⟨k2, B2⟩
  go_wp2_with fail
  refine (HO.out _).mono ?_
  rintro e W3 ⟨rfl, hk3⟩
  have k3 := k2.trans hk3
  have B3 := B2.kept hk3
  clear k2 B2 hk3
  obtain ⟨g7, hg7⟩ : ∃ g, W3.heap.size = g := ⟨_, rfl⟩
  have n67 : g6 < g7 := hg7 ▸ B3.lt
  have nw7 : w.heap.size ≤ g7 := by omega
  go_upto_region 7 with (fail)
  try simp only [hg7]
  refine abs_world (fun W => Kept w W ∧ Blk W g6 28 (rowF (n * 2) (fun c => .int .u64 (if c < 0 * 2 then elemC P0 P1 c else 0))) ∧ Blk W g7 28 #[.int .u64 1, .int .u64 0]) ⟨?_, ?_, ?_⟩ ?_
  · repeat (first | exact k3 | (refine Kept.setCell ?_ (kept_side (by first | assumption | omega)) _) | apply Kept.alloc | apply Kept.drew)
  · repeat (first | exact B3 | (refine Blk.set_other ?_ (by omega) _) | apply Blk.alloc)
  · simp [Blk, *]
  clear k3 B3 hg7
  rintro W4 ⟨k4, B4, C4⟩
  have C4' : Blk W4 g7 28 #[.int .u64 (P0 0), .int .u64 (P1 0)] := by rw [h00, h01]; exact C4
  clear C4
  go_wp2_with fail
  go_loopw [29] (fun t wr => ∃ i : Nat, i ≤ n ∧ t = .int .i64 i ∧ Kept w wr ∧ Blk wr g6 28 (rowF (n * 2) (fun c => .int .u64 (if c < i * 2 then elemC P0 P1 c else 0))) ∧ Blk wr g7 28 #[.int .u64 (P0 i), .int .u64 (P1 i)]) (fun t _ => n - (intOf t).toNat)
  case atStart => exact ⟨0, Nat.zero_le _, rfl, k4, B4, C4'⟩
  case round =>
    clear k4 B4 C4'
    obtain ⟨i, hi, rfl, k, B, C⟩ := hrel
    have zi : (0 : Int) ≤ (i : Int) := by omega
    rcases Nat.lt_or_ge i n with hlt | hge
    · have yi : (i : Int) < (n : Int) := by omega
      obtain ⟨p, hip, cp0, cp1, _⟩ := (hA.kept k).at' i hlt
      have HGi := Lib.hid (HG.out i hlt)
      have HR : Hid (∀ c, c < n * 2 → (if c < (i + 1) * 2 then elemC P0 P1 c else 0) = if c = i * 2 + 1 then P1 i else if c = i * 2 then P0 i else if c < i * 2 then elemC P0 P1 c else 0) := Lib.hid (ahead_step P0 P1 n i)
      obtain ⟨s2, hs2⟩ : ∃ x, P0 (i + 1) = x := ⟨_, rfl⟩
      obtain ⟨s3, hs3⟩ : ∃ x, P1 (i + 1) = x := ⟨_, rfl⟩
      rw [hs2, hs3] at HGi
      have HS2 := Lib.hid hs2
      have HS3 := Lib.hid hs3
      clear hs2 hs3
      generalize P0 i = s0 at C HGi HR
      generalize P1 i = s1 at C HGi HR
      generalize C0 i = c0 at *
      generalize C1 i = c1 at *
      obtain ⟨g9, hg9⟩ : ∃ g, wr.heap.size = g := ⟨_, rfl⟩
      have n69 : g6 < g9 := hg9 ▸ B.lt
      have n79 : g7 < g9 := hg9 ▸ C.lt
      go_upto_region 10 with (refine wpList_load_elem (.tmp 32) cp0 cp1 rfl rfl rfl ?_)
      try simp only [hg9]
      clear cp0 cp1
      refine abs_world (fun W => Kept w W ∧ Blk W g6 28 (rowF (n * 2) (fun c => .int .u64 (if c < i * 2 then elemC P0 P1 c else 0))) ∧ Blk W g7 28 #[.int .u64 s0, .int .u64 s1] ∧ Blk W g9 28 #[.int .u64 c0, .int .u64 c1]) ⟨?_, ?_, ?_, ?_⟩ ?_
      · repeat (first | exact k | (refine Kept.setCell ?_ (kept_side (by first | assumption | omega)) _) | apply Kept.alloc | apply Kept.drew)
      · repeat (first | exact B | (refine Blk.set_other ?_ (by omega) _) | apply Blk.alloc)
      · repeat (first | exact C | (refine Blk.set_other ?_ (by omega) _) | apply Blk.alloc)
      · simp [Blk, *]
      clear k B C hg9
      rintro W5 ⟨k5, B5, C5, D5⟩
      have cl0 := B5.at (i := i * 2) (by omega)
      have cl1 := B5.at (i := i * 2 + 1) (by omega)
      have fr := B5.free
      have d0 := C5.cell 0 rfl
      have d1 := C5.cell 1 rfl
      go_upto_region 11 with (fail)
      refine abs_world (fun W => Kept w W ∧ Blk W g6 28 (rowF (n * 2) (fun c => .int .u64 (if c < (i + 1) * 2 then elemC P0 P1 c else 0))) ∧ Blk W g7 28 #[.int .u64 s0, .int .u64 s1] ∧ Blk W g9 28 #[.int .u64 c0, .int .u64 c1]) ⟨?_, ?_, ?_, ?_⟩ ?_
      · exact (k5.setCell (kept_side nw6) _).setCell (kept_side nw6) _
      · refine (B5.set (g := fun c => .int .u64 (if c = i * 2 then s0 else if c < i * 2 then elemC P0 P1 c else 0)) (by omega) fun c hc => ?_).set (by omega) fun c hc => ?_
        · split <;> rfl
        · rw [HR.out c hc]; split <;> rfl
      · exact (C5.set_other (by omega) _).set_other (by omega) _
      · exact (D5.set_other (by omega) _).set_other (by omega) _
      clear cl0 cl1 fr d0 d1 k5 B5 C5 D5
      rintro W6 ⟨k6, B6, C6, D6⟩
      have d0 := C6.cell 0 rfl
      have d1 := C6.cell 1 rfl
      have e0 := D6.cell 0 rfl
      have e1 := D6.cell 1 rfl
      go_wp2_with fail
      refine (HGi.out _).mono ?_
      rintro e W7 ⟨rfl, hk7⟩
      have k7 := k6.trans hk7
      have B7 := B6.kept hk7
      have C7 := C6.kept hk7
      clear d0 d1 e0 e1 k6 B6 C6 D6 hk7
      have d0 := C7.cell 0 rfl
      have d1 := C7.cell 1 rfl
      have fr := C7.free
      go_wp2_with fail
      go_roundw
      case rel =>
        refine ⟨i + 1, by omega, by go_num, (k7.setCell (kept_side nw7) _).setCell (kept_side nw7) _, (B7.set_other (by omega) _).set_other (by omega) _, ?_⟩
        rw [HS2.out, HS3.out]
        simp [Blk, *]
      case measure => simp [intOf]; omega
    · have yi : (n : Int) ≤ (i : Int) := by omega
      obtain rfl : n = i := by omega
      have B' : Blk wr g6 28 (rowF (n * 2) (fun c => .int .u64 (elemC P0 P1 c))) := by rw [rowF_congr (g := fun c => Value.int .u64 (if c < n * 2 then elemC P0 P1 c else 0)) fun c hc => by rw [if_pos hc]]; exact B
      clear B
      generalize P0 n = s0 at *
      generalize P1 n = s1 at *
      have d0 := C.cell 0 rfl
      have d1 := C.cell 1 rfl
      go_wp2_with fail
      refine (HI.out _).mono ?_
      rintro e W8 ⟨rfl, hk8⟩
      have k8 := k.trans hk8
      have B8 := B'.kept hk8
      clear k B' C d0 d1 hk8
      go_wp2_with fail
      go_ret2
      refine ⟨rfl, ?_⟩
      have nw8 := k8.size
      repeat (first | exact k8 | (refine Kept.setCell ?_ (kept_side (by first | assumption | omega)) _) | apply Kept.alloc | apply Kept.drew)

set_option maxRecDepth 100000 in
set_option maxHeartbeats 4000000 in
theorem f_InvVec_ok (w : World) (f : Int) (a : Option Addr) (n cap N : Nat) (C0 C1 P0 P1 : Nat → Int) (hn : n ≤ 4096) (hA : SlE w a n cap N C0 C1) (h00 : P0 0 = 1) (h01 : P1 0 = 0)
    (hV : Pure Try.prog 108 #[.int .u8 f] (.bool true)) (hO : Pure Try.prog 105 #[.int .u8 f] (.agg #[.int .u64 1, .int .u64 0]))
    (HG : Hid (∀ j, j < n → Pure Try.prog 102 #[.int .u8 f, .agg #[.int .u64 (P0 j), .int .u64 (P1 j)], .agg #[.int .u64 (C0 j), .int .u64 (C1 j)]] (.agg #[.int .u64 (P0 (j + 1)), .int .u64 (P1 (j + 1))])))
    (y0 y1 : Int) (hI : Pure Try.prog 98 #[.int .u8 f, .agg #[.int .u64 (P0 n), .int .u64 (P1 n)]] (.tuple #[.agg #[.int .u64 y0, .int .u64 y1], .int .i64 0])) (Y0 Y1 R0 R1 : Nat → Int) (hy0 : Y0 n = y0) (hy1 : Y1 n = y1)
    (HB : Hid (∀ j, j < n → Pure Try.prog 102 #[.int .u8 f, .agg #[.int .u64 (Y0 (j + 1)), .int .u64 (Y1 (j + 1))], .agg #[.int .u64 (C0 j), .int .u64 (C1 j)]] (.agg #[.int .u64 (Y0 j), .int .u64 (Y1 j)])))
    (HRR : Hid (∀ j, j < n → Pure Try.prog 102 #[.int .u8 f, .agg #[.int .u64 (Y0 (j + 1)), .int .u64 (Y1 (j + 1))], .agg #[.int .u64 (P0 j), .int .u64 (P1 j)]] (.agg #[.int .u64 (R0 j), .int .u64 (R1 j)]))) :
    Calls Try.prog 92 #[.int .u8 f, .slice a n cap] w fun e w' => ∃ g, e = .returned (.tuple #[.slice (some ⟨g, 0, none⟩) n n, .int .i64 0]) ∧ w.heap.size ≤ g ∧ Kept w w' ∧ Blk w' g 28 (rowF (n * 2) (fun c => .int .u64 (elemC R0 R1 c))) := by
  have HV := Lib.hid hV
  have HO := Lib.hid hO
  have HI := Lib.hid hI
  clear hV hO hI
  have yn : (n : Int) ≤ 4096 := by omega
  go_enter Try.func92, Try.ntmps92
  go_wp2_with fail
  refine (HV.out _).mono ?_
  rintro e W1 ⟨rfl, k1⟩
  obtain ⟨g6, hg6⟩ : ∃ g, W1.heap.size = g := ⟨_, rfl⟩
  have hmk := makefull90 n (by omega) W1
  rw [hg6] at hmk
  go_upto_region 6 with (fail)
  have nw6 : w.heap.size ≤ g6 := by have := k1.size; omega
  refine abs_world (fun W => Kept w W ∧ Blk W g6 28 (rowF (n * 2) (fun c => .int .u64 (if c < 0 * 2 then elemC P0 P1 c else 0)))) ⟨k1.alloc _, by rw [← hg6]; exact Blk.new _ _ _⟩ ?_
  clear hmk k1 hg6
  rintro W2 ⟨k2, B2⟩
  go_wp2_with fail
  refine (HO.out _).mono ?_
  rintro e W3 ⟨rfl, hk3⟩
  have k3 := k2.trans hk3
  have B3 := B2.kept hk3
  clear k2 B2 hk3
  obtain ⟨g7, hg7⟩ : ∃ g, W3.heap.size = g := ⟨_, rfl⟩
  have n67 : g6 < g7 := hg7 ▸ B3.lt
  have nw7 : w.heap.size ≤ g7 := by omega
  go_upto_region 7 with (fail)
  try simp only [hg7]
  refine abs_world (fun W => Kept w W ∧ Blk W g6 28 (rowF (n * 2) (fun c => .int .u64 (if c < 0 * 2 then elemC P0 P1 c else 0))) ∧ Blk W g7 28 #[.int .u64 1, .int .u64 0]) ⟨?_, ?_, ?_⟩ ?_
  · repeat (first | exact k3 | (refine Kept.setCell ?_ (kept_side (by first | assumption | omega)) _) | apply Kept.alloc | apply Kept.drew)
  · repeat (first | exact B3 | (refine Blk.set_other ?_ (by omega) _) | apply Blk.alloc)
  · simp [Blk, *]
  clear k3 B3 hg7
  rintro W4 ⟨k4, B4, C4⟩
  have C4' : Blk W4 g7 28 #[.int .u64 (P0 0), .int .u64 (P1 0)] := by rw [h00, h01]; exact C4
  clear C4
  go_wp2_with fail
  go_loopw [29] (fun t wr => ∃ i : Nat, i ≤ n ∧ t = .int .i64 i ∧ Kept w wr ∧ Blk wr g6 28 (rowF (n * 2) (fun c => .int .u64 (if c < i * 2 then elemC P0 P1 c else 0))) ∧ Blk wr g7 28 #[.int .u64 (P0 i), .int .u64 (P1 i)]) (fun t _ => n - (intOf t).toNat)
  case atStart => exact ⟨0, Nat.zero_le _, rfl, k4, B4, C4'⟩
  case round =>
    clear k4 B4 C4'
    obtain ⟨i, hi, rfl, k, B, C⟩ := hrel
    have zi : (0 : Int) ≤ (i : Int) := by omega
    rcases Nat.lt_or_ge i n with hlt | hge
    · have yi : (i : Int) < (n : Int) := by omega
      obtain ⟨p, hip, cp0, cp1, _⟩ := (hA.kept k).at' i hlt
      have HGi := Lib.hid (HG.out i hlt)
      have HR : Hid (∀ c, c < n * 2 → (if c < (i + 1) * 2 then elemC P0 P1 c else 0) = if c = i * 2 + 1 then P1 i else if c = i * 2 then P0 i else if c < i * 2 then elemC P0 P1 c else 0) := Lib.hid (ahead_step P0 P1 n i)
      obtain ⟨s2, hs2⟩ : ∃ x, P0 (i + 1) = x := ⟨_, rfl⟩
      obtain ⟨s3, hs3⟩ : ∃ x, P1 (i + 1) = x := ⟨_, rfl⟩
      rw [hs2, hs3] at HGi
      have HS2 := Lib.hid hs2
      have HS3 := Lib.hid hs3
      clear hs2 hs3
      generalize P0 i = s0 at C HGi HR
      generalize P1 i = s1 at C HGi HR
      generalize C0 i = c0 at *
      generalize C1 i = c1 at *
      obtain ⟨g9, hg9⟩ : ∃ g, wr.heap.size = g := ⟨_, rfl⟩
      have n69 : g6 < g9 := hg9 ▸ B.lt
      have n79 : g7 < g9 := hg9 ▸ C.lt
      go_upto_region 10 with (refine wpList_load_elem (.tmp 32) cp0 cp1 rfl rfl rfl ?_)
      try simp only [hg9]
      clear cp0 cp1
      refine abs_world (fun W => Kept w W ∧ Blk W g6 28 (rowF (n * 2) (fun c => .int .u64 (if c < i * 2 then elemC P0 P1 c else 0))) ∧ Blk W g7 28 #[.int .u64 s0, .int .u64 s1] ∧ Blk W g9 28 #[.int .u64 c0, .int .u64 c1]) ⟨?_, ?_, ?_, ?_⟩ ?_
      · repeat (first | exact k | (refine Kept.setCell ?_ (kept_side (by first | assumption | omega)) _) | apply Kept.alloc | apply Kept.drew)
      · repeat (first | exact B | (refine Blk.set_other ?_ (by omega) _) | apply Blk.alloc)
      · repeat (first | exact C | (refine Blk.set_other ?_ (by omega) _) | apply Blk.alloc)
      · simp [Blk, *]
      clear k B C hg9
      rintro W5 ⟨k5, B5, C5, D5⟩
      have cl0 := B5.at (i := i * 2) (by omega)
      have cl1 := B5.at (i := i * 2 + 1) (by omega)
      have fr := B5.free
      have d0 := C5.cell 0 rfl
      have d1 := C5.cell 1 rfl
      go_upto_region 11 with (fail)
      refine abs_world (fun W => Kept w W ∧ Blk W g6 28 (rowF (n * 2) (fun c => .int .u64 (if c < (i + 1) * 2 then elemC P0 P1 c else 0))) ∧ Blk W g7 28 #[.int .u64 s0, .int .u64 s1] ∧ Blk W g9 28 #[.int .u64 c0, .int .u64 c1]) ⟨?_, ?_, ?_, ?_⟩ ?_
      · exact (k5.setCell (kept_side nw6) _).setCell (kept_side nw6) _
      · refine (B5.set (g := fun c => .int .u64 (if c = i * 2 then s0 else if c < i * 2 then elemC P0 P1 c else 0)) (by omega) fun c hc => ?_).set (by omega) fun c hc => ?_
        · split <;> rfl
        · rw [HR.out c hc]; split <;> rfl
      · exact (C5.set_other (by omega) _).set_other (by omega) _
      · exact (D5.set_other (by omega) _).set_other (by omega) _
      clear cl0 cl1 fr d0 d1 k5 B5 C5 D5
      rintro W6 ⟨k6, B6, C6, D6⟩
      have d0 := C6.cell 0 rfl
      have d1 := C6.cell 1 rfl
      have e0 := D6.cell 0 rfl
      have e1 := D6.cell 1 rfl
      go_wp2_with fail
      refine (HGi.out _).mono ?_
      rintro e W7 ⟨rfl, hk7⟩
      have k7 := k6.trans hk7
      have B7 := B6.kept hk7
      have C7 := C6.kept hk7
      clear d0 d1 e0 e1 k6 B6 C6 D6 hk7
      have d0 := C7.cell 0 rfl
      have d1 := C7.cell 1 rfl
      have fr := C7.free
      go_wp2_with fail
      go_roundw
      case rel =>
        refine ⟨i + 1, by omega, by go_num, (k7.setCell (kept_side nw7) _).setCell (kept_side nw7) _, (B7.set_other (by omega) _).set_other (by omega) _, ?_⟩
        rw [HS2.out, HS3.out]
        simp [Blk, *]
      case measure => simp [intOf]; omega
    · have yi : (n : Int) ≤ (i : Int) := by omega
      obtain rfl : n = i := by omega
      have B' : Blk wr g6 28 (rowF (n * 2) (fun c => .int .u64 (elemC P0 P1 c))) := by rw [rowF_congr (g := fun c => Value.int .u64 (if c < n * 2 then elemC P0 P1 c else 0)) fun c hc => by rw [if_pos hc]]; exact B
      clear B
      generalize P0 n = s0 at *
      generalize P1 n = s1 at *
      have d0 := C.cell 0 rfl
      have d1 := C.cell 1 rfl
      go_wp2_with fail
      refine (HI.out _).mono ?_
      rintro e W8 ⟨rfl, hk8⟩
      have k8 := k.trans hk8
      have B8 := B'.kept hk8
      clear k B' C d0 d1 hk8
      obtain ⟨g10, hg10⟩ : ∃ g, W8.heap.size = g := ⟨_, rfl⟩
      have n610 : g6 < g10 := hg10 ▸ B8.lt
      have nw10 : w.heap.size ≤ g10 := by omega
      go_upto_region 14 with (fail)
      try simp only [hg10]
      refine abs_world (fun W => Kept w W ∧ Blk W g6 28 (rowF (n * 2) (fun c => .int .u64 (elemC P0 P1 c))) ∧ Blk W g10 28 #[.int .u64 y0, .int .u64 y1]) ⟨?_, ?_, ?_⟩ ?_
      · repeat (first | exact k8 | (refine Kept.setCell ?_ (kept_side (by first | assumption | omega)) _) | apply Kept.alloc | apply Kept.drew)
      · repeat (first | exact B8 | (refine Blk.set_other ?_ (by omega) _) | apply Blk.alloc)
      · simp [Blk, *]
      clear k8 B8 hg10
      rintro W9 ⟨k9, B9, D9⟩
      obtain ⟨g12, hg12⟩ : ∃ g, W9.heap.size = g := ⟨_, rfl⟩
      have n612 : g6 < g12 := hg12 ▸ B9.lt
      have n1012 : g10 < g12 := hg12 ▸ D9.lt
      have nw12 : w.heap.size ≤ g12 := by omega
      have hmk := makefull90 n (by omega) W9
      rw [hg12] at hmk
      go_upto_region 17 with (fail)
      refine abs_world (fun W => Kept w W ∧ Blk W g6 28 (rowF (n * 2) (fun c => .int .u64 (elemC P0 P1 c))) ∧ Blk W g10 28 #[.int .u64 (Y0 n), .int .u64 (Y1 n)] ∧ Blk W g12 28 (rowF (n * 2) (fun c => .int .u64 (if c < n * 2 then 0 else elemC R0 R1 c)))) ⟨k9.alloc _, B9.alloc _, by rw [hy0, hy1]; exact D9.alloc _, ?_⟩ ?_
      · have e9 : (rowF (n * 2) (fun c => .int .u64 (if c < n * 2 then 0 else elemC R0 R1 c))) = rowF (n * 2) (fun _ => Value.int .u64 0) := rowF_congr fun c hc => by rw [if_pos hc]
        rw [e9, ← hg12]
        exact Blk.new _ _ _
      clear hmk k9 B9 D9 hg12
      rintro W10 ⟨k10, B10, D10, E10⟩
      have wn : IntKind.i64.wrap ((n : Int) - 1) = (n : Int) - 1 := IntWalk.i64_in _ (by omega)
      go_wp2_with fail
      go_loopw [13] (fun t wr => ∃ k : Nat, k ≤ n ∧ t = .int .i64 ((k : Int) - 1) ∧ Kept w wr ∧ Blk wr g6 28 (rowF (n * 2) (fun c => .int .u64 (elemC P0 P1 c))) ∧ Blk wr g10 28 #[.int .u64 (Y0 k), .int .u64 (Y1 k)] ∧ Blk wr g12 28 (rowF (n * 2) (fun c => .int .u64 (if c < k * 2 then 0 else elemC R0 R1 c)))) (fun t _ => (intOf t + 1).toNat)
      case atStart => exact ⟨n, Nat.le_refl _, rfl, k10, B10, D10, E10⟩
      case round =>
        clear k10 B10 D10 E10
        rename_i wr
        obtain ⟨k, hk, rfl, kw, B, D, F⟩ := hrel
        rcases Nat.eq_zero_or_pos k with hk0 | hk0
        · subst hk0
          have F' : Blk wr g12 28 (rowF (n * 2) (fun c => .int .u64 (elemC R0 R1 c))) := by rw [rowF_congr (g := fun c => Value.int .u64 (if c < 0 * 2 then 0 else elemC R0 R1 c)) fun c hc => by rw [if_neg (by omega)]]; exact F
          go_wp2_with fail
          go_ret2
          exact ⟨g12, rfl, nw12, kw, F'⟩
        · obtain ⟨j, rfl⟩ : ∃ j, k = j + 1 := ⟨k - 1, by omega⟩
          have ej : ((j + 1 : Nat) : Int) - 1 = (j : Int) := by omega
          rw [ej]
          clear ej
          have zj : (0 : Int) ≤ (j : Int) := by omega
          have yj : (j : Int) < (n : Int) := by omega
          have wj : IntKind.i64.wrap ((j : Int) - 1) = (j : Int) - 1 := IntWalk.i64_in _ (by omega)
          have HBj := Lib.hid (HB.out j (by omega))
          have HRj := Lib.hid (HRR.out j (by omega))
          have HO2 : Hid (∀ c, c < n * 2 → (if c < j * 2 then 0 else elemC R0 R1 c) = if c = j * 2 + 1 then R1 j else if c = j * 2 then R0 j else if c < (j + 1) * 2 then 0 else elemC R0 R1 c) := Lib.hid (out_step R0 R1 n j)
          have cb0 := B.at (i := j * 2) (by omega)
          have cb1 := B.at (i := j * 2 + 1) (by omega)
          rw [elemC_0] at cb0
          rw [elemC_1] at cb1
          have d0 := D.cell 0 rfl
          have d1 := D.cell 1 rfl
          obtain ⟨z0, hz0⟩ : ∃ x, Y0 j = x := ⟨_, rfl⟩
          obtain ⟨z1, hz1⟩ : ∃ x, Y1 j = x := ⟨_, rfl⟩
          rw [hz0, hz1] at HBj
          have HZ0 := Lib.hid hz0
          have HZ1 := Lib.hid hz1
          clear hz0 hz1
          generalize Y0 (j + 1) = t0 at D HBj HRj d0
          generalize Y1 (j + 1) = t1 at D HBj HRj d1
          generalize R0 j = r0 at HRj HO2
          generalize R1 j = r1 at HRj HO2
          generalize P0 j = s0 at cb0 HRj
          generalize P1 j = s1 at cb1 HRj
          go_upto_region 20 with (fail)
          refine wp_region_calm 10 (by kernel_rfl) (by kernel_rfl) ?_
          simp only [List.take_succ_cons, List.take_zero, List.drop_succ_cons, List.drop_zero]
          repeat (first
            | (refine calm_skip rfl ?_; simp only [Act.put, List.setIfInBounds_toArray, List.set_cons_zero, List.set_cons_succ])
            | (refine calm_ex rfl ?_; apply Exists.intro; refine And.intro (fun w' hk => ?_) ?_; (focus (have q0 := hk.cell cb0; have q1 := hk.cell cb1; have q2 := hk.cell d0; have q3 := hk.cell d1; clear hk; go_simp; exact rfl)); simp only [Act.put, List.setIfInBounds_toArray, List.set_cons_zero, List.set_cons_succ])
            | (refine calm_step _ rfl (HRj.out.call ?_) ?_; (focus (intro w'; go_simp; done)); simp only [Act.put, List.setIfInBounds_toArray, List.set_cons_zero, List.set_cons_succ]))
          refine calm_nil ?_
          intro W11 hkW11
          have k11 := kw.trans hkW11
          have B11 := B.kept hkW11
          have D11 := D.kept hkW11
          have F11 := F.kept hkW11
          clear cb0 cb1 d0 d1 kw B D F hkW11
          have f0 := F11.at (i := j * 2) (by omega)
          have f1 := F11.at (i := j * 2 + 1) (by omega)
          have fr := F11.free
          go_upto_region 21 with (fail)
          refine abs_world (fun W => Kept w W ∧ Blk W g6 28 (rowF (n * 2) (fun c => .int .u64 (elemC P0 P1 c))) ∧ Blk W g10 28 #[.int .u64 t0, .int .u64 t1] ∧ Blk W g12 28 (rowF (n * 2) (fun c => .int .u64 (if c < j * 2 then 0 else elemC R0 R1 c)))) ⟨?_, ?_, ?_, ?_⟩ ?_
          · exact (k11.setCell (kept_side nw12) _).setCell (kept_side nw12) _
          · exact (B11.set_other (by omega) _).set_other (by omega) _
          · exact (D11.set_other (by omega) _).set_other (by omega) _
          · refine (F11.set (g := fun c => .int .u64 (if c = j * 2 then r0 else if c < (j + 1) * 2 then 0 else elemC R0 R1 c)) (by omega) fun c hc => ?_).set (by omega) fun c hc => ?_
            · split <;> rfl
            · rw [HO2.out c hc]; split <;> rfl
          clear f0 f1 fr k11 B11 D11 F11
          rintro W12 ⟨k12, B12, D12, F12⟩
          obtain ⟨p, hip, cp0, cp1, _⟩ := (hA.kept k12).at' j (by omega)
          have d0 := D12.cell 0 rfl
          have d1 := D12.cell 1 rfl
          generalize C0 j = c0 at cp0 HBj
          generalize C1 j = c1 at cp1 HBj
          refine wp_region_calm 7 (by kernel_rfl) (by kernel_rfl) ?_
          simp only [List.take_succ_cons, List.take_zero, List.drop_succ_cons, List.drop_zero]
          repeat (first
            | (refine calm_skip rfl ?_; simp only [Act.put, List.setIfInBounds_toArray, List.set_cons_zero, List.set_cons_succ])
            | (refine calm_step _ rfl (calm_load_elem (.tmp 76) cp0 cp1 rfl rfl) ?_; simp only [Act.put, List.setIfInBounds_toArray, List.set_cons_zero, List.set_cons_succ])
            | (refine calm_ex rfl ?_; apply Exists.intro; refine And.intro (fun w' hk => ?_) ?_; (focus (have q0 := hk.cell cp0; have q1 := hk.cell cp1; have q2 := hk.cell d0; have q3 := hk.cell d1; clear hk; go_simp; exact rfl)); simp only [Act.put, List.setIfInBounds_toArray, List.set_cons_zero, List.set_cons_succ])
            | (refine calm_step _ rfl (HBj.out.call ?_) ?_; (focus (intro w'; go_simp; done)); simp only [Act.put, List.setIfInBounds_toArray, List.set_cons_zero, List.set_cons_succ]))
          refine calm_nil ?_
          intro W13 hkW13
          have k13 := k12.trans hkW13
          have B13 := B12.kept hkW13
          have D13 := D12.kept hkW13
          have F13 := F12.kept hkW13
          clear cp0 cp1 d0 d1 k12 B12 D12 F12 hkW13
          have d0 := D13.cell 0 rfl
          have d1 := D13.cell 1 rfl
          have fr := D13.free
          go_wp2_with fail
          go_roundw
          case rel =>
            refine ⟨j, by omega, rfl, (k13.setCell (kept_side nw10) _).setCell (kept_side nw10) _, (B13.set_other (by omega) _).set_other (by omega) _, ?_, (F13.set_other (by omega) _).set_other (by omega) _⟩
            rw [HZ0.out, HZ1.out]
            simp [Blk, *]
          case measure => (simp [intOf]) <;> omega

end Go.Proofs.Ytnajihlhcdedgaa
