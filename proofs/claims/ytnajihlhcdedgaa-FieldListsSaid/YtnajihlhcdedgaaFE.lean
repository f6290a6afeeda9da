/-
  Powers, F, Awake.
-/
import Derived.Test.YtnajihlhcdedgaaFD
namespace Go.Proofs.Ytnajihlhcdedgaa
open Go.RowKit
set_option linter.unusedVariables false
set_option linter.unusedSimpArgs false
attribute [local simp] blkAt_setCell blkAt_alloc blkAt_drew Obj.put_cells

/-- The cells of the first n elements. -/
def elist (C0 C1 : Nat → Int) (n : Nat) : List Value := (List.range (n * 2)).map fun c => Value.int .u64 (elemC C0 C1 c)
theorem elist_succ (C0 C1 : Nat → Int) (i : Nat) : elist C0 C1 (i + 1) = elist C0 C1 i ++ [.int .u64 (C0 i), .int .u64 (C1 i)] := by
  unfold elist
  rw [show (i + 1) * 2 = i * 2 + 1 + 1 by omega, List.range_succ, List.range_succ, List.map_append, List.map_append, List.map_singleton, List.map_singleton, elemC_0, elemC_1, List.append_assoc]
  rfl
theorem SlE.of_own {w : World} {base n : Nat} {v : Value} {C0 C1 : Nat → Int} (h : w.ownsRow base 28 2 v n (elist C0 C1 n)) : ∃ a c, v = .slice a n c ∧ SlE w a n c w.heap.size C0 C1 := by
  rcases h.2 with ⟨rfl, rfl⟩ | ⟨g, cap, cur, rfl, _⟩
  · exact ⟨none, 0, rfl, ⟨fun j hj => absurd hj (Nat.not_lt_zero _)⟩⟩
  · refine ⟨_, cap, rfl, ⟨fun j hj => ?_⟩⟩
    have c0 := h.cells (g := g) rfl (j * 2) (Value.int .u64 (C0 j)) (by unfold elist; rw [List.getElem?_map, List.getElem?_range (by omega), Option.map_some, elemC_0])
    have c1 := h.cells (g := g) rfl (j * 2 + 1) (Value.int .u64 (C1 j)) (by unfold elist; rw [List.getElem?_map, List.getElem?_range (by omega), Option.map_some, elemC_1])
    have a0 : (⟨g, 0, none⟩ : Addr).add (j * 2) = ⟨g, j * 2, none⟩ := by rw [Addr.add_lit]; simp
    have a1 : (⟨g, 0, none⟩ : Addr).add (j * 2 + 1) = ⟨g, j * 2 + 1, none⟩ := by rw [Addr.add_lit]; simp
    rw [a0] at c0
    rw [a1] at c1
    exact ⟨⟨g, j * 2, none⟩, fun w' => by rw [run_index_at90 hj w', a0], c0, by rw [Addr.add_lit]; exact c1, block_lt_of_cell c0⟩

set_option maxRecDepth 100000 in
set_option maxHeartbeats 4000000 in
theorem f_Powers_pos (w : World) (f a0 a1 : Int) (K : Nat) (hK : K ≤ 4096) (P0 P1 : Nat → Int) (h00 : P0 0 = 1) (h01 : P1 0 = 0) (hO : Pure Try.prog 105 #[.int .u8 f] (.agg #[.int .u64 1, .int .u64 0]))
    (HG : Hid (∀ j, j < K → Pure Try.prog 102 #[.int .u8 f, .agg #[.int .u64 (P0 j), .int .u64 (P1 j)], .agg #[.int .u64 a0, .int .u64 a1]] (.agg #[.int .u64 (P0 (j + 1)), .int .u64 (P1 (j + 1))]))) :
    Calls Try.prog 81 #[.int .u8 f, .agg #[.int .u64 a0, .int .u64 a1], .int .i64 (K : Int)] w fun e w' => ∃ v, e = .returned v ∧ Kept w w' ∧ w'.ownsRow w.heap.size 28 2 v K (elist P0 P1 K) := by
  have HO := Lib.hid hO
  clear hO
  have hK2 : (K : Int) ≤ 4096 := by omega
  have hK0 : (0 : Int) ≤ (K : Int) := by omega
  go_enter Try.func81, Try.ntmps81
  go_wp2_with fail
  refine abs_calls (fun W => Kept w W ∧ Blk W (w.heap.size) 28 #[.int .u64 a0, .int .u64 a1]) ?_ ?_
  · refine ⟨?_, ?_⟩
    · repeat (first | exact Kept.refl _ | (refine Kept.setCell ?_ (kept_side (by first | assumption | omega)) _) | apply Kept.alloc | apply Kept.drew)
    · simp [Blk, *] <;> (intros; omega)
  rintro W1 ⟨kW1, BW1_0⟩
  have cW1_0_0 : W1.cell? ⟨w.heap.size, 0, none⟩ = some (.int .u64 a0) := BW1_0.cell 0 rfl
  have cW1_0_1 : W1.cell? ⟨w.heap.size, 1, none⟩ = some (.int .u64 a1) := BW1_0.cell 1 rfl
  have fW1_0 := BW1_0.free
  refine (HO.out _).mono ?_
  rintro e W2 ⟨rfl, hkW2⟩
  have kW2 := kW1.trans hkW2
  have BW2_0 := BW1_0.kept hkW2
  clear cW1_0_0 cW1_0_1 fW1_0 BW1_0 kW1 hkW2
  have cW2_0_0 : W2.cell? ⟨w.heap.size, 0, none⟩ = some (.int .u64 a0) := BW2_0.cell 0 rfl
  have cW2_0_1 : W2.cell? ⟨w.heap.size, 1, none⟩ = some (.int .u64 a1) := BW2_0.cell 1 rfl
  have fW2_0 := BW2_0.free
  obtain ⟨g8, hg8⟩ : ∃ b, W2.heap.size = b := ⟨_, rfl⟩
  have neg8_0 : w.heap.size ≠ g8 := by have := BW2_0.lt; omega
  have eng8_0 : g8 ≠ w.heap.size := neg8_0.symm
  have log8 : w.heap.size ≤ g8 := hg8 ▸ kW2.size
  go_upto_region 3 with (fail)
  refine abs_world (fun W => Kept w W ∧ Blk W (w.heap.size) 28 #[.int .u64 a0, .int .u64 a1] ∧ Blk W (g8) 28 #[.int .u64 1, .int .u64 0]) ?_ ?_
  · refine ⟨?_, ?_, ?_⟩
    · repeat (first | exact kW2 | (refine Kept.setCell ?_ (kept_side (by first | assumption | omega)) _) | apply Kept.alloc | apply Kept.drew)
    · simp [Blk, *] <;> (intros; omega)
    · simp [Blk, *] <;> (intros; omega)
  rintro W3 ⟨kW3, BW3_0, BW3_1⟩
  have cW3_0_0 : W3.cell? ⟨w.heap.size, 0, none⟩ = some (.int .u64 a0) := BW3_0.cell 0 rfl
  have cW3_0_1 : W3.cell? ⟨w.heap.size, 1, none⟩ = some (.int .u64 a1) := BW3_0.cell 1 rfl
  have fW3_0 := BW3_0.free
  have cW3_1_0 : W3.cell? ⟨g8, 0, none⟩ = some (.int .u64 1) := BW3_1.cell 0 rfl
  have cW3_1_1 : W3.cell? ⟨g8, 1, none⟩ = some (.int .u64 0) := BW3_1.cell 1 rfl
  have fW3_1 := BW3_1.free
  obtain ⟨gb, hgb⟩ : ∃ gb, W3.heap.size = gb := ⟨_, rfl⟩
  have l0 : w.heap.size < gb := hgb ▸ BW3_0.lt
  have l1 : g8 < gb := hgb ▸ BW3_1.lt
  go_wp2_with fail
  go_loopw [7, 14] (fun v t wr => ∃ i : Nat, i ≤ K ∧ t = .int .i64 i ∧ Kept w wr ∧ Blk wr (w.heap.size) 28 #[.int .u64 a0, .int .u64 a1] ∧ Blk wr g8 28 #[.int .u64 (P0 i), .int .u64 (P1 i)] ∧ wr.ownsRow gb 28 2 v i (elist P0 P1 i) ∧ gb ≤ wr.heap.size) (fun _ t _ => K - (intOf t).toNat)
  case atStart => exact ⟨0, Nat.zero_le _, rfl, kW3, BW3_0, by rw [h00, h01]; exact BW3_1, World.ownsRow_nil _ _ _ _, by omega⟩
  case round =>
    obtain ⟨i, hi, rfl, kwr, Bwr_0, Bwr_1, hown, hgs⟩ := hrel
    clear cW3_0_0 cW3_0_1 cW3_1_0 cW3_1_1 fW3_0 BW3_0 fW3_1 BW3_1 kW3 hgb
    have zi : (0 : Int) ≤ (i : Int) := by omega
    rcases Nat.lt_or_ge i K with hlt | hge
    · have yi : (i : Int) < (K : Int) := by omega
      have HGi := Lib.hid (HG.out i hlt)
      have HE := Lib.hid (elist_succ P0 P1 i)
      obtain ⟨s2, hs2⟩ : ∃ x, P0 (i + 1) = x := ⟨_, rfl⟩
      obtain ⟨s3, hs3⟩ : ∃ x, P1 (i + 1) = x := ⟨_, rfl⟩
      rw [hs2, hs3] at HGi
      have HS2 := Lib.hid hs2
      have HS3 := Lib.hid hs3
      clear hs2 hs3
      generalize P0 i = s0 at *
      generalize P1 i = s1 at *
      have cwr_0_0 : wr.cell? ⟨w.heap.size, 0, none⟩ = some (.int .u64 a0) := Bwr_0.cell 0 rfl
      have cwr_0_1 : wr.cell? ⟨w.heap.size, 1, none⟩ = some (.int .u64 a1) := Bwr_0.cell 1 rfl
      have fwr_0 := Bwr_0.free
      have cwr_1_0 : wr.cell? ⟨g8, 0, none⟩ = some (.int .u64 s0) := Bwr_1.cell 0 rfl
      have cwr_1_1 : wr.cell? ⟨g8, 1, none⟩ = some (.int .u64 s1) := Bwr_1.cell 1 rfl
      have fwr_1 := Bwr_1.free
      obtain ⟨va, vn, vc, rfl⟩ := ownsRow_slice hown
      go_upto_region 6 with (at_builtin; refine wpList_append_one 90 28 info28 Try.underlying90 rfl (by decide) hown [.int .u64 s0, .int .u64 s1] rfl (by intro u hu; simp at hu; rcases hu with rfl | rfl <;> rfl) (by omega) (by decide) hgs (.tmp 16) (.tmp 18) rfl rfl rfl rfl ?_; intro v' w1 hown3 hgrow hne)
      have kw1 := grown_kept kwr hown hgrow (by omega)
      have Bw1_0 := grown_blk Bwr_0 hown hgrow (by omega)
      have Bw1_1 := grown_blk Bwr_1 hown hgrow (by omega)
      have hgs1 : gb ≤ w1.heap.size := Nat.le_trans hgs hgrow.size
      clear hown hgrow kwr cwr_0_0 cwr_0_1 cwr_1_0 cwr_1_1 fwr_0 Bwr_0 fwr_1 Bwr_1 hgs
      have cw1_0_0 : w1.cell? ⟨w.heap.size, 0, none⟩ = some (.int .u64 a0) := Bw1_0.cell 0 rfl
      have cw1_0_1 : w1.cell? ⟨w.heap.size, 1, none⟩ = some (.int .u64 a1) := Bw1_0.cell 1 rfl
      have fw1_0 := Bw1_0.free
      have cw1_1_0 : w1.cell? ⟨g8, 0, none⟩ = some (.int .u64 s0) := Bw1_1.cell 0 rfl
      have cw1_1_1 : w1.cell? ⟨g8, 1, none⟩ = some (.int .u64 s1) := Bw1_1.cell 1 rfl
      have fw1_1 := Bw1_1.free
      go_wp2_with fail
      refine (HGi.out _).mono ?_
      rintro e W4 ⟨rfl, hkW4⟩
      have hown4 := ownsRow_kept hown3 hkW4
      have hgs2 : gb ≤ W4.heap.size := Nat.le_trans hgs1 hkW4.size
      clear hown3 hgs1
      have kW4 := kw1.trans hkW4
      have BW4_0 := Bw1_0.kept hkW4
      have BW4_1 := Bw1_1.kept hkW4
      clear cw1_0_0 cw1_0_1 cw1_1_0 cw1_1_1 fw1_0 fw1_1 Bw1_0 Bw1_1 kw1 hkW4
      have cW4_0_0 : W4.cell? ⟨w.heap.size, 0, none⟩ = some (.int .u64 a0) := BW4_0.cell 0 rfl
      have cW4_0_1 : W4.cell? ⟨w.heap.size, 1, none⟩ = some (.int .u64 a1) := BW4_0.cell 1 rfl
      have fW4_0 := BW4_0.free
      have cW4_1_0 : W4.cell? ⟨g8, 0, none⟩ = some (.int .u64 s0) := BW4_1.cell 0 rfl
      have cW4_1_1 : W4.cell? ⟨g8, 1, none⟩ = some (.int .u64 s1) := BW4_1.cell 1 rfl
      have fW4_1 := BW4_1.free
      go_wp2_with fail
      go_roundw
      case rel =>
        refine ⟨i + 1, by omega, by go_num, ?_, ?_, ?_, ?_, ?_⟩
        · exact (kW4.setCell (kept_side (by omega)) _).setCell (kept_side (by omega)) _
        · simp [Blk, *]
        · rw [HS2.out, HS3.out]; simp [Blk, *]
        · rw [HE.out]; exact ownsRow_touch (ownsRow_touch hown4 (Touch.set _ _ _ _) l1) (Touch.set _ _ _ _) l1
        · simpa [World.setCell] using hgs2
      case measure => simp [intOf]; omega
    · have yi : (K : Int) ≤ (i : Int) := by omega
      obtain rfl : i = K := by omega
      clear Bwr_0 Bwr_1
      go_wp2_with fail
      go_ret
      exact ⟨_, rfl, kwr, ownsRow_base hown (by omega)⟩

set_option maxRecDepth 100000 in
set_option maxHeartbeats 4000000 in
theorem f_Powers_neg (w : World) (f a0 a1 : Int) (many : Int) (hm : many < 0) (hO : Pure Try.prog 105 #[.int .u8 f] (.agg #[.int .u64 1, .int .u64 0])) :
    Calls Try.prog 81 #[.int .u8 f, .agg #[.int .u64 a0, .int .u64 a1], .int .i64 many] w fun e w' => ∃ v, e = .returned v ∧ Kept w w' ∧ w'.ownsRow w.heap.size 28 2 v 0 [] := by
  have HO := Lib.hid hO
  clear hO
  go_enter Try.func81, Try.ntmps81
  go_wp2_with fail
  refine abs_calls (fun W => Kept w W ∧ Blk W (w.heap.size) 28 #[.int .u64 a0, .int .u64 a1]) ?_ ?_
  · refine ⟨?_, ?_⟩
    · repeat (first | exact Kept.refl _ | (refine Kept.setCell ?_ (kept_side (by first | assumption | omega)) _) | apply Kept.alloc | apply Kept.drew)
    · simp [Blk, *] <;> (intros; omega)
  rintro W1 ⟨kW1, BW1_0⟩
  have cW1_0_0 : W1.cell? ⟨w.heap.size, 0, none⟩ = some (.int .u64 a0) := BW1_0.cell 0 rfl
  have cW1_0_1 : W1.cell? ⟨w.heap.size, 1, none⟩ = some (.int .u64 a1) := BW1_0.cell 1 rfl
  have fW1_0 := BW1_0.free
  refine (HO.out _).mono ?_
  rintro e W2 ⟨rfl, hkW2⟩
  have kW2 := kW1.trans hkW2
  have BW2_0 := BW1_0.kept hkW2
  clear cW1_0_0 cW1_0_1 fW1_0 BW1_0 kW1 hkW2
  have cW2_0_0 : W2.cell? ⟨w.heap.size, 0, none⟩ = some (.int .u64 a0) := BW2_0.cell 0 rfl
  have cW2_0_1 : W2.cell? ⟨w.heap.size, 1, none⟩ = some (.int .u64 a1) := BW2_0.cell 1 rfl
  have fW2_0 := BW2_0.free
  go_wp2_with fail
  refine wp_loop_rounds 1 ?_; rw [rounds_succ]; go_wp2_with fail
  go_ret
  refine ⟨_, rfl, ?_, World.ownsRow_nil _ _ _ _⟩
  repeat (first | exact kW2 | (refine Kept.setCell ?_ (kept_side (by first | assumption | omega)) _) | apply Kept.alloc | apply Kept.drew)


/-- Which field. -/
def fOf (n : Int) : Int := 1 + n % 2
theorem isF_fOf {n : Int} (h : 0 ≤ n) : isF (fOf n) := by unfold isF fOf; omega
set_option maxRecDepth 100000 in
set_option maxHeartbeats 4000000 in
theorem f_F {n : Int} (h0 : 0 ≤ n) (h1 : n ≤ 255) : Pure Try.prog 77 #[.int .u8 n] (.int .u8 (fOf n)) := fun w => by
  obtain ⟨m, hm, hm2⟩ : ∃ m : Nat, n % 2 = (m : Int) ∧ m < 2 := ⟨(n % 2).toNat, by omega, by omega⟩
  have e1 : n.tmod 2 = (m : Int) := by rw [Int.tmod_eq_emod_of_nonneg h0]; exact hm
  have w1 : IntKind.u8.wrap (m : Int) = (m : Int) := by simp [IntKind.wrap, IntKind.bits, IntKind.signed]; omega
  have w2 : IntKind.u8.wrap (1 + (m : Int)) = 1 + (m : Int) := by simp [IntKind.wrap, IntKind.bits, IntKind.signed]; omega
  have HF : Hid (fOf n = 1 + (m : Int)) := Lib.hid (by unfold fOf; rw [hm])
  go_enter Try.func77, Try.ntmps77
  go_wp2_with fail
  refine bodyPost_ret (v := .int .u8 (fOf n)) (by rw [HF.out]; simp [results, Try.results77, go_sem, *]) rfl ⟨rfl, Kept.refl w⟩

/-! ### Over the elements as numbers -/
/-- A slice that reads as the numbers x 0, .. -/
abbrev SlX (w : World) (a : Option Addr) (n cap N : Nat) (x : Nat → Int) : Prop := SlE w a n cap N (fun j => x j % 18446744073709551616) (fun j => x j / 18446744073709551616)
/-- The sum of the first j. -/
def sumF (f : Int) (x : Nat → Int) : Nat → Int
  | 0 => 0
  | j + 1 => (rOf f (sumF f x j) + rOf f (x j)) % rP f
def mulF (f : Int) (x y : Nat → Int) (j : Nat) : Int := (rOf f (x j) * rOf f (y j)) % rP f
def addF (f : Int) (x y : Nat → Int) (j : Nat) : Int := (rOf f (x j) + rOf f (y j)) % rP f
def subF (f : Int) (x y : Nat → Int) (j : Nat) : Int := (rOf f (x j) - rOf f (y j)) % rP f
def powF (f : Int) (a : Int) : Nat → Int
  | 0 => 1
  | j + 1 => (rOf f (powF f a j) * rOf f a) % rP f
theorem is128_sumF (f : Int) (x : Nat → Int) : ∀ j, is128 (sumF f x j)
  | 0 => is128_0
  | _ + 1 => is128_emod f _
theorem is128_powF (f : Int) (a : Int) : ∀ j, is128 (powF f a j)
  | 0 => is128_1
  | _ + 1 => is128_emod f _
theorem f_Sum {f : Int} (hf : isF f) (w : World) {a : Option Addr} {n cap N : Nat} {x : Nat → Int} (hn : n ≤ 4096) (hx : ∀ j, j < n → is128 (x j)) (hA : SlX w a n cap N x) :
    Calls Try.prog 82 #[.int .u8 f, .slice a n cap] w fun e w' => e = .returned (E (sumF f x n)) ∧ Kept w w' :=
  f_Sum_r w f a n cap N _ _ (fun j => sumF f x j % 18446744073709551616) (fun j => sumF f x j / 18446744073709551616) hn hA rfl rfl (Lib.hid fun j hj => f_Add hf (is128_sumF f x j) (hx j hj))
theorem f_Dot {f : Int} (hf : isF f) (w : World) {a b : Option Addr} {n cap capb N : Nat} {x y : Nat → Int} (hn : n ≤ 4096) (hx : ∀ j, j < n → is128 (x j)) (hy : ∀ j, j < n → is128 (y j)) (hA : SlX w a n cap N x) (hB : SlX w b n capb N y) :
    Calls Try.prog 80 #[.int .u8 f, .slice a n cap, .slice b n capb] w fun e w' => e = .returned (.tuple #[E (sumF f (mulF f x y) n), .int .i64 0]) ∧ Kept w w' :=
  f_Dot_r w f a n cap N b capb _ _ _ _ (fun j => mulF f x y j % 18446744073709551616) (fun j => mulF f x y j / 18446744073709551616) (fun j => sumF f (mulF f x y) j % 18446744073709551616) (fun j => sumF f (mulF f x y) j / 18446744073709551616) hn hA hB rfl rfl
    (Lib.hid fun j hj => f_Mul hf (hx j hj) (hy j hj)) (Lib.hid fun j hj => f_Add hf (is128_sumF f _ j) (is128_emod f _))
theorem f_AddVec {f : Int} (hf : isF f) (w : World) {a b : Option Addr} {n cap capb N : Nat} {x y : Nat → Int} (hn : n ≤ 4096) (hx : ∀ j, j < n → is128 (x j)) (hy : ∀ j, j < n → is128 (y j)) (hA : SlX w a n cap N x) (hB : SlX w b n capb N y) :
    Calls Try.prog 78 #[.int .u8 f, .slice a n cap, .slice b n capb] w fun e w' => ∃ g, e = .returned (.tuple #[.slice (some ⟨g, 0, none⟩) n n, .int .i64 0]) ∧ Kept w w' ∧ SlX w' (some ⟨g, 0, none⟩) n n w'.heap.size (addF f x y) :=
  (f_AddVec_r w f a n cap N b capb _ _ _ _ (fun j => addF f x y j % 18446744073709551616) (fun j => addF f x y j / 18446744073709551616) hn hA hB (Lib.hid fun j hj => f_Add hf (hx j hj) (hy j hj))).mono
    fun e w' ⟨g, h1, h2, h3, h4⟩ => ⟨g, h1, h3, (SlE.of_blk h4 (Nat.le_refl _)).mono h4.lt⟩
theorem f_SubVec {f : Int} (hf : isF f) (w : World) {a b : Option Addr} {n cap capb N : Nat} {x y : Nat → Int} (hn : n ≤ 4096) (hx : ∀ j, j < n → is128 (x j)) (hy : ∀ j, j < n → is128 (y j)) (hA : SlX w a n cap N x) (hB : SlX w b n capb N y) :
    Calls Try.prog 79 #[.int .u8 f, .slice a n cap, .slice b n capb] w fun e w' => ∃ g, e = .returned (.tuple #[.slice (some ⟨g, 0, none⟩) n n, .int .i64 0]) ∧ Kept w w' ∧ SlX w' (some ⟨g, 0, none⟩) n n w'.heap.size (subF f x y) :=
  (f_SubVec_r w f a n cap N b capb _ _ _ _ (fun j => subF f x y j % 18446744073709551616) (fun j => subF f x y j / 18446744073709551616) hn hA hB (Lib.hid fun j hj => f_Sub hf (hx j hj) (hy j hj))).mono
    fun e w' ⟨g, h1, h2, h3, h4⟩ => ⟨g, h1, h3, (SlE.of_blk h4 (Nat.le_refl _)).mono h4.lt⟩
theorem f_Powers {f : Int} (hf : isF f) (w : World) {a many : Int} (ha : is128 a) (hm : many ≤ 4096) :
    Calls Try.prog 81 #[.int .u8 f, E a, .int .i64 many] w fun e w' => ∃ ad c, e = .returned (.slice ad many.toNat c) ∧ Kept w w' ∧ SlX w' ad many.toNat c w'.heap.size (powF f a) := by
  have hO := f_One hf
  rw [E_one] at hO
  by_cases h : many < 0
  · refine (f_Powers_neg w f (a % 18446744073709551616) (a / 18446744073709551616) many h hO).mono ?_
    rintro e w' ⟨v, rfl, h1, h2⟩
    obtain ⟨ad, c, rfl, h3⟩ := SlE.of_own (C0 := fun j => powF f a j % 18446744073709551616) (C1 := fun j => powF f a j / 18446744073709551616) h2
    rw [show many.toNat = 0 by omega]
    exact ⟨ad, c, rfl, h1, h3⟩
  · obtain ⟨K, rfl⟩ : ∃ K : Nat, many = (K : Int) := ⟨many.toNat, by omega⟩
    refine (f_Powers_pos w f (a % 18446744073709551616) (a / 18446744073709551616) K (by omega) (fun j => powF f a j % 18446744073709551616) (fun j => powF f a j / 18446744073709551616) rfl rfl hO (Lib.hid fun j hj => f_Mul hf (is128_powF f a j) ha)).mono ?_
    rintro e w' ⟨v, rfl, h1, h2⟩
    obtain ⟨ad, c, rfl, h3⟩ := SlE.of_own h2
    exact ⟨ad, c, rfl, h1, h3⟩
end Go.Proofs.Ytnajihlhcdedgaa
