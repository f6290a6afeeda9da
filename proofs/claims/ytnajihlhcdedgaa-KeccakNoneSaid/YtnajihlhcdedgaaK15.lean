/-
  The reference's add; blocks of bytes, and what comes out, in plain words.
-/
import Derived.Test.YtnajihlhcdedgaaK14
namespace Go.Proofs.Ytnajihlhcdedgaa
open Go.RowKit
set_option linter.unusedVariables false
set_option linter.unusedSimpArgs false

/-- i bytes from place 0 on. -/
def chain (s : Nat → Int) (D : Nat → Int) : Nat → Nat → Int
  | 0 => s
  | i + 1 => kflip (chain s D i) i (D i)
/-- The lanes behind k whole blocks, permuted. -/
def blockS (C : Nat → Int) : Nat → Nat → Int
  | 0 => fun _ => 0
  | k + 1 => kperm 12 (chain (blockS C k) (fun i => C (168 * k + i)) 168)
/-- The lanes ahead of the last permutation: r bytes behind k blocks, and the end. -/
def preS (C : Nat → Int) (k r : Nat) (d : Int) : Nat → Int := kflip (kflip (norm (chain (blockS C k) (fun i => C (168 * k + i)) r) r) (normA r) d) 167 128
/-- j permutations more. -/
def sq (s : Nat → Int) : Nat → Nat → Int
  | 0 => s
  | j + 1 => kperm 12 (sq s j)
/-- Byte i of what comes out. -/
def rbyte (s : Nat → Int) (i : Nat) : Int := byteAt (sq s (i / 168 + 1)) (i % 168)
def rbytes (s : Nat → Int) (i : Nat) : List Value := (List.range i).map fun i => Value.int .u8 (rbyte s i)

theorem chain_in {s D : Nat → Int} (h : ∀ i, i < 25 → in64 (s i)) : ∀ n, ∀ i, i < 25 → in64 (chain s D n i)
  | 0 => h
  | n + 1 => kflip_in (chain_in h n) n (D n)
theorem blockS_in (C : Nat → Int) : ∀ k, ∀ i, i < 25 → in64 (blockS C k i)
  | 0 => fun i _ => by unfold blockS in64; omega
  | k + 1 => fun i _ => kround_in _ _ _
theorem sq_in {s : Nat → Int} (h : ∀ i, i < 25 → in64 (s i)) : ∀ n, ∀ i, i < 25 → in64 (sq s n i)
  | 0 => h
  | n + 1 => fun i _ => kround_in _ _ _

theorem takes_in {C : Nat → Int} {k : Nat} (h : norm (takes C (fun _ => 0) 0 (168 * k)).1 (takes C (fun _ => 0) 0 (168 * k)).2 = blockS C k ∧ normA (takes C (fun _ => 0) 0 (168 * k)).2 = 0) :
    ∀ i, i < 168 → takes C (fun _ => 0) 0 (168 * k + (i + 1)) = (chain (blockS C k) (fun i => C (168 * k + i)) (i + 1), i + 1)
  | 0, _ => by
    show takes C (fun _ => 0) 0 (168 * k + 1) = _
    simp only [takes, h.1, h.2, chain, Nat.add_zero, Nat.zero_add]
  | i + 1, hi => by
    have ih := takes_in h i (by omega)
    rw [← Nat.add_assoc, takes, ih]
    simp only [norm, normA]
    rw [if_neg (by omega), if_neg (by omega)]
    rfl
theorem takes_block (C : Nat → Int) : ∀ k, norm (takes C (fun _ => 0) 0 (168 * k)).1 (takes C (fun _ => 0) 0 (168 * k)).2 = blockS C k ∧ normA (takes C (fun _ => 0) 0 (168 * k)).2 = 0
  | 0 => ⟨rfl, rfl⟩
  | k + 1 => by
    have h := takes_in (takes_block C k) 167 (by omega)
    rw [show 168 * (k + 1) = 168 * k + (167 + 1) by omega, h]
    exact ⟨rfl, rfl⟩
theorem hashS_pre (C : Nat → Int) (k r : Nat) (d : Int) (hr : r ≤ 168) (h0 : k = 0 ∨ 0 < r) : hashS C (168 * k + r) d = kperm 12 (preS C k r d) := by
  unfold hashS kend preS
  rcases Nat.eq_zero_or_pos r with rfl | hp
  · obtain rfl : k = 0 := by omega
    rfl
  · obtain ⟨i, rfl⟩ : ∃ i, r = i + 1 := ⟨r - 1, by omega⟩
    rw [takes_in (takes_block C k) i (by omega)]
theorem gives_in' {s : Nat → Int} {j : Nat} (h : norm (gives (kperm 12 s) 0 (168 * j)).1 (gives (kperm 12 s) 0 (168 * j)).2 = sq s (j + 1) ∧ normA (gives (kperm 12 s) 0 (168 * j)).2 = 0) :
    ∀ i, i < 168 → gives (kperm 12 s) 0 (168 * j + (i + 1)) = (sq s (j + 1), i + 1)
  | 0, _ => by
    show gives (kperm 12 s) 0 (168 * j + 1) = _
    simp only [gives, h.1, h.2]
  | i + 1, hi => by
    have ih := gives_in' h i (by omega)
    rw [← Nat.add_assoc, gives, ih]
    simp only [norm, normA]
    rw [if_neg (by omega), if_neg (by omega)]
theorem gives_block (s : Nat → Int) : ∀ j, norm (gives (kperm 12 s) 0 (168 * j)).1 (gives (kperm 12 s) 0 (168 * j)).2 = sq s (j + 1) ∧ normA (gives (kperm 12 s) 0 (168 * j)).2 = 0
  | 0 => ⟨rfl, rfl⟩
  | j + 1 => by
    have h := gives_in' (gives_block s j) 167 (by omega)
    rw [show 168 * (j + 1) = 168 * j + (167 + 1) by omega, h]
    exact ⟨rfl, rfl⟩
theorem outs_rbyte (s : Nat → Int) (i : Nat) : outs (kperm 12 s) 0 i = rbyte s i := by
  obtain ⟨j, t, ht, rfl⟩ : ∃ j t, t < 168 ∧ i = 168 * j + t := ⟨i / 168, i % 168, Nat.mod_lt _ (by omega), by omega⟩
  have e1 : (168 * j + t) / 168 = j := by omega
  have e2 : (168 * j + t) % 168 = t := by omega
  unfold outs rbyte
  rw [e1, e2]
  rcases Nat.eq_zero_or_pos t with rfl | hp
  · have h := gives_block s j
    rw [Nat.add_zero, h.1, h.2]
  · obtain ⟨i, rfl⟩ : ∃ i, t = i + 1 := ⟨t - 1, by omega⟩
    rw [gives_in' (gives_block s j) i (by omega)]
    simp only [norm, normA]
    rw [if_neg (by omega), if_neg (by omega)]
theorem hashV_rbytes (C : Nat → Int) (k r : Nat) (d : Int) (hr : r ≤ 168) (h0 : k = 0 ∨ 0 < r) (many : Nat) : hashV C (168 * k + r) d many = rbytes (preS C k r d) many := by
  unfold hashV outsV rbytes
  rw [hashS_pre C k r d hr h0]
  exact List.map_congr_left fun i _ => by rw [outs_rbyte]
theorem byteAt_256 (s : Nat → Int) (a : Nat) : byteAt s a = s (a / 8) / 256 ^ (a % 8) % 256 := by
  unfold byteAt
  rw [Int.pow_mul]
  rfl

set_option maxRecDepth 100000 in
set_option maxHeartbeats 4000000 in
theorem r_add (s : Nat → Int) (a : Nat) (ha : a < 200) (c : Int) (c0 : 0 ≤ c) (c1 : c ≤ 255) : Pure Try.prog 126 #[.agg (rowF 25 (fun p => .int .u64 (s p))), .int .i64 (a : Int), .int .u8 c] (.agg (rowF 25 (fun p => .int .u64 (kflip s a c p)))) := fun w => by
  obtain ⟨q, hq, hq25⟩ : ∃ q, a / 8 = q ∧ q < 25 := ⟨_, rfl, by omega⟩
  obtain ⟨r, hr, hr8⟩ : ∃ r, a % 8 = r ∧ r < 8 := ⟨_, rfl, by omega⟩
  obtain ⟨m, hm, hm56⟩ : ∃ m, 8 * r = m ∧ m ≤ 56 := ⟨_, rfl, by omega⟩
  have e1 : (a : Int).tdiv 8 = (q : Int) := by rw [Int.tdiv_eq_ediv_of_nonneg (by omega)]; omega
  have e1' : (a : Int) / 8 = (q : Int) := by omega
  have e2 : (a : Int).tmod 8 = (r : Int) := by rw [Int.tmod_eq_emod_of_nonneg (by omega)]; omega
  have e2' : (a : Int) % 8 = (r : Int) := by omega
  have e3 : 8 * (r : Int) = (m : Int) := by omega
  have w1 : IntKind.i64.wrap (q : Int) = (q : Int) := IntWalk.i64_in _ (by omega)
  have w2 : IntKind.i64.wrap (m : Int) = (m : Int) := IntWalk.i64_in _ (by omega)
  have w3 : IntKind.u64.wrap c = c := by simp [IntKind.wrap, IntKind.bits, IntKind.signed]; omega
  have w4 := wrap_byte c0 c1 hm56
  have z1 : (0 : Int) ≤ (q : Int) := by omega
  have z2 : (q : Int) < 25 := by omega
  have HP := Lib.hid (r_power (n := m) (by omega))
  have HV : Hid (∀ j, kflip s a c j = if j = q then bits .xor .u64 (s q) (c * 2 ^ m) else s j) := Lib.hid fun j => by unfold kflip; rw [hq, hr, hm]
  clear hq hr hm ha
  obtain ⟨p2, hp2⟩ : ∃ p2 : Int, (2 : Int) ^ m = p2 := ⟨_, rfl⟩
  rw [hp2] at w4 HP HV
  clear hp2
  obtain ⟨x0, hx0⟩ : ∃ x0, s q = x0 := ⟨_, rfl⟩
  rw [hx0] at HV
  have HX := Lib.hid hx0
  clear hx0
  go_enter Try.func126, Try.ntmps126
  obtain ⟨g1, hg1⟩ : ∃ g, w.heap.size = g := ⟨_, rfl⟩
  obtain ⟨g2, hg2⟩ : ∃ g, g1 + 1 = g := ⟨_, rfl⟩
  have n12 : g1 < g2 := by omega
  have nw1 : w.heap.size ≤ g1 := by omega
  have nw2 : w.heap.size ≤ g2 := by omega
  go_upto_region 1 with (fail)
  try simp only [hg1]
  try simp only [hg2]
  refine abs_world (fun W => Kept w W ∧ Blk W g1 60 (rowF 25 (fun p => .int .u64 (s p))) ∧ Blk W g2 60 (rowF 25 (fun p => .int .u64 0))) ⟨((Kept.refl w).alloc _).alloc _, ?_, ?_⟩ ?_
  · rw [← hg1]; exact (Blk.new _ _ _).alloc _
  · rw [← hg2, ← hg1]; exact heap_alloc2_new w _ _
  rintro W1 ⟨k, Bg1, Bg2⟩
  clear hg1 hg2
  have cl := Bg1.at hq25
  rw [HX.out] at cl
  refine wp_region_calm 15 (by kernel_rfl) (by kernel_rfl) ?_
  simp only [List.take_succ_cons, List.take_zero, List.drop_succ_cons, List.drop_zero]
  repeat (first
    | (refine calm_skip rfl ?_; simp only [Act.put, List.setIfInBounds_toArray, List.set_cons_zero, List.set_cons_succ])
    | (refine calm_ex rfl ?_; apply Exists.intro; refine And.intro (fun w' hk => ?_) ?_; (focus (have q0 := hk.cell cl; clear hk; go_simp; exact rfl)); simp only [Act.put, List.setIfInBounds_toArray, List.set_cons_zero, List.set_cons_succ])
    | (refine calm_step _ rfl (HP.out.call ?_) ?_; (focus (intro w'; go_simp; done)); simp only [Act.put, List.setIfInBounds_toArray, List.set_cons_zero, List.set_cons_succ]))
  refine calm_nil ?_
  intro W2 hkW2
  have k2 := k.trans hkW2
  have B1 := Bg1.kept hkW2
  have B2 := Bg2.kept hkW2
  clear k Bg1 Bg2 cl hkW2
  have f1 := B1.free
  have cl := B1.at hq25
  go_upto_region 2 with (fail)
  refine abs_world (fun W => Kept w W ∧ Blk W g1 60 (rowF 25 (fun p => .int .u64 (kflip s a c p))) ∧ Blk W g2 60 (rowF 25 (fun p => .int .u64 0))) ⟨k2.setCell (kept_side (by omega)) _, B1.set hq25 fun j hj => ?_, B2.set_other (by omega) _⟩ ?_
  · rw [HV.out]; split <;> rfl
  clear cl f1 k2 B1 B2
  rintro W3 ⟨k, Bg1, Bg2⟩
  go_wp2_with (first | (refine wpList_load_part 60 (.tmp 3) Bg1 (Nat.le_refl _) Try.underlying60 size60 rfl rfl rfl ?_) | (refine wpList_store_part (h' := fun p => .int .u64 (kflip s a c p)) 60 (.tmp 6) (.tmp 22) Bg2 (Nat.le_refl _) size60 (fun _ => rfl) rfl rfl rfl rfl ?_))
  refine ret_blk rfl (Bg2.setRow _) Try.underlying60 (by rw [rowF_size]; exact size60) rfl rfl (And.intro ?_ (k.setRow nw2 _))
  rw [rowF_congr (g := fun p => Value.int .u64 (kflip s a c p)) fun j hj => by rw [if_pos hj]]
end Go.Proofs.Ytnajihlhcdedgaa
