/-
  The reference's round.
-/
import Derived.Test.YtnajihlhcdedgaaK7
namespace Go.Proofs.Ytnajihlhcdedgaa
open Go.RowKit
set_option linter.unusedVariables false
set_option linter.unusedSimpArgs false

theorem Blk.setU {w : World} {b n : Nat} {t : TypeId} {s s' : Nat → Int} (h : Blk w b t (rowF n (fun p => .int .u64 (s p)))) {i : Nat} (hi : i < n) {x : Int} (hs : ∀ j, j < n → s' j = if j = i then x else s j) :
    Blk (w.setCell ⟨b, i, none⟩ (.int .u64 x)) b t (rowF n (fun p => .int .u64 (s' p))) :=
  h.set hi fun j hj => by rw [hs j hj]; split <;> rfl
theorem Blk.congrU {w : World} {b n : Nat} {t : TypeId} {s s' : Nat → Int} (h : Blk w b t (rowF n (fun p => .int .u64 (s p)))) (hs : ∀ j, j < n → s j = s' j) : Blk w b t (rowF n (fun p => .int .u64 (s' p))) := by
  rw [← rowF_congr (f := fun p => Value.int .u64 (s p)) fun j hj => by rw [hs j hj]]
  exact h
theorem Blk.cellU {w : World} {b n : Nat} {t : TypeId} {s : Nat → Int} (h : Blk w b t (rowF n (fun p => .int .u64 (s p)))) {i : Nat} (hi : i < n) : w.cell? ⟨b, i, none⟩ = some (.int .u64 (s i)) := h.at hi
theorem upto_step {n C : Nat} {new old : Nat → Int} {v : Int} (hv : new C = v) : ∀ j, j < n → (if j < C + 1 then new j else old j) = if j = C then v else if j < C then new j else old j := by
  intro j _
  by_cases hj : j = C
  · subst hj; rw [if_pos (by omega), if_pos rfl, hv]
  · rw [if_neg hj]
    by_cases hl : j < C
    · rw [if_pos (by omega), if_pos hl]
    · rw [if_neg (by omega), if_neg hl]
theorem upto_stepT {n C q : Nat} {T : Nat → Nat} {new old : Nat → Int} {v : Int} (hq : ∀ j, j < n → (j = q ↔ T j = C)) (hv : new q = v) : ∀ j, j < n → (if T j < C + 1 then new j else old j) = if j = q then v else if T j < C then new j else old j := by
  intro j hn
  by_cases hj : j = q
  · have := (hq j hn).1 hj
    subst hj; rw [if_pos (by omega), if_pos rfl, hv]
  · have : T j ≠ C := fun e => hj ((hq j hn).2 e)
    rw [if_neg hj]
    by_cases hl : T j < C
    · rw [if_pos (by omega), if_pos hl]
    · rw [if_neg (by omega), if_neg hl]

def ra (s : Nat → Int) (p : Nat) : Int := s (p / 5 + 5 * (p % 5))
def csum (a : Nat → Int) (x : Nat) : Int := bits .xor .u64 (bits .xor .u64 (bits .xor .u64 (bits .xor .u64 (a (x * 5)) (a (x * 5 + 1))) (a (x * 5 + 2))) (a (x * 5 + 3))) (a (x * 5 + 4))
def rth (a c : Nat → Int) (p : Nat) : Int := bits .xor .u64 (bits .xor .u64 (a p) (c ((p / 5 + 4) % 5))) (rotL (c ((p / 5 + 1) % 5)) 1)
/-- Where the t-th turn happens. -/
def posXY : Nat → Nat × Nat
  | 0 => (1, 0)
  | t + 1 => ((posXY t).2, (2 * (posXY t).1 + 3 * (posXY t).2) % 5)
def offT (t : Nat) : Nat := (t + 1) * (t + 2) / 2 % 64
def rtu (a : Nat → Int) : Nat → Nat → Int
  | 0, p => a p
  | t + 1, p => if p = (posXY t).1 * 5 + (posXY t).2 then rotL (a p) (offT t) else rtu a t p
def srcM (j : Nat) : Nat := (3 * (j % 5) + j / 5) % 5 * 5 + j / 5
def rbend (m : Nat → Int) (j : Nat) : Int := bits .xor .u64 (m (j % 5 * 5 + j / 5)) (bits .andNot .u64 (m ((j % 5 + 2) % 5 * 5 + j / 5)) (m ((j % 5 + 1) % 5 * 5 + j / 5)))
def trP (j : Nat) : Nat := j % 5 * 5 + j / 5
/-- The reference's round. -/
def rone (r : Nat) (s : Nat → Int) (j : Nat) : Int :=
  let a := rth (ra s) (csum (ra s))
  let m := fun j => rtu a 24 (srcM j)
  if j = 0 then bits .xor .u64 (rbend m 0) (conN r) else rbend m j
theorem posXY_lt : ∀ t, (posXY t).1 < 5 ∧ (posXY t).2 < 5
  | 0 => by decide
  | t + 1 => ⟨(posXY_lt t).2, Nat.mod_lt _ (by decide)⟩
theorem srcM_eq : ∀ x, x < 5 → ∀ y, y < 5 → ∀ j, j < 25 → (j = y * 5 + (2 * x + 3 * y) % 5 ↔ srcM j = x * 5 + y) := by decide +kernel
theorem trP_eq : ∀ x, x < 5 → ∀ y, y < 5 → ∀ j, j < 25 → (j = x + 5 * y ↔ trP j = x * 5 + y) := by decide +kernel
theorem srcM_lt : ∀ j, j < 25 → srcM j < 25 := by decide
theorem trP_lt : ∀ j, j < 25 → trP j < 25 := by decide
theorem off_eq : ∀ t : Nat, t < 24 → (IntKind.i64.wrap (((t : Int) + 1) * ((t : Int) + 2))).tdiv 2 = (((t + 1) * (t + 2) / 2 : Nat) : Int) ∧ (((t + 1) * (t + 2) / 2 : Nat) : Int).tmod 64 = (offT t : Int) ∧ offT t < 64 := by decide +kernel
theorem off_eq2 : ∀ t : Nat, t < 24 → IntKind.i64.wrap (((t : Int) + 1) * ((t : Int) + 2)) = (((t + 1) * (t + 2) : Nat) : Int) := by decide +kernel
theorem size157 : (Try.prog.info? 157).map (·.size) = some 25 := by kernel_rfl
theorem off_eq3 : ∀ t : Nat, t < 24 → (t + 1) * (t + 2) / 2 ≤ 300 := by decide
theorem rth_in (a c : Nat → Int) (p : Nat) : in64 (rth a c p) := bits_in _ _ _
theorem csum_in (a : Nat → Int) (x : Nat) : in64 (csum a x) := bits_in _ _ _

set_option maxRecDepth 100000 in
set_option maxHeartbeats 4000000 in
theorem r_one (w : World) (s : Nat → Int) (r : Nat) (hr : r < 12) (hs : Hid (∀ i, i < 25 → in64 (s i))) :
    Calls Try.prog 125 #[.agg (rowF 25 (fun p => .int .u64 (s p))), .int .i64 ((12 + r : Nat) : Int)] w fun e w' => e = .returned (.agg (rowF 25 (fun p => .int .u64 (rone r s p)))) ∧ Kept w w' := by
  have HConst := Lib.hid (r_constant hr)
  obtain ⟨R, hR⟩ : ∃ R, 12 + r = R := ⟨_, rfl⟩
  rw [hR] at HConst ⊢
  have hR24 : R < 24 := by omega
  clear hR
  go_enter Try.func125, Try.ntmps125
  obtain ⟨g2, hg2⟩ : ∃ g, w.heap.size = g := ⟨_, rfl⟩
  have nwg2 : w.heap.size ≤ g2 := by omega
  have nwg4 : w.heap.size ≤ g2 + 1 := by omega
  go_upto_region 1 with (fail)
  refine abs_world (fun W => Kept w W ∧ Blk W g2 60 (rowF 25 (fun p => .int .u64 (s p))) ∧ Blk W (g2 + 1) 60 (rowF 25 (fun p => .int .u64 0))) ⟨((Kept.refl w).alloc _).alloc _, ?_, ?_⟩ ?_
  · rw [← hg2]; exact (Blk.new _ _ _).alloc _
  · rw [← hg2]; exact heap_alloc2_new w _ _
  rintro W1 ⟨k, Bg2, Bg4⟩
  try simp only [hg2]
  clear hg2
  obtain ⟨g4, hg4⟩ : ∃ g, g2 + 1 = g := ⟨_, rfl⟩
  rw [hg4] at Bg4 nwg4
  try simp only [hg4]
  have ng2g4 : g2 < g4 := by omega
  clear hg4
  obtain ⟨g5, hg5⟩ : ∃ g, W1.heap.size = g := ⟨_, rfl⟩
  have ng2g5 : g2 < g5 := hg5 ▸ Bg2.lt
  have ng4g5 : g4 < g5 := hg5 ▸ Bg4.lt
  have nwg5 : w.heap.size ≤ g5 := hg5 ▸ k.size
  go_upto_region 2 with (fail)
  refine abs_world (fun W => Kept w W ∧ Blk W g2 60 (rowF 25 (fun p => .int .u64 (s p))) ∧ Blk W g4 60 (rowF 25 (fun p => .int .u64 (0))) ∧ Blk W g5 157 (rowF 25 (fun p => .int .u64 (0)))) ⟨k.alloc _, Bg2.alloc _, Bg4.alloc _, by rw [← hg5]; exact Blk.new _ _ _⟩ ?_
  clear k Bg2 Bg4
  rintro W2 ⟨k, Bg2, Bg4, Bg5⟩
  try simp only [hg5]
  clear hg5
  go_wp2_with fail
  go_loopw [6] (fun t' wr => ∃ x : Nat, x ≤ 5 ∧ t' = .int .i64 x ∧ Kept w wr ∧ Blk wr g2 60 (rowF 25 (fun p => .int .u64 (s p))) ∧ Blk wr g4 60 (rowF 25 (fun p => .int .u64 (0))) ∧ Blk wr g5 157 (rowF 25 (fun p => .int .u64 (if p < x * 5 then ra s p else 0)))) (fun t' _ => 5 - (intOf t').toNat)
  case atStart => exact ⟨0, Nat.zero_le _, rfl, k, Bg2, Bg4, Bg5.congrU fun j hj => by rw [if_neg (Nat.not_lt_zero _)]⟩
  case round =>
    clear k Bg2 Bg4 Bg5
    obtain ⟨x, hx, rfl, k, Bg2, Bg4, Bg5⟩ := hrel
    have zx : (0 : Int) ≤ (x : Int) := by omega
    rcases Nat.lt_or_ge x 5 with hltx | hgex
    · have yx : (x : Int) < 5 := by omega
      go_wp2_with fail
      go_loopw [7] (fun t' wr => ∃ y : Nat, y ≤ 5 ∧ t' = .int .i64 y ∧ Kept w wr ∧ Blk wr g2 60 (rowF 25 (fun p => .int .u64 (s p))) ∧ Blk wr g4 60 (rowF 25 (fun p => .int .u64 (0))) ∧ Blk wr g5 157 (rowF 25 (fun p => .int .u64 (if p < x * 5 + y then ra s p else 0)))) (fun t' _ => 5 - (intOf t').toNat)
      case atStart => exact ⟨0, Nat.zero_le _, rfl, k, Bg2, Bg4, Bg5⟩
      case round =>
        clear k Bg2 Bg4 Bg5
        obtain ⟨y, hy, rfl, k, Bg2, Bg4, Bg5⟩ := hrel
        have zy : (0 : Int) ≤ (y : Int) := by omega
        rcases Nat.lt_or_ge y 5 with hlty | hgey
        · have yy : (y : Int) < 5 := by omega
          obtain ⟨q, hq, hq25⟩ : ∃ q, x + 5 * y = q ∧ q < 25 := ⟨_, rfl, by omega⟩
          have c0 := Bg2.cellU hq25
          have w1 : IntKind.i64.wrap (5 * (y : Int)) = 5 * (y : Int) := IntWalk.i64_in _ (by omega)
          have e1 : (x : Int) + 5 * (y : Int) = (q : Int) := by omega
          have w2 : IntKind.i64.wrap (q : Int) = (q : Int) := IntWalk.i64_in _ (by omega)
          have zq : (0 : Int) ≤ (q : Int) := by omega
          have yq : (q : Int) < 25 := by omega
          have HV : Hid (ra s (x * 5 + y) = s q) := Lib.hid (by unfold ra; rw [show (x * 5 + y) / 5 + 5 * ((x * 5 + y) % 5) = q by omega])
          clear hq
          go_upto_region 8 with (fail)
          refine wp_region_calm 10 (by kernel_rfl) (by kernel_rfl) ?_
          simp only [List.take_succ_cons, List.take_zero, List.drop_succ_cons, List.drop_zero]
          repeat (first
            | (refine calm_skip rfl ?_; simp only [Act.put, List.setIfInBounds_toArray, List.set_cons_zero, List.set_cons_succ])
            | (refine calm_ex rfl ?_; apply Exists.intro; refine And.intro (fun w' hk => ?_) ?_; (focus (have q0 := hk.cell c0; clear hk; go_simp; exact rfl)); simp only [Act.put, List.setIfInBounds_toArray, List.set_cons_zero, List.set_cons_succ]))
          refine calm_nil ?_
          intro W9 hkW9
          clear c0
          have k' := k.trans hkW9
          have Bg2' := Bg2.kept hkW9
          have Bg4' := Bg4.kept hkW9
          have Bg5' := Bg5.kept hkW9
          clear hkW9 k Bg2 Bg4 Bg5
          have k := k'
          have Bg2 := Bg2'
          have Bg4 := Bg4'
          have Bg5 := Bg5'
          clear k' Bg2' Bg4' Bg5'
          have c1 := Bg5.cellU (i := x * 5 + y) (by omega)
          have f1 := Bg5.free
          go_wp2_with fail
          go_roundw
          case rel => refine ⟨y + 1, by omega, by go_num, k.setCell (by exact nwg5) _, Bg2.set_other (by omega) _, Bg4.set_other (by omega) _, Bg5.setU (by omega) (upto_step HV.out)⟩
          case measure => simp [intOf]; omega
        · have yy : (5 : Int) ≤ (y : Int) := by omega
          obtain rfl : y = 5 := by omega
          go_wp2_with fail
          go_roundw
          have e5 : (x + 1) * 5 = x * 5 + 5 := by omega
          case rel => refine ⟨x + 1, by omega, by go_num, ?_⟩; rw [e5]; exact ⟨k, Bg2, Bg4, Bg5⟩
          case measure => simp [intOf]; omega
    · have yx : (5 : Int) ≤ (x : Int) := by omega
      obtain rfl : x = 5 := by omega
      clear hgex zx yx hx
      have Bg5 := Bg5.congrU (s' := ra s) fun j hj => by rw [if_pos hj]
      go_upto_region 9 with (fail)
      refine abs_world (fun W => Kept w W ∧ Blk W g2 60 (rowF 25 (fun p => .int .u64 (s p))) ∧ Blk W g4 60 (rowF 25 (fun p => .int .u64 (0))) ∧ Blk W g5 157 (rowF 25 (fun p => .int .u64 (ra s p)))) ⟨k, Bg2, Bg4, Bg5⟩ ?_
      clear k Bg2 Bg4 Bg5
      rintro W3 ⟨k, Bg2, Bg4, Bg5⟩
      obtain ⟨g8, hg8⟩ : ∃ g, W3.heap.size = g := ⟨_, rfl⟩
      have ng2g8 : g2 < g8 := hg8 ▸ Bg2.lt
      have ng4g8 : g4 < g8 := hg8 ▸ Bg4.lt
      have ng5g8 : g5 < g8 := hg8 ▸ Bg5.lt
      have nwg8 : w.heap.size ≤ g8 := hg8 ▸ k.size
      go_upto_region 10 with (fail)
      refine abs_world (fun W => Kept w W ∧ Blk W g2 60 (rowF 25 (fun p => .int .u64 (s p))) ∧ Blk W g4 60 (rowF 25 (fun p => .int .u64 (0))) ∧ Blk W g5 157 (rowF 25 (fun p => .int .u64 (ra s p))) ∧ Blk W g8 153 (rowF 5 (fun p => .int .u64 (0)))) ⟨k.alloc _, Bg2.alloc _, Bg4.alloc _, Bg5.alloc _, by rw [← hg8]; exact Blk.new _ _ _⟩ ?_
      clear k Bg2 Bg4 Bg5
      rintro W4 ⟨k, Bg2, Bg4, Bg5, Bg8⟩
      try simp only [hg8]
      clear hg8
      go_wp2_with fail
      go_loopw [9] (fun t' wr => ∃ x : Nat, x ≤ 5 ∧ t' = .int .i64 x ∧ Kept w wr ∧ Blk wr g2 60 (rowF 25 (fun p => .int .u64 (s p))) ∧ Blk wr g4 60 (rowF 25 (fun p => .int .u64 (0))) ∧ Blk wr g5 157 (rowF 25 (fun p => .int .u64 (ra s p))) ∧ Blk wr g8 153 (rowF 5 (fun p => .int .u64 (if p < x then csum (ra s) p else 0)))) (fun t' _ => 5 - (intOf t').toNat)
      case atStart => exact ⟨0, Nat.zero_le _, rfl, k, Bg2, Bg4, Bg5, Bg8.congrU fun j hj => by rw [if_neg (Nat.not_lt_zero _)]⟩
      case round =>
        clear k Bg2 Bg4 Bg5 Bg8
        obtain ⟨x, hx, rfl, k, Bg2, Bg4, Bg5, Bg8⟩ := hrel
        have zx : (0 : Int) ≤ (x : Int) := by omega
        rcases Nat.lt_or_ge x 5 with hltx | hgex
        · have yx : (x : Int) < 5 := by omega
          have c0 := Bg5.cellU (i := x * 5) (by omega)
          have c1 := Bg5.cellU (i := x * 5 + 1) (by omega)
          have c2 := Bg5.cellU (i := x * 5 + 2) (by omega)
          have c3 := Bg5.cellU (i := x * 5 + 3) (by omega)
          have c4 := Bg5.cellU (i := x * 5 + 4) (by omega)
          have HV : Hid (csum (ra s) x = _) := Lib.hid (by unfold csum; rfl)
          generalize ra s (x * 5) = a0 at *
          generalize ra s (x * 5 + 1) = a1 at *
          generalize ra s (x * 5 + 2) = a2 at *
          generalize ra s (x * 5 + 3) = a3 at *
          generalize ra s (x * 5 + 4) = a4 at *
          go_upto_region 13 with (fail)
          refine wp_region_calm 26 (by kernel_rfl) (by kernel_rfl) ?_
          simp only [List.take_succ_cons, List.take_zero, List.drop_succ_cons, List.drop_zero]
          repeat (first
            | (refine calm_skip rfl ?_; simp only [Act.put, List.setIfInBounds_toArray, List.set_cons_zero, List.set_cons_succ])
            | (refine calm_ex rfl ?_; apply Exists.intro; refine And.intro (fun w' hk => ?_) ?_; (focus (have q0 := hk.cell c0; have q1 := hk.cell c1; have q2 := hk.cell c2; have q3 := hk.cell c3; have q4 := hk.cell c4; clear hk; go_simp; exact rfl)); simp only [Act.put, List.setIfInBounds_toArray, List.set_cons_zero, List.set_cons_succ]))
          refine calm_nil ?_
          intro W9 hkW9
          clear c0 c1 c2 c3 c4
          have k' := k.trans hkW9
          have Bg2' := Bg2.kept hkW9
          have Bg4' := Bg4.kept hkW9
          have Bg5' := Bg5.kept hkW9
          have Bg8' := Bg8.kept hkW9
          clear hkW9 k Bg2 Bg4 Bg5 Bg8
          have k := k'
          have Bg2 := Bg2'
          have Bg4 := Bg4'
          have Bg5 := Bg5'
          have Bg8 := Bg8'
          clear k' Bg2' Bg4' Bg5' Bg8'
          have c1 := Bg8.cellU (i := x) (by omega)
          have f1 := Bg8.free
          go_wp2_with fail
          go_roundw
          case rel => refine ⟨x + 1, by omega, by go_num, k.setCell (by exact nwg8) _, Bg2.set_other (by omega) _, Bg4.set_other (by omega) _, Bg5.set_other (by omega) _, Bg8.setU hltx (upto_step HV.out)⟩
          case measure => simp [intOf]; omega
        · have yx : (5 : Int) ≤ (x : Int) := by omega
          obtain rfl : x = 5 := by omega
          clear hgex zx yx hx
          have Bg8 := Bg8.congrU (s' := csum (ra s)) fun j hj => by rw [if_pos hj]
          go_wp2_with fail
          go_loopw [10] (fun t' wr => ∃ x : Nat, x ≤ 5 ∧ t' = .int .i64 x ∧ Kept w wr ∧ Blk wr g2 60 (rowF 25 (fun p => .int .u64 (s p))) ∧ Blk wr g4 60 (rowF 25 (fun p => .int .u64 (0))) ∧ Blk wr g5 157 (rowF 25 (fun p => .int .u64 (if p < x * 5 then rth (ra s) (csum (ra s)) p else ra s p))) ∧ Blk wr g8 153 (rowF 5 (fun p => .int .u64 (csum (ra s) p)))) (fun t' _ => 5 - (intOf t').toNat)
          case atStart => exact ⟨0, Nat.zero_le _, rfl, k, Bg2, Bg4, Bg5.congrU fun j hj => by rw [if_neg (Nat.not_lt_zero _)], Bg8⟩
          case round =>
            clear k Bg2 Bg4 Bg5 Bg8
            obtain ⟨x, hx, rfl, k, Bg2, Bg4, Bg5, Bg8⟩ := hrel
            have zx : (0 : Int) ≤ (x : Int) := by omega
            rcases Nat.lt_or_ge x 5 with hltx | hgex
            · have yx : (x : Int) < 5 := by omega
              go_wp2_with fail
              go_loopw [11] (fun t' wr => ∃ y : Nat, y ≤ 5 ∧ t' = .int .i64 y ∧ Kept w wr ∧ Blk wr g2 60 (rowF 25 (fun p => .int .u64 (s p))) ∧ Blk wr g4 60 (rowF 25 (fun p => .int .u64 (0))) ∧ Blk wr g5 157 (rowF 25 (fun p => .int .u64 (if p < x * 5 + y then rth (ra s) (csum (ra s)) p else ra s p))) ∧ Blk wr g8 153 (rowF 5 (fun p => .int .u64 (csum (ra s) p)))) (fun t' _ => 5 - (intOf t').toNat)
              case atStart => exact ⟨0, Nat.zero_le _, rfl, k, Bg2, Bg4, Bg5, Bg8⟩
              case round =>
                clear k Bg2 Bg4 Bg5 Bg8
                obtain ⟨y, hy, rfl, k, Bg2, Bg4, Bg5, Bg8⟩ := hrel
                have zy : (0 : Int) ≤ (y : Int) := by omega
                rcases Nat.lt_or_ge y 5 with hlty | hgey
                · have yy : (y : Int) < 5 := by omega
                  obtain ⟨m, hm, hm5⟩ : ∃ m, (x + 4) % 5 = m ∧ m < 5 := ⟨_, rfl, by omega⟩
                  obtain ⟨u, hu, hu5⟩ : ∃ u, (x + 1) % 5 = u ∧ u < 5 := ⟨_, rfl, by omega⟩
                  have c0 := Bg5.cellU (i := x * 5 + y) (by omega)
                  rw [if_neg (Nat.lt_irrefl _)] at c0
                  have c1 := Bg8.cellU hm5
                  have c2 := Bg8.cellU hu5
                  have HRot := Lib.hid (r_rot (csum_in (ra s) u) (n := 1) (by omega))
                  have HV : Hid (rth (ra s) (csum (ra s)) (x * 5 + y) = bits .xor .u64 (bits .xor .u64 (ra s (x * 5 + y)) (csum (ra s) m)) (rotL (csum (ra s) u) 1)) := Lib.hid (by unfold rth; rw [show (x * 5 + y) / 5 = x by omega, hm, hu])
                  generalize ra s (x * 5 + y) = x0 at HV c0
                  generalize csum (ra s) m = x1 at HV c1
                  generalize csum (ra s) u = x2 at HV c2 HRot
                  generalize rotL x2 1 = x3 at HV HRot
                  have w1 : IntKind.i64.wrap ((x : Int) + 4) = (x : Int) + 4 := IntWalk.i64_in _ (by omega)
                  have w2 : IntKind.i64.wrap ((x : Int) + 1) = (x : Int) + 1 := IntWalk.i64_in _ (by omega)
                  have e1 : ((x : Int) + 4).tmod 5 = (m : Int) := by have := rem5 (x + 4); rw [hm] at this; simpa using this
                  have e2 : ((x : Int) + 1).tmod 5 = (u : Int) := by have := rem5 (x + 1); rw [hu] at this; simpa using this
                  have e1' : ((x : Int) + 4) % 5 = (m : Int) := by omega
                  have e2' : ((x : Int) + 1) % 5 = (u : Int) := by omega
                  have zm : (0 : Int) ≤ (m : Int) := by omega
                  have ym : (m : Int) < 5 := by omega
                  have zu : (0 : Int) ≤ (u : Int) := by omega
                  have yu : (u : Int) < 5 := by omega
                  clear hm hu
                  go_upto_region 20 with (fail)
                  refine wp_region_calm 22 (by kernel_rfl) (by kernel_rfl) ?_
                  simp only [List.take_succ_cons, List.take_zero, List.drop_succ_cons, List.drop_zero]
                  repeat (first
                    | (refine calm_skip rfl ?_; simp only [Act.put, List.setIfInBounds_toArray, List.set_cons_zero, List.set_cons_succ])
                    | (refine calm_ex rfl ?_; apply Exists.intro; refine And.intro (fun w' hk => ?_) ?_; (focus (have q0 := hk.cell c0; have q1 := hk.cell c1; have q2 := hk.cell c2; clear hk; go_simp; exact rfl)); simp only [Act.put, List.setIfInBounds_toArray, List.set_cons_zero, List.set_cons_succ])
                    | (refine calm_step _ rfl (HRot.out.call ?_) ?_; (focus (intro w'; go_simp; done)); simp only [Act.put, List.setIfInBounds_toArray, List.set_cons_zero, List.set_cons_succ]))
                  refine calm_nil ?_
                  intro W9 hkW9
                  have c9 := hkW9.cell c0
                  clear c0 c1 c2
                  have k' := k.trans hkW9
                  have Bg2' := Bg2.kept hkW9
                  have Bg4' := Bg4.kept hkW9
                  have Bg5' := Bg5.kept hkW9
                  have Bg8' := Bg8.kept hkW9
                  clear hkW9 k Bg2 Bg4 Bg5 Bg8
                  have k := k'
                  have Bg2 := Bg2'
                  have Bg4 := Bg4'
                  have Bg5 := Bg5'
                  have Bg8 := Bg8'
                  clear k' Bg2' Bg4' Bg5' Bg8'
                  have f1 := Bg5.free
                  go_wp2_with fail
                  go_roundw
                  case rel => refine ⟨y + 1, by omega, by go_num, k.setCell (by exact nwg5) _, Bg2.set_other (by omega) _, Bg4.set_other (by omega) _, Bg5.setU (by omega) (upto_step HV.out), Bg8.set_other (by omega) _⟩
                  case measure => simp [intOf]; omega
                · have yy : (5 : Int) ≤ (y : Int) := by omega
                  obtain rfl : y = 5 := by omega
                  go_wp2_with fail
                  go_roundw
                  have e5 : (x + 1) * 5 = x * 5 + 5 := by omega
                  case rel => refine ⟨x + 1, by omega, by go_num, ?_⟩; rw [e5]; exact ⟨k, Bg2, Bg4, Bg5, Bg8⟩
                  case measure => simp [intOf]; omega
            · have yx : (5 : Int) ≤ (x : Int) := by omega
              obtain rfl : x = 5 := by omega
              clear hgex zx yx hx
              have Bg5 := Bg5.congrU (s' := rth (ra s) (csum (ra s))) fun j hj => by rw [if_pos hj]
              have hA := rth_in (ra s) (csum (ra s))
              have HF : Hid (∀ j, rone r s j = if j = 0 then bits .xor .u64 (rbend (fun j => rtu (rth (ra s) (csum (ra s))) 24 (srcM j)) 0) (conN r) else rbend (fun j => rtu (rth (ra s) (csum (ra s))) 24 (srcM j)) j) := Lib.hid fun j => rfl
              clear Bg8
              generalize rth (ra s) (csum (ra s)) = A at *
              refine abs_world (fun W => Kept w W ∧ Blk W g2 60 (rowF 25 (fun p => .int .u64 (s p))) ∧ Blk W g4 60 (rowF 25 (fun p => .int .u64 (0))) ∧ Blk W g5 157 (rowF 25 (fun p => .int .u64 (A p)))) ⟨k, Bg2, Bg4, Bg5⟩ ?_
              clear k Bg2 Bg4 Bg5
              rintro W5 ⟨k, Bg2, Bg4, Bg5⟩
              obtain ⟨g12, hg12⟩ : ∃ g, W5.heap.size = g := ⟨_, rfl⟩
              have ng2g12 : g2 < g12 := hg12 ▸ Bg2.lt
              have ng4g12 : g4 < g12 := hg12 ▸ Bg4.lt
              have ng5g12 : g5 < g12 := hg12 ▸ Bg5.lt
              have nwg12 : w.heap.size ≤ g12 := hg12 ▸ k.size
              go_upto_region 22 with (first | (refine wpList_load_part 157 (.tmp 5) Bg5 (Nat.le_refl _) Try.underlying157 size157 rfl rfl rfl ?_) | (refine abs_world (fun W => Kept w W ∧ Blk W g2 60 (rowF 25 (fun p => .int .u64 (s p))) ∧ Blk W g4 60 (rowF 25 (fun p => .int .u64 (0))) ∧ Blk W g5 157 (rowF 25 (fun p => .int .u64 (A p))) ∧ Blk W g12 157 (rowF 25 (fun p => .int .u64 (0)))) ⟨k.alloc _, Bg2.alloc _, Bg4.alloc _, Bg5.alloc _, by rw [← hg12]; exact Blk.new _ _ _⟩ ?_; clear k Bg2 Bg4 Bg5; rintro W6 ⟨k, Bg2, Bg4, Bg5, Bg12⟩; try simp only [hg12]) | (refine wpList_store_part (h' := fun p => .int .u64 (A p)) 157 (.tmp 12) (.tmp 102) Bg12 (Nat.le_refl _) size157 (fun _ => rfl) rfl rfl rfl rfl ?_))
              clear hg12
              refine abs_world (fun W => Kept w W ∧ Blk W g2 60 (rowF 25 (fun p => .int .u64 (s p))) ∧ Blk W g4 60 (rowF 25 (fun p => .int .u64 (0))) ∧ Blk W g5 157 (rowF 25 (fun p => .int .u64 (A p))) ∧ Blk W g12 157 (rowF 25 (fun p => .int .u64 (A p)))) ⟨k.setRow nwg12 _, Bg2.setRow_other (by omega) _, Bg4.setRow_other (by omega) _, Bg5.setRow_other (by omega) _, ?_⟩ ?_
              · have := Bg12.setRow (rowF 25 (fun i => if i < 25 then Value.int .u64 (A i) else .int .u64 0)); rw [rowF_congr (g := fun i => Value.int .u64 (A i)) fun j hj => by rw [if_pos hj]] at this; exact this
              clear k Bg2 Bg4 Bg5 Bg12
              rintro W7 ⟨k, Bg2, Bg4, Bg5, Bg12⟩
              go_wp2_with fail
              go_loopw [13, 14, 15] (fun vx vy t' wr => ∃ t : Nat, t ≤ 24 ∧ t' = .int .i64 t ∧ vx = .int .i64 (posXY t).1 ∧ vy = .int .i64 (posXY t).2 ∧ Kept w wr ∧ Blk wr g2 60 (rowF 25 (fun p => .int .u64 (s p))) ∧ Blk wr g4 60 (rowF 25 (fun p => .int .u64 (0))) ∧ Blk wr g5 157 (rowF 25 (fun p => .int .u64 (A p))) ∧ Blk wr g12 157 (rowF 25 (fun p => .int .u64 (rtu A t p)))) (fun _ _ t' _ => 24 - (intOf t').toNat)
              case atStart => exact ⟨0, Nat.zero_le _, rfl, rfl, rfl, k, Bg2, Bg4, Bg5, Bg12⟩
              case round =>
                clear k Bg2 Bg4 Bg5 Bg12
                obtain ⟨t, ht, rfl, rfl, rfl, k, Bg2, Bg4, Bg5, Bg12⟩ := hrel
                have zt : (0 : Int) ≤ (t : Int) := by omega
                rcases Nat.lt_or_ge t 24 with hltt | hget
                · have yt : (t : Int) < 24 := by omega
                  obtain ⟨hm5, hu5⟩ := posXY_lt t
                  have HQ : Hid (posXY (t + 1) = ((posXY t).2, (2 * (posXY t).1 + 3 * (posXY t).2) % 5)) := Lib.hid rfl
                  have HV : Hid (∀ p, rtu A (t + 1) p = if p = (posXY t).1 * 5 + (posXY t).2 then rotL (A p) (offT t) else rtu A t p) := Lib.hid fun p => rfl
                  generalize (posXY t).1 = m at *
                  generalize (posXY t).2 = u at *
                  obtain ⟨v, hv, hv5⟩ : ∃ v, (2 * m + 3 * u) % 5 = v ∧ v < 5 := ⟨_, rfl, by omega⟩
                  rw [hv] at HQ
                  obtain ⟨e2, e3, ho64⟩ := off_eq t hltt
                  have e1 := off_eq2 t hltt
                  rw [e1] at e2
                  have hz2 := off_eq3 t hltt
                  have HRot := Lib.hid (r_rot (hA (m * 5 + u)) ho64)
                  generalize (t + 1) * (t + 2) / 2 = z2 at e2 e3 hz2
                  have w6 : IntKind.i64.wrap (z2 : Int) = (z2 : Int) := IntWalk.i64_in _ (by omega)
                  generalize (t + 1) * (t + 2) = z1 at e1 e2
                  generalize offT t = F at HV HRot e3 ho64
                  have e2' : (z1 : Int) / 2 = (z2 : Int) := by rw [Int.tdiv_eq_ediv_of_nonneg (by omega)] at e2; exact e2
                  have e3' : (z2 : Int) % 64 = (F : Int) := by rw [Int.tmod_eq_emod_of_nonneg (by omega)] at e3; exact e3
                  have w1 : IntKind.i64.wrap ((t : Int) + 1) = (t : Int) + 1 := IntWalk.i64_in _ (by omega)
                  have w2 : IntKind.i64.wrap ((t : Int) + 2) = (t : Int) + 2 := IntWalk.i64_in _ (by omega)
                  have c0 := Bg5.cellU (i := m * 5 + u) (by omega)
                  have HV0 := HV.out
                  generalize hx0 : A (m * 5 + u) = x0 at c0 HRot
                  generalize hx1 : rotL x0 F = x1 at HRot
                  have HW : Hid (∀ p, p < 25 → rtu A (t + 1) p = if p = m * 5 + u then x1 else rtu A t p) := Lib.hid (by intro p hp; rw [HV0]; by_cases hpm : p = m * 5 + u; subst hpm; rw [if_pos rfl, if_pos rfl, hx0, hx1]; rw [if_neg hpm, if_neg hpm])
                  clear HV0 HV hx0 hx1
                  have zm : (0 : Int) ≤ (m : Int) := by omega
                  have ym : (m : Int) < 5 := by omega
                  have zu : (0 : Int) ≤ (u : Int) := by omega
                  have yu : (u : Int) < 5 := by omega
                  have zv : (0 : Int) ≤ (v : Int) := by omega
                  have yv : (v : Int) < 5 := by omega
                  go_upto_region 26 with (fail)
                  refine wp_region_calm 17 (by kernel_rfl) (by kernel_rfl) ?_
                  simp only [List.take_succ_cons, List.take_zero, List.drop_succ_cons, List.drop_zero]
                  repeat (first
                    | (refine calm_skip rfl ?_; simp only [Act.put, List.setIfInBounds_toArray, List.set_cons_zero, List.set_cons_succ])
                    | (refine calm_ex rfl ?_; apply Exists.intro; refine And.intro (fun w' hk => ?_) ?_; (focus (have q0 := hk.cell c0; clear hk; go_simp; exact rfl)); simp only [Act.put, List.setIfInBounds_toArray, List.set_cons_zero, List.set_cons_succ])
                    | (refine calm_step _ rfl (HRot.out.call ?_) ?_; (focus (intro w'; go_simp; done)); simp only [Act.put, List.setIfInBounds_toArray, List.set_cons_zero, List.set_cons_succ]))
                  refine calm_nil ?_
                  intro W9 hkW9
                  clear c0 e1 e2 e2' e3 e3'
                  have k' := k.trans hkW9
                  have Bg2' := Bg2.kept hkW9
                  have Bg4' := Bg4.kept hkW9
                  have Bg5' := Bg5.kept hkW9
                  have Bg12' := Bg12.kept hkW9
                  clear hkW9 k Bg2 Bg4 Bg5 Bg12
                  have k := k'
                  have Bg2 := Bg2'
                  have Bg4 := Bg4'
                  have Bg5 := Bg5'
                  have Bg12 := Bg12'
                  clear k' Bg2' Bg4' Bg5' Bg12'
                  have c1 := Bg12.cellU (i := m * 5 + u) (by omega)
                  have f1 := Bg12.free
                  have e4 : (2 * (m : Int) + 3 * (u : Int)).tmod 5 = (v : Int) := by have := rem5 (2 * m + 3 * u); rw [hv] at this; simpa using this
                  have e4' : (2 * (m : Int) + 3 * (u : Int)) % 5 = (v : Int) := by omega
                  have w3 : IntKind.i64.wrap (2 * (m : Int)) = 2 * (m : Int) := IntWalk.i64_in _ (by omega)
                  have w4 : IntKind.i64.wrap (3 * (u : Int)) = 3 * (u : Int) := IntWalk.i64_in _ (by omega)
                  have w5 : IntKind.i64.wrap (2 * (m : Int) + 3 * (u : Int)) = 2 * (m : Int) + 3 * (u : Int) := IntWalk.i64_in _ (by omega)
                  clear hv
                  go_wp2_with fail
                  go_roundw
                  case rel => refine ⟨t + 1, by omega, by go_num, by rw [HQ.out], by rw [HQ.out], k.setCell (by exact nwg12) _, Bg2.set_other (by omega) _, Bg4.set_other (by omega) _, Bg5.set_other (by omega) _, Bg12.setU (by omega) HW.out⟩
                  case measure => simp [intOf]; omega
                · have yt : (24 : Int) ≤ (t : Int) := by omega
                  obtain rfl : t = 24 := by omega
                  clear hget zt yt ht Bg5
                  generalize rtu A 24 = b at *
                  refine abs_world (fun W => Kept w W ∧ Blk W g2 60 (rowF 25 (fun p => .int .u64 (s p))) ∧ Blk W g4 60 (rowF 25 (fun p => .int .u64 (0))) ∧ Blk W g12 157 (rowF 25 (fun p => .int .u64 (b p)))) ⟨k, Bg2, Bg4, Bg12⟩ ?_
                  clear k Bg2 Bg4 Bg12
                  rintro W8 ⟨k, Bg2, Bg4, Bg12⟩
                  obtain ⟨g16, hg16⟩ : ∃ g, W8.heap.size = g := ⟨_, rfl⟩
                  have ng2g16 : g2 < g16 := hg16 ▸ Bg2.lt
                  have ng4g16 : g4 < g16 := hg16 ▸ Bg4.lt
                  have ng12g16 : g12 < g16 := hg16 ▸ Bg12.lt
                  have nwg16 : w.heap.size ≤ g16 := hg16 ▸ k.size
                  go_upto_region 29 with (fail)
                  refine abs_world (fun W => Kept w W ∧ Blk W g2 60 (rowF 25 (fun p => .int .u64 (s p))) ∧ Blk W g4 60 (rowF 25 (fun p => .int .u64 (0))) ∧ Blk W g12 157 (rowF 25 (fun p => .int .u64 (b p))) ∧ Blk W g16 157 (rowF 25 (fun p => .int .u64 (0)))) ⟨k.alloc _, Bg2.alloc _, Bg4.alloc _, Bg12.alloc _, by rw [← hg16]; exact Blk.new _ _ _⟩ ?_
                  clear k Bg2 Bg4 Bg12
                  rintro W10 ⟨k, Bg2, Bg4, Bg12, Bg16⟩
                  try simp only [hg16]
                  clear hg16
                  go_wp2_with fail
                  go_loopw [17] (fun t' wr => ∃ x : Nat, x ≤ 5 ∧ t' = .int .i64 x ∧ Kept w wr ∧ Blk wr g2 60 (rowF 25 (fun p => .int .u64 (s p))) ∧ Blk wr g4 60 (rowF 25 (fun p => .int .u64 (0))) ∧ Blk wr g12 157 (rowF 25 (fun p => .int .u64 (b p))) ∧ Blk wr g16 157 (rowF 25 (fun p => .int .u64 (if srcM p < x * 5 then b (srcM p) else 0)))) (fun t' _ => 5 - (intOf t').toNat)
                  case atStart => exact ⟨0, Nat.zero_le _, rfl, k, Bg2, Bg4, Bg12, Bg16.congrU fun j hj => by rw [if_neg (Nat.not_lt_zero _)]⟩
                  case round =>
                    clear k Bg2 Bg4 Bg12 Bg16
                    obtain ⟨x, hx, rfl, k, Bg2, Bg4, Bg12, Bg16⟩ := hrel
                    have zx : (0 : Int) ≤ (x : Int) := by omega
                    rcases Nat.lt_or_ge x 5 with hltx | hgex
                    · have yx : (x : Int) < 5 := by omega
                      go_wp2_with fail
                      go_loopw [18] (fun t' wr => ∃ y : Nat, y ≤ 5 ∧ t' = .int .i64 y ∧ Kept w wr ∧ Blk wr g2 60 (rowF 25 (fun p => .int .u64 (s p))) ∧ Blk wr g4 60 (rowF 25 (fun p => .int .u64 (0))) ∧ Blk wr g12 157 (rowF 25 (fun p => .int .u64 (b p))) ∧ Blk wr g16 157 (rowF 25 (fun p => .int .u64 (if srcM p < x * 5 + y then b (srcM p) else 0)))) (fun t' _ => 5 - (intOf t').toNat)
                      case atStart => exact ⟨0, Nat.zero_le _, rfl, k, Bg2, Bg4, Bg12, Bg16⟩
                      case round =>
                        clear k Bg2 Bg4 Bg12 Bg16
                        obtain ⟨y, hy, rfl, k, Bg2, Bg4, Bg12, Bg16⟩ := hrel
                        have zy : (0 : Int) ≤ (y : Int) := by omega
                        rcases Nat.lt_or_ge y 5 with hlty | hgey
                        · have yy : (y : Int) < 5 := by omega
                          obtain ⟨v, hv, hv5⟩ : ∃ v, (2 * x + 3 * y) % 5 = v ∧ v < 5 := ⟨_, rfl, by omega⟩
                          have HT : Hid (∀ j, j < 25 → (j = y * 5 + v ↔ srcM j = x * 5 + y)) := Lib.hid (by rw [← hv]; exact srcM_eq x hltx y hlty)
                          have c0 := Bg12.cellU (i := x * 5 + y) (by omega)
                          have e4 : (2 * (x : Int) + 3 * (y : Int)).tmod 5 = (v : Int) := by have := rem5 (2 * x + 3 * y); rw [hv] at this; simpa using this
                          have e4' : (2 * (x : Int) + 3 * (y : Int)) % 5 = (v : Int) := by omega
                          have w3 : IntKind.i64.wrap (2 * (x : Int)) = 2 * (x : Int) := IntWalk.i64_in _ (by omega)
                          have w4 : IntKind.i64.wrap (3 * (y : Int)) = 3 * (y : Int) := IntWalk.i64_in _ (by omega)
                          have w5 : IntKind.i64.wrap (2 * (x : Int) + 3 * (y : Int)) = 2 * (x : Int) + 3 * (y : Int) := IntWalk.i64_in _ (by omega)
                          have zv : (0 : Int) ≤ (v : Int) := by omega
                          have yv : (v : Int) < 5 := by omega
                          have HV : Hid (b (srcM (y * 5 + v)) = b (x * 5 + y)) := Lib.hid (by rw [(HT.out (y * 5 + v) (by omega)).1 rfl])
                          clear hv
                          go_upto_region 35 with (fail)
                          refine wp_region_calm 14 (by kernel_rfl) (by kernel_rfl) ?_
                          simp only [List.take_succ_cons, List.take_zero, List.drop_succ_cons, List.drop_zero]
                          repeat (first
                            | (refine calm_skip rfl ?_; simp only [Act.put, List.setIfInBounds_toArray, List.set_cons_zero, List.set_cons_succ])
                            | (refine calm_ex rfl ?_; apply Exists.intro; refine And.intro (fun w' hk => ?_) ?_; (focus (have q0 := hk.cell c0; clear hk; go_simp; exact rfl)); simp only [Act.put, List.setIfInBounds_toArray, List.set_cons_zero, List.set_cons_succ]))
                          refine calm_nil ?_
                          intro W9 hkW9
                          clear c0
                          have k' := k.trans hkW9
                          have Bg2' := Bg2.kept hkW9
                          have Bg4' := Bg4.kept hkW9
                          have Bg12' := Bg12.kept hkW9
                          have Bg16' := Bg16.kept hkW9
                          clear hkW9 k Bg2 Bg4 Bg12 Bg16
                          have k := k'
                          have Bg2 := Bg2'
                          have Bg4 := Bg4'
                          have Bg12 := Bg12'
                          have Bg16 := Bg16'
                          clear k' Bg2' Bg4' Bg12' Bg16'
                          have c1 := Bg16.cellU (i := y * 5 + v) (by omega)
                          have f1 := Bg16.free
                          go_wp2_with fail
                          go_roundw
                          case rel => refine ⟨y + 1, by omega, by go_num, k.setCell (by exact nwg16) _, Bg2.set_other (by omega) _, Bg4.set_other (by omega) _, Bg12.set_other (by omega) _, Bg16.setU (by omega) (upto_stepT (new := fun j => b (srcM j)) HT.out HV.out)⟩
                          case measure => simp [intOf]; omega
                        · have yy : (5 : Int) ≤ (y : Int) := by omega
                          obtain rfl : y = 5 := by omega
                          go_wp2_with fail
                          go_roundw
                          have e5 : (x + 1) * 5 = x * 5 + 5 := by omega
                          case rel => refine ⟨x + 1, by omega, by go_num, ?_⟩; rw [e5]; exact ⟨k, Bg2, Bg4, Bg12, Bg16⟩
                          case measure => simp [intOf]; omega
                    · have yx : (5 : Int) ≤ (x : Int) := by omega
                      obtain rfl : x = 5 := by omega
                      clear hgex zx yx hx
                      have Bg16 := Bg16.congrU (s' := fun j => b (srcM j)) fun j hj => by rw [if_pos (srcM_lt j hj)]
                      clear Bg12
                      obtain ⟨M, hM⟩ : ∃ M, (fun j => b (srcM j)) = M := ⟨_, rfl⟩
                      have Bg16 := Bg16.congrU (s' := M) fun j hj => by rw [← hM]
                      have HF := HF.out
                      rw [hM] at HF
                      have HF := Lib.hid HF
                      clear hM
                      refine abs_world (fun W => Kept w W ∧ Blk W g2 60 (rowF 25 (fun p => .int .u64 (s p))) ∧ Blk W g4 60 (rowF 25 (fun p => .int .u64 (0))) ∧ Blk W g16 157 (rowF 25 (fun p => .int .u64 (M p)))) ⟨k, Bg2, Bg4, Bg16⟩ ?_
                      clear k Bg2 Bg4 Bg16
                      rintro W11 ⟨k, Bg2, Bg4, Bg16⟩
                      obtain ⟨g19, hg19⟩ : ∃ g, W11.heap.size = g := ⟨_, rfl⟩
                      have ng2g19 : g2 < g19 := hg19 ▸ Bg2.lt
                      have ng4g19 : g4 < g19 := hg19 ▸ Bg4.lt
                      have ng16g19 : g16 < g19 := hg19 ▸ Bg16.lt
                      have nwg19 : w.heap.size ≤ g19 := hg19 ▸ k.size
                      go_upto_region 37 with (fail)
                      refine abs_world (fun W => Kept w W ∧ Blk W g2 60 (rowF 25 (fun p => .int .u64 (s p))) ∧ Blk W g4 60 (rowF 25 (fun p => .int .u64 (0))) ∧ Blk W g16 157 (rowF 25 (fun p => .int .u64 (M p))) ∧ Blk W g19 60 (rowF 25 (fun p => .int .u64 (0)))) ⟨k.alloc _, Bg2.alloc _, Bg4.alloc _, Bg16.alloc _, by rw [← hg19]; exact Blk.new _ _ _⟩ ?_
                      clear k Bg2 Bg4 Bg16
                      rintro W12 ⟨k, Bg2, Bg4, Bg16, Bg19⟩
                      try simp only [hg19]
                      clear hg19
                      go_wp2_with fail
                      go_loopw [20] (fun t' wr => ∃ x : Nat, x ≤ 5 ∧ t' = .int .i64 x ∧ Kept w wr ∧ Blk wr g2 60 (rowF 25 (fun p => .int .u64 (s p))) ∧ Blk wr g4 60 (rowF 25 (fun p => .int .u64 (0))) ∧ Blk wr g16 157 (rowF 25 (fun p => .int .u64 (M p))) ∧ Blk wr g19 60 (rowF 25 (fun p => .int .u64 (if trP p < x * 5 then rbend M p else 0)))) (fun t' _ => 5 - (intOf t').toNat)
                      case atStart => exact ⟨0, Nat.zero_le _, rfl, k, Bg2, Bg4, Bg16, Bg19.congrU fun j hj => by rw [if_neg (Nat.not_lt_zero _)]⟩
                      case round =>
                        clear k Bg2 Bg4 Bg16 Bg19
                        obtain ⟨x, hx, rfl, k, Bg2, Bg4, Bg16, Bg19⟩ := hrel
                        have zx : (0 : Int) ≤ (x : Int) := by omega
                        rcases Nat.lt_or_ge x 5 with hltx | hgex
                        · have yx : (x : Int) < 5 := by omega
                          go_wp2_with fail
                          go_loopw [21] (fun t' wr => ∃ y : Nat, y ≤ 5 ∧ t' = .int .i64 y ∧ Kept w wr ∧ Blk wr g2 60 (rowF 25 (fun p => .int .u64 (s p))) ∧ Blk wr g4 60 (rowF 25 (fun p => .int .u64 (0))) ∧ Blk wr g16 157 (rowF 25 (fun p => .int .u64 (M p))) ∧ Blk wr g19 60 (rowF 25 (fun p => .int .u64 (if trP p < x * 5 + y then rbend M p else 0)))) (fun t' _ => 5 - (intOf t').toNat)
                          case atStart => exact ⟨0, Nat.zero_le _, rfl, k, Bg2, Bg4, Bg16, Bg19⟩
                          case round =>
                            clear k Bg2 Bg4 Bg16 Bg19
                            obtain ⟨y, hy, rfl, k, Bg2, Bg4, Bg16, Bg19⟩ := hrel
                            have zy : (0 : Int) ≤ (y : Int) := by omega
                            rcases Nat.lt_or_ge y 5 with hlty | hgey
                            · have yy : (y : Int) < 5 := by omega
                              obtain ⟨q, hq, hq25⟩ : ∃ q, x + 5 * y = q ∧ q < 25 := ⟨_, rfl, by omega⟩
                              obtain ⟨m, hm, hm5⟩ : ∃ m, (x + 1) % 5 = m ∧ m < 5 := ⟨_, rfl, by omega⟩
                              obtain ⟨u, hu, hu5⟩ : ∃ u, (x + 2) % 5 = u ∧ u < 5 := ⟨_, rfl, by omega⟩
                              have HT : Hid (∀ j, j < 25 → (j = q ↔ trP j = x * 5 + y)) := Lib.hid (by rw [← hq]; exact trP_eq x hltx y hlty)
                              have HV : Hid (rbend M q = bits .xor .u64 (M (x * 5 + y)) (bits .andNot .u64 (M (u * 5 + y)) (M (m * 5 + y)))) := Lib.hid (by unfold rbend; rw [show q % 5 = x by omega, show q / 5 = y by omega, hm, hu])
                              have c0 := Bg16.cellU (i := m * 5 + y) (by omega)
                              have c1 := Bg16.cellU (i := u * 5 + y) (by omega)
                              generalize M (m * 5 + y) = x1 at c0 HV
                              generalize M (u * 5 + y) = x2 at c1 HV
                              have w1 : IntKind.i64.wrap ((x : Int) + 1) = (x : Int) + 1 := IntWalk.i64_in _ (by omega)
                              have w2 : IntKind.i64.wrap ((x : Int) + 2) = (x : Int) + 2 := IntWalk.i64_in _ (by omega)
                              have e1 : ((x : Int) + 1).tmod 5 = (m : Int) := by have := rem5 (x + 1); rw [hm] at this; simpa using this
                              have e2 : ((x : Int) + 2).tmod 5 = (u : Int) := by have := rem5 (x + 2); rw [hu] at this; simpa using this
                              have e1' : ((x : Int) + 1) % 5 = (m : Int) := by omega
                              have e2' : ((x : Int) + 2) % 5 = (u : Int) := by omega
                              have e5 : (x : Int) + 5 * (y : Int) = (q : Int) := by omega
                              have w3 : IntKind.i64.wrap (5 * (y : Int)) = 5 * (y : Int) := IntWalk.i64_in _ (by omega)
                              have w4 : IntKind.i64.wrap (q : Int) = (q : Int) := IntWalk.i64_in _ (by omega)
                              have zm : (0 : Int) ≤ (m : Int) := by omega
                              have ym : (m : Int) < 5 := by omega
                              have zu : (0 : Int) ≤ (u : Int) := by omega
                              have yu : (u : Int) < 5 := by omega
                              have zq : (0 : Int) ≤ (q : Int) := by omega
                              have yq : (q : Int) < 25 := by omega
                              clear hm hu hq
                              go_upto_region 43 with (fail)
                              refine wp_region_calm 16 (by kernel_rfl) (by kernel_rfl) ?_
                              simp only [List.take_succ_cons, List.take_zero, List.drop_succ_cons, List.drop_zero]
                              repeat (first
                                | (refine calm_skip rfl ?_; simp only [Act.put, List.setIfInBounds_toArray, List.set_cons_zero, List.set_cons_succ])
                                | (refine calm_ex rfl ?_; apply Exists.intro; refine And.intro (fun w' hk => ?_) ?_; (focus (have q0 := hk.cell c0; have q1 := hk.cell c1; clear hk; go_simp; exact rfl)); simp only [Act.put, List.setIfInBounds_toArray, List.set_cons_zero, List.set_cons_succ]))
                              refine calm_nil ?_
                              intro W9 hkW9
                              clear c0 c1
                              have k' := k.trans hkW9
                              have Bg2' := Bg2.kept hkW9
                              have Bg4' := Bg4.kept hkW9
                              have Bg16' := Bg16.kept hkW9
                              have Bg19' := Bg19.kept hkW9
                              clear hkW9 k Bg2 Bg4 Bg16 Bg19
                              have k := k'
                              have Bg2 := Bg2'
                              have Bg4 := Bg4'
                              have Bg16 := Bg16'
                              have Bg19 := Bg19'
                              clear k' Bg2' Bg4' Bg16' Bg19'
                              have c0 := Bg16.cellU (i := x * 5 + y) (by omega)
                              have c1 := Bg19.cellU (i := q) hq25
                              have f1 := Bg19.free
                              generalize M (x * 5 + y) = x0 at c0 HV
                              go_wp2_with fail
                              go_roundw
                              case rel => refine ⟨y + 1, by omega, by go_num, k.setCell (by exact nwg19) _, Bg2.set_other (by omega) _, Bg4.set_other (by omega) _, Bg16.set_other (by omega) _, Bg19.setU hq25 (upto_stepT (new := rbend M) HT.out HV.out)⟩
                              case measure => simp [intOf]; omega
                            · have yy : (5 : Int) ≤ (y : Int) := by omega
                              obtain rfl : y = 5 := by omega
                              go_wp2_with fail
                              go_roundw
                              have e5 : (x + 1) * 5 = x * 5 + 5 := by omega
                              case rel => refine ⟨x + 1, by omega, by go_num, ?_⟩; rw [e5]; exact ⟨k, Bg2, Bg4, Bg16, Bg19⟩
                              case measure => simp [intOf]; omega
                        · have yx : (5 : Int) ≤ (x : Int) := by omega
                          obtain rfl : x = 5 := by omega
                          clear hgex zx yx hx
                          have Bg19 := Bg19.congrU (s' := rbend M) fun j hj => by rw [if_pos (trP_lt j hj)]
                          clear Bg16
                          generalize rbend M = o at *
                          have c0 := Bg19.cellU (i := 0) (by omega)
                          go_upto_region 45 with (fail)
                          refine wp_region_calm 5 (by kernel_rfl) (by kernel_rfl) ?_
                          simp only [List.take_succ_cons, List.take_zero, List.drop_succ_cons, List.drop_zero]
                          repeat (first
                            | (refine calm_skip rfl ?_; simp only [Act.put, List.setIfInBounds_toArray, List.set_cons_zero, List.set_cons_succ])
                            | (refine calm_ex rfl ?_; apply Exists.intro; refine And.intro (fun w' hk => ?_) ?_; (focus (have q0 := hk.cell c0; clear hk; go_simp; exact rfl)); simp only [Act.put, List.setIfInBounds_toArray, List.set_cons_zero, List.set_cons_succ])
                            | (refine calm_step _ rfl (HConst.out.call ?_) ?_; (focus (intro w'; go_simp; done)); simp only [Act.put, List.setIfInBounds_toArray, List.set_cons_zero, List.set_cons_succ]))
                          refine calm_nil ?_
                          intro W9 hkW9
                          clear c0
                          have k' := k.trans hkW9
                          have Bg2' := Bg2.kept hkW9
                          have Bg4' := Bg4.kept hkW9
                          have Bg19' := Bg19.kept hkW9
                          clear hkW9 k Bg2 Bg4 Bg19
                          have k := k'
                          have Bg2 := Bg2'
                          have Bg4 := Bg4'
                          have Bg19 := Bg19'
                          clear k' Bg2' Bg4' Bg19'
                          have c0 := Bg19.cellU (i := 0) (by omega)
                          have f1 := Bg19.free
                          go_upto_region 46 with (fail)
                          have Bg19' := Bg19.setU (s' := fun j => if j = 0 then bits .xor .u64 (o 0) (conN r) else o j) (i := 0) (x := bits .xor .u64 (o 0) (conN r)) (by omega) (fun j hj => rfl)
                          have Bg4' := Bg4.set_other (c := g19) (i := 0) (by omega) (.int .u64 (bits .xor .u64 (o 0) (conN r)))
                          have k' := k.setCell (p := ⟨g19, 0, none⟩) (by exact nwg19) (.int .u64 (bits .xor .u64 (o 0) (conN r)))
                          clear c0 f1 Bg19 Bg4 k Bg2
                          go_wp2_with (first | (refine wpList_load_part 60 (.tmp 19) Bg19' (Nat.le_refl _) Try.underlying60 size60 rfl rfl rfl ?_) | (refine wpList_store_part (h' := fun j => .int .u64 (if j = 0 then bits .xor .u64 (o 0) (conN r) else o j)) 60 (.tmp 4) (.tmp 195) Bg4' (Nat.le_refl _) size60 (fun _ => rfl) rfl rfl rfl rfl ?_))
                          refine ret_blk rfl (Bg4'.setRow _) Try.underlying60 (by rw [rowF_size]; exact size60) rfl rfl (And.intro ?_ (k'.setRow nwg4 _))
                          rw [rowF_congr (g := fun i => Value.int .u64 (rone r s i)) fun j hj => by rw [if_pos hj, HF.out]]
end Go.Proofs.Ytnajihlhcdedgaa
