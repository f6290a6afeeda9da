/-
  The sponge: New, flip, add.
-/
import Derived.Test.YtnajihlhcdedgaaK9
namespace Go.Proofs.Ytnajihlhcdedgaa
open Go.RowKit
set_option linter.unusedVariables false
set_option linter.unusedSimpArgs false

/-- What stands behind the lanes of a sponge. -/
def spF (a d : Int) (g : Bool) (i : Nat) : Value := if i = 25 then .int .i64 a else if i = 26 then .int .u8 d else if i = 27 then .bool g else undef
/-- A sponge. -/
abbrev Sp (w : World) (b : Nat) (s : Nat → Int) (a d : Int) (g : Bool) : Prop := Blk w b 139 (rowF 28 (lanes s (spF a d g)))
theorem Blk.sat {w : World} {b : Nat} {s : Nat → Int} {a d : Int} {g : Bool} (h : Sp w b s a d g) : w.cell? ⟨b, 25, none⟩ = some (.int .i64 a) := h.at (i := 25) (by omega)
theorem Blk.sdom {w : World} {b : Nat} {s : Nat → Int} {a d : Int} {g : Bool} (h : Sp w b s a d g) : w.cell? ⟨b, 26, none⟩ = some (.int .u8 d) := h.at (i := 26) (by omega)
theorem Blk.sgive {w : World} {b : Nat} {s : Nat → Int} {a d : Int} {g : Bool} (h : Sp w b s a d g) : w.cell? ⟨b, 27, none⟩ = some (.bool g) := h.at (i := 27) (by omega)
theorem Blk.setAt {w : World} {b : Nat} {s : Nat → Int} {a d : Int} {g : Bool} (h : Sp w b s a d g) (a' : Int) : Sp (w.setCell ⟨b, 25, none⟩ (.int .i64 a')) b s a' d g :=
  h.set (by omega) fun j hj => by
    by_cases h25 : j < 25
    · rw [if_neg (by omega)]; simp [lanes, h25]
    · by_cases hj : j = 25
      · subst hj; rfl
      · rw [if_neg hj]; simp [lanes, h25, spF, hj]
theorem Blk.setGive {w : World} {b : Nat} {s : Nat → Int} {a d : Int} {g : Bool} (h : Sp w b s a d g) (g' : Bool) : Sp (w.setCell ⟨b, 27, none⟩ (.bool g')) b s a d g' :=
  h.set (by omega) fun j hj => by
    by_cases h25 : j < 25
    · rw [if_neg (by omega)]; simp [lanes, h25]
    · by_cases hj : j = 27
      · subst hj; rfl
      · rw [if_neg hj]; simp [lanes, h25, spF, hj]

/-- A byte added at a place. -/
def kflip (s : Nat → Int) (a : Nat) (c : Int) (i : Nat) : Int := if i = a / 8 then bits .xor .u64 (s (a / 8)) (c * 2 ^ (8 * (a % 8))) else s i
theorem kflip_in {s : Nat → Int} (h : ∀ i, i < 25 → in64 (s i)) (a : Nat) (c : Int) : ∀ i, i < 25 → in64 (kflip s a c i) := by
  intro i hi
  unfold kflip
  split
  · exact bits_in _ _ _
  · exact h i hi

set_option maxRecDepth 100000 in
set_option maxHeartbeats 4000000 in
theorem k_New (w : World) (d : Int) (h1 : 1 ≤ d) (h2 : d ≤ 127) : Calls Try.prog 66 #[.int .u8 d] w fun e w' => ∃ b, e = .returned (.pointer (some ⟨b, 0, none⟩)) ∧ w.heap.size ≤ b ∧ Sp w' b (fun _ => 0) 0 d false ∧ Kept w w' := by
  go_enter Try.func66, Try.ntmps66
  go_wp2_with fail
  go_ret
  exact ⟨_, rfl, Nat.le_refl _, Blk.new _ _ _, (Kept.refl w).alloc _⟩
set_option maxRecDepth 100000 in
set_option maxHeartbeats 4000000 in
theorem k_New_none (d : Int) (h : d < 1 ∨ 127 < d) : Pure Try.prog 66 #[.int .u8 d] (.pointer none) := fun w => by
  go_enter Try.func66, Try.ntmps66
  rcases h with h | h
  · go_wp2_with fail
    go_ret
    exact ⟨rfl, Kept.refl w⟩
  · go_wp2_with fail
    all_goals (go_ret; exact ⟨rfl, Kept.refl w⟩)

theorem wrap_byte {c : Int} (h0 : 0 ≤ c) (h1 : c ≤ 255) {m : Nat} (hm : m ≤ 56) : IntKind.u64.wrap (c * 2 ^ m) = c * 2 ^ m := by
  have hp : (2 : Int) ^ m ≤ 2 ^ 56 := by
    have h1 : 2 ^ m ≤ 2 ^ 56 := Nat.pow_le_pow_right (by decide) hm
    have h2 : ((2 ^ m : Nat) : Int) = 2 ^ m := by simp
    rw [← h2]; omega
  have hp0 : (0 : Int) < 2 ^ m := Int.pow_pos (by omega)
  have h3 : c * 2 ^ m ≤ 255 * 2 ^ 56 := Int.mul_le_mul h1 hp (by omega) (by omega)
  have h4 : 0 ≤ c * 2 ^ m := Int.mul_nonneg h0 (by omega)
  generalize c * 2 ^ m = x at *
  simp only [IntKind.wrap, IntKind.bits, IntKind.signed]
  simp
  omega

set_option maxRecDepth 100000 in
set_option maxHeartbeats 4000000 in
theorem k_flip (w : World) (b : Nat) (s : Nat → Int) (a' d : Int) (g : Bool) (a : Nat) (ha : a < 200) (c : Int) (c0 : 0 ≤ c) (c1 : c ≤ 255) (hB : Sp w b s a' d g) :
    Calls Try.prog 127 #[.pointer (some ⟨b, 0, none⟩), .int .i64 (a : Int), .int .u8 c] w fun e w' => e = .returned (.tuple #[]) ∧ Touch b w w' ∧ Sp w' b (kflip s a c) a' d g := by
  obtain ⟨q, hq, hq25⟩ : ∃ q, a / 8 = q ∧ q < 25 := ⟨_, rfl, by omega⟩
  obtain ⟨r, hr, hr8⟩ : ∃ r, a % 8 = r ∧ r < 8 := ⟨_, rfl, by omega⟩
  obtain ⟨m, hm, hm56⟩ : ∃ m, 8 * r = m ∧ m ≤ 56 := ⟨_, rfl, by omega⟩
  have e1 : (a : Int).tdiv 8 = (q : Int) := by rw [Int.tdiv_eq_ediv_of_nonneg (by omega)]; omega
  have e1' : (a : Int) / 8 = (q : Int) := by omega
  have e2 : (a : Int).tmod 8 = (r : Int) := by rw [Int.tmod_eq_emod_of_nonneg (by omega)]; omega
  have e2' : (a : Int) % 8 = (r : Int) := by omega
  have e3 : 8 * (r : Int) = (m : Int) := by omega
  have w1 : IntKind.i64.wrap (q : Int) = (q : Int) := IntWalk.i64_in _ (by omega)
  have w2 : IntKind.i64.wrap (m : Int) = (m : Int) := IntWalk.i64_in _ (by omega)
  have w3 : IntKind.u64.wrap c = c := by simp [IntKind.wrap, IntKind.bits, IntKind.signed]; omega
  have w4 := wrap_byte c0 c1 hm56
  have z1 : (0 : Int) ≤ (q : Int) := by omega
  have z2 : (q : Int) < 25 := by omega
  have z3 : (0 : Int) ≤ (m : Int) := by omega
  have z4 : (m : Int) ≤ 64 := by omega
  have cl := hB.lane (by omega) hq25
  have HV : Hid (∀ j, j < 25 → kflip s a c j = if j = q then bits .xor .u64 (s q) (c * 2 ^ m) else s j) := Lib.hid fun j _ => by unfold kflip; rw [hq, hr, hm]
  generalize s q = x0 at cl HV
  clear hq hr hm ha
  go_enter Try.func127, Try.ntmps127
  go_upto_region 0 with (fail)
  refine wp_region_calm 17 (by kernel_rfl) (by kernel_rfl) ?_
  simp only [List.take_succ_cons, List.take_zero, List.drop_succ_cons, List.drop_zero]
  repeat (first
    | (refine calm_skip rfl ?_; simp only [Act.put, List.setIfInBounds_toArray, List.set_cons_zero, List.set_cons_succ])
    | (refine calm_ex rfl ?_; apply Exists.intro; refine And.intro (fun w' hk => ?_) ?_; (focus (have q0 := hk.cell cl; clear hk; go_simp; exact rfl)); simp only [Act.put, List.setIfInBounds_toArray, List.set_cons_zero, List.set_cons_succ]))
  refine calm_nil ?_
  intro W1 hkW1
  have B1 := hB.kept hkW1
  have c9 := hkW1.cell cl
  have f1 := B1.free
  have k1 : Touch b w W1 := .of_kept hkW1
  clear hkW1 cl hB
  go_wp2_with fail
  refine bodyPost_end (v := .tuple #[]) (by simp [results, Try.results127, go_sem]) rfl ⟨rfl, k1.trans (Touch.set _ _ _ _), B1.setLane (by omega) hq25 HV.out⟩
end Go.Proofs.Ytnajihlhcdedgaa
