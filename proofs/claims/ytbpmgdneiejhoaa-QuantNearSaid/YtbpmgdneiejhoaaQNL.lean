/-
  QuantNear: for every three small numbers and every fourth the law returns true.
-/
import Derived.Test.YtbpmgdneiejhoaaQNW
namespace Go.Proofs.Ytbpmgdneiejhoaa
open Go.RowKit Ieee
set_option linter.unusedVariables false

theorem Fl_abs {v t : Int} {x : Nat} (h : Fl v t x) (hx : x < 18446744073709551616) : Fl (v.natAbs : Int) t (absB x) := by
  obtain ⟨h1, h2, h3⟩ := h
  obtain ⟨s, m, p, hr, hp⟩ := fin_number h1
  have ha := (read_abs hx (s := s)).1 m p hr
  refine ⟨by rw [ha]; simp only [Fin']; exact hp, h2, ?_⟩
  rw [hr] at h3
  rw [ha]
  simp only [V] at h3 ⊢
  have := congrArg Int.natAbs h3
  rw [natAbs_signed, natAbs_mul_pow] at this
  rw [signed_pos]
  have e1 : (m : Int) * 2 ^ (p + 1074).toNat = ((m * 2 ^ (p + 1074).toNat : Nat) : Int) := by simp
  have e2 : (v.natAbs : Int) * 2 ^ (t + 1074).toNat = ((v.natAbs * 2 ^ (t + 1074).toNat : Nat) : Int) := by simp
  rw [e1, e2, this]

section
variable {l a : Int} {low step : Nat} {steps : Int}
theorem LawS.whole_of (h : LawS l a low step steps) {n : Nat} (n1 : (n : Int) ≤ steps) {x d q : Nat} (hx : nan x = false) (e1 : floatBits .sub .f64 x low = some d) (e2 : floatBits .quo .f64 d step = some q) (hq : nan q = false) (fr : Fl (n : Int) 0 (rte q)) :
    Pure Try.prog 13 #[scaleV low step steps, .float .f64 x] (.tuple #[.int .u32 (n : Int), .int .i64 0]) := by
  have hs0 := h.s0
  have hs1 := h.s1
  have HE := run_even q hq
  have o0 : FloatKind.f64.format.order (rte q) 0 = some (compare (n : Int) 0) := Fl_order fr (Fl_0 (by omega))
  have oF : FloatKind.f64.format.order (rte q) (floatOfInt .f64 steps) = some (compare (n : Int) steps) := Fl_order fr (Fl_ofInt steps (by omega))
  have hc : ((0 : Int) != 0) = false := rfl
  rcases Nat.eq_zero_or_pos n with hz | hz
  · subst hz
    rw [cmp_eq (a := ((0 : Nat) : Int)) (b := 0) rfl] at o0
    exact p_Whole_zero_eq low step x steps 0 q d e1 e2 (rte q) HE h.check hc hx o0
  · rw [cmp_gt (by omega)] at o0
    rcases cmp_cases (n : Int) steps with ⟨hc', _⟩ | ⟨hc', he⟩ | ⟨_, hgt⟩
    · rw [hc'] at oF
      exact p_Whole_mid low step x steps 0 q d e1 e2 (rte q) HE _ (toInt_Fl fr (by omega)) h.check hc hx o0 oF
    · rw [hc'] at oF
      rw [he]
      exact p_Whole_top_eq low step x steps 0 q d e1 e2 (rte q) HE h.check hc hx o0 oF
    · omega
end

theorem some_lt {x y : Nat} {v u t : Int} (hx : Fl v t x) (hy : Fl u t y) : (FloatKind.f64.format.order x y == some .lt) = decide (v < u) ∧ (FloatKind.f64.format.order x y == some .gt) = decide (u < v) ∧ (FloatKind.f64.format.order x y == some .eq) = decide (v = u) := by
  have h : FloatKind.f64.format.order x y = some (compare v u) := Fl_order hx hy
  rw [h]
  rcases cmp_cases v u with ⟨hc, hv⟩ | ⟨hc, hv⟩ | ⟨hc, hv⟩
  · rw [hc, decide_eq_true hv, decide_eq_false (by omega), decide_eq_false (by omega)]; exact ⟨rfl, rfl, rfl⟩
  · rw [hc, decide_eq_false (by omega), decide_eq_false (by omega), decide_eq_true hv]; exact ⟨rfl, rfl, rfl⟩
  · rw [hc, decide_eq_false (by omega), decide_eq_true hv, decide_eq_false (by omega)]; exact ⟨rfl, rfl, rfl⟩

theorem near_int (P a N steps : Int) (a1 : 1 ≤ a) (hP : P ≤ 4 * (a * steps)) (h : 4 * (a * N) ≤ P + 2 * a) : N ≤ steps := by
  rcases Int.lt_or_le steps N with hlt | hle
  · exfalso
    have h1 : a * (steps + 1) ≤ a * N := Int.mul_le_mul_of_nonneg_left hlt (by omega)
    rw [Int.mul_add, Int.mul_one] at h1
    omega
  · exact hle

theorem quant_near_law (t : List Int) (lt : t.length = 3) (wt : ∀ z ∈ t, (Lit.int .i16 z).wf = true) (z : Int) (wz : (Lit.int .i16 z).wf = true) (w : World) :
    Calls Try.prog 4 #[.agg (t.map (Value.int .i16)).toArray, .int .i16 z] w fun e w' => e = .returned (.bool true) ∧ Kept w w' := by
  match t, lt with
  | [l, s, k], _ =>
    have hl := wt l (by simp)
    simp [Lit.wf, IntKind.min, IntKind.max, IntKind.signed, IntKind.bits] at hl
    simp [Lit.wf, IntKind.min, IntKind.max, IntKind.signed, IntKind.bits] at wz
    obtain ⟨a, low, step, steps, h, hS⟩ := law_scale l s k (by omega) (by omega)
    have hs0 := h.s0
    have hs1 := h.s1
    have ha0 := h.a0
    have ha1 := h.a1
    obtain ⟨x, ex, fx⟩ := Fl_div (v := z) (u := 1) (t := 0) (q := 6) (Fl_congr (Fl_ofInt z (by omega)) (by omega) rfl) Fl_64 (by omega) (by omega) (by omega) (by omega) (by omega)
    have fx6 : Fl z (-6) x := Fl_congr fx rfl (by omega)
    have fl6 : Fl (l * 8) (-6) low := Fl_congr (Fl_scale h.low 3 (by omega)) rfl (by omega)
    have c1 := some_lt fx6 fl6
    by_cases hlt : z < l * 8
    · exact quant_near_below l s k z low step x 0 steps ex quant_Awake hS (by rw [c1.1]; exact decide_eq_true hlt) w
    · have b1 : (FloatKind.f64.format.order x low == some .lt) = false := by rw [c1.1]; exact decide_eq_false hlt
      obtain ⟨r1, hh, em, ea, fh, h64⟩ := h.at (n := steps) (by omega) (by omega)
      have fh6 : Fl ((l * 2 + a * steps) * 4) (-6) hh := Fl_congr (Fl_scale fh 2 (by omega)) rfl (by omega)
      have c2 := some_lt fx6 fh6
      have hH := p_High low step r1 hh steps em ea
      by_cases hgt : (l * 2 + a * steps) * 4 < z
      · exact quant_near_above l s k z low step x hh steps ex quant_Awake hS b1 hH (by rw [c2.2.1]; exact decide_eq_true hgt) w
      · have b2 : (FloatKind.f64.format.order x hh == some .gt) = false := by rw [c2.2.1]; exact decide_eq_false hgt
        obtain ⟨A, rfl⟩ := Int.eq_ofNat_of_zero_le (show 0 ≤ a by omega)
        obtain ⟨P, hP⟩ := Int.eq_ofNat_of_zero_le (show 0 ≤ z - l * 8 by omega)
        have hPle : (P : Int) ≤ 4 * ((A : Int) * steps) := by omega
        obtain ⟨d, ed, fd⟩ := Fl_sub fx6 fl6 (by omega) (by omega)
        rw [hP] at fd
        obtain ⟨q, N, eq, q64, nq, fr, g1, g2⟩ : ∃ q N : Nat, double.div d step = some q ∧ q < 18446744073709551616 ∧ nan q = false ∧ Fl (N : Int) 0 (rte q) ∧ P ≤ 4 * A * N + 2 * A ∧ 4 * A * N ≤ P + 2 * A := by
          rcases Nat.eq_zero_or_pos P with h0 | h0
          · subst h0
            obtain ⟨q, eq, fq⟩ := Fl_div (v := 0) (u := (A : Int)) (Fl_congr fd (by rw [Int.zero_mul]; rfl) rfl) h.step (by omega) (by omega) (by omega) (by omega) (by omega)
            have fq0 : Fl ((0 : Nat) : Int) 0 q := ⟨fq.1, by omega, by rw [fq.2.2, Int.zero_mul]; exact (Int.zero_mul _).symm⟩
            exact ⟨q, 0, eq, double.div_lt eq, fq.nan, rte_Fl fq0 (by omega) (double.div_lt eq), by omega, by omega⟩
          · exact div_near fd h.step h0 (by omega) (by omega) (by omega)
        have g1' : (P : Int) ≤ 4 * ((A : Int) * N) + 2 * A := by
          have : ((4 * A * N + 2 * A : Nat) : Int) = 4 * ((A : Int) * N) + 2 * A := by simp [Int.mul_assoc]
          omega
        have g2' : 4 * ((A : Int) * N) ≤ P + 2 * A := by
          have : ((4 * A * N : Nat) : Int) = 4 * ((A : Int) * N) := by simp [Int.mul_assoc]
          omega
        have hN : (N : Int) ≤ steps := near_int P A N steps ha0 hPle g2'
        have hW := h.whole_of hN fx.nan ed eq nq fr
        obtain ⟨y, hNum, fy⟩ := h.number (n := (N : Int)) (by omega) hN
        have fy6 : Fl ((l * 2 + (A : Int) * N) * 4) (-6) y := Fl_congr (Fl_scale fy 2 (by omega)) rfl (by omega)
        obtain ⟨r, er, frr⟩ := Fl_sub fx6 fy6 (by omega) (by omega)
        obtain ⟨u, eu, fu⟩ := Fl_div (v := (A : Int)) (u := 1) (t := -4) (q := 1) (Fl_congr h.step (by omega) rfl) Fl_2 (by omega) (by omega) (by omega) (by omega) (by omega)
        have fu6 : Fl ((A : Int) * 2) (-6) u := Fl_congr (Fl_scale fu 1 (by omega)) rfl (by omega)
        have c3 := some_lt (Fl_abs frr (double.sub_lt er)) fu6
        have b3 : (FloatKind.f64.format.order (absB r) u == some .lt || FloatKind.f64.format.order (absB r) u == some .eq) = true := by
          rw [c3.1, c3.2.2, Bool.or_eq_true, decide_eq_true_eq, decide_eq_true_eq]
          omega
        exact quant_near_in l s k z low step x hh steps ex quant_Awake hS b1 hH b2 N y r (absB r) u hW hNum er (fun w => (abs_any r w).mono fun e w' ⟨h1, h2⟩ => ⟨h1, h2 ▸ Kept.refl w⟩) eu b3 w
end Go.Proofs.Ytbpmgdneiejhoaa
