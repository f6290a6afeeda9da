/-
  Whole, quant's and the reference's: one answer.
-/
import Derived.Test.YtbpmgdneiejhoaaQ6
namespace Go.Proofs.Ytbpmgdneiejhoaa
open Go.RowKit Ieee
set_option linter.unusedVariables false

def scaleV (low step : Nat) (steps : Int) : Value := .agg #[.float .f64 low, .float .f64 step, .int .u32 steps]
/-- What a scale that may be is. -/
structure OkS (low step : Nat) (steps : Int) : Prop where
  low : IsN (double.read low)
  step : ∃ s m p, double.read step = .number s m p ∧ m ≠ 0
  lo : 1 ≤ steps
  hi : steps ≤ 1073741824

theorem isN_of {x : Nat} (hx : x < 18446744073709551616) (hn : nan x = false) (hf : farR x = false) : IsN (double.read x) := by
  rcases (num_of_nan hn).cases with h | ⟨s, h⟩
  · exact h
  · rw [far_infinity h] at hf; cases hf
theorem order0 {x : Nat} (hx : x < 18446744073709551616) (h : IsN (double.read x)) : FloatKind.f64.format.order x 0 = some (compare (V (double.read x)) 0) := by
  rcases read_cases x hx with ⟨s, m, p, h1, _, h2, _⟩ | ⟨s, h1⟩ | ⟨s, t, h1⟩
  · exact order_zero (by rw [h1]; simp only [Fin']; exact h2)
  · obtain ⟨_, _, _, h⟩ := h; rw [h1] at h; cases h
  · obtain ⟨_, _, _, h⟩ := h; rw [h1] at h; cases h

theorem check_same (low step : Nat) (steps : Int) (hl : low < 18446744073709551616) (hs : step < 18446744073709551616) (h0 : 0 ≤ steps) :
    ∃ c : Int, Pure Try.prog 26 #[scaleV low step steps] (.int .i64 c) ∧ Pure Try.prog 24 #[scaleV low step steps] (.int .i64 c) ∧ (c = 28 ∨ c = 6 ∨ (c = 0 ∧ OkS low step steps)) := by
  cases nl : nan low with
  | true => exact ⟨28, p_Check_nl0 low step steps nl, r_Check_nl0 low step steps nl, .inl rfl⟩
  | false =>
  cases ns : nan step with
  | true => exact ⟨28, p_Check_ns0 low step steps nl ns, r_Check_ns0 low step steps nl ns, .inl rfl⟩
  | false =>
  have gl := fin_far hl nl
  have gs := fin_far hs ns
  cases fl : farR low with
  | true =>
    rw [fl] at gl
    exact ⟨6, p_Check_fl0 low step steps nl ns gl, r_Check_fl0 low step steps nl ns fl, .inr (.inl rfl)⟩
  | false =>
  rw [fl] at gl
  cases fs : farR step with
  | true =>
    rw [fs] at gs
    exact ⟨6, p_Check_fs0 low step steps nl ns gl gs, r_Check_fs0 low step steps nl ns fl fs, .inr (.inl rfl)⟩
  | false =>
  rw [fs] at gs
  have il := isN_of hl nl fl
  have is := isN_of hs ns fs
  have ho := order0 hs is
  rcases cmp_cases (V (double.read step)) 0 with ⟨hc, hv⟩ | ⟨hc, hv⟩ | ⟨hc, hv⟩
  · rw [hc] at ho
    exact ⟨6, p_Check_o0 low step steps nl ns gl gs ho, r_Check_o0 low step steps nl ns fl fs ho, .inr (.inl rfl)⟩
  · rw [hc] at ho
    exact ⟨6, p_Check_o1 low step steps nl ns gl gs ho, r_Check_o1 low step steps nl ns fl fs ho, .inr (.inl rfl)⟩
  rw [hc] at ho
  have hstep : ∃ s m p, double.read step = .number s m p ∧ m ≠ 0 := by
    obtain ⟨s, m, p, h⟩ := is
    refine ⟨s, m, p, h, fun hm => ?_⟩
    subst hm
    rw [h] at hv
    simp only [V, signed_zero] at hv
    omega
  by_cases h1 : steps < 1
  · have e : steps = 0 := by omega
    subst e
    exact ⟨6, p_Check_s10 low step 0 nl ns gl gs ho rfl, r_Check_s10 low step 0 nl ns fl fs ho rfl, .inr (.inl rfl)⟩
  have p1 : decide (steps < 1) = false := decide_eq_false h1
  have r1 : (steps == 0) = false := beq_eq_false_iff_ne.2 (by omega)
  by_cases h2 : 1073741824 < steps
  · exact ⟨6, p_Check_s20 low step steps nl ns gl gs ho p1 (decide_eq_true h2), r_Check_s20 low step steps nl ns fl fs ho r1 (decide_eq_true h2), .inr (.inl rfl)⟩
  have p2 : decide (1073741824 < steps) = false := decide_eq_false h2
  obtain ⟨r, h, hm, ha, hn, hlt⟩ := high_some (steps := steps) il is (by omega)
  have nh := nan_false hn
  have gh := fin_far hlt nh
  have hp := p_High low step r h steps hm ha
  have hr := r_High low step r h steps hm ha
  cases fh : farR h with
  | true =>
    rw [fh] at gh
    exact ⟨6, p_Check_h0 low step h steps nl ns gl gs ho p1 p2 hp gh, r_Check_h0 low step h steps nl ns fl fs ho r1 p2 hr nh fh, .inr (.inl rfl)⟩
  | false =>
    rw [fh] at gh
    exact ⟨0, p_Check_h1 low step h steps nl ns gl gs ho p1 p2 hp gh, r_Check_h1 low step h steps nl ns fl fs ho r1 p2 hr nh fh, .inr (.inr ⟨rfl, il, hstep, by omega, by omega⟩)⟩

theorem signed_pos {A k : Nat} : signed false A k = (A : Int) * 2 ^ k := by rw [signed_eq]; simp
theorem signed_neg {A k : Nat} : signed true A k = -((A : Int) * 2 ^ k) := by rw [signed_eq]; simp
theorem mul_pow_lt {a b : Int} (k : Nat) : a * 2 ^ k < b * 2 ^ k ↔ a < b :=
  ⟨fun h => Int.lt_of_mul_lt_mul_right h (Int.le_of_lt (pow_pos2 k)), fun h => Int.mul_lt_mul_of_pos_right h (pow_pos2 k)⟩

theorem order_infinity {q y : Nat} {s : Bool} (hr : double.read q = .infinity s) (hy : IsN (double.read y)) : FloatKind.f64.format.order q y = some (if s then .lt else .gt) := by
  obtain ⟨s', m, p, h⟩ := hy
  show (double.read q).order (double.read y) = _
  rw [hr, h]; rfl
theorem rte_infinity {q : Nat} {s : Bool} (hr : double.read q = .infinity s) : double.read (rte q) = .infinity s := by
  unfold rte
  rw [hr]
  show double.read (double.word s double.infRung) = _
  rw [d_inf]
  cases s <;> decide

theorem toInt_number {q : Nat} {m : Nat} {p : Int} {A d : Nat} (hr : double.read q = .number false m p) (hA : m <<< p.toNat = A) (hd : (-p).toNat = d) (h : A / 2 ^ d ≤ 4294967295) : floatToIntVal .f64 q .u32 = some ((A / 2 ^ d : Nat) : Int) := by
  have ht : (double.read q).toInt .zero = some ((A / 2 ^ d : Nat) : Int) := by
    rw [hr]
    simp only [Datum.toInt, Datum.integral, cut_zero, hA, hd, signed_pos, Int.pow_zero, Int.mul_one]
  unfold floatToIntVal
  have hd' : FloatKind.f64.decode q = double.read q := rfl
  rw [hd', ht]
  simp only
  rw [if_pos]
  constructor
  · show IntKind.u32.min ≤ ((A / 2 ^ d : Nat) : Int); simp only [IntKind.min, IntKind.signed]; exact Int.natCast_nonneg _
  · show ((A / 2 ^ d : Nat) : Int) ≤ IntKind.u32.max
    have : IntKind.u32.max = 4294967295 := by decide
    rw [this]; omega

theorem read_half : double.read 4602678819172646912 = .number false 4503599627370496 (-53) := by decide
theorem Fl_half : Fl 1 (-1) 4602678819172646912 := by
  refine ⟨by rw [read_half]; simp only [Fin']; omega, by omega, ?_⟩
  rw [read_half]
  simp only [V]
  have e : ((-1 : Int) + 1074).toNat = 52 + ((-53 : Int) + 1074).toNat := by omega
  rw [e, Int.one_mul, signed_pos, Int.pow_add]
  rfl

theorem rest_same {low step x : Nat} {k : Nat} {a1 q m : Nat} {p : Int} {A d : Nat} (h1 : (1 : Int) ≤ (k : Int)) (h2 : (k : Int) ≤ 1073741824) (hx : nan x = false)
    (hs : floatBits .sub .f64 x low = some a1) (hq : floatBits .quo .f64 a1 step = some q)
    (HR : Pure Try.prog 24 #[scaleV low step (k : Int)] (.int .i64 0))
    (hr : double.read q = .number false m p) (hA : m <<< p.toNat = A) (hdp : (-p).toNat = d) (hd : d ≤ 1074) (hd0 : d = 0 ∨ A < 9007199254740992) (hV : V (.number false m p) = signed false A (1074 - d))
    (hD : A / 2 ^ d < 1073741824)
    (oq : FloatKind.f64.format.order q 0 = some .gt) (oqF : FloatKind.f64.format.order q (floatOfInt .f64 (k : Int)) = some .lt) (hN : RE A d = A / 2 ^ d ∨ RE A d = A / 2 ^ d + 1) :
    Pure Try.prog 11 #[scaleV low step (k : Int), .float .f64 x] (.tuple #[.int .u32 (RE A d : Int), .int .i64 0]) := by
  have hc : ((0 : Int) != 0) = false := rfl
  have pd : 0 < 2 ^ d := Nat.two_pow_pos d
  have hv := toInt_number hr hA hdp (by omega)
  have fq : Fl (A : Int) (0 - (d : Int)) q := by
    obtain ⟨_, _, _, e, hp⟩ : ∃ s m p, double.read q = .number s m p ∧ -1074 ≤ p := ⟨_, _, _, hr, by omega⟩
    refine ⟨by rw [hr]; simp only [Fin']; omega, by omega, ?_⟩
    rw [hr, hV, signed_pos, show (0 - (d : Int) + 1074).toNat = 1074 - d by omega]
  have fD := Fl_scale (Fl_ofInt ((A / 2 ^ d : Nat) : Int) (by omega)) d (by omega)
  have hmod : (A : Int) - ((A / 2 ^ d : Nat) : Int) * 2 ^ d = ((A % 2 ^ d : Nat) : Int) := by
    have := Nat.div_add_mod A (2 ^ d)
    have e : ((A / 2 ^ d : Nat) : Int) * 2 ^ d = ((2 ^ d * (A / 2 ^ d) : Nat) : Int) := by
      rw [Int.natCast_mul, Int.mul_comm]; simp
    rw [e]
    omega
  have hm53 : A % 2 ^ d < 9007199254740992 := by
    rcases hd0 with h | h
    · subst h; rw [Nat.pow_zero, Nat.mod_one]; omega
    · have := Nat.mod_le A (2 ^ d); omega
  obtain ⟨r, hr1, hr2⟩ := Fl_sub fq fD (by rw [hmod, Int.natAbs_natCast]; exact hm53) (by omega)
  rw [hmod] at hr2
  have v0 : (0 : Int) ≤ ((A / 2 ^ d : Nat) : Int) := Int.natCast_nonneg _
  have v1 : ((A / 2 ^ d : Nat) : Int) ≤ 1073741824 := by omega
  have hodd : ∀ b : Bool, ((A / 2 ^ d) % 2 = 1 ↔ b = true) → ((((A / 2 ^ d : Nat) : Int) % 2 == 1) = b) := by
    intro b hb
    cases b with
    | true => have := hb.2 rfl; simp only [beq_iff_eq]; omega
    | false =>
      have : ¬ (A / 2 ^ d) % 2 = 1 := fun h => by cases hb.1 h
      simp only [beq_eq_false_iff_ne]; omega
  rcases Nat.eq_zero_or_pos d with hz | hz
  · subst hz
    have hRE : RE A 0 = A / 2 ^ 0 := by unfold RE; rw [Nat.pow_zero, Nat.mod_one, if_neg (by omega)]; rfl
    have f0 := Fl_scale hr2 1 (by omega)
    have ho := Fl_order f0 Fl_half
    rw [show ((A % 2 ^ 0 : Nat) : Int) * 2 ^ 1 = 0 by rw [Nat.pow_zero, Nat.mod_one]; rfl, cmp_lt (by omega)] at ho
    rw [hRE]
    exact r_Whole_down low step x (k : Int) 0 q a1 hs hq _ r v0 v1 hv hr1 HR hc hx oq oqF ho
  · have fh := Fl_scale Fl_half (d - 1) (by omega)
    have e1 : (-1 : Int) - ((d - 1 : Nat) : Int) = 0 - (d : Int) := by omega
    rw [e1, Int.one_mul] at fh
    have ho := Fl_order hr2 fh
    have e2 : (2 : Int) ^ (d - 1) = ((2 ^ (d - 1) : Nat) : Int) := by simp
    have e3 : 2 ^ d = 2 * 2 ^ (d - 1) := by rw [show d = d - 1 + 1 by omega, Nat.pow_succ]; rw [show d - 1 + 1 - 1 = d - 1 by omega]; omega
    rw [e2] at ho
    rcases cmp_cases ((A % 2 ^ d : Nat) : Int) ((2 ^ (d - 1) : Nat) : Int) with ⟨hc', hlt⟩ | ⟨hc', he⟩ | ⟨hc', hgt⟩
    · rw [hc'] at ho
      have hRE : RE A d = A / 2 ^ d := by unfold RE; rw [if_neg (by omega)]; rfl
      rw [hRE]
      exact r_Whole_down low step x (k : Int) 0 q a1 hs hq _ r v0 v1 hv hr1 HR hc hx oq oqF ho
    · rw [hc'] at ho
      by_cases hb : (A / 2 ^ d) % 2 = 1
      · have hRE : RE A d = A / 2 ^ d + 1 := by unfold RE; rw [if_pos (.inr ⟨by omega, hb⟩)]
        rw [hRE, show ((A / 2 ^ d + 1 : Nat) : Int) = ((A / 2 ^ d : Nat) : Int) + 1 from rfl]
        exact r_Whole_tieup low step x (k : Int) 0 q a1 hs hq _ r v0 v1 hv hr1 HR hc hx oq oqF ho (hodd true ⟨fun _ => rfl, fun _ => hb⟩)
      · have hRE : RE A d = A / 2 ^ d := by unfold RE; rw [if_neg (by rintro (h | h); omega; exact hb h.2)]; rfl
        rw [hRE]
        exact r_Whole_tie low step x (k : Int) 0 q a1 hs hq _ r v0 v1 hv hr1 HR hc hx oq oqF ho (hodd false ⟨fun h => absurd h hb, fun h => by cases h⟩)
    · rw [hc'] at ho
      have hRE : RE A d = A / 2 ^ d + 1 := by unfold RE; rw [if_pos (.inl (by omega))]
      rw [hRE, show ((A / 2 ^ d + 1 : Nat) : Int) = ((A / 2 ^ d : Nat) : Int) + 1 from rfl]
      exact r_Whole_up low step x (k : Int) 0 q a1 hs hq _ r v0 v1 hv hr1 HR hc hx oq oqF ho

/-- The answer of either, of a number q of steps. -/
theorem step_same {low step x : Nat} {steps : Int} {a1 q : Nat} (h1 : 1 ≤ steps) (h2 : steps ≤ 1073741824) (hx : nan x = false)
    (hs : floatBits .sub .f64 x low = some a1) (hq : floatBits .quo .f64 a1 step = some q) (nq : Num (double.read q)) (hq64 : q < 18446744073709551616)
    (HP : Pure Try.prog 26 #[scaleV low step steps] (.int .i64 0)) (HR : Pure Try.prog 24 #[scaleV low step steps] (.int .i64 0)) :
    ∃ v : Int, 0 ≤ v ∧ v ≤ steps ∧ Pure Try.prog 13 #[scaleV low step steps, .float .f64 x] (.tuple #[.int .u32 v, .int .i64 0]) ∧ Pure Try.prog 11 #[scaleV low step steps, .float .f64 x] (.tuple #[.int .u32 v, .int .i64 0]) := by
  have HE := run_even q (nan_false nq)
  have hc : ((0 : Int) != 0) = false := rfl
  have i0 : IsN (double.read 0) := ⟨_, _, _, read_zero⟩
  have iF := isN_ofInt steps (by omega)
  have fF := Fl_ofInt steps (by omega)
  rcases read_cases q hq64 with ⟨s, m, p, hr, hm, hp0, hp⟩ | ⟨s, hr⟩ | ⟨s, t, hr⟩
  · obtain ⟨A, d, hd, hd0, hA, hdp, hV⟩ := split_number (s := s) hm hp0 hp
    obtain ⟨f1, v1⟩ := rte_V hr hm hp0 hp hA hdp hd0
    have fq : Fin' (double.read q) := by rw [hr]; simp only [Fin']; exact hp0
    have vq : V (double.read q) = signed s A (1074 - d) := by rw [hr]; exact hV
    have oq := order_zero fq
    have on := order_zero f1
    rw [vq] at oq
    rw [v1] at on
    by_cases hneg : s = true ∨ A = 0
    · -- no step above the first
      refine ⟨0, by omega, by omega, ?_, ?_⟩
      · have : signed s (RE A d) 1074 ≤ 0 := by
          rcases hneg with h | h
          · subst h; rw [signed_neg]; exact Int.neg_nonpos_of_nonneg (V_nonneg _ _)
          · have : RE A d = 0 := by subst h; unfold RE; simp
            rw [this, signed_zero]; exact Int.le_refl _
        rcases cmp_cases (signed s (RE A d) 1074) 0 with ⟨hc', _⟩ | ⟨hc', _⟩ | ⟨_, hlt⟩
        · rw [hc'] at on; exact p_Whole_zero_lt low step x steps 0 q a1 hs hq (rte q) HE HP hc hx on
        · rw [hc'] at on; exact p_Whole_zero_eq low step x steps 0 q a1 hs hq (rte q) HE HP hc hx on
        · exact absurd hlt (Int.not_lt.2 this)
      · have : signed s A (1074 - d) ≤ 0 := by
          rcases hneg with h | h
          · subst h; rw [signed_neg]; exact Int.neg_nonpos_of_nonneg (V_nonneg _ _)
          · rw [h, signed_zero]; exact Int.le_refl _
        rcases cmp_cases (signed s A (1074 - d)) 0 with ⟨hc', _⟩ | ⟨hc', _⟩ | ⟨_, hlt⟩
        · rw [hc'] at oq; exact r_Whole_zero_lt low step x steps 0 q a1 hs hq HR hc hx oq
        · rw [hc'] at oq; exact r_Whole_zero_eq low step x steps 0 q a1 hs hq HR hc hx oq
        · exact absurd hlt (Int.not_lt.2 this)
    · have hs' : s = false := by cases s with
        | true => exact absurd (.inl rfl) hneg
        | false => rfl
      subst hs'
      have hA0 : 0 < A := by
        rcases Nat.eq_zero_or_pos A with h | h
        · exact absurd (.inr h) hneg
        · exact h
      obtain ⟨k, rfl⟩ := Int.eq_ofNat_of_zero_le (show 0 ≤ steps by omega)
      have hk1 : 1 ≤ k := by omega
      have hk2 : k ≤ 1073741824 := by omega
      rw [signed_pos] at oq on vq v1
      have pd : 0 < 2 ^ d := Nat.two_pow_pos d
      rw [cmp_gt (Int.mul_pos (by omega) (pow_pos2 _))] at oq
      -- q and the steps
      have vF : V (double.read (floatOfInt .f64 (k : Int))) = (k : Int) * 2 ^ 1074 := by
        have := fF.2.2
        rw [show ((0 : Int) + 1074).toNat = 1074 by omega] at this
        exact this
      have oqF : FloatKind.f64.format.order q (floatOfInt .f64 (k : Int)) = some (compare (A : Int) ((k : Int) * 2 ^ d)) := by
        have h := order_V fq fF.1
        rw [vq, vF, show (1074 : Nat) = d + (1074 - d) by omega, Int.pow_add, ← Int.mul_assoc, show d + (1074 - d) - d = 1074 - d by omega, compare_scale] at h
        exact h
      have onF : FloatKind.f64.format.order (rte q) (floatOfInt .f64 (k : Int)) = some (compare (RE A d : Int) (k : Int)) := by
        have h := order_V f1 fF.1
        rw [v1, vF, compare_scale] at h
        exact h
      have on0 : FloatKind.f64.format.order (rte q) 0 = some (compare (RE A d : Int) 0) := by
        have e : compare ((RE A d : Int) * 2 ^ 1074) 0 = compare (RE A d : Int) 0 := by
          have := compare_scale (RE A d : Int) 0 1074
          rw [Int.zero_mul] at this
          exact this
        rw [e] at on
        exact on
      have ekd : (k : Int) * 2 ^ d = ((k * 2 ^ d : Nat) : Int) := by simp
      by_cases hge : k * 2 ^ d ≤ A
      · -- at the last step, or above it
        have hRE : k ≤ RE A d := by
          have h1 : k ≤ A / 2 ^ d := (Nat.le_div_iff_mul_le pd).2 hge
          unfold RE; omega
        refine ⟨(k : Int), by omega, by omega, ?_, ?_⟩
        · rw [cmp_gt (by omega)] at on0
          rcases cmp_cases (RE A d : Int) (k : Int) with ⟨_, hlt⟩ | ⟨hc', _⟩ | ⟨hc', _⟩
          · omega
          · rw [hc'] at onF; exact p_Whole_top_eq low step x (k : Int) 0 q a1 hs hq (rte q) HE HP hc hx on0 onF
          · rw [hc'] at onF; exact p_Whole_top_gt low step x (k : Int) 0 q a1 hs hq (rte q) HE HP hc hx on0 onF
        · rcases cmp_cases (A : Int) ((k : Int) * 2 ^ d) with ⟨_, hlt⟩ | ⟨hc', _⟩ | ⟨hc', _⟩
          · rw [ekd] at hlt; omega
          · rw [hc'] at oqF; exact r_Whole_top_eq low step x (k : Int) 0 q a1 hs hq HR hc hx oq oqF
          · rw [hc'] at oqF; exact r_Whole_top_gt low step x (k : Int) 0 q a1 hs hq HR hc hx oq oqF
      · have hlt : A < k * 2 ^ d := by omega
        have hD : A / 2 ^ d < k := (Nat.div_lt_iff_lt_mul pd).2 hlt
        rw [cmp_lt (by rw [ekd]; omega)] at oqF
        have hN : RE A d = A / 2 ^ d ∨ RE A d = A / 2 ^ d + 1 := by unfold RE; split <;> omega
        refine ⟨(RE A d : Int), by omega, by omega, ?_, ?_⟩
        · -- the program
          rcases Nat.eq_zero_or_pos (RE A d) with hz | hz
          · rw [hz]
            rw [hz, cmp_eq (a := ((0 : Nat) : Int)) (b := 0) rfl] at on0
            exact p_Whole_zero_eq low step x (k : Int) 0 q a1 hs hq (rte q) HE HP hc hx on0
          · rw [cmp_gt (by omega)] at on0
            rcases cmp_cases (RE A d : Int) (k : Int) with ⟨hc', hlt'⟩ | ⟨hc', he⟩ | ⟨_, hgt⟩
            · rw [hc'] at onF
              have fl : Fl ((RE A d : Nat) : Int) 0 (rte q) := ⟨f1, by omega, by rw [v1, show ((0 : Int) + 1074).toNat = 1074 by omega]⟩
              exact p_Whole_mid low step x (k : Int) 0 q a1 hs hq (rte q) HE _ (toInt_Fl fl (by omega)) HP hc hx on0 onF
            · rw [hc'] at onF
              rw [he]
              exact p_Whole_top_eq low step x (k : Int) 0 q a1 hs hq (rte q) HE HP hc hx on0 onF
            · omega
        · exact rest_same h1 h2 hx hs hq HR hr hA hdp hd hd0 hV (by omega) oq oqF hN
  · have hn := rte_infinity hr
    have o1 := order_infinity hr i0
    have o2 := order_infinity hr iF
    have o3 := order_infinity hn i0
    have o4 := order_infinity hn iF
    cases s
    · exact ⟨steps, by omega, by omega, p_Whole_top_gt low step x steps 0 q a1 hs hq (rte q) HE HP hc hx o3 o4, r_Whole_top_gt low step x steps 0 q a1 hs hq HR hc hx o1 o2⟩
    · exact ⟨0, by omega, by omega, p_Whole_zero_lt low step x steps 0 q a1 hs hq (rte q) HE HP hc hx o3, r_Whole_zero_lt low step x steps 0 q a1 hs hq HR hc hx o1⟩
  · exact absurd hr (nq s t)

/-- WHOLE: both give one answer, whatever the scale and the number. -/
theorem whole_same (low step x : Nat) (steps : Int) (hl : low < 18446744073709551616) (hs : step < 18446744073709551616) (h0 : 0 ≤ steps) (h1 : steps ≤ 4294967295) :
    ∃ v c : Int, 0 ≤ v ∧ v ≤ steps ∧ (c = 0 ∨ c = 6 ∨ c = 28) ∧ Pure Try.prog 13 #[scaleV low step steps, .float .f64 x] (.tuple #[.int .u32 v, .int .i64 c]) ∧ Pure Try.prog 11 #[scaleV low step steps, .float .f64 x] (.tuple #[.int .u32 v, .int .i64 c]) := by
  obtain ⟨c, HP, HR, h⟩ := check_same low step steps hl hs h0
  rcases h with rfl | rfl | ⟨rfl, ok⟩
  · exact ⟨0, 28, by omega, h0, .inr (.inr rfl), p_Whole_bad low step x steps 28 HP rfl, r_Whole_bad low step x steps 28 HR rfl⟩
  · exact ⟨0, 6, by omega, h0, .inr (.inl rfl), p_Whole_bad low step x steps 6 HP rfl, r_Whole_bad low step x steps 6 HR rfl⟩
  · cases hx : nan x with
    | true => exact ⟨0, 28, by omega, h0, .inr (.inr rfl), p_Whole_nan low step x steps 0 HP rfl hx, r_Whole_nan low step x steps 0 HR rfl hx⟩
    | false =>
      obtain ⟨a1, e1, n1⟩ := sub_some (num_of_nan hx) ok.low
      obtain ⟨s, m, p, hst, hm⟩ := ok.step
      obtain ⟨q, e2, n2, q64⟩ := div_some n1 hst hm
      obtain ⟨v, hv0, hv1, k1, k2⟩ := step_same ok.lo ok.hi hx e1 e2 n2 q64 HP HR
      exact ⟨v, 0, hv0, hv1, .inl rfl, k1, k2⟩
end Go.Proofs.Ytbpmgdneiejhoaa
