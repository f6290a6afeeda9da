/-
  A law's scales: what quant answers of them.
-/
import Derived.Test.YtbpmgdneiejhoaaQB
namespace Go.Proofs.Ytbpmgdneiejhoaa
open Go.RowKit Ieee
set_option linter.unusedVariables false

theorem Fl_pow2 {x : Nat} {t : Int} (ht : -1022 ≤ t) (hr : double.read x = .number false 4503599627370496 (t - 52)) : Fl 1 t x := by
  refine ⟨by rw [hr]; simp only [Fin']; omega, by omega, ?_⟩
  rw [hr]
  simp only [V]
  have e : (t + 1074).toNat = 52 + (t - 52 + 1074).toNat := by omega
  rw [e, Int.one_mul, signed_pos, Int.pow_add]
  rfl
theorem Fl_8 : Fl 1 3 4620693217682128896 := Fl_pow2 (by omega) (by decide)
theorem Fl_16 : Fl 1 4 4625196817309499392 := Fl_pow2 (by omega) (by decide)
theorem Fl_64 : Fl 1 6 4634204016564240384 := Fl_pow2 (by omega) (by decide)
theorem Fl_2 : Fl 1 1 4611686018427387904 := Fl_pow2 (by omega) (by decide)
theorem Fl_1 : Fl 1 0 4607182418800017408 := Fl_pow2 (by omega) (by decide)
theorem Fl_0 {t : Int} (ht : -1074 ≤ t) : Fl 0 t 0 := by
  refine ⟨by rw [read_zero]; simp only [Fin']; omega, ht, ?_⟩
  rw [V_zero, Int.zero_mul]
theorem Fl_congr {v v' t t' : Int} {x : Nat} (h : Fl v t x) (hv : v = v') (ht : t = t') : Fl v' t' x := by subst hv; subst ht; exact h
theorem Fl.isN {v t : Int} {x : Nat} (h : Fl v t x) : IsN (double.read x) := by
  obtain ⟨s, m, p, e, _⟩ := fin_number h.1
  exact ⟨s, m, p, e⟩
theorem IsN.num {d : Datum} (h : IsN d) : Num d := by
  obtain ⟨s, m, p, rfl⟩ := h
  exact num_number
theorem Fl.nan {v t : Int} {x : Nat} (h : Fl v t x) : Go.Proofs.Ytbpmgdneiejhoaa.nan x = false := nan_false h.isN.num
theorem Fl.far {v t : Int} {x : Nat} (h : Fl v t x) (hx : x < 18446744073709551616) : farR x = false := by
  rcases read_cases x hx with ⟨s, m, p, h1, hm, hp0, hp⟩ | ⟨s, h1⟩ | ⟨s, t', h1⟩
  · exact far_number h1 hm hp0 hp
  · obtain ⟨_, _, _, e⟩ := h.isN; rw [h1] at e; cases e
  · obtain ⟨_, _, _, e⟩ := h.isN; rw [h1] at e; cases e

/-- A law's scale. -/
structure LawS (l a : Int) (low step : Nat) (steps : Int) : Prop where
  low64 : low < 18446744073709551616
  step64 : step < 18446744073709551616
  l0 : -32768 ≤ l
  l1 : l ≤ 32767
  a0 : 1 ≤ a
  a1 : a ≤ 64
  s0 : 1 ≤ steps
  s1 : steps ≤ 65536
  step : Fl a (-4) step
  low : Fl l (-3) low

theorem mul_bd {a n A B : Int} (h0 : 0 ≤ a) (h1 : a ≤ A) (g0 : 0 ≤ n) (g1 : n ≤ B) : 0 ≤ a * n ∧ a * n ≤ A * B :=
  ⟨Int.mul_nonneg h0 g0, Int.le_trans (Int.mul_le_mul_of_nonneg_right h1 g0) (Int.mul_le_mul_of_nonneg_left g1 (by omega))⟩

section
variable {l a : Int} {low step : Nat} {steps : Int}

/-- The number of n steps. -/
theorem LawS.at (h : LawS l a low step steps) {n : Int} (n0 : 0 ≤ n) (n1 : n ≤ 65536) :
    ∃ r1 y, floatBits .mul .f64 step (floatOfInt .f64 n) = some r1 ∧ floatBits .add .f64 low r1 = some y ∧ Fl (l * 2 + a * n) (-4) y ∧ y < 18446744073709551616 := by
  have hb := mul_bd (by have := h.a0; omega) h.a1 n0 n1
  obtain ⟨r1, e1, f1⟩ := Fl_mul h.step (Fl_ofInt n (by omega)) (by omega) (by omega) (by omega)
  have fl := Fl_scale h.low 1 (by omega)
  have f1' : Fl (a * n) (-3 - ((1 : Nat) : Int)) r1 := Fl_congr f1 rfl (by omega)
  have hl0 := h.l0
  have hl1 := h.l1
  have e2 : (2 : Int) ^ 1 = 2 := rfl
  rw [e2] at fl
  obtain ⟨y, e3, f3⟩ := Fl_add fl f1' (by omega) (by omega)
  exact ⟨r1, y, e1, e3, Fl_congr f3 rfl (by omega), double.add_lt e3⟩

theorem LawS.check (h : LawS l a low step steps) : Pure Try.prog 26 #[scaleV low step steps] (.int .i64 0) := by
  have hs0 := h.s0
  have hs1 := h.s1
  obtain ⟨r1, y, e1, e2, f, y64⟩ := h.at (n := steps) (by omega) (by omega)
  have nl := h.low.nan
  have ns := h.step.nan
  have gl := fin_far h.low64 nl
  have gs := fin_far h.step64 ns
  rw [h.low.far h.low64] at gl
  rw [h.step.far h.step64] at gs
  have ho : FloatKind.f64.format.order step 0 = some .gt := by
    have := Fl_order h.step (Fl_0 (t := -4) (by omega))
    rw [cmp_gt (by have := h.a0; omega)] at this
    exact this
  have ny := f.nan
  have gy := fin_far y64 ny
  rw [f.far y64] at gy
  exact p_Check_h1 low step y steps nl ns gl gs ho (decide_eq_false (by omega)) (decide_eq_false (by omega)) (p_High low step r1 y steps e1 e2) gy

theorem Fl_clean {v t : Int} {y : Nat} (h : Fl v t y) : Fl v t (cleanV y) := by
  unfold cleanV
  have ho := Fl_order h (Fl_0 (t := t) h.2.1)
  split
  · rename_i he
    have he' : FloatKind.f64.format.order y 0 = some .eq := by simpa using he
    have ho' : FloatKind.f64.format.order y 0 = some (compare v 0) := ho
    rw [he'] at ho'
    rcases cmp_cases v 0 with ⟨hc, _⟩ | ⟨_, hv⟩ | ⟨hc, _⟩
    · rw [hc] at ho'; cases ho'
    · subst hv; exact Fl_0 h.2.1
    · rw [hc] at ho'; cases ho'
  · exact h

theorem LawS.number (h : LawS l a low step steps) {n : Int} (n0 : 0 ≤ n) (n1 : n ≤ steps) :
    ∃ y, Pure Try.prog 14 #[scaleV low step steps, .int .u32 n] (.tuple #[.float .f64 y, .int .i64 0]) ∧ Fl (l * 2 + a * n) (-4) y := by
  have hs1 := h.s1
  obtain ⟨r1, y, e1, e2, f, y64⟩ := h.at (n := n) n0 (by omega)
  exact ⟨cleanV y, p_Number low step r1 y steps n h.check (decide_eq_false (by omega)) e1 e2, Fl_clean f⟩

/-- A whole number of steps above the low end. -/
theorem LawS.whole (h : LawS l a low step steps) {n : Nat} (n1 : (n : Int) ≤ steps) {y : Nat} (hy : Fl (l * 2 + a * n) (-4) y) :
    Pure Try.prog 13 #[scaleV low step steps, .float .f64 y] (.tuple #[.int .u32 (n : Int), .int .i64 0]) := by
  have hs0 := h.s0
  have hs1 := h.s1
  have ha0 := h.a0
  have hl0 := h.l0
  have hl1 := h.l1
  have hb := mul_bd (a := a) (n := (n : Int)) (by omega) h.a1 (by omega) (show (n : Int) ≤ 65536 by omega)
  have fl : Fl (l * 2) (-4) low := Fl_congr (Fl_scale h.low 1 (by omega)) rfl (by omega)
  obtain ⟨d, e1, f1⟩ := Fl_sub hy fl (by omega) (by omega)
  have f1' : Fl ((n : Int) * a) (-4) d := Fl_congr f1 (by rw [Int.mul_comm (n : Int) a]; omega) rfl
  obtain ⟨q, e2, f2⟩ := Fl_div f1' h.step (by omega) (by omega) (by omega) (by omega) (by omega)
  have f2' : Fl (n : Int) 0 q := Fl_congr f2 rfl (by omega)
  have q64 : q < 18446744073709551616 := double.div_lt e2
  have fr := rte_Fl f2' (by omega) q64
  have HE := run_even q f2'.nan
  have o0 : FloatKind.f64.format.order (rte q) 0 = some (compare (n : Int) 0) := Fl_order fr (Fl_0 (by omega))
  have oF : FloatKind.f64.format.order (rte q) (floatOfInt .f64 steps) = some (compare (n : Int) steps) := Fl_order fr (Fl_ofInt steps (by omega))
  have hc : ((0 : Int) != 0) = false := rfl
  rcases Nat.eq_zero_or_pos n with hz | hz
  · subst hz
    rw [cmp_eq (a := ((0 : Nat) : Int)) (b := 0) rfl] at o0
    exact p_Whole_zero_eq low step y steps 0 q d e1 e2 (rte q) HE h.check hc hy.nan o0
  · rw [cmp_gt (by omega)] at o0
    rcases cmp_cases (n : Int) steps with ⟨hc', _⟩ | ⟨hc', he⟩ | ⟨_, hgt⟩
    · rw [hc'] at oF
      exact p_Whole_mid low step y steps 0 q d e1 e2 (rte q) HE _ (toInt_Fl fr (by omega)) h.check hc hy.nan o0 oF
    · rw [hc'] at oF
      rw [he]
      exact p_Whole_top_eq low step y steps 0 q d e1 e2 (rte q) HE h.check hc hy.nan o0 oF
    · omega

theorem read_pinf : double.read 9218868437227405312 = .infinity false := by decide
theorem read_ninf : double.read 18442240474082181120 = .infinity true := by decide

theorem LawS.inf (h : LawS l a low step steps) {x : Nat} {s : Bool} (hx : double.read x = .infinity s) :
    ∃ d q, floatBits .sub .f64 x low = some d ∧ floatBits .quo .f64 d step = some q ∧ double.read q = .infinity s := by
  obtain ⟨sl, ml, pl, el, _⟩ := fin_number h.low.1
  obtain ⟨st, mt, pt, et, _⟩ := fin_number h.step.1
  have hst : st = false := by
    have hv := h.step.2.2
    rw [et] at hv
    simp only [V] at hv
    have hp : 0 < a * 2 ^ ((-4 : Int) + 1074).toNat := (mul_pow_pos _).2 (by have := h.a0; omega)
    rcases sign_of hv (by omega) with ⟨_, h1⟩ | ⟨h1, _⟩
    · omega
    · exact h1
  subst hst
  have hw : ∀ s, double.read (double.write (.infinity s)) = .infinity s := by
    intro s
    show double.read (double.word s double.infRung) = _
    rw [d_inf]
    cases s <;> decide
  refine ⟨double.write (.infinity s), double.write (.infinity s), ?_, ?_, hw s⟩
  · show ((double.read x).sum (double.read low).opposite).map double.write = _
    rw [hx, el]; rfl
  · show ((double.read (double.write (.infinity s))).quotient (double.fractionBits + 2) (double.read step)).map double.write = _
    rw [hw, et]
    simp [Datum.quotient]

theorem LawS.bottom (h : LawS l a low step steps) : Pure Try.prog 13 #[scaleV low step steps, .float .f64 18442240474082181120] (.tuple #[.int .u32 0, .int .i64 0]) := by
  obtain ⟨d, q, e1, e2, hr⟩ := h.inf read_ninf
  have hn := rte_infinity hr
  exact p_Whole_zero_lt low step _ steps 0 q d e1 e2 (rte q) (run_even q (nan_false (by rw [hr]; exact num_infinity))) h.check rfl (nan_false (by rw [read_ninf]; exact num_infinity)) (order_infinity hn ⟨_, _, _, read_zero⟩)
theorem LawS.top (h : LawS l a low step steps) : Pure Try.prog 13 #[scaleV low step steps, .float .f64 9218868437227405312] (.tuple #[.int .u32 steps, .int .i64 0]) := by
  obtain ⟨d, q, e1, e2, hr⟩ := h.inf read_pinf
  have hn := rte_infinity hr
  have hs1 := h.s1
  have hs0 := h.s0
  exact p_Whole_top_gt low step _ steps 0 q d e1 e2 (rte q) (run_even q (nan_false (by rw [hr]; exact num_infinity))) h.check rfl (nan_false (by rw [read_pinf]; exact num_infinity)) (order_infinity hn ⟨_, _, _, read_zero⟩) (order_infinity hn (isN_ofInt steps (by omega)))
end

/-- What a law makes of three small numbers. -/
theorem law_scale (l s k : Int) (l0 : -32768 ≤ l) (l1 : l ≤ 32767) : ∃ (a : Int) (low step : Nat) (steps : Int), LawS l a low step steps ∧ Pure Try.prog 8 #[.agg #[.int .i16 l, .int .i16 s, .int .i16 k]] (scaleV low step steps) := by
  have hu : ∀ x, IntKind.u16.wrap x = x % 65536 := fun x => by simp [IntKind.wrap, IntKind.bits, IntKind.signed]
  have hq : IntKind.u16.wrap k = k % 65536 := hu k
  have hp : (IntKind.u16.wrap s).tmod 64 = s % 65536 % 64 := by
    rw [hu, Int.tmod_eq_emod_of_nonneg (by omega)]
  have fl := Fl_ofInt l (by omega)
  obtain ⟨low, e1, f1⟩ := Fl_div (v := l) (u := 1) (t := 0) (q := 3) (Fl_congr fl (by omega) rfl) Fl_8 (by omega) (by omega) (by omega) (by omega) (by omega)
  obtain ⟨b0, e2, f2⟩ := Fl_add Fl_1 (Fl_ofInt (s % 65536 % 64) (by omega)) (by omega) (by omega)
  obtain ⟨b1, e3, f3⟩ := Fl_div (v := 1 + s % 65536 % 64) (u := 1) (t := 0) (q := 4) (Fl_congr f2 (by omega) rfl) Fl_16 (by omega) (by omega) (by omega) (by omega) (by omega)
  refine ⟨1 + s % 65536 % 64, low, b1, 1 + k % 65536, ⟨double.div_lt e1, double.div_lt e3, l0, l1, by omega, by omega, by omega, by omega, Fl_congr f3 rfl (by omega), Fl_congr f1 rfl (by omega)⟩, ?_⟩
  exact law_Scale l s k low b0 b1 _ _ hp (by omega) (by omega) hq (by omega) (by omega) e1 e2 e3

theorem quant_Awake : Pure Try.prog 7 #[] (.bool true) := by
  have hl : LawS (-8) 8 13830554455654793216 4602678819172646912 4 := by
    have r1 : double.read 13830554455654793216 = .number true 4503599627370496 (-52) := by decide
    refine ⟨by omega, by omega, by omega, by omega, by omega, by omega, by omega, by omega, Fl_congr (Fl_scale Fl_half 3 (by omega)) rfl (by omega), ⟨by rw [r1]; simp only [Fin']; omega, by omega, ?_⟩⟩
    rw [r1]
    simp only [V]
    have e2 : ((-3 : Int) + 1074).toNat = 49 + ((-52 : Int) + 1074).toNat := by omega
    rw [e2, signed_neg, Int.pow_add, ← Int.mul_assoc]
    rw [show (-8 : Int) * 2 ^ 49 = -4503599627370496 by decide, Int.neg_mul]
    rfl
  have e1 : floatBits .sub .f64 13821547256400052224 13830554455654793216 = some 4604930618986332160 := by decide +kernel
  have e2 : floatBits .quo .f64 4604930618986332160 4602678819172646912 = some 4609434218613702656 := by decide +kernel
  have hn : rte 4609434218613702656 = 4611686018427387904 := by decide +kernel
  have HE := run_even 4609434218613702656 (by decide +kernel)
  rw [hn] at HE
  exact quant_Awake_raw (p_Whole_mid 13830554455654793216 4602678819172646912 13821547256400052224 4 0 4609434218613702656 4604930618986332160 e1 e2 4611686018427387904 HE 2 (by decide +kernel) hl.check rfl (by decide +kernel) (by decide +kernel) (by decide +kernel))

theorem quant_back_law (t : List Int) (lt : t.length = 3) (wt : ∀ z ∈ t, (Lit.int .i16 z).wf = true) (n : Int) (wn : (Lit.int .u32 n).wf = true) (w : World) :
    Calls Try.prog 5 #[.agg (t.map (Value.int .i16)).toArray, .int .u32 n] w fun e w' => e = .returned (.bool true) ∧ Kept w w' := by
  match t, lt with
  | [l, s, k], _ =>
    have hl := wt l (by simp)
    simp [Lit.wf, IntKind.min, IntKind.max, IntKind.signed, IntKind.bits] at hl
    simp [Lit.wf, IntKind.min, IntKind.max, IntKind.signed, IntKind.bits] at wn
    obtain ⟨a, low, step, steps, h, hS⟩ := law_scale l s k (by omega) (by omega)
    have hs0 := h.s0
    have hs1 := h.s1
    obtain ⟨m, hm⟩ := Int.eq_ofNat_of_zero_le (show 0 ≤ n % (steps + 1) from Int.emod_nonneg _ (by omega))
    have hlt : n % (steps + 1) < steps + 1 := Int.emod_lt_of_pos _ (by omega)
    obtain ⟨y, hN, fy⟩ := h.number (n := (m : Int)) (by omega) (by omega)
    exact quant_back_raw l s k n (m : Int) low step y steps hs0 hs1 (by omega) (by omega) hm quant_Awake hS hN (h.whole (by omega) fy)
      (fun w => (inf_neg w).mono fun e w' ⟨h1, h2⟩ => ⟨h1, h2 ▸ Kept.refl w⟩) h.bottom (fun w => (inf_pos w).mono fun e w' ⟨h1, h2⟩ => ⟨h1, h2 ▸ Kept.refl w⟩) h.top w
end Go.Proofs.Ytbpmgdneiejhoaa
