/-
  Plain numbers: a number that has a root of the full order is prime, and a number that it does not divide is 1 to the power of it less 1 (Lucas, Fermat). The two moduli.
-/
namespace Go.Proofs.Ytnajihlhcdedgaa

/-- An injective map of the first n numbers into themselves is onto. -/
theorem inj_surj : ∀ (n : Nat) (f : Nat → Nat), (∀ i, i < n → f i < n) → (∀ i j, i < n → j < n → f i = f j → i = j) → ∀ y, y < n → ∃ i, i < n ∧ f i = y
  | 0, _, _, _, y, hy => absurd hy (Nat.not_lt_zero y)
  | n + 1, f, h1, h2, y, hy => by
    have IH := inj_surj n (fun i => if f i = n then f n else f i) ?_ ?_
    · by_cases hc : f n = n
      · by_cases hyn : y = n
        · exact ⟨n, by omega, by rw [hc, hyn]⟩
        · obtain ⟨i, hi, he⟩ := IH y (by omega)
          by_cases hfi : f i = n
          · rw [if_pos hfi, hc] at he; omega
          · rw [if_neg hfi] at he; exact ⟨i, by omega, he⟩
      · have hcl : f n < n := by have := h1 n (by omega); omega
        by_cases hyn : y = n
        · obtain ⟨i, hi, he⟩ := IH (f n) hcl
          by_cases hfi : f i = n
          · exact ⟨i, by omega, by rw [hfi, hyn]⟩
          · rw [if_neg hfi] at he
            have := h2 i n (by omega) (by omega) he
            omega
        · obtain ⟨i, hi, he⟩ := IH y (by omega)
          by_cases hfi : f i = n
          · rw [if_pos hfi] at he; exact ⟨n, by omega, he⟩
          · rw [if_neg hfi] at he; exact ⟨i, by omega, he⟩
    · intro i hi
      by_cases hfi : f i = n
      · rw [if_pos hfi]
        by_cases hc : f n = n
        · have := h2 i n (by omega) (by omega) (hfi.trans hc.symm); omega
        · have := h1 n (by omega); omega
      · rw [if_neg hfi]; have := h1 i (by omega); omega
    · intro i j hi hj he
      by_cases hfi : f i = n
      · by_cases hfj : f j = n
        · exact h2 i j (by omega) (by omega) (hfi.trans hfj.symm)
        · rw [if_pos hfi, if_neg hfj] at he
          have := h2 n j (by omega) (by omega) he; omega
      · by_cases hfj : f j = n
        · rw [if_neg hfi, if_pos hfj] at he
          have := h2 i n (by omega) (by omega) he; omega
        · rw [if_neg hfi, if_neg hfj] at he
          exact h2 i j (by omega) (by omega) he

/-- Prime, as it is used: what it does not divide is coprime to it. -/
def IsPr (q : Nat) : Prop := 1 < q ∧ ∀ m, ¬ q ∣ m → Nat.Coprime m q

theorem isPr_trial {q : Nat} (h1 : 1 < q) (k : Nat) (hk : q < (k + 1) * (k + 1)) (h : ∀ d, d < k + 1 → 2 ≤ d → q % d ≠ 0) : IsPr q := by
  have small : ∀ d, d ∣ q → d ≠ 1 → d = q := by
    intro d hd hne
    obtain ⟨c, hc⟩ := hd
    have hd0 : d ≠ 0 := by rintro rfl; omega
    have hc0 : c ≠ 0 := by rintro rfl; omega
    by_cases hc1 : c = 1
    · rw [hc1] at hc; omega
    · exfalso
      by_cases hdk : d < k + 1
      · exact h d hdk (by omega) (by rw [hc]; exact Nat.mul_mod_right d c)
      · by_cases hck : c < k + 1
        · exact h c hck (by omega) (by rw [hc, Nat.mul_comm]; exact Nat.mul_mod_right c d)
        · have : (k + 1) * (k + 1) ≤ d * c := Nat.mul_le_mul (by omega) (by omega)
          omega
  refine ⟨h1, fun m hm => ?_⟩
  unfold Nat.Coprime
  by_cases hg : Nat.gcd m q = 1
  · exact hg
  · have := small _ (Nat.gcd_dvd_right m q) hg
    exact absurd (this ▸ Nat.gcd_dvd_left m q) hm

theorem pow_mod_one {g p d : Nat} (hp : 1 < p) (h : g ^ d % p = 1) (k : Nat) : g ^ (d * k) % p = 1 := by
  rw [Nat.pow_mul, Nat.pow_mod, h, Nat.one_pow, Nat.mod_eq_of_lt hp]

theorem pow_gcd {g p : Nat} (hp : 1 < p) (a b : Nat) : g ^ a % p = 1 → g ^ b % p = 1 → g ^ (Nat.gcd a b) % p = 1 := by
  induction a, b using Nat.gcd.induction with
  | H0 n => intro _ h; rw [Nat.gcd_zero_left]; exact h
  | H1 m n hm ih =>
    intro ha hb
    rw [Nat.gcd_rec]
    refine ih ?_ ha
    have e : g ^ n = g ^ (m * (n / m)) * g ^ (n % m) := by rw [← Nat.pow_add, Nat.div_add_mod]
    rw [e, Nat.mul_mod, pow_mod_one hp ha, Nat.one_mul, Nat.mod_mod] at hb
    exact hb

/-- What the list of primes with their powers multiplies to. -/
def prodOf : List (Nat × Nat) → Nat
  | [] => 1
  | (q, k) :: r => q ^ k * prodOf r

theorem coprime_prodOf (m : Nat) : ∀ (fs : List (Nat × Nat)), (∀ x ∈ fs, Nat.Coprime m x.1) → Nat.Coprime m (prodOf fs)
  | [], _ => Nat.coprime_one_right m
  | (q, k) :: r, h => Nat.Coprime.mul_right (Nat.Coprime.pow_right k (h (q, k) (by simp))) (coprime_prodOf m r fun x hx => h x (by simp [hx]))

theorem no_less {p g N : Nat} (hp : 1 < p) (h1 : g ^ N % p = 1) (fs : List (Nat × Nat)) (hprod : prodOf fs = N)
    (hfs : ∀ x ∈ fs, IsPr x.1 ∧ x.1 ∣ N ∧ g ^ (N / x.1) % p ≠ 1) (e : Nat) (he0 : 0 < e) (he : e < N) : g ^ e % p ≠ 1 := by
  intro h
  have hd := pow_gcd hp e N h h1
  have hdN := Nat.gcd_dvd_right e N
  have hdle : Nat.gcd e N ≤ e := Nat.le_of_dvd he0 (Nat.gcd_dvd_left e N)
  have hdpos : 0 < Nat.gcd e N := Nat.gcd_pos_of_pos_left _ he0
  generalize Nat.gcd e N = d at *
  obtain ⟨m, hm⟩ := hdN
  have hm1 : m ≠ 1 := by rintro rfl; omega
  have key : ∀ x ∈ fs, ¬ x.1 ∣ m := by
    rintro x hx ⟨c, hc⟩
    refine (hfs x hx).2.2 ?_
    have hq : 0 < x.1 := by have := (hfs x hx).1.1; omega
    have : N / x.1 = d * c := by
      rw [hm, hc, show d * (x.1 * c) = x.1 * (d * c) by rw [Nat.mul_left_comm]]
      exact Nat.mul_div_cancel_left _ hq
    rw [this]
    exact pow_mod_one hp hd c
  have hcop : Nat.Coprime m N := by
    rw [← hprod]
    exact coprime_prodOf m fs fun x hx => (hfs x hx).1.2 m (key x hx)
  have : m ∣ N := ⟨d, by rw [hm, Nat.mul_comm]⟩
  have h3 : Nat.gcd m N = m := Nat.gcd_eq_left this
  unfold Nat.Coprime at hcop
  omega

/-- Every number that p does not divide is a power of the root. -/
theorem is_power {p g : Nat} (hp : 2 < p) (h1 : g ^ (p - 1) % p = 1) (hno : ∀ e, 0 < e → e < p - 1 → g ^ e % p ≠ 1) (a : Nat) (ha : a % p ≠ 0) : ∃ k, a % p = g ^ k % p := by
  have hp1 : 1 < p := by omega
  have nz : ∀ i, i < p - 1 → g ^ i % p ≠ 0 := by
    intro i hi h0
    have e : g ^ (p - 1) = g ^ i * g ^ (p - 1 - i) := by rw [← Nat.pow_add]; congr 1; omega
    rw [e, Nat.mul_mod, h0, Nat.zero_mul, Nat.zero_mod] at h1
    omega
  have dist : ∀ i j, i < j → j < p - 1 → g ^ i % p ≠ g ^ j % p := by
    intro i j hij hj h
    refine hno (j - i) (by omega) (by omega) ?_
    have e1 : g ^ i * g ^ (p - 1 - i) = g ^ (p - 1) := by rw [← Nat.pow_add]; congr 1; omega
    have e2 : g ^ j * g ^ (p - 1 - i) = g ^ (p - 1) * g ^ (j - i) := by rw [← Nat.pow_add, ← Nat.pow_add]; congr 1; omega
    have h3 : (g ^ i * g ^ (p - 1 - i)) % p = (g ^ j * g ^ (p - 1 - i)) % p := by rw [Nat.mul_mod, h, ← Nat.mul_mod]
    rw [e1, e2, h1, Nat.mul_mod, h1, Nat.one_mul, Nat.mod_mod] at h3
    exact h3.symm
  obtain ⟨i, hi, he⟩ := inj_surj (p - 1) (fun i => g ^ i % p - 1) (fun i hi => by
      have := Nat.mod_lt (g ^ i) (show p > 0 by omega)
      have := nz i hi
      omega) (fun i j hi hj h => by
      have hi0 := nz i hi
      have hj0 := nz j hj
      rcases Nat.lt_trichotomy i j with h4 | h4 | h4
      · exact absurd (by omega) (dist i j h4 hj)
      · exact h4
      · exact absurd (by omega) (dist j i h4 hi)) (a % p - 1) (by have := Nat.mod_lt a (show p > 0 by omega); omega)
  refine ⟨i, ?_⟩
  have := nz i hi
  omega

theorem fermat_of {p g : Nat} (hp : 2 < p) (h1 : g ^ (p - 1) % p = 1) (hno : ∀ e, 0 < e → e < p - 1 → g ^ e % p ≠ 1) (a : Nat) (ha : a % p ≠ 0) : a ^ (p - 1) % p = 1 := by
  obtain ⟨k, hk⟩ := is_power hp h1 hno a ha
  rw [Nat.pow_mod, hk, ← Nat.pow_mod, ← Nat.pow_mul, Nat.mul_comm]
  exact pow_mod_one (by omega) h1 k

theorem isPr_of {p g : Nat} (hp : 2 < p) (h1 : g ^ (p - 1) % p = 1) (hno : ∀ e, 0 < e → e < p - 1 → g ^ e % p ≠ 1) : IsPr p := by
  refine ⟨by omega, fun m hm => ?_⟩
  obtain ⟨k, hk⟩ := is_power hp h1 hno m (fun h => hm (Nat.dvd_of_mod_eq_zero h))
  have hg : Nat.Coprime g p := by
    have hd1 : Nat.gcd g p ∣ g ^ (p - 1) := Nat.dvd_trans (Nat.gcd_dvd_left g p) (by
      rw [show p - 1 = (p - 2) + 1 by omega, Nat.pow_succ]; exact Nat.dvd_mul_left g _)
    have hd2 : Nat.gcd g p ∣ p := Nat.gcd_dvd_right g p
    have e : g ^ (p - 1) = p * (g ^ (p - 1) / p) + 1 := by
      have := Nat.div_add_mod (g ^ (p - 1)) p
      omega
    rw [e] at hd1
    have := (Nat.dvd_add_right (Nat.dvd_trans hd2 (Nat.dvd_mul_right p _))).1 hd1
    exact Nat.dvd_one.1 this
  have h2 : Nat.Coprime (g ^ k) p := Nat.Coprime.pow_left k hg
  unfold Nat.Coprime at *
  rw [Nat.gcd_comm, Nat.gcd_rec, hk, ← Nat.gcd_rec, Nat.gcd_comm]
  exact h2

/-- A power modulo p, by squaring. -/
def pm (p : Nat) : Nat → Nat → Nat → Nat
  | 0, _, _ => 1 % p
  | f + 1, b, n => if n % 2 = 1 then b * pm p f (b * b % p) (n / 2) % p else pm p f (b * b % p) (n / 2)

theorem pm_eq (p : Nat) : ∀ (f b n : Nat), n < 2 ^ f → pm p f b n = b ^ n % p
  | 0, b, n, h => by
    have : n = 0 := by simpa using h
    subst this
    simp [pm]
  | f + 1, b, n, h => by
    have hn : n / 2 < 2 ^ f := by rw [Nat.pow_succ] at h; omega
    have ih := pm_eq p f (b * b % p) (n / 2) hn
    have e : (b * b % p) ^ (n / 2) % p = b ^ (2 * (n / 2)) % p := by
      rw [← Nat.pow_mod, Nat.pow_mul, Nat.pow_two]
    unfold pm
    by_cases h2 : n % 2 = 1
    · rw [if_pos h2, ih, Nat.mul_mod, Nat.mod_mod, e, ← Nat.mul_mod, Nat.mul_comm b, ← Nat.pow_succ]
      congr 2; omega
    · rw [if_neg h2, ih, e]
      congr 2; omega

theorem small_trial (q k : Nat) (h : (List.range (k + 1)).all (fun d => decide (d < 2) || decide (q % d ≠ 0)) = true) : ∀ d, d < k + 1 → 2 ≤ d → q % d ≠ 0 := by
  intro d hd h2
  have := List.all_eq_true.1 h d (List.mem_range.2 hd)
  simp only [Bool.or_eq_true, decide_eq_true_eq] at this
  omega

theorem pr2 : IsPr 2 := isPr_trial (by decide) 1 (by decide) (small_trial _ _ (by decide +kernel))
theorem pr3 : IsPr 3 := isPr_trial (by decide) 1 (by decide) (small_trial _ _ (by decide +kernel))
theorem pr5 : IsPr 5 := isPr_trial (by decide) 2 (by decide) (small_trial _ _ (by decide +kernel))
theorem pr17 : IsPr 17 := isPr_trial (by decide) 4 (by decide) (small_trial _ _ (by decide +kernel))
theorem pr257 : IsPr 257 := isPr_trial (by decide) 16 (by decide) (small_trial _ _ (by decide +kernel))
theorem pr65537 : IsPr 65537 := isPr_trial (by decide) 256 (by decide) (small_trial _ _ (by decide +kernel))
theorem pr3491 : IsPr 3491 := isPr_trial (by decide) 59 (by decide) (small_trial _ _ (by decide +kernel))
theorem pr72973 : IsPr 72973 := isPr_trial (by decide) 270 (by decide) (small_trial _ _ (by decide +kernel))
theorem pr125714447 : IsPr 125714447 := isPr_trial (by decide) 11213 (by decide) (small_trial _ _ (by decide +kernel))

/-- The root's powers run through all. -/
def Full (p g : Nat) : Prop := g ^ (p - 1) % p = 1 ∧ ∀ e, 0 < e → e < p - 1 → g ^ e % p ≠ 1

theorem lucas (p g f : Nat) (fs : List (Nat × Nat)) (hp : 2 < p) (hf : p - 1 < 2 ^ f) (h1 : pm p f g (p - 1) = 1) (hprod : prodOf fs = p - 1)
    (hpr : ∀ x ∈ fs, IsPr x.1) (hno : fs.all (fun x => decide ((p - 1) % x.1 = 0) && decide (pm p f g ((p - 1) / x.1) ≠ 1)) = true) : Full p g := by
  have h1' : g ^ (p - 1) % p = 1 := by rw [← pm_eq p f g (p - 1) hf]; exact h1
  refine ⟨h1', fun e he0 he => no_less (by omega) h1' fs hprod (fun x hx => ?_) e he0 he⟩
  have := List.all_eq_true.1 hno x hx
  simp only [Bool.and_eq_true, decide_eq_true_eq] at this
  refine ⟨hpr x hx, Nat.dvd_of_mod_eq_zero this.1, ?_⟩
  rw [← pm_eq p f g _ (Nat.lt_of_le_of_lt (Nat.div_le_self _ _) hf)]
  exact this.2

def qN : Nat := 440340496364689
def gN : Nat := 18446744069414584321
def wN : Nat := 340282366920938462946865773367900766209

theorem lucas_q : Full qN 11 :=
  lucas qN 11 64 [(2, 4), (3, 1), (72973, 1), (125714447, 1)] (by decide) (by decide +kernel) (by decide +kernel) (by decide +kernel)
    (by
      intro x hx
      simp only [List.mem_cons, List.not_mem_nil, or_false] at hx
      rcases hx with rfl | rfl | rfl | rfl
      · exact pr2
      · exact pr3
      · exact pr72973
      · exact pr125714447) (by decide +kernel)
theorem prq : IsPr qN := isPr_of (by decide) lucas_q.1 lucas_q.2

/-- The small field's modulus. -/
theorem lucas_gold : Full gN 7 :=
  lucas gN 7 64 [(2, 32), (3, 1), (5, 1), (17, 1), (257, 1), (65537, 1)] (by decide) (by decide +kernel) (by decide +kernel) (by decide +kernel)
    (by
      intro x hx
      simp only [List.mem_cons, List.not_mem_nil, or_false] at hx
      rcases hx with rfl | rfl | rfl | rfl | rfl | rfl
      · exact pr2
      · exact pr3
      · exact pr5
      · exact pr17
      · exact pr257
      · exact pr65537) (by decide +kernel)
theorem fermat_gold (a : Nat) (ha : a % gN ≠ 0) : a ^ (gN - 1) % gN = 1 := fermat_of (by decide) lucas_gold.1 lucas_gold.2 a ha

/-- The large field's modulus. -/
theorem lucas_wide : Full wN 7 :=
  lucas wN 7 128 [(2, 66), (3, 1), (3491, 1), (qN, 1)] (by decide) (by decide +kernel) (by decide +kernel) (by decide +kernel)
    (by
      intro x hx
      simp only [List.mem_cons, List.not_mem_nil, or_false] at hx
      rcases hx with rfl | rfl | rfl | rfl
      · exact pr2
      · exact pr3
      · exact pr3491
      · exact prq) (by decide +kernel)
theorem fermat_wide (a : Nat) (ha : a % wN ≠ 0) : a ^ (wN - 1) % wN = 1 := fermat_of (by decide) lucas_wide.1 lucas_wide.2 a ha

end Go.Proofs.Ytnajihlhcdedgaa
