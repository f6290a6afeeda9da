/-
  InvVec: what it answers, over the elements as numbers.
-/
import Derived.Test.YtnajihlhcdedgaaFI
namespace Go.Proofs.Ytnajihlhcdedgaa
open Go.RowKit
set_option linter.unusedVariables false
set_option linter.unusedSimpArgs false

/-- The product of the first j. -/
def prF (f : Int) (x : Nat → Int) : Nat → Int
  | 0 => 1
  | j + 1 => (rOf f (prF f x j) * rOf f (x j)) % rP f
/-- y times the last m elements. -/
def bkF (f : Int) (x : Nat → Int) (n : Nat) (y : Int) : Nat → Int
  | 0 => y
  | m + 1 => (rOf f (bkF f x n y m) * rOf f (x (n - 1 - m))) % rP f
theorem rP_gt (f : Int) : 1 < rP f := by unfold rP gP wP; split <;> omega
theorem prF_in {f : Int} (hf : isF f) (x : Nat → Int) : ∀ j, 0 ≤ prF f x j ∧ prF f x j < rP f
  | 0 => ⟨by unfold prF; omega, by unfold prF; exact rP_gt f⟩
  | j + 1 => ⟨Int.emod_nonneg _ (by have := rP_gt f; omega), Int.emod_lt_of_pos _ (by have := rP_gt f; omega)⟩
theorem is128_in {f x : Int} (h : 0 ≤ x ∧ x < rP f) : is128 x := by have := rP_lt f; unfold is128; omega
theorem bkF_in {f : Int} (x : Nat → Int) (n : Nat) {y : Int} (hy : 0 ≤ y ∧ y < rP f) : ∀ j, 0 ≤ bkF f x n y j ∧ bkF f x n y j < rP f
  | 0 => hy
  | j + 1 => ⟨Int.emod_nonneg _ (by have := rP_gt f; omega), Int.emod_lt_of_pos _ (by have := rP_gt f; omega)⟩
theorem mod_l (a b p : Int) : (a % p * b) % p = (a * b) % p := by rw [Int.mul_emod, Int.emod_emod, ← Int.mul_emod]
theorem mod_r (a b p : Int) : (a * (b % p)) % p = (a * b) % p := by rw [Int.mul_emod, Int.emod_emod, ← Int.mul_emod]
theorem prF_zero {f : Int} (hf : isF f) {x : Nat → Int} {j : Nat} (h : rOf f (x j) = 0) : ∀ m, prF f x (j + 1 + m) = 0
  | 0 => by
    show (rOf f (prF f x j) * rOf f (x j)) % rP f = 0
    rw [h, Int.mul_zero, Int.zero_emod]
  | m + 1 => by
    show (rOf f (prF f x (j + 1 + m)) * rOf f (x (j + 1 + m))) % rP f = 0
    rw [prF_zero hf h m, rOf_zero hf, Int.zero_mul, Int.zero_emod]
theorem prF_unit {f : Int} (hf : isF f) {x : Nat → Int} : ∀ n, (∀ j, j < n → is128 (x j) ∧ rOf f (x j) ≠ 0) → prF f x n ≠ 0
  | 0, _ => by unfold prF; omega
  | n + 1, h => by
    intro h0
    have ih := prF_unit hf n fun j hj => h j (by omega)
    obtain ⟨hx, hu⟩ := h n (by omega)
    obtain ⟨y, y0, y1, y2, _⟩ := f_Inv hf hx hu
    have hp := prF_in hf x n
    have e0 : (rOf f (prF f x n) * rOf f (x n)) % rP f = 0 := h0
    rw [rOf_of_lt hp.1 hp.2] at e0
    have e1 : (prF f x n * (rOf f (x n) * y)) % rP f = 0 := by
      rw [← Int.mul_assoc, ← mod_l, e0, Int.zero_mul, Int.zero_emod]
    rw [← mod_r, y2, Int.mul_one, Int.emod_eq_of_lt hp.1 hp.2] at e1
    exact ih e1

theorem f_InvVec_zero {f : Int} (hf : isF f) (w : World) {a : Option Addr} {n cap N : Nat} {x : Nat → Int} (hn : n ≤ 4096) (hx : ∀ j, j < n → is128 (x j)) (hA : SlX w a n cap N x) (hz : ∃ j, j < n ∧ rOf f (x j) = 0) :
    Calls Try.prog 92 #[.int .u8 f, .slice a n cap] w fun e w' => e = .returned (.tuple #[.slice none 0 0, .int .i64 8]) ∧ Kept w w' := by
  obtain ⟨j, hj, h0⟩ := hz
  have hO := f_One hf
  rw [E_one] at hO
  have hp := prF_in hf x
  have hI := f_Inv_no hf (is128_in (hp n)) (by have := prF_zero hf h0 (n - (j + 1)); rw [show j + 1 + (n - (j + 1)) = n by omega] at this; rw [this, rOf_zero hf])
  rw [E_nought] at hI
  exact f_InvVec_none w f a n cap N _ _ (fun j => prF f x j % 18446744073709551616) (fun j => prF f x j / 18446744073709551616) hn hA rfl rfl (f_Valid hf) hO (Lib.hid fun j hj => f_Mul hf (is128_in (hp j)) (hx j hj)) hI
theorem f_InvVec_unit {f : Int} (hf : isF f) (w : World) {a : Option Addr} {n cap N : Nat} {x : Nat → Int} (hn : n ≤ 4096) (hx : ∀ j, j < n → is128 (x j)) (hA : SlX w a n cap N x) (hu : ∀ j, j < n → rOf f (x j) ≠ 0) :
    ∃ r : Nat → Int, (∀ j, j < n → 0 ≤ r j ∧ r j < rP f ∧ (rOf f (x j) * r j) % rP f = 1) ∧
    Calls Try.prog 92 #[.int .u8 f, .slice a n cap] w fun e w' => ∃ g, e = .returned (.tuple #[.slice (some ⟨g, 0, none⟩) n n, .int .i64 0]) ∧ Kept w w' ∧ SlX w' (some ⟨g, 0, none⟩) n n w'.heap.size r := by
  have hO := f_One hf
  rw [E_one] at hO
  have hp := prF_in hf x
  have hne := prF_unit hf n fun j hj => ⟨hx j hj, hu j hj⟩
  have hr : rOf f (prF f x n) = prF f x n := rOf_of_lt (hp n).1 (hp n).2
  obtain ⟨y, y0, y1, y2, hI⟩ := f_Inv hf (is128_in (hp n)) (by rw [hr]; exact hne)
  rw [hr] at y2
  have hb := bkF_in (f := f) x n ⟨y0, y1⟩
  have step : ∀ j, j < n → bkF f x n y (n - j) = (rOf f (bkF f x n y (n - (j + 1))) * rOf f (x j)) % rP f := fun j hj => by
    rw [show n - j = (n - (j + 1)) + 1 by omega]
    show (rOf f (bkF f x n y (n - (j + 1))) * rOf f (x (n - 1 - (n - (j + 1))))) % rP f = _
    rw [show n - 1 - (n - (j + 1)) = j by omega]
  have inv : ∀ m, m ≤ n → (bkF f x n y m * prF f x (n - m)) % rP f = 1 := by
    intro m
    induction m with
    | zero => intro _; show (y * prF f x (n - 0)) % rP f = 1; rw [Nat.sub_zero, Int.mul_comm]; exact y2
    | succ m ih =>
      intro hm
      have h1 := ih (by omega)
      have h2 := step (n - (m + 1)) (by omega)
      rw [show n - (n - (m + 1)) = m + 1 by omega, show n - (n - (m + 1) + 1) = m by omega, rOf_of_lt (hb m).1 (hb m).2] at h2
      rw [h2, mod_l]
      have h3 : prF f x (n - m) = (rOf f (prF f x (n - (m + 1))) * rOf f (x (n - (m + 1)))) % rP f := by
        rw [show n - m = (n - (m + 1)) + 1 by omega]; rfl
      rw [h3, rOf_of_lt (hp _).1 (hp _).2, mod_r] at h1
      rw [← h1]
      congr 1
      rw [Int.mul_assoc, Int.mul_comm (rOf f (x (n - (m + 1))))]
  refine ⟨fun j => (rOf f (bkF f x n y (n - (j + 1))) * rOf f (prF f x j)) % rP f, fun j hj => ⟨Int.emod_nonneg _ (by have := rP_gt f; omega), Int.emod_lt_of_pos _ (by have := rP_gt f; omega), ?_⟩, ?_⟩
  · have h1 := inv (n - (j + 1)) (by omega)
    rw [show n - (n - (j + 1)) = j + 1 by omega] at h1
    have h3 : prF f x (j + 1) = (rOf f (prF f x j) * rOf f (x j)) % rP f := rfl
    rw [h3, rOf_of_lt (hp j).1 (hp j).2, mod_r] at h1
    rw [mod_r, rOf_of_lt (hb _).1 (hb _).2, rOf_of_lt (hp j).1 (hp j).2, ← h1]
    congr 1
    rw [Int.mul_comm (rOf f (x j)), Int.mul_assoc]
  · refine (f_InvVec_ok w f a n cap N _ _ (fun j => prF f x j % 18446744073709551616) (fun j => prF f x j / 18446744073709551616) hn hA rfl rfl (f_Valid hf) hO (Lib.hid fun j hj => f_Mul hf (is128_in (hp j)) (hx j hj)) _ _ hI
      (fun j => bkF f x n y (n - j) % 18446744073709551616) (fun j => bkF f x n y (n - j) / 18446744073709551616) (fun j => (rOf f (bkF f x n y (n - (j + 1))) * rOf f (prF f x j)) % rP f % 18446744073709551616) (fun j => (rOf f (bkF f x n y (n - (j + 1))) * rOf f (prF f x j)) % rP f / 18446744073709551616)
      (by simp only [Nat.sub_self]; rfl) (by simp only [Nat.sub_self]; rfl) (Lib.hid fun j hj => ?_) (Lib.hid fun j hj => f_Mul hf (is128_in (hb _)) (is128_in (hp j)))).mono fun e w' ⟨g, h1, h2, h3, h4⟩ => ⟨g, h1, h3, (SlE.of_blk h4 (Nat.le_refl _)).mono h4.lt⟩
    have := f_Mul hf (is128_in (hb (n - (j + 1)))) (hx j hj)
    rw [← step j hj] at this
    exact this

set_option maxRecDepth 100000 in
set_option maxHeartbeats 4000000 in
theorem f_InvVec_long {f : Int} (hf : isF f) (a : Option Addr) (n cap : Nat) (hn : 4096 < n) : Pure Try.prog 92 #[.int .u8 f, .slice a n cap] (.tuple #[.slice none 0 0, .int .i64 6]) := fun w => by
  have HV := Lib.hid (f_Valid hf)
  have yn : (4096 : Int) < (n : Int) := by omega
  go_enter Try.func92, Try.ntmps92
  go_wp2_with fail
  refine (HV.out _).mono ?_
  rintro e W1 ⟨rfl, k1⟩
  go_wp2_with fail
  go_ret2
  exact ⟨rfl, k1⟩
set_option maxRecDepth 100000 in
set_option maxHeartbeats 4000000 in
theorem f_InvVec_kind {f : Int} (h1b : (f == 1) = false) (h2b : (f == 2) = false) (a : Option Addr) (n cap : Nat) : Pure Try.prog 92 #[.int .u8 f, .slice a n cap] (.tuple #[.slice none 0 0, .int .i64 10]) := fun w => by
  have HV := Lib.hid (f_Valid_n f h1b h2b)
  clear h1b h2b
  go_enter Try.func92, Try.ntmps92
  go_wp2_with fail
  refine (HV.out _).mono ?_
  rintro e W1 ⟨rfl, k1⟩
  go_wp2_with fail
  go_ret2
  exact ⟨rfl, k1⟩
theorem makefull90' (c : Nat) (h63 : (c : Int) ≤ 1000000) (w : World) : (Instr.makeSlice 90 (.int .i64 (c : Int)) (.int .i64 (c : Int))).run Try.prog w = .ok (.slice (some ⟨w.heap.size, 0, none⟩) c c) (w.alloc (.cells (rowF (c * 2) (fun _ => .int .u64 0)) 28)) := by
  obtain ⟨i, hi, hz0, hz1, hz2⟩ := info_parts info28
  have hr := run_make (P := Try.prog) w 90 28 i _ Try.underlying90 hi hz0 .i64 .i64 c c (by omega) (by omega) (by rw [hz2]; omega) (by omega)
  simp only [Int.toNat_natCast] at hr
  rw [hr, hz1, makes_zero2]
end Go.Proofs.Ytnajihlhcdedgaa
