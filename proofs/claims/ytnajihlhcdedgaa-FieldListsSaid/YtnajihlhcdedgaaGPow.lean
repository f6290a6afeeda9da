/-
  GoldPowers: for every two numbers of 64 bits the law returns true.
  Conditions: none.
-/
import Derived.Test.YtnajihlhcdedgaaG3
import Derived.Test.YtnajihlhcdedgaaGSumsLaw
namespace Go.Proofs.Ytnajihlhcdedgaa
open Go.RowKit
set_option linter.unusedVariables false
set_option linter.unusedSimpArgs false
attribute [local simp] blkAt_setCell blkAt_alloc blkAt_drew Obj.put_cells

set_option maxRecDepth 100000 in
set_option maxHeartbeats 4000000 in
theorem gold_powers_no (a n T : Int)
    (hK : Pure Try.prog 26 #[] (.bool true)) (hE : ∀ t, Pure Try.prog 33 #[.int .u64 t] (.agg #[.int .u64 t, .int .u64 0]))
    (hP : Pure Try.prog 39 #[.int .u64 a, .int .u64 n] (.int .u64 T)) (hRp : Pure Try.prog 40 #[.int .i64 1, .agg #[.int .u64 a, .int .u64 0], .agg #[.int .u64 n, .int .u64 0]] (.agg #[.int .u64 T, .int .u64 0]))
    (hq : ∀ t w, (binOp .neq 28 (.agg #[.int .u64 t, .int .u64 0]) (.agg #[.int .u64 t, .int .u64 0])).run Try.prog w = .ok (.bool false) w)
    (hI : Pure Try.prog 41 #[.int .u64 a] (.tuple #[.int .u64 0, .int .i64 8])) (hO : Pure Try.prog 31 #[.int .u64 a] (.int .u64 0)) (w : World) :
    Calls Try.prog 5 #[.int .u64 a, .int .u64 n] w fun e w' => e = .returned (.bool true) ∧ Kept w w' := by
  have hET := hE T
  have hEa := hE a
  have hEn := hE n
  clear hE
  have HK := Lib.hid hK
  have HP := Lib.hid hP
  have HET := Lib.hid hET
  have HEa := Lib.hid hEa
  have HEn := Lib.hid hEn
  have HRp := Lib.hid hRp
  have HI := Lib.hid hI
  have HO := Lib.hid hO
  clear hK hP hET hEa hEn hRp hI hO
  have kw := Kept.refl w
  go_enter Try.func5, Try.ntmps5
  go_wp2_with fail
  refine (HK.out _).mono ?_
  rintro e W1 ⟨rfl, hkW1⟩
  have kW1 := kw.trans hkW1
  clear kw hkW1
  go_wp2_with fail
  refine (HP.out _).mono ?_
  rintro e W2 ⟨rfl, hkW2⟩
  have kW2 := kW1.trans hkW2
  clear kW1 hkW2
  go_wp2_with fail
  refine (HET.out _).mono ?_
  rintro e W3 ⟨rfl, hkW3⟩
  have kW3 := kW2.trans hkW3
  clear kW2 hkW3
  go_wp2_with fail
  refine (HEa.out _).mono ?_
  rintro e W4 ⟨rfl, hkW4⟩
  have kW4 := kW3.trans hkW4
  clear kW3 hkW4
  go_wp2_with fail
  refine (HEn.out _).mono ?_
  rintro e W5 ⟨rfl, hkW5⟩
  have kW5 := kW4.trans hkW5
  clear kW4 hkW5
  go_wp2_with fail
  refine (HRp.out _).mono ?_
  rintro e W6 ⟨rfl, hkW6⟩
  have kW6 := kW5.trans hkW6
  clear kW5 hkW6
  go_wp2_with fail
  refine (HI.out _).mono ?_
  rintro e W7 ⟨rfl, hkW7⟩
  have kW7 := kW6.trans hkW7
  clear kW6 hkW7
  go_wp2_with fail
  refine (HO.out _).mono ?_
  rintro e W8 ⟨rfl, hkW8⟩
  have kW8 := kW7.trans hkW8
  clear kW7 hkW8
  go_wp2_with fail
  go_ret
  exact ⟨rfl, kW8⟩

set_option maxRecDepth 100000 in
set_option maxHeartbeats 4000000 in
theorem gold_powers_yes (a n T X R : Int)
    (hK : Pure Try.prog 26 #[] (.bool true)) (hE : ∀ t, Pure Try.prog 33 #[.int .u64 t] (.agg #[.int .u64 t, .int .u64 0]))
    (hP : Pure Try.prog 39 #[.int .u64 a, .int .u64 n] (.int .u64 T)) (hRp : Pure Try.prog 40 #[.int .i64 1, .agg #[.int .u64 a, .int .u64 0], .agg #[.int .u64 n, .int .u64 0]] (.agg #[.int .u64 T, .int .u64 0]))
    (hq : ∀ t w, (binOp .neq 28 (.agg #[.int .u64 t, .int .u64 0]) (.agg #[.int .u64 t, .int .u64 0])).run Try.prog w = .ok (.bool false) w)
    (hI : Pure Try.prog 41 #[.int .u64 a] (.tuple #[.int .u64 R, .int .i64 0])) (hO : Pure Try.prog 31 #[.int .u64 a] (.int .u64 X)) (hX : (X == 0) = false)
    (hIn : Pure Try.prog 34 #[.int .u64 R] (.bool true)) (hRm : Pure Try.prog 38 #[.int .i64 1, .agg #[.int .u64 a, .int .u64 0], .agg #[.int .u64 R, .int .u64 0]] (.agg #[.int .u64 1, .int .u64 0]))
    (hs : ∀ t w, (binOp .eql 28 (.agg #[.int .u64 t, .int .u64 0]) (.agg #[.int .u64 t, .int .u64 0])).run Try.prog w = .ok (.bool true) w) (w : World) :
    Calls Try.prog 5 #[.int .u64 a, .int .u64 n] w fun e w' => e = .returned (.bool true) ∧ Kept w w' := by
  have hET := hE T
  have hEa := hE a
  have hEn := hE n
  have hEb := hE R
  have hE1 := hE 1
  clear hE
  have HK := Lib.hid hK
  have HP := Lib.hid hP
  have HET := Lib.hid hET
  have HEa := Lib.hid hEa
  have HEn := Lib.hid hEn
  have HEb := Lib.hid hEb
  have HE1 := Lib.hid hE1
  have HRp := Lib.hid hRp
  have HI := Lib.hid hI
  have HO := Lib.hid hO
  have HIn := Lib.hid hIn
  have HRm := Lib.hid hRm
  clear hK hP hET hEa hEn hEb hE1 hRp hI hO hIn hRm
  have kw := Kept.refl w
  go_enter Try.func5, Try.ntmps5
  go_wp2_with fail
  refine (HK.out _).mono ?_
  rintro e W1 ⟨rfl, hkW1⟩
  have kW1 := kw.trans hkW1
  clear kw hkW1
  go_wp2_with fail
  refine (HP.out _).mono ?_
  rintro e W2 ⟨rfl, hkW2⟩
  have kW2 := kW1.trans hkW2
  clear kW1 hkW2
  go_wp2_with fail
  refine (HET.out _).mono ?_
  rintro e W3 ⟨rfl, hkW3⟩
  have kW3 := kW2.trans hkW3
  clear kW2 hkW3
  go_wp2_with fail
  refine (HEa.out _).mono ?_
  rintro e W4 ⟨rfl, hkW4⟩
  have kW4 := kW3.trans hkW4
  clear kW3 hkW4
  go_wp2_with fail
  refine (HEn.out _).mono ?_
  rintro e W5 ⟨rfl, hkW5⟩
  have kW5 := kW4.trans hkW5
  clear kW4 hkW5
  go_wp2_with fail
  refine (HRp.out _).mono ?_
  rintro e W6 ⟨rfl, hkW6⟩
  have kW6 := kW5.trans hkW6
  clear kW5 hkW6
  go_wp2_with fail
  refine (HI.out _).mono ?_
  rintro e W7 ⟨rfl, hkW7⟩
  have kW7 := kW6.trans hkW7
  clear kW6 hkW7
  go_wp2_with fail
  refine (HO.out _).mono ?_
  rintro e W8 ⟨rfl, hkW8⟩
  have kW8 := kW7.trans hkW8
  clear kW7 hkW8
  go_wp2_with fail
  refine (HIn.out _).mono ?_
  rintro e W9 ⟨rfl, hkW9⟩
  have kW9 := kW8.trans hkW9
  clear kW8 hkW9
  go_wp2_with fail
  refine (HEa.out _).mono ?_
  rintro e W10 ⟨rfl, hkW10⟩
  have kW10 := kW9.trans hkW10
  clear kW9 hkW10
  go_wp2_with fail
  refine (HEb.out _).mono ?_
  rintro e W11 ⟨rfl, hkW11⟩
  have kW11 := kW10.trans hkW11
  clear kW10 hkW11
  go_wp2_with fail
  refine (HRm.out _).mono ?_
  rintro e W12 ⟨rfl, hkW12⟩
  have kW12 := kW11.trans hkW12
  clear kW11 hkW12
  go_wp2_with fail
  refine (HE1.out _).mono ?_
  rintro e W13 ⟨rfl, hkW13⟩
  have kW13 := kW12.trans hkW13
  clear kW12 hkW13
  go_wp2_with fail
  go_ret
  exact ⟨rfl, kW13⟩

/-- The power by which a number is 1. -/
def eG : Nat := Int.toNat 18446744069414584319
theorem eG_eq : eG + 1 = gN - 1 := by decide +kernel

theorem fermat_goldI (a : Int) (h0 : 0 ≤ a) (h : a % gP ≠ 0) : a * (a ^ eG % gP) % gP = 1 := by
  obtain ⟨A, rfl⟩ := Int.eq_ofNat_of_zero_le h0
  have hA : A % gN ≠ 0 := by unfold gN; unfold gP at h; omega
  have hf := fermat_gold A hA
  rw [← eG_eq, Nat.pow_succ] at hf
  rw [Int.mul_emod, Int.emod_emod, ← Int.mul_emod]
  have e : (A : Int) * (A : Int) ^ eG = ((A ^ eG * A : Nat) : Int) := by
    rw [Int.natCast_mul, Int.natCast_pow, Int.mul_comm]
  rw [e, show gP = (gN : Int) from rfl, ← Int.natCast_emod, hf]
  rfl

theorem gold_powers_law (a : Int) (wa : (Lit.int .u64 a).wf = true) (n : Int) (wn : (Lit.int .u64 n).wf = true) (w : World) :
    Calls Try.prog 5 #[.int .u64 a, .int .u64 n] w fun e w' => e = .returned (.bool true) ∧ Kept w w' := by
  have ha := is64_mk wa
  have hn := is64_mk wn
  have rp := ref_Pow (f := 1) (a := a) (n := n.toNat) isF1 (is128_of64 ha) (by rw [Int.toNat_of_nonneg hn.1]; exact is128_of64 hn)
  rw [Int.toNat_of_nonneg hn.1, rOf1 ha, rP1, emod_pow, E_small ha, E_small hn, E_small (is64_emod _)] at rp
  by_cases h : a % gP = 0
  · have ho := g_Of ha
    rw [h] at ho
    exact gold_powers_no a n _ gold_Awake.pure law_e (g_Pow ha hn).pure rp (fun t w => by rw [run_neq28]; simp) (g_Inv_no ha h).pure ho.pure w
  · have hp := g_Pow (n := 18446744069414584319) ha (by unfold is64; omega)
    rw [show Int.toNat 18446744069414584319 = eG from rfl] at hp
    have hR : isG (a ^ eG % gP) := isG_emod _
    have hf := fermat_goldI a ha.1 h
    generalize a ^ eG % gP = R at *
    have hi := gold_Inv_yes a _ R (by simp [h]) (g_Of ha) hp
    have rm := ref_Mul isF1 (is128_of64 ha) (is128_of64 hR.is64)
    rw [rOf1 ha, rOf1 hR.is64, rP1, ← Int.mul_emod, hf, E_small ha, E_small hR.is64, E_small (a := 1) (by unfold is64; omega)] at rm
    have hin : Gives 34 #[.int .u64 R] (.bool true) := fun w => by
      have := gold_In R w
      rw [decide_eq_true (show R < 18446744069414584321 from hR.2)] at this
      exact this
    exact gold_powers_yes a n _ _ R gold_Awake.pure law_e (g_Pow ha hn).pure rp (fun t w => by rw [run_neq28]; simp) hi.pure (g_Of ha).pure (by simp [h]) hin.pure rm (fun t w => by rw [run_eql28]; simp) w

end Go.Proofs.Ytnajihlhcdedgaa
