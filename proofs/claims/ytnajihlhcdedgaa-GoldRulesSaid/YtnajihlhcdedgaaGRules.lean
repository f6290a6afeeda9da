/-
  GoldRules: for every three numbers of 64 bits the law returns true: the walk.
  Conditions: none.
-/
import Derived.Test.YtnajihlhcdedgaaG2
import Derived.Test.YtnajihlhcdedgaaFrame
namespace Go.Proofs.Ytnajihlhcdedgaa
open Go.RowKit
set_option linter.unusedVariables false

set_option maxHeartbeats 1000000 in
theorem gold_rules_walk (a b c : Int) (ha : is64 a) (hb : is64 b) (hc : is64 c) : Gives 3 #[.int .u64 a, .int .u64 b, .int .u64 c] (.bool true) := by
  have D0 := gold_Awake
  -- Add(a, b), Add(b, a)
  have h1 := g_Add ha hb
  have h2 := (g_Add hb ha).to (y := (a + b) % gP) (by rw [Int.add_comm])
  -- Mul(a, b), Mul(b, a)
  have h3 := g_Mul ha hb
  have h4 := (g_Mul hb ha).to (y := a * b % gP) (by rw [Int.mul_comm])
  -- Add(b, c), Mul(a, ..)
  have h5 := g_Add hb hc
  have h6 := g_Mul ha (is64_emod (b + c))
  -- Mul(a, b), Mul(a, c), Add
  have h7 := g_Mul ha hc
  have h8 := (g_Add (is64_emod (a * b)) (is64_emod (a * c))).to (y := a * ((b + c) % gP) % gP) (by
    rw [← Int.add_emod, ← Int.mul_add, Int.mul_emod a ((b + c) % gP), Int.emod_emod, ← Int.mul_emod])
  -- Mul(Mul(a, b), c), Mul(b, c), Mul(a, ..)
  have h9 := g_Mul (is64_emod (a * b)) hc
  have h10 := g_Mul hb hc
  have h11 := (g_Mul ha (is64_emod (b * c))).to (y := a * b % gP * c % gP) (by
    rw [Int.mul_emod a (b * c % gP), Int.emod_emod, ← Int.mul_emod, Int.mul_emod (a * b % gP) c, Int.emod_emod, ← Int.mul_emod, Int.mul_assoc])
  -- Neg(a), Add
  have h12 := g_Neg ha
  have h13 := (g_Add ha (is64_emod (-a))).to (y := 0) (by
    rw [Int.add_emod, Int.emod_emod, ← Int.add_emod, Int.add_right_neg]; rfl)
  -- Sub(Add(a, b), b), Of(a)
  have h14 := (g_Sub (is64_emod (a + b)) hb).to (y := a % gP) (by
    rw [Int.sub_emod, Int.emod_emod, ← Int.sub_emod, Int.add_sub_cancel])
  have h15 := g_Of ha
  generalize (a + b) % gP = X1 at *
  generalize a * b % gP = X2 at *
  generalize (b + c) % gP = X3 at *
  generalize a * X3 % gP = X4 at *
  generalize a * c % gP = X5 at *
  generalize X2 * c % gP = X6 at *
  generalize b * c % gP = X7 at *
  generalize -a % gP = X8 at *
  generalize a % gP = X9 at *
  have H0 := Lib.hid D0
  have H1 := Lib.hid h1
  have H2 := Lib.hid h2
  have H3 := Lib.hid h3
  have H4 := Lib.hid h4
  have H5 := Lib.hid h5
  have H6 := Lib.hid h6
  have H7 := Lib.hid h7
  have H8 := Lib.hid h8
  have H9 := Lib.hid h9
  have H10 := Lib.hid h10
  have H11 := Lib.hid h11
  have H12 := Lib.hid h12
  have H13 := Lib.hid h13
  have H14 := Lib.hid h14
  have H15 := Lib.hid h15
  clear D0 h1 h2 h3 h4 h5 h6 h7 h8 h9 h10 h11 h12 h13 h14 h15 ha hb hc
  intro w
  go_enter Try.func3, Try.ntmps3
  go_wp2_with fail
  refine (H0.out _).mono ?_
  rintro e w' ⟨rfl, rfl⟩
  go_wp2_with fail
  refine (H1.out _).mono ?_
  rintro e w' ⟨rfl, rfl⟩
  go_wp2_with fail
  refine (H2.out _).mono ?_
  rintro e w' ⟨rfl, rfl⟩
  go_wp2_with fail
  refine (H3.out _).mono ?_
  rintro e w' ⟨rfl, rfl⟩
  go_wp2_with fail
  refine (H4.out _).mono ?_
  rintro e w' ⟨rfl, rfl⟩
  go_wp2_with fail
  refine (H5.out _).mono ?_
  rintro e w' ⟨rfl, rfl⟩
  go_wp2_with fail
  refine (H6.out _).mono ?_
  rintro e w' ⟨rfl, rfl⟩
  go_wp2_with fail
  refine (H3.out _).mono ?_
  rintro e w' ⟨rfl, rfl⟩
  go_wp2_with fail
  refine (H7.out _).mono ?_
  rintro e w' ⟨rfl, rfl⟩
  go_wp2_with fail
  refine (H8.out _).mono ?_
  rintro e w' ⟨rfl, rfl⟩
  go_wp2_with fail
  refine (H3.out _).mono ?_
  rintro e w' ⟨rfl, rfl⟩
  go_wp2_with fail
  refine (H9.out _).mono ?_
  rintro e w' ⟨rfl, rfl⟩
  go_wp2_with fail
  refine (H10.out _).mono ?_
  rintro e w' ⟨rfl, rfl⟩
  go_wp2_with fail
  refine (H11.out _).mono ?_
  rintro e w' ⟨rfl, rfl⟩
  go_wp2_with fail
  refine (H12.out _).mono ?_
  rintro e w' ⟨rfl, rfl⟩
  go_wp2_with fail
  refine (H13.out _).mono ?_
  rintro e w' ⟨rfl, rfl⟩
  go_wp2_with fail
  refine (H1.out _).mono ?_
  rintro e w' ⟨rfl, rfl⟩
  go_wp2_with fail
  refine (H14.out _).mono ?_
  rintro e w' ⟨rfl, rfl⟩
  go_wp2_with fail
  refine (H15.out _).mono ?_
  rintro e w' ⟨rfl, rfl⟩
  go_wp2_with fail
  go_ret
  exact ⟨rfl, rfl⟩

theorem gold_rules_law (a : Int) (wa : (Lit.int .u64 a).wf = true) (b : Int) (wb : (Lit.int .u64 b).wf = true) (c : Int) (wc : (Lit.int .u64 c).wf = true) (w : World) :
    Calls Try.prog 3 #[.int .u64 a, .int .u64 b, .int .u64 c] w fun e w' => e = .returned (.bool true) ∧ Below w.heap.size w w' :=
  (gold_rules_walk a b c (is64_mk wa) (is64_mk wb) (is64_mk wc) w).mono fun e w' ⟨h1, h2⟩ => ⟨h1, h2 ▸ Below.refl _ _⟩

end Go.Proofs.Ytnajihlhcdedgaa
