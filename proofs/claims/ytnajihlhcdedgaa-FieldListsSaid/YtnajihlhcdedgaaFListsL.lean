/-
  FieldLists: for every two lists of elements the law returns true.
-/
import Derived.Test.YtnajihlhcdedgaaFLists
import Derived.Test.YtnajihlhcdedgaaFSl
import Derived.Test.YtnajihlhcdedgaaWRootsLaw
namespace Go.Proofs.Ytnajihlhcdedgaa
open Go.RowKit
set_option linter.unusedVariables false
set_option linter.unusedSimpArgs false

set_option maxRecDepth 100000 in
set_option maxHeartbeats 4000000 in
theorem field_lists_longA (u many : Int) (a : Option Addr) (n cap : Nat) (b : Option Addr) (m capb : Nat) (x0 x1 : Int) (h : (20 : Int) < (n : Int)) (w : World) :
    Calls Try.prog 17 #[.int .u8 u, .slice a n cap, .slice b m capb, .agg #[.int .u64 x0, .int .u64 x1], .int .i64 many] w fun e w' => e = .returned (.bool true) ∧ Kept w w' := by
  have HA := Lib.hid f_Awake
  go_enter Try.func17, Try.ntmps17
  go_wp2_with fail
  refine (HA.out _).mono ?_
  rintro e W1 ⟨rfl, k1⟩
  go_wp2_with fail
  go_ret
  refine ⟨rfl, ?_⟩
  exact ((Kept.refl w).alloc _).trans k1

set_option maxRecDepth 100000 in
set_option maxHeartbeats 4000000 in
theorem field_lists_longB (u many : Int) (a : Option Addr) (n cap : Nat) (b : Option Addr) (m capb : Nat) (x0 x1 : Int) (h : (n : Int) ≤ 20) (h2 : (20 : Int) < (m : Int)) (w : World) :
    Calls Try.prog 17 #[.int .u8 u, .slice a n cap, .slice b m capb, .agg #[.int .u64 x0, .int .u64 x1], .int .i64 many] w fun e w' => e = .returned (.bool true) ∧ Kept w w' := by
  have HA := Lib.hid f_Awake
  go_enter Try.func17, Try.ntmps17
  go_wp2_with fail
  refine (HA.out _).mono ?_
  rintro e W1 ⟨rfl, k1⟩
  go_wp2_with fail
  go_ret
  refine ⟨rfl, ?_⟩
  exact ((Kept.refl w).alloc _).trans k1

set_option maxRecDepth 100000 in
set_option maxHeartbeats 4000000 in
theorem field_lists_longC (u many : Int) (a : Option Addr) (n cap : Nat) (b : Option Addr) (m capb : Nat) (x0 x1 : Int) (h : (n : Int) ≤ 20) (h2 : (m : Int) ≤ 20) (h3 : 40 < many) (w : World) :
    Calls Try.prog 17 #[.int .u8 u, .slice a n cap, .slice b m capb, .agg #[.int .u64 x0, .int .u64 x1], .int .i64 many] w fun e w' => e = .returned (.bool true) ∧ Kept w w' := by
  have HA := Lib.hid f_Awake
  go_enter Try.func17, Try.ntmps17
  go_wp2_with fail
  refine (HA.out _).mono ?_
  rintro e W1 ⟨rfl, k1⟩
  go_wp2_with fail
  go_ret
  refine ⟨rfl, ?_⟩
  exact ((Kept.refl w).alloc _).trans k1

theorem fieldLists_E (u : Int) (u0 : 0 ≤ u) (u1 : u ≤ 255) (a : Option Addr) (n cap : Nat) (xa : Nat → Int) (b : Option Addr) (m capb : Nat) (xb : Nat → Int) (x : Int) (hx : is128 x) (many : Int) (w : World)
    (hn63 : (n : Int) ≤ 9223372036854775807) (ha : ∀ j, j < n → is128 (xa j)) (hA : SlX w a n cap w.heap.size xa) (hm63 : (m : Int) ≤ 9223372036854775807) (hb : ∀ j, j < m → is128 (xb j)) (hB : SlX w b m capb w.heap.size xb) :
    Calls Try.prog 17 #[.int .u8 u, .slice a n cap, .slice b m capb, E x, .int .i64 many] w fun e w' => e = .returned (.bool true) ∧ Kept w w' := by
  by_cases hn : 20 < n
  · exact field_lists_longA u many a n cap b m capb _ _ (by omega) w
  by_cases hm : 20 < m
  · exact field_lists_longB u many a n cap b m capb _ _ (by omega) (by omega) w
  by_cases hk : 40 < many
  · exact field_lists_longC u many a n cap b m capb _ _ (by omega) (by omega) hk w
  have hf := isF_fOf u0
  have hF := f_F u0 u1
  have wf : IntKind.i64.wrap (fOf u) = fOf u := IntWalk.i64_in _ (by unfold isF at hf; omega)
  generalize fOf u = f at *
  have hmax : ∀ w, (Builtin.max_ #[3, 3] 3 #[.int .i64 many, .int .i64 0]).run Try.prog w = .ok (.int .i64 (many.toNat : Int)) w := fun w => by
    rw [run_max_int2]
    congr 2
    split <;> omega
  have HrU : Hid (∀ j, j < n → Pure Try.prog 35 #[.int .i64 f, .agg #[.int .u64 ((fun j => sumF f xa j % 18446744073709551616) j), .int .u64 ((fun j => sumF f xa j / 18446744073709551616) j)], .agg #[.int .u64 ((fun j => xa j % 18446744073709551616) j), .int .u64 ((fun j => xa j / 18446744073709551616) j)]] (.agg #[.int .u64 ((fun j => sumF f xa j % 18446744073709551616) (j + 1)), .int .u64 ((fun j => sumF f xa j / 18446744073709551616) (j + 1))])) :=
    Lib.hid fun j hj => ref_Add hf (is128_sumF f xa j) (ha j hj)
  have HrW : Hid (∀ j, Pure Try.prog 38 #[.int .i64 f, .agg #[.int .u64 ((fun j => powF f x j % 18446744073709551616) j), .int .u64 ((fun j => powF f x j / 18446744073709551616) j)], E x] (.agg #[.int .u64 ((fun j => powF f x j % 18446744073709551616) (j + 1)), .int .u64 ((fun j => powF f x j / 18446744073709551616) (j + 1))])) :=
    Lib.hid fun j => ref_Mul hf (is128_powF f x j) hx
  have HCU : Hid (∀ w', Kept w w' → Calls Try.prog 82 #[.int .u8 f, .slice a n cap] w' fun e w'' => e = .returned (.agg #[.int .u64 ((fun j => sumF f xa j % 18446744073709551616) n), .int .u64 ((fun j => sumF f xa j / 18446744073709551616) n)]) ∧ Kept w' w'') :=
    Lib.hid fun w' k => f_Sum hf w' (by omega) ha (hA.kept k)
  have HCP : Hid (∀ w', Kept w w' → Calls Try.prog 81 #[.int .u8 f, E x, .int .i64 many] w' fun e w'' => ∃ ad c, e = .returned (.slice ad many.toNat c) ∧ Kept w' w'' ∧ SlE w'' ad many.toNat c w''.heap.size (fun j => powF f x j % 18446744073709551616) (fun j => powF f x j / 18446744073709551616)) :=
    Lib.hid fun w' k => f_Powers hf w' hx (by omega)
  by_cases hnm : n = m
  · subst hnm
    exact field_lists_eq u f many hF wf a n cap b capb w.heap.size many.toNat (fun j => xa j % 18446744073709551616) (fun j => xa j / 18446744073709551616) (fun j => sumF f xa j % 18446744073709551616) (fun j => sumF f xa j / 18446744073709551616) (fun j => powF f x j % 18446744073709551616) (fun j => powF f x j / 18446744073709551616) (x % 18446744073709551616) (x / 18446744073709551616) (by omega) (by omega) (by omega) w hA (Lib.hid ⟨rfl, rfl⟩) (Lib.hid ⟨rfl, rfl⟩) hmax HrU HrW HCU HCP
      (fun j => xb j % 18446744073709551616) (fun j => xb j / 18446744073709551616) (fun j => addF f xa xb j % 18446744073709551616) (fun j => addF f xa xb j / 18446744073709551616) (fun j => subF f xa xb j % 18446744073709551616) (fun j => subF f xa xb j / 18446744073709551616)
      (fun j => sumF f (mulF f xa xb) j % 18446744073709551616) (fun j => sumF f (mulF f xa xb) j / 18446744073709551616) (fun j => mulF f xa xb j % 18446744073709551616) (fun j => mulF f xa xb j / 18446744073709551616) hB (Lib.hid ⟨rfl, rfl⟩)
      (Lib.hid fun j hj => ref_Add hf (ha j hj) (hb j hj)) (Lib.hid fun j hj => ref_Sub hf (ha j hj) (hb j hj)) (Lib.hid fun j hj => ref_Mul hf (ha j hj) (hb j hj)) (Lib.hid fun j hj => ref_Add hf (is128_sumF f _ j) (is128_emod f _))
      (Lib.hid fun w' k => f_AddVec hf w' (by omega) ha hb (hA.kept k) (hB.kept k)) (Lib.hid fun w' k => f_SubVec hf w' (by omega) ha hb (hA.kept k) (hB.kept k)) (Lib.hid fun w' k => f_Dot hf w' (by omega) ha hb (hA.kept k) (hB.kept k))
  · exact field_lists_ne u f many hF wf a n cap b m capb w.heap.size many.toNat (fun j => xa j % 18446744073709551616) (fun j => xa j / 18446744073709551616) (fun j => sumF f xa j % 18446744073709551616) (fun j => sumF f xa j / 18446744073709551616) (fun j => powF f x j % 18446744073709551616) (fun j => powF f x j / 18446744073709551616) (x % 18446744073709551616) (x / 18446744073709551616) (by omega) (by omega) (by omega) (by omega) w hA (Lib.hid ⟨rfl, rfl⟩) (Lib.hid ⟨rfl, rfl⟩) hmax HrU HrW HCU HCP
      (by simp; omega) (Lib.hid (f_AddVec_long f a n cap b m capb hnm hn63 hm63)) (Lib.hid (f_SubVec_long f a n cap b m capb hnm hn63 hm63)) (Lib.hid (f_Dot_long f a n cap b m capb hnm hn63 hm63))
theorem pair_E' {l : List Int} (hl : l.length = 2) (hw : ∀ z ∈ l, (Lit.int .u64 z).wf = true) : ∃ a, is128 a ∧ Value.agg (l.map (Value.int .u64)).toArray = E a := by
  match l, hl with
  | [x, y], _ =>
    have h := E_of (is64_mk (hw x (by simp))) (is64_mk (hw y (by simp)))
    exact ⟨_, h.1, h.2.symm⟩
theorem fieldLists_walk (u : Int) (wu : (Lit.int .u8 u).wf = true) (a : Option Addr) (n cap : Nat) (xa : Nat → Int) (b : Option Addr) (m capb : Nat) (xb : Nat → Int) (l : List Int) (ll : l.length = 2) (wl : ∀ z ∈ l, (Lit.int .u64 z).wf = true) (many : Int) (wm : (Lit.int .i64 many).wf = true) (w : World)
    (hs : (n : Int) ≤ 9223372036854775807 ∧ (∀ j, j < n → is128 (xa j)) ∧ SlX w a n cap w.heap.size xa) (ht : (m : Int) ≤ 9223372036854775807 ∧ (∀ j, j < m → is128 (xb j)) ∧ SlX w b m capb w.heap.size xb) :
    Calls Try.prog 17 #[.int .u8 u, .slice a n cap, .slice b m capb, .agg (l.map (Value.int .u64)).toArray, .int .i64 many] w fun e w' => e = .returned (.bool true) ∧ Kept w w' := by
  obtain ⟨x, hx, ex⟩ := pair_E' ll wl
  have h1 : 0 ≤ u ∧ u ≤ 255 := by
    simp [Lit.wf, IntKind.min, IntKind.max, IntKind.signed, IntKind.bits] at wu
    omega
  rw [ex]
  exact fieldLists_E u h1.1 h1.2 a n cap xa b m capb xb x hx many w hs.1 hs.2.1 hs.2.2 ht.1 ht.2.1 ht.2.2
end Go.Proofs.Ytnajihlhcdedgaa
