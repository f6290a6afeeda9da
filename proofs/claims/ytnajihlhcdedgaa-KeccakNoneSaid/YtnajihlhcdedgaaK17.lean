/-
  The permutation over natural numbers, for the kernel to reckon.
-/
import Derived.Test.YtnajihlhcdedgaaK9
namespace Go.Proofs.Ytnajihlhcdedgaa
open Go.RowKit
set_option linter.unusedVariables false
set_option linter.unusedSimpArgs false

def nrot (a n : Nat) : Nat := a * 2 ^ n % 18446744073709551616 + a / 2 ^ (64 - n)
/-- The number is reckoned first. -/
def force {α : Type} (n : Nat) (f : Nat → α) : α := Nat.rec (f 0) (fun m _ => f (Nat.succ m)) n
theorem force_eq {α : Type} (n : Nat) (f : Nat → α) : force n f = f n := by cases n <;> rfl
/-- 25 lanes. -/
structure St where
  a0 : Nat
  a1 : Nat
  a2 : Nat
  a3 : Nat
  a4 : Nat
  a5 : Nat
  a6 : Nat
  a7 : Nat
  a8 : Nat
  a9 : Nat
  a10 : Nat
  a11 : Nat
  a12 : Nat
  a13 : Nat
  a14 : Nat
  a15 : Nat
  a16 : Nat
  a17 : Nat
  a18 : Nat
  a19 : Nat
  a20 : Nat
  a21 : Nat
  a22 : Nat
  a23 : Nat
  a24 : Nat
def St.list (s : St) : List Nat := [s.a0, s.a1, s.a2, s.a3, s.a4, s.a5, s.a6, s.a7, s.a8, s.a9, s.a10, s.a11, s.a12, s.a13, s.a14, s.a15, s.a16, s.a17, s.a18, s.a19, s.a20, s.a21, s.a22, s.a23, s.a24]
def St.get (s : St) (i : Nat) : Nat := s.list.getD i 0
def ncol (a b c d e : Nat) : Nat := a ^^^ b ^^^ c ^^^ d ^^^ e
def nround (rc : Nat) (s : St) : St := match s with
  | St.mk a0 a1 a2 a3 a4 a5 a6 a7 a8 a9 a10 a11 a12 a13 a14 a15 a16 a17 a18 a19 a20 a21 a22 a23 a24 =>
  force (ncol a0 a5 a10 a15 a20) fun c0 =>
  force (ncol a1 a6 a11 a16 a21) fun c1 =>
  force (ncol a2 a7 a12 a17 a22) fun c2 =>
  force (ncol a3 a8 a13 a18 a23) fun c3 =>
  force (ncol a4 a9 a14 a19 a24) fun c4 =>
  force (c4 ^^^ nrot c1 1) fun d0 =>
  force (c0 ^^^ nrot c2 1) fun d1 =>
  force (c1 ^^^ nrot c3 1) fun d2 =>
  force (c2 ^^^ nrot c4 1) fun d3 =>
  force (c3 ^^^ nrot c0 1) fun d4 =>
  force (nrot (a0 ^^^ d0) 0) fun v0 =>
  force (nrot (a6 ^^^ d1) 44) fun v1 =>
  force (nrot (a12 ^^^ d2) 43) fun v2 =>
  force (nrot (a18 ^^^ d3) 21) fun v3 =>
  force (nrot (a24 ^^^ d4) 14) fun v4 =>
  force (nrot (a3 ^^^ d3) 28) fun v5 =>
  force (nrot (a9 ^^^ d4) 20) fun v6 =>
  force (nrot (a10 ^^^ d0) 3) fun v7 =>
  force (nrot (a16 ^^^ d1) 45) fun v8 =>
  force (nrot (a22 ^^^ d2) 61) fun v9 =>
  force (nrot (a1 ^^^ d1) 1) fun v10 =>
  force (nrot (a7 ^^^ d2) 6) fun v11 =>
  force (nrot (a13 ^^^ d3) 25) fun v12 =>
  force (nrot (a19 ^^^ d4) 8) fun v13 =>
  force (nrot (a20 ^^^ d0) 18) fun v14 =>
  force (nrot (a4 ^^^ d4) 27) fun v15 =>
  force (nrot (a5 ^^^ d0) 36) fun v16 =>
  force (nrot (a11 ^^^ d1) 10) fun v17 =>
  force (nrot (a17 ^^^ d2) 15) fun v18 =>
  force (nrot (a23 ^^^ d3) 56) fun v19 =>
  force (nrot (a2 ^^^ d2) 62) fun v20 =>
  force (nrot (a8 ^^^ d3) 55) fun v21 =>
  force (nrot (a14 ^^^ d4) 39) fun v22 =>
  force (nrot (a15 ^^^ d0) 41) fun v23 =>
  force (nrot (a21 ^^^ d1) 2) fun v24 =>
  force ((v0 ^^^ ((18446744073709551615 ^^^ v1) &&& v2)) ^^^ rc) fun o0 =>
  force (v1 ^^^ ((18446744073709551615 ^^^ v2) &&& v3)) fun o1 =>
  force (v2 ^^^ ((18446744073709551615 ^^^ v3) &&& v4)) fun o2 =>
  force (v3 ^^^ ((18446744073709551615 ^^^ v4) &&& v0)) fun o3 =>
  force (v4 ^^^ ((18446744073709551615 ^^^ v0) &&& v1)) fun o4 =>
  force (v5 ^^^ ((18446744073709551615 ^^^ v6) &&& v7)) fun o5 =>
  force (v6 ^^^ ((18446744073709551615 ^^^ v7) &&& v8)) fun o6 =>
  force (v7 ^^^ ((18446744073709551615 ^^^ v8) &&& v9)) fun o7 =>
  force (v8 ^^^ ((18446744073709551615 ^^^ v9) &&& v5)) fun o8 =>
  force (v9 ^^^ ((18446744073709551615 ^^^ v5) &&& v6)) fun o9 =>
  force (v10 ^^^ ((18446744073709551615 ^^^ v11) &&& v12)) fun o10 =>
  force (v11 ^^^ ((18446744073709551615 ^^^ v12) &&& v13)) fun o11 =>
  force (v12 ^^^ ((18446744073709551615 ^^^ v13) &&& v14)) fun o12 =>
  force (v13 ^^^ ((18446744073709551615 ^^^ v14) &&& v10)) fun o13 =>
  force (v14 ^^^ ((18446744073709551615 ^^^ v10) &&& v11)) fun o14 =>
  force (v15 ^^^ ((18446744073709551615 ^^^ v16) &&& v17)) fun o15 =>
  force (v16 ^^^ ((18446744073709551615 ^^^ v17) &&& v18)) fun o16 =>
  force (v17 ^^^ ((18446744073709551615 ^^^ v18) &&& v19)) fun o17 =>
  force (v18 ^^^ ((18446744073709551615 ^^^ v19) &&& v15)) fun o18 =>
  force (v19 ^^^ ((18446744073709551615 ^^^ v15) &&& v16)) fun o19 =>
  force (v20 ^^^ ((18446744073709551615 ^^^ v21) &&& v22)) fun o20 =>
  force (v21 ^^^ ((18446744073709551615 ^^^ v22) &&& v23)) fun o21 =>
  force (v22 ^^^ ((18446744073709551615 ^^^ v23) &&& v24)) fun o22 =>
  force (v23 ^^^ ((18446744073709551615 ^^^ v24) &&& v20)) fun o23 =>
  force (v24 ^^^ ((18446744073709551615 ^^^ v20) &&& v21)) fun o24 =>
  St.mk o0 o1 o2 o3 o4 o5 o6 o7 o8 o9 o10 o11 o12 o13 o14 o15 o16 o17 o18 o19 o20 o21 o22 o23 o24
def nperm (s : St) : St := nround 9223372039002292232 (nround 2147483649 (nround 9223372036854808704 (nround 9223372039002292353 (nround 9223372039002259466 (nround 32778 (nround 9223372036854775936 (nround 9223372036854808578 (nround 9223372036854808579 (nround 9223372036854808713 (nround 9223372036854775947 (nround 2147516555 (s))))))))))))

/-- A lane as a number. -/
def R (x : Int) (a : Nat) : Prop := x = (a : Int) ∧ a < 18446744073709551616
theorem R_in {x : Int} {a : Nat} (h : R x a) : in64 x := by obtain ⟨rfl, h⟩ := h; unfold in64; omega
theorem ofInt_nat {a : Nat} (h : a < 18446744073709551616) : BitVec.ofInt 64 (a : Int) = BitVec.ofNat 64 a := by
  apply BitVec.eq_of_toNat_eq
  simp
theorem R_xor {x y : Int} {a b : Nat} (h : R x a) (k : R y b) : R (bits .xor .u64 x y) (a ^^^ b) := by
  obtain ⟨rfl, h⟩ := h
  obtain ⟨rfl, k⟩ := k
  have e : a ^^^ b < 2 ^ 64 := Nat.xor_lt_two_pow (by omega) (by omega)
  refine ⟨?_, by omega⟩
  rw [xr_bv, ofInt_nat h, ofInt_nat k, BitVec.toNat_xor, BitVec.toNat_ofNat, BitVec.toNat_ofNat, Nat.mod_eq_of_lt (by omega), Nat.mod_eq_of_lt (by omega)]
theorem R_and {x y : Int} {a b : Nat} (h : R x a) (k : R y b) : R (bits .and .u64 x y) (a &&& b) := by
  obtain ⟨rfl, h⟩ := h
  obtain ⟨rfl, k⟩ := k
  have e : a &&& b ≤ a := Nat.and_le_left
  refine ⟨?_, by omega⟩
  rw [and_bv, ofInt_nat h, ofInt_nat k, BitVec.toNat_and, BitVec.toNat_ofNat, BitVec.toNat_ofNat, Nat.mod_eq_of_lt (by omega), Nat.mod_eq_of_lt (by omega)]
theorem R_rot {x : Int} {a : Nat} (h : R x a) {n : Nat} (hn : n < 64) : R (rotL x n) (nrot a n) := by
  have hi := rotL_in (R_in h) (k := n) (by omega)
  obtain ⟨rfl, h⟩ := h
  have e : rotL (a : Int) n = (nrot a n : Int) := by
    unfold rotL nrot
    rw [Int.natCast_add, Int.natCast_emod, Int.natCast_mul, Int.natCast_ediv, Int.natCast_pow, Int.natCast_pow]
    rfl
  rw [e] at hi
  unfold in64 at hi
  exact ⟨e, by omega⟩
theorem R_all : R 18446744073709551615 18446744073709551615 := ⟨rfl, by decide⟩

theorem R_col0 {s : Nat → Int} {a0 : Nat} {a5 : Nat} {a10 : Nat} {a15 : Nat} {a20 : Nat} (h0 : R (s 0) a0) (h5 : R (s 5) a5) (h10 : R (s 10) a10) (h15 : R (s 15) a15) (h20 : R (s 20) a20) : R (sumTo s 25 0) (ncol a0 a5 a10 a15 a20) := by
  have hz := xr_zero (R_in h0)
  have e : sumTo s 25 0 = bits .xor .u64 (bits .xor .u64 (bits .xor .u64 (bits .xor .u64 (s 0) (s 5)) (s 10)) (s 15)) (s 20) := by simp [sumTo, hz]
  rw [e]
  exact R_xor (R_xor (R_xor (R_xor h0 h5) h10) h15) h20
theorem R_col1 {s : Nat → Int} {a1 : Nat} {a6 : Nat} {a11 : Nat} {a16 : Nat} {a21 : Nat} (h1 : R (s 1) a1) (h6 : R (s 6) a6) (h11 : R (s 11) a11) (h16 : R (s 16) a16) (h21 : R (s 21) a21) : R (sumTo s 25 1) (ncol a1 a6 a11 a16 a21) := by
  have hz := xr_zero (R_in h1)
  have e : sumTo s 25 1 = bits .xor .u64 (bits .xor .u64 (bits .xor .u64 (bits .xor .u64 (s 1) (s 6)) (s 11)) (s 16)) (s 21) := by simp [sumTo, hz]
  rw [e]
  exact R_xor (R_xor (R_xor (R_xor h1 h6) h11) h16) h21
theorem R_col2 {s : Nat → Int} {a2 : Nat} {a7 : Nat} {a12 : Nat} {a17 : Nat} {a22 : Nat} (h2 : R (s 2) a2) (h7 : R (s 7) a7) (h12 : R (s 12) a12) (h17 : R (s 17) a17) (h22 : R (s 22) a22) : R (sumTo s 25 2) (ncol a2 a7 a12 a17 a22) := by
  have hz := xr_zero (R_in h2)
  have e : sumTo s 25 2 = bits .xor .u64 (bits .xor .u64 (bits .xor .u64 (bits .xor .u64 (s 2) (s 7)) (s 12)) (s 17)) (s 22) := by simp [sumTo, hz]
  rw [e]
  exact R_xor (R_xor (R_xor (R_xor h2 h7) h12) h17) h22
theorem R_col3 {s : Nat → Int} {a3 : Nat} {a8 : Nat} {a13 : Nat} {a18 : Nat} {a23 : Nat} (h3 : R (s 3) a3) (h8 : R (s 8) a8) (h13 : R (s 13) a13) (h18 : R (s 18) a18) (h23 : R (s 23) a23) : R (sumTo s 25 3) (ncol a3 a8 a13 a18 a23) := by
  have hz := xr_zero (R_in h3)
  have e : sumTo s 25 3 = bits .xor .u64 (bits .xor .u64 (bits .xor .u64 (bits .xor .u64 (s 3) (s 8)) (s 13)) (s 18)) (s 23) := by simp [sumTo, hz]
  rw [e]
  exact R_xor (R_xor (R_xor (R_xor h3 h8) h13) h18) h23
theorem R_col4 {s : Nat → Int} {a4 : Nat} {a9 : Nat} {a14 : Nat} {a19 : Nat} {a24 : Nat} (h4 : R (s 4) a4) (h9 : R (s 9) a9) (h14 : R (s 14) a14) (h19 : R (s 19) a19) (h24 : R (s 24) a24) : R (sumTo s 25 4) (ncol a4 a9 a14 a19 a24) := by
  have hz := xr_zero (R_in h4)
  have e : sumTo s 25 4 = bits .xor .u64 (bits .xor .u64 (bits .xor .u64 (bits .xor .u64 (s 4) (s 9)) (s 14)) (s 19)) (s 24) := by simp [sumTo, hz]
  rw [e]
  exact R_xor (R_xor (R_xor (R_xor h4 h9) h14) h19) h24
theorem mv0 (s : Nat → Int) : kmove (kmix s) 0 = rotL (bits .xor .u64 (s 0) (bits .xor .u64 (sumTo s 25 4) (rotL (sumTo s 25 1) 1))) 0 := rfl
theorem mv1 (s : Nat → Int) : kmove (kmix s) 1 = rotL (bits .xor .u64 (s 6) (bits .xor .u64 (sumTo s 25 0) (rotL (sumTo s 25 2) 1))) 44 := rfl
theorem mv2 (s : Nat → Int) : kmove (kmix s) 2 = rotL (bits .xor .u64 (s 12) (bits .xor .u64 (sumTo s 25 1) (rotL (sumTo s 25 3) 1))) 43 := rfl
theorem mv3 (s : Nat → Int) : kmove (kmix s) 3 = rotL (bits .xor .u64 (s 18) (bits .xor .u64 (sumTo s 25 2) (rotL (sumTo s 25 4) 1))) 21 := rfl
theorem mv4 (s : Nat → Int) : kmove (kmix s) 4 = rotL (bits .xor .u64 (s 24) (bits .xor .u64 (sumTo s 25 3) (rotL (sumTo s 25 0) 1))) 14 := rfl
theorem mv5 (s : Nat → Int) : kmove (kmix s) 5 = rotL (bits .xor .u64 (s 3) (bits .xor .u64 (sumTo s 25 2) (rotL (sumTo s 25 4) 1))) 28 := rfl
theorem mv6 (s : Nat → Int) : kmove (kmix s) 6 = rotL (bits .xor .u64 (s 9) (bits .xor .u64 (sumTo s 25 3) (rotL (sumTo s 25 0) 1))) 20 := rfl
theorem mv7 (s : Nat → Int) : kmove (kmix s) 7 = rotL (bits .xor .u64 (s 10) (bits .xor .u64 (sumTo s 25 4) (rotL (sumTo s 25 1) 1))) 3 := rfl
theorem mv8 (s : Nat → Int) : kmove (kmix s) 8 = rotL (bits .xor .u64 (s 16) (bits .xor .u64 (sumTo s 25 0) (rotL (sumTo s 25 2) 1))) 45 := rfl
theorem mv9 (s : Nat → Int) : kmove (kmix s) 9 = rotL (bits .xor .u64 (s 22) (bits .xor .u64 (sumTo s 25 1) (rotL (sumTo s 25 3) 1))) 61 := rfl
theorem mv10 (s : Nat → Int) : kmove (kmix s) 10 = rotL (bits .xor .u64 (s 1) (bits .xor .u64 (sumTo s 25 0) (rotL (sumTo s 25 2) 1))) 1 := rfl
theorem mv11 (s : Nat → Int) : kmove (kmix s) 11 = rotL (bits .xor .u64 (s 7) (bits .xor .u64 (sumTo s 25 1) (rotL (sumTo s 25 3) 1))) 6 := rfl
theorem mv12 (s : Nat → Int) : kmove (kmix s) 12 = rotL (bits .xor .u64 (s 13) (bits .xor .u64 (sumTo s 25 2) (rotL (sumTo s 25 4) 1))) 25 := rfl
theorem mv13 (s : Nat → Int) : kmove (kmix s) 13 = rotL (bits .xor .u64 (s 19) (bits .xor .u64 (sumTo s 25 3) (rotL (sumTo s 25 0) 1))) 8 := rfl
theorem mv14 (s : Nat → Int) : kmove (kmix s) 14 = rotL (bits .xor .u64 (s 20) (bits .xor .u64 (sumTo s 25 4) (rotL (sumTo s 25 1) 1))) 18 := rfl
theorem mv15 (s : Nat → Int) : kmove (kmix s) 15 = rotL (bits .xor .u64 (s 4) (bits .xor .u64 (sumTo s 25 3) (rotL (sumTo s 25 0) 1))) 27 := rfl
theorem mv16 (s : Nat → Int) : kmove (kmix s) 16 = rotL (bits .xor .u64 (s 5) (bits .xor .u64 (sumTo s 25 4) (rotL (sumTo s 25 1) 1))) 36 := rfl
theorem mv17 (s : Nat → Int) : kmove (kmix s) 17 = rotL (bits .xor .u64 (s 11) (bits .xor .u64 (sumTo s 25 0) (rotL (sumTo s 25 2) 1))) 10 := rfl
theorem mv18 (s : Nat → Int) : kmove (kmix s) 18 = rotL (bits .xor .u64 (s 17) (bits .xor .u64 (sumTo s 25 1) (rotL (sumTo s 25 3) 1))) 15 := rfl
theorem mv19 (s : Nat → Int) : kmove (kmix s) 19 = rotL (bits .xor .u64 (s 23) (bits .xor .u64 (sumTo s 25 2) (rotL (sumTo s 25 4) 1))) 56 := rfl
theorem mv20 (s : Nat → Int) : kmove (kmix s) 20 = rotL (bits .xor .u64 (s 2) (bits .xor .u64 (sumTo s 25 1) (rotL (sumTo s 25 3) 1))) 62 := rfl
theorem mv21 (s : Nat → Int) : kmove (kmix s) 21 = rotL (bits .xor .u64 (s 8) (bits .xor .u64 (sumTo s 25 2) (rotL (sumTo s 25 4) 1))) 55 := rfl
theorem mv22 (s : Nat → Int) : kmove (kmix s) 22 = rotL (bits .xor .u64 (s 14) (bits .xor .u64 (sumTo s 25 3) (rotL (sumTo s 25 0) 1))) 39 := rfl
theorem mv23 (s : Nat → Int) : kmove (kmix s) 23 = rotL (bits .xor .u64 (s 15) (bits .xor .u64 (sumTo s 25 4) (rotL (sumTo s 25 1) 1))) 41 := rfl
theorem mv24 (s : Nat → Int) : kmove (kmix s) 24 = rotL (bits .xor .u64 (s 21) (bits .xor .u64 (sumTo s 25 0) (rotL (sumTo s 25 2) 1))) 2 := rfl
theorem kb0 (v : Nat → Int) : kbend v 0 = bits .xor .u64 (v 0) (bits .and .u64 (bits .xor .u64 18446744073709551615 (v 1)) (v 2)) := by unfold kbend; simp only [Nat.reduceDiv, Nat.reduceMul, Nat.reduceAdd, Nat.reduceMod]
theorem kr0 (s : Nat → Int) (k : Nat) : kround k s 0 = bits .xor .u64 (kbend (kmove (kmix s)) 0) (conN k) := if_pos rfl
theorem kb1 (v : Nat → Int) : kbend v 1 = bits .xor .u64 (v 1) (bits .and .u64 (bits .xor .u64 18446744073709551615 (v 2)) (v 3)) := by unfold kbend; simp only [Nat.reduceDiv, Nat.reduceMul, Nat.reduceAdd, Nat.reduceMod]
theorem kr1 (s : Nat → Int) (k : Nat) : kround k s 1 = kbend (kmove (kmix s)) 1 := if_neg (by decide)
theorem kb2 (v : Nat → Int) : kbend v 2 = bits .xor .u64 (v 2) (bits .and .u64 (bits .xor .u64 18446744073709551615 (v 3)) (v 4)) := by unfold kbend; simp only [Nat.reduceDiv, Nat.reduceMul, Nat.reduceAdd, Nat.reduceMod]
theorem kr2 (s : Nat → Int) (k : Nat) : kround k s 2 = kbend (kmove (kmix s)) 2 := if_neg (by decide)
theorem kb3 (v : Nat → Int) : kbend v 3 = bits .xor .u64 (v 3) (bits .and .u64 (bits .xor .u64 18446744073709551615 (v 4)) (v 0)) := by unfold kbend; simp only [Nat.reduceDiv, Nat.reduceMul, Nat.reduceAdd, Nat.reduceMod]
theorem kr3 (s : Nat → Int) (k : Nat) : kround k s 3 = kbend (kmove (kmix s)) 3 := if_neg (by decide)
theorem kb4 (v : Nat → Int) : kbend v 4 = bits .xor .u64 (v 4) (bits .and .u64 (bits .xor .u64 18446744073709551615 (v 0)) (v 1)) := by unfold kbend; simp only [Nat.reduceDiv, Nat.reduceMul, Nat.reduceAdd, Nat.reduceMod]
theorem kr4 (s : Nat → Int) (k : Nat) : kround k s 4 = kbend (kmove (kmix s)) 4 := if_neg (by decide)
theorem kb5 (v : Nat → Int) : kbend v 5 = bits .xor .u64 (v 5) (bits .and .u64 (bits .xor .u64 18446744073709551615 (v 6)) (v 7)) := by unfold kbend; simp only [Nat.reduceDiv, Nat.reduceMul, Nat.reduceAdd, Nat.reduceMod]
theorem kr5 (s : Nat → Int) (k : Nat) : kround k s 5 = kbend (kmove (kmix s)) 5 := if_neg (by decide)
theorem kb6 (v : Nat → Int) : kbend v 6 = bits .xor .u64 (v 6) (bits .and .u64 (bits .xor .u64 18446744073709551615 (v 7)) (v 8)) := by unfold kbend; simp only [Nat.reduceDiv, Nat.reduceMul, Nat.reduceAdd, Nat.reduceMod]
theorem kr6 (s : Nat → Int) (k : Nat) : kround k s 6 = kbend (kmove (kmix s)) 6 := if_neg (by decide)
theorem kb7 (v : Nat → Int) : kbend v 7 = bits .xor .u64 (v 7) (bits .and .u64 (bits .xor .u64 18446744073709551615 (v 8)) (v 9)) := by unfold kbend; simp only [Nat.reduceDiv, Nat.reduceMul, Nat.reduceAdd, Nat.reduceMod]
theorem kr7 (s : Nat → Int) (k : Nat) : kround k s 7 = kbend (kmove (kmix s)) 7 := if_neg (by decide)
theorem kb8 (v : Nat → Int) : kbend v 8 = bits .xor .u64 (v 8) (bits .and .u64 (bits .xor .u64 18446744073709551615 (v 9)) (v 5)) := by unfold kbend; simp only [Nat.reduceDiv, Nat.reduceMul, Nat.reduceAdd, Nat.reduceMod]
theorem kr8 (s : Nat → Int) (k : Nat) : kround k s 8 = kbend (kmove (kmix s)) 8 := if_neg (by decide)
theorem kb9 (v : Nat → Int) : kbend v 9 = bits .xor .u64 (v 9) (bits .and .u64 (bits .xor .u64 18446744073709551615 (v 5)) (v 6)) := by unfold kbend; simp only [Nat.reduceDiv, Nat.reduceMul, Nat.reduceAdd, Nat.reduceMod]
theorem kr9 (s : Nat → Int) (k : Nat) : kround k s 9 = kbend (kmove (kmix s)) 9 := if_neg (by decide)
theorem kb10 (v : Nat → Int) : kbend v 10 = bits .xor .u64 (v 10) (bits .and .u64 (bits .xor .u64 18446744073709551615 (v 11)) (v 12)) := by unfold kbend; simp only [Nat.reduceDiv, Nat.reduceMul, Nat.reduceAdd, Nat.reduceMod]
theorem kr10 (s : Nat → Int) (k : Nat) : kround k s 10 = kbend (kmove (kmix s)) 10 := if_neg (by decide)
theorem kb11 (v : Nat → Int) : kbend v 11 = bits .xor .u64 (v 11) (bits .and .u64 (bits .xor .u64 18446744073709551615 (v 12)) (v 13)) := by unfold kbend; simp only [Nat.reduceDiv, Nat.reduceMul, Nat.reduceAdd, Nat.reduceMod]
theorem kr11 (s : Nat → Int) (k : Nat) : kround k s 11 = kbend (kmove (kmix s)) 11 := if_neg (by decide)
theorem kb12 (v : Nat → Int) : kbend v 12 = bits .xor .u64 (v 12) (bits .and .u64 (bits .xor .u64 18446744073709551615 (v 13)) (v 14)) := by unfold kbend; simp only [Nat.reduceDiv, Nat.reduceMul, Nat.reduceAdd, Nat.reduceMod]
theorem kr12 (s : Nat → Int) (k : Nat) : kround k s 12 = kbend (kmove (kmix s)) 12 := if_neg (by decide)
theorem kb13 (v : Nat → Int) : kbend v 13 = bits .xor .u64 (v 13) (bits .and .u64 (bits .xor .u64 18446744073709551615 (v 14)) (v 10)) := by unfold kbend; simp only [Nat.reduceDiv, Nat.reduceMul, Nat.reduceAdd, Nat.reduceMod]
theorem kr13 (s : Nat → Int) (k : Nat) : kround k s 13 = kbend (kmove (kmix s)) 13 := if_neg (by decide)
theorem kb14 (v : Nat → Int) : kbend v 14 = bits .xor .u64 (v 14) (bits .and .u64 (bits .xor .u64 18446744073709551615 (v 10)) (v 11)) := by unfold kbend; simp only [Nat.reduceDiv, Nat.reduceMul, Nat.reduceAdd, Nat.reduceMod]
theorem kr14 (s : Nat → Int) (k : Nat) : kround k s 14 = kbend (kmove (kmix s)) 14 := if_neg (by decide)
theorem kb15 (v : Nat → Int) : kbend v 15 = bits .xor .u64 (v 15) (bits .and .u64 (bits .xor .u64 18446744073709551615 (v 16)) (v 17)) := by unfold kbend; simp only [Nat.reduceDiv, Nat.reduceMul, Nat.reduceAdd, Nat.reduceMod]
theorem kr15 (s : Nat → Int) (k : Nat) : kround k s 15 = kbend (kmove (kmix s)) 15 := if_neg (by decide)
theorem kb16 (v : Nat → Int) : kbend v 16 = bits .xor .u64 (v 16) (bits .and .u64 (bits .xor .u64 18446744073709551615 (v 17)) (v 18)) := by unfold kbend; simp only [Nat.reduceDiv, Nat.reduceMul, Nat.reduceAdd, Nat.reduceMod]
theorem kr16 (s : Nat → Int) (k : Nat) : kround k s 16 = kbend (kmove (kmix s)) 16 := if_neg (by decide)
theorem kb17 (v : Nat → Int) : kbend v 17 = bits .xor .u64 (v 17) (bits .and .u64 (bits .xor .u64 18446744073709551615 (v 18)) (v 19)) := by unfold kbend; simp only [Nat.reduceDiv, Nat.reduceMul, Nat.reduceAdd, Nat.reduceMod]
theorem kr17 (s : Nat → Int) (k : Nat) : kround k s 17 = kbend (kmove (kmix s)) 17 := if_neg (by decide)
theorem kb18 (v : Nat → Int) : kbend v 18 = bits .xor .u64 (v 18) (bits .and .u64 (bits .xor .u64 18446744073709551615 (v 19)) (v 15)) := by unfold kbend; simp only [Nat.reduceDiv, Nat.reduceMul, Nat.reduceAdd, Nat.reduceMod]
theorem kr18 (s : Nat → Int) (k : Nat) : kround k s 18 = kbend (kmove (kmix s)) 18 := if_neg (by decide)
theorem kb19 (v : Nat → Int) : kbend v 19 = bits .xor .u64 (v 19) (bits .and .u64 (bits .xor .u64 18446744073709551615 (v 15)) (v 16)) := by unfold kbend; simp only [Nat.reduceDiv, Nat.reduceMul, Nat.reduceAdd, Nat.reduceMod]
theorem kr19 (s : Nat → Int) (k : Nat) : kround k s 19 = kbend (kmove (kmix s)) 19 := if_neg (by decide)
theorem kb20 (v : Nat → Int) : kbend v 20 = bits .xor .u64 (v 20) (bits .and .u64 (bits .xor .u64 18446744073709551615 (v 21)) (v 22)) := by unfold kbend; simp only [Nat.reduceDiv, Nat.reduceMul, Nat.reduceAdd, Nat.reduceMod]
theorem kr20 (s : Nat → Int) (k : Nat) : kround k s 20 = kbend (kmove (kmix s)) 20 := if_neg (by decide)
theorem kb21 (v : Nat → Int) : kbend v 21 = bits .xor .u64 (v 21) (bits .and .u64 (bits .xor .u64 18446744073709551615 (v 22)) (v 23)) := by unfold kbend; simp only [Nat.reduceDiv, Nat.reduceMul, Nat.reduceAdd, Nat.reduceMod]
theorem kr21 (s : Nat → Int) (k : Nat) : kround k s 21 = kbend (kmove (kmix s)) 21 := if_neg (by decide)
theorem kb22 (v : Nat → Int) : kbend v 22 = bits .xor .u64 (v 22) (bits .and .u64 (bits .xor .u64 18446744073709551615 (v 23)) (v 24)) := by unfold kbend; simp only [Nat.reduceDiv, Nat.reduceMul, Nat.reduceAdd, Nat.reduceMod]
theorem kr22 (s : Nat → Int) (k : Nat) : kround k s 22 = kbend (kmove (kmix s)) 22 := if_neg (by decide)
theorem kb23 (v : Nat → Int) : kbend v 23 = bits .xor .u64 (v 23) (bits .and .u64 (bits .xor .u64 18446744073709551615 (v 24)) (v 20)) := by unfold kbend; simp only [Nat.reduceDiv, Nat.reduceMul, Nat.reduceAdd, Nat.reduceMod]
theorem kr23 (s : Nat → Int) (k : Nat) : kround k s 23 = kbend (kmove (kmix s)) 23 := if_neg (by decide)
theorem kb24 (v : Nat → Int) : kbend v 24 = bits .xor .u64 (v 24) (bits .and .u64 (bits .xor .u64 18446744073709551615 (v 20)) (v 21)) := by unfold kbend; simp only [Nat.reduceDiv, Nat.reduceMul, Nat.reduceAdd, Nat.reduceMod]
theorem kr24 (s : Nat → Int) (k : Nat) : kround k s 24 = kbend (kmove (kmix s)) 24 := if_neg (by decide)
/-- Lane by lane. -/
def Rs (s : Nat → Int) (S : St) : Prop := ∀ i, i < 25 → R (s i) (S.get i)
theorem Rs_force {s : Nat → Int} {n : Nat} {f : Nat → St} {x : Int} (hx : R x n) (h : ∀ y, R x y → Rs s (f y)) : Rs s (force n f) := by
  rw [force_eq]
  exact h n hx

set_option maxRecDepth 100000 in
set_option maxHeartbeats 4000000 in
theorem Rs_round {s : Nat → Int} {S : St} (h : Rs s S) (k : Nat) (rc : Nat) (hrc : R (conN k) rc) : Rs (kround k s) (nround rc S) := by
  obtain ⟨a0, a1, a2, a3, a4, a5, a6, a7, a8, a9, a10, a11, a12, a13, a14, a15, a16, a17, a18, a19, a20, a21, a22, a23, a24⟩ := S
  unfold nround
  have h0 : R (s 0) a0 := h 0 (by omega)
  have h1 : R (s 1) a1 := h 1 (by omega)
  have h2 : R (s 2) a2 := h 2 (by omega)
  have h3 : R (s 3) a3 := h 3 (by omega)
  have h4 : R (s 4) a4 := h 4 (by omega)
  have h5 : R (s 5) a5 := h 5 (by omega)
  have h6 : R (s 6) a6 := h 6 (by omega)
  have h7 : R (s 7) a7 := h 7 (by omega)
  have h8 : R (s 8) a8 := h 8 (by omega)
  have h9 : R (s 9) a9 := h 9 (by omega)
  have h10 : R (s 10) a10 := h 10 (by omega)
  have h11 : R (s 11) a11 := h 11 (by omega)
  have h12 : R (s 12) a12 := h 12 (by omega)
  have h13 : R (s 13) a13 := h 13 (by omega)
  have h14 : R (s 14) a14 := h 14 (by omega)
  have h15 : R (s 15) a15 := h 15 (by omega)
  have h16 : R (s 16) a16 := h 16 (by omega)
  have h17 : R (s 17) a17 := h 17 (by omega)
  have h18 : R (s 18) a18 := h 18 (by omega)
  have h19 : R (s 19) a19 := h 19 (by omega)
  have h20 : R (s 20) a20 := h 20 (by omega)
  have h21 : R (s 21) a21 := h 21 (by omega)
  have h22 : R (s 22) a22 := h 22 (by omega)
  have h23 : R (s 23) a23 := h 23 (by omega)
  have h24 : R (s 24) a24 := h 24 (by omega)
  clear h
  refine Rs_force (R_col0 (s := s) h0 h5 h10 h15 h20) fun y0 c0 => ?_
  refine Rs_force (R_col1 (s := s) h1 h6 h11 h16 h21) fun y1 c1 => ?_
  refine Rs_force (R_col2 (s := s) h2 h7 h12 h17 h22) fun y2 c2 => ?_
  refine Rs_force (R_col3 (s := s) h3 h8 h13 h18 h23) fun y3 c3 => ?_
  refine Rs_force (R_col4 (s := s) h4 h9 h14 h19 h24) fun y4 c4 => ?_
  refine Rs_force (R_xor c4 (R_rot c1 (n := 1) (by omega))) fun z0 d0 => ?_
  refine Rs_force (R_xor c0 (R_rot c2 (n := 1) (by omega))) fun z1 d1 => ?_
  refine Rs_force (R_xor c1 (R_rot c3 (n := 1) (by omega))) fun z2 d2 => ?_
  refine Rs_force (R_xor c2 (R_rot c4 (n := 1) (by omega))) fun z3 d3 => ?_
  refine Rs_force (R_xor c3 (R_rot c0 (n := 1) (by omega))) fun z4 d4 => ?_
  clear c0 c1 c2 c3 c4
  refine Rs_force (x := kmove (kmix s) 0) (by rw [mv0]; exact R_rot (R_xor h0 d0) (n := 0) (by omega)) fun u0 v0 => ?_
  refine Rs_force (x := kmove (kmix s) 1) (by rw [mv1]; exact R_rot (R_xor h6 d1) (n := 44) (by omega)) fun u1 v1 => ?_
  refine Rs_force (x := kmove (kmix s) 2) (by rw [mv2]; exact R_rot (R_xor h12 d2) (n := 43) (by omega)) fun u2 v2 => ?_
  refine Rs_force (x := kmove (kmix s) 3) (by rw [mv3]; exact R_rot (R_xor h18 d3) (n := 21) (by omega)) fun u3 v3 => ?_
  refine Rs_force (x := kmove (kmix s) 4) (by rw [mv4]; exact R_rot (R_xor h24 d4) (n := 14) (by omega)) fun u4 v4 => ?_
  refine Rs_force (x := kmove (kmix s) 5) (by rw [mv5]; exact R_rot (R_xor h3 d3) (n := 28) (by omega)) fun u5 v5 => ?_
  refine Rs_force (x := kmove (kmix s) 6) (by rw [mv6]; exact R_rot (R_xor h9 d4) (n := 20) (by omega)) fun u6 v6 => ?_
  refine Rs_force (x := kmove (kmix s) 7) (by rw [mv7]; exact R_rot (R_xor h10 d0) (n := 3) (by omega)) fun u7 v7 => ?_
  refine Rs_force (x := kmove (kmix s) 8) (by rw [mv8]; exact R_rot (R_xor h16 d1) (n := 45) (by omega)) fun u8 v8 => ?_
  refine Rs_force (x := kmove (kmix s) 9) (by rw [mv9]; exact R_rot (R_xor h22 d2) (n := 61) (by omega)) fun u9 v9 => ?_
  refine Rs_force (x := kmove (kmix s) 10) (by rw [mv10]; exact R_rot (R_xor h1 d1) (n := 1) (by omega)) fun u10 v10 => ?_
  refine Rs_force (x := kmove (kmix s) 11) (by rw [mv11]; exact R_rot (R_xor h7 d2) (n := 6) (by omega)) fun u11 v11 => ?_
  refine Rs_force (x := kmove (kmix s) 12) (by rw [mv12]; exact R_rot (R_xor h13 d3) (n := 25) (by omega)) fun u12 v12 => ?_
  refine Rs_force (x := kmove (kmix s) 13) (by rw [mv13]; exact R_rot (R_xor h19 d4) (n := 8) (by omega)) fun u13 v13 => ?_
  refine Rs_force (x := kmove (kmix s) 14) (by rw [mv14]; exact R_rot (R_xor h20 d0) (n := 18) (by omega)) fun u14 v14 => ?_
  refine Rs_force (x := kmove (kmix s) 15) (by rw [mv15]; exact R_rot (R_xor h4 d4) (n := 27) (by omega)) fun u15 v15 => ?_
  refine Rs_force (x := kmove (kmix s) 16) (by rw [mv16]; exact R_rot (R_xor h5 d0) (n := 36) (by omega)) fun u16 v16 => ?_
  refine Rs_force (x := kmove (kmix s) 17) (by rw [mv17]; exact R_rot (R_xor h11 d1) (n := 10) (by omega)) fun u17 v17 => ?_
  refine Rs_force (x := kmove (kmix s) 18) (by rw [mv18]; exact R_rot (R_xor h17 d2) (n := 15) (by omega)) fun u18 v18 => ?_
  refine Rs_force (x := kmove (kmix s) 19) (by rw [mv19]; exact R_rot (R_xor h23 d3) (n := 56) (by omega)) fun u19 v19 => ?_
  refine Rs_force (x := kmove (kmix s) 20) (by rw [mv20]; exact R_rot (R_xor h2 d2) (n := 62) (by omega)) fun u20 v20 => ?_
  refine Rs_force (x := kmove (kmix s) 21) (by rw [mv21]; exact R_rot (R_xor h8 d3) (n := 55) (by omega)) fun u21 v21 => ?_
  refine Rs_force (x := kmove (kmix s) 22) (by rw [mv22]; exact R_rot (R_xor h14 d4) (n := 39) (by omega)) fun u22 v22 => ?_
  refine Rs_force (x := kmove (kmix s) 23) (by rw [mv23]; exact R_rot (R_xor h15 d0) (n := 41) (by omega)) fun u23 v23 => ?_
  refine Rs_force (x := kmove (kmix s) 24) (by rw [mv24]; exact R_rot (R_xor h21 d1) (n := 2) (by omega)) fun u24 v24 => ?_
  clear h0 h1 h2 h3 h4 h5 h6 h7 h8 h9 h10 h11 h12 h13 h14 h15 h16 h17 h18 h19 h20 h21 h22 h23 h24 d0 d1 d2 d3 d4
  refine Rs_force (x := kround k s 0) (by rw [kr0, kb0]; exact R_xor (R_xor v0 (R_and (R_xor R_all v1) v2)) hrc) fun o0 w0 => ?_
  refine Rs_force (x := kround k s 1) (by rw [kr1, kb1]; exact R_xor v1 (R_and (R_xor R_all v2) v3)) fun o1 w1 => ?_
  refine Rs_force (x := kround k s 2) (by rw [kr2, kb2]; exact R_xor v2 (R_and (R_xor R_all v3) v4)) fun o2 w2 => ?_
  refine Rs_force (x := kround k s 3) (by rw [kr3, kb3]; exact R_xor v3 (R_and (R_xor R_all v4) v0)) fun o3 w3 => ?_
  refine Rs_force (x := kround k s 4) (by rw [kr4, kb4]; exact R_xor v4 (R_and (R_xor R_all v0) v1)) fun o4 w4 => ?_
  refine Rs_force (x := kround k s 5) (by rw [kr5, kb5]; exact R_xor v5 (R_and (R_xor R_all v6) v7)) fun o5 w5 => ?_
  refine Rs_force (x := kround k s 6) (by rw [kr6, kb6]; exact R_xor v6 (R_and (R_xor R_all v7) v8)) fun o6 w6 => ?_
  refine Rs_force (x := kround k s 7) (by rw [kr7, kb7]; exact R_xor v7 (R_and (R_xor R_all v8) v9)) fun o7 w7 => ?_
  refine Rs_force (x := kround k s 8) (by rw [kr8, kb8]; exact R_xor v8 (R_and (R_xor R_all v9) v5)) fun o8 w8 => ?_
  refine Rs_force (x := kround k s 9) (by rw [kr9, kb9]; exact R_xor v9 (R_and (R_xor R_all v5) v6)) fun o9 w9 => ?_
  refine Rs_force (x := kround k s 10) (by rw [kr10, kb10]; exact R_xor v10 (R_and (R_xor R_all v11) v12)) fun o10 w10 => ?_
  refine Rs_force (x := kround k s 11) (by rw [kr11, kb11]; exact R_xor v11 (R_and (R_xor R_all v12) v13)) fun o11 w11 => ?_
  refine Rs_force (x := kround k s 12) (by rw [kr12, kb12]; exact R_xor v12 (R_and (R_xor R_all v13) v14)) fun o12 w12 => ?_
  refine Rs_force (x := kround k s 13) (by rw [kr13, kb13]; exact R_xor v13 (R_and (R_xor R_all v14) v10)) fun o13 w13 => ?_
  refine Rs_force (x := kround k s 14) (by rw [kr14, kb14]; exact R_xor v14 (R_and (R_xor R_all v10) v11)) fun o14 w14 => ?_
  refine Rs_force (x := kround k s 15) (by rw [kr15, kb15]; exact R_xor v15 (R_and (R_xor R_all v16) v17)) fun o15 w15 => ?_
  refine Rs_force (x := kround k s 16) (by rw [kr16, kb16]; exact R_xor v16 (R_and (R_xor R_all v17) v18)) fun o16 w16 => ?_
  refine Rs_force (x := kround k s 17) (by rw [kr17, kb17]; exact R_xor v17 (R_and (R_xor R_all v18) v19)) fun o17 w17 => ?_
  refine Rs_force (x := kround k s 18) (by rw [kr18, kb18]; exact R_xor v18 (R_and (R_xor R_all v19) v15)) fun o18 w18 => ?_
  refine Rs_force (x := kround k s 19) (by rw [kr19, kb19]; exact R_xor v19 (R_and (R_xor R_all v15) v16)) fun o19 w19 => ?_
  refine Rs_force (x := kround k s 20) (by rw [kr20, kb20]; exact R_xor v20 (R_and (R_xor R_all v21) v22)) fun o20 w20 => ?_
  refine Rs_force (x := kround k s 21) (by rw [kr21, kb21]; exact R_xor v21 (R_and (R_xor R_all v22) v23)) fun o21 w21 => ?_
  refine Rs_force (x := kround k s 22) (by rw [kr22, kb22]; exact R_xor v22 (R_and (R_xor R_all v23) v24)) fun o22 w22 => ?_
  refine Rs_force (x := kround k s 23) (by rw [kr23, kb23]; exact R_xor v23 (R_and (R_xor R_all v24) v20)) fun o23 w23 => ?_
  refine Rs_force (x := kround k s 24) (by rw [kr24, kb24]; exact R_xor v24 (R_and (R_xor R_all v20) v21)) fun o24 w24 => ?_
  clear v0 v1 v2 v3 v4 v5 v6 v7 v8 v9 v10 v11 v12 v13 v14 v15 v16 v17 v18 v19 v20 v21 v22 v23 v24
  intro i hi
  rcases (by omega : i = 0 ∨ i = 1 ∨ i = 2 ∨ i = 3 ∨ i = 4 ∨ i = 5 ∨ i = 6 ∨ i = 7 ∨ i = 8 ∨ i = 9 ∨ i = 10 ∨ i = 11 ∨ i = 12 ∨ i = 13 ∨ i = 14 ∨ i = 15 ∨ i = 16 ∨ i = 17 ∨ i = 18 ∨ i = 19 ∨ i = 20 ∨ i = 21 ∨ i = 22 ∨ i = 23 ∨ i = 24) with rfl | rfl | rfl | rfl | rfl | rfl | rfl | rfl | rfl | rfl | rfl | rfl | rfl | rfl | rfl | rfl | rfl | rfl | rfl | rfl | rfl | rfl | rfl | rfl | rfl
  · exact w0
  · exact w1
  · exact w2
  · exact w3
  · exact w4
  · exact w5
  · exact w6
  · exact w7
  · exact w8
  · exact w9
  · exact w10
  · exact w11
  · exact w12
  · exact w13
  · exact w14
  · exact w15
  · exact w16
  · exact w17
  · exact w18
  · exact w19
  · exact w20
  · exact w21
  · exact w22
  · exact w23
  · exact w24
theorem R_con : ∀ k, k < 12 → R (conN k) ([2147516555, 9223372036854775947, 9223372036854808713, 9223372036854808579, 9223372036854808578, 9223372036854775936, 32778, 9223372039002259466, 9223372039002292353, 9223372036854808704, 2147483649, 9223372039002292232].getD k 0) := by
  intro k hk
  rcases (by omega : k = 0 ∨ k = 1 ∨ k = 2 ∨ k = 3 ∨ k = 4 ∨ k = 5 ∨ k = 6 ∨ k = 7 ∨ k = 8 ∨ k = 9 ∨ k = 10 ∨ k = 11) with rfl | rfl | rfl | rfl | rfl | rfl | rfl | rfl | rfl | rfl | rfl | rfl <;> exact ⟨rfl, by decide⟩
theorem Rs_perm {s : Nat → Int} {S : St} (h : Rs s S) : Rs (kperm 12 s) (nperm S) :=
  Rs_round (Rs_round (Rs_round (Rs_round (Rs_round (Rs_round (Rs_round (Rs_round (Rs_round (Rs_round (Rs_round (Rs_round (h) 0 2147516555 (R_con 0 (by omega))) 1 9223372036854775947 (R_con 1 (by omega))) 2 9223372036854808713 (R_con 2 (by omega))) 3 9223372036854808579 (R_con 3 (by omega))) 4 9223372036854808578 (R_con 4 (by omega))) 5 9223372036854775936 (R_con 5 (by omega))) 6 32778 (R_con 6 (by omega))) 7 9223372039002259466 (R_con 7 (by omega))) 8 9223372039002292353 (R_con 8 (by omega))) 9 9223372036854808704 (R_con 9 (by omega))) 10 2147483649 (R_con 10 (by omega))) 11 9223372039002292232 (R_con 11 (by omega))
/-- Nothing but noughts. -/
def nought : St := ⟨0, 0, 0, 0, 0, 0, 0, 0, 0, 0, 0, 0, 0, 0, 0, 0, 0, 0, 0, 0, 0, 0, 0, 0, 0⟩
theorem Rs_nought : Rs (fun _ => 0) nought := by
  intro i hi
  have e : nought.get i = 0 := by
    unfold St.get nought St.list
    rcases (by omega : i = 0 ∨ i = 1 ∨ i = 2 ∨ i = 3 ∨ i = 4 ∨ i = 5 ∨ i = 6 ∨ i = 7 ∨ i = 8 ∨ i = 9 ∨ i = 10 ∨ i = 11 ∨ i = 12 ∨ i = 13 ∨ i = 14 ∨ i = 15 ∨ i = 16 ∨ i = 17 ∨ i = 18 ∨ i = 19 ∨ i = 20 ∨ i = 21 ∨ i = 22 ∨ i = 23 ∨ i = 24) with rfl | rfl | rfl | rfl | rfl | rfl | rfl | rfl | rfl | rfl | rfl | rfl | rfl | rfl | rfl | rfl | rfl | rfl | rfl | rfl | rfl | rfl | rfl | rfl | rfl <;> rfl
  rw [e]
  exact ⟨rfl, by decide⟩
theorem nought_wakes : ((nperm nought).get 0 == 0) = false := by kernel_rfl
/-- The permuted noughts are no noughts. -/
theorem kperm_nought : kperm 12 (fun _ => 0) 0 ≠ 0 := by
  intro h
  have h1 := (Rs_perm Rs_nought) 0 (by omega)
  have h2 := h1.1
  rw [h] at h2
  have h3 := nought_wakes
  have h4 : (nperm nought).get 0 = 0 := by omega
  rw [h4] at h3
  cases h3
end Go.Proofs.Ytnajihlhcdedgaa
