/-
  quant's Vec: what it answers of a slice of doubles.
-/
import Derived.Test.YtbpmgdneiejhoaaQS
import Derived.Test.YtbpmgdneiejhoaaOwn
namespace Go.Proofs.Ytbpmgdneiejhoaa
open Go.RowKit
set_option linter.unusedVariables false
set_option linter.unusedSimpArgs false
attribute [local go_sem] run_store_float

/-- A slice that came in reads as the doubles X 0, .. -/
structure SlF (w : World) (a : Option Addr) (n cap : Nat) (X : Nat → Nat) : Prop where
  at' : ∀ j, j < n → ∃ p, (∀ w', (Instr.indexAt 29 (.slice a n cap) (.int .i64 (j : Int))).run Try.prog w' = .ok (.pointer (some p)) w') ∧ w.cell? p = some (.float .f64 (X j))

theorem SlF.kept {w w' : World} {a : Option Addr} {n cap : Nat} {X : Nat → Nat} (h : SlF w a n cap X) (hk : Kept w w') : SlF w' a n cap X :=
  ⟨fun j hj => let ⟨p, h1, h2⟩ := h.at' j hj; ⟨p, h1, hk.cell h2⟩⟩

set_option maxRecDepth 100000 in
set_option maxHeartbeats 4000000 in
theorem vec_many (low step : Nat) (steps : Int) (a : Option Addr) (n cap : Nat) (hn : 64 < n) (hm : (n : Int) ≤ 9223372036854775807) : Pure Try.prog 9 #[.agg #[.float .f64 low, .float .f64 step, .int .u32 steps], .slice a n cap] (.tuple #[.slice none 0 0, .int .i64 5]) := fun w => by
  go_enter Try.func9, Try.ntmps9
  go_wp2_with fail
  go_ret2
  exact ⟨rfl, (Kept.refl w).alloc _⟩

/-- The answers: each, or the first that is none. -/
def vecGood (w : World) (base n : Nat) (vf : Nat → Int) (v : Value) : Prop := w.ownsRow base 23 1 v n ((List.range n).map fun j => Value.int .u32 (vf j))

set_option maxRecDepth 100000 in
set_option maxHeartbeats 4000000 in
theorem vec_bad (low step : Nat) (steps : Int) (a : Option Addr) (n cap : Nat) (X : Nat → Nat) (vf cf : Nat → Int) (k : Nat) (w : World) (hn : n ≤ 64) (hS : SlF w a n cap X)
    (HW : Hid (∀ j, j < n → Pure Try.prog 13 #[.agg #[.float .f64 low, .float .f64 step, .int .u32 steps], .float .f64 (X j)] (.tuple #[.int .u32 (vf j), .int .i64 (cf j)])))
    (hk : k < n) (hgood : Hid (∀ j, j < k → (cf j != 0) = false)) (hbad : Hid ((cf k != 0) = true)) :
    Calls Try.prog 9 #[.agg #[.float .f64 low, .float .f64 step, .int .u32 steps], .slice a n cap] w fun e w' => e = .returned (.tuple #[.slice none 0 0, .int .i64 (cf k)]) ∧ Kept w w' := by
  go_enter Try.func9, Try.ntmps9
  go_wp2_with fail
  refine abs_world (fun W => Kept w W ∧ Blk W w.heap.size 25 #[.float .f64 low, .float .f64 step, .int .u32 steps]) ?_ ?_
  · exact ⟨(Kept.refl w).alloc _, Blk.new _ _ _⟩
  rintro W1 ⟨kW1, B1⟩
  go_loopw [6, 16] (fun v t wr => ∃ j : Nat, j ≤ k ∧ t = .int .i64 j ∧ Kept w wr ∧ Blk wr w.heap.size 25 #[.float .f64 low, .float .f64 step, .int .u32 steps] ∧ wr.ownsRow (w.heap.size + 1) 23 1 v j ((List.range j).map fun i => Value.int .u32 (vf i))) (fun _ t _ => k + 1 - (intOf t).toNat)
  case atStart => exact ⟨0, Nat.zero_le _, rfl, kW1, B1, World.ownsRow_nil _ _ _ _⟩
  case round =>
    obtain ⟨j, hj, rfl, kwr, B, hown⟩ := hrel
    clear kW1 B1
    obtain ⟨p, hix, hp⟩ := (hS.kept kwr).at' j (by omega)
    have hjn : (j : Int) < (n : Int) := by omega
    have hj0 : (0 : Int) ≤ (j : Int) := by omega
    have c0 := B.cell 0 rfl
    have c1 := B.cell 1 rfl
    have c2 := B.cell 2 rfl
    have hcall := HW.out j (by omega)
    generalize X j = x at hp hcall
    have HCall := Lib.hid hcall
    clear hcall
    rcases Nat.lt_or_ge j k with hlt | hge
    · have hz := hgood.out j hlt
      go_wp2_with fail
      refine (HCall.out _).mono ?_
      rintro e W2 ⟨rfl, hk2⟩
      have k2 := kwr.trans hk2
      have B2 := B.kept hk2
      have hown2 := ownsRow_kept hown hk2
      have hbase : w.heap.size + 1 ≤ W2.heap.size := by have := B2.lt; omega
      clear hk2 kwr B hown c0 c1 c2 hp
      have HZ := Lib.hid hz
      clear hz
      generalize hv : vf j = v at *
      have HV := Lib.hid hv
      clear hv
      have hz := HZ.out
      generalize cf j = c at hz
      go_wp2_with (at_builtin; refine wpList_append_one 33 23 info23 Try.underlying33 rfl (by decide) hown2 [.int .u32 v] rfl (by intro u hu; simp at hu; subst hu; rfl) (by omega) (by decide) hbase (.tmp 29) (.tmp 31) rfl rfl rfl rfl ?_; intro v' w1 hown3 hgrow hne)
      have kw1 := grown_kept k2 hown2 hgrow (by omega)
      have Bw1 := grown_blk B2 hown2 hgrow (by omega)
      clear hown2 hgrow hbase B2 k2
      go_wp2_with fail
      go_roundw
      case rel => exact ⟨j + 1, by omega, by go_num, kw1, Bw1, by rw [List.range_succ, List.map_append, List.map_singleton, HV.out]; exact hown3⟩
      case measure => simp [intOf]; omega
    · have hjk : j = k := by omega
      subst hjk
      have hz := hbad.out
      generalize hc : cf j = c at *
      have HC := Lib.hid hc
      clear hc
      go_wp2_with fail
      refine (HCall.out _).mono ?_
      rintro e W2 ⟨rfl, hk2⟩
      have k2 := kwr.trans hk2
      clear hk2 kwr B hown c0 c1 c2 hp
      go_wp2_with fail
      go_ret2
      exact ⟨by rw [HC.out]; rfl, k2⟩
set_option maxRecDepth 100000 in
set_option maxHeartbeats 4000000 in
theorem vec_good (low step : Nat) (steps : Int) (a : Option Addr) (n cap : Nat) (X : Nat → Nat) (vf cf : Nat → Int) (w : World) (hn : n ≤ 64) (hS : SlF w a n cap X)
    (HW : Hid (∀ j, j < n → Pure Try.prog 13 #[.agg #[.float .f64 low, .float .f64 step, .int .u32 steps], .float .f64 (X j)] (.tuple #[.int .u32 (vf j), .int .i64 (cf j)])))
    (hgood : Hid (∀ j, j < n → (cf j != 0) = false)) :
    Calls Try.prog 9 #[.agg #[.float .f64 low, .float .f64 step, .int .u32 steps], .slice a n cap] w fun e w' => ∃ v, e = .returned (.tuple #[v, .int .i64 0]) ∧ vecGood w' (w.heap.size + 1) n vf v ∧ Kept w w' := by
  go_enter Try.func9, Try.ntmps9
  go_wp2_with fail
  refine abs_world (fun W => Kept w W ∧ Blk W w.heap.size 25 #[.float .f64 low, .float .f64 step, .int .u32 steps]) ?_ ?_
  · exact ⟨(Kept.refl w).alloc _, Blk.new _ _ _⟩
  rintro W1 ⟨kW1, B1⟩
  go_loopw [6, 16] (fun v t wr => ∃ j : Nat, j ≤ n ∧ t = .int .i64 j ∧ Kept w wr ∧ Blk wr w.heap.size 25 #[.float .f64 low, .float .f64 step, .int .u32 steps] ∧ wr.ownsRow (w.heap.size + 1) 23 1 v j ((List.range j).map fun i => Value.int .u32 (vf i))) (fun _ t _ => n - (intOf t).toNat)
  case atStart => exact ⟨0, Nat.zero_le _, rfl, kW1, B1, World.ownsRow_nil _ _ _ _⟩
  case round =>
    obtain ⟨j, hj, rfl, kwr, B, hown⟩ := hrel
    clear kW1 B1
    have hj0 : (0 : Int) ≤ (j : Int) := by omega
    have c0 := B.cell 0 rfl
    have c1 := B.cell 1 rfl
    have c2 := B.cell 2 rfl
    rcases Nat.lt_or_ge j n with hlt | hge
    · obtain ⟨p, hix, hp⟩ := (hS.kept kwr).at' j hlt
      have hjn : (j : Int) < (n : Int) := by omega
      have hcall := HW.out j hlt
      generalize X j = x at hp hcall
      have HCall := Lib.hid hcall
      clear hcall
      have hz := hgood.out j hlt
      go_wp2_with fail
      refine (HCall.out _).mono ?_
      rintro e W2 ⟨rfl, hk2⟩
      have k2 := kwr.trans hk2
      have B2 := B.kept hk2
      have hown2 := ownsRow_kept hown hk2
      have hbase : w.heap.size + 1 ≤ W2.heap.size := by have := B2.lt; omega
      clear hk2 kwr B hown c0 c1 c2 hp
      have HZ := Lib.hid hz
      clear hz
      generalize hv : vf j = v at *
      have HV := Lib.hid hv
      clear hv
      have hz := HZ.out
      generalize cf j = c at hz
      go_wp2_with (at_builtin; refine wpList_append_one 33 23 info23 Try.underlying33 rfl (by decide) hown2 [.int .u32 v] rfl (by intro u hu; simp at hu; subst hu; rfl) (by omega) (by decide) hbase (.tmp 29) (.tmp 31) rfl rfl rfl rfl ?_; intro v' w1 hown3 hgrow hne)
      have kw1 := grown_kept k2 hown2 hgrow (by omega)
      have Bw1 := grown_blk B2 hown2 hgrow (by omega)
      clear hown2 hgrow hbase B2 k2
      go_wp2_with fail
      go_roundw
      case rel => exact ⟨j + 1, by omega, by go_num, kw1, Bw1, by rw [List.range_succ, List.map_append, List.map_singleton, HV.out]; exact hown3⟩
      case measure => simp [intOf]; omega
    · have hjn : j = n := by omega
      have HJ := Lib.hid hjn
      have hge2 : (n : Int) ≤ (j : Int) := by omega
      clear hjn c0 c1 c2 B
      go_wp2_with fail
      go_ret2
      exact ⟨_, rfl, by unfold vecGood; rw [← HJ.out]; exact hown, kwr⟩
end Go.Proofs.Ytbpmgdneiejhoaa
