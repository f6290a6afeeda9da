/-
  Hash.
-/
import Derived.Test.YtnajihlhcdedgaaK13
namespace Go.Proofs.Ytnajihlhcdedgaa
open Go.RowKit
set_option linter.unusedVariables false
set_option linter.unusedSimpArgs false

/-- The lanes when n bytes are in, and the end. -/
def hashS (C : Nat → Int) (n : Nat) (d : Int) : Nat → Int := kend (takes C (fun _ => 0) 0 n).1 (takes C (fun _ => 0) 0 n).2 d
/-- What Hash answers. -/
def hashV (C : Nat → Int) (n : Nat) (d : Int) (many : Nat) : List Value := outsV (hashS C n d) 0 many
theorem hashV_length (C : Nat → Int) (n : Nat) (d : Int) (many : Nat) : (hashV C n d many).length = many := by simp [hashV, outsV]
/-- A nil slice. -/
theorem SlB.nil (w : World) (N : Nat) (C : Nat → Int) : SlB w none 0 0 N C := ⟨fun j hj => absurd hj (by omega), fun j hj => absurd hj (by omega)⟩

set_option maxRecDepth 100000 in
set_option maxHeartbeats 4000000 in
theorem k_Hash (w : World) (d : Int) (h1 : 1 ≤ d) (h2 : d ≤ 127) (sl : Option Addr) (n cap N : Nat) (C : Nat → Int) (hn : (n : Int) ≤ 9223372036854775807) (hS : SlB w sl n cap N C) (hN : N ≤ w.heap.size) (many : Nat) (hm : many ≤ 65536) :
    Calls Try.prog 63 #[.int .u8 d, .slice sl n cap, .int .i64 (many : Int)] w fun e w' => ∃ v, e = .returned v ∧ Kept w w' ∧ w'.ownsRow w.heap.size 5 1 v many (hashV C n d many) := by
  go_enter Try.func63, Try.ntmps63
  go_wp2_with fail
  refine (k_New _ d h1 h2).mono ?_
  rintro e W1 ⟨b, rfl, hb, B1, k1⟩
  go_wp2_with fail
  refine (k_Write _ b _ 0 d 0 (by omega) sl n cap N C hn (hS.kept k1) (by omega) B1).mono ?_
  rintro e W2 ⟨rfl, k2, B2⟩
  have k3 := k2.kept k1 hb
  clear k1 k2 B1
  go_wp2_with fail
  refine (k_End_le _ b _ d _ (takes_le C _ (by omega) n) many hm (by omega) (by omega) B2).mono ?_
  rintro e W3 ⟨v, rfl, k4, B4, hown⟩
  have k5 := k4.kept k3 hb
  have hs := k3.size
  clear k3 k4 B2 B4
  go_wp2_with fail
  go_ret
  exact ⟨_, rfl, k5, ownsRow_base hown hs⟩
end Go.Proofs.Ytnajihlhcdedgaa
