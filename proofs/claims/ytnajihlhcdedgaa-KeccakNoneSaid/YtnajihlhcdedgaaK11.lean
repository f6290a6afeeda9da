/-
  The sponge: Write.
-/
import Derived.Test.YtnajihlhcdedgaaK10
import Derived.Test.YtnajihlhcdedgaaOwn
namespace Go.Proofs.Ytnajihlhcdedgaa
open Go.RowKit
set_option linter.unusedVariables false
set_option linter.unusedSimpArgs false

/-- A slice whose cells lie in blocks below N reads as the bytes C 0, .. -/
structure SlB (w : World) (a : Option Addr) (n cap N : Nat) (C : Nat → Int) : Prop where
  at' : ∀ j, j < n → ∃ p : Addr, (∀ w', (Instr.indexAt 42 (.slice a n cap) (.int .i64 (j : Int))).run Try.prog w' = .ok (.pointer (some p)) w') ∧ w.cell? p = some (.int .u8 (C j)) ∧ p.block < N
  byte : ∀ j, j < n → 0 ≤ C j ∧ C j ≤ 255
theorem Touch.cell {b : Nat} {w w' : World} (k : Touch b w w') {p : Addr} {v : Value} (h : w.cell? p = some v) (hb : p.block ≠ b) : w'.cell? p = some v := by
  have hlt := block_lt_of_cell h
  unfold World.cell? at h ⊢
  rw [k.block p.block hlt hb]
  exact h
theorem SlB.touch {w w' : World} {a : Option Addr} {n cap N b : Nat} {C : Nat → Int} (h : SlB w a n cap N C) (hb : N ≤ b) (k : Touch b w w') : SlB w' a n cap N C :=
  ⟨fun j hj => let ⟨p, h1, h2, h3⟩ := h.at' j hj; ⟨p, h1, k.cell h2 (by omega), h3⟩, h.byte⟩
theorem SlB.kept {w w' : World} {a : Option Addr} {n cap N : Nat} {C : Nat → Int} (h : SlB w a n cap N C) (k : Kept w w') : SlB w' a n cap N C :=
  ⟨fun j hj => let ⟨p, h1, h2, h3⟩ := h.at' j hj; ⟨p, h1, k.cell h2, h3⟩, h.byte⟩

/-- A full block is permuted before more comes. -/
def norm (s : Nat → Int) (a : Nat) : Nat → Int := if a = 168 then kperm 12 s else s
def normA (a : Nat) : Nat := if a = 168 then 0 else a
/-- The lanes, and the place, when i bytes are in. -/
def takes (C : Nat → Int) (s : Nat → Int) (a : Nat) : Nat → (Nat → Int) × Nat
  | 0 => (s, a)
  | i + 1 => (kflip (norm (takes C s a i).1 (takes C s a i).2) (normA (takes C s a i).2) (C i), normA (takes C s a i).2 + 1)
theorem takes_le (C : Nat → Int) (s : Nat → Int) {a : Nat} (ha : a ≤ 168) : ∀ i, (takes C s a i).2 ≤ 168
  | 0 => ha
  | i + 1 => by
    have := takes_le C s ha i
    simp only [takes, normA]
    split <;> omega

set_option maxRecDepth 100000 in
set_option maxHeartbeats 4000000 in
/-- Of nobody, or of one who gives. -/
theorem k_Write_nil (a : Option Addr) (n cap : Nat) : Pure Try.prog 65 #[.pointer none, .slice a n cap] (.tuple #[]) := fun w => by
  go_enter Try.func65, Try.ntmps65
  go_wp2_with fail
  refine bodyPost_ret (v := .tuple #[]) (by simp [results, Try.results65, go_sem]) rfl ⟨rfl, Kept.refl w⟩

set_option maxRecDepth 100000 in
set_option maxHeartbeats 4000000 in
theorem k_Write (w : World) (b : Nat) (s : Nat → Int) (a d : Int) (p : Nat) (hp : p ≤ 168) (sl : Option Addr) (n cap N : Nat) (C : Nat → Int) (hn : (n : Int) ≤ 9223372036854775807) (hS : SlB w sl n cap N C) (hN : N ≤ b) (hB : Sp w b s p d false) :
    Calls Try.prog 65 #[.pointer (some ⟨b, 0, none⟩), .slice sl n cap] w fun e w' => e = .returned (.tuple #[]) ∧ Touch b w w' ∧ Sp w' b (takes C s p n).1 (takes C s p n).2 d false := by
  have c0 := hB.sgive
  go_enter Try.func65, Try.ntmps65
  go_wp2_with fail
  clear c0
  go_loopw [16] (fun t' wr => ∃ i : Nat, i ≤ n ∧ t' = .int .i64 i ∧ Touch b w wr ∧ Sp wr b (takes C s p i).1 (takes C s p i).2 d false) (fun t' _ => n - (intOf t').toNat)
  case atStart => exact ⟨0, Nat.zero_le _, rfl, Touch.refl _ _, hB⟩
  case round =>
    obtain ⟨i, hi, rfl, k, B⟩ := hrel
    have zi : (0 : Int) ≤ (i : Int) := by omega
    rcases Nat.lt_or_ge i n with hlt | hge
    · have yi : (i : Int) < (n : Int) := by omega
      obtain ⟨q, hix, hq, hqN⟩ := (hS.touch hN k).at' i hlt
      obtain ⟨c0, c1⟩ := hS.byte i hlt
      have hple := takes_le C s hp i
      have HV : Hid (takes C s p (i + 1) = (kflip (norm (takes C s p i).1 (takes C s p i).2) (normA (takes C s p i).2) (C i), normA (takes C s p i).2 + 1)) := Lib.hid rfl
      generalize (takes C s p i).1 = u at *
      generalize (takes C s p i).2 = m at *
      generalize C i = c at *
      have ca := B.sat
      have fa := B.free
      by_cases hm : m = 168
      · subst hm
        go_wp2_with fail
        refine (k_permute _ b 28 139 u _ (by omega) B).mono ?_
        rintro e W1 ⟨rfl, k1, B1⟩
        have k2 := k.trans k1
        clear k k1 ca fa B
        have ca := B1.sat
        have fa := B1.free
        go_wp2_with fail
        refine (k_flip _ b _ 0 d false 0 (by omega) c c0 c1 (B1.setAt 0)).mono ?_
        rintro e W2 ⟨rfl, k3, B2⟩
        have k4 := (k2.trans (Touch.set _ _ _ _)).trans k3
        clear k2 k3 ca fa B1
        have ca := B2.sat
        have fa := B2.free
        go_wp2_with fail
        go_roundw
        case rel => exact ⟨i + 1, by omega, by go_num, k4.trans (Touch.set _ _ _ _), by rw [HV.out]; exact B2.setAt 1⟩
        case measure => simp [intOf]; omega
      · have hm2 : (m : Int) ≠ 168 := by omega
        have hm3 : ((m : Int) == 168) = false := by simp [hm2]
        have HN : Hid (norm u m = u ∧ normA m = m) := Lib.hid ⟨if_neg hm, if_neg hm⟩
        have w1 : IntKind.i64.wrap ((m : Int) + 1) = (m : Int) + 1 := IntWalk.i64_in _ (by omega)
        go_wp2_with fail
        refine (k_flip _ b _ _ d false m (by omega) c c0 c1 B).mono ?_
        rintro e W2 ⟨rfl, k3, B2⟩
        have k4 := k.trans k3
        clear k k3 ca fa B
        have ca := B2.sat
        have fa := B2.free
        go_wp2_with fail
        go_roundw
        case rel => exact ⟨i + 1, by omega, by go_num, k4.trans (Touch.set _ _ _ _), by rw [HV.out, HN.out.1, HN.out.2]; exact B2.setAt _⟩
        case measure => simp [intOf]; omega
    · have yi : (n : Int) ≤ (i : Int) := by omega
      obtain rfl : i = n := by omega
      go_wp2_with fail
      refine bodyPost_end (v := .tuple #[]) (by simp [results, Try.results65, go_sem]) rfl ⟨rfl, k, B⟩
end Go.Proofs.Ytnajihlhcdedgaa
