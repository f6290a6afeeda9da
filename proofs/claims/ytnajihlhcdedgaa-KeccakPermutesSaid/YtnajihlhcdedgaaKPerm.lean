/-
  KeccakPermutes: the walk, and the law.
-/
import Derived.Test.YtnajihlhcdedgaaK18
namespace Go.Proofs.Ytnajihlhcdedgaa
open Go.RowKit
set_option linter.unusedVariables false
set_option linter.unusedSimpArgs false

theorem part25' {w : World} {g : Nat} {t : TypeId} {f h : Nat → Value} (B : Blk w g t (rowF 25 f)) : Blk (w.setRow g (rowF 25 (fun i => if i < 25 then h i else f i))) g t (rowF 25 h) := by
  have := B.setRow (rowF 25 (fun i => if i < 25 then h i else f i))
  rw [rowF_congr (f := h) (g := fun i => if i < 25 then h i else f i) fun j hj => by rw [if_pos hj]]
  exact this
set_option maxRecDepth 100000 in
set_option maxHeartbeats 4000000 in
theorem keccak_permutes (s : Nat → Int) (hs : ∀ i, i < 25 → in64 (s i)) (n : Int) (n0 : 0 ≤ n) (n1 : n ≤ 255) (w : World) : Calls Try.prog 12 #[.agg (rowF 25 (fun p => .int .u64 (s p))), .int .u8 n] w fun e w' => e = .returned (.bool true) ∧ Kept w w' := by
  have HK := Lib.hid k_Awake
  have HS : Hid (∀ j, sq s (j + 1) = kperm 12 (sq s j)) := Lib.hid fun j => rfl
  have HR : Hid (∀ j, Pure Try.prog 62 #[.agg (rowF 25 (fun p => .int .u64 (sq s j p)))] (.agg (rowF 25 (fun p => .int .u64 (kperm 12 (sq s j) p))))) := Lib.hid fun j => r_permute (sq_in hs j)
  obtain ⟨m, hm, hm3⟩ : ∃ m : Nat, n % 3 = (m : Int) ∧ m < 3 := ⟨(n % 3).toNat, by omega, by omega⟩
  have e1 : n.tmod 3 = (m : Int) := by rw [Int.tmod_eq_emod_of_nonneg n0]; exact hm
  have zm : (0 : Int) ≤ (m : Int) := by omega
  have wm : IntKind.u8.wrap (m : Int) = (m : Int) := by rw [wrap_u8]; omega
  clear hs
  obtain ⟨g1, hg1⟩ : ∃ g, w.heap.size = g := ⟨_, rfl⟩
  go_enter Try.func12, Try.ntmps12
  go_wp2_with fail
  try simp only [hg1]
  refine abs_calls (fun W => Kept w W ∧ Blk W g1 60 (rowF 25 (fun p => .int .u64 (s p)))) ⟨(Kept.refl w).alloc _, by rw [← hg1]; exact Blk.new _ _ _⟩ ?_
  rintro W1 ⟨k1, B1⟩
  refine (HK.out _).mono ?_
  rintro e W2 ⟨rfl, hk2⟩
  have k2 := k1.trans hk2
  have B2 := B1.kept hk2
  clear k1 B1 hk2
  obtain ⟨g2, hg2⟩ : ∃ g, W2.heap.size = g := ⟨_, rfl⟩
  have hb : Blk (W2.alloc (.cells #[.int .u64 0, .int .u64 0, .int .u64 0, .int .u64 0, .int .u64 0, .int .u64 0, .int .u64 0, .int .u64 0, .int .u64 0, .int .u64 0, .int .u64 0, .int .u64 0, .int .u64 0, .int .u64 0, .int .u64 0, .int .u64 0, .int .u64 0, .int .u64 0, .int .u64 0, .int .u64 0, .int .u64 0, .int .u64 0, .int .u64 0, .int .u64 0, .int .u64 0] 61)) g2 61 (rowF 25 (fun _ => .int .u64 0)) := by rw [← hg2]; exact Blk.new _ _ _
  have hl1 := B2.lt
  have ne : g1 ≠ g2 := by omega
  have nw1 : w.heap.size ≤ g1 := by omega
  have nw2 : w.heap.size ≤ g2 := by have := k2.size; omega
  go_upto_region 4 with (first | (refine wpList_load_part 60 (.tmp 2) B2 (Nat.le_refl _) Try.underlying60 size60 rfl rfl rfl ?_) | (refine wpList_store_part (h' := fun p => .int .u64 (s p)) 61 (.tmp 5) (.tmp 8) hb (Nat.le_refl _) size61 (fun _ => rfl) rfl rfl rfl rfl ?_))
  refine abs_world (fun W => Kept w W ∧ Blk W g1 60 (rowF 25 (fun p => .int .u64 (s p))) ∧ Blk W g2 61 (rowF 25 (fun p => .int .u64 (s p)))) ⟨(k2.alloc _).setRow nw2 _, (B2.alloc _).setRow_other (by omega) _, part25' hb⟩ ?_
  clear hb k2 B2
  rintro W3 ⟨k, B1, B2⟩
  go_wp2_with fail
  go_loopw [11] (fun t wr => ∃ i : Nat, i ≤ m ∧ t = .int .u8 i ∧ Kept w wr ∧ Blk wr g1 60 (rowF 25 (fun p => .int .u64 (sq s i p))) ∧ Blk wr g2 61 (rowF 25 (fun p => .int .u64 (sq s i p)))) (fun t _ => m - (intOf t).toNat)
  case atStart => exact ⟨0, Nat.zero_le _, rfl, k, B1, B2⟩
  case round =>
    clear k B1 B2
    obtain ⟨i, hi, rfl, k, B1, B2⟩ := hrel
    have zi : (0 : Int) ≤ (i : Int) := by omega
    rcases Nat.lt_or_ge i m with hlt | hge
    · have yi : (i : Int) < (m : Int) := by omega
      have wi : IntKind.u8.wrap ((i : Int) + 1) = (i : Int) + 1 := by rw [wrap_u8]; omega
      have HQ := Lib.hid (HR.out i)
      have HSi := Lib.hid (HS.out i)
      generalize sq s i = u at *
      go_wp2_with fail
      have B2' : Blk wr g2 61 (rowF 25 (lanes u (fun _ => undef))) := by rw [lanes_row]; exact B2
      refine (k_permute _ g2 25 61 u _ (by omega) B2').mono ?_
      rintro e W4 ⟨rfl, k4, B4⟩
      rw [lanes_row] at B4
      have k5 := k4.kept k nw2
      have B5 := Touch.blk B1 k4 (by omega)
      clear k k4 B1 B2 B2'
      go_wp2_with (refine wpList_load_part 60 (.tmp 2) B5 (Nat.le_refl _) Try.underlying60 size60 rfl rfl rfl ?_)
      refine (HQ.out _).mono ?_
      rintro e W6 ⟨rfl, hk6⟩
      have k6 := k5.trans hk6
      have B6 := B5.kept hk6
      have B7 := B4.kept hk6
      clear k5 B4 B5 hk6
      go_wp2_with (refine wpList_store_part (h' := fun p => .int .u64 (kperm 12 u p)) 60 (.tmp 2) (.tmp 15) B6 (Nat.le_refl _) size60 (fun _ => rfl) rfl rfl rfl rfl ?_)
      go_roundw
      case rel => exact ⟨i + 1, by omega, by go_num, k6.setRow nw1 _, by rw [HSi.out]; exact part25 B6, by rw [HSi.out]; exact B7.setRow_other (by omega) _⟩
      case measure => simp [intOf]; omega
    · have yi : (m : Int) ≤ (i : Int) := by omega
      have hz : ∀ w, (Op.equalIn 10000 61 (.agg (rowF 25 (fun p => .int .u64 (sq s i p)))) (.agg (rowF 25 (fun p => .int .u64 (sq s i p))))).run Try.prog w = .ok true w := fun w => by
        have := run_equalS Try.underlying61 (sq s i) (sq s i) w
        rw [decide_eq_true rfl] at this
        exact this
      generalize sq s i = u at *
      go_wp2_with (first | (refine wpList_load_part 61 (.tmp 5) B2 (Nat.le_refl _) Try.underlying61 size61 rfl rfl rfl ?_) | (refine wpList_load_part 60 (.tmp 2) B1 (Nat.le_refl _) Try.underlying60 size60 rfl rfl rfl ?_))
      go_ret
      exact ⟨rfl, k⟩

theorem law_bounds64 {a : List Int} (w : ∀ z ∈ a, (Lit.int .u64 z).wf = true) : ∀ i, in64 (a.getD i 0) := by
  intro i
  rw [List.getD_eq_getElem?_getD]
  rcases Nat.lt_or_ge i a.length with h | h
  · rw [List.getElem?_eq_getElem h]
    have := w a[i] (List.getElem_mem h)
    simp [Lit.wf, IntKind.min, IntKind.max, IntKind.signed, IntKind.bits] at this
    unfold in64
    simp only [Option.getD_some]
    omega
  · rw [List.getElem?_eq_none h]
    unfold in64
    simp
theorem row_of_list {a : List Int} {n : Nat} (l : a.length = n) : (a.map (Value.int .u64)).toArray = rowF n (fun p => .int .u64 (a.getD p 0)) := by
  unfold rowF
  congr 1
  apply List.ext_getElem?
  intro i
  rw [List.getElem?_map, List.getElem?_map]
  rcases Nat.lt_or_ge i n with h | h
  · simp [h, l]
  · simp [h, l]
theorem keccakPermutes_walk (a : List Int) (l : a.length = 25) (wa : ∀ z ∈ a, (Lit.int .u64 z).wf = true) (n : Int) (wn : (Lit.int .u8 n).wf = true) (w : World) :
    Calls Try.prog 12 #[.agg (a.map (Value.int .u64)).toArray, .int .u8 n] w fun e w' => e = .returned (.bool true) ∧ Kept w w' := by
  rw [row_of_list l]
  have : 0 ≤ n ∧ n ≤ 255 := by
    simp [Lit.wf, IntKind.min, IntKind.max, IntKind.signed, IntKind.bits] at wn
    omega
  exact keccak_permutes _ (fun i _ => law_bounds64 wa i) n this.1 this.2 w
end Go.Proofs.Ytnajihlhcdedgaa
