/-
  The permutation's parts: the walks.
-/
import Derived.Test.YtnajihlhcdedgaaK2
import Derived.Deep.Cut
namespace Go.Proofs.Ytnajihlhcdedgaa
open Go.RowKit
set_option linter.unusedVariables false
set_option linter.unusedSimpArgs false

abbrev xr (x y : Int) : Int := bits .xor .u64 x y
theorem bits_in (op : BinOp) (x y : Int) : in64 (bits op .u64 x y) := by
  unfold in64 bits IntKind.wrap
  simp only [IntKind.bits, IntKind.signed]
  simp
  omega
theorem rem5 (i : Nat) : (i : Int).tmod 5 = ((i % 5 : Nat) : Int) := by
  rw [Int.tmod_eq_emod_of_nonneg (by omega)]; omega
theorem quo5 (i : Nat) : (i : Int).tdiv 5 = ((i / 5 : Nat) : Int) := by
  rw [Int.tdiv_eq_ediv_of_nonneg (by omega)]; omega

/-- The sum of column c over the first i lanes. -/
def sumTo (s : Nat → Int) : Nat → Nat → Int
  | 0, _ => 0
  | i + 1, c => if c = i % 5 then bits .xor .u64 (sumTo s i c) (s i) else sumTo s i c
theorem sumTo_in {s : Nat → Int} (i c : Nat) : in64 (sumTo s i c) := by
  induction i with
  | zero => unfold sumTo in64; omega
  | succ i ih => unfold sumTo; split; exact bits_in _ _ _; exact ih
/-- What mix makes of the lanes. -/
def kmix (s : Nat → Int) (i : Nat) : Int := bits .xor .u64 (s i) (bits .xor .u64 (sumTo s 25 ((i + 4) % 5)) (rotL (sumTo s 25 ((i + 1) % 5)) 1))

set_option maxRecDepth 100000 in
set_option maxHeartbeats 4000000 in
theorem k_mix (w : World) (b n : Nat) (t : TypeId) (s : Nat → Int) (f : Nat → Value) (hn : 25 ≤ n) (hB : Blk w b t (rowF n (lanes s f))) :
    Calls Try.prog 122 #[.pointer (some ⟨b, 0, none⟩)] w fun e w' => e = .returned (.tuple #[]) ∧ Touch b w w' ∧ Blk w' b t (rowF n (lanes (kmix s) f)) := by
  go_enter Try.func122, Try.ntmps122
  obtain ⟨g, hg⟩ : ∃ g, w.heap.size = g := ⟨_, rfl⟩
  have hbg : b ≠ g := by have := hB.lt; omega
  have hgb : g ≠ b := hbg.symm
  go_wp2_with fail
  try simp only [hg]
  refine abs_world (fun W => Touch b w W ∧ Blk W b t (rowF n (lanes s f)) ∧ Blk W g 153 (rowF 5 (fun c => .int .u64 (sumTo s 0 c)))) ?_ ?_
  · exact ⟨Touch.alloc _ _ _, hB.alloc _, by rw [← hg]; exact Blk.new _ _ _⟩
  rintro W1 ⟨k1, Bb1, Bg1⟩
  go_loopw [7] (fun t' wr => ∃ i : Nat, i ≤ 25 ∧ t' = .int .i64 i ∧ Touch b w wr ∧ Blk wr b t (rowF n (lanes s f)) ∧ Blk wr g 153 (rowF 5 (fun c => .int .u64 (sumTo s i c)))) (fun t' _ => 25 - (intOf t').toNat)
  case atStart => exact ⟨0, Nat.zero_le _, rfl, k1, Bb1, Bg1⟩
  case round =>
    clear k1 Bb1 Bg1
    obtain ⟨i, hi, rfl, kr, Bb, Bg⟩ := hrel
    have hi0 : (0 : Int) ≤ (i : Int) := by omega
    rcases Nat.lt_or_ge i 25 with hlt | hge
    · have hi2 : (i : Int) < 25 := by omega
      have c0 := Bb.lane hn hlt
      go_upto_region 3 with (fail)
      refine wp_region_calm 6 (by kernel_rfl) (by kernel_rfl) ?_
      simp only [List.take_succ_cons, List.take_zero, List.drop_succ_cons, List.drop_zero]
      repeat (first
        | (refine calm_skip rfl ?_; simp only [Act.put, List.setIfInBounds_toArray, List.set_cons_zero, List.set_cons_succ])
        | (refine calm_ex rfl ?_; apply Exists.intro; refine And.intro (fun w' hk => ?_) ?_; (focus (have q0 := hk.cell c0; clear hk; go_simp; exact rfl)); simp only [Act.put, List.setIfInBounds_toArray, List.set_cons_zero, List.set_cons_succ]))
      refine calm_nil ?_
      intro W2 hkW2
      have k2 := kr.later hkW2
      have Bb2 := Bb.kept hkW2
      have Bg2 := Bg.kept hkW2
      clear hkW2 c0 kr Bb Bg
      obtain ⟨m, hm, hm5⟩ : ∃ m, i % 5 = m ∧ m < 5 := ⟨_, rfl, by omega⟩
      have c1 := Bg2.at (i := m) hm5
      have f1 := Bg2.free
      have e1 : (i : Int).tmod 5 = (m : Int) := by rw [rem5, hm]
      have e1' : (i : Int) % 5 = (m : Int) := by omega
      have hm0 : (0 : Int) ≤ (m : Int) := by omega
      have hm2 : (m : Int) < 5 := by omega
      go_wp2_with fail
      go_roundw
      case rel => 
        refine ⟨i + 1, by omega, by go_num, k2.own (by omega) (Touch.set _ _ _ _), Bb2.set_other hgb _, Bg2.set hm5 fun j hj => ?_⟩
        simp only [sumTo, hm]
        split <;> simp [*]
      case measure => simp [intOf]; omega
    · have hi2 : (25 : Int) ≤ (i : Int) := by omega
      obtain rfl : i = 25 := by omega
      go_wp2_with fail
      have z0 : ∀ j, j < 25 → s j = (fun j => if j < 0 then kmix s j else s j) j := fun j hj => rfl
      go_loopw [21] (fun t' wr => ∃ i : Nat, i ≤ 25 ∧ t' = .int .i64 i ∧ Touch b w wr ∧ Blk wr b t (rowF n (lanes (fun j => if j < i then kmix s j else s j) f)) ∧ Blk wr g 153 (rowF 5 (fun c => .int .u64 (sumTo s 25 c)))) (fun t' _ => 25 - (intOf t').toNat)
      case atStart => exact ⟨0, Nat.zero_le _, rfl, kr, by rw [← lanes_congr z0]; exact Bb, Bg⟩
      case round =>
        clear kr Bb Bg
        rename_i wr
        obtain ⟨i, hi, rfl, kr, Bb, Bg⟩ := hrel
        have hi0 : (0 : Int) ≤ (i : Int) := by omega
        rcases Nat.lt_or_ge i 25 with hlt | hge
        · have hi2 : (i : Int) < 25 := by omega
          have c0 := Bb.lane hn hlt
          rw [if_neg (Nat.lt_irrefl _)] at c0
          obtain ⟨m, hm, hm5⟩ : ∃ m, (i + 4) % 5 = m ∧ m < 5 := ⟨_, rfl, by omega⟩
          obtain ⟨o, ho, ho5⟩ : ∃ o, (i + 1) % 5 = o ∧ o < 5 := ⟨_, rfl, by omega⟩
          have c1 := Bg.at (i := m) hm5
          have c2 := Bg.at (i := o) ho5
          have HRot := Lib.hid (k_rot (sumTo_in (s := s) 25 o) (n := 1) (by omega))
          have HM : Hid (kmix s i = bits .xor .u64 (s i) (bits .xor .u64 (sumTo s 25 m) (rotL (sumTo s 25 o) 1))) := Lib.hid (by unfold kmix; rw [hm, ho])
          generalize sumTo s 25 m = x1 at c1 HM
          generalize hx2 : sumTo s 25 o = x2 at c2 HM HRot
          generalize rotL x2 1 = x3 at HM HRot
          generalize hx0 : s i = x0 at c0 HM
          have w1 : IntKind.i64.wrap ((i : Int) + 4) = (i : Int) + 4 := IntWalk.i64_in _ (by omega)
          have w2 : IntKind.i64.wrap ((i : Int) + 1) = (i : Int) + 1 := IntWalk.i64_in _ (by omega)
          have e1 : ((i : Int) + 4).tmod 5 = (m : Int) := by have := rem5 (i + 4); rw [hm] at this; simpa using this
          have e2 : ((i : Int) + 1).tmod 5 = (o : Int) := by have := rem5 (i + 1); rw [ho] at this; simpa using this
          have e1' : ((i : Int) + 4) % 5 = (m : Int) := by omega
          have e2' : ((i : Int) + 1) % 5 = (o : Int) := by omega
          have hm0 : (0 : Int) ≤ (m : Int) := by omega
          have hm2 : (m : Int) < 5 := by omega
          have ho0 : (0 : Int) ≤ (o : Int) := by omega
          have ho2 : (o : Int) < 5 := by omega
          go_upto_region 9 with (fail)
          refine wp_region_calm 20 (by kernel_rfl) (by kernel_rfl) ?_
          simp only [List.take_succ_cons, List.take_zero, List.drop_succ_cons, List.drop_zero]
          repeat (first
            | (refine calm_skip rfl ?_; simp only [Act.put, List.setIfInBounds_toArray, List.set_cons_zero, List.set_cons_succ])
            | (refine calm_ex rfl ?_; apply Exists.intro; refine And.intro (fun w' hk => ?_) ?_; (focus (have q0 := hk.cell c0; have q1 := hk.cell c1; have q2 := hk.cell c2; clear hk; go_simp; exact rfl)); simp only [Act.put, List.setIfInBounds_toArray, List.set_cons_zero, List.set_cons_succ])
            | (refine calm_step _ rfl (HRot.out.call ?_) ?_; (focus (intro w'; go_simp; done)); simp only [Act.put, List.setIfInBounds_toArray, List.set_cons_zero, List.set_cons_succ]))
          refine calm_nil ?_
          intro W2 hkW2
          have k2 := kr.later hkW2
          have Bb2 := Bb.kept hkW2
          have Bg2 := Bg.kept hkW2
          have c9 := hkW2.cell c0
          have f2 := Bb2.free
          clear hkW2 c0 c1 c2 kr Bb Bg
          go_wp2_with fail
          go_roundw
          case rel =>
            refine ⟨i + 1, by omega, by go_num, k2.trans (Touch.set _ _ _ _), Bb2.setLane hn hlt fun j hj => ?_, Bg2.set_other hbg _⟩
            by_cases hji : j = i
            · subst hji; rw [if_pos (by omega), if_pos rfl, HM.out]
            · rw [if_neg hji]
              by_cases hjl : j < i
              · rw [if_pos (by omega), if_pos hjl]
              · rw [if_neg (by omega), if_neg hjl]
          case measure => simp [intOf]; omega
        · have hi2 : (25 : Int) ≤ (i : Int) := by omega
          obtain rfl : i = 25 := by omega
          go_wp2_with fail
          refine bodyPost_end (v := .tuple #[]) (by simp [results, Try.results122, go_sem]) rfl ⟨rfl, kr, ?_⟩
          rw [lanes_congr (s := kmix s) (s' := fun j => if j < 25 then kmix s j else s j) fun j hj => by rw [if_pos hj]]
          exact Bb
end Go.Proofs.Ytnajihlhcdedgaa
