/-
  The permutation's parts: move, bend.
-/
import Derived.Test.YtnajihlhcdedgaaK4
namespace Go.Proofs.Ytnajihlhcdedgaa
open Go.RowKit
set_option linter.unusedVariables false
set_option linter.unusedSimpArgs false

/-- Where lane i goes. -/
def place (i : Nat) : Nat := i / 5 + 5 * ((2 * (i % 5) + 3 * (i / 5)) % 5)
/-- Whence lane j came. -/
def source (j : Nat) : Nat := 5 * (j % 5) + (j / 5 + 2 * (j % 5)) * 3 % 5
theorem source_place : ∀ j, j < 25 → ∀ i, i < 25 → (j = place i ↔ source j = i) := by decide +kernel
theorem place_lt : ∀ i, i < 25 → place i < 25 := by decide
theorem source_lt : ∀ i, i < 25 → source i < 25 := by decide
/-- What move makes of the lanes. -/
def kmove (s : Nat → Int) (j : Nat) : Int := rotL (s (source j)) (turnN (source j))

set_option maxRecDepth 100000 in
set_option maxHeartbeats 4000000 in
theorem k_move (w : World) (b n : Nat) (t : TypeId) (s : Nat → Int) (f : Nat → Value) (hn : 25 ≤ n) (hs : Hid (∀ i, i < 25 → in64 (s i))) (hB : Blk w b t (rowF n (lanes s f))) :
    Calls Try.prog 123 #[.pointer (some ⟨b, 0, none⟩)] w fun e w' => e = .returned (.tuple #[]) ∧ Touch b w w' ∧ Blk w' b t (rowF n (lanes (kmove s) f)) := by
  have HT := Lib.hid k_turns
  go_enter Try.func123, Try.ntmps123
  go_wp2_with fail
  refine (HT.out _).mono ?_
  rintro e W0 ⟨rfl, hk0⟩
  have Bb0 := hB.kept hk0
  clear hB
  have h0 : w.heap.size ≤ W0.heap.size := hk0.size
  obtain ⟨h, hh⟩ : ∃ h, W0.heap.size = h := ⟨_, rfl⟩
  have hbh : b ≠ h := by have := Bb0.lt; omega
  have hhb : h ≠ b := hbh.symm
  go_upto_region 1 with (first | (refine abs_world (fun W => Kept w W ∧ Blk W b t (rowF n (lanes s f)) ∧ Blk W h 155 (rowF 25 (fun i => .int .i64 0))) ⟨hk0.alloc _, Bb0.alloc _, by rw [← hh]; exact Blk.new _ _ _⟩ ?_; rintro W1 ⟨k1, Bb1, Bh1⟩; try simp only [hh]) | (refine wpList_store_part (h' := fun i => .int .i64 (turnN i)) 155 (.tmp 2) (.tmp 8) Bh1 (Nat.le_refl _) size155 (fun _ => rfl) rfl rfl rfl rfl ?_))
  refine abs_world (fun W => Kept w W ∧ Blk W b t (rowF n (lanes s f)) ∧ Blk W h 155 (rowF 25 (fun i => .int .i64 (turnN i)))) ⟨k1.setRow (by omega) _, Bb1.setRow_other hhb _, ?_⟩ ?_
  · have := Bh1.setRow (rowF 25 (fun i => if i < 25 then Value.int .i64 (turnN i) else .int .i64 0))
    rw [rowF_congr (g := fun i => Value.int .i64 (turnN i)) fun j hj => by rw [if_pos hj]] at this
    exact this
  rintro W2 ⟨k2, Bb2, Bh2⟩
  clear k1 Bb1 Bh1 Bb0 hk0 hh h0
  obtain ⟨g, hg⟩ : ∃ g, W2.heap.size = g := ⟨_, rfl⟩
  have hbg : b ≠ g := by have := Bb2.lt; omega
  have hgb : g ≠ b := hbg.symm
  have hhg : h ≠ g := by have := Bh2.lt; omega
  have hgh : g ≠ h := hhg.symm
  have hwg : w.heap.size ≤ g := hg ▸ k2.size
  go_upto_region 2 with (fail)
  refine abs_world (fun W => Kept w W ∧ Blk W b t (rowF n (lanes s f)) ∧ Blk W h 155 (rowF 25 (fun i => .int .i64 (turnN i))) ∧ Blk W g 61 (rowF 25 (fun _ => .int .u64 0))) ⟨k2.alloc _, Bb2.alloc _, Bh2.alloc _, by rw [← hg]; exact Blk.new _ _ _⟩ ?_
  rintro W3 ⟨k3, Bb3, Bh3, Bg3⟩
  try simp only [hg]
  clear k2 Bb2 Bh2
  go_wp2_with fail
  go_loopw [10] (fun t' wr => ∃ i : Nat, i ≤ 25 ∧ t' = .int .i64 i ∧ Kept w wr ∧ Blk wr b t (rowF n (lanes s f)) ∧ Blk wr h 155 (rowF 25 (fun i => .int .i64 (turnN i))) ∧ Blk wr g 61 (rowF 25 (fun j => .int .u64 (if source j < i then kmove s j else 0)))) (fun t' _ => 25 - (intOf t').toNat)
  case atStart => exact ⟨0, Nat.zero_le _, rfl, k3, Bb3, Bh3, by rw [rowF_congr (g := fun _ => Value.int .u64 0) fun j hj => by rw [if_neg (Nat.not_lt_zero _)]]; exact Bg3⟩
  case round =>
    clear k3 Bb3 Bh3 Bg3
    obtain ⟨i, hi, rfl, kr, Bb, Bh, Bg⟩ := hrel
    have hi0 : (0 : Int) ≤ (i : Int) := by omega
    rcases Nat.lt_or_ge i 25 with hlt | hge
    · have hi2 : (i : Int) < 25 := by omega
      have c0 := Bb.lane hn hlt
      go_upto_region 4 with (fail)
      refine wp_region_calm 6 (by kernel_rfl) (by kernel_rfl) ?_
      simp only [List.take_succ_cons, List.take_zero, List.drop_succ_cons, List.drop_zero]
      repeat (first
        | (refine calm_skip rfl ?_; simp only [Act.put, List.setIfInBounds_toArray, List.set_cons_zero, List.set_cons_succ])
        | (refine calm_ex rfl ?_; apply Exists.intro; refine And.intro (fun w' hk => ?_) ?_; (focus (have q0 := hk.cell c0; clear hk; go_simp; exact rfl)); simp only [Act.put, List.setIfInBounds_toArray, List.set_cons_zero, List.set_cons_succ]))
      refine calm_nil ?_
      intro W4 hkW4
      have k4 := kr.trans hkW4
      have Bb4 := Bb.kept hkW4
      have Bh4 := Bh.kept hkW4
      have Bg4 := Bg.kept hkW4
      clear hkW4 c0 kr Bb Bg Bh
      have c1 := Bh4.at hlt
      obtain ⟨p, hp⟩ : ∃ p, place i = p := ⟨_, rfl⟩
      have hp25 : p < 25 := hp ▸ place_lt i hlt
      have c2 := Bg4.at (i := p) hp25
      have f2 := Bg4.free
      have HRot := Lib.hid (k_rot (hs.out i hlt) (turnN_lt i hlt))
      have HM : Hid (∀ j, j < 25 → (if source j < i + 1 then kmove s j else 0) = if j = p then rotL (s i) (turnN i) else if source j < i then kmove s j else 0) := Lib.hid (by
        intro j hj
        have hsp := source_place j hj i hlt
        rw [hp] at hsp
        by_cases hjp : j = p
        · have hsi := hsp.1 hjp
          rw [if_pos (by omega), if_pos hjp]
          unfold kmove
          rw [hsi]
        · have hsi : source j ≠ i := fun e => hjp (hsp.2 e)
          rw [if_neg hjp]
          by_cases hsl : source j < i
          · rw [if_pos (by omega), if_pos hsl]
          · rw [if_neg (by omega), if_neg hsl])
      generalize hx0 : s i = x0 at HRot HM
      generalize hT : turnN i = T at c1 HRot HM
      generalize rotL x0 T = x1 at HRot HM
      clear hT
      obtain ⟨m, hm, hm5⟩ : ∃ m, i % 5 = m ∧ m < 5 := ⟨_, rfl, by omega⟩
      obtain ⟨q, hq, hq5⟩ : ∃ q, i / 5 = q ∧ q < 5 := ⟨_, rfl, by omega⟩
      obtain ⟨r, hr, hr5⟩ : ∃ r, (2 * m + 3 * q) % 5 = r ∧ r < 5 := ⟨_, rfl, by omega⟩
      have hp' : q + 5 * r = p := by rw [← hp]; unfold place; rw [hm, hq, hr]
      have e1 : (i : Int).tmod 5 = (m : Int) := by rw [rem5, hm]
      have e1' : (i : Int) % 5 = (m : Int) := by omega
      have e2 : (i : Int).tdiv 5 = (q : Int) := by rw [quo5, hq]
      have e2' : (i : Int) / 5 = (q : Int) := by omega
      have e3 : (2 * (m : Int) + 3 * (q : Int)).tmod 5 = (r : Int) := by have := rem5 (2 * m + 3 * q); rw [hr] at this; simpa using this
      have e3' : (2 * (m : Int) + 3 * (q : Int)) % 5 = (r : Int) := by omega
      have e4 : (q : Int) + 5 * (r : Int) = (p : Int) := by omega
      have b1 : (0 : Int) ≤ (m : Int) := by omega
      have b2 : (m : Int) < 5 := by omega
      have b3 : (0 : Int) ≤ (q : Int) := by omega
      have b4 : (q : Int) < 5 := by omega
      have b5 : (0 : Int) ≤ (r : Int) := by omega
      have b6 : (r : Int) < 5 := by omega
      have b7 : (0 : Int) ≤ (p : Int) := by omega
      have b8 : (p : Int) < 25 := by omega
      have w1 : IntKind.i64.wrap (2 * (m : Int)) = 2 * (m : Int) := IntWalk.i64_in _ (by omega)
      have w2 : IntKind.i64.wrap (3 * (q : Int)) = 3 * (q : Int) := IntWalk.i64_in _ (by omega)
      have w3 : IntKind.i64.wrap (2 * (m : Int) + 3 * (q : Int)) = 2 * (m : Int) + 3 * (q : Int) := IntWalk.i64_in _ (by omega)
      have w4 : IntKind.i64.wrap (5 * (r : Int)) = 5 * (r : Int) := IntWalk.i64_in _ (by omega)
      have w5 : IntKind.i64.wrap ((q : Int) + 5 * (r : Int)) = (p : Int) := by rw [e4]; exact IntWalk.i64_in _ (by omega)
      have w6 : IntKind.i64.wrap (p : Int) = (p : Int) := IntWalk.i64_in _ (by omega)
      clear hp hm hq hr hp'
      go_wp2_with fail
      refine (HRot.out _).mono ?_
      rintro e W5 ⟨rfl, hk5⟩
      have k5 := k4.trans hk5
      have Bb5 := Bb4.kept hk5
      have Bh5 := Bh4.kept hk5
      have Bg5 := Bg4.kept hk5
      clear c1 c2 f2 k4 Bb4 Bh4 Bg4 hk5
      have c2 := Bg5.at (i := p) hp25
      have f2 := Bg5.free
      go_wp2_with fail
      go_roundw
      case rel =>
        refine ⟨i + 1, by omega, by go_num, k5.setCell (by exact hwg) _, Bb5.set_other hgb _, Bh5.set_other hgh _, Bg5.set hp25 fun j hj => ?_⟩
        rw [HM.out j hj]
        split <;> rfl
      case measure => simp [intOf]; omega
    · have hi2 : (25 : Int) ≤ (i : Int) := by omega
      obtain rfl : i = 25 := by omega
      rw [rowF_congr (g := fun j => Value.int .u64 (kmove s j)) fun j hj => by rw [if_pos (source_lt j hj)]] at Bg
      go_wp2_with (first | (refine wpList_load_part 61 (.tmp 3) Bg (Nat.le_refl _) Try.underlying61 size61 rfl rfl rfl ?_) | (refine wpList_store_part (h' := fun j => .int .u64 (kmove s j)) 61 (.tmp 38) (.tmp 37) Bb hn size61 (fun _ => rfl) rfl rfl rfl rfl ?_))
      refine bodyPost_end (v := .tuple #[]) (by simp [results, Try.results123, go_sem]) rfl ⟨rfl, (Touch.of_kept kr).trans (Touch.setRow _ _ _), ?_⟩
      rw [lanes_part]
      exact Bb.setRow _

/-- What bend makes of the lanes. -/
def kbend (s : Nat → Int) (i : Nat) : Int := bits .xor .u64 (s i) (bits .and .u64 (bits .xor .u64 18446744073709551615 (s (i / 5 * 5 + (i + 1) % 5))) (s (i / 5 * 5 + (i + 2) % 5)))

set_option maxRecDepth 100000 in
set_option maxHeartbeats 4000000 in
theorem k_bend (w : World) (b n : Nat) (t : TypeId) (s : Nat → Int) (f : Nat → Value) (hn : 25 ≤ n) (hB : Blk w b t (rowF n (lanes s f))) :
    Calls Try.prog 124 #[.pointer (some ⟨b, 0, none⟩)] w fun e w' => e = .returned (.tuple #[]) ∧ Touch b w w' ∧ Blk w' b t (rowF n (lanes (kbend s) f)) := by
  go_enter Try.func124, Try.ntmps124
  obtain ⟨g, hg⟩ : ∃ g, w.heap.size = g := ⟨_, rfl⟩
  have hbg : b ≠ g := by have := hB.lt; omega
  have hgb : g ≠ b := hbg.symm
  have hwg : w.heap.size ≤ g := by omega
  go_upto_region 1 with (fail)
  refine abs_world (fun W => Kept w W ∧ Blk W b t (rowF n (lanes s f)) ∧ Blk W g 61 (rowF 25 (fun _ => .int .u64 0))) ⟨(Kept.refl w).alloc _, hB.alloc _, by rw [← hg]; exact Blk.new _ _ _⟩ ?_
  rintro W3 ⟨k3, Bb3, Bg3⟩
  try simp only [hg]
  go_wp2_with fail
  go_loopw [7] (fun t' wr => ∃ i : Nat, i ≤ 25 ∧ t' = .int .i64 i ∧ Kept w wr ∧ Blk wr b t (rowF n (lanes s f)) ∧ Blk wr g 61 (rowF 25 (fun j => .int .u64 (if j < i then kbend s j else 0)))) (fun t' _ => 25 - (intOf t').toNat)
  case atStart => exact ⟨0, Nat.zero_le _, rfl, k3, Bb3, by rw [rowF_congr (g := fun _ => Value.int .u64 0) fun j hj => by rw [if_neg (Nat.not_lt_zero _)]]; exact Bg3⟩
  case round =>
    clear k3 Bb3 Bg3 hB
    obtain ⟨i, hi, rfl, kr, Bb, Bg⟩ := hrel
    have hi0 : (0 : Int) ≤ (i : Int) := by omega
    rcases Nat.lt_or_ge i 25 with hlt | hge
    · have hi2 : (i : Int) < 25 := by omega
      have c0 := Bb.lane hn hlt
      go_upto_region 3 with (fail)
      refine wp_region_calm 6 (by kernel_rfl) (by kernel_rfl) ?_
      simp only [List.take_succ_cons, List.take_zero, List.drop_succ_cons, List.drop_zero]
      repeat (first
        | (refine calm_skip rfl ?_; simp only [Act.put, List.setIfInBounds_toArray, List.set_cons_zero, List.set_cons_succ])
        | (refine calm_ex rfl ?_; apply Exists.intro; refine And.intro (fun w' hk => ?_) ?_; (focus (have q0 := hk.cell c0; clear hk; go_simp; exact rfl)); simp only [Act.put, List.setIfInBounds_toArray, List.set_cons_zero, List.set_cons_succ]))
      refine calm_nil ?_
      intro W4 hkW4
      have k4 := kr.trans hkW4
      have Bb4 := Bb.kept hkW4
      have Bg4 := Bg.kept hkW4
      clear hkW4 c0 kr Bb Bg
      obtain ⟨q, hq, hq5⟩ : ∃ q, i / 5 = q ∧ q < 5 := ⟨_, rfl, by omega⟩
      obtain ⟨m1, hm1, hm15⟩ : ∃ m, (i + 1) % 5 = m ∧ m < 5 := ⟨_, rfl, by omega⟩
      obtain ⟨m2, hm2, hm25⟩ : ∃ m, (i + 2) % 5 = m ∧ m < 5 := ⟨_, rfl, by omega⟩
      obtain ⟨p1, hp1, hp15⟩ : ∃ p, q * 5 + m1 = p ∧ p < 25 := ⟨_, rfl, by omega⟩
      obtain ⟨p2, hp2, hp25⟩ : ∃ p, q * 5 + m2 = p ∧ p < 25 := ⟨_, rfl, by omega⟩
      have c1 := Bb4.lane hn hp15
      have c2 := Bb4.lane hn hp25
      have c3 := Bg4.at hlt
      have f3 := Bg4.free
      have HM : Hid (kbend s i = bits .xor .u64 (s i) (bits .and .u64 (bits .xor .u64 18446744073709551615 (s p1)) (s p2))) := Lib.hid (by unfold kbend; rw [hq, hm1, hm2, hp1, hp2])
      generalize s i = x0 at HM ⊢
      generalize s p1 = x1 at HM c1
      generalize s p2 = x2 at HM c2
      have e2 : (i : Int).tdiv 5 = (q : Int) := by rw [quo5, hq]
      have e2' : (i : Int) / 5 = (q : Int) := by omega
      have w1 : IntKind.i64.wrap ((q : Int) * 5) = (q : Int) * 5 := IntWalk.i64_in _ (by omega)
      have w2 : IntKind.i64.wrap ((i : Int) + 1) = (i : Int) + 1 := IntWalk.i64_in _ (by omega)
      have w3 : IntKind.i64.wrap ((i : Int) + 2) = (i : Int) + 2 := IntWalk.i64_in _ (by omega)
      have e3 : ((i : Int) + 1).tmod 5 = (m1 : Int) := by have := rem5 (i + 1); rw [hm1] at this; simpa using this
      have e4 : ((i : Int) + 2).tmod 5 = (m2 : Int) := by have := rem5 (i + 2); rw [hm2] at this; simpa using this
      have e3' : ((i : Int) + 1) % 5 = (m1 : Int) := by omega
      have e4' : ((i : Int) + 2) % 5 = (m2 : Int) := by omega
      have e5 : (q : Int) * 5 + (m1 : Int) = (p1 : Int) := by omega
      have e6 : (q : Int) * 5 + (m2 : Int) = (p2 : Int) := by omega
      have w5 : IntKind.i64.wrap (p1 : Int) = (p1 : Int) := IntWalk.i64_in _ (by omega)
      have w6 : IntKind.i64.wrap (p2 : Int) = (p2 : Int) := IntWalk.i64_in _ (by omega)
      have b1 : (0 : Int) ≤ (p1 : Int) := by omega
      have b2 : (p1 : Int) < 25 := by omega
      have b3 : (0 : Int) ≤ (p2 : Int) := by omega
      have b4 : (p2 : Int) < 25 := by omega
      have b5 : (q : Int) < 5 := by omega
      have b6 : (0 : Int) ≤ (q : Int) := by omega
      clear hq hm1 hm2 hp1 hp2
      go_upto_region 5 with (fail)
      refine wp_region_calm 24 (by kernel_rfl) (by kernel_rfl) ?_
      simp only [List.take_succ_cons, List.take_zero, List.drop_succ_cons, List.drop_zero]
      repeat (first
        | (refine calm_skip rfl ?_; simp only [Act.put, List.setIfInBounds_toArray, List.set_cons_zero, List.set_cons_succ])
        | (refine calm_ex rfl ?_; apply Exists.intro; refine And.intro (fun w' hk => ?_) ?_; (focus (have q0 := hk.cell c1; have q1 := hk.cell c2; clear hk; go_simp; exact rfl)); simp only [Act.put, List.setIfInBounds_toArray, List.set_cons_zero, List.set_cons_succ]))
      refine calm_nil ?_
      intro W5 hkW5
      have k5 := k4.trans hkW5
      have Bb5 := Bb4.kept hkW5
      have Bg5 := Bg4.kept hkW5
      clear hkW5 c1 c2 c3 f3 k4 Bb4 Bg4
      have c3 := Bg5.at hlt
      have f3 := Bg5.free
      go_wp2_with fail
      go_roundw
      case rel =>
        refine ⟨i + 1, by omega, by go_num, k5.setCell (by exact hwg) _, Bb5.set_other hgb _, Bg5.set hlt fun j hj => ?_⟩
        by_cases hji : j = i
        · subst hji; rw [if_pos (by omega), if_pos rfl, HM.out]; rfl
        · rw [if_neg hji]
          by_cases hjl : j < i
          · rw [if_pos (by omega), if_pos hjl]
          · rw [if_neg (by omega), if_neg hjl]
      case measure => simp [intOf]; omega
    · have hi2 : (25 : Int) ≤ (i : Int) := by omega
      obtain rfl : i = 25 := by omega
      rw [rowF_congr (g := fun j => Value.int .u64 (kbend s j)) fun j hj => by rw [if_pos hj]] at Bg
      go_wp2_with (first | (refine wpList_load_part 61 (.tmp 2) Bg (Nat.le_refl _) Try.underlying61 size61 rfl rfl rfl ?_) | (refine wpList_store_part (h' := fun j => .int .u64 (kbend s j)) 61 (.tmp 43) (.tmp 42) Bb hn size61 (fun _ => rfl) rfl rfl rfl rfl ?_))
      refine bodyPost_end (v := .tuple #[]) (by simp [results, Try.results124, go_sem]) rfl ⟨rfl, (Touch.of_kept kr).trans (Touch.setRow _ _ _), ?_⟩
      rw [lanes_part]
      exact Bb.setRow _
end Go.Proofs.Ytnajihlhcdedgaa
