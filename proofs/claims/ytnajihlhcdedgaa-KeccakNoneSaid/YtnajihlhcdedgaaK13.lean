/-
  The sponge: Read.
-/
import Derived.Test.YtnajihlhcdedgaaK12
import Derived.Test.YtnajihlhcdedgaaM1
import Derived.Test.YtnajihlhcdedgaaMark3
import Derived.IntWalk
import Derived.Deep.Cut
import Derived.Laws.MakeOwn
namespace Go.Proofs.Ytnajihlhcdedgaa
open Go.RowKit
set_option linter.unusedVariables false
set_option linter.unusedSimpArgs false

/-- The lanes and the place when i bytes are out. -/
def gives (s : Nat → Int) (a : Nat) : Nat → (Nat → Int) × Nat
  | 0 => (s, a)
  | i + 1 => (norm (gives s a i).1 (gives s a i).2, normA (gives s a i).2 + 1)
/-- Byte a of the lanes. -/
def byteAt (s : Nat → Int) (a : Nat) : Int := s (a / 8) / 2 ^ (8 * (a % 8)) % 256
/-- The i-th byte that comes out. -/
def outs (s : Nat → Int) (a : Nat) (i : Nat) : Int := byteAt (norm (gives s a i).1 (gives s a i).2) (normA (gives s a i).2)
theorem gives_le (s : Nat → Int) {a : Nat} (ha : a ≤ 168) : ∀ i, (gives s a i).2 ≤ 168
  | 0 => ha
  | i + 1 => by
    have := gives_le s ha i
    simp only [gives, normA]
    split <;> omega

set_option maxRecDepth 100000 in
set_option maxHeartbeats 4000000 in
theorem k_Read_nil (many : Int) : Pure Try.prog 67 #[.pointer none, .int .i64 many] (.slice none 0 0) := fun w => by
  go_enter Try.func67, Try.ntmps67
  go_wp2_with fail
  go_ret
  exact ⟨rfl, Kept.refl w⟩
set_option maxRecDepth 100000 in
set_option maxHeartbeats 4000000 in
theorem k_Read_neg (b : Nat) (many : Int) (h : many < 0) : Pure Try.prog 67 #[.pointer (some ⟨b, 0, none⟩), .int .i64 many] (.slice none 0 0) := fun w => by
  go_enter Try.func67, Try.ntmps67
  go_wp2_with fail
  go_ret
  exact ⟨rfl, Kept.refl w⟩
theorem make42 (c : Nat) (h63 : (c : Int) ≤ 65536) : ∃ cs, ∀ w : World, (Instr.makeSlice 42 (.int .i64 0) (.int .i64 (c : Int))).run Try.prog w = .ok (.slice (some ⟨w.heap.size, 0, none⟩) 0 c) (w.alloc (.cells cs 5)) ∧ (w.alloc (.cells cs 5)).ownsRow w.heap.size 5 1 (.slice (some ⟨w.heap.size, 0, none⟩) 0 c) 0 [] := by
  obtain ⟨i, hi, hz0, hz1, hz2⟩ := info_parts info5
  refine ⟨madeCells (Value.int .u8 0).cells (c * i.size), fun w => ?_⟩
  have hr := run_make (P := Try.prog) w 42 5 i _ Try.underlying42 hi hz0 .i64 .i64 0 c (Int.le_refl _) (by omega) (by rw [hz2]; omega) (by omega)
  simp only [Int.toNat_zero, Int.toNat_natCast] at hr
  refine ⟨hr, ?_⟩
  have := World.ownsRow_made (base := w.heap.size) w (madeCells (Value.int .u8 0).cells (c * i.size)) c (e := 5) (size := 1) (Nat.le_refl _) (by unfold maxLen; omega) (by rw [size_madeCells, hz1])
  exact this

theorem gives_in {s : Nat → Int} (hs : ∀ i, i < 25 → in64 (s i)) (a : Nat) : ∀ i, ∀ j, j < 25 → in64 ((gives s a i).1 j)
  | 0 => hs
  | i + 1 => by
    have := gives_in hs a i
    simp only [gives, norm]
    split
    · exact kperm_in this 12
    · exact this
theorem wrap_u8 (x : Int) : IntKind.u8.wrap x = x % 256 := by simp [IntKind.wrap, IntKind.bits, IntKind.signed]
theorem ownsRow_slice {w : World} {base : Nat} {e : TypeId} {size : Nat} {v : Value} {n : Nat} {xs : List Value} (h : w.ownsRow base e size v n xs) : ∃ a k c, v = .slice a k c := by
  rcases h.2 with ⟨rfl, _⟩ | ⟨g, cap, cur, rfl, _⟩ <;> exact ⟨_, _, _, rfl⟩
theorem ownsRow_base {w : World} {base base' : Nat} {e : TypeId} {size : Nat} {v : Value} {n : Nat} {xs : List Value} (h : w.ownsRow base e size v n xs) (hb : base' ≤ base) : w.ownsRow base' e size v n xs := by
  refine ⟨h.1, ?_⟩
  rcases h.2 with h2 | ⟨g, cap, cur, h1, h2, h3⟩
  · exact .inl h2
  · exact .inr ⟨g, cap, cur, h1, Nat.le_trans hb h2, h3⟩
theorem kend_in (s : Nat → Int) (a : Nat) (d : Int) : ∀ i, i < 25 → in64 (kend s a d i) := by
  intro i _
  unfold kend
  exact kround_in _ _ _
/-- The bytes that come out. -/
def outsV (s : Nat → Int) (a n : Nat) : List Value := (List.range n).map fun i => Value.int .u8 (outs s a i)

set_option maxRecDepth 100000 in
set_option maxHeartbeats 4000000 in
theorem k_Read_le (w : World) (b : Nat) (s : Nat → Int) (d : Int) (p : Nat) (hp : p ≤ 168) (hs : Hid (∀ i, i < 25 → in64 (s i))) (many : Nat) (hm : many ≤ 65536) (hB : Sp w b s p d true) :
    Calls Try.prog 67 #[.pointer (some ⟨b, 0, none⟩), .int .i64 (many : Int)] w fun e w' => ∃ v, e = .returned v ∧ Touch b w w' ∧ Sp w' b (gives s p many).1 (gives s p many).2 d true ∧ w'.ownsRow w.heap.size 5 1 v many (outsV s p many) := by
  have c0 := hB.sgive
  have z0 : (0 : Int) ≤ (many : Int) := by omega
  have y1 : (many : Int) ≤ 65536 := by omega
  obtain ⟨cs, hmk0⟩ := make42 many (by omega)
  go_enter Try.func67, Try.ntmps67
  obtain ⟨hmk1, hown0⟩ := hmk0 w
  have hmk : (Instr.makeSlice 42 (.int .i64 0) (.int .i64 (many : Int))).run Try.prog w = .ok (.slice (some ⟨w.heap.size, 0, none⟩) 0 many) (w.alloc (.cells cs 5)) := hmk1
  clear hmk1 hmk0
  obtain ⟨g, hg⟩ : ∃ g, w.heap.size = g := ⟨_, rfl⟩
  rw [hg] at hmk hown0
  have hbg : b < g := hg ▸ hB.lt
  have hwg : w.heap.size ≤ g := by omega
  go_upto_region 6 with (fail)
  refine abs_world (fun W => Touch b w W ∧ Sp W b s p d true ∧ W.ownsRow g 5 1 (.slice (some ⟨g, 0, none⟩) 0 many) 0 [] ∧ g ≤ W.heap.size) ⟨Touch.alloc _ _ _, hB.alloc _, hown0, by simp; omega⟩ ?_
  rintro W1 ⟨k, B, hown, hgW⟩
  clear c0 hB hown0 hmk
  go_wp2_with fail
  go_loopw [5, 24] (fun v t' wr => ∃ i : Nat, i ≤ many ∧ t' = .int .i64 i ∧ Touch b w wr ∧ Sp wr b (gives s p i).1 (gives s p i).2 d true ∧ wr.ownsRow g 5 1 v i (outsV s p i) ∧ g ≤ wr.heap.size) (fun _ t' _ => many - (intOf t').toNat)
  case atStart => exact ⟨0, Nat.zero_le _, rfl, k, B, hown, hgW⟩
  case round =>
    clear k B hown hgW
    obtain ⟨i, hi, rfl, k, B, hown, hgW⟩ := hrel
    have zi : (0 : Int) ≤ (i : Int) := by omega
    obtain ⟨sa, sn, sc, rfl⟩ := ownsRow_slice hown
    rcases Nat.lt_or_ge i many with hlt | hge
    · have yi : (i : Int) < (many : Int) := by omega
      have hple := gives_le s (a := p) (by omega) i
      have hin0 := gives_in hs.out p i
      have HV : Hid (gives s p (i + 1) = (norm (gives s p i).1 (gives s p i).2, normA (gives s p i).2 + 1) ∧ outsV s p (i + 1) = outsV s p i ++ [.int .u8 (byteAt (norm (gives s p i).1 (gives s p i).2) (normA (gives s p i).2))]) := Lib.hid ⟨rfl, by unfold outsV; rw [List.range_succ, List.map_append]; rfl⟩
      generalize (gives s p i).1 = u at *
      generalize (gives s p i).2 = m at *
      have ca := B.sat
      have fa := B.free
      by_cases hm168 : m = 168
      · subst hm168
        go_wp2_with fail
        refine (k_permute _ b 28 139 u _ (by omega) B).mono ?_
        rintro e W2 ⟨rfl, k1, B1⟩
        have k2 := k.trans k1
        have hown2 := ownsRow_touch hown k1 hbg
        have hgW2 : g ≤ W2.heap.size := Nat.le_trans hgW k1.size
        clear k k1 ca fa B hown hgW
        have ca := B1.sat
        have fa := B1.free
        go_upto_region 11 with (fail)
        obtain ⟨m0, hm0, hm0l⟩ : ∃ m0 : Nat, Hid (m0 = 0) ∧ m0 < 168 := ⟨0, Lib.hid rfl, by omega⟩
        refine abs_world (fun W => Touch b w W ∧ Sp W b (kperm 12 u) (m0 : Int) d true ∧ W.ownsRow g 5 1 (.slice sa sn sc) i (outsV s p i) ∧ g ≤ W.heap.size) ⟨k2.trans (Touch.set _ _ _ _), by rw [hm0.out]; exact B1.setAt 0, ownsRow_touch hown2 (Touch.set _ _ _ _) hbg, by simpa [World.setCell] using hgW2⟩ ?_
        clear ca fa k2 B1 hown2 hgW2
        rintro W4 ⟨k, B, hown, hgW⟩
        have hin : ∀ j, j < 25 → in64 (kperm 12 u j) := kperm_in hin0 12
        obtain ⟨q, hq, hq25⟩ : ∃ q, m0 / 8 = q ∧ q < 25 := ⟨_, rfl, by omega⟩
        obtain ⟨r, hr, hr8⟩ : ∃ r, m0 % 8 = r ∧ r < 8 := ⟨_, rfl, by omega⟩
        obtain ⟨z, hz, hz56⟩ : ∃ z, 8 * r = z ∧ z ≤ 56 := ⟨_, rfl, by omega⟩
        have e1 : (m0 : Int).tdiv 8 = (q : Int) := by rw [Int.tdiv_eq_ediv_of_nonneg (by omega)]; omega
        have e1' : (m0 : Int) / 8 = (q : Int) := by omega
        have e2 : (m0 : Int).tmod 8 = (r : Int) := by rw [Int.tmod_eq_emod_of_nonneg (by omega)]; omega
        have e2' : (m0 : Int) % 8 = (r : Int) := by omega
        have e3 : 8 * (r : Int) = (z : Int) := by omega
        have w1 : IntKind.i64.wrap (q : Int) = (q : Int) := IntWalk.i64_in _ (by omega)
        have w2 : IntKind.i64.wrap (z : Int) = (z : Int) := IntWalk.i64_in _ (by omega)
        have z1 : (0 : Int) ≤ (q : Int) := by omega
        have z2 : (q : Int) < 25 := by omega
        have z3 : (0 : Int) ≤ (z : Int) := by omega
        have z4 : (z : Int) ≤ 64 := by omega
        have cl := B.lane (by omega) hq25
        have ca := B.sat
        have HB : Hid (byteAt (kperm 12 u) m0 = IntKind.u8.wrap ((kperm 12 u) q / 2 ^ z)) := Lib.hid (by unfold byteAt; rw [hq, hr, hz, wrap_u8])
        obtain ⟨x0, hx0, hx0a, hx0b⟩ : ∃ x0, (kperm 12 u) q = x0 ∧ 0 ≤ x0 ∧ x0 ≤ 18446744073709551615 := ⟨_, rfl, by have := hin q hq25; unfold in64 at this; omega, by have := hin q hq25; unfold in64 at this; omega⟩
        rw [hx0] at cl HB
        clear hx0 hq hr hz
        refine wp_region_marks_in (fun _ => oneMean 5 #[.int .u8 (IntKind.u8.wrap (x0 / 2 ^ z))]) 20 (by kernel_rfl) (by kernel_rfl) (fun k0 => ?_)
        simp only [List.take_succ_cons, List.take_zero, List.drop_succ_cons, List.drop_zero]
        repeat (first
          | (refine marks_ex rfl rfl (by kernel_rfl) ?_; apply Exists.intro; refine And.intro (fun w' hk => ?_) (And.intro ?_ ?_); (focus (have q0 := hk.cell cl; have q1 := hk.cell ca; clear hk; go_simp; exact rfl)); (focus (exact rfl)); simp only [Act.put, List.setIfInBounds_toArray, List.set_cons_zero, List.set_cons_succ]))
        refine marks_lay 0 rfl rfl (by kernel_rfl) (fun w' hk => ?_) ?_
        · refine ⟨_, _, by go_simp, (Kept.refl w').alloc _, ⟨_, rfl, Blk.new _ _ _⟩⟩
        simp only [Act.put, List.setIfInBounds_toArray, List.set_cons_zero, List.set_cons_succ]
        refine marks_nil ?_
        intro a'' W5 hkW5 hra
        obtain ⟨mb, hmb, rfl⟩ := hra.mark1 57 0 (by kernel_rfl) rfl
        simp only [Act.put, List.setIfInBounds_toArray, List.set_cons_zero, List.set_cons_succ]
        clear hra
        obtain ⟨nb, rfl, Bn⟩ := hmb
        have k5 := k.later hkW5
        have B5 := B.kept hkW5
        have hown5 := ownsRow_kept hown hkW5
        have hg5 : g ≤ W5.heap.size := Nat.le_trans hgW hkW5.size
        clear ca cl hkW5 k B hown
        go_wp2_with (at_builtin; refine wpList_append_at 42 5 info5 Try.underlying42 rfl (by decide) hown5 nb 0 1 1 [.int .u8 (IntKind.u8.wrap (x0 / 2 ^ z))] rfl (by intro u hu; simp at hu; subst hu; rfl) (by intro j u hj; rw [Nat.zero_add]; exact Bn.cell j (by simpa using hj)) (by omega) (by decide) (by decide) hg5 (.tmp 38) (.tmp 57) rfl rfl rfl rfl ?_; intro v' w1 hown6 hgrow hne; have k6 := k5.grown hown5 hgrow (by omega); have B6 := grown_blk B5 hown5 hgrow (by omega); have hg6 : g ≤ w1.heap.size := Nat.le_trans hg5 hgrow.size; clear hown5 hgrow k5 B5 Bn hg5; have ca := B6.sat; have fa := B6.free; have w5 : IntKind.i64.wrap ((m0 : Int) + 1) = (m0 : Int) + 1 := IntWalk.i64_in _ (by omega))
        go_roundw
        case rel => exact ⟨i + 1, by omega, by go_num, k6.trans (Touch.set _ _ _ _), by rw [HV.out.1]; show Sp _ b (kperm 12 u) ((0 + 1 : Nat) : Int) d true; rw [show ((0 + 1 : Nat) : Int) = (m0 : Int) + 1 by rw [hm0.out]; rfl]; exact B6.setAt ((m0 : Int) + 1), by rw [HV.out.2]; show World.ownsRow _ _ _ _ _ _ (outsV s p i ++ [.int .u8 (byteAt (kperm 12 u) 0)]); have h9 := HB.out; rw [hm0.out] at h9; rw [h9]; exact ownsRow_touch hown6 (Touch.set _ _ _ _) hbg, by simpa [World.setCell] using hg6⟩
        case measure => simp [intOf]; omega
      · have hm2 : (m : Int) ≠ 168 := by omega
        have hm3 : ((m : Int) == 168) = false := by simp [hm2]
        have HN : Hid (norm u m = u ∧ normA m = m) := Lib.hid ⟨if_neg hm168, if_neg hm168⟩
        have hin := hin0
        go_upto_region 11 with (fail)
        clear ca fa
        obtain ⟨q, hq, hq25⟩ : ∃ q, m / 8 = q ∧ q < 25 := ⟨_, rfl, by omega⟩
        obtain ⟨r, hr, hr8⟩ : ∃ r, m % 8 = r ∧ r < 8 := ⟨_, rfl, by omega⟩
        obtain ⟨z, hz, hz56⟩ : ∃ z, 8 * r = z ∧ z ≤ 56 := ⟨_, rfl, by omega⟩
        have e1 : (m : Int).tdiv 8 = (q : Int) := by rw [Int.tdiv_eq_ediv_of_nonneg (by omega)]; omega
        have e1' : (m : Int) / 8 = (q : Int) := by omega
        have e2 : (m : Int).tmod 8 = (r : Int) := by rw [Int.tmod_eq_emod_of_nonneg (by omega)]; omega
        have e2' : (m : Int) % 8 = (r : Int) := by omega
        have e3 : 8 * (r : Int) = (z : Int) := by omega
        have w1 : IntKind.i64.wrap (q : Int) = (q : Int) := IntWalk.i64_in _ (by omega)
        have w2 : IntKind.i64.wrap (z : Int) = (z : Int) := IntWalk.i64_in _ (by omega)
        have z1 : (0 : Int) ≤ (q : Int) := by omega
        have z2 : (q : Int) < 25 := by omega
        have z3 : (0 : Int) ≤ (z : Int) := by omega
        have z4 : (z : Int) ≤ 64 := by omega
        have cl := B.lane (by omega) hq25
        have ca := B.sat
        have HB : Hid (byteAt u m = IntKind.u8.wrap (u q / 2 ^ z)) := Lib.hid (by unfold byteAt; rw [hq, hr, hz, wrap_u8])
        obtain ⟨x0, hx0, hx0a, hx0b⟩ : ∃ x0, u q = x0 ∧ 0 ≤ x0 ∧ x0 ≤ 18446744073709551615 := ⟨_, rfl, by have := hin q hq25; unfold in64 at this; omega, by have := hin q hq25; unfold in64 at this; omega⟩
        rw [hx0] at cl HB
        clear hx0 hq hr hz
        refine wp_region_marks_in (fun _ => oneMean 5 #[.int .u8 (IntKind.u8.wrap (x0 / 2 ^ z))]) 20 (by kernel_rfl) (by kernel_rfl) (fun k0 => ?_)
        simp only [List.take_succ_cons, List.take_zero, List.drop_succ_cons, List.drop_zero]
        repeat (first
          | (refine marks_ex rfl rfl (by kernel_rfl) ?_; apply Exists.intro; refine And.intro (fun w' hk => ?_) (And.intro ?_ ?_); (focus (have q0 := hk.cell cl; have q1 := hk.cell ca; clear hk; go_simp; exact rfl)); (focus (exact rfl)); simp only [Act.put, List.setIfInBounds_toArray, List.set_cons_zero, List.set_cons_succ]))
        refine marks_lay 0 rfl rfl (by kernel_rfl) (fun w' hk => ?_) ?_
        · refine ⟨_, _, by go_simp, (Kept.refl w').alloc _, ⟨_, rfl, Blk.new _ _ _⟩⟩
        simp only [Act.put, List.setIfInBounds_toArray, List.set_cons_zero, List.set_cons_succ]
        refine marks_nil ?_
        intro a'' W5 hkW5 hra
        obtain ⟨mb, hmb, rfl⟩ := hra.mark1 57 0 (by kernel_rfl) rfl
        simp only [Act.put, List.setIfInBounds_toArray, List.set_cons_zero, List.set_cons_succ]
        clear hra
        obtain ⟨nb, rfl, Bn⟩ := hmb
        have k5 := k.later hkW5
        have B5 := B.kept hkW5
        have hown5 := ownsRow_kept hown hkW5
        have hg5 : g ≤ W5.heap.size := Nat.le_trans hgW hkW5.size
        clear ca cl hkW5 k B hown
        go_wp2_with (at_builtin; refine wpList_append_at 42 5 info5 Try.underlying42 rfl (by decide) hown5 nb 0 1 1 [.int .u8 (IntKind.u8.wrap (x0 / 2 ^ z))] rfl (by intro u hu; simp at hu; subst hu; rfl) (by intro j u hj; rw [Nat.zero_add]; exact Bn.cell j (by simpa using hj)) (by omega) (by decide) (by decide) hg5 (.tmp 38) (.tmp 57) rfl rfl rfl rfl ?_; intro v' w1 hown6 hgrow hne; have k6 := k5.grown hown5 hgrow (by omega); have B6 := grown_blk B5 hown5 hgrow (by omega); have hg6 : g ≤ w1.heap.size := Nat.le_trans hg5 hgrow.size; clear hown5 hgrow k5 B5 Bn hg5; have ca := B6.sat; have fa := B6.free; have w5 : IntKind.i64.wrap ((m : Int) + 1) = (m : Int) + 1 := IntWalk.i64_in _ (by omega))
        go_roundw
        case rel => exact ⟨i + 1, by omega, by go_num, k6.trans (Touch.set _ _ _ _), by rw [HV.out.1, HN.out.1, HN.out.2]; exact B6.setAt _, by rw [HV.out.2, HN.out.1, HN.out.2, HB.out]; exact ownsRow_touch hown6 (Touch.set _ _ _ _) hbg, by simpa [World.setCell] using hg6⟩
        case measure => simp [intOf]; omega
    · have yi : (many : Int) ≤ (i : Int) := by omega
      obtain rfl : i = many := by omega
      go_wp2_with fail
      go_ret
      exact ⟨_, rfl, k, B, ownsRow_base hown hwg⟩
set_option maxRecDepth 100000 in
set_option maxHeartbeats 4000000 in
theorem k_Read_gt (w : World) (b : Nat) (s : Nat → Int) (d : Int) (p : Nat) (hp : p ≤ 168) (hs : Hid (∀ i, i < 25 → in64 (s i))) (many : Nat) (hm : 65536 < many) (hm63 : (many : Int) ≤ 9223372036854775807) (hB : Sp w b s p d true) :
    Calls Try.prog 67 #[.pointer (some ⟨b, 0, none⟩), .int .i64 (many : Int)] w fun e w' => ∃ v, e = .returned v ∧ Touch b w w' ∧ Sp w' b (gives s p 65536).1 (gives s p 65536).2 d true ∧ w'.ownsRow w.heap.size 5 1 v 65536 (outsV s p 65536) := by
  have c0 := hB.sgive
  have z0 : (0 : Int) ≤ (many : Int) := by omega
  have y1 : (65536 : Int) < (many : Int) := by omega
  obtain ⟨cs, hmk0⟩ := make42 65536 (by omega)
  go_enter Try.func67, Try.ntmps67
  obtain ⟨hmk1, hown0⟩ := hmk0 w
  have hmk : (Instr.makeSlice 42 (.int .i64 0) (.int .i64 65536)).run Try.prog w = .ok (.slice (some ⟨w.heap.size, 0, none⟩) 0 65536) (w.alloc (.cells cs 5)) := hmk1
  clear hmk1 hmk0
  obtain ⟨g, hg⟩ : ∃ g, w.heap.size = g := ⟨_, rfl⟩
  rw [hg] at hmk hown0
  have hbg : b < g := hg ▸ hB.lt
  have hwg : w.heap.size ≤ g := by omega
  go_upto_region 6 with (fail)
  refine abs_world (fun W => Touch b w W ∧ Sp W b s p d true ∧ W.ownsRow g 5 1 (.slice (some ⟨g, 0, none⟩) 0 65536) 0 [] ∧ g ≤ W.heap.size) ⟨Touch.alloc _ _ _, hB.alloc _, hown0, by simp; omega⟩ ?_
  rintro W1 ⟨k, B, hown, hgW⟩
  clear c0 hB hown0 hmk
  go_wp2_with fail
  go_loopw [5, 24] (fun v t' wr => ∃ i : Nat, i ≤ 65536 ∧ t' = .int .i64 i ∧ Touch b w wr ∧ Sp wr b (gives s p i).1 (gives s p i).2 d true ∧ wr.ownsRow g 5 1 v i (outsV s p i) ∧ g ≤ wr.heap.size) (fun _ t' _ => 65536 - (intOf t').toNat)
  case atStart => exact ⟨0, Nat.zero_le _, rfl, k, B, hown, hgW⟩
  case round =>
    clear k B hown hgW
    obtain ⟨i, hi, rfl, k, B, hown, hgW⟩ := hrel
    have zi : (0 : Int) ≤ (i : Int) := by omega
    obtain ⟨sa, sn, sc, rfl⟩ := ownsRow_slice hown
    rcases Nat.lt_or_ge i 65536 with hlt | hge
    · have yi : (i : Int) < 65536 := by omega
      have hple := gives_le s (a := p) (by omega) i
      have hin0 := gives_in hs.out p i
      have HV : Hid (gives s p (i + 1) = (norm (gives s p i).1 (gives s p i).2, normA (gives s p i).2 + 1) ∧ outsV s p (i + 1) = outsV s p i ++ [.int .u8 (byteAt (norm (gives s p i).1 (gives s p i).2) (normA (gives s p i).2))]) := Lib.hid ⟨rfl, by unfold outsV; rw [List.range_succ, List.map_append]; rfl⟩
      generalize (gives s p i).1 = u at *
      generalize (gives s p i).2 = m at *
      have ca := B.sat
      have fa := B.free
      by_cases hm168 : m = 168
      · subst hm168
        go_wp2_with fail
        refine (k_permute _ b 28 139 u _ (by omega) B).mono ?_
        rintro e W2 ⟨rfl, k1, B1⟩
        have k2 := k.trans k1
        have hown2 := ownsRow_touch hown k1 hbg
        have hgW2 : g ≤ W2.heap.size := Nat.le_trans hgW k1.size
        clear k k1 ca fa B hown hgW
        have ca := B1.sat
        have fa := B1.free
        go_upto_region 11 with (fail)
        obtain ⟨m0, hm0, hm0l⟩ : ∃ m0 : Nat, Hid (m0 = 0) ∧ m0 < 168 := ⟨0, Lib.hid rfl, by omega⟩
        refine abs_world (fun W => Touch b w W ∧ Sp W b (kperm 12 u) (m0 : Int) d true ∧ W.ownsRow g 5 1 (.slice sa sn sc) i (outsV s p i) ∧ g ≤ W.heap.size) ⟨k2.trans (Touch.set _ _ _ _), by rw [hm0.out]; exact B1.setAt 0, ownsRow_touch hown2 (Touch.set _ _ _ _) hbg, by simpa [World.setCell] using hgW2⟩ ?_
        clear ca fa k2 B1 hown2 hgW2
        rintro W4 ⟨k, B, hown, hgW⟩
        have hin : ∀ j, j < 25 → in64 (kperm 12 u j) := kperm_in hin0 12
        obtain ⟨q, hq, hq25⟩ : ∃ q, m0 / 8 = q ∧ q < 25 := ⟨_, rfl, by omega⟩
        obtain ⟨r, hr, hr8⟩ : ∃ r, m0 % 8 = r ∧ r < 8 := ⟨_, rfl, by omega⟩
        obtain ⟨z, hz, hz56⟩ : ∃ z, 8 * r = z ∧ z ≤ 56 := ⟨_, rfl, by omega⟩
        have e1 : (m0 : Int).tdiv 8 = (q : Int) := by rw [Int.tdiv_eq_ediv_of_nonneg (by omega)]; omega
        have e1' : (m0 : Int) / 8 = (q : Int) := by omega
        have e2 : (m0 : Int).tmod 8 = (r : Int) := by rw [Int.tmod_eq_emod_of_nonneg (by omega)]; omega
        have e2' : (m0 : Int) % 8 = (r : Int) := by omega
        have e3 : 8 * (r : Int) = (z : Int) := by omega
        have w1 : IntKind.i64.wrap (q : Int) = (q : Int) := IntWalk.i64_in _ (by omega)
        have w2 : IntKind.i64.wrap (z : Int) = (z : Int) := IntWalk.i64_in _ (by omega)
        have z1 : (0 : Int) ≤ (q : Int) := by omega
        have z2 : (q : Int) < 25 := by omega
        have z3 : (0 : Int) ≤ (z : Int) := by omega
        have z4 : (z : Int) ≤ 64 := by omega
        have cl := B.lane (by omega) hq25
        have ca := B.sat
        have HB : Hid (byteAt (kperm 12 u) m0 = IntKind.u8.wrap ((kperm 12 u) q / 2 ^ z)) := Lib.hid (by unfold byteAt; rw [hq, hr, hz, wrap_u8])
        obtain ⟨x0, hx0, hx0a, hx0b⟩ : ∃ x0, (kperm 12 u) q = x0 ∧ 0 ≤ x0 ∧ x0 ≤ 18446744073709551615 := ⟨_, rfl, by have := hin q hq25; unfold in64 at this; omega, by have := hin q hq25; unfold in64 at this; omega⟩
        rw [hx0] at cl HB
        clear hx0 hq hr hz
        refine wp_region_marks_in (fun _ => oneMean 5 #[.int .u8 (IntKind.u8.wrap (x0 / 2 ^ z))]) 20 (by kernel_rfl) (by kernel_rfl) (fun k0 => ?_)
        simp only [List.take_succ_cons, List.take_zero, List.drop_succ_cons, List.drop_zero]
        repeat (first
          | (refine marks_ex rfl rfl (by kernel_rfl) ?_; apply Exists.intro; refine And.intro (fun w' hk => ?_) (And.intro ?_ ?_); (focus (have q0 := hk.cell cl; have q1 := hk.cell ca; clear hk; go_simp; exact rfl)); (focus (exact rfl)); simp only [Act.put, List.setIfInBounds_toArray, List.set_cons_zero, List.set_cons_succ]))
        refine marks_lay 0 rfl rfl (by kernel_rfl) (fun w' hk => ?_) ?_
        · refine ⟨_, _, by go_simp, (Kept.refl w').alloc _, ⟨_, rfl, Blk.new _ _ _⟩⟩
        simp only [Act.put, List.setIfInBounds_toArray, List.set_cons_zero, List.set_cons_succ]
        refine marks_nil ?_
        intro a'' W5 hkW5 hra
        obtain ⟨mb, hmb, rfl⟩ := hra.mark1 57 0 (by kernel_rfl) rfl
        simp only [Act.put, List.setIfInBounds_toArray, List.set_cons_zero, List.set_cons_succ]
        clear hra
        obtain ⟨nb, rfl, Bn⟩ := hmb
        have k5 := k.later hkW5
        have B5 := B.kept hkW5
        have hown5 := ownsRow_kept hown hkW5
        have hg5 : g ≤ W5.heap.size := Nat.le_trans hgW hkW5.size
        clear ca cl hkW5 k B hown
        go_wp2_with (at_builtin; refine wpList_append_at 42 5 info5 Try.underlying42 rfl (by decide) hown5 nb 0 1 1 [.int .u8 (IntKind.u8.wrap (x0 / 2 ^ z))] rfl (by intro u hu; simp at hu; subst hu; rfl) (by intro j u hj; rw [Nat.zero_add]; exact Bn.cell j (by simpa using hj)) (by omega) (by decide) (by decide) hg5 (.tmp 38) (.tmp 57) rfl rfl rfl rfl ?_; intro v' w1 hown6 hgrow hne; have k6 := k5.grown hown5 hgrow (by omega); have B6 := grown_blk B5 hown5 hgrow (by omega); have hg6 : g ≤ w1.heap.size := Nat.le_trans hg5 hgrow.size; clear hown5 hgrow k5 B5 Bn hg5; have ca := B6.sat; have fa := B6.free; have w5 : IntKind.i64.wrap ((m0 : Int) + 1) = (m0 : Int) + 1 := IntWalk.i64_in _ (by omega))
        go_roundw
        case rel => exact ⟨i + 1, by omega, by go_num, k6.trans (Touch.set _ _ _ _), by rw [HV.out.1]; show Sp _ b (kperm 12 u) ((0 + 1 : Nat) : Int) d true; rw [show ((0 + 1 : Nat) : Int) = (m0 : Int) + 1 by rw [hm0.out]; rfl]; exact B6.setAt ((m0 : Int) + 1), by rw [HV.out.2]; show World.ownsRow _ _ _ _ _ _ (outsV s p i ++ [.int .u8 (byteAt (kperm 12 u) 0)]); have h9 := HB.out; rw [hm0.out] at h9; rw [h9]; exact ownsRow_touch hown6 (Touch.set _ _ _ _) hbg, by simpa [World.setCell] using hg6⟩
        case measure => simp [intOf]; omega
      · have hm2 : (m : Int) ≠ 168 := by omega
        have hm3 : ((m : Int) == 168) = false := by simp [hm2]
        have HN : Hid (norm u m = u ∧ normA m = m) := Lib.hid ⟨if_neg hm168, if_neg hm168⟩
        have hin := hin0
        go_upto_region 11 with (fail)
        clear ca fa
        obtain ⟨q, hq, hq25⟩ : ∃ q, m / 8 = q ∧ q < 25 := ⟨_, rfl, by omega⟩
        obtain ⟨r, hr, hr8⟩ : ∃ r, m % 8 = r ∧ r < 8 := ⟨_, rfl, by omega⟩
        obtain ⟨z, hz, hz56⟩ : ∃ z, 8 * r = z ∧ z ≤ 56 := ⟨_, rfl, by omega⟩
        have e1 : (m : Int).tdiv 8 = (q : Int) := by rw [Int.tdiv_eq_ediv_of_nonneg (by omega)]; omega
        have e1' : (m : Int) / 8 = (q : Int) := by omega
        have e2 : (m : Int).tmod 8 = (r : Int) := by rw [Int.tmod_eq_emod_of_nonneg (by omega)]; omega
        have e2' : (m : Int) % 8 = (r : Int) := by omega
        have e3 : 8 * (r : Int) = (z : Int) := by omega
        have w1 : IntKind.i64.wrap (q : Int) = (q : Int) := IntWalk.i64_in _ (by omega)
        have w2 : IntKind.i64.wrap (z : Int) = (z : Int) := IntWalk.i64_in _ (by omega)
        have z1 : (0 : Int) ≤ (q : Int) := by omega
        have z2 : (q : Int) < 25 := by omega
        have z3 : (0 : Int) ≤ (z : Int) := by omega
        have z4 : (z : Int) ≤ 64 := by omega
        have cl := B.lane (by omega) hq25
        have ca := B.sat
        have HB : Hid (byteAt u m = IntKind.u8.wrap (u q / 2 ^ z)) := Lib.hid (by unfold byteAt; rw [hq, hr, hz, wrap_u8])
        obtain ⟨x0, hx0, hx0a, hx0b⟩ : ∃ x0, u q = x0 ∧ 0 ≤ x0 ∧ x0 ≤ 18446744073709551615 := ⟨_, rfl, by have := hin q hq25; unfold in64 at this; omega, by have := hin q hq25; unfold in64 at this; omega⟩
        rw [hx0] at cl HB
        clear hx0 hq hr hz
        refine wp_region_marks_in (fun _ => oneMean 5 #[.int .u8 (IntKind.u8.wrap (x0 / 2 ^ z))]) 20 (by kernel_rfl) (by kernel_rfl) (fun k0 => ?_)
        simp only [List.take_succ_cons, List.take_zero, List.drop_succ_cons, List.drop_zero]
        repeat (first
          | (refine marks_ex rfl rfl (by kernel_rfl) ?_; apply Exists.intro; refine And.intro (fun w' hk => ?_) (And.intro ?_ ?_); (focus (have q0 := hk.cell cl; have q1 := hk.cell ca; clear hk; go_simp; exact rfl)); (focus (exact rfl)); simp only [Act.put, List.setIfInBounds_toArray, List.set_cons_zero, List.set_cons_succ]))
        refine marks_lay 0 rfl rfl (by kernel_rfl) (fun w' hk => ?_) ?_
        · refine ⟨_, _, by go_simp, (Kept.refl w').alloc _, ⟨_, rfl, Blk.new _ _ _⟩⟩
        simp only [Act.put, List.setIfInBounds_toArray, List.set_cons_zero, List.set_cons_succ]
        refine marks_nil ?_
        intro a'' W5 hkW5 hra
        obtain ⟨mb, hmb, rfl⟩ := hra.mark1 57 0 (by kernel_rfl) rfl
        simp only [Act.put, List.setIfInBounds_toArray, List.set_cons_zero, List.set_cons_succ]
        clear hra
        obtain ⟨nb, rfl, Bn⟩ := hmb
        have k5 := k.later hkW5
        have B5 := B.kept hkW5
        have hown5 := ownsRow_kept hown hkW5
        have hg5 : g ≤ W5.heap.size := Nat.le_trans hgW hkW5.size
        clear ca cl hkW5 k B hown
        go_wp2_with (at_builtin; refine wpList_append_at 42 5 info5 Try.underlying42 rfl (by decide) hown5 nb 0 1 1 [.int .u8 (IntKind.u8.wrap (x0 / 2 ^ z))] rfl (by intro u hu; simp at hu; subst hu; rfl) (by intro j u hj; rw [Nat.zero_add]; exact Bn.cell j (by simpa using hj)) (by omega) (by decide) (by decide) hg5 (.tmp 38) (.tmp 57) rfl rfl rfl rfl ?_; intro v' w1 hown6 hgrow hne; have k6 := k5.grown hown5 hgrow (by omega); have B6 := grown_blk B5 hown5 hgrow (by omega); have hg6 : g ≤ w1.heap.size := Nat.le_trans hg5 hgrow.size; clear hown5 hgrow k5 B5 Bn hg5; have ca := B6.sat; have fa := B6.free; have w5 : IntKind.i64.wrap ((m : Int) + 1) = (m : Int) + 1 := IntWalk.i64_in _ (by omega))
        go_roundw
        case rel => exact ⟨i + 1, by omega, by go_num, k6.trans (Touch.set _ _ _ _), by rw [HV.out.1, HN.out.1, HN.out.2]; exact B6.setAt _, by rw [HV.out.2, HN.out.1, HN.out.2, HB.out]; exact ownsRow_touch hown6 (Touch.set _ _ _ _) hbg, by simpa [World.setCell] using hg6⟩
        case measure => simp [intOf]; omega
    · have yi : 65536 ≤ (i : Int) := by omega
      obtain rfl : i = 65536 := by omega
      go_wp2_with fail
      go_ret
      exact ⟨_, rfl, k, B, ownsRow_base hown hwg⟩
set_option maxRecDepth 100000 in
set_option maxHeartbeats 4000000 in
theorem k_End_le (w : World) (b : Nat) (s : Nat → Int) (d : Int) (p : Nat) (hp : p ≤ 168) (many : Nat) (hm : many ≤ 65536) (d0 : 0 ≤ d) (d1 : d ≤ 255) (hB : Sp w b s p d false) :
    Calls Try.prog 67 #[.pointer (some ⟨b, 0, none⟩), .int .i64 (many : Int)] w fun e w' => ∃ v, e = .returned v ∧ Touch b w w' ∧ Sp w' b (gives (kend s p d) 0 many).1 (gives (kend s p d) 0 many).2 d true ∧ w'.ownsRow w.heap.size 5 1 v many (outsV (kend s p d) 0 many) := by
  have c0 := hB.sgive
  have z0 : (0 : Int) ≤ (many : Int) := by omega
  have y1 : (many : Int) ≤ 65536 := by omega
  obtain ⟨cs, hmk0⟩ := make42 many (by omega)
  go_enter Try.func67, Try.ntmps67
  go_wp2_with fail
  refine (k_end _ b s p hp d d0 d1 hB).mono ?_
  rintro e W0 ⟨rfl, k0, B0⟩
  clear c0
  have hbase0 := k0.size
  obtain ⟨hmk1, hown0⟩ := hmk0 W0
  have hmk : (Instr.makeSlice 42 (.int .i64 0) (.int .i64 (many : Int))).run Try.prog W0 = .ok (.slice (some ⟨W0.heap.size, 0, none⟩) 0 many) (W0.alloc (.cells cs 5)) := hmk1
  clear hmk1 hmk0
  obtain ⟨g, hg⟩ : ∃ g, W0.heap.size = g := ⟨_, rfl⟩
  rw [hg] at hmk hown0
  have hbg : b < g := hg ▸ B0.lt
  have hwg : w.heap.size ≤ g := by omega
  go_upto_region 6 with (fail)
  refine abs_world (fun W => Touch b w W ∧ Sp W b (kend s p d) 0 d true ∧ W.ownsRow g 5 1 (.slice (some ⟨g, 0, none⟩) 0 many) 0 [] ∧ g ≤ W.heap.size) ⟨k0.trans (Touch.alloc _ _ _), B0.alloc _, hown0, by simp; omega⟩ ?_
  rintro W1 ⟨k, B, hown, hgW⟩
  clear hB B0 k0 hown0 hmk
  go_wp2_with fail
  go_loopw [5, 24] (fun v t' wr => ∃ i : Nat, i ≤ many ∧ t' = .int .i64 i ∧ Touch b w wr ∧ Sp wr b (gives (kend s p d) 0 i).1 (gives (kend s p d) 0 i).2 d true ∧ wr.ownsRow g 5 1 v i (outsV (kend s p d) 0 i) ∧ g ≤ wr.heap.size) (fun _ t' _ => many - (intOf t').toNat)
  case atStart => exact ⟨0, Nat.zero_le _, rfl, k, B, hown, hgW⟩
  case round =>
    clear k B hown hgW
    obtain ⟨i, hi, rfl, k, B, hown, hgW⟩ := hrel
    have zi : (0 : Int) ≤ (i : Int) := by omega
    obtain ⟨sa, sn, sc, rfl⟩ := ownsRow_slice hown
    rcases Nat.lt_or_ge i many with hlt | hge
    · have yi : (i : Int) < (many : Int) := by omega
      have hple := gives_le (kend s p d) (a := 0) (by omega) i
      have hin0 := gives_in (kend_in s p d) 0 i
      have HV : Hid (gives (kend s p d) 0 (i + 1) = (norm (gives (kend s p d) 0 i).1 (gives (kend s p d) 0 i).2, normA (gives (kend s p d) 0 i).2 + 1) ∧ outsV (kend s p d) 0 (i + 1) = outsV (kend s p d) 0 i ++ [.int .u8 (byteAt (norm (gives (kend s p d) 0 i).1 (gives (kend s p d) 0 i).2) (normA (gives (kend s p d) 0 i).2))]) := Lib.hid ⟨rfl, by unfold outsV; rw [List.range_succ, List.map_append]; rfl⟩
      generalize (gives (kend s p d) 0 i).1 = u at *
      generalize (gives (kend s p d) 0 i).2 = m at *
      have ca := B.sat
      have fa := B.free
      by_cases hm168 : m = 168
      · subst hm168
        go_wp2_with fail
        refine (k_permute _ b 28 139 u _ (by omega) B).mono ?_
        rintro e W2 ⟨rfl, k1, B1⟩
        have k2 := k.trans k1
        have hown2 := ownsRow_touch hown k1 hbg
        have hgW2 : g ≤ W2.heap.size := Nat.le_trans hgW k1.size
        clear k k1 ca fa B hown hgW
        have ca := B1.sat
        have fa := B1.free
        go_upto_region 11 with (fail)
        obtain ⟨m0, hm0, hm0l⟩ : ∃ m0 : Nat, Hid (m0 = 0) ∧ m0 < 168 := ⟨0, Lib.hid rfl, by omega⟩
        refine abs_world (fun W => Touch b w W ∧ Sp W b (kperm 12 u) (m0 : Int) d true ∧ W.ownsRow g 5 1 (.slice sa sn sc) i (outsV (kend s p d) 0 i) ∧ g ≤ W.heap.size) ⟨k2.trans (Touch.set _ _ _ _), by rw [hm0.out]; exact B1.setAt 0, ownsRow_touch hown2 (Touch.set _ _ _ _) hbg, by simpa [World.setCell] using hgW2⟩ ?_
        clear ca fa k2 B1 hown2 hgW2
        rintro W4 ⟨k, B, hown, hgW⟩
        have hin : ∀ j, j < 25 → in64 (kperm 12 u j) := kperm_in hin0 12
        obtain ⟨q, hq, hq25⟩ : ∃ q, m0 / 8 = q ∧ q < 25 := ⟨_, rfl, by omega⟩
        obtain ⟨r, hr, hr8⟩ : ∃ r, m0 % 8 = r ∧ r < 8 := ⟨_, rfl, by omega⟩
        obtain ⟨z, hz, hz56⟩ : ∃ z, 8 * r = z ∧ z ≤ 56 := ⟨_, rfl, by omega⟩
        have e1 : (m0 : Int).tdiv 8 = (q : Int) := by rw [Int.tdiv_eq_ediv_of_nonneg (by omega)]; omega
        have e1' : (m0 : Int) / 8 = (q : Int) := by omega
        have e2 : (m0 : Int).tmod 8 = (r : Int) := by rw [Int.tmod_eq_emod_of_nonneg (by omega)]; omega
        have e2' : (m0 : Int) % 8 = (r : Int) := by omega
        have e3 : 8 * (r : Int) = (z : Int) := by omega
        have w1 : IntKind.i64.wrap (q : Int) = (q : Int) := IntWalk.i64_in _ (by omega)
        have w2 : IntKind.i64.wrap (z : Int) = (z : Int) := IntWalk.i64_in _ (by omega)
        have z1 : (0 : Int) ≤ (q : Int) := by omega
        have z2 : (q : Int) < 25 := by omega
        have z3 : (0 : Int) ≤ (z : Int) := by omega
        have z4 : (z : Int) ≤ 64 := by omega
        have cl := B.lane (by omega) hq25
        have ca := B.sat
        have HB : Hid (byteAt (kperm 12 u) m0 = IntKind.u8.wrap ((kperm 12 u) q / 2 ^ z)) := Lib.hid (by unfold byteAt; rw [hq, hr, hz, wrap_u8])
        obtain ⟨x0, hx0, hx0a, hx0b⟩ : ∃ x0, (kperm 12 u) q = x0 ∧ 0 ≤ x0 ∧ x0 ≤ 18446744073709551615 := ⟨_, rfl, by have := hin q hq25; unfold in64 at this; omega, by have := hin q hq25; unfold in64 at this; omega⟩
        rw [hx0] at cl HB
        clear hx0 hq hr hz
        refine wp_region_marks_in (fun _ => oneMean 5 #[.int .u8 (IntKind.u8.wrap (x0 / 2 ^ z))]) 20 (by kernel_rfl) (by kernel_rfl) (fun k0 => ?_)
        simp only [List.take_succ_cons, List.take_zero, List.drop_succ_cons, List.drop_zero]
        repeat (first
          | (refine marks_ex rfl rfl (by kernel_rfl) ?_; apply Exists.intro; refine And.intro (fun w' hk => ?_) (And.intro ?_ ?_); (focus (have q0 := hk.cell cl; have q1 := hk.cell ca; clear hk; go_simp; exact rfl)); (focus (exact rfl)); simp only [Act.put, List.setIfInBounds_toArray, List.set_cons_zero, List.set_cons_succ]))
        refine marks_lay 0 rfl rfl (by kernel_rfl) (fun w' hk => ?_) ?_
        · refine ⟨_, _, by go_simp, (Kept.refl w').alloc _, ⟨_, rfl, Blk.new _ _ _⟩⟩
        simp only [Act.put, List.setIfInBounds_toArray, List.set_cons_zero, List.set_cons_succ]
        refine marks_nil ?_
        intro a'' W5 hkW5 hra
        obtain ⟨mb, hmb, rfl⟩ := hra.mark1 57 0 (by kernel_rfl) rfl
        simp only [Act.put, List.setIfInBounds_toArray, List.set_cons_zero, List.set_cons_succ]
        clear hra
        obtain ⟨nb, rfl, Bn⟩ := hmb
        have k5 := k.later hkW5
        have B5 := B.kept hkW5
        have hown5 := ownsRow_kept hown hkW5
        have hg5 : g ≤ W5.heap.size := Nat.le_trans hgW hkW5.size
        clear ca cl hkW5 k B hown
        go_wp2_with (at_builtin; refine wpList_append_at 42 5 info5 Try.underlying42 rfl (by decide) hown5 nb 0 1 1 [.int .u8 (IntKind.u8.wrap (x0 / 2 ^ z))] rfl (by intro u hu; simp at hu; subst hu; rfl) (by intro j u hj; rw [Nat.zero_add]; exact Bn.cell j (by simpa using hj)) (by omega) (by decide) (by decide) hg5 (.tmp 38) (.tmp 57) rfl rfl rfl rfl ?_; intro v' w1 hown6 hgrow hne; have k6 := k5.grown hown5 hgrow (by omega); have B6 := grown_blk B5 hown5 hgrow (by omega); have hg6 : g ≤ w1.heap.size := Nat.le_trans hg5 hgrow.size; clear hown5 hgrow k5 B5 Bn hg5; have ca := B6.sat; have fa := B6.free; have w5 : IntKind.i64.wrap ((m0 : Int) + 1) = (m0 : Int) + 1 := IntWalk.i64_in _ (by omega))
        go_roundw
        case rel => exact ⟨i + 1, by omega, by go_num, k6.trans (Touch.set _ _ _ _), by rw [HV.out.1]; show Sp _ b (kperm 12 u) ((0 + 1 : Nat) : Int) d true; rw [show ((0 + 1 : Nat) : Int) = (m0 : Int) + 1 by rw [hm0.out]; rfl]; exact B6.setAt ((m0 : Int) + 1), by rw [HV.out.2]; show World.ownsRow _ _ _ _ _ _ (outsV (kend s p d) 0 i ++ [.int .u8 (byteAt (kperm 12 u) 0)]); have h9 := HB.out; rw [hm0.out] at h9; rw [h9]; exact ownsRow_touch hown6 (Touch.set _ _ _ _) hbg, by simpa [World.setCell] using hg6⟩
        case measure => simp [intOf]; omega
      · have hm2 : (m : Int) ≠ 168 := by omega
        have hm3 : ((m : Int) == 168) = false := by simp [hm2]
        have HN : Hid (norm u m = u ∧ normA m = m) := Lib.hid ⟨if_neg hm168, if_neg hm168⟩
        have hin := hin0
        go_upto_region 11 with (fail)
        clear ca fa
        obtain ⟨q, hq, hq25⟩ : ∃ q, m / 8 = q ∧ q < 25 := ⟨_, rfl, by omega⟩
        obtain ⟨r, hr, hr8⟩ : ∃ r, m % 8 = r ∧ r < 8 := ⟨_, rfl, by omega⟩
        obtain ⟨z, hz, hz56⟩ : ∃ z, 8 * r = z ∧ z ≤ 56 := ⟨_, rfl, by omega⟩
        have e1 : (m : Int).tdiv 8 = (q : Int) := by rw [Int.tdiv_eq_ediv_of_nonneg (by omega)]; omega
        have e1' : (m : Int) / 8 = (q : Int) := by omega
        have e2 : (m : Int).tmod 8 = (r : Int) := by rw [Int.tmod_eq_emod_of_nonneg (by omega)]; omega
        have e2' : (m : Int) % 8 = (r : Int) := by omega
        have e3 : 8 * (r : Int) = (z : Int) := by omega
        have w1 : IntKind.i64.wrap (q : Int) = (q : Int) := IntWalk.i64_in _ (by omega)
        have w2 : IntKind.i64.wrap (z : Int) = (z : Int) := IntWalk.i64_in _ (by omega)
        have z1 : (0 : Int) ≤ (q : Int) := by omega
        have z2 : (q : Int) < 25 := by omega
        have z3 : (0 : Int) ≤ (z : Int) := by omega
        have z4 : (z : Int) ≤ 64 := by omega
        have cl := B.lane (by omega) hq25
        have ca := B.sat
        have HB : Hid (byteAt u m = IntKind.u8.wrap (u q / 2 ^ z)) := Lib.hid (by unfold byteAt; rw [hq, hr, hz, wrap_u8])
        obtain ⟨x0, hx0, hx0a, hx0b⟩ : ∃ x0, u q = x0 ∧ 0 ≤ x0 ∧ x0 ≤ 18446744073709551615 := ⟨_, rfl, by have := hin q hq25; unfold in64 at this; omega, by have := hin q hq25; unfold in64 at this; omega⟩
        rw [hx0] at cl HB
        clear hx0 hq hr hz
        refine wp_region_marks_in (fun _ => oneMean 5 #[.int .u8 (IntKind.u8.wrap (x0 / 2 ^ z))]) 20 (by kernel_rfl) (by kernel_rfl) (fun k0 => ?_)
        simp only [List.take_succ_cons, List.take_zero, List.drop_succ_cons, List.drop_zero]
        repeat (first
          | (refine marks_ex rfl rfl (by kernel_rfl) ?_; apply Exists.intro; refine And.intro (fun w' hk => ?_) (And.intro ?_ ?_); (focus (have q0 := hk.cell cl; have q1 := hk.cell ca; clear hk; go_simp; exact rfl)); (focus (exact rfl)); simp only [Act.put, List.setIfInBounds_toArray, List.set_cons_zero, List.set_cons_succ]))
        refine marks_lay 0 rfl rfl (by kernel_rfl) (fun w' hk => ?_) ?_
        · refine ⟨_, _, by go_simp, (Kept.refl w').alloc _, ⟨_, rfl, Blk.new _ _ _⟩⟩
        simp only [Act.put, List.setIfInBounds_toArray, List.set_cons_zero, List.set_cons_succ]
        refine marks_nil ?_
        intro a'' W5 hkW5 hra
        obtain ⟨mb, hmb, rfl⟩ := hra.mark1 57 0 (by kernel_rfl) rfl
        simp only [Act.put, List.setIfInBounds_toArray, List.set_cons_zero, List.set_cons_succ]
        clear hra
        obtain ⟨nb, rfl, Bn⟩ := hmb
        have k5 := k.later hkW5
        have B5 := B.kept hkW5
        have hown5 := ownsRow_kept hown hkW5
        have hg5 : g ≤ W5.heap.size := Nat.le_trans hgW hkW5.size
        clear ca cl hkW5 k B hown
        go_wp2_with (at_builtin; refine wpList_append_at 42 5 info5 Try.underlying42 rfl (by decide) hown5 nb 0 1 1 [.int .u8 (IntKind.u8.wrap (x0 / 2 ^ z))] rfl (by intro u hu; simp at hu; subst hu; rfl) (by intro j u hj; rw [Nat.zero_add]; exact Bn.cell j (by simpa using hj)) (by omega) (by decide) (by decide) hg5 (.tmp 38) (.tmp 57) rfl rfl rfl rfl ?_; intro v' w1 hown6 hgrow hne; have k6 := k5.grown hown5 hgrow (by omega); have B6 := grown_blk B5 hown5 hgrow (by omega); have hg6 : g ≤ w1.heap.size := Nat.le_trans hg5 hgrow.size; clear hown5 hgrow k5 B5 Bn hg5; have ca := B6.sat; have fa := B6.free; have w5 : IntKind.i64.wrap ((m : Int) + 1) = (m : Int) + 1 := IntWalk.i64_in _ (by omega))
        go_roundw
        case rel => exact ⟨i + 1, by omega, by go_num, k6.trans (Touch.set _ _ _ _), by rw [HV.out.1, HN.out.1, HN.out.2]; exact B6.setAt _, by rw [HV.out.2, HN.out.1, HN.out.2, HB.out]; exact ownsRow_touch hown6 (Touch.set _ _ _ _) hbg, by simpa [World.setCell] using hg6⟩
        case measure => simp [intOf]; omega
    · have yi : (many : Int) ≤ (i : Int) := by omega
      obtain rfl : i = many := by omega
      go_wp2_with fail
      go_ret
      exact ⟨_, rfl, k, B, ownsRow_base hown hwg⟩
set_option maxRecDepth 100000 in
set_option maxHeartbeats 4000000 in
theorem k_End_gt (w : World) (b : Nat) (s : Nat → Int) (d : Int) (p : Nat) (hp : p ≤ 168) (many : Nat) (hm : 65536 < many) (hm63 : (many : Int) ≤ 9223372036854775807) (d0 : 0 ≤ d) (d1 : d ≤ 255) (hB : Sp w b s p d false) :
    Calls Try.prog 67 #[.pointer (some ⟨b, 0, none⟩), .int .i64 (many : Int)] w fun e w' => ∃ v, e = .returned v ∧ Touch b w w' ∧ Sp w' b (gives (kend s p d) 0 65536).1 (gives (kend s p d) 0 65536).2 d true ∧ w'.ownsRow w.heap.size 5 1 v 65536 (outsV (kend s p d) 0 65536) := by
  have c0 := hB.sgive
  have z0 : (0 : Int) ≤ (many : Int) := by omega
  have y1 : (65536 : Int) < (many : Int) := by omega
  obtain ⟨cs, hmk0⟩ := make42 65536 (by omega)
  go_enter Try.func67, Try.ntmps67
  go_wp2_with fail
  refine (k_end _ b s p hp d d0 d1 hB).mono ?_
  rintro e W0 ⟨rfl, k0, B0⟩
  clear c0
  have hbase0 := k0.size
  obtain ⟨hmk1, hown0⟩ := hmk0 W0
  have hmk : (Instr.makeSlice 42 (.int .i64 0) (.int .i64 65536)).run Try.prog W0 = .ok (.slice (some ⟨W0.heap.size, 0, none⟩) 0 65536) (W0.alloc (.cells cs 5)) := hmk1
  clear hmk1 hmk0
  obtain ⟨g, hg⟩ : ∃ g, W0.heap.size = g := ⟨_, rfl⟩
  rw [hg] at hmk hown0
  have hbg : b < g := hg ▸ B0.lt
  have hwg : w.heap.size ≤ g := by omega
  go_upto_region 6 with (fail)
  refine abs_world (fun W => Touch b w W ∧ Sp W b (kend s p d) 0 d true ∧ W.ownsRow g 5 1 (.slice (some ⟨g, 0, none⟩) 0 65536) 0 [] ∧ g ≤ W.heap.size) ⟨k0.trans (Touch.alloc _ _ _), B0.alloc _, hown0, by simp; omega⟩ ?_
  rintro W1 ⟨k, B, hown, hgW⟩
  clear hB B0 k0 hown0 hmk
  go_wp2_with fail
  go_loopw [5, 24] (fun v t' wr => ∃ i : Nat, i ≤ 65536 ∧ t' = .int .i64 i ∧ Touch b w wr ∧ Sp wr b (gives (kend s p d) 0 i).1 (gives (kend s p d) 0 i).2 d true ∧ wr.ownsRow g 5 1 v i (outsV (kend s p d) 0 i) ∧ g ≤ wr.heap.size) (fun _ t' _ => 65536 - (intOf t').toNat)
  case atStart => exact ⟨0, Nat.zero_le _, rfl, k, B, hown, hgW⟩
  case round =>
    clear k B hown hgW
    obtain ⟨i, hi, rfl, k, B, hown, hgW⟩ := hrel
    have zi : (0 : Int) ≤ (i : Int) := by omega
    obtain ⟨sa, sn, sc, rfl⟩ := ownsRow_slice hown
    rcases Nat.lt_or_ge i 65536 with hlt | hge
    · have yi : (i : Int) < 65536 := by omega
      have hple := gives_le (kend s p d) (a := 0) (by omega) i
      have hin0 := gives_in (kend_in s p d) 0 i
      have HV : Hid (gives (kend s p d) 0 (i + 1) = (norm (gives (kend s p d) 0 i).1 (gives (kend s p d) 0 i).2, normA (gives (kend s p d) 0 i).2 + 1) ∧ outsV (kend s p d) 0 (i + 1) = outsV (kend s p d) 0 i ++ [.int .u8 (byteAt (norm (gives (kend s p d) 0 i).1 (gives (kend s p d) 0 i).2) (normA (gives (kend s p d) 0 i).2))]) := Lib.hid ⟨rfl, by unfold outsV; rw [List.range_succ, List.map_append]; rfl⟩
      generalize (gives (kend s p d) 0 i).1 = u at *
      generalize (gives (kend s p d) 0 i).2 = m at *
      have ca := B.sat
      have fa := B.free
      by_cases hm168 : m = 168
      · subst hm168
        go_wp2_with fail
        refine (k_permute _ b 28 139 u _ (by omega) B).mono ?_
        rintro e W2 ⟨rfl, k1, B1⟩
        have k2 := k.trans k1
        have hown2 := ownsRow_touch hown k1 hbg
        have hgW2 : g ≤ W2.heap.size := Nat.le_trans hgW k1.size
        clear k k1 ca fa B hown hgW
        have ca := B1.sat
        have fa := B1.free
        go_upto_region 11 with (fail)
        obtain ⟨m0, hm0, hm0l⟩ : ∃ m0 : Nat, Hid (m0 = 0) ∧ m0 < 168 := ⟨0, Lib.hid rfl, by omega⟩
        refine abs_world (fun W => Touch b w W ∧ Sp W b (kperm 12 u) (m0 : Int) d true ∧ W.ownsRow g 5 1 (.slice sa sn sc) i (outsV (kend s p d) 0 i) ∧ g ≤ W.heap.size) ⟨k2.trans (Touch.set _ _ _ _), by rw [hm0.out]; exact B1.setAt 0, ownsRow_touch hown2 (Touch.set _ _ _ _) hbg, by simpa [World.setCell] using hgW2⟩ ?_
        clear ca fa k2 B1 hown2 hgW2
        rintro W4 ⟨k, B, hown, hgW⟩
        have hin : ∀ j, j < 25 → in64 (kperm 12 u j) := kperm_in hin0 12
        obtain ⟨q, hq, hq25⟩ : ∃ q, m0 / 8 = q ∧ q < 25 := ⟨_, rfl, by omega⟩
        obtain ⟨r, hr, hr8⟩ : ∃ r, m0 % 8 = r ∧ r < 8 := ⟨_, rfl, by omega⟩
        obtain ⟨z, hz, hz56⟩ : ∃ z, 8 * r = z ∧ z ≤ 56 := ⟨_, rfl, by omega⟩
        have e1 : (m0 : Int).tdiv 8 = (q : Int) := by rw [Int.tdiv_eq_ediv_of_nonneg (by omega)]; omega
        have e1' : (m0 : Int) / 8 = (q : Int) := by omega
        have e2 : (m0 : Int).tmod 8 = (r : Int) := by rw [Int.tmod_eq_emod_of_nonneg (by omega)]; omega
        have e2' : (m0 : Int) % 8 = (r : Int) := by omega
        have e3 : 8 * (r : Int) = (z : Int) := by omega
        have w1 : IntKind.i64.wrap (q : Int) = (q : Int) := IntWalk.i64_in _ (by omega)
        have w2 : IntKind.i64.wrap (z : Int) = (z : Int) := IntWalk.i64_in _ (by omega)
        have z1 : (0 : Int) ≤ (q : Int) := by omega
        have z2 : (q : Int) < 25 := by omega
        have z3 : (0 : Int) ≤ (z : Int) := by omega
        have z4 : (z : Int) ≤ 64 := by omega
        have cl := B.lane (by omega) hq25
        have ca := B.sat
        have HB : Hid (byteAt (kperm 12 u) m0 = IntKind.u8.wrap ((kperm 12 u) q / 2 ^ z)) := Lib.hid (by unfold byteAt; rw [hq, hr, hz, wrap_u8])
        obtain ⟨x0, hx0, hx0a, hx0b⟩ : ∃ x0, (kperm 12 u) q = x0 ∧ 0 ≤ x0 ∧ x0 ≤ 18446744073709551615 := ⟨_, rfl, by have := hin q hq25; unfold in64 at this; omega, by have := hin q hq25; unfold in64 at this; omega⟩
        rw [hx0] at cl HB
        clear hx0 hq hr hz
        refine wp_region_marks_in (fun _ => oneMean 5 #[.int .u8 (IntKind.u8.wrap (x0 / 2 ^ z))]) 20 (by kernel_rfl) (by kernel_rfl) (fun k0 => ?_)
        simp only [List.take_succ_cons, List.take_zero, List.drop_succ_cons, List.drop_zero]
        repeat (first
          | (refine marks_ex rfl rfl (by kernel_rfl) ?_; apply Exists.intro; refine And.intro (fun w' hk => ?_) (And.intro ?_ ?_); (focus (have q0 := hk.cell cl; have q1 := hk.cell ca; clear hk; go_simp; exact rfl)); (focus (exact rfl)); simp only [Act.put, List.setIfInBounds_toArray, List.set_cons_zero, List.set_cons_succ]))
        refine marks_lay 0 rfl rfl (by kernel_rfl) (fun w' hk => ?_) ?_
        · refine ⟨_, _, by go_simp, (Kept.refl w').alloc _, ⟨_, rfl, Blk.new _ _ _⟩⟩
        simp only [Act.put, List.setIfInBounds_toArray, List.set_cons_zero, List.set_cons_succ]
        refine marks_nil ?_
        intro a'' W5 hkW5 hra
        obtain ⟨mb, hmb, rfl⟩ := hra.mark1 57 0 (by kernel_rfl) rfl
        simp only [Act.put, List.setIfInBounds_toArray, List.set_cons_zero, List.set_cons_succ]
        clear hra
        obtain ⟨nb, rfl, Bn⟩ := hmb
        have k5 := k.later hkW5
        have B5 := B.kept hkW5
        have hown5 := ownsRow_kept hown hkW5
        have hg5 : g ≤ W5.heap.size := Nat.le_trans hgW hkW5.size
        clear ca cl hkW5 k B hown
        go_wp2_with (at_builtin; refine wpList_append_at 42 5 info5 Try.underlying42 rfl (by decide) hown5 nb 0 1 1 [.int .u8 (IntKind.u8.wrap (x0 / 2 ^ z))] rfl (by intro u hu; simp at hu; subst hu; rfl) (by intro j u hj; rw [Nat.zero_add]; exact Bn.cell j (by simpa using hj)) (by omega) (by decide) (by decide) hg5 (.tmp 38) (.tmp 57) rfl rfl rfl rfl ?_; intro v' w1 hown6 hgrow hne; have k6 := k5.grown hown5 hgrow (by omega); have B6 := grown_blk B5 hown5 hgrow (by omega); have hg6 : g ≤ w1.heap.size := Nat.le_trans hg5 hgrow.size; clear hown5 hgrow k5 B5 Bn hg5; have ca := B6.sat; have fa := B6.free; have w5 : IntKind.i64.wrap ((m0 : Int) + 1) = (m0 : Int) + 1 := IntWalk.i64_in _ (by omega))
        go_roundw
        case rel => exact ⟨i + 1, by omega, by go_num, k6.trans (Touch.set _ _ _ _), by rw [HV.out.1]; show Sp _ b (kperm 12 u) ((0 + 1 : Nat) : Int) d true; rw [show ((0 + 1 : Nat) : Int) = (m0 : Int) + 1 by rw [hm0.out]; rfl]; exact B6.setAt ((m0 : Int) + 1), by rw [HV.out.2]; show World.ownsRow _ _ _ _ _ _ (outsV (kend s p d) 0 i ++ [.int .u8 (byteAt (kperm 12 u) 0)]); have h9 := HB.out; rw [hm0.out] at h9; rw [h9]; exact ownsRow_touch hown6 (Touch.set _ _ _ _) hbg, by simpa [World.setCell] using hg6⟩
        case measure => simp [intOf]; omega
      · have hm2 : (m : Int) ≠ 168 := by omega
        have hm3 : ((m : Int) == 168) = false := by simp [hm2]
        have HN : Hid (norm u m = u ∧ normA m = m) := Lib.hid ⟨if_neg hm168, if_neg hm168⟩
        have hin := hin0
        go_upto_region 11 with (fail)
        clear ca fa
        obtain ⟨q, hq, hq25⟩ : ∃ q, m / 8 = q ∧ q < 25 := ⟨_, rfl, by omega⟩
        obtain ⟨r, hr, hr8⟩ : ∃ r, m % 8 = r ∧ r < 8 := ⟨_, rfl, by omega⟩
        obtain ⟨z, hz, hz56⟩ : ∃ z, 8 * r = z ∧ z ≤ 56 := ⟨_, rfl, by omega⟩
        have e1 : (m : Int).tdiv 8 = (q : Int) := by rw [Int.tdiv_eq_ediv_of_nonneg (by omega)]; omega
        have e1' : (m : Int) / 8 = (q : Int) := by omega
        have e2 : (m : Int).tmod 8 = (r : Int) := by rw [Int.tmod_eq_emod_of_nonneg (by omega)]; omega
        have e2' : (m : Int) % 8 = (r : Int) := by omega
        have e3 : 8 * (r : Int) = (z : Int) := by omega
        have w1 : IntKind.i64.wrap (q : Int) = (q : Int) := IntWalk.i64_in _ (by omega)
        have w2 : IntKind.i64.wrap (z : Int) = (z : Int) := IntWalk.i64_in _ (by omega)
        have z1 : (0 : Int) ≤ (q : Int) := by omega
        have z2 : (q : Int) < 25 := by omega
        have z3 : (0 : Int) ≤ (z : Int) := by omega
        have z4 : (z : Int) ≤ 64 := by omega
        have cl := B.lane (by omega) hq25
        have ca := B.sat
        have HB : Hid (byteAt u m = IntKind.u8.wrap (u q / 2 ^ z)) := Lib.hid (by unfold byteAt; rw [hq, hr, hz, wrap_u8])
        obtain ⟨x0, hx0, hx0a, hx0b⟩ : ∃ x0, u q = x0 ∧ 0 ≤ x0 ∧ x0 ≤ 18446744073709551615 := ⟨_, rfl, by have := hin q hq25; unfold in64 at this; omega, by have := hin q hq25; unfold in64 at this; omega⟩
        rw [hx0] at cl HB
        clear hx0 hq hr hz
        refine wp_region_marks_in (fun _ => oneMean 5 #[.int .u8 (IntKind.u8.wrap (x0 / 2 ^ z))]) 20 (by kernel_rfl) (by kernel_rfl) (fun k0 => ?_)
        simp only [List.take_succ_cons, List.take_zero, List.drop_succ_cons, List.drop_zero]
        repeat (first
          | (refine marks_ex rfl rfl (by kernel_rfl) ?_; apply Exists.intro; refine And.intro (fun w' hk => ?_) (And.intro ?_ ?_); (focus (have q0 := hk.cell cl; have q1 := hk.cell ca; clear hk; go_simp; exact rfl)); (focus (exact rfl)); simp only [Act.put, List.setIfInBounds_toArray, List.set_cons_zero, List.set_cons_succ]))
        refine marks_lay 0 rfl rfl (by kernel_rfl) (fun w' hk => ?_) ?_
        · refine ⟨_, _, by go_simp, (Kept.refl w').alloc _, ⟨_, rfl, Blk.new _ _ _⟩⟩
        simp only [Act.put, List.setIfInBounds_toArray, List.set_cons_zero, List.set_cons_succ]
        refine marks_nil ?_
        intro a'' W5 hkW5 hra
        obtain ⟨mb, hmb, rfl⟩ := hra.mark1 57 0 (by kernel_rfl) rfl
        simp only [Act.put, List.setIfInBounds_toArray, List.set_cons_zero, List.set_cons_succ]
        clear hra
        obtain ⟨nb, rfl, Bn⟩ := hmb
        have k5 := k.later hkW5
        have B5 := B.kept hkW5
        have hown5 := ownsRow_kept hown hkW5
        have hg5 : g ≤ W5.heap.size := Nat.le_trans hgW hkW5.size
        clear ca cl hkW5 k B hown
        go_wp2_with (at_builtin; refine wpList_append_at 42 5 info5 Try.underlying42 rfl (by decide) hown5 nb 0 1 1 [.int .u8 (IntKind.u8.wrap (x0 / 2 ^ z))] rfl (by intro u hu; simp at hu; subst hu; rfl) (by intro j u hj; rw [Nat.zero_add]; exact Bn.cell j (by simpa using hj)) (by omega) (by decide) (by decide) hg5 (.tmp 38) (.tmp 57) rfl rfl rfl rfl ?_; intro v' w1 hown6 hgrow hne; have k6 := k5.grown hown5 hgrow (by omega); have B6 := grown_blk B5 hown5 hgrow (by omega); have hg6 : g ≤ w1.heap.size := Nat.le_trans hg5 hgrow.size; clear hown5 hgrow k5 B5 Bn hg5; have ca := B6.sat; have fa := B6.free; have w5 : IntKind.i64.wrap ((m : Int) + 1) = (m : Int) + 1 := IntWalk.i64_in _ (by omega))
        go_roundw
        case rel => exact ⟨i + 1, by omega, by go_num, k6.trans (Touch.set _ _ _ _), by rw [HV.out.1, HN.out.1, HN.out.2]; exact B6.setAt _, by rw [HV.out.2, HN.out.1, HN.out.2, HB.out]; exact ownsRow_touch hown6 (Touch.set _ _ _ _) hbg, by simpa [World.setCell] using hg6⟩
        case measure => simp [intOf]; omega
    · have yi : 65536 ≤ (i : Int) := by omega
      obtain rfl : i = 65536 := by omega
      go_wp2_with fail
      go_ret
      exact ⟨_, rfl, k, B, ownsRow_base hown hwg⟩
end Go.Proofs.Ytnajihlhcdedgaa
